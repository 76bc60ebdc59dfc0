/-
  Sets of numbers: gaps, counts, lengths (plain part).
-/
import Derived.Test.YtbkpapdbidbhaaaSpan2
import Derived.Test.YtbkpapdbidbhaaaSpan5
namespace Go.Proofs.Ytbkpapdbidbhaaa
open Go.RowKit

theorem norm_len {E : Int} : ∀ (L : List Pr) (lo : Int), NormL E L → (∀ x ∈ L, lo ≤ x.1) → lo ≤ E → (L.length : Int) ≤ E - lo
  | [], lo, _, _, h => by simp; omega
  | r :: L, lo, h, hlo, hE => by
    obtain ⟨h1, h2, h3, h4, h5⟩ := h.cons
    have := norm_len L r.2 h1 (fun x hx => by have := h2 x hx; omega) (by omega)
    have h6 := hlo r (by simp)
    simp only [List.length_cons]
    omega
theorem NormL.few {E : Int} {L : List Pr} (h : NormL E L) (hE : 0 ≤ E) : (L.length : Int) ≤ E := by
  have := norm_len L 0 h (fun x hx => (h.run x hx).1) hE
  omega
theorem NormL.up {E F : Int} {L : List Pr} (h : NormL E L) (hE : E ≤ F) : NormL F L := ⟨h.asc, fun r hr => by have := h.run r hr; omega⟩

theorem gap_go (E t : Int) : ∀ (L : List Pr) (s : GapS), NormL E L → (∀ x ∈ gapEnd t (L.foldl (gapStep t) s), x ∈ s.out ∨ (s.f ≤ x.1 ∧ x.1 < x.2 ∧ x.2 ≤ t)) ∧
    ∀ n, InL (gapEnd t (L.foldl (gapStep t) s)) n ↔ InL s.out n ∨ (s.f ≤ n ∧ n < t ∧ ¬ InL L n) := by
  intro L
  induction L with
  | nil =>
    intro s _
    rw [List.foldl_nil]
    unfold gapEnd
    refine ⟨fun x hx => ?_, fun n => ?_⟩
    · rcases List.mem_append.1 hx with hx | hx
      · exact .inl hx
      · split at hx
        · simp only [List.mem_singleton] at hx
          subst hx
          exact .inr ⟨Int.le_refl _, by assumption, Int.le_refl _⟩
        · cases hx
    · rw [inl_append]
      constructor
      · rintro (h | ⟨x, hx, h⟩)
        · exact .inl h
        · split at hx
          · simp only [List.mem_singleton] at hx
            subst hx
            exact .inr ⟨h.1, h.2, inl_nil _⟩
          · cases hx
      · rintro (h | ⟨h1, h2, _⟩)
        · exact .inl h
        · refine .inr ⟨(s.f, t), ?_, h1, h2⟩
          rw [if_pos (by omega)]; simp
  | cons r L ih =>
    intro s hL
    obtain ⟨hL0, hL1, hr0, hr1, hr2⟩ := hL.cons
    rw [List.foldl_cons]
    obtain ⟨g1, g2⟩ := ih (gapStep t s r) hL0
    have lo : ∀ n, InL L n → r.2 < n := fun n ⟨x, hx, h0, _⟩ => by have := hL1 x hx; omega
    refine ⟨fun x hx => ?_, fun n => ?_⟩
    · rcases g1 x hx with h | ⟨h1, h2, h3⟩
      · unfold gapStep at h
        rcases List.mem_append.1 h with h | h
        · exact .inl h
        · split at h
          · simp only [List.mem_singleton] at h
            subst h
            refine .inr ⟨Int.le_refl _, by assumption, by dsimp only; omega⟩
          · cases h
      · unfold gapStep at h1
        dsimp only at h1
        exact .inr ⟨by omega, h2, h3⟩
    · rw [g2, inl_cons]
      unfold gapStep
      dsimp only
      rw [inl_append]
      constructor
      · rintro ((h | ⟨x, hx, h⟩) | ⟨h1, h2, h3⟩)
        · exact .inl h
        · split at hx
          · simp only [List.mem_singleton] at hx
            subst hx
            dsimp only at h
            refine .inr ⟨by omega, by omega, ?_⟩
            rintro (hh | hh)
            · omega
            · have := lo n hh; omega
          · cases hx
        · refine .inr ⟨by omega, h2, ?_⟩
          rintro (hh | hh)
          · omega
          · exact h3 hh
      · rintro (h | ⟨h1, h2, h3⟩)
        · exact .inl (.inl h)
        · have h4 : ¬ InL L n := fun hh => h3 (.inr hh)
          have h5 : ¬ (r.1 ≤ n ∧ n < r.2) := fun hh => h3 (.inl hh)
          by_cases hc : n < r.1
          · refine .inl (.inr ⟨(s.f, min r.1 t), ?_, h1, by dsimp only; omega⟩)
            rw [if_pos (by omega)]; simp
          · exact .inr ⟨by omega, h2, h4⟩

theorem gap_in {E : Int} {L : List Pr} (h : NormL E L) (f t : Int) : (∀ x ∈ gapL L f t, f ≤ x.1 ∧ x.1 < x.2 ∧ x.2 ≤ t) ∧ ∀ n, InL (gapL L f t) n ↔ f ≤ n ∧ n < t ∧ ¬ InL L n := by
  obtain ⟨g1, g2⟩ := gap_go E t L ⟨[], f⟩ h
  refine ⟨fun x hx => ?_, fun n => ?_⟩
  · rcases g1 x hx with h | h
    · cases h
    · exact h
  · rw [gapL, g2]
    constructor
    · rintro (h | h)
      · exact absurd h (inl_nil _)
      · exact h
    · exact .inr
theorem gap_all {E : Int} {L : List Pr} (h : NormL E L) {f t : Int} (ha : ∀ n, f ≤ n → n < t → InL L n) : (gapL L f t).isEmpty = true := by
  obtain ⟨g1, g2⟩ := gap_in h f t
  rw [List.isEmpty_iff]
  apply List.eq_nil_iff_forall_not_mem.2
  intro x hx
  have h1 := g1 x hx
  have h2 := (g2 x.1).1 ⟨x, hx, by omega, by omega⟩
  exact h2.2.2 (ha _ h2.1 h2.2.1)

theorem bringS_id {n : Int} (h0 : 0 ≤ n) (h1 : n ≤ EndS) : bringS n = n := by unfold bringS; omega
theorem addS_in {E : Int} {L : List Pr} (h : NormL E L) (hE : E ≤ EndS) {f t : Int} (h0 : 0 ≤ f) (ht : t ≤ E) (hf : f ≤ E) (ht0 : 0 ≤ t) : NormL E (addS L f t) ∧ ∀ n, InL (addS L f t) n ↔ InL L n ∨ (f ≤ n ∧ n < t) := by
  unfold addS
  rw [bringS_id h0 (by omega), bringS_id ht0 (by omega)]
  split
  · exact add_norm h h0 (by assumption) ht
  · exact ⟨h, fun n => ⟨.inl, fun hh => hh.elim id (fun hh => by omega)⟩⟩
theorem dropS_in {E : Int} {L : List Pr} (h : NormL E L) (hE : E ≤ EndS) {f t : Int} (h0 : 0 ≤ f) (ht : t ≤ E) (hf : f ≤ E) (ht0 : 0 ≤ t) : NormL E (dropS L f t) ∧ ∀ n, InL (dropS L f t) n ↔ InL L n ∧ ¬ (f ≤ n ∧ n < t) := by
  unfold dropS
  rw [bringS_id h0 (by omega), bringS_id ht0 (by omega)]
  split
  · obtain ⟨g1, _, g3⟩ := drop_norm (by assumption) L h
    exact ⟨g1, g3⟩
  · exact ⟨h, fun n => ⟨fun hh => ⟨hh, fun x => by omega⟩, fun hh => hh.1⟩⟩
/-! How many numbers. -/
def cB (p : Nat → Bool) : Nat → Nat
  | 0 => 0
  | k + 1 => cB p k + (if p k = true then 1 else 0)
theorem cB_le (p : Nat → Bool) : ∀ k, cB p k ≤ k
  | 0 => Nat.le_refl _
  | k + 1 => by have := cB_le p k; rw [cB]; split <;> omega
theorem cB_congr {p q : Nat → Bool} : ∀ k, (∀ n, n < k → p n = q n) → cB p k = cB q k
  | 0, _ => rfl
  | k + 1, h => by rw [cB, cB, cB_congr k (fun n hn => h n (by omega)), h k (by omega)]
theorem cB_or {p q : Nat → Bool} : ∀ k, (∀ n, n < k → ¬ (p n = true ∧ q n = true)) → cB (fun n => p n || q n) k = cB p k + cB q k
  | 0, _ => rfl
  | k + 1, h => by
    rw [cB, cB, cB, cB_or k (fun n hn => h n (by omega))]
    have := h k (by omega)
    cases hp : p k <;> cases hq : q k <;> simp [hp, hq] at this ⊢ <;> omega
theorem cB_run (a b : Nat) : ∀ k, cB (fun n => decide (a ≤ n) && decide (n < b)) k = min b k - min a k
  | 0 => by simp [cB]
  | k + 1 => by
    rw [cB, cB_run a b k]
    by_cases h1 : a ≤ k <;> by_cases h2 : k < b <;> simp [h1, h2] <;> omega
theorem hasB_nil (n : Nat) : ([] : List Pr).any (hasP n) = false := rfl
/-- The count of a set is the count of its numbers. -/
theorem count_is {E : Nat} : ∀ (L : List Pr), NormL (E : Int) L → countL L = (cB (fun n => L.any (hasP (n : Int))) E : Nat)
  | [], _ => by
    have : ∀ k, cB (fun n => ([] : List Pr).any (hasP (n : Int))) k = 0 := fun k => by
      induction k with
      | zero => rfl
      | succ k ih => rw [cB, ih]; simp
    rw [this]; rfl
  | r :: L, h => by
    obtain ⟨hL0, hL1, hr0, hr1, hr2⟩ := h.cons
    obtain ⟨a, ha⟩ := Int.eq_ofNat_of_zero_le hr0
    obtain ⟨b, hb⟩ := Int.eq_ofNat_of_zero_le (show 0 ≤ r.2 by omega)
    have e1 : cB (fun n => (r :: L).any (hasP (n : Int))) E = cB (fun n => (decide (a ≤ n) && decide (n < b)) || L.any (hasP (n : Int))) E := by
      apply cB_congr
      intro n _
      rw [List.any_cons]
      congr 1
      unfold hasP
      rw [ha, hb]
      simp only [Int.ofNat_le, Int.ofNat_lt]
    rw [e1, cB_or E (fun n _ hh => ?_), cB_run, count_cons, count_is L hL0, Nat.min_eq_left (by omega), Nat.min_eq_left (by omega)]
    · omega
    · obtain ⟨h1, h2⟩ := hh
      obtain ⟨x, hx, h3, h4⟩ := (has_iff L n).1 h2
      have := hL1 x hx
      simp only [Bool.and_eq_true, decide_eq_true_eq] at h1
      omega
/-- What the gaps add. -/
theorem cB_fill (p : Nat → Bool) (a : Nat) (m : Nat) : ∀ k, cB (fun n => p n || (decide (a ≤ n) && decide (n < a + m))) k + (cB p (min (a + m) k) - cB p (min a k)) = cB p k + (min (a + m) k - min a k) ∧ cB p (min a k) ≤ cB p (min (a + m) k)
  | 0 => by simp [cB]
  | k + 1 => by
    obtain ⟨ih1, ih2⟩ := cB_fill p a m k
    by_cases h1 : k < a
    · rw [Nat.min_eq_right (show k + 1 ≤ a + m by omega), Nat.min_eq_right (show k + 1 ≤ a by omega)]
      rw [Nat.min_eq_right (show k ≤ a + m by omega), Nat.min_eq_right (show k ≤ a by omega)] at ih1
      refine ⟨?_, Nat.le_refl _⟩
      rw [cB, cB]
      have : decide (a ≤ k) = false := by simp; omega
      rw [this, Bool.false_and, Bool.or_false]
      omega
    · by_cases h2 : k < a + m
      · rw [Nat.min_eq_right (show k + 1 ≤ a + m by omega), Nat.min_eq_left (show a ≤ k + 1 by omega)]
        rw [Nat.min_eq_right (show k ≤ a + m by omega), Nat.min_eq_left (show a ≤ k by omega)] at ih1 ih2
        rw [cB, cB]
        have e1 : decide (a ≤ k) = true := by simp; omega
        have e2 : decide (k < a + m) = true := by simp; omega
        rw [e1, e2, Bool.and_self, Bool.or_true]
        constructor
        · simp only [if_true]
          split <;> omega
        · omega
      · rw [Nat.min_eq_left (show a + m ≤ k + 1 by omega), Nat.min_eq_left (show a ≤ k + 1 by omega)]
        rw [Nat.min_eq_left (show a + m ≤ k by omega), Nat.min_eq_left (show a ≤ k by omega)] at ih1 ih2
        refine ⟨?_, ih2⟩
        rw [cB, cB]
        have : decide (k < a + m) = false := by simp; omega
        rw [this, Bool.and_false, Bool.or_false]
        omega
theorem cB_from (p : Nat → Bool) (a : Nat) : ∀ m, cB p (a + m) = cB p a + cB (fun n => p (a + n)) m
  | 0 => by simp [cB]
  | m + 1 => by rw [← Nat.add_assoc, cB, cB, cB_from p a m, Nat.add_assoc]
end Go.Proofs.Ytbkpapdbidbhaaa

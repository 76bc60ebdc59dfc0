/-
  recv.Stream: what Take takes (plain).
-/
import Derived.Test.YtbkpapdbidbhaaaRecv2
namespace Go.Proofs.Ytbkpapdbidbhaaa
open Go.RowKit

theorem norm_two {E : Int} : ∀ {L : List Pr}, NormL E L → ∀ a ∈ L, ∀ b ∈ L, a = b ∨ a.2 < b.1 ∨ b.2 < a.1
  | [], _, a, ha, _, _ => by cases ha
  | r :: L, h, a, ha, b, hb => by
    obtain ⟨h1, h2, _⟩ := h.cons
    rcases List.mem_cons.1 ha with e1 | ha'
    · rcases List.mem_cons.1 hb with e2 | hb'
      · exact .inl (e1.trans e2.symm)
      · subst e1
        exact .inr (.inl (h2 b hb'))
    · rcases List.mem_cons.1 hb with e2 | hb'
      · subst e2
        exact .inr (.inr (h2 a ha'))
      · exact norm_two h1 a ha' b hb'
theorem first_spec {E : Int} {L : List Pr} (h : NormL E L) (n : Int) : n ≤ firstL L n ∧ (∀ j, n ≤ j → j < firstL L n → InL L j) ∧ ¬ InL L (firstL L n) := by
  unfold firstL
  cases hf : L.find? (hasP n) with
  | none =>
    refine ⟨Int.le_refl _, fun j h1 h2 => by simp at h2; omega, fun ⟨r, hr, h1, h2⟩ => ?_⟩
    have := List.find?_eq_none.1 hf r hr
    simp only [Option.map_none, Option.getD_none] at h1 h2
    exact this (by simp [hasP, h1, h2])
  | some r =>
    have hm := List.mem_of_find?_eq_some hf
    have hp := List.find?_some hf
    simp [hasP] at hp
    simp only [Option.map_some, Option.getD_some]
    refine ⟨by omega, fun j h1 h2 => ⟨r, hm, by omega, h2⟩, fun ⟨q, hq, h1, h2⟩ => ?_⟩
    have hr0 := h.run r hm
    have hq0 := h.run q hq
    rcases norm_two h r hm q hq with rfl | h3 | h3 <;> omega
/-- How far Take goes. -/
def farN (s : RS) : Nat := if s.broken = true then min (firstL s.L s.taken).toNat (max s.sure s.taken) else (firstL s.L s.taken).toNat
def mostN (most : Int) : Nat := (max 0 (min most 1048576)).toNat
def toN (s : RS) (most : Int) : Nat := min (farN s) (s.taken + mostN most)
def takeS (s : RS) (t : Nat) : RS := { s with rd := t, taken := t }
theorem far_le {s : RS} (h : s.Ok) : s.taken ≤ farN s ∧ farN s ≤ s.d.length := by
  obtain ⟨h1, h2, _⟩ := first_spec h.norm (s.taken : Int)
  have h3 : firstL s.L s.taken ≤ (s.d.length : Int) := by
    by_cases e : (s.taken : Int) < firstL s.L s.taken
    · have := h.cov _ (h2 (firstL s.L s.taken - 1) (by omega) (by omega))
      omega
    · have := h.taken
      omega
  unfold farN
  split <;> omega
theorem to_le {s : RS} (h : s.Ok) (most : Int) : s.taken ≤ toN s most ∧ toN s most ≤ s.d.length := by
  have := far_le h
  unfold toN
  omega
theorem takeS_ok {s : RS} (h : s.Ok) (t : Nat) (ht : t ≤ s.d.length) : (takeS s t).Ok := ⟨h.norm, h.dl, rfl, h.told, ht, h.top, h.en, h.code, h.sure, h.cov, h.lf⟩
end Go.Proofs.Ytbkpapdbidbhaaa

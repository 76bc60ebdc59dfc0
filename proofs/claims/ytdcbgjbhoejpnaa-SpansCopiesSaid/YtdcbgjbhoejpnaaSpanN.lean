/-
  Sets in a law: unions, drops, lists of runs; regions that draw and change one set.
-/
import Derived.Test.YtdcbgjbhoejpnaaSpanM
namespace Go.Proofs.Ytdcbgjbhoejpnaa
open Go.RowKit

theorem src_formS {w : World} {sz m : Nat} {v : Value} {xs : List Value} (h : Src w sz v m xs) : ∃ A c, v = .slice A m c := by
  rcases h.2.2 with ⟨h1, h2⟩ | ⟨a, c, h1, _⟩
  · exact ⟨none, 0, by rw [h1, h2]⟩
  · exact ⟨_, _, h1⟩
theorem list_of {α : Type} (P : Nat → α → Prop) : ∀ (n : Nat), (∀ j, j < n → ∃ r, P j r) → ∃ R : List α, R.length = n ∧ ∀ j r, R[j]? = some r → P j r
  | 0, _ => ⟨[], rfl, fun j r h => by simp at h⟩
  | n + 1, h => by
    obtain ⟨R, hl, hR⟩ := list_of P n (fun j hj => h j (by omega))
    obtain ⟨r, hr⟩ := h n (by omega)
    refine ⟨R ++ [r], by simp [hl], fun j x hx => ?_⟩
    by_cases hj : j < R.length
    · rw [List.getElem?_append_left hj] at hx
      exact hR j x hx
    · rw [List.getElem?_append_right (by omega)] at hx
      by_cases hj2 : j - R.length = 0
      · rw [hj2] at hx
        simp at hx
        subst hx
        rw [show j = n by omega]
        exact hr
      · rw [List.getElem?_eq_none (by simp; omega)] at hx
        cases hx
theorem inl_snoc {R : List Pr} {i : Nat} {r : Pr} (h : R[i]? = some r) (n : Int) : InL (R.take (i + 1)) n ↔ InL (R.take i) n ∨ (r.1 ≤ n ∧ n < r.2) := by
  rw [takeP h, inl_append, inl_cons]
  constructor
  · rintro (h | h | h)
    · exact .inl h
    · exact .inr h
    · exact absurd h (inl_nil _)
  · rintro (h | h)
    · exact .inl h
    · exact .inr (.inl h)
theorem kkA {w w' : World} {P : Nat → Prop} {b : Nat} {x y : Value} (hb : b < w.heap.size) (hn : ¬ P b) (c1 : w.cell? ⟨b, 1, none⟩ = some x) (c2 : w.cell? ⟨b, 2, none⟩ = some y) (h : Kp P w w') :
    w'.cell? ⟨b, 1, none⟩ = some x ∧ w'.cell? ⟨b, 2, none⟩ = some y ∧ Kp P w w' :=
  ⟨by rw [h.cell (p := ⟨b, 1, none⟩) hb hn]; exact c1, by rw [h.cell (p := ⟨b, 2, none⟩) hb hn]; exact c2, h⟩
/-- A set changed alone: what it holds then. -/
def Chg (w w' : World) (s E : Nat) (P : Int → Prop) : Prop := ∃ L', HasSet w' s L' ∧ NormL (E : Int) L' ∧ (∀ n, InL L' n ↔ P n) ∧ Kp (fun k => k = s) w w'
theorem g_add {w : World} {s E : Nat} {L : List Pr} (h : HasSet w s L) (hN : NormL (E : Int) L) (hE : E ≤ 1000000) (f t : Nat) (hf : f ≤ E) (ht : t ≤ E) :
    Calls Try.prog 15 #[.pointer (some ⟨s, 0, none⟩), .int .i64 (f : Int), .int .i64 (t : Int)] w fun e w' => e = .returned (.tuple #[]) ∧ Chg w w' s E (fun n => InL L n ∨ ((f : Int) ≤ n ∧ n < t)) :=
  f_addN h hN hE f t hf ht
theorem g_drop {w : World} {s E : Nat} {L : List Pr} (h : HasSet w s L) (hN : NormL (E : Int) L) (hE : E ≤ 1000000) (f t : Nat) (hf : f ≤ E) (ht : t ≤ E) :
    Calls Try.prog 16 #[.pointer (some ⟨s, 0, none⟩), .int .i64 (f : Int), .int .i64 (t : Int)] w fun e w' => e = .returned (.tuple #[]) ∧ Chg w w' s E (fun n => InL L n ∧ ¬ ((f : Int) ≤ n ∧ n < t)) :=
  f_dropN h hN hE f t hf ht
theorem g_dropI {w : World} {s E : Nat} {L : List Pr} (h : HasSet w s L) (hN : NormL (E : Int) L) (hE : E ≤ 1000000) (f t : Int) (hf0 : 0 ≤ f) (hf : f ≤ E) (ht0 : 0 ≤ t) (ht : t ≤ E) :
    Calls Try.prog 16 #[.pointer (some ⟨s, 0, none⟩), .int .i64 f, .int .i64 t] w fun e w' => e = .returned (.tuple #[]) ∧ Chg w w' s E (fun n => InL L n ∧ ¬ (f ≤ n ∧ n < t)) := by
  obtain ⟨a, rfl⟩ := Int.eq_ofNat_of_zero_le hf0
  obtain ⟨b, rfl⟩ := Int.eq_ofNat_of_zero_le ht0
  exact g_drop h hN hE a b (by omega) (by omega)
theorem g_addI {w : World} {s E : Nat} {L : List Pr} (h : HasSet w s L) (hN : NormL (E : Int) L) (hE : E ≤ 1000000) (f t : Int) (hf0 : 0 ≤ f) (hf : f ≤ E) (ht0 : 0 ≤ t) (ht : t ≤ E) :
    Calls Try.prog 15 #[.pointer (some ⟨s, 0, none⟩), .int .i64 f, .int .i64 t] w fun e w' => e = .returned (.tuple #[]) ∧ Chg w w' s E (fun n => InL L n ∨ (f ≤ n ∧ n < t)) := by
  obtain ⟨a, rfl⟩ := Int.eq_ofNat_of_zero_le hf0
  obtain ⟨b, rfl⟩ := Int.eq_ofNat_of_zero_le ht0
  exact g_add h hN hE a b (by omega) (by omega)
theorem Chg.kp {w w' : World} {s E : Nat} {P : Int → Prop} (h : Chg w w' s E P) : Kp (fun k => k = s) w w' := by obtain ⟨_, _, _, _, h⟩ := h; exact h
theorem Chg.drew {w w' : World} {s E : Nat} {P : Int → Prop} (h : Chg w.drew w' s E P) : Chg w w' s E P := by
  obtain ⟨L', h1, h2, h3, h4⟩ := h
  exact ⟨L', h1, h2, h3, ((Kp.refl _ w).drew).trans h4⟩
theorem un_two {E : Nat} {L M : List Pr} (hE : E ≤ 1000000) (hL : NormL (E : Int) L) (hM : NormL (E : Int) M) : NormL (E : Int) (unL [L, M]) ∧ ∀ n, InL (unL [L, M]) n ↔ InL L n ∨ InL M n := by
  obtain ⟨g1, g2⟩ := addP_in (E := (E : Int)) (by unfold EndS; omega) (by omega) L [] (NormL.nil _) (fun x hx => by have := hL.run x hx; omega)
  obtain ⟨k1, k2⟩ := addP_in (E := (E : Int)) (by unfold EndS; omega) (by omega) M (L.foldl addP []) g1 (fun x hx => by have := hM.run x hx; omega)
  refine ⟨k1, fun n => ?_⟩
  show InL (M.foldl addP (L.foldl addP [])) n ↔ _
  rw [k2, g2]
  exact ⟨fun h => h.elim (fun h => h.elim (fun h => absurd h (inl_nil _)) .inl) .inr, fun h => h.elim (fun h => .inl (.inr h)) .inr⟩
/-- Union of two. -/
theorem union2 {w : World} {b E : Nat} {A3 A4 : Option Addr} {l3 l4 c3 c4 : Nat} {L M : List Pr} (h : Whole w b 27 #[.slice A3 l3 c3, .slice A4 l4 c4])
    (h3 : Src w 2 (.slice A3 l3 c3) L.length (encs encP L)) (h4 : Src w 2 (.slice A4 l4 c4) M.length (encs encP M)) (hE : E ≤ 1000) (hL : NormL (E : Int) L) (hM : NormL (E : Int) M) :
    Calls Try.prog 14 #[.slice (some ⟨b, 0, none⟩) 2 2] w fun e w' => ∃ A l c U, e = .returned (.agg #[.slice A l c]) ∧ Src w' 2 (.slice A l c) U.length (encs encP U) ∧ NormL (E : Int) U ∧ (∀ n, InL U n ↔ InL L n ∨ InL M n) ∧ (∀ k, (Value.slice A l c).ownBlock = some k → w.heap.size ≤ k) ∧ Kp (fun _ => False) w w' := by
  have f3 := hL.few (by omega)
  have f4 := hM.few (by omega)
  obtain ⟨u1, u2⟩ := un_two (E := E) (by omega) hL hM
  refine (s_union (cap := 2) (vs := [.slice A3 l3 c3, .slice A4 l4 c4]) (Ls := [L, M]) (srcW _ h rfl ?_) rfl ?_ (by simp; omega) (by simp)).mono ?_
  · intro u hu
    simp only [List.mem_cons, List.not_mem_nil, or_false] at hu
    rcases hu with rfl | rfl <;> rfl
  · intro j u K hu hK
    rcases j with _ | _ | j
    · cases hu; cases hK; exact h3
    · cases hu; cases hK; exact h4
    · simp at hu
  · rintro e w' ⟨v, rfl, h1, h2, hk⟩
    obtain ⟨A, c, rfl⟩ := src_formS h1
    exact ⟨A, _, c, _, rfl, h1, u1, u2, h2, hk⟩
/-- The same runs. -/
theorem same_yes {w : World} {Aa Ab : Option Addr} {la lb ca cb : Nat} {M : List Pr} (ha : Src w 2 (.slice Aa la ca) M.length (encs encP M)) (hb : Src w 2 (.slice Ab lb cb) M.length (encs encP M)) (hm : M.length ≤ 1000000) :
    Calls Try.prog 18 #[.slice Aa la ca, .slice Ab lb cb] w fun e w' => e = .returned (.bool true) ∧ Kp (fun _ => False) w w' := by
  obtain ⟨A1, c1, h1⟩ := src_formS ha
  obtain ⟨A2, c2, h2⟩ := src_formS hb
  cases h1
  cases h2
  have := same_c ha hb (by omega) (by omega)
  rw [decide_eq_true rfl] at this
  exact this
theorem rot_all {R : List Pr} {len k : Nat} (hR : R.length = len) (n : Int) : (∃ j, j < len ∧ ∃ r, R[(j + k) % len]? = some r ∧ r.1 ≤ n ∧ n < r.2) ↔ InL R n := by
  constructor
  · rintro ⟨j, hj, r, hr, h⟩
    exact ⟨r, List.mem_of_getElem? hr, h⟩
  · rintro ⟨r, hr, h⟩
    obtain ⟨m, hm⟩ := List.mem_iff_getElem?.1 hr
    have hml := (List.getElem?_eq_some_iff.1 hm).1
    rw [hR] at hml
    have hk := Nat.mod_lt k (show 0 < len by omega)
    have hdm := Nat.div_add_mod k len
    refine ⟨(m + (len - k % len)) % len, Nat.mod_lt _ (by omega), r, ?_, h⟩
    have e : ((m + (len - k % len)) % len + k) % len = m := by
      rw [Nat.mod_add_mod, show m + (len - k % len) + k = m + len * (k / len + 1) by rw [Nat.mul_add, Nat.mul_one]; omega, Nat.add_mul_mod_self_left, Nat.mod_eq_of_lt hml]
    rw [e]
    exact hm
end Go.Proofs.Ytdcbgjbhoejpnaa

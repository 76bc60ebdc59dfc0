/-
  Sets in a law: what each holds, told by its numbers; the raw calls.
-/
import Derived.Test.YtdcbgjbhoejpnaaSpanL
import Derived.Test.YtdcbgjbhoejpnaaArgs
namespace Go.Proofs.Ytdcbgjbhoejpnaa
open Go.RowKit

theorem rawS_rd {W : World} {v : Value} (h : SlArg 23 W v) : RdSl W 24 [RdI, RdI, RdI] v := by
  have hB : Try.prog.bytesOf 33 = 24 := by kernel_rfl
  rw [← hB]
  refine h.rd Try.underlying23 fun H enc => fieldSlS Try.underlying23 Try.underlying33 (by kernel_rfl) (by kernel_rfl) (by decide) rfl ?_
  intro j f q hf hq
  match j with
  | 0 => simp at hf hq; subst hf hq; exact fieldI Try.underlying3
  | 1 => simp at hf hq; subst hf hq; exact fieldI Try.underlying3
  | 2 => simp at hf hq; subst hf hq; exact fieldI Try.underlying3
  | j + 3 => simp at hf

theorem pick_nat (n m : Int) (w : World) (hm : 1 ≤ m) (hm2 : m ≤ 1152921504606846976) :
    Calls Try.prog 11 #[.int .i64 n, .int .i64 m] w fun e w' => ∃ q : Nat, (q : Int) < m ∧ e = .returned (.int .i64 (q : Int)) ∧ w = w' := by
  refine (pick_any n m w hm hm2).mono ?_
  rintro e w' ⟨rfl, rfl⟩
  obtain ⟨q, hq⟩ := Int.eq_ofNat_of_zero_le (pickF_lo n m hm)
  exact ⟨q, by have := pickF_hi n m hm; omega, by rw [hq], rfl⟩

def bools (bs : List Bool) : Array Value := (bs.map Value.bool).toArray
theorem bools_get (bs : List Bool) (i : Nat) : (bools bs)[i]? = (bs[i]?).map Value.bool := by simp [bools]
theorem bools_set (bs : List Bool) (i : Nat) (x : Bool) : (bools bs).setIfInBounds i (.bool x) = bools (bs.set i x) := by
  unfold bools
  rw [List.map_set]
  simp

theorem f_addN {w : World} {s E : Nat} {L : List Pr} (h : HasSet w s L) (hN : NormL (E : Int) L) (hE : E ≤ 1000000) (f t : Nat) (hf : f ≤ E) (ht : t ≤ E) :
    Calls Try.prog 15 #[.pointer (some ⟨s, 0, none⟩), .int .i64 (f : Int), .int .i64 (t : Int)] w fun e w' => e = .returned (.tuple #[]) ∧ ∃ L', HasSet w' s L' ∧ NormL (E : Int) L' ∧ (∀ n, InL L' n ↔ InL L n ∨ ((f : Int) ≤ n ∧ n < t)) ∧ Kp (fun k => k = s) w w' := by
  have hl := hN.few (by omega)
  refine (f_add h (by omega) f t).mono ?_
  rintro e w' ⟨rfl, h', hk⟩
  obtain ⟨g1, g2⟩ := addS_in hN (by unfold EndS; omega) (f := f) (t := t) (by omega) (by omega) (by omega) (by omega)
  exact ⟨rfl, _, h', g1, g2, hk⟩
theorem f_dropN {w : World} {s E : Nat} {L : List Pr} (h : HasSet w s L) (hN : NormL (E : Int) L) (hE : E ≤ 1000000) (f t : Nat) (hf : f ≤ E) (ht : t ≤ E) :
    Calls Try.prog 16 #[.pointer (some ⟨s, 0, none⟩), .int .i64 (f : Int), .int .i64 (t : Int)] w fun e w' => e = .returned (.tuple #[]) ∧ ∃ L', HasSet w' s L' ∧ NormL (E : Int) L' ∧ (∀ n, InL L' n ↔ InL L n ∧ ¬ ((f : Int) ≤ n ∧ n < t)) ∧ Kp (fun k => k = s) w w' := by
  have hl := hN.few (by omega)
  refine (f_drop h (by omega) f t).mono ?_
  rintro e w' ⟨rfl, h', hk⟩
  obtain ⟨g1, g2⟩ := dropS_in hN (by unfold EndS; omega) (f := f) (t := t) (by omega) (by omega) (by omega) (by omega)
  exact ⟨rfl, _, h', g1, g2, hk⟩
/-- The set's number n: b. -/
theorem f_hasN {w : World} {s E : Nat} {L : List Pr} (h : HasSet w s L) (hN : NormL (E : Int) L) (hE : E ≤ 1000000) (n : Int) (b : Bool) (hb : InL L n ↔ b = true) :
    Calls Try.prog 19 #[.pointer (some ⟨s, 0, none⟩), .int .i64 n] w fun e w' => e = .returned (.bool b) ∧ Kp (fun _ => False) w w' := by
  have hl := hN.few (by omega)
  have e1 : L.any (hasP n) = b := by rw [Bool.eq_iff_iff, has_iff]; exact hb
  rw [← e1]
  exact f_has h (by omega) n
theorem norm_next {E : Int} {L : List Pr} (h : NormL E L) {i : Nat} {p r : Pr} (hp : L[i]? = some p) (hr : L[i + 1]? = some r) : p.2 < r.1 := by
  obtain ⟨h1, e1⟩ := List.getElem?_eq_some_iff.1 hp
  obtain ⟨h2, e2⟩ := List.getElem?_eq_some_iff.1 hr
  have := (List.pairwise_iff_getElem.1 h.asc) i (i + 1) h1 h2 (by omega)
  rw [e1, e2] at this
  exact this
theorem HasSet.setB {w : World} {s ib : Nat} {L : List Pr} {bs : List Bool} {t : TypeId} (h : HasSet w s L) (hb : Whole w ib t (bools bs)) (hne : s ≠ ib) (i : Nat) (u : Value) : HasSet (w.setCell ⟨ib, i, none⟩ u) s L :=
  h.tr ((Kp.refl (fun k => k = ib) w).set (.inl rfl) u) hne (fun k e => .inl (by obtain rfl : k = ib := e; exact ⟨_, _, hb, noPair_bools _⟩))
end Go.Proofs.Ytdcbgjbhoejpnaa

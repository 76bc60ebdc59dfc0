/-
  argosyref7.Recv: Put.
-/
import Derived.Test.YtbkpapdbidbhaaaRfLay
namespace Go.Proofs.Ytbkpapdbidbhaaa
open Go.RowKit

set_option maxRecDepth 100000 in
set_option maxHeartbeats 2000000 in
theorem q_put_err {w : World} {g : Nat} {v bv : Value} {s : RS} {ov : Nat} {B : List UInt8} (h : RfAt w g v bv s ov B) (off : Int) (l0 : -9223372036854775808 ≤ off) (h0 : off ≤ 9223372036854775807) (fin : Bool) (A : Option Addr) (m c : Nat) (hm : m ≤ 4611686018427387904) (er : Nat) (he : putErr s off fin m = er) (hne : er ≠ 0) :
    Calls Try.prog 28 #[.pointer (some ⟨g, 0, none⟩), .int .i64 off, .bool fin, .slice A m c] w fun e w' => e = .returned (.tuple #[.int .i64 0, .int .i64 (er : Int)]) ∧ w = w' := by
  obtain ⟨_, _, _, c3, _, c5, c6, _⟩ := h.all
  unfold endI at c6
  have hl := h.cell.lt
  have hwr : IntKind.i64.wrap (4611686018427387903 - (m : Int)) = 4611686018427387903 - (m : Int) := IntWalk.i64_in _ (by omega)
  unfold putErr at he
  generalize s.told = told at *
  generalize s.top = top at *
  generalize s.en = en at *
  generalize s.ended = ended at *
  clear h
  by_cases e1 : off < 0
  · rw [if_pos (.inl e1)] at he
    subst he
    go_enter Try.func28, Try.ntmps28
    go_wp2_with fail
    go_ret2
    exact ⟨rfl, rfl⟩
  by_cases e2 : 4611686018427387903 - (m : Int) < off
  · rw [if_pos (.inr e2)] at he
    subst he
    go_enter Try.func28, Try.ntmps28
    go_wp2_with fail
    go_ret2
    exact ⟨rfl, rfl⟩
  rw [if_neg (fun h => h.elim e1 e2)] at he
  have hwt : IntKind.i64.wrap (off + (m : Int)) = off + (m : Int) := IntWalk.i64_in _ (by omega)
  by_cases e3 : (told : Int) < off + m
  · rw [if_pos e3] at he
    subst he
    go_enter Try.func28, Try.ntmps28
    go_wp2_with fail
    go_ret2
    exact ⟨rfl, rfl⟩
  rw [if_neg e3] at he
  by_cases e4 : (ended = true ∧ (en : Int) < off + m) ∨ (fin = true ∧ ended = true ∧ off + m ≠ en) ∨ (fin = true ∧ off + m < top)
  · rw [if_pos e4] at he
    subst he
    cases ended with
    | true =>
      rw [if_pos rfl] at c6
      by_cases a1 : (en : Int) < off + m
      · go_enter Try.func28, Try.ntmps28
        go_wp2_with fail
        go_ret2
        exact ⟨rfl, rfl⟩
      · cases fin with
        | false => simp at e4; omega
        | true =>
          by_cases a2 : off + (m : Int) = en
          · have a3 : off + (m : Int) < top := by simp at e4; omega
            have b2 : (off + (m : Int) != (en : Int)) = false := by simp [a2]
            go_enter Try.func28, Try.ntmps28
            go_wp2_with fail
            go_ret2
            exact ⟨rfl, rfl⟩
          · have b2 : (off + (m : Int) != (en : Int)) = true := by simp [a2]
            go_enter Try.func28, Try.ntmps28
            go_wp2_with fail
            go_ret2
            exact ⟨rfl, rfl⟩
    | false =>
      rw [if_neg (by simp)] at c6
      cases fin with
      | false => simp at e4
      | true =>
        have a3 : off + (m : Int) < top := by simp at e4; omega
        go_enter Try.func28, Try.ntmps28
        go_wp2_with fail
        go_ret2
        exact ⟨rfl, rfl⟩
  · rw [if_neg e4] at he
    omega
section
variable {w w' w5 : World} {g : Nat} {v bv : Value} {s : RS} {ov : Nat} {B : List UInt8}
theorem layB_get {B : List UInt8} {a : Nat} {c : UInt8} (j : Nat) : (layB B a c)[j]? = if j = a then some c else if j < B.length then B[j]? else if j < a + 1 then some 0 else none := by
  unfold layB
  rw [List.getElem?_set]
  have hl : (B ++ zeros (a + 1 - B.length)).length = max B.length (a + 1) := by simp [zeros]; omega
  by_cases e : a = j
  · subst e
    rw [if_pos rfl, if_pos (by omega), if_pos rfl]
  · rw [if_neg e, if_neg (fun h => e h.symm)]
    by_cases h1 : j < B.length
    · rw [if_pos h1, List.getElem?_append_left h1]
    · rw [if_neg h1]
      by_cases h2 : j < a + 1
      · rw [if_pos h2, List.getElem?_append_right (by omega)]
        unfold zeros
        rw [List.getElem?_replicate, if_pos (by omega)]
      · rw [if_neg h2, List.getElem?_eq_none (by omega)]
theorem layB_len {B : List UInt8} {a : Nat} {c : UInt8} : (layB B a c).length = max B.length (a + 1) := by
  unfold layB
  rw [List.length_set]
  simp [zeros]
  omega
/-- The bytes that came, so far. -/
structure PutI (s : RS) (o : Nat) (p B0 B : List UInt8) (i : Nat) : Prop where
  old : ∀ j : Nat, InL s.L (j : Int) → B[j]? = s.d[j]?
  new : ∀ j : Nat, o ≤ j → j < o + i → ¬ InL s.L (j : Int) → B[j]? = p[j - o]?
  len : B.length ≤ max B0.length (o + p.length)
theorem puti_skip {o : Nat} {p B0 : List UInt8} {i : Nat} (h : PutI s o p B0 B i) (hi : InL s.L ((o + i : Nat) : Int)) : PutI s o p B0 B (i + 1) :=
  ⟨h.old, fun j h1 h2 h3 => h.new j h1 (by
    by_cases e : j = o + i
    · subst e; exact absurd hi h3
    · omega) h3, h.len⟩
theorem puti_lay (hok : s.Ok) {o : Nat} {p B0 : List UInt8} {i : Nat} (h : PutI s o p B0 B i) (hip : i < p.length) (hn : ¬ InL s.L ((o + i : Nat) : Int)) {c : UInt8} (hc : p[i]? = some c) : PutI s o p B0 (layB B (o + i) c) (i + 1) := by
  refine ⟨fun j hj => ?_, fun j h1 h2 h3 => ?_, ?_⟩
  · have hd := hok.cov _ hj
    have hb := h.old j hj
    rw [layB_get, if_neg (show ¬ j = o + i from fun e => hn (by rw [← e]; exact hj))]
    by_cases hl : j < B.length
    · rw [if_pos hl]; exact hb
    · rw [List.getElem?_eq_none (by omega), List.getElem?_eq_getElem (by omega)] at hb
      cases hb
  · rw [layB_get]
    by_cases e : j = o + i
    · rw [if_pos e, e, ← hc]
      congr 1
      omega
    · rw [if_neg e]
      have hb := h.new j h1 (by omega) h3
      by_cases hl : j < B.length
      · rw [if_pos hl]; exact hb
      · rw [List.getElem?_eq_none (by omega), List.getElem?_eq_getElem (by omega)] at hb
        cases hb
  · rw [layB_len]
    have := h.len
    omega
theorem puti_end (hok : s.Ok) {o : Nat} {fin : Bool} {p B0 : List UInt8} (hto : o + p.length ≤ 225000000000000) (h : PutI s o p B0 B p.length) : ∀ j : Nat, InL (putS s o fin p).L (j : Int) → B[j]? = (putS s o fin p).d[j]? := by
  intro j hj
  rw [putS_get hok hto]
  by_cases e : InL s.L (j : Int)
  · have hd := hok.cov _ e
    rw [if_neg (fun hh => hh.2.2 e), growD_get (by omega)]
    exact h.old j e
  · have h2 := ((putS_in hok hto (j : Int)).1 hj).resolve_left e
    rw [if_pos ⟨by omega, by omega, e⟩]
    exact h.new j (by omega) (by omega) e
/-- The set of it was turned. -/
theorem rf_set {v' : Value} {L' : List Pr} (h : RfAt w g v bv s ov B) (hset : SetIn w5 g 0 58 ((rfC v bv s ov).setIfInBounds 0 v') v' L') (hk : Kp (fun k => k = g) w w5) (hv : v' = v ∨ ∀ k, v'.ownBlock = some k → w.heap.size ≤ k) :
    RfAt w5 g v' bv { s with L := L' } ov B := by
  refine ⟨hset.cell, hset.src, h.row.kp hk (fun k hk' => (h.far2 k hk').2), fun hL k hk' => ?_, fun k hk' => ⟨Nat.lt_of_lt_of_le (h.far2 k hk').1 hk.size, (h.far2 k hk').2⟩⟩
  have hg := h.cell.lt
  rcases hv with rfl | hv
  · have hlen : L'.length = s.L.length := by
      rcases h.src.2.2 with ⟨a1, a2⟩ | ⟨a, c, a1, _⟩ <;> rcases hset.src.2.2 with ⟨b1, b2⟩ | ⟨a', c', b1, _⟩
      · omega
      · rw [a1] at b1; cases b1
      · rw [a1] at b1; cases b1
      · rw [a1] at b1
        simp only [Value.slice.injEq] at b1
        omega
    have hL0 : s.L ≠ [] := fun e => hL (List.eq_nil_of_length_eq_zero (by rw [hlen, e]; rfl))
    have := h.far1 hL0 k hk'
    exact ⟨Nat.lt_of_lt_of_le this.1 hk.size, this.2⟩
  · have h1 := hv k hk'
    have hpos : 0 < L'.length := List.length_pos_iff.2 hL
    obtain ⟨b, off, c', hvv, hb, _⟩ := Src.wide hset.src hpos (by omega)
    rw [hvv] at hk'
    obtain rfl : b = k := Option.some.inj hk'
    exact ⟨hb, by omega, fun e => by have := (h.far2 b e).1; omega⟩
end
end Go.Proofs.Ytbkpapdbidbhaaa

/-
  recv.Stream: Put, refused.
-/
import Derived.Test.YtbkpapdbidbhaaaRecv2
namespace Go.Proofs.Ytbkpapdbidbhaaa
open Go.RowKit

/-- What Put tells to be wrong: nothing (0), the argument (1), the limit (7), the end (8). -/
def putErr (s : RS) (off : Int) (fin : Bool) (m : Nat) : Nat :=
  if off < 0 ∨ 4611686018427387903 - (m : Int) < off then 1 else if (s.told : Int) < off + m then 7 else
  if (s.ended = true ∧ (s.en : Int) < off + m) ∨ (fin = true ∧ s.ended = true ∧ off + m ≠ s.en) ∨ (fin = true ∧ off + m < s.top) then 8 else 0

set_option maxRecDepth 100000 in
set_option maxHeartbeats 2000000 in
theorem put_err {w : World} {g : Nat} {id : Int} {v bv : Value} {s : RS} (h : StAt w g id v bv s) (off : Int) (l0 : -9223372036854775808 ≤ off) (h0 : off ≤ 9223372036854775807) (fin : Bool) (A : Option Addr) (m c : Nat) (hm : m ≤ 4611686018427387904) (er : Nat) (he : putErr s off fin m = er) (hne : er ≠ 0) :
    Calls Try.prog 13 #[.pointer (some ⟨g, 0, none⟩), .int .i64 off, .bool fin, .slice A m c] w fun e w' => e = .returned (.tuple #[.int .i64 0, .int .i64 (er : Int)]) ∧ w = w' := by
  obtain ⟨_, _, _, c3, _, _, c6, _, c8, _, c10, _, _⟩ := h.all
  have hl := h.cell.lt
  have hwr : IntKind.i64.wrap (4611686018427387903 - (m : Int)) = 4611686018427387903 - (m : Int) := IntWalk.i64_in _ (by omega)
  unfold putErr at he
  generalize s.told = told at *
  generalize s.top = top at *
  generalize s.en = en at *
  generalize s.ended = ended at *
  clear h
  by_cases e1 : off < 0
  · rw [if_pos (.inl e1)] at he
    subst he
    go_enter Try.func13, Try.ntmps13
    go_wp2_with fail
    go_ret2
    exact ⟨rfl, rfl⟩
  by_cases e2 : 4611686018427387903 - (m : Int) < off
  · rw [if_pos (.inr e2)] at he
    subst he
    go_enter Try.func13, Try.ntmps13
    go_wp2_with fail
    go_ret2
    exact ⟨rfl, rfl⟩
  rw [if_neg (fun h => h.elim e1 e2)] at he
  have hwt : IntKind.i64.wrap (off + (m : Int)) = off + (m : Int) := IntWalk.i64_in _ (by omega)
  by_cases e3 : (told : Int) < off + m
  · rw [if_pos e3] at he
    subst he
    go_enter Try.func13, Try.ntmps13
    go_wp2_with fail
    go_ret2
    exact ⟨rfl, rfl⟩
  rw [if_neg e3] at he
  by_cases e4 : (ended = true ∧ (en : Int) < off + m) ∨ (fin = true ∧ ended = true ∧ off + m ≠ en) ∨ (fin = true ∧ off + m < top)
  · rw [if_pos e4] at he
    subst he
    cases ended with
    | true =>
      by_cases a1 : (en : Int) < off + m
      · go_enter Try.func13, Try.ntmps13
        go_wp2_with fail
        go_ret2
        exact ⟨rfl, rfl⟩
      · cases fin with
        | false => simp at e4; omega
        | true =>
          by_cases a2 : off + (m : Int) = en
          · have a3 : off + (m : Int) < top := by simp at e4; omega
            have b2 : (off + (m : Int) != (en : Int)) = false := by simp [a2]
            go_enter Try.func13, Try.ntmps13
            go_wp2_with fail
            go_ret2
            exact ⟨rfl, rfl⟩
          · have b2 : (off + (m : Int) != (en : Int)) = true := by simp [a2]
            go_enter Try.func13, Try.ntmps13
            go_wp2_with fail
            go_ret2
            exact ⟨rfl, rfl⟩
    | false =>
      cases fin with
      | false => simp at e4
      | true =>
        have a3 : off + (m : Int) < top := by simp at e4; omega
        go_enter Try.func13, Try.ntmps13
        go_wp2_with fail
        go_ret2
        exact ⟨rfl, rfl⟩
  · rw [if_neg e4] at he
    omega
end Go.Proofs.Ytbkpapdbidbhaaa

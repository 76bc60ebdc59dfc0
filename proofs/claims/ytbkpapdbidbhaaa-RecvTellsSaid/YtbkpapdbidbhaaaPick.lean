/-
  'argosyhand.Pick', and what its answer is: a number from 0 to m - 1.
-/
import Derived.Test.YtbkpapdbidbhaaaBase
namespace Go.Proofs.Ytbkpapdbidbhaaa
open Go.RowKit

def pickF (n m : Int) : Int := if n.tmod m < 0 then n.tmod m + m else n.tmod m

theorem pickF_lo (n m : Int) (hm : 1 ≤ m) : 0 ≤ pickF n m := by
  have h1 := Int.lt_tmod_of_pos n (b := m) (by omega)
  unfold pickF; split <;> omega
theorem pickF_hi (n m : Int) (hm : 1 ≤ m) : pickF n m < m := by
  have h2 : n.tmod m < m := Int.tmod_lt_of_pos n (by omega)
  unfold pickF; split <;> omega

set_option maxHeartbeats 400000 in
theorem pick_any (n m : Int) (w : World) (hm : 1 ≤ m) (hm2 : m ≤ 1152921504606846976) :
    Calls Try.prog 12 #[.int .i64 n, .int .i64 m] w fun e w' => e = .returned (.int .i64 (pickF n m)) ∧ w = w' := by
  have h1 : -m < n.tmod m := by have := Int.lt_tmod_of_pos n (b := m) (by omega); omega
  have h2 : n.tmod m < m := Int.tmod_lt_of_pos n (by omega)
  have hz : (m == 0) = false := by simp; omega
  by_cases h : n.tmod m < 0
  · go_enter Try.func12, Try.ntmps12
    go_wp2
    go_ret
    exact ⟨by simp [pickF, h], rfl⟩
  · go_enter Try.func12, Try.ntmps12
    go_wp2
    go_ret
    exact ⟨by rw [pickF, if_neg (by omega)]; rfl, rfl⟩
end Go.Proofs.Ytbkpapdbidbhaaa

/-
  Chapter 12's closed sentences.
-/
import Derived.Test.YtklcmaaoomfkiaaCredit
namespace Go.Proofs.Ytklcmaaoomfkiaa
open Go.RowKit

def knownG (w : World) : World := (w.alloc (.cells #[.int .i64 10, .int .i64 0, .int .i64 10] 41)).alloc (.cells #[.int .i64 10, .int .i64 5, .int .i64 15] 41)

set_option maxHeartbeats 1000000 in
set_option maxRecDepth 100000 in
theorem gknown_any (w : World) : Calls Try.prog 30 #[] w fun e w' => e = .returned (.bool true) ∧ ∃ d, w' = (knownG w).drewN d := by
  go_enter Try.func30, Try.ntmps30
  go_wp2_with fail
  refine (newGrant_any 10 _).mono ?_
  rw [show roomF 10 = 10 from rfl]
  rintro e w' ⟨rfl, rfl⟩
  go_wp2_with fail
  refine (due_any (M := 10) (R := 0) (T := 10) (by simp [go_sem]) (by simp [go_sem]) (by simp [go_sem]) (by omega) (by omega) (by omega) (by omega) (by omega) (by omega)).mono ?_
  rw [show dueB 10 0 10 = false from rfl]
  rintro e w' ⟨rfl, d1, rfl⟩
  go_wp2_with fail
  refine (eat_any (R := 0) (by simp [go_sem]) (by simp [go_sem]) (by omega) (by omega) 5).mono ?_
  rw [show (0 : Int) + eatF 5 = 5 from rfl]
  rintro e w' ⟨rfl, d2, rfl⟩
  go_wp2_with fail
  refine (due_any (M := 10) (R := 5) (T := 10) (by simp [go_sem]) (by simp [go_sem]) (by simp [go_sem]) (by omega) (by omega) (by omega) (by omega) (by omega) (by omega)).mono ?_
  rw [show dueB 10 5 10 = true from rfl]
  rintro e w' ⟨rfl, d3, rfl⟩
  go_wp2_with fail
  refine (tell_any (M := 10) (R := 5) (T := 10) (by simp [go_sem]) (by simp [go_sem]) (by simp [go_sem]) (by simp [go_sem]) (by omega) (by omega) (by omega) (by omega) (by omega) (by omega)).mono ?_
  rw [show tellF 10 5 10 = 15 from rfl]
  rintro e w' ⟨rfl, d4, rfl⟩
  go_wp2_with fail
  go_ret
  exact ⟨rfl, _, rfl⟩

set_option maxHeartbeats 4000000 in
set_option maxRecDepth 100000 in
theorem CreditKnown_any (W : World) : Calls Try.prog 7 #[] W fun e w' => e = .returned (.bool true) ∧ Below W.heap.size W w' := by
  go_enter Try.func7, Try.ntmps7
  go_wp2_with fail
  refine (use_any (L := 5) (U := 0) (by simp [go_sem]) (by simp [go_sem]) (by simp [go_sem]) (by omega) (by omega) (by omega) (by omega) (6)).mono ?_
  rw [show useB 5 0 (6) = false from rfl, show (if (false : Bool) = true then (0 : Int) + (6) else 0) = 0 from rfl]
  rintro e w' ⟨rfl, d, rfl⟩
  go_wp2_with fail
  refine (use_any (L := 5) (U := 0) (by simp [go_sem]) (by simp [go_sem]) (by simp [go_sem]) (by omega) (by omega) (by omega) (by omega) (-1)).mono ?_
  rw [show useB 5 0 (-1) = false from rfl, show (if (false : Bool) = true then (0 : Int) + (-1) else 0) = 0 from rfl]
  rintro e w' ⟨rfl, d, rfl⟩
  go_wp2_with fail
  refine (use_any (L := 5) (U := 0) (by simp [go_sem]) (by simp [go_sem]) (by simp [go_sem]) (by omega) (by omega) (by omega) (by omega) (5)).mono ?_
  rw [show useB 5 0 (5) = true from rfl, show (if (true : Bool) = true then (0 : Int) + (5) else 0) = 5 from rfl]
  rintro e w' ⟨rfl, d, rfl⟩
  go_wp2_with fail
  refine (use_any (L := 5) (U := 5) (by simp [go_sem]) (by simp [go_sem]) (by simp [go_sem]) (by omega) (by omega) (by omega) (by omega) (0)).mono ?_
  rw [show useB 5 5 (0) = true from rfl, show (if (true : Bool) = true then (5 : Int) + (0) else 5) = 5 from rfl]
  rintro e w' ⟨rfl, d, rfl⟩
  go_wp2_with fail
  refine (raise_any (L := 5) (by simp [go_sem]) (by simp [go_sem]) 5).mono ?_
  rw [show raiseB 5 5 = false from rfl, show (if (false : Bool) = true then (5 : Int) else 5) = 5 from rfl]
  rintro e w' ⟨rfl, d, rfl⟩
  go_wp2_with fail
  refine (raise_any (L := 5) (by simp [go_sem]) (by simp [go_sem]) 4611686018427387904).mono ?_
  rw [show raiseB 5 4611686018427387904 = false from rfl, show (if (false : Bool) = true then (4611686018427387904 : Int) else 5) = 5 from rfl]
  rintro e w' ⟨rfl, d, rfl⟩
  go_wp2_with fail
  refine (raise_any (L := 5) (by simp [go_sem]) (by simp [go_sem]) 9).mono ?_
  rw [show raiseB 5 9 = true from rfl, show (if (true : Bool) = true then (9 : Int) else 5) = 9 from rfl]
  rintro e w' ⟨rfl, d, rfl⟩
  go_wp2_with fail
  refine (newGrant_any (-4) _).mono ?_
  rw [show roomF (-4) = 1 from rfl]
  rintro e w' ⟨rfl, rfl⟩
  go_wp2_with fail
  refine (eat_any (R := 0) (by simp [go_sem]) (by simp [go_sem]) (by omega) (by omega) (1)).mono ?_
  rw [show (0 : Int) + eatF (1) = 1 from rfl]
  rintro e w' ⟨rfl, d, rfl⟩
  go_wp2_with fail
  refine (due_any (M := 1) (R := 1) (T := 1) (by simp [go_sem]) (by simp [go_sem]) (by simp [go_sem]) (by omega) (by omega) (by omega) (by omega) (by omega) (by omega)).mono ?_
  rw [show dueB 1 1 1 = true from rfl]
  rintro e w' ⟨rfl, d, rfl⟩
  go_wp2_with fail
  refine (newGrant_any (1073741824) _).mono ?_
  rw [show roomF (1073741824) = 1048576 from rfl]
  rintro e w' ⟨rfl, rfl⟩
  go_wp2_with fail
  refine (eat_any (R := 0) (by simp [go_sem]) (by simp [go_sem]) (by omega) (by omega) (1099511627776)).mono ?_
  rw [show (0 : Int) + eatF (1099511627776) = 1048576 from rfl]
  rintro e w' ⟨rfl, d, rfl⟩
  go_wp2_with fail
  refine (eat_any (R := 1048576) (by simp [go_sem]) (by simp [go_sem]) (by omega) (by omega) (-7)).mono ?_
  rw [show (1048576 : Int) + eatF (-7) = 1048576 from rfl]
  rintro e w' ⟨rfl, d, rfl⟩
  go_wp2_with fail
  refine (gknown_any _).mono ?_
  unfold knownG
  rintro e w' ⟨rfl, d, rfl⟩
  go_wp2_with fail
  refine (left_any (L := 9) (U := 5) (by simp [go_sem]) (by simp [go_sem]) (by omega) (by omega) (by omega) (by omega)).mono ?_
  rw [show leftF 9 5 = 4 from rfl]
  rintro e w' ⟨rfl, d, rfl⟩
  go_wp2_with fail
  refine (left_any (L := 3) (U := 8) (by simp [go_sem]) (by simp [go_sem]) (by omega) (by omega) (by omega) (by omega)).mono ?_
  rw [show leftF 3 8 = 0 from rfl]
  rintro e w' ⟨rfl, d, rfl⟩
  go_wp2_with fail
  refine (use_any (L := 3) (U := 8) (by simp [go_sem]) (by simp [go_sem]) (by simp [go_sem]) (by omega) (by omega) (by omega) (by omega) (1)).mono ?_
  rw [show useB 3 8 (1) = false from rfl, show (if (false : Bool) = true then (8 : Int) + (1) else 8) = 8 from rfl]
  rintro e w' ⟨rfl, d, rfl⟩
  go_wp2_with fail
  refine (tell_any (M := 4) (R := 0) (T := 9) (by simp [go_sem]) (by simp [go_sem]) (by simp [go_sem]) (by simp [go_sem]) (by omega) (by omega) (by omega) (by omega) (by omega) (by omega)).mono ?_
  rw [show tellF 4 0 9 = 9 from rfl]
  rintro e w' ⟨rfl, d, rfl⟩
  go_wp2_with fail
  go_ret
  refine ⟨rfl, ?_⟩
  repeat (first | exact Below.refl _ _ | refine Below.alloc ?_ (by first | omega | (simp only [World.size_alloc]; omega)) _ | refine Below.drewN' ?_ _)
end Go.Proofs.Ytklcmaaoomfkiaa

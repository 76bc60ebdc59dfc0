/-
  Chapter 10's closed sentences: 'known' and 'CongKnown' return true.
-/
import Derived.Test.YtklcmaaoomfkiaaCong
namespace Go.Proofs.Ytklcmaaoomfkiaa
open Go.RowKit

set_option maxHeartbeats 400000 in
theorem cnew_any (w : World) :
    Calls Try.prog 15 #[] w fun e w' => e = .returned (.agg #[.int .i64 4, .int .i64 32, .int .i64 0, .int .i64 0]) ∧ w' = w.alloc (.cells #[.int .i64 4, .int .i64 32, .int .i64 0, .int .i64 0] 23) := by
  go_enter Try.func15, Try.ntmps15
  go_wp2
  exact bodyPost_ret (v := .agg #[.int .i64 4, .int .i64 32, .int .i64 0, .int .i64 0]) (by simp [results, Try.results15, go_sem]) rfl ⟨rfl, rfl⟩

theorem isW_mk {w : World} {b : Nat} {t : TypeId} {S L P T : Int} (h : Whole w b t #[.int .i64 S, .int .i64 L, .int .i64 P, .int .i64 T]) : IsW w b 0 ⟨S, L, P, T⟩ :=
  ⟨h.cell 0, h.cell 1, h.cell 2, h.cell 3, h.frozen 0, h.frozen 1, h.frozen 2, h.frozen 3⟩

theorem setW_whole {w : World} {b : Nat} {t : TypeId} {v0 v1 v2 v3 : Value} (h : Whole w b t #[v0, v1, v2, v3]) (s : W4) :
    Whole (setW w b 0 s) b t #[.int .i64 s.S, .int .i64 s.L, .int .i64 s.P, .int .i64 s.T] := by
  have := (((h.set 0 (.int .i64 s.S)).set 1 (.int .i64 s.L)).set 2 (.int .i64 s.P)).set 3 (.int .i64 s.T)
  simpa [setW] using this

attribute [local go_sem] setW

/-- The world behind 'known': three blocks more. -/
def knownW (w : World) : World := ((w.alloc (.cells #[.int .i64 4, .int .i64 32, .int .i64 0, .int .i64 0] 23)).alloc (.cells #[.int .i64 2, .int .i64 2, .int .i64 0, .int .i64 5] 23)).alloc (.cells #[.int .i64 4, .int .i64 32, .int .i64 0, .int .i64 0] 23)
theorem knownW_below (w : World) : Below w.heap.size w (knownW w) := by
  unfold knownW
  repeat (first | exact Below.refl _ _ | refine Below.alloc ?_ (by first | omega | (simp only [World.size_alloc]; omega)) _)

set_option maxHeartbeats 1000000 in
set_option maxRecDepth 100000 in
theorem cknown_any (w : World) : Calls Try.prog 18 #[] w fun e w' => e = .returned (.bool true) ∧ w' = knownW w := by
  have b1 : W4.bad ⟨4, 32, 0, 0⟩ 0 5 = ⟨2, 2, 0, 5⟩ := rfl
  go_enter Try.func18, Try.ntmps18
  go_wp2_with (first
    | (go_at_call 15; refine (cnew_any _).mono ?_; rintro e w' ⟨rfl, rfl⟩)
    | (go_at_call 17; refine (bad_any _ 0 ⟨4, 32, 0, 0⟩ 0 5 _ (by constructor <;> simp [go_sem]) (by simp [W4.Inv])).mono ?_; rw [b1]; rintro e w' ⟨rfl, rfl⟩)
    | (go_at_call 23; refine (fits_any _ 0 4 _ _ (by simp [go_sem])).mono ?_; rintro e w' ⟨rfl, rfl⟩))
  go_ret
  exact ⟨rfl, rfl⟩

set_option maxHeartbeats 1000000 in
set_option maxRecDepth 100000 in
theorem CongKnown_any (W : World) : Calls Try.prog 3 #[] W fun e w' => e = .returned (.bool true) ∧ Below W.heap.size W w' := by
  go_enter Try.func3, Try.ntmps3
  go_wp2_with (go_at_call 15; refine (cnew_any _).mono ?_; rintro e w' ⟨rfl, rfl⟩)
  refine (good_any _ 0 ⟨4, 32, 0, 0⟩ 40 _ (by constructor <;> simp [go_sem]) (by simp [W4.Inv]) (by omega) (by omega)).mono ?_; rw [show W4.good (Int.toNat 40) ⟨4, 32, 0, 0⟩ = ⟨32, 32, 12, 0⟩ from rfl]; rintro e w' ⟨rfl, d, rfl⟩
  go_wp2_with fail
  refine (bad_any _ 0 ⟨32, 32, 12, 0⟩ 7 9 _ (by constructor <;> simp [go_sem]) (by simp [W4.Inv])).mono ?_; rw [show W4.bad ⟨32, 32, 12, 0⟩ 7 9 = ⟨16, 16, 0, 9⟩ from rfl]; rintro e w' ⟨rfl, rfl⟩
  go_wp2_with fail
  refine (bad_any _ 0 ⟨16, 16, 0, 9⟩ 8 30 _ (by constructor <;> simp [go_sem]) (by simp [W4.Inv])).mono ?_; rw [show W4.bad ⟨16, 16, 0, 9⟩ 8 30 = ⟨16, 16, 0, 9⟩ from rfl]; rintro e w' ⟨rfl, rfl⟩
  go_wp2_with fail
  refine (good_any _ 0 ⟨16, 16, 0, 9⟩ 15 _ (by constructor <;> simp [go_sem]) (by simp [W4.Inv]) (by omega) (by omega)).mono ?_; rw [show W4.good (Int.toNat 15) ⟨16, 16, 0, 9⟩ = ⟨16, 16, 15, 9⟩ from rfl]; rintro e w' ⟨rfl, d, rfl⟩
  go_wp2_with fail
  refine (good_any _ 0 ⟨16, 16, 15, 9⟩ 1 _ (by constructor <;> simp [go_sem]) (by simp [W4.Inv]) (by omega) (by omega)).mono ?_; rw [show W4.good (Int.toNat 1) ⟨16, 16, 15, 9⟩ = ⟨17, 16, 0, 9⟩ from rfl]; rintro e w' ⟨rfl, d, rfl⟩
  go_wp2_with fail
  refine (bad_any _ 0 ⟨17, 16, 0, 9⟩ 9 40 _ (by constructor <;> simp [go_sem]) (by simp [W4.Inv])).mono ?_; rw [show W4.bad ⟨17, 16, 0, 9⟩ 9 40 = ⟨8, 8, 0, 40⟩ from rfl]; rintro e w' ⟨rfl, rfl⟩
  go_wp2_with fail
  refine (good_any _ 0 ⟨8, 8, 0, 40⟩ (-3) _ (by constructor <;> simp [go_sem]) (by simp [W4.Inv]) (by omega) (by omega)).mono ?_; rw [show W4.good (Int.toNat (-3)) ⟨8, 8, 0, 40⟩ = ⟨8, 8, 0, 40⟩ from rfl]; rintro e w' ⟨rfl, d, rfl⟩
  go_wp2_with fail
  refine (cknown_any _).mono ?_
  rintro e w1 ⟨rfl, rfl⟩
  unfold knownW
  go_wp2
  go_ret
  refine ⟨rfl, ?_⟩
  repeat (first | exact Below.refl _ _ | refine Below.alloc ?_ (by first | omega | (simp only [World.size_alloc]; omega)) _ | refine Below.drewN' ?_ _)
end Go.Proofs.Ytklcmaaoomfkiaa

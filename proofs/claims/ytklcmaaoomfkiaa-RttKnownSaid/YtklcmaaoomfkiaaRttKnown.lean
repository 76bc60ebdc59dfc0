/-
  The walk of 'RttKnown'.
-/
import Derived.Test.YtklcmaaoomfkiaaRttLaw
namespace Go.Proofs.Ytklcmaaoomfkiaa
open Go.RowKit

attribute [local go_sem] setR knownR

theorem inv_mk {S V B : Int} {m : Bool} (h1 : 8 ≤ S) (h2 : S ≤ 8000) (h3 : 0 ≤ V) (h4 : V ≤ 8000) : R4.Inv ⟨S, V, B, m⟩ :=
  ⟨by dsimp only; omega, h2, h3, h4, fun _ => h1⟩

set_option maxHeartbeats 4000000 in
set_option maxRecDepth 100000 in
theorem RttKnown_any (W : World) : Calls Try.prog 10 #[] W fun e w' => e = .returned (.bool true) ∧ Below W.heap.size W w' := by
  have hz1 : R4.Inv ⟨0, 0, 1, false⟩ := by refine ⟨?_, ?_, ?_, ?_, fun h => by cases h⟩ <;> decide
  go_enter Try.func10, Try.ntmps10
  go_wp2_with fail
  refine (wait_any (r := ⟨0, 0, 1, false⟩) (by constructor <;> simp [go_sem]) hz1).mono ?_
  rw [show R4.wait ⟨0, 0, 1, false⟩ = 16 from rfl]
  rintro e w' ⟨rfl, d, rfl⟩
  go_wp2_with fail
  refine (sample_any (r := ⟨0, 0, 1, false⟩) (by constructor <;> simp [go_sem]) hz1 (3)).mono ?_
  rw [show R4.sample ⟨0, 0, 1, false⟩ (3) = ⟨24, 6, 0, true⟩ from rfl]
  rintro e w' ⟨rfl, d, rfl⟩
  go_wp2_with fail
  refine (sample_any (r := ⟨24, 6, 0, true⟩) (by constructor <;> simp [go_sem]) (inv_mk (by omega) (by omega) (by omega) (by omega)) (11)).mono ?_
  rw [show R4.sample ⟨24, 6, 0, true⟩ (11) = ⟨32, 13, 0, true⟩ from rfl]
  rintro e w' ⟨rfl, d, rfl⟩
  go_wp2_with fail
  refine (wait_any (r := ⟨32, 13, 3, true⟩) (by constructor <;> simp [go_sem]) (inv_mk (by omega) (by omega) (by omega) (by omega))).mono ?_
  rw [show R4.wait ⟨32, 13, 3, true⟩ = 32 from rfl]
  rintro e w' ⟨rfl, d, rfl⟩
  go_wp2_with fail
  refine (wait_any (r := ⟨32, 13, 99, true⟩) (by constructor <;> simp [go_sem]) (inv_mk (by omega) (by omega) (by omega) (by omega))).mono ?_
  rw [show R4.wait ⟨32, 13, 99, true⟩ = 32 from rfl]
  rintro e w' ⟨rfl, d, rfl⟩
  go_wp2_with fail
  refine (sample_any (r := ⟨0, 0, 0, false⟩) (by constructor <;> simp [go_sem]) zero_inv (-5)).mono ?_
  rw [show R4.sample ⟨0, 0, 0, false⟩ (-5) = ⟨8, 2, 0, true⟩ from rfl]
  rintro e w' ⟨rfl, d, rfl⟩
  go_wp2_with fail
  refine (sample_any (r := ⟨0, 0, 0, false⟩) (by constructor <;> simp [go_sem]) zero_inv (5000)).mono ?_
  rw [show R4.sample ⟨0, 0, 0, false⟩ (5000) = ⟨8000, 2000, 0, true⟩ from rfl]
  rintro e w' ⟨rfl, d, rfl⟩
  go_wp2_with fail
  refine (rknown_any _).mono ?_
  rintro e w' ⟨rfl, d, rfl⟩
  go_wp2_with fail
  refine (wait_any (r := ⟨24, 6, 0, true⟩) (by constructor <;> simp [go_sem]) (inv_mk (by omega) (by omega) (by omega) (by omega))).mono ?_
  rw [show R4.wait ⟨24, 6, 0, true⟩ = 9 from rfl]
  rintro e w' ⟨rfl, d, rfl⟩
  go_wp2_with fail
  refine (round_any (r := ⟨32, 13, 0, true⟩) (by constructor <;> simp [go_sem]) (inv_mk (by omega) (by omega) (by omega) (by omega))).mono ?_
  rw [show R4.round ⟨32, 13, 0, true⟩ = 4 from rfl]
  rintro e w' ⟨rfl, rfl⟩
  go_wp2_with fail
  refine (wait_any (r := ⟨32, 13, 0, true⟩) (by constructor <;> simp [go_sem]) (inv_mk (by omega) (by omega) (by omega) (by omega))).mono ?_
  rw [show R4.wait ⟨32, 13, 0, true⟩ = 17 from rfl]
  rintro e w' ⟨rfl, d, rfl⟩
  go_wp2_with fail
  refine (late_any (r := ⟨32, 13, 0, true⟩) (by constructor <;> simp [go_sem]) (inv_mk (by omega) (by omega) (by omega) (by omega))).mono ?_
  rw [show R4.late ⟨32, 13, 0, true⟩ = 5 from rfl]
  rintro e w' ⟨rfl, rfl⟩
  go_wp2_with fail
  refine (round_any (r := ⟨8, 2, 0, true⟩) (by constructor <;> simp [go_sem]) (inv_mk (by omega) (by omega) (by omega) (by omega))).mono ?_
  rw [show R4.round ⟨8, 2, 0, true⟩ = 1 from rfl]
  rintro e w' ⟨rfl, rfl⟩
  go_wp2_with fail
  refine (late_any (r := ⟨8, 2, 0, true⟩) (by constructor <;> simp [go_sem]) (inv_mk (by omega) (by omega) (by omega) (by omega))).mono ?_
  rw [show R4.late ⟨8, 2, 0, true⟩ = 2 from rfl]
  rintro e w' ⟨rfl, rfl⟩
  go_wp2_with fail
  refine (wait_any (r := ⟨8000, 2000, 0, true⟩) (by constructor <;> simp [go_sem]) (inv_mk (by omega) (by omega) (by omega) (by omega))).mono ?_
  rw [show R4.wait ⟨8000, 2000, 0, true⟩ = 32 from rfl]
  rintro e w' ⟨rfl, d, rfl⟩
  go_wp2_with fail
  go_ret
  refine ⟨rfl, ?_⟩
  repeat (first | exact Below.refl _ _ | refine Below.alloc ?_ (by first | omega | (simp only [World.size_alloc, World.heap_drewN]; omega)) _ | refine Below.drewN' ?_ _)
end Go.Proofs.Ytklcmaaoomfkiaa

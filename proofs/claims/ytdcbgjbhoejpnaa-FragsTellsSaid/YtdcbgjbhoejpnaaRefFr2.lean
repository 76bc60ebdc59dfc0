/-
  argosyref18's Whole: bounds, Full.
-/
import Derived.Test.YtdcbgjbhoejpnaaRefFr
namespace Go.Proofs.Ytdcbgjbhoejpnaa
open Go.RowKit

set_option maxRecDepth 100000 in
set_option maxHeartbeats 1000000 in
theorem rbounds_any (id dl ct : Int) (k n : Nat) (w : World) (hk : k ≤ 100) (hn : n ≤ 600) :
    Calls Try.prog 52 #[.agg #[.int .i64 id, .int .i64 dl, .int .i64 ct, .int .i64 (k : Int), .int .i64 (n : Int)]] w fun e w' => e = .returned (.tuple #[.int .i64 ((k * 80 : Nat) : Int), .int .i64 ((min (k * 80 + 80) n : Nat) : Int)]) ∧ Kp (fun _ => False) w w' := by
  have hw : Whole (w.alloc (.cells #[.int .i64 id, .int .i64 dl, .int .i64 ct, .int .i64 (k : Int), .int .i64 (n : Int)] 49)) w.heap.size 49 #[.int .i64 id, .int .i64 dl, .int .i64 ct, .int .i64 (k : Int), .int .i64 (n : Int)] := Whole.new _ _ _
  have hka : Kp (fun _ => False) w (w.alloc (.cells #[.int .i64 id, .int .i64 dl, .int .i64 ct, .int .i64 (k : Int), .int .i64 (n : Int)] 49)) := (Kp.refl _ w).alloc _
  obtain ⟨mn, hmn⟩ : ∃ mn : Nat, mn = min (k * 80 + 80) n := ⟨_, rfl⟩
  rw [← hmn]
  have hmn2 : (k * 80 + 80 ≤ n ∧ mn = k * 80 + 80) ∨ (n < k * 80 + 80 ∧ mn = n) := by omega
  clear hmn
  go_enter Try.func52, Try.ntmps52
  go_upto_region 1 with (fail)
  generalize w.alloc (.cells #[.int .i64 id, .int .i64 dl, .int .i64 ct, .int .i64 (k : Int), .int .i64 (n : Int)] 49) = w1 at *
  have hl := hw.lt
  have c3 := hw.cell 3
  have c4 := hw.cell 4
  simp at c3 c4
  have Hk := Lib.hid hka
  clear hw hka
  generalize w.heap.size = b at *
  have q1 : IntKind.i64.wrap ((k : Int) * 80) = (k : Int) * 80 := IntWalk.i64_in _ (by omega)
  have q2 : IntKind.i64.wrap ((k : Int) + 1) = (k : Int) + 1 := IntWalk.i64_in _ (by omega)
  have q3 : IntKind.i64.wrap (((k : Int) + 1) * 80) = ((k : Int) + 1) * 80 := IntWalk.i64_in _ (by omega)
  rcases hmn2 with ⟨h1, rfl⟩ | ⟨h1, rfl⟩
  · have t1 : ((k : Int) + 1) * 80 ≤ (n : Int) := by omega
    have t2 : ¬ (n : Int) < ((k : Int) + 1) * 80 := by omega
    by_cases t5 : (n : Int) ≤ ((k : Int) + 1) * 80
    · have t6 : (n : Int) = ((k * 80 + 80 : Nat) : Int) := by omega
      have t7 : ¬ ((k : Int) + 1) * 80 < (n : Int) := by omega
      go_quiet (fail)
      all_goals
        go_wp2_with fail
        go_ret2
        exact ⟨by first | rfl | (simp; done) | (simp; omega), by first | exact Hk.out.drewN _ | exact Hk.out.drew⟩
    · have t7 : ((k : Int) + 1) * 80 < (n : Int) := by omega
      go_quiet (fail)
      all_goals
        go_wp2_with fail
        go_ret2
        exact ⟨by first | rfl | (simp; done) | (simp; omega), by first | exact Hk.out.drewN _ | exact Hk.out.drew⟩
  · have t1 : (mn : Int) < ((k : Int) + 1) * 80 := by omega
    have t2 : ¬ ((k : Int) + 1) * 80 ≤ (mn : Int) := by omega
    have t3 : ¬ ((k : Int) + 1) * 80 < (mn : Int) := by omega
    go_quiet (fail)
    all_goals
      go_wp2_with fail
      go_ret2
      exact ⟨by first | rfl | (simp; done) | (simp; omega), by first | exact Hk.out.drewN _ | exact Hk.out.drew⟩
end Go.Proofs.Ytdcbgjbhoejpnaa

/-
  frags: Put of what does not fit.
-/
import Derived.Test.YtdcbgjbhoejpnaaFrag4
namespace Go.Proofs.Ytdcbgjbhoejpnaa
open Go.RowKit

set_option maxRecDepth 100000 in
set_option maxHeartbeats 4000000 in
theorem put_no {w : World} {g gb : Nat} {id dl ct : Int} {n : Nat} {v : Value} {L : List Pr} {d : List UInt8} (h : FrAt w g gb id dl ct n v L d) (id' dl' ct' ix' sz' : Int) (A : Option Addr) (m c : Nat) (hm6 : m ≤ 1000000)
    (hno : hdB id' dl' ct' 0 sz' id dl ct 0 (n : Int) = false ∨ (id' = id ∧ dl' = dl ∧ ct' = ct ∧ sz' = (n : Int) ∧ (ix' < 0 ∨ ct ≤ ix' ∨ (0 ≤ ix' ∧ ix' < ct ∧ (m : Int) ≠ min 80 ((n : Int) - 80 * ix'))))) :
    Calls Try.prog 28 #[.pointer (some ⟨g, 0, none⟩), .agg #[.int .i64 id', .int .i64 dl', .int .i64 ct', .int .i64 ix', .int .i64 sz'], .slice A m c] w fun e w' => e = .returned (.bool false) ∧ Kp (fun _ => False) w w' := by
  have hr := rightB_iff.1 h.right
  have hn : n ≤ 600 := by omega
  have hct := cnt_hi (sz := (n : Int)) (by omega)
  have hctv : ct = ((n : Int) + 79) / 80 := hr.2.2.2.2.2.2.1
  have hct8 : ct ≤ 8 := by omega
  have hw : Whole (w.alloc (.cells #[.int .i64 id', .int .i64 dl', .int .i64 ct', .int .i64 ix', .int .i64 sz'] 49)) w.heap.size 49 #[.int .i64 id', .int .i64 dl', .int .i64 ct', .int .i64 ix', .int .i64 sz'] := Whole.new _ _ _
  have hka : Kp (fun _ => False) w (w.alloc (.cells #[.int .i64 id', .int .i64 dl', .int .i64 ct', .int .i64 ix', .int .i64 sz'] 49)) := (Kp.refl _ w).alloc _
  have hc1 := hka.whole h.cell (fun h => h)
  have hgl := h.cell.lt
  have Hneq := Lib.hid (fun w => neq_hd w id' dl' ct' 0 sz' id dl ct 0 (n : Int))
  have Hno := Lib.hid hno
  have Hctv := Lib.hid hctv
  clear h hr hno hctv
  go_enter Try.func28, Try.ntmps28
  go_upto_region 1 with (fail)
  generalize w.alloc (.cells #[.int .i64 id', .int .i64 dl', .int .i64 ct', .int .i64 ix', .int .i64 sz'] 49) = w1 at *
  obtain ⟨bx, hbxx⟩ : ∃ b, b = w.heap.size := ⟨_, rfl⟩
  have hbg : g ≠ bx := by omega
  rw [← hbxx] at hw
  rw [← hbxx]
  have hbxw : w.heap.size ≤ bx := by omega
  clear hbxx
  have hl1 := hw.lt
  have c3 := hw.cell 3
  have f3 := hw.frozen 3
  simp at c3
  have hw4 := hw.set 3 (.int .i64 0)
  have hk4 := hka.set (p := ⟨bx, 3, none⟩) (.inr hbxw) (.int .i64 0)
  have hc4 := hc1.far (p := ⟨bx, 3, none⟩) hbg (.int .i64 0)
  go_upto_region 4 with (fail)
  generalize w1.setCell ⟨bx, 3, none⟩ (.int .i64 0) = w4 at *
  have b0 := hw4.cell 0
  have b1 := hw4.cell 1
  have b2 := hw4.cell 2
  have b3 := hw4.cell 3
  have b4 := hw4.cell 4
  simp at b0 b1 b2 b3 b4
  have hbl4 := hw4.lt
  have hgl4 := hc4.lt
  have g1 := (hc4.cell 1).trans (frC_get v id dl ct n gb).2.1
  have g2 := (hc4.cell 2).trans (frC_get v id dl ct n gb).2.2.1
  have g3 := (hc4.cell 3).trans (frC_get v id dl ct n gb).2.2.2.1
  have g4 := (hc4.cell 4).trans (frC_get v id dl ct n gb).2.2.2.2.1
  have g5 := (hc4.cell 5).trans (frC_get v id dl ct n gb).2.2.2.2.2.1
  have Hk4 := Lib.hid hk4
  clear hw hka hc1 c3 f3 hw4 hk4 hc4 hl1
  rcases Hno.out with hd | ⟨rfl, rfl, rfl, rfl, hrest⟩
  · have hneq := Hneq.out
    rw [hd] at hneq
    simp only [Bool.not_false] at hneq
    clear hd Hno
    go_quiet (fail)
    all_goals
      go_wp2_with fail
      go_ret
      exact ⟨rfl, Hk4.out.drewN _⟩
  · have hneq := Hneq.out
    rw [show hdB id' dl' ct' 0 (n : Int) id' dl' ct' 0 (n : Int) = true by simp [hdB]] at hneq
    simp only [Bool.not_true] at hneq
    clear Hno
    rcases hrest with h1 | h1 | ⟨h1, h2, h3⟩
    · have t1 : decide (ix' < 0) = true := decide_eq_true h1
      go_quiet (fail)
      all_goals
        go_wp2_with fail
        go_ret
        exact ⟨rfl, Hk4.out.drewN _⟩
    · have t0 : 0 ≤ ct' := by have := Hctv.out; omega
      have t1 : decide (ix' < 0) = false := decide_eq_false (by omega)
      have t2 : decide (ct' ≤ ix') = true := decide_eq_true h1
      go_quiet (fail)
      all_goals
        go_wp2_with fail
        go_ret
        exact ⟨rfl, Hk4.out.drewN _⟩
    · have t1 : decide (ix' < 0) = false := decide_eq_false (by omega)
      have t2 : decide (ct' ≤ ix') = false := decide_eq_false (by omega)
      have h7 : ix' ≤ 7 := by omega
      have t3 : IntKind.i64.wrap ((n : Int) - ix' * 80) = (n : Int) - ix' * 80 := IntWalk.i64_in _ (by omega)
      rw [show wrap64 (ix' * 80) = ix' * 80 by unfold wrap64; omega]
      by_cases t5 : (80 : Int) ≤ (n : Int) - ix' * 80
      · have t4 : ((m : Int) != 80) = true := by simp; omega
        have t6 : ¬ (n : Int) - ix' * 80 < 80 := by omega
        clear h3
        go_quiet (fail)
        all_goals
          go_wp2_with fail
          go_ret
          exact ⟨rfl, Hk4.out.drewN _⟩
      · have t4 : ((m : Int) != (n : Int) - ix' * 80) = true := by simp; omega
        have t6 : (n : Int) - ix' * 80 < 80 := by omega
        clear h3
        go_quiet (fail)
        all_goals
          go_wp2_with fail
          go_ret
          exact ⟨rfl, Hk4.out.drewN _⟩
theorem r_putN {w : World} {F : List Nat} {g gb : Nat} {id dl ct : Int} {n : Nat} {L : List Pr} {d : List UInt8} (h : HasFr w F g gb id dl ct n L d) (id' dl' ct' ix' sz' : Int) (A : Option Addr) (m c : Nat) (hm6 : m ≤ 1000000)
    (hno : hdB id' dl' ct' 0 sz' id dl ct 0 (n : Int) = false ∨ (id' = id ∧ dl' = dl ∧ ct' = ct ∧ sz' = (n : Int) ∧ (ix' < 0 ∨ ct ≤ ix' ∨ (0 ≤ ix' ∧ ix' < ct ∧ (m : Int) ≠ min 80 ((n : Int) - 80 * ix'))))) :
    Calls Try.prog 28 #[.pointer (some ⟨g, 0, none⟩), .agg #[.int .i64 id', .int .i64 dl', .int .i64 ct', .int .i64 ix', .int .i64 sz'], .slice A m c] w fun e w' => e = .returned (.bool false) ∧ Kp (fun _ => False) w w' := by
  obtain ⟨v, h, _⟩ := h
  exact put_no h id' dl' ct' ix' sz' A m c hm6 hno
end Go.Proofs.Ytdcbgjbhoejpnaa

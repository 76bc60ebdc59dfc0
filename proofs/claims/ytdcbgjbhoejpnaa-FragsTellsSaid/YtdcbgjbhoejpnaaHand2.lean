/-
  argosyhand.Head of a plain bend; head.Part.
-/
import Derived.Test.YtdcbgjbhoejpnaaHand
import Derived.Test.YtdcbgjbhoejpnaaBytes
namespace Go.Proofs.Ytdcbgjbhoejpnaa
open Go.RowKit

theorem pickF_zero (m : Int) : pickF 0 m = 0 := by unfold pickF; simp
/-- A right head that was made. -/
def HeadOk (w : World) (e : Ending) (w' : World) : Prop := ∃ (pid mdl : Int) (n : Nat), rightB pid mdl (cntH (n : Int)) 0 (n : Int) = true ∧ e = .returned (.agg #[.int .i64 pid, .int .i64 mdl, .int .i64 (cntH (n : Int)), .int .i64 0, .int .i64 (n : Int)]) ∧ Kp (fun _ => False) w w'

set_option maxRecDepth 100000 in
set_option maxHeartbeats 1000000 in
theorem head0_any (id dl sz : Int) (l1 : -9223372036854775808 ≤ dl) (h1 : dl ≤ 9223372036854775807) (w : World) :
    Calls Try.prog 31 #[.int .i64 id, .int .i64 dl, .int .i64 sz, .int .i64 0, .int .i64 0] w (HeadOk w) := by
  have HM := Lib.hid (may_any dl l1 h1)
  have p1 := pickF_lo id 40 (by omega)
  have p1' := pickF_hi id 40 (by omega)
  have p2 := pickF_lo sz 600 (by omega)
  have p2' := pickF_hi sz 600 (by omega)
  have HP1 := Lib.hid (fun w => pick_any id 40 w (by omega) (by omega))
  have HP2 := Lib.hid (fun w => pick_any sz 600 w (by omega) (by omega))
  generalize pickF id 40 = pid at *
  generalize pickF sz 600 = psz at *
  obtain ⟨n, hn⟩ : ∃ n : Nat, (n : Int) = 1 + psz := ⟨(1 + psz).toNat, by omega⟩
  have HP3 := Lib.hid (fun (m : Int) (h1 : 1 ≤ m) (h2 : m ≤ 100) w => pick_any 0 m w h1 (by omega))
  simp only [pickF_zero] at HP3
  have hw0 : Whole (w.alloc (.cells #[.int .i64 0, .int .i64 0, .int .i64 0, .int .i64 0, .int .i64 0] 49)) w.heap.size 49 #[.int .i64 0, .int .i64 0, .int .i64 0, .int .i64 0, .int .i64 0] := Whole.new w _ _
  have hk0 : Kp (fun _ => False) w (w.alloc (.cells #[.int .i64 0, .int .i64 0, .int .i64 0, .int .i64 0, .int .i64 0] 49)) := (Kp.refl _ w).alloc _
  go_enter Try.func31, Try.ntmps31
  go_upto_region 1 with (fail)
  generalize w.alloc (.cells #[.int .i64 0, .int .i64 0, .int .i64 0, .int .i64 0, .int .i64 0] 49) = w1 at *
  obtain ⟨b0, hb0⟩ : ∃ b, b = w.heap.size := ⟨_, rfl⟩
  rw [← hb0] at hw0
  rw [← hb0]
  have hw0b : w.heap.size ≤ b0 := by omega
  clear hb0
  have Hw0 := Lib.hid hw0
  have Hk0 := Lib.hid hk0
  have Hn := Lib.hid hn
  clear hw0 hk0 l1 h1 hn
  go_wp2_with fail
  with_reducible refine (HP1.out _).mono ?_
  rintro e w2 ⟨rfl, rfl⟩
  go_wp2_with fail
  with_reducible refine (HM.out _).mono ?_
  rintro e w2 ⟨mdl, rfl, hm1, hm2, rfl⟩
  have Hm2 := Lib.hid hm2
  clear hm2
  go_wp2_with fail
  with_reducible refine (HP2.out _).mono ?_
  rintro e w2 ⟨rfl, rfl⟩
  have hct1 := cnt_lo (sz := (n : Int)) (by have := Hn.out; omega)
  have hct2 := cnt_hi (sz := (n : Int)) (by have := Hn.out; omega)
  have hright : rightB pid mdl (cntH (n : Int)) 0 (n : Int) = true := rightB_iff0.2 (by have := Hn.out; have := Hm2.out; omega)
  have hof := fun w => rof_yes pid mdl (n : Int) w hright
  rw [Hn.out] at hof hright hct1 hct2
  have Hof := Lib.hid hof
  have Hright := Lib.hid hright
  clear hof hright
  obtain ⟨ct, hct⟩ : ∃ ct, ct = cntH (1 + psz) := ⟨_, rfl⟩
  rw [← hct] at Hof Hright hct1 hct2
  have Hct := Lib.hid hct
  clear hct
  go_wp2_with fail
  with_reducible refine (Hof.out _).mono ?_
  rintro e w3 ⟨rfl, hk3⟩
  have hw1 := Whole.new w3 49 #[.int .i64 pid, .int .i64 mdl, .int .i64 ct, .int .i64 0, .int .i64 (1 + psz)]
  have hwz := (hk3.whole Hw0.out (fun h => h)).alloc (.cells #[.int .i64 pid, .int .i64 mdl, .int .i64 ct, .int .i64 0, .int .i64 (1 + psz)] 49)
  have hk4 := (Hk0.out.trans hk3).alloc (.cells #[.int .i64 pid, .int .i64 mdl, .int .i64 ct, .int .i64 0, .int .i64 (1 + psz)] 49)
  have hne : b0 ≠ w3.heap.size := by have := (hk3.whole Hw0.out (fun h => h)).lt; omega
  have hb1 : w.heap.size ≤ w3.heap.size := (Hk0.out.trans hk3).size
  clear hk3 Hw0 Hk0
  go_upto_region 2 with (fail)
  generalize w3.alloc (.cells #[.int .i64 pid, .int .i64 mdl, .int .i64 ct, .int .i64 0, .int .i64 (1 + psz)] 49) = w4 at *
  generalize w3.heap.size = b1 at *
  have c2 := hw1.cell 2
  have c3 := hw1.cell 3
  have f3 := hw1.frozen 3
  have l1 := hw1.lt
  simp at c2 c3
  have Hw1 := Lib.hid hw1
  have Hwz := Lib.hid hwz
  have Hk4 := Lib.hid hk4
  clear hw1 hwz hk4
  go_wp2_with fail
  with_reducible refine (HP3.out _ (by omega) (by omega) _).mono ?_
  rintro e w5 ⟨rfl, rfl⟩
  have hw1 := Hw1.out.set 3 (.int .i64 0)
  have hwz := Hwz.out.far (p := ⟨b1, 3, none⟩) hne (.int .i64 0)
  have hk5 := Hk4.out.set (p := ⟨b1, 3, none⟩) (.inr hb1) (.int .i64 0)
  go_upto_region 3 with (fail)
  generalize w4.setCell ⟨b1, 3, none⟩ (.int .i64 0) = w5 at *
  clear c2 c3 f3 l1
  have c0 := hw1.cell 0
  have c1 := hw1.cell 1
  have c2 := hw1.cell 2
  have c3 := hw1.cell 3
  have c4 := hw1.cell 4
  have l1 := hw1.lt
  have e0 := hwz.cell 0
  have e1 := hwz.cell 1
  have e2 := hwz.cell 2
  have e3 := hwz.cell 3
  have e4 := hwz.cell 4
  have g0 := hwz.frozen 0
  have g1 := hwz.frozen 1
  have g2 := hwz.frozen 2
  have g3 := hwz.frozen 3
  have g4 := hwz.frozen 4
  have m0 := hwz.lt
  simp at c0 c1 c2 c3 c4 e0 e1 e2 e3 e4
  have Hk5 := Lib.hid hk5
  clear hw1 hwz hk5 Hw1 Hwz Hk4
  go_wp2_with fail
  with_reducible refine (HP3.out _ (by omega) (by omega) _).mono ?_
  rintro e w6 ⟨rfl, rfl⟩
  go_wp2_with fail
  with_reducible refine (HP3.out _ (by omega) (by omega) _).mono ?_
  rintro e w6 ⟨rfl, rfl⟩
  go_wp2_with fail
  refine bodyPost_ret (v := .agg #[.int .i64 pid, .int .i64 mdl, .int .i64 ct, .int .i64 0, .int .i64 (1 + psz)]) (by simp [results, Try.results31, go_sem, *]) rfl ⟨pid, mdl, n, ?_, ?_, ?_⟩
  · rw [Hn.out, ← Hct.out]; exact Hright.out
  · rw [Hn.out, ← Hct.out]
  · exact ((((Hk5.out.set (p := ⟨b0, 0, none⟩) (.inr hw0b) _).set (p := ⟨b0, 1, none⟩) (.inr hw0b) _).set (p := ⟨b0, 2, none⟩) (.inr hw0b) _).set (p := ⟨b0, 3, none⟩) (.inr hw0b) _).set (p := ⟨b0, 4, none⟩) (.inr hw0b) _
end Go.Proofs.Ytdcbgjbhoejpnaa

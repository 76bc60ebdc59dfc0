/-
  argosyhand: Num, May, Head; argosyref18: Right, Of.
-/
import Derived.Test.YtdcbgjbhoejpnaaHead
namespace Go.Proofs.Ytdcbgjbhoejpnaa
open Go.RowKit

def SomeI (w : World) (e : Ending) (w' : World) : Prop := ∃ v : Int, e = .returned (.int .i64 v) ∧ -9223372036854775808 ≤ v ∧ v ≤ 9223372036854775807 ∧ w = w'

set_option maxHeartbeats 2000000 in
set_option maxRecDepth 100000 in
theorem num_any (n : Int) (l : -9223372036854775808 ≤ n) (h : n ≤ 9223372036854775807) (w : World) : Calls Try.prog 56 #[.int .i64 n] w (SomeI w) := by
  have p0 := pickF_lo (n.tdiv 9) 3 (by omega)
  have p0' := pickF_hi (n.tdiv 9) 3 (by omega)
  have p1 := pickF_lo n 9 (by omega)
  have p1' := pickF_hi n 9 (by omega)
  have p2 := pickF_lo (n.tdiv 9) 500 (by omega)
  have p2' := pickF_hi (n.tdiv 9) 500 (by omega)
  go_enter Try.func56, Try.ntmps56
  go_wp2_with (go_at_call 11; refine (pick_any _ _ _ (by omega) (by omega)).mono ?_; rintro e w' ⟨rfl, rfl⟩)
  all_goals go_ret
  all_goals exact ⟨_, rfl, by omega, by omega, rfl⟩

theorem rightB_iff0 {id dl ct ix sz : Int} : rightB id dl ct ix sz = true ↔ 0 ≤ id ∧ id < 40 ∧ 0 ≤ dl ∧ dl ≤ MostH ∧ 1 ≤ sz ∧ sz ≤ 600 ∧ ct = cntH sz ∧ 0 ≤ ix ∧ ix < ct := by unfold rightB; rw [decide_eq_true_iff]
def mayB (n : Int) : Bool := decide (0 ≤ n ∧ n ≤ MostH)
theorem rmay_any (n : Int) (w : World) : Calls Try.prog 57 #[.int .i64 n] w fun e w' => e = .returned (.bool (mayB n)) ∧ w = w' := by
  obtain ⟨r, hr⟩ : ∃ r, r = mayB n := ⟨_, rfl⟩
  rw [← hr]
  have Hr := Lib.hid hr
  clear hr
  by_cases h1 : 0 ≤ n
  · by_cases h2 : n ≤ 4611686018427387903
    · have e : r = true := by rw [Hr.out]; exact decide_eq_true ⟨h1, h2⟩
      subst e
      go_enter Try.func57, Try.ntmps57
      go_wp2_with fail
      go_ret
      exact ⟨rfl, rfl⟩
    · have e : r = false := by rw [Hr.out]; exact decide_eq_false (fun h => h2 h.2)
      subst e
      go_enter Try.func57, Try.ntmps57
      go_wp2_with fail
      go_ret
      exact ⟨rfl, rfl⟩
  · have e : r = false := by rw [Hr.out]; exact decide_eq_false (fun h => h1 h.1)
    subst e
    go_enter Try.func57, Try.ntmps57
    go_wp2_with fail
    go_ret
    exact ⟨rfl, rfl⟩

def SomeM (w : World) (e : Ending) (w' : World) : Prop := ∃ v : Int, e = .returned (.int .i64 v) ∧ 0 ≤ v ∧ v ≤ MostH ∧ w = w'
theorem may_any (n : Int) (l : -9223372036854775808 ≤ n) (h : n ≤ 9223372036854775807) (w : World) : Calls Try.prog 50 #[.int .i64 n] w (SomeM w) := by
  have HN := Lib.hid (num_any n l h)
  have p1 := pickF_lo n 1048576 (by omega)
  have p1' := pickF_hi n 1048576 (by omega)
  have HP := Lib.hid (fun w => pick_any n 1048576 w (by omega) (by omega))
  generalize pickF n 1048576 = q at *
  clear l h
  go_enter Try.func50, Try.ntmps50
  go_wp2_with fail
  with_reducible refine (HN.out _).mono ?_
  rintro e w1 ⟨m, rfl, hm1, hm2, rfl⟩
  have HM := Lib.hid (rmay_any m)
  cases hb : mayB m with
  | true =>
    have hb2 : 0 ≤ m ∧ m ≤ MostH := of_decide_eq_true hb
    rw [hb] at HM
    clear hb
    have Hb := Lib.hid hb2
    clear hb2
    go_wp2_with fail
    with_reducible refine (HM.out _).mono ?_
    rintro e w1 ⟨rfl, rfl⟩
    go_wp2_with fail
    go_ret
    exact ⟨m, rfl, Hb.out.1, Hb.out.2, rfl⟩
  | false =>
    rw [hb] at HM
    clear hb
    go_wp2_with fail
    with_reducible refine (HM.out _).mono ?_
    rintro e w1 ⟨rfl, rfl⟩
    go_wp2_with fail
    with_reducible refine (HP.out _).mono ?_
    rintro e w1 ⟨rfl, rfl⟩
    go_wp2_with fail
    go_ret
    exact ⟨q, rfl, p1, by unfold MostH; omega, rfl⟩

theorem rcount_any (sz : Int) (w : World) (h1 : 0 ≤ sz) (h2 : sz ≤ 100000) :
    Calls Try.prog 53 #[.int .i64 sz] w fun e w' => e = .returned (.int .i64 (cntH sz)) ∧ w = w' := by
  go_enter Try.func53, Try.ntmps53
  go_wp2
  go_ret
  refine ⟨?_, rfl⟩
  unfold cntH
  rw [show sz + 80 - 1 = sz + 79 by omega]
  rfl

set_option maxRecDepth 100000 in
set_option maxHeartbeats 4000000 in
theorem rright_any (id dl ct ix sz : Int) (w : World) :
    Calls Try.prog 51 #[.agg #[.int .i64 id, .int .i64 dl, .int .i64 ct, .int .i64 ix, .int .i64 sz]] w fun e w' => e = .returned (.bool (rightB id dl ct ix sz)) ∧ Kp (fun _ => False) w w' := by
  have hw : Whole (w.alloc (.cells #[.int .i64 id, .int .i64 dl, .int .i64 ct, .int .i64 ix, .int .i64 sz] 49)) w.heap.size 49 #[.int .i64 id, .int .i64 dl, .int .i64 ct, .int .i64 ix, .int .i64 sz] := Whole.new _ _ _
  have hk : Kp (fun _ => False) w (w.alloc (.cells #[.int .i64 id, .int .i64 dl, .int .i64 ct, .int .i64 ix, .int .i64 sz] 49)) := (Kp.refl _ w).alloc _
  obtain ⟨res, hres⟩ : ∃ res, res = rightB id dl ct ix sz := ⟨_, rfl⟩
  rw [← hres]
  have Hres := Lib.hid hres
  have HM := Lib.hid (rmay_any dl)
  obtain ⟨mb, hmb⟩ : ∃ mb, mb = mayB dl := ⟨_, rfl⟩
  rw [← hmb] at HM
  have Hmb := Lib.hid hmb
  have HC := Lib.hid (rcount_any sz)
  obtain ⟨cn, hcn⟩ : ∃ cn, cn = cntH sz := ⟨_, rfl⟩
  rw [← hcn] at HC
  have Hcn := Lib.hid hcn
  clear hres hmb hcn
  go_enter Try.func51, Try.ntmps51
  go_upto_region 1 with (fail)
  generalize w.alloc (.cells #[.int .i64 id, .int .i64 dl, .int .i64 ct, .int .i64 ix, .int .i64 sz] 49) = w1 at *
  have hl := hw.lt
  have c0 := hw.cell 0
  have c1 := hw.cell 1
  have c2 := hw.cell 2
  have c3 := hw.cell 3
  have c4 := hw.cell 4
  simp at c0 c1 c2 c3 c4
  have Hk := Lib.hid hk
  clear hw hk
  generalize w.heap.size = b at *
  by_cases p0 : 0 ≤ id
  · have d0 : decide (0 ≤ id) = true := decide_eq_true p0
    by_cases p1 : id < 40
    · have d1 : decide (id < 40) = true := decide_eq_true p1
      cases mb with
      | true =>
        by_cases p3 : 1 ≤ sz
        · have d3 : decide (1 ≤ sz) = true := decide_eq_true p3
          by_cases p4 : sz ≤ 600
          · have d4 : decide (sz ≤ 600) = true := decide_eq_true p4
            by_cases p5 : ct = cn
            · subst p5
              have d5 : ((ct : Int) == ct) = true := by simp
              by_cases p6 : 0 ≤ ix
              · have d6 : decide (0 ≤ ix) = true := decide_eq_true p6
                by_cases p7 : ix < ct
                · have d7 : decide (ix < ct) = true := decide_eq_true p7
                  go_quiet ((first | (go_at_call 57; exact Calls.quiet_of_same ((HM.out _).mono fun _ _ ⟨he, hw⟩ => ⟨he, hw.symm⟩)) | (go_at_call 53; exact Calls.quiet_of_same ((HC.out _ (by omega) (by omega)).mono fun _ _ ⟨he, hw⟩ => ⟨he, hw.symm⟩))))
                  all_goals
                    go_wp2_with fail
                    go_ret
                    refine ⟨?_, Hk.out.drewN _⟩
                    rw [Hres.out, rightB, decide_eq_true (by have h1 : 0 ≤ dl ∧ dl ≤ MostH := of_decide_eq_true Hmb.out.symm; have h2 := Hcn.out; omega)]; first | rfl | simp
                · have d7 : decide (ix < ct) = false := decide_eq_false p7
                  go_quiet ((first | (go_at_call 57; exact Calls.quiet_of_same ((HM.out _).mono fun _ _ ⟨he, hw⟩ => ⟨he, hw.symm⟩)) | (go_at_call 53; exact Calls.quiet_of_same ((HC.out _ (by omega) (by omega)).mono fun _ _ ⟨he, hw⟩ => ⟨he, hw.symm⟩))))
                  all_goals
                    go_wp2_with fail
                    go_ret
                    refine ⟨?_, Hk.out.drewN _⟩
                    rw [Hres.out, rightB, decide_eq_false (by have h2 := Hcn.out; omega)]; first | rfl | simp
              · have d6 : decide (0 ≤ ix) = false := decide_eq_false p6
                go_quiet ((first | (go_at_call 57; exact Calls.quiet_of_same ((HM.out _).mono fun _ _ ⟨he, hw⟩ => ⟨he, hw.symm⟩)) | (go_at_call 53; exact Calls.quiet_of_same ((HC.out _ (by omega) (by omega)).mono fun _ _ ⟨he, hw⟩ => ⟨he, hw.symm⟩))))
                all_goals
                  go_wp2_with fail
                  go_ret
                  refine ⟨?_, Hk.out.drewN _⟩
                  rw [Hres.out, rightB, decide_eq_false (by have h2 := Hcn.out; omega)]; first | rfl | simp
            · have d5 : ((ct : Int) == cn) = false := by simpa using p5
              go_quiet ((first | (go_at_call 57; exact Calls.quiet_of_same ((HM.out _).mono fun _ _ ⟨he, hw⟩ => ⟨he, hw.symm⟩)) | (go_at_call 53; exact Calls.quiet_of_same ((HC.out _ (by omega) (by omega)).mono fun _ _ ⟨he, hw⟩ => ⟨he, hw.symm⟩))))
              all_goals
                go_wp2_with fail
                go_ret
                refine ⟨?_, Hk.out.drewN _⟩
                rw [Hres.out, rightB, decide_eq_false (by have h2 := Hcn.out; omega)]; first | rfl | simp
          · have d4 : decide (sz ≤ 600) = false := decide_eq_false p4
            go_quiet ((first | (go_at_call 57; exact Calls.quiet_of_same ((HM.out _).mono fun _ _ ⟨he, hw⟩ => ⟨he, hw.symm⟩)) | (go_at_call 53; exact Calls.quiet_of_same ((HC.out _ (by omega) (by omega)).mono fun _ _ ⟨he, hw⟩ => ⟨he, hw.symm⟩))))
            all_goals
              go_wp2_with fail
              go_ret
              refine ⟨?_, Hk.out.drewN _⟩
              rw [Hres.out, rightB, decide_eq_false (by have h2 := Hcn.out; omega)]; first | rfl | simp
        · have d3 : decide (1 ≤ sz) = false := decide_eq_false p3
          go_quiet ((first | (go_at_call 57; exact Calls.quiet_of_same ((HM.out _).mono fun _ _ ⟨he, hw⟩ => ⟨he, hw.symm⟩)) | (go_at_call 53; exact Calls.quiet_of_same ((HC.out _ (by omega) (by omega)).mono fun _ _ ⟨he, hw⟩ => ⟨he, hw.symm⟩))))
          all_goals
            go_wp2_with fail
            go_ret
            refine ⟨?_, Hk.out.drewN _⟩
            rw [Hres.out, rightB, decide_eq_false (by have h2 := Hcn.out; omega)]; first | rfl | simp
      | false =>
        go_quiet ((first | (go_at_call 57; exact Calls.quiet_of_same ((HM.out _).mono fun _ _ ⟨he, hw⟩ => ⟨he, hw.symm⟩)) | (go_at_call 53; exact Calls.quiet_of_same ((HC.out _ (by omega) (by omega)).mono fun _ _ ⟨he, hw⟩ => ⟨he, hw.symm⟩))))
        all_goals
          go_wp2_with fail
          go_ret
          refine ⟨?_, Hk.out.drewN _⟩
          rw [Hres.out, rightB, decide_eq_false (fun h => by have h1 : ¬ (0 ≤ dl ∧ dl ≤ MostH) := of_decide_eq_false Hmb.out.symm; exact h1 ⟨h.2.2.1, h.2.2.2.1⟩)]; first | rfl | simp
    · have d1 : decide (id < 40) = false := decide_eq_false p1
      go_quiet ((first | (go_at_call 57; exact Calls.quiet_of_same ((HM.out _).mono fun _ _ ⟨he, hw⟩ => ⟨he, hw.symm⟩)) | (go_at_call 53; exact Calls.quiet_of_same ((HC.out _ (by omega) (by omega)).mono fun _ _ ⟨he, hw⟩ => ⟨he, hw.symm⟩))))
      all_goals
        go_wp2_with fail
        go_ret
        refine ⟨?_, Hk.out.drewN _⟩
        rw [Hres.out, rightB, decide_eq_false (by have h2 := Hcn.out; omega)]; first | rfl | simp
  · have d0 : decide (0 ≤ id) = false := decide_eq_false p0
    go_quiet ((first | (go_at_call 57; exact Calls.quiet_of_same ((HM.out _).mono fun _ _ ⟨he, hw⟩ => ⟨he, hw.symm⟩)) | (go_at_call 53; exact Calls.quiet_of_same ((HC.out _ (by omega) (by omega)).mono fun _ _ ⟨he, hw⟩ => ⟨he, hw.symm⟩))))
    all_goals
      go_wp2_with fail
      go_ret
      refine ⟨?_, Hk.out.drewN _⟩
      rw [Hres.out, rightB, decide_eq_false (by have h2 := Hcn.out; omega)]; first | rfl | simp

set_option maxRecDepth 100000 in
set_option maxHeartbeats 1000000 in
theorem rof_yes (id dl sz : Int) (w : World) (h : rightB id dl (cntH sz) 0 sz = true) :
    Calls Try.prog 35 #[.int .i64 id, .int .i64 dl, .int .i64 sz] w fun e w' => e = .returned (.agg #[.int .i64 id, .int .i64 dl, .int .i64 (cntH sz), .int .i64 0, .int .i64 sz]) ∧ Kp (fun _ => False) w w' := by
  have hr := rightB_iff0.1 h
  have HC := Lib.hid (rcount_any sz)
  have HR := Lib.hid (rright_any id dl (cntH sz) 0 sz)
  rw [h] at HR
  have a1 : 1 ≤ sz := by omega
  have a2 : sz ≤ 600 := by omega
  have hk0 : Kp (fun _ => False) w (((w.alloc (.cells #[.int .i64 0, .int .i64 0, .int .i64 0, .int .i64 0, .int .i64 0] 49)).alloc (.cells #[.int .i64 id, .int .i64 dl, .int .i64 0, .int .i64 0, .int .i64 sz] 49))) := ((Kp.refl _ w).alloc _).alloc _
  have hw0 : Whole ((w.alloc (.cells #[.int .i64 0, .int .i64 0, .int .i64 0, .int .i64 0, .int .i64 0] 49)).alloc (.cells #[.int .i64 id, .int .i64 dl, .int .i64 0, .int .i64 0, .int .i64 sz] 49)) w.heap.size 49 #[.int .i64 0, .int .i64 0, .int .i64 0, .int .i64 0, .int .i64 0] := (Whole.new w _ _).alloc _
  have hw1 : Whole ((w.alloc (.cells #[.int .i64 0, .int .i64 0, .int .i64 0, .int .i64 0, .int .i64 0] 49)).alloc (.cells #[.int .i64 id, .int .i64 dl, .int .i64 0, .int .i64 0, .int .i64 sz] 49)) (w.heap.size + 1) 49 #[.int .i64 id, .int .i64 dl, .int .i64 0, .int .i64 0, .int .i64 sz] := whole_at _ _ rfl (by simp)
  clear h hr
  obtain ⟨cn, hcn⟩ : ∃ cn, cn = cntH sz := ⟨_, rfl⟩
  rw [← hcn] at HC HR
  rw [← hcn]
  clear hcn
  go_enter Try.func35, Try.ntmps35
  go_upto_region 2 with (fail)
  generalize (w.alloc (.cells #[.int .i64 0, .int .i64 0, .int .i64 0, .int .i64 0, .int .i64 0] 49)).alloc (.cells #[.int .i64 id, .int .i64 dl, .int .i64 0, .int .i64 0, .int .i64 sz] 49) = w2 at *
  obtain ⟨b0, hb0⟩ : ∃ b, b = w.heap.size := ⟨_, rfl⟩
  obtain ⟨b1, hb1⟩ : ∃ b, b = w.heap.size + 1 := ⟨_, rfl⟩
  rw [← hb0] at hw0
  rw [← hb1] at hw1
  rw [← hb1, ← hb0]
  have hne : b0 ≠ b1 := by omega
  have hw0b : w.heap.size ≤ b0 := by omega
  have hw1b : w.heap.size ≤ b1 := by omega
  clear hb0 hb1
  have c2 := hw1.cell 2
  have f2 := hw1.frozen 2
  have l1 := hw1.lt
  simp at c2
  have Hk0 := Lib.hid hk0
  have Hw0 := Lib.hid hw0
  have Hw1 := Lib.hid hw1
  clear hk0 hw0 hw1
  go_wp2_with fail
  with_reducible refine (HC.out _ (by omega) (by omega)).mono ?_
  rintro e w3 ⟨rfl, rfl⟩
  have hw1 := Hw1.out.set 2 (.int .i64 cn)
  have hw0 := Hw0.out.far (p := ⟨b1, 2, none⟩) hne (.int .i64 cn)
  have hk3 := Hk0.out.set (p := ⟨b1, 2, none⟩) (.inr hw1b) (.int .i64 cn)
  go_upto_region 4 with (fail)
  generalize w2.setCell ⟨b1, 2, none⟩ (.int .i64 cn) = w3 at *
  clear c2 f2 l1
  have c0 := hw1.cell 0
  have c1 := hw1.cell 1
  have c2 := hw1.cell 2
  have c3 := hw1.cell 3
  have c4 := hw1.cell 4
  have l1 := hw1.lt
  simp at c0 c1 c2 c3 c4
  have Hk3 := Lib.hid hk3
  have Hv0 := Lib.hid hw0
  have Hv1 := Lib.hid hw1
  clear hk3 hw0 hw1 Hw0 Hw1 Hk0
  go_wp2_with fail
  with_reducible refine (HR.out _).mono ?_
  rintro e w4 ⟨rfl, hk4⟩
  have u0 := hk4.whole Hv0.out (fun h => h)
  have u1 := hk4.whole Hv1.out (fun h => h)
  have d0 := u1.cell 0
  have d1 := u1.cell 1
  have d2 := u1.cell 2
  have d3 := u1.cell 3
  have d4 := u1.cell 4
  have e0 := u0.cell 0
  have e1 := u0.cell 1
  have e2 := u0.cell 2
  have e3 := u0.cell 3
  have e4 := u0.cell 4
  have g0 := u0.frozen 0
  have g1 := u0.frozen 1
  have g2 := u0.frozen 2
  have g3 := u0.frozen 3
  have g4 := u0.frozen 4
  have m0 := u0.lt
  have m1 := u1.lt
  simp at d0 d1 d2 d3 d4 e0 e1 e2 e3 e4
  have Hk4 := Lib.hid (Hk3.out.trans hk4)
  clear c0 c1 c2 c3 c4 hk4 u0 u1
  go_wp2_with fail
  exact bodyPost_ret (v := .agg #[.int .i64 id, .int .i64 dl, .int .i64 cn, .int .i64 0, .int .i64 sz]) (by simp [results, Try.results35, go_sem, *]) rfl ⟨rfl, ((((Hk4.out.set (p := ⟨b0, 0, none⟩) (.inr hw0b) _).set (p := ⟨b0, 1, none⟩) (.inr hw0b) _).set (p := ⟨b0, 2, none⟩) (.inr hw0b) _).set (p := ⟨b0, 3, none⟩) (.inr hw0b) _).set (p := ⟨b0, 4, none⟩) (.inr hw0b) _⟩
end Go.Proofs.Ytdcbgjbhoejpnaa

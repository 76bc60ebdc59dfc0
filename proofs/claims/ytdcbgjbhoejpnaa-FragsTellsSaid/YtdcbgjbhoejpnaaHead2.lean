/-
  head: Of, bounds, Part.
-/
import Derived.Test.YtdcbgjbhoejpnaaHand2
namespace Go.Proofs.Ytdcbgjbhoejpnaa
open Go.RowKit

set_option maxRecDepth 100000 in
set_option maxHeartbeats 1000000 in
theorem hof_yes (id dl sz : Int) (w : World) (h : rightB id dl (cntH sz) 0 sz = true) :
    Calls Try.prog 25 #[.int .i64 id, .int .i64 dl, .int .i64 sz] w fun e w' => e = .returned (.agg #[.int .i64 id, .int .i64 dl, .int .i64 (cntH sz), .int .i64 0, .int .i64 sz]) ∧ Kp (fun _ => False) w w' := by
  have hr := rightB_iff0.1 h
  have HC := Lib.hid (pieces_any sz)
  have HR := Lib.hid (right_any id dl (cntH sz) 0 sz)
  rw [h] at HR
  have a1 : 1 ≤ sz := by omega
  have a2 : sz ≤ 600 := by omega
  have hk0 : Kp (fun _ => False) w (((w.alloc (.cells #[.int .i64 0, .int .i64 0, .int .i64 0, .int .i64 0, .int .i64 0] 49)).alloc (.cells #[.int .i64 id, .int .i64 dl, .int .i64 0, .int .i64 0, .int .i64 sz] 49))) := ((Kp.refl _ w).alloc _).alloc _
  have hw0 : Whole ((w.alloc (.cells #[.int .i64 0, .int .i64 0, .int .i64 0, .int .i64 0, .int .i64 0] 49)).alloc (.cells #[.int .i64 id, .int .i64 dl, .int .i64 0, .int .i64 0, .int .i64 sz] 49)) w.heap.size 49 #[.int .i64 0, .int .i64 0, .int .i64 0, .int .i64 0, .int .i64 0] := (Whole.new w _ _).alloc _
  have hw1 : Whole ((w.alloc (.cells #[.int .i64 0, .int .i64 0, .int .i64 0, .int .i64 0, .int .i64 0] 49)).alloc (.cells #[.int .i64 id, .int .i64 dl, .int .i64 0, .int .i64 0, .int .i64 sz] 49)) (w.heap.size + 1) 49 #[.int .i64 id, .int .i64 dl, .int .i64 0, .int .i64 0, .int .i64 sz] := whole_at _ _ rfl (by simp)
  clear h hr
  obtain ⟨cn, hcn⟩ : ∃ cn, cn = cntH sz := ⟨_, rfl⟩
  rw [← hcn] at HC HR
  rw [← hcn]
  clear hcn
  go_enter Try.func25, Try.ntmps25
  go_upto_region 2 with (fail)
  generalize (w.alloc (.cells #[.int .i64 0, .int .i64 0, .int .i64 0, .int .i64 0, .int .i64 0] 49)).alloc (.cells #[.int .i64 id, .int .i64 dl, .int .i64 0, .int .i64 0, .int .i64 sz] 49) = w2 at *
  obtain ⟨b0, hb0⟩ : ∃ b, b = w.heap.size := ⟨_, rfl⟩
  obtain ⟨b1, hb1⟩ : ∃ b, b = w.heap.size + 1 := ⟨_, rfl⟩
  rw [← hb0] at hw0
  rw [← hb1] at hw1
  rw [← hb1, ← hb0]
  have hne : b0 ≠ b1 := by omega
  have hw0b : w.heap.size ≤ b0 := by omega
  have hw1b : w.heap.size ≤ b1 := by omega
  clear hb0 hb1
  have c2 := hw1.cell 2
  have f2 := hw1.frozen 2
  have l1 := hw1.lt
  simp at c2
  have Hk0 := Lib.hid hk0
  have Hw0 := Lib.hid hw0
  have Hw1 := Lib.hid hw1
  clear hk0 hw0 hw1
  go_wp2_with fail
  with_reducible refine (HC.out _ (by omega) (by omega)).mono ?_
  rintro e w3 ⟨rfl, rfl⟩
  have hw1 := Hw1.out.set 2 (.int .i64 cn)
  have hw0 := Hw0.out.far (p := ⟨b1, 2, none⟩) hne (.int .i64 cn)
  have hk3 := Hk0.out.set (p := ⟨b1, 2, none⟩) (.inr hw1b) (.int .i64 cn)
  go_upto_region 4 with (fail)
  generalize w2.setCell ⟨b1, 2, none⟩ (.int .i64 cn) = w3 at *
  clear c2 f2 l1
  have c0 := hw1.cell 0
  have c1 := hw1.cell 1
  have c2 := hw1.cell 2
  have c3 := hw1.cell 3
  have c4 := hw1.cell 4
  have l1 := hw1.lt
  simp at c0 c1 c2 c3 c4
  have Hk3 := Lib.hid hk3
  have Hv0 := Lib.hid hw0
  have Hv1 := Lib.hid hw1
  clear hk3 hw0 hw1 Hw0 Hw1 Hk0
  go_wp2_with fail
  with_reducible refine (HR.out _).mono ?_
  rintro e w4 ⟨rfl, hk4⟩
  have u0 := hk4.whole Hv0.out (fun h => h)
  have u1 := hk4.whole Hv1.out (fun h => h)
  have d0 := u1.cell 0
  have d1 := u1.cell 1
  have d2 := u1.cell 2
  have d3 := u1.cell 3
  have d4 := u1.cell 4
  have e0 := u0.cell 0
  have e1 := u0.cell 1
  have e2 := u0.cell 2
  have e3 := u0.cell 3
  have e4 := u0.cell 4
  have g0 := u0.frozen 0
  have g1 := u0.frozen 1
  have g2 := u0.frozen 2
  have g3 := u0.frozen 3
  have g4 := u0.frozen 4
  have m0 := u0.lt
  have m1 := u1.lt
  simp at d0 d1 d2 d3 d4 e0 e1 e2 e3 e4
  have Hk4 := Lib.hid (Hk3.out.trans hk4)
  clear c0 c1 c2 c3 c4 hk4 u0 u1
  go_wp2_with fail
  exact bodyPost_ret (v := .agg #[.int .i64 id, .int .i64 dl, .int .i64 cn, .int .i64 0, .int .i64 sz]) (by simp [results, Try.results25, go_sem, *]) rfl ⟨rfl, ((((Hk4.out.set (p := ⟨b0, 0, none⟩) (.inr hw0b) _).set (p := ⟨b0, 1, none⟩) (.inr hw0b) _).set (p := ⟨b0, 2, none⟩) (.inr hw0b) _).set (p := ⟨b0, 3, none⟩) (.inr hw0b) _).set (p := ⟨b0, 4, none⟩) (.inr hw0b) _⟩

set_option maxRecDepth 100000 in
theorem bounds_any (id dl ct : Int) (k n : Nat) (w : World) (hk : k ≤ 100) (hn : n ≤ 600) :
    Calls Try.prog 54 #[.agg #[.int .i64 id, .int .i64 dl, .int .i64 ct, .int .i64 (k : Int), .int .i64 (n : Int)]] w fun e w' => e = .returned (.tuple #[.int .i64 ((k * 80 : Nat) : Int), .int .i64 ((min (k * 80 + 80) n : Nat) : Int)]) ∧ Kp (fun _ => False) w w' := by
  have hw : Whole (w.alloc (.cells #[.int .i64 id, .int .i64 dl, .int .i64 ct, .int .i64 (k : Int), .int .i64 (n : Int)] 49)) w.heap.size 49 #[.int .i64 id, .int .i64 dl, .int .i64 ct, .int .i64 (k : Int), .int .i64 (n : Int)] := Whole.new _ _ _
  have hka : Kp (fun _ => False) w (w.alloc (.cells #[.int .i64 id, .int .i64 dl, .int .i64 ct, .int .i64 (k : Int), .int .i64 (n : Int)] 49)) := (Kp.refl _ w).alloc _
  obtain ⟨mn, hmn⟩ : ∃ mn : Nat, mn = min (k * 80 + 80) n := ⟨_, rfl⟩
  rw [← hmn]
  have hmn2 : (k * 80 + 80 ≤ n ∧ mn = k * 80 + 80) ∨ (n < k * 80 + 80 ∧ mn = n) := by omega
  clear hmn
  go_enter Try.func54, Try.ntmps54
  go_upto_region 1 with (fail)
  generalize w.alloc (.cells #[.int .i64 id, .int .i64 dl, .int .i64 ct, .int .i64 (k : Int), .int .i64 (n : Int)] 49) = w1 at *
  have hl := hw.lt
  have c3 := hw.cell 3
  have c4 := hw.cell 4
  simp at c3 c4
  have Hk := Lib.hid hka
  clear hw hka
  generalize w.heap.size = b at *
  have q1 : IntKind.i64.wrap ((k : Int) * 80 + 80) = (k : Int) * 80 + 80 := IntWalk.i64_in _ (by omega)
  rcases hmn2 with ⟨h1, rfl⟩ | ⟨h1, rfl⟩
  · have t1 : (k : Int) * 80 + 80 ≤ (n : Int) := by omega
    have t2 : ¬ (n : Int) < (k : Int) * 80 + 80 := by omega
    go_wp2_with fail
    go_region_held3 (fun w' => w'.cell? ⟨b, 4, none⟩ = some (.int .i64 (n : Int))) (go_keep) (fail)
    all_goals
      go_wp2_with fail
      go_ret2
      exact ⟨by first | rfl | (simp; done), by first | exact Hk.out.drewN _ | exact Hk.out.drew⟩
  · have t1 : (mn : Int) < (k : Int) * 80 + 80 := by omega
    have t2 : ¬ (k : Int) * 80 + 80 ≤ (mn : Int) := by omega
    go_wp2_with fail
    go_region_held3 (fun w' => w'.cell? ⟨b, 4, none⟩ = some (.int .i64 (mn : Int))) (go_keep) (fail)
    all_goals
      go_wp2_with fail
      go_ret2
      exact ⟨by first | rfl | (simp; done), by first | exact Hk.out.drewN _ | exact Hk.out.drew⟩
end Go.Proofs.Ytdcbgjbhoejpnaa

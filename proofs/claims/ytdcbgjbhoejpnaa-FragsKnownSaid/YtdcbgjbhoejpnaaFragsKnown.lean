/-
  argosylaw19: FragsKnown.
-/
import Derived.Test.YtdcbgjbhoejpnaaFrag5
import Derived.Test.YtdcbgjbhoejpnaaFragKn
namespace Go.Proofs.Ytdcbgjbhoejpnaa
open Go.RowKit

set_option maxRecDepth 100000 in
set_option maxHeartbeats 4000000 in
theorem FragsKnown_any {W : World} : Calls Try.prog 7 #[] W fun e w' => e = .returned (.bool true) ∧ Below W.heap.size W w' := by
  have hof := Lib.hid (hof_yes 1 9 81 W (by decide))
  rw [show cntH 81 = 2 by decide] at hof
  have hmk : ∀ w, (Instr.makeSlice 54 (.int .i64 80) (.int .i64 80)).run Try.prog w = .ok (.slice (some ⟨w.heap.size, 0, none⟩) 80 80) (w.alloc (.cells (encB (zeros 80)).toArray 5)) := fun w => make_by 80 (by omega) w
  go_enter Try.func7, Try.ntmps7
  go_wp2_with fail
  with_reducible refine (hof.out).mono ?_
  rintro e w1 ⟨rfl, hk1⟩
  have hd := (HdAt.new w1 1 9 2 0 81)
  have hk2 := hk1.alloc (.cells #[.int .i64 1, .int .i64 9, .int .i64 2, .int .i64 0, .int .i64 81] 49)
  have hbW := hk1.size
  clear hk1 hof
  go_upto_region 2 with (fail)
  generalize w1.alloc (.cells #[.int .i64 1, .int .i64 9, .int .i64 2, .int .i64 0, .int .i64 81] 49) = w2 at *
  generalize w1.heap.size = b at *
  obtain ⟨c0, c1, c2, c3, c4, bl, f3⟩ := hd.cells
  have hd3 := hd.ix 1
  have hk3 := hk2.set (p := ⟨b, 3, none⟩) (.inr hbW) (.int .i64 1)
  go_upto_region 3 with (fail)
  generalize w2.setCell ⟨b, 3, none⟩ (.int .i64 1) = w3 at *
  clear hd hk2 c0 c1 c2 c3 c4 bl f3
  obtain ⟨c0, c1, c2, c3, c4, bl, f3⟩ := hd3.cells
  have Hnew := Lib.hid (show Calls Try.prog 26 #[.agg #[.int .i64 1, .int .i64 9, .int .i64 2, .int .i64 1, .int .i64 81]] w3 _ from r_new [b] 1 9 2 1 81 w3 (fun x hx => by simp at hx; subst hx; exact bl) (by decide))
  have Hd := Lib.hid hd3
  have Hk := Lib.hid hk3
  clear hd3 hk3
  go_wp2_with fail
  with_reducible refine (Hnew.out).mono ?_
  rintro e w4 ⟨g, gb, rfl, hF, hg, hgb, hk4⟩
  have HD4 := Lib.hid (Hd.out.kp hk4 (fun h => h))
  have HF4 := Lib.hid hF
  have HK4 := Lib.hid (Hk.out.trans hk4)
  have hgW : W.heap.size ≤ g := by have := Hk.out.size; omega
  have hgbW : W.heap.size ≤ gb := by have := Hk.out.size; omega
  have hbg : b ≠ g := by omega
  have hbgb : b ≠ gb := by omega
  clear hF hk4 c0 c1 c2 c3 c4 f3 Hd Hk Hnew bl hg hgb
  have Hkn := Lib.hid (known19 w4)
  go_wp2_with fail
  with_reducible refine (Hkn.out).mono ?_
  rintro e w5 ⟨rfl, hk⟩
  have HD5 := Lib.hid (HD4.out.kp hk (fun h => h))
  have HF5 := Lib.hid (HF4.out.no hk)
  have HK5 := Lib.hid (HK4.out.trans hk)
  clear Hkn
  clear hk HD4 HF4 HK4
  obtain ⟨c0, c1, c2, c3, c4, bl, f3⟩ := HD5.out.cells
  have hkb : Kp (fun _ => False) w5 (w5.alloc (.cells #[.int .u8 7] 5)) := (Kp.refl _ w5).alloc _
  have Hput := Lib.hid (show Calls Try.prog 28 #[.pointer (some ⟨g, 0, none⟩), .agg #[.int .i64 1, .int .i64 9, .int .i64 2, .int .i64 1, .int .i64 81], .slice (some ⟨w5.heap.size, 0, none⟩) 1 1] _ _ from r_put (HF5.out.no hkb) 1 (by omega) (p := [7]) (m := 1) (c := 1) (bs_lit (n := 1) [7] (Whole.new w5 5 #[.int .u8 7]) rfl) (by omega) (by simp))
  go_wp2_with fail
  with_reducible refine (Hput.out).mono ?_
  rintro e w6 ⟨rfl, L1, hF6, hL1, hk6⟩
  rw [if_neg (by simp)] at hF6
  have hk6' := (HK5.out.trans hkb).no.trans hk6
  have HD6 := Lib.hid ((HD5.out.kp hkb (fun h => h)).kp hk6 (fun e => e.elim hbg hbgb))
  have HF6 := Lib.hid hF6
  have HL1 : Hid (∀ j, InL L1 j ↔ j = 1) := Lib.hid (fun j => by rw [hL1]; exact ⟨fun h => h.elim (fun h => absurd h (inl_nil _)) (fun h => h), .inr⟩)
  have HK6 := Lib.hid (hk6'.mono (S' := fun _ => False) (fun k hk e => by rcases e with rfl | rfl <;> omega))
  clear hkb hk6 hk6' hF6 hL1 Hput HD5 HF5 HK5
  clear c0 c1 c2 c3 c4 bl f3
  obtain ⟨c0, c1, c2, c3, c4, bl, f3⟩ := HD6.out.cells
  have hkb : Kp (fun _ => False) w6 (w6.alloc (.cells #[.int .u8 8] 5)) := (Kp.refl _ w6).alloc _
  have hin : L1.any (hasP ((1 : Nat) : Int)) = true := (has_iff L1 _).2 ((HL1.out _).2 rfl)
  have hput := r_put (HF6.out.no hkb) 1 (by omega) (p := [8]) (m := 1) (c := 1) (bs_lit (n := 1) [8] (Whole.new w6 5 #[.int .u8 8]) rfl) (by omega) (by simp)
  rw [if_pos hin] at hput
  have Hput := Lib.hid (show Calls Try.prog 28 #[.pointer (some ⟨g, 0, none⟩), .agg #[.int .i64 1, .int .i64 9, .int .i64 2, .int .i64 1, .int .i64 81], .slice (some ⟨w6.heap.size, 0, none⟩) 1 1] _ _ from hput)
  clear hput hin
  go_wp2_with fail
  with_reducible refine (Hput.out).mono ?_
  rintro e w7 ⟨rfl, L2, hF7, hL2, hk7⟩
  have hk7' := (HK6.out.trans hkb).no.trans hk7
  have HD7 := Lib.hid ((HD6.out.kp hkb (fun h => h)).kp hk7 (fun e => e.elim hbg hbgb))
  have HF7 := Lib.hid hF7
  have HL2 : Hid (∀ j, InL L2 j ↔ j = 1) := Lib.hid (fun j => by rw [hL2, HL1.out]; exact ⟨fun h => h.elim (fun h => h) (fun h => h), .inl⟩)
  have HK7 := Lib.hid (hk7'.mono (S' := fun _ => False) (fun k hk e => by rcases e with rfl | rfl <;> omega))
  clear hkb hk7 hk7' hF7 hL2 Hput HD6 HF6 HK6 HL1
  clear c0 c1 c2 c3 c4 bl f3
  obtain ⟨c0, c1, c2, c3, c4, bl, f3⟩ := HD7.out.cells
  have Hput := Lib.hid (show Calls Try.prog 28 #[.pointer (some ⟨g, 0, none⟩), .agg #[.int .i64 1, .int .i64 9, .int .i64 2, .int .i64 1, .int .i64 81], .slice none 0 0] _ _ from r_putN HF7.out 1 9 2 1 81 none 0 0 (by omega) (.inr ⟨rfl, rfl, rfl, rfl, .inr (.inr ⟨by omega, by omega, by omega⟩)⟩))
  go_wp2_with fail
  with_reducible refine (Hput.out).mono ?_
  rintro e w8 ⟨rfl, hk⟩
  have HD8 := Lib.hid (HD7.out.kp hk (fun h => h))
  have HF8 := Lib.hid (HF7.out.no hk)
  have HK8 := Lib.hid (HK7.out.trans hk)
  clear Hput
  clear hk HD7 HF7 HK7
  clear c0 c1 c2 c3 c4 bl f3
  obtain ⟨c0, c1, c2, c3, c4, bl, f3⟩ := HD8.out.cells
  have hkb : Kp (fun _ => False) w8 (w8.alloc (.cells #[.int .i64 1, .int .i64 9, .int .i64 2, .int .i64 1, .int .i64 81] 49)) := (Kp.refl _ w8).alloc _
  have hx := HdAt.new w8 1 9 2 1 81
  have HF9 := Lib.hid (HF8.out.alloc (.cells #[.int .i64 1, .int .i64 9, .int .i64 2, .int .i64 1, .int .i64 81] 49))
  have HD9 := Lib.hid (HD8.out.kp hkb (fun h => h))
  have HK9 := Lib.hid (HK8.out.trans hkb)
  have hxW := HK8.out.size
  have hbl8 := bl
  have hgl8 := HF8.out.lt
  have HL9 := HL2
  clear hkb HF8 HD8 HK8
  go_upto_region 10 with (fail)
  clear c0 c1 c2 c3 c4 bl f3
  generalize w8.alloc (.cells #[.int .i64 1, .int .i64 9, .int .i64 2, .int .i64 1, .int .i64 81] 49) = w9 at *
  have hbx : b ≠ w8.heap.size ∧ g ≠ w8.heap.size ∧ gb ≠ w8.heap.size := by omega
  generalize w8.heap.size = xb at *
  have x1 := hx.cell 1
  have fx1 := hx.frozen 1
  have hxl := hx.lt
  simp at x1
  have hx10 : HdAt (w9.setCell ⟨xb, 1, none⟩ (.int .i64 10)) xb 1 10 2 1 81 := hx.set 1 (.int .i64 10)
  have hks : Kp (fun j => j = xb) w9 (w9.setCell ⟨xb, 1, none⟩ (.int .i64 10)) := Kp.set (S := fun j => j = xb) (Kp.refl _ w9) (p := ⟨xb, 1, none⟩) (.inl rfl) _
  have HF10 := Lib.hid (HF9.out.beside (hks.mono (S' := fun j => j ∈ [xb, b]) (fun j _ e => by simp [e])))
  have HD10 := Lib.hid (HD9.out.kp hks hbx.1)
  have HK10 := Lib.hid ((HK9.out.no.trans hks).mono (S' := fun _ => False) (fun j hj e => by omega))
  have HX10 := Lib.hid hx10
  go_upto_region 11 with (fail)
  generalize w9.setCell ⟨xb, 1, none⟩ (.int .i64 10) = w10 at *
  clear hks hx hx10 x1 fx1 hxl HF9 HD9 HK9 hbl8 hgl8
  obtain ⟨x0, x1, x2, x3, x4, xl, xf⟩ := HX10.out.cells
  have hkb : Kp (fun _ => False) w10 (w10.alloc (.cells #[.int .u8 7] 5)) := (Kp.refl _ w10).alloc _
  have Hput := Lib.hid (show Calls Try.prog 28 #[.pointer (some ⟨g, 0, none⟩), .agg #[.int .i64 1, .int .i64 10, .int .i64 2, .int .i64 1, .int .i64 81], .slice (some ⟨w10.heap.size, 0, none⟩) 1 1] _ _ from r_putN (HF10.out.no hkb) 1 10 2 1 81 _ 1 1 (by omega) (.inl (by decide)))
  go_wp2_with fail
  with_reducible refine (Hput.out).mono ?_
  rintro e w11 ⟨rfl, hk⟩
  have hk2 := hkb.trans hk
  clear hkb hk
  have hk := hk2
  clear hk2
  have HX11 := Lib.hid (HX10.out.kp hk (fun h => h))
  have HD11 := Lib.hid (HD10.out.kp hk (fun h => h))
  have HF11 := Lib.hid (HF10.out.no hk)
  have HK11 := Lib.hid (HK10.out.trans hk)
  clear HX10
  clear Hput x0 x1 x2 x3 x4 xl xf
  clear hk HD10 HF10 HK10
  obtain ⟨c0, c1, c2, c3, c4, bl, f3⟩ := HD11.out.cells
  obtain ⟨x0, x1, x2, x3, x4, xl, xf⟩ := HX11.out.cells
  have fx := fun i => Whole.frozen HX11.out i
  have fx0 := fx 0
  have fx1 := fx 1
  have fx2 := fx 2
  have fx4 := fx 4
  clear fx
  go_upto_region 13 with (fail)
  have hx12 : HdAt (((((w11.setCell ⟨xb, 0, none⟩ (.int .i64 1)).setCell ⟨xb, 1, none⟩ (.int .i64 9)).setCell ⟨xb, 2, none⟩ (.int .i64 2)).setCell ⟨xb, 3, none⟩ (.int .i64 1)).setCell ⟨xb, 4, none⟩ (.int .i64 81)) xb 1 9 2 1 81 := ((((Whole.set HX11.out 0 (.int .i64 1)).set 1 (.int .i64 9)).set 2 (.int .i64 2)).set 3 (.int .i64 1)).set 4 (.int .i64 81)
  have hks : Kp (fun j => j = xb) w11 (((((w11.setCell ⟨xb, 0, none⟩ (.int .i64 1)).setCell ⟨xb, 1, none⟩ (.int .i64 9)).setCell ⟨xb, 2, none⟩ (.int .i64 2)).setCell ⟨xb, 3, none⟩ (.int .i64 1)).setCell ⟨xb, 4, none⟩ (.int .i64 81)) := Kp.set (S := fun j => j = xb) (Kp.set (S := fun j => j = xb) (Kp.set (S := fun j => j = xb) (Kp.set (S := fun j => j = xb) (Kp.set (S := fun j => j = xb) (Kp.refl _ w11) (p := ⟨xb, 0, none⟩) (.inl rfl) _) (p := ⟨xb, 1, none⟩) (.inl rfl) _) (p := ⟨xb, 2, none⟩) (.inl rfl) _) (p := ⟨xb, 3, none⟩) (.inl rfl) _) (p := ⟨xb, 4, none⟩) (.inl rfl) _
  generalize ((((w11.setCell ⟨xb, 0, none⟩ (.int .i64 1)).setCell ⟨xb, 1, none⟩ (.int .i64 9)).setCell ⟨xb, 2, none⟩ (.int .i64 2)).setCell ⟨xb, 3, none⟩ (.int .i64 1)).setCell ⟨xb, 4, none⟩ (.int .i64 81) = w12 at *
  have HF12 := Lib.hid (HF11.out.beside (hks.mono (S' := fun j => j ∈ [xb, b]) (fun j _ e => by simp [e])))
  have HD12 := Lib.hid (HD11.out.kp hks hbx.1)
  have HK12 := Lib.hid ((HK11.out.no.trans hks).mono (S' := fun _ => False) (fun j hj e => by omega))
  clear hks x0 x1 x2 x3 x4 xl xf fx0 fx1 fx2 fx4 c0 c1 c2 c3 c4 bl f3 HF11 HD11 HK11 HX11
  have x0 := hx12.cell 0
  have fx0 := hx12.frozen 0
  have xl := hx12.lt
  simp at x0
  have hx13 : HdAt (w12.setCell ⟨xb, 0, none⟩ (.int .i64 2)) xb 2 9 2 1 81 := hx12.set 0 (.int .i64 2)
  have hks : Kp (fun j => j = xb) w12 (w12.setCell ⟨xb, 0, none⟩ (.int .i64 2)) := Kp.set (S := fun j => j = xb) (Kp.refl _ w12) (p := ⟨xb, 0, none⟩) (.inl rfl) _
  go_upto_region 14 with (fail)
  generalize w12.setCell ⟨xb, 0, none⟩ (.int .i64 2) = w13 at *
  have HF13 := Lib.hid (HF12.out.beside (hks.mono (S' := fun j => j ∈ [xb, b]) (fun j _ e => by simp [e])))
  have HD13 := Lib.hid (HD12.out.kp hks hbx.1)
  have HK13 := Lib.hid ((HK12.out.no.trans hks).mono (S' := fun _ => False) (fun j hj e => by omega))
  clear hks x0 fx0 xl HF12 HD12 HK12 hx12
  obtain ⟨x0, x1, x2, x3, x4, xl, xf⟩ := hx13.cells
  have hkb : Kp (fun _ => False) w13 (w13.alloc (.cells #[.int .u8 7] 5)) := (Kp.refl _ w13).alloc _
  have Hput := Lib.hid (show Calls Try.prog 28 #[.pointer (some ⟨g, 0, none⟩), .agg #[.int .i64 2, .int .i64 9, .int .i64 2, .int .i64 1, .int .i64 81], .slice (some ⟨w13.heap.size, 0, none⟩) 1 1] _ _ from r_putN (HF13.out.no hkb) 2 9 2 1 81 _ 1 1 (by omega) (.inl (by decide)))
  go_wp2_with fail
  with_reducible refine (Hput.out).mono ?_
  rintro e w14 ⟨rfl, hk⟩
  have HF14 := Lib.hid ((HF13.out.no hkb).no hk)
  have HD14 := Lib.hid ((HD13.out.kp hkb (fun h => h)).kp hk (fun h => h))
  have HK14 := Lib.hid ((HK13.out.trans hkb).trans hk)
  clear hkb hk x0 x1 x2 x3 x4 xl xf HF13 HD13 HK13 hx13 Hput
  have Hput := Lib.hid (show Calls Try.prog 28 #[.pointer (some ⟨g, 0, none⟩), .agg #[.int .i64 0, .int .i64 0, .int .i64 0, .int .i64 0, .int .i64 0], .slice none 0 0] _ _ from r_putN HF14.out 0 0 0 0 0 none 0 0 (by omega) (.inl (by decide)))
  go_wp2_with fail
  with_reducible refine (Hput.out).mono ?_
  rintro e w15 ⟨rfl, hk⟩
  have HF15 := Lib.hid (HF14.out.no hk)
  have HD15 := Lib.hid (HD14.out.kp hk (fun h => h))
  have HK15 := Lib.hid (HK14.out.trans hk)
  clear hk HF14 HD14 HK14 Hput
  have hnf : fullB L2 2 = false := by
    rw [Bool.eq_false_iff]
    intro h
    have := (full_iff HF15.out.norm (by omega) (by omega)).1 h 0 (by omega)
    have := (HL2.out 0).1 this
    omega
  have Hby := Lib.hid (r_bytesN HF15.out hnf)
  clear hnf
  go_wp2_with fail
  with_reducible refine (Hby.out).mono ?_
  rintro e w16 ⟨rfl, hk⟩
  have HF16 := Lib.hid (HF15.out.no hk)
  have HD16 := Lib.hid (HD15.out.kp hk (fun h => h))
  have HK16 := Lib.hid (HK15.out.trans hk)
  clear hk HF15 HD15 HK15 Hby
  obtain ⟨c0, c1, c2, c3, c4, bl, f3⟩ := HD16.out.cells
  have hkb : Kp (fun _ => False) w16 (w16.alloc (.cells #[.int .i64 1, .int .i64 9, .int .i64 2, .int .i64 1, .int .i64 81] 49)) := (Kp.refl _ w16).alloc _
  have hz := HdAt.new w16 1 9 2 1 81
  have HF17 := Lib.hid (HF16.out.alloc (.cells #[.int .i64 1, .int .i64 9, .int .i64 2, .int .i64 1, .int .i64 81] 49))
  have HK17 := Lib.hid (HK16.out.trans hkb)
  have hgl := HF16.out.lt
  have hzW := HK16.out.size
  go_upto_region 18 with (fail)
  generalize w16.alloc (.cells #[.int .i64 1, .int .i64 9, .int .i64 2, .int .i64 1, .int .i64 81] 49) = w17 at *
  have hzg : w16.heap.size ≠ g ∧ w16.heap.size ≠ gb := by omega
  generalize w16.heap.size = zb at *
  clear hkb c0 c1 c2 c3 c4 bl f3 HD16 HF16 HK16 hgl
  obtain ⟨z0, z1, z2, z3, z4, zl, zf⟩ := hz.cells
  have hz18 := hz.ix 0
  have hks : Kp (fun j => j = zb) w17 (w17.setCell ⟨zb, 3, none⟩ (.int .i64 0)) := Kp.set (S := fun j => j = zb) (Kp.refl _ w17) (p := ⟨zb, 3, none⟩) (.inl rfl) _
  have HF18 := Lib.hid (HF17.out.beside (hks.mono (S' := fun j => j ∈ [zb, xb, b]) (fun j _ e => by simp [e])))
  have HK18 := Lib.hid ((HK17.out.no.trans hks).mono (S' := fun _ => False) (fun j hj e => by omega))
  go_upto_region 19 with (fail)
  generalize w17.setCell ⟨zb, 3, none⟩ (.int .i64 0) = w18 at *
  clear hks z0 z1 z2 z3 z4 zl zf hz HF17 HK17
  have HZ18 := Lib.hid hz18
  obtain ⟨c0, c1, c2, c3, c4, bl, f3⟩ := hz18.cells
  clear hz18
  have hpz : ∀ w', Kp (fun _ => False) w18 w' → ∀ x, Src w' 1 (.slice (some ⟨x, 0, none⟩) 80 80) 80 (encB (zeros 80)) →
      Calls Try.prog 28 #[.pointer (some ⟨g, 0, none⟩), .agg #[.int .i64 1, .int .i64 9, .int .i64 2, .int .i64 0, .int .i64 81], .slice (some ⟨x, 0, none⟩) 80 80] w' fun e w'' => e = .returned (.bool true) ∧
      ∃ L', HasFr w'' [zb, xb, b] g gb 1 9 2 81 L' (putD (putD (zeros 81) (1 * 80) [7]) (0 * 80) (zeros 80)) ∧ (∀ j, InL L' j ↔ InL L2 j ∨ j = 0) ∧ Kp (fun j => j = g ∨ j = gb) w' w'' := fun w' hk x hx => by
    have h := r_put (HF18.out.no hk) 0 (by omega) hx (by omega) (by simp)
    have hn : L2.any (hasP ((0 : Nat) : Int)) = false := by
      rw [Bool.eq_false_iff]
      intro h
      have := (HL2.out _).1 ((has_iff L2 _).1 h)
      omega
    rw [if_neg (by rw [hn]; simp)] at h
    exact h
  have Hpz := Lib.hid hpz
  clear hpz
  go_cut [] (fun wx => ∃ L', HasFr wx [zb, xb, b] g gb 1 9 2 81 L' (putD (putD (zeros 81) (1 * 80) [7]) (0 * 80) (zeros 80)) ∧ Hid (∀ j, InL L' j ↔ InL L2 j ∨ j = 0) ∧ Kp (fun j => j = g ∨ j = gb) w18 wx)
  case first =>
    have hk7d : Kp (fun _ => False) w18 w18.drew := (Kp.refl _ w18).drew
    go_region_held3 (fun w' => w'.cell? ⟨zb, 0, none⟩ = some (.int .i64 1) ∧ w'.cell? ⟨zb, 1, none⟩ = some (.int .i64 9) ∧ w'.cell? ⟨zb, 2, none⟩ = some (.int .i64 2) ∧ w'.cell? ⟨zb, 3, none⟩ = some (.int .i64 0) ∧ w'.cell? ⟨zb, 4, none⟩ = some (.int .i64 81)) (first | go_keep | exact (HZ18.out.kp (S := fun j => j = g ∨ j = gb) (by assumption) (fun e => e.elim hzg.1 hzg.2)).five)
      (first | (go_at_call 28; (refine (Hpz.out _ (by ((repeat (first | assumption | (with_reducible exact Kp.refl _ _) | with_reducible apply Kp.alloc | with_reducible apply Kp.drew)); done)) _ (by first | exact bs_lit (n := 80) (zeros 80) (Whole.new _ _ _) rfl | exact bs_lit (n := 80) (zeros 80) (Whole.new _ _ _).drew rfl)).mono ?_); rintro e w' ⟨rfl, L3, hF8, hL3, hk8⟩; have hk9 : Kp (fun j => j = g ∨ j = gb) w18 w' := Kp.trans (by ((repeat (first | assumption | (with_reducible exact Kp.refl _ _) | with_reducible apply Kp.alloc | with_reducible apply Kp.drew)); done)) hk8))
    all_goals
      go_wp2_with fail
      go_meet
      case rel => exact ⟨L3, hF8, Lib.hid hL3, hk9⟩
  case rest =>
  obtain ⟨L3, hF19, HL3, hk19⟩ := hcut
  generalize wc = w19 at *
  have hfull3 : fullB L3 2 = true := (full_iff hF19.norm (by omega) (by omega)).2 (fun k hk => by rw [HL3.out, HL2.out]; omega)
  have HK19 := Lib.hid ((HK18.out.no.trans hk19).mono (S' := fun _ => False) (fun k hk e => by rcases e with rfl | rfl <;> omega))
  have HZ19 := Lib.hid (HZ18.out.kp hk19 (fun e => e.elim hzg.1 hzg.2))
  have Hby := Lib.hid (r_bytesY hF19 hfull3)
  have HF19 := Lib.hid hF19
  have hD : (putD (putD (zeros 81) (1 * 80) [7]) (0 * 80) (zeros 80))[80]? = some 7 := by decide
  generalize putD (putD (zeros 81) (1 * 80) [7]) (0 * 80) (zeros 80) = DD at *
  have HDD := Lib.hid hD
  clear hF19 hk19 hfull3 hD HF18 HZ18 HK18 c0 c1 c2 c3 c4 bl f3 Hpz
  go_wp2_with fail
  with_reducible refine (Hby.out).mono ?_
  rintro e w20 ⟨Ab, rfl, hrow, hk⟩
  obtain ⟨rg, roff, rcap, hrv, _, hrg, _, _, _, hrc⟩ := hrow.full (by omega)
  cases hrv
  have r80 := hrc 80 (.int .u8 7) (by simp [encB, HDD.out])
  have HF20 := Lib.hid (HF19.out.no hk)
  have HZ20 := Lib.hid (HZ19.out.kp hk (fun h => h))
  have HK20 := Lib.hid (HK19.out.trans hk)
  clear hrow hk hrc HF19 HZ19 HK19 Hby
  go_upto_region 21 with (fail)
  obtain ⟨z0, z1, z2, z3, z4, zl, zf⟩ := HZ20.out.cells
  have Hhead := Lib.hid (fun (w' : World) (h : Kp (fun _ => False) w20 w') => (show Calls Try.prog 30 #[.pointer (some ⟨g, 0, none⟩)] w' fun e w'' => e = .returned (.agg #[.int .i64 1, .int .i64 9, .int .i64 2, .int .i64 0, .int .i64 81]) ∧ Kp (fun _ => False) w' w'' from r_head (HF20.out.no h)))
  have Hnew := Lib.hid (fun (w' : World) => new_no 0 0 0 0 0 w' (by decide))
  have heqh := fun w => eql_hd w 1 9 2 0 81 1 9 2 0 81
  rw [show hdB 1 9 2 0 81 1 9 2 0 81 = true by decide] at heqh
  have hkd : Kp (fun _ => False) w20 w20.drew := (Kp.refl _ w20).drew
  have hS : ∀ w', Kp (fun _ => False) w20 w' → w'.cell? ⟨rg, roff + 80, none⟩ = some (.int .u8 7) ∧ w'.cell? ⟨zb, 0, none⟩ = some (.int .i64 1) ∧ w'.cell? ⟨zb, 1, none⟩ = some (.int .i64 9) ∧ w'.cell? ⟨zb, 2, none⟩ = some (.int .i64 2) ∧ w'.cell? ⟨zb, 3, none⟩ = some (.int .i64 0) ∧ w'.cell? ⟨zb, 4, none⟩ = some (.int .i64 81) ∧ Kp (fun _ => False) w20 w' := fun w' h => by
    obtain ⟨a0, a1, a2, a3, a4⟩ := (HZ20.out.kp h (fun h => h)).five
    exact ⟨by rw [h.cell (p := ⟨rg, _, none⟩) hrg (fun h => h)]; exact r80, a0, a1, a2, a3, a4, h⟩
  have HS := Lib.hid hS
  clear hS z0 z1 z2 z3 z4 zl zf r80
  refine wp_region_held_drew (S := (fun w' => w'.cell? ⟨rg, roff + 80, none⟩ = some (.int .u8 7) ∧ w'.cell? ⟨zb, 0, none⟩ = some (.int .i64 1) ∧ w'.cell? ⟨zb, 1, none⟩ = some (.int .i64 9) ∧ w'.cell? ⟨zb, 2, none⟩ = some (.int .i64 2) ∧ w'.cell? ⟨zb, 3, none⟩ = some (.int .i64 0) ∧ w'.cell? ⟨zb, 4, none⟩ = some (.int .i64 81) ∧ Kp (fun _ => False) w20 w')) (by kernel_rfl) (HS.out _ hkd) (fun hHeld => ?_)
  refine wpAnyH_take (i := 0) (oi := { dst := some 59, op := Op.move (.tmp 3), type := _, pos := _, after := _, guard := _ }) (v := ?_) rfl (by kernel_rfl) (by kernel_rfl) (by kernel_rfl) (fun _ _ _ h => h) (Or.inl ⟨by rfl, ?_⟩) hHeld ?_
  rotate_left
  · intro w99 hSw
    first | (go_simp; done) | (go_simp; with_reducible rfl)
  try simp only [Act.put, List.setIfInBounds_toArray, List.set_cons_zero, List.set_cons_succ]
  refine wpAnyH_take (i := 1) (oi := { dst := some 60, op := Op.move (.tmp 59), type := _, pos := _, after := _, guard := _ }) (v := ?_) rfl (by kernel_rfl) (by kernel_rfl) (by kernel_rfl) (fun _ _ _ h => h) (Or.inl ⟨by rfl, ?_⟩) hHeld ?_
  rotate_left
  · intro w99 hSw
    first | (go_simp; done) | (go_simp; with_reducible rfl)
  try simp only [Act.put, List.setIfInBounds_toArray, List.set_cons_zero, List.set_cons_succ]
  refine wpAnyH_take (i := 2) (oi := { dst := some 61, op := Op.move (.tmp 4), type := _, pos := _, after := _, guard := _ }) (v := ?_) rfl (by kernel_rfl) (by kernel_rfl) (by kernel_rfl) (fun _ _ _ h => h) (Or.inl ⟨by rfl, ?_⟩) hHeld ?_
  rotate_left
  · intro w99 hSw
    first | (go_simp; done) | (go_simp; with_reducible rfl)
  try simp only [Act.put, List.setIfInBounds_toArray, List.set_cons_zero, List.set_cons_succ]
  refine wpAnyH_take (i := 3) (oi := { dst := some 62, op := Op.pick (.tmp 60) (.tmp 61) (.const (Value.bool false)), type := _, pos := _, after := _, guard := _ }) (v := ?_) rfl (by kernel_rfl) (by kernel_rfl) (by kernel_rfl) (fun _ _ _ h => h) (Or.inl ⟨by rfl, ?_⟩) hHeld ?_
  rotate_left
  · intro w99 hSw
    first | (go_simp; done) | (go_simp; with_reducible rfl)
  try simp only [Act.put, List.setIfInBounds_toArray, List.set_cons_zero, List.set_cons_succ]
  refine wpAnyH_take (i := 4) (oi := { dst := some 63, op := Op.move (.tmp 62), type := _, pos := _, after := _, guard := _ }) (v := ?_) rfl (by kernel_rfl) (by kernel_rfl) (by kernel_rfl) (fun _ _ _ h => h) (Or.inl ⟨by rfl, ?_⟩) hHeld ?_
  rotate_left
  · intro w99 hSw
    first | (go_simp; done) | (go_simp; with_reducible rfl)
  try simp only [Act.put, List.setIfInBounds_toArray, List.set_cons_zero, List.set_cons_succ]
  refine wpAnyH_take (i := 5) (oi := { dst := some 64, op := Op.move (.tmp 5), type := _, pos := _, after := _, guard := _ }) (v := ?_) rfl (by kernel_rfl) (by kernel_rfl) (by kernel_rfl) (fun _ _ _ h => h) (Or.inl ⟨by rfl, ?_⟩) hHeld ?_
  rotate_left
  · intro w99 hSw
    first | (go_simp; done) | (go_simp; with_reducible rfl)
  try simp only [Act.put, List.setIfInBounds_toArray, List.set_cons_zero, List.set_cons_succ]
  refine wpAnyH_take (i := 6) (oi := { dst := some 65, op := Op.unOp UnOp.not 4 (.tmp 64), type := _, pos := _, after := _, guard := _ }) (v := ?_) rfl (by kernel_rfl) (by kernel_rfl) (by kernel_rfl) (fun _ _ _ h => h) (Or.inl ⟨by rfl, ?_⟩) hHeld ?_
  rotate_left
  · intro w99 hSw
    first | (go_simp; done) | (go_simp; with_reducible rfl)
  try simp only [Act.put, List.setIfInBounds_toArray, List.set_cons_zero, List.set_cons_succ]
  refine wpAnyH_take (i := 7) (oi := { dst := some 66, op := Op.pick (.tmp 63) (.tmp 65) (.const (Value.bool false)), type := _, pos := _, after := _, guard := _ }) (v := ?_) rfl (by kernel_rfl) (by kernel_rfl) (by kernel_rfl) (fun _ _ _ h => h) (Or.inl ⟨by rfl, ?_⟩) hHeld ?_
  rotate_left
  · intro w99 hSw
    first | (go_simp; done) | (go_simp; with_reducible rfl)
  try simp only [Act.put, List.setIfInBounds_toArray, List.set_cons_zero, List.set_cons_succ]
  refine wpAnyH_take (i := 8) (oi := { dst := some 67, op := Op.move (.tmp 66), type := _, pos := _, after := _, guard := _ }) (v := ?_) rfl (by kernel_rfl) (by kernel_rfl) (by kernel_rfl) (fun _ _ _ h => h) (Or.inl ⟨by rfl, ?_⟩) hHeld ?_
  rotate_left
  · intro w99 hSw
    first | (go_simp; done) | (go_simp; with_reducible rfl)
  try simp only [Act.put, List.setIfInBounds_toArray, List.set_cons_zero, List.set_cons_succ]
  refine wpAnyH_take (i := 9) (oi := { dst := some 68, op := Op.move (.tmp 7), type := _, pos := _, after := _, guard := _ }) (v := ?_) rfl (by kernel_rfl) (by kernel_rfl) (by kernel_rfl) (fun _ _ _ h => h) (Or.inl ⟨by rfl, ?_⟩) hHeld ?_
  rotate_left
  · intro w99 hSw
    first | (go_simp; done) | (go_simp; with_reducible rfl)
  try simp only [Act.put, List.setIfInBounds_toArray, List.set_cons_zero, List.set_cons_succ]
  refine wpAnyH_take (i := 10) (oi := { dst := some 69, op := Op.unOp UnOp.not 4 (.tmp 68), type := _, pos := _, after := _, guard := _ }) (v := ?_) rfl (by kernel_rfl) (by kernel_rfl) (by kernel_rfl) (fun _ _ _ h => h) (Or.inl ⟨by rfl, ?_⟩) hHeld ?_
  rotate_left
  · intro w99 hSw
    first | (go_simp; done) | (go_simp; with_reducible rfl)
  try simp only [Act.put, List.setIfInBounds_toArray, List.set_cons_zero, List.set_cons_succ]
  refine wpAnyH_take (i := 11) (oi := { dst := some 70, op := Op.pick (.tmp 67) (.tmp 69) (.const (Value.bool false)), type := _, pos := _, after := _, guard := _ }) (v := ?_) rfl (by kernel_rfl) (by kernel_rfl) (by kernel_rfl) (fun _ _ _ h => h) (Or.inl ⟨by rfl, ?_⟩) hHeld ?_
  rotate_left
  · intro w99 hSw
    first | (go_simp; done) | (go_simp; with_reducible rfl)
  try simp only [Act.put, List.setIfInBounds_toArray, List.set_cons_zero, List.set_cons_succ]
  refine wpAnyH_take (i := 12) (oi := { dst := some 71, op := Op.move (.tmp 70), type := _, pos := _, after := _, guard := _ }) (v := ?_) rfl (by kernel_rfl) (by kernel_rfl) (by kernel_rfl) (fun _ _ _ h => h) (Or.inl ⟨by rfl, ?_⟩) hHeld ?_
  rotate_left
  · intro w99 hSw
    first | (go_simp; done) | (go_simp; with_reducible rfl)
  try simp only [Act.put, List.setIfInBounds_toArray, List.set_cons_zero, List.set_cons_succ]
  refine wpAnyH_take (i := 13) (oi := { dst := some 72, op := Op.move (.tmp 8), type := _, pos := _, after := _, guard := _ }) (v := ?_) rfl (by kernel_rfl) (by kernel_rfl) (by kernel_rfl) (fun _ _ _ h => h) (Or.inl ⟨by rfl, ?_⟩) hHeld ?_
  rotate_left
  · intro w99 hSw
    first | (go_simp; done) | (go_simp; with_reducible rfl)
  try simp only [Act.put, List.setIfInBounds_toArray, List.set_cons_zero, List.set_cons_succ]
  refine wpAnyH_take (i := 14) (oi := { dst := some 73, op := Op.unOp UnOp.not 4 (.tmp 72), type := _, pos := _, after := _, guard := _ }) (v := ?_) rfl (by kernel_rfl) (by kernel_rfl) (by kernel_rfl) (fun _ _ _ h => h) (Or.inl ⟨by rfl, ?_⟩) hHeld ?_
  rotate_left
  · intro w99 hSw
    first | (go_simp; done) | (go_simp; with_reducible rfl)
  try simp only [Act.put, List.setIfInBounds_toArray, List.set_cons_zero, List.set_cons_succ]
  refine wpAnyH_take (i := 15) (oi := { dst := some 74, op := Op.pick (.tmp 71) (.tmp 73) (.const (Value.bool false)), type := _, pos := _, after := _, guard := _ }) (v := ?_) rfl (by kernel_rfl) (by kernel_rfl) (by kernel_rfl) (fun _ _ _ h => h) (Or.inl ⟨by rfl, ?_⟩) hHeld ?_
  rotate_left
  · intro w99 hSw
    first | (go_simp; done) | (go_simp; with_reducible rfl)
  try simp only [Act.put, List.setIfInBounds_toArray, List.set_cons_zero, List.set_cons_succ]
  refine wpAnyH_take (i := 16) (oi := { dst := some 75, op := Op.move (.tmp 74), type := _, pos := _, after := _, guard := _ }) (v := ?_) rfl (by kernel_rfl) (by kernel_rfl) (by kernel_rfl) (fun _ _ _ h => h) (Or.inl ⟨by rfl, ?_⟩) hHeld ?_
  rotate_left
  · intro w99 hSw
    first | (go_simp; done) | (go_simp; with_reducible rfl)
  try simp only [Act.put, List.setIfInBounds_toArray, List.set_cons_zero, List.set_cons_succ]
  refine wpAnyH_take (i := 17) (oi := { dst := some 76, op := Op.move (.tmp 9), type := _, pos := _, after := _, guard := _ }) (v := ?_) rfl (by kernel_rfl) (by kernel_rfl) (by kernel_rfl) (fun _ _ _ h => h) (Or.inl ⟨by rfl, ?_⟩) hHeld ?_
  rotate_left
  · intro w99 hSw
    first | (go_simp; done) | (go_simp; with_reducible rfl)
  try simp only [Act.put, List.setIfInBounds_toArray, List.set_cons_zero, List.set_cons_succ]
  refine wpAnyH_take (i := 18) (oi := { dst := some 77, op := Op.unOp UnOp.not 4 (.tmp 76), type := _, pos := _, after := _, guard := _ }) (v := ?_) rfl (by kernel_rfl) (by kernel_rfl) (by kernel_rfl) (fun _ _ _ h => h) (Or.inl ⟨by rfl, ?_⟩) hHeld ?_
  rotate_left
  · intro w99 hSw
    first | (go_simp; done) | (go_simp; with_reducible rfl)
  try simp only [Act.put, List.setIfInBounds_toArray, List.set_cons_zero, List.set_cons_succ]
  refine wpAnyH_take (i := 19) (oi := { dst := some 78, op := Op.pick (.tmp 75) (.tmp 77) (.const (Value.bool false)), type := _, pos := _, after := _, guard := _ }) (v := ?_) rfl (by kernel_rfl) (by kernel_rfl) (by kernel_rfl) (fun _ _ _ h => h) (Or.inl ⟨by rfl, ?_⟩) hHeld ?_
  rotate_left
  · intro w99 hSw
    first | (go_simp; done) | (go_simp; with_reducible rfl)
  try simp only [Act.put, List.setIfInBounds_toArray, List.set_cons_zero, List.set_cons_succ]
  refine wpAnyH_take (i := 20) (oi := { dst := some 79, op := Op.move (.tmp 78), type := _, pos := _, after := _, guard := _ }) (v := ?_) rfl (by kernel_rfl) (by kernel_rfl) (by kernel_rfl) (fun _ _ _ h => h) (Or.inl ⟨by rfl, ?_⟩) hHeld ?_
  rotate_left
  · intro w99 hSw
    first | (go_simp; done) | (go_simp; with_reducible rfl)
  try simp only [Act.put, List.setIfInBounds_toArray, List.set_cons_zero, List.set_cons_succ]
  refine wpAnyH_take (i := 21) (oi := { dst := some 80, op := Op.move (.tmp 10), type := _, pos := _, after := _, guard := _ }) (v := ?_) rfl (by kernel_rfl) (by kernel_rfl) (by kernel_rfl) (fun _ _ _ h => h) (Or.inl ⟨by rfl, ?_⟩) hHeld ?_
  rotate_left
  · intro w99 hSw
    first | (go_simp; done) | (go_simp; with_reducible rfl)
  try simp only [Act.put, List.setIfInBounds_toArray, List.set_cons_zero, List.set_cons_succ]
  refine wpAnyH_take (i := 22) (oi := { dst := some 81, op := Op.call { callee := Callee.builtin Builtin.len, args := #[(.tmp 80)], argTypes := #[54] }, type := _, pos := _, after := _, guard := _ }) (v := ?_) rfl (by kernel_rfl) (by kernel_rfl) (by kernel_rfl) (fun _ _ _ h => h) (Or.inl ⟨by rfl, ?_⟩) hHeld ?_
  rotate_left
  · intro w99 hSw
    first | (go_simp; done) | (go_simp; with_reducible rfl)
  try simp only [Act.put, List.setIfInBounds_toArray, List.set_cons_zero, List.set_cons_succ]
  refine wpAnyH_take (i := 23) (oi := { dst := some 82, op := Op.binOp BinOp.eql 3 (.tmp 81) (.const (.int .i64 0)) 3, type := _, pos := _, after := _, guard := _ }) (v := ?_) rfl (by kernel_rfl) (by kernel_rfl) (by kernel_rfl) (fun _ _ _ h => h) (Or.inl ⟨by rfl, ?_⟩) hHeld ?_
  rotate_left
  · intro w99 hSw
    first | (go_simp; done) | (go_simp; with_reducible rfl)
  try simp only [Act.put, List.setIfInBounds_toArray, List.set_cons_zero, List.set_cons_succ]
  refine wpAnyH_take (i := 24) (oi := { dst := some 83, op := Op.pick (.tmp 79) (.tmp 82) (.const (Value.bool false)), type := _, pos := _, after := _, guard := _ }) (v := ?_) rfl (by kernel_rfl) (by kernel_rfl) (by kernel_rfl) (fun _ _ _ h => h) (Or.inl ⟨by rfl, ?_⟩) hHeld ?_
  rotate_left
  · intro w99 hSw
    first | (go_simp; done) | (go_simp; with_reducible rfl)
  try simp only [Act.put, List.setIfInBounds_toArray, List.set_cons_zero, List.set_cons_succ]
  refine wpAnyH_take (i := 25) (oi := { dst := some 84, op := Op.move (.tmp 83), type := _, pos := _, after := _, guard := _ }) (v := ?_) rfl (by kernel_rfl) (by kernel_rfl) (by kernel_rfl) (fun _ _ _ h => h) (Or.inl ⟨by rfl, ?_⟩) hHeld ?_
  rotate_left
  · intro w99 hSw
    first | (go_simp; done) | (go_simp; with_reducible rfl)
  try simp only [Act.put, List.setIfInBounds_toArray, List.set_cons_zero, List.set_cons_succ]
  refine wpAnyH_take (i := 26) (oi := { dst := some 85, op := Op.move (.tmp 12), type := _, pos := _, after := _, guard := _ }) (v := ?_) rfl (by kernel_rfl) (by kernel_rfl) (by kernel_rfl) (fun _ _ _ h => h) (Or.inl ⟨by rfl, ?_⟩) hHeld ?_
  rotate_left
  · intro w99 hSw
    first | (go_simp; done) | (go_simp; with_reducible rfl)
  try simp only [Act.put, List.setIfInBounds_toArray, List.set_cons_zero, List.set_cons_succ]
  refine wpAnyH_take (i := 27) (oi := { dst := some 86, op := Op.call { callee := Callee.builtin Builtin.len, args := #[(.tmp 85)], argTypes := #[54] }, type := _, pos := _, after := _, guard := _ }) (v := ?_) rfl (by kernel_rfl) (by kernel_rfl) (by kernel_rfl) (fun _ _ _ h => h) (Or.inl ⟨by rfl, ?_⟩) hHeld ?_
  rotate_left
  · intro w99 hSw
    first | (go_simp; done) | (go_simp; with_reducible rfl)
  try simp only [Act.put, List.setIfInBounds_toArray, List.set_cons_zero, List.set_cons_succ]
  refine wpAnyH_take (i := 28) (oi := { dst := some 87, op := Op.binOp BinOp.eql 3 (.tmp 86) (.const (.int .i64 81)) 3, type := _, pos := _, after := _, guard := _ }) (v := ?_) rfl (by kernel_rfl) (by kernel_rfl) (by kernel_rfl) (fun _ _ _ h => h) (Or.inl ⟨by rfl, ?_⟩) hHeld ?_
  rotate_left
  · intro w99 hSw
    first | (go_simp; done) | (go_simp; with_reducible rfl)
  try simp only [Act.put, List.setIfInBounds_toArray, List.set_cons_zero, List.set_cons_succ]
  refine wpAnyH_take (i := 29) (oi := { dst := some 88, op := Op.pick (.tmp 84) (.tmp 87) (.const (Value.bool false)), type := _, pos := _, after := _, guard := _ }) (v := ?_) rfl (by kernel_rfl) (by kernel_rfl) (by kernel_rfl) (fun _ _ _ h => h) (Or.inl ⟨by rfl, ?_⟩) hHeld ?_
  rotate_left
  · intro w99 hSw
    first | (go_simp; done) | (go_simp; with_reducible rfl)
  try simp only [Act.put, List.setIfInBounds_toArray, List.set_cons_zero, List.set_cons_succ]
  refine wpAnyH_take (i := 30) (oi := { dst := some 89, op := Op.move (.tmp 88), type := _, pos := _, after := _, guard := _ }) (v := ?_) rfl (by kernel_rfl) (by kernel_rfl) (by kernel_rfl) (fun _ _ _ h => h) (Or.inl ⟨by rfl, ?_⟩) hHeld ?_
  rotate_left
  · intro w99 hSw
    first | (go_simp; done) | (go_simp; with_reducible rfl)
  try simp only [Act.put, List.setIfInBounds_toArray, List.set_cons_zero, List.set_cons_succ]
  refine wpAnyH_take (i := 31) (oi := { dst := some 90, op := Op.move (.tmp 12), type := _, pos := _, after := _, guard := _ }) (v := ?_) rfl (by kernel_rfl) (by kernel_rfl) (by kernel_rfl) (fun _ _ _ h => h) (Or.inl ⟨by rfl, ?_⟩) hHeld ?_
  rotate_left
  · intro w99 hSw
    first | (go_simp; done) | (go_simp; with_reducible rfl)
  try simp only [Act.put, List.setIfInBounds_toArray, List.set_cons_zero, List.set_cons_succ]
  refine wpAnyH_take (i := 32) (oi := { dst := some 91, op := Op.indexAddr 54 (.tmp 90) (.const (.int .i64 80)), type := _, pos := _, after := _, guard := _ }) (v := ?_) rfl (by kernel_rfl) (by kernel_rfl) (by kernel_rfl) (fun _ _ _ h => h) (Or.inl ⟨by rfl, ?_⟩) hHeld ?_
  rotate_left
  · intro w99 hSw
    first | (go_simp; done) | (go_simp; with_reducible rfl)
  try simp only [Act.put, List.setIfInBounds_toArray, List.set_cons_zero, List.set_cons_succ]
  refine wpAnyH_take (i := 33) (oi := { dst := some 92, op := Op.load 5 (.tmp 91), type := _, pos := _, after := _, guard := _ }) (v := ?_) rfl (by kernel_rfl) (by kernel_rfl) (by kernel_rfl) (fun _ _ _ h => h) (Or.inl ⟨by rfl, ?_⟩) hHeld ?_
  rotate_left
  · intro w99 hSw
    first | (go_simp; done) | (go_simp; with_reducible rfl)
  try simp only [Act.put, List.setIfInBounds_toArray, List.set_cons_zero, List.set_cons_succ]
  refine wpAnyH_take (i := 34) (oi := { dst := some 93, op := Op.binOp BinOp.eql 5 (.tmp 92) (.const (.int .u8 7)) 5, type := _, pos := _, after := _, guard := _ }) (v := ?_) rfl (by kernel_rfl) (by kernel_rfl) (by kernel_rfl) (fun _ _ _ h => h) (Or.inl ⟨by rfl, ?_⟩) hHeld ?_
  rotate_left
  · intro w99 hSw
    first | (go_simp; done) | (go_simp; with_reducible rfl)
  try simp only [Act.put, List.setIfInBounds_toArray, List.set_cons_zero, List.set_cons_succ]
  refine wpAnyH_take (i := 35) (oi := { dst := some 94, op := Op.pick (.tmp 89) (.tmp 93) (.const (Value.bool false)), type := _, pos := _, after := _, guard := _ }) (v := ?_) rfl (by kernel_rfl) (by kernel_rfl) (by kernel_rfl) (fun _ _ _ h => h) (Or.inl ⟨by rfl, ?_⟩) hHeld ?_
  rotate_left
  · intro w99 hSw
    first | (go_simp; done) | (go_simp; with_reducible rfl)
  try simp only [Act.put, List.setIfInBounds_toArray, List.set_cons_zero, List.set_cons_succ]
  refine wpAnyH_take (i := 36) (oi := { dst := some 95, op := Op.move (.tmp 94), type := _, pos := _, after := _, guard := _ }) (v := ?_) rfl (by kernel_rfl) (by kernel_rfl) (by kernel_rfl) (fun _ _ _ h => h) (Or.inl ⟨by rfl, ?_⟩) hHeld ?_
  rotate_left
  · intro w99 hSw
    first | (go_simp; done) | (go_simp; with_reducible rfl)
  try simp only [Act.put, List.setIfInBounds_toArray, List.set_cons_zero, List.set_cons_succ]
  refine wpAnyH_take (i := 37) (oi := { dst := some 96, op := Op.move (.tmp 2), type := _, pos := _, after := _, guard := _ }) (v := ?_) rfl (by kernel_rfl) (by kernel_rfl) (by kernel_rfl) (fun _ _ _ h => h) (Or.inl ⟨by rfl, ?_⟩) hHeld ?_
  rotate_left
  · intro w99 hSw
    first | (go_simp; done) | (go_simp; with_reducible rfl)
  try simp only [Act.put, List.setIfInBounds_toArray, List.set_cons_zero, List.set_cons_succ]
  refine wpAnyH_take (i := 39) (oi := { dst := some 98, op := Op.load 49 (.tmp 11), type := _, pos := _, after := _, guard := _ }) (v := ?_) rfl (by kernel_rfl) (by kernel_rfl) (by kernel_rfl) (fun _ _ _ h => h) (Or.inl ⟨by rfl, ?_⟩) hHeld ?_
  rotate_left
  · intro w99 hSw
    first | (go_simp; done) | (go_simp; with_reducible rfl)
  try simp only [Act.put, List.setIfInBounds_toArray, List.set_cons_zero, List.set_cons_succ]
  refine wpAnyH_ready (rs := [38]) (by kernel_rfl) (by simp) (AllReadyH.cons (o := { dst := some 97, op := Op.call { callee := Callee.value (Operand.func 30), args := #[(.tmp 96)], argTypes := #[51] }, type := _, pos := _, after := _, guard := _ }) rfl (fun K hK => ?_) AllReadyH.nil)
  go_simp
  with_reducible refine (Hhead.out _ hHeld.2.2.2.2.2.2).mono ?_
  rintro e w' ⟨rfl, hkh⟩
  go_wp2_with fail
  have hx9 := HS.out _ (hHeld.2.2.2.2.2.2.trans hkh)
  refine hK.out _ _ hx9 (fun _ => ?_)
  clear hK hHeld
  have hHeld := hx9
  clear hx9
  clear hkh
  generalize w' = wd38 at *
  try simp only [Act.put, List.setIfInBounds_toArray, List.set_cons_zero, List.set_cons_succ]
  refine wpAnyH_take (i := 40) (oi := { dst := some 99, op := Op.binOp BinOp.eql 49 (.tmp 97) (.tmp 98) 49, type := _, pos := _, after := _, guard := _ }) (v := ?_) rfl (by kernel_rfl) (by kernel_rfl) (by kernel_rfl) (fun _ _ _ h => h) (Or.inl ⟨by rfl, ?_⟩) hHeld ?_
  rotate_left
  · intro w99 hSw
    first | (go_simp; done) | (go_simp; with_reducible rfl)
  try simp only [Act.put, List.setIfInBounds_toArray, List.set_cons_zero, List.set_cons_succ]
  refine wpAnyH_take (i := 41) (oi := { dst := some 100, op := Op.pick (.tmp 95) (.tmp 99) (.const (Value.bool false)), type := _, pos := _, after := _, guard := _ }) (v := ?_) rfl (by kernel_rfl) (by kernel_rfl) (by kernel_rfl) (fun _ _ _ h => h) (Or.inl ⟨by rfl, ?_⟩) hHeld ?_
  rotate_left
  · intro w99 hSw
    first | (go_simp; done) | (go_simp; with_reducible rfl)
  try simp only [Act.put, List.setIfInBounds_toArray, List.set_cons_zero, List.set_cons_succ]
  refine wpAnyH_take (i := 42) (oi := { dst := some 101, op := Op.move (.tmp 100), type := _, pos := _, after := _, guard := _ }) (v := ?_) rfl (by kernel_rfl) (by kernel_rfl) (by kernel_rfl) (fun _ _ _ h => h) (Or.inl ⟨by rfl, ?_⟩) hHeld ?_
  rotate_left
  · intro w99 hSw
    first | (go_simp; done) | (go_simp; with_reducible rfl)
  try simp only [Act.put, List.setIfInBounds_toArray, List.set_cons_zero, List.set_cons_succ]
  refine wpAnyH_take (i := 43) (oi := { dst := some 102, op := Op.build 49 #[], type := _, pos := _, after := _, guard := _ }) (v := ?_) rfl (by kernel_rfl) (by kernel_rfl) (by kernel_rfl) (fun _ _ _ h => h) (Or.inl ⟨by rfl, ?_⟩) hHeld ?_
  rotate_left
  · intro w99 hSw
    first | (go_simp; done) | (go_simp; with_reducible rfl)
  try simp only [Act.put, List.setIfInBounds_toArray, List.set_cons_zero, List.set_cons_succ]
  refine wpAnyH_ready (rs := [44]) (by kernel_rfl) (by simp) (AllReadyH.cons (o := { dst := some 103, op := Op.call { callee := Callee.value (Operand.func 26), args := #[(.tmp 102)], argTypes := #[49] }, type := _, pos := _, after := _, guard := _ }) rfl (fun K hK => ?_) AllReadyH.nil)
  go_simp
  with_reducible refine (Hnew.out _).mono ?_
  rintro e w' ⟨rfl, hkh⟩
  go_wp2_with fail
  have hx9 := HS.out _ (hHeld.2.2.2.2.2.2.trans hkh)
  refine hK.out _ _ hx9 (fun _ => ?_)
  clear hK hHeld
  have hHeld := hx9
  clear hx9
  clear hkh
  generalize w' = wd44 at *
  try simp only [Act.put, List.setIfInBounds_toArray, List.set_cons_zero, List.set_cons_succ]
  refine wpAnyH_take (i := 45) (oi := { dst := some 104, op := Op.binOp BinOp.eql 51 (.tmp 103) (.const (Value.pointer none)) 51, type := _, pos := _, after := _, guard := _ }) (v := ?_) rfl (by kernel_rfl) (by kernel_rfl) (by kernel_rfl) (fun _ _ _ h => h) (Or.inl ⟨by rfl, ?_⟩) hHeld ?_
  rotate_left
  · intro w99 hSw
    first | (go_simp; done) | (go_simp; with_reducible rfl)
  try simp only [Act.put, List.setIfInBounds_toArray, List.set_cons_zero, List.set_cons_succ]
  refine wpAnyH_take (i := 46) (oi := { dst := some 105, op := Op.pick (.tmp 101) (.tmp 104) (.const (Value.bool false)), type := _, pos := _, after := _, guard := _ }) (v := ?_) rfl (by kernel_rfl) (by kernel_rfl) (by kernel_rfl) (fun _ _ _ h => h) (Or.inl ⟨by rfl, ?_⟩) hHeld ?_
  rotate_left
  · intro w99 hSw
    first | (go_simp; done) | (go_simp; with_reducible rfl)
  try simp only [Act.put, List.setIfInBounds_toArray, List.set_cons_zero, List.set_cons_succ]
  refine wpAnyH_take (i := 47) (oi := { dst := some 0, op := Op.assign (.tmp 105), type := _, pos := _, after := _, guard := _ }) (v := ?_) rfl (by kernel_rfl) (by kernel_rfl) (by kernel_rfl) (fun _ _ _ h => h) (Or.inl ⟨by rfl, ?_⟩) hHeld ?_
  rotate_left
  · intro w99 hSw
    first | (go_simp; done) | (go_simp; with_reducible rfl)
  try simp only [Act.put, List.setIfInBounds_toArray, List.set_cons_zero, List.set_cons_succ]
  refine wpAnyH_done (by kernel_rfl) ?_ _
  go_wp2_with fail
  go_ret
  exact ⟨rfl, (HK20.out.trans hHeld.2.2.2.2.2.2).below (Nat.le_refl _) (fun _ h => h.elim)⟩
end Go.Proofs.Ytdcbgjbhoejpnaa

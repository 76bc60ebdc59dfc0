/-
  argosylaw19: known.
-/
import Derived.Test.YtdcbgjbhoejpnaaFrag4
import Derived.Deep.RegionHeld3
import Derived.Deep.DeepCutAuto
namespace Go.Proofs.Ytdcbgjbhoejpnaa
open Go.RowKit

/-- A head that a law keeps in a block of its own. -/
def HdAt (w : World) (b : Nat) (id dl ct ix sz : Int) : Prop := Whole w b 49 #[.int .i64 id, .int .i64 dl, .int .i64 ct, .int .i64 ix, .int .i64 sz]
theorem HdAt.cells {w : World} {b : Nat} {id dl ct ix sz : Int} (h : HdAt w b id dl ct ix sz) : w.cell? ⟨b, 0, none⟩ = some (.int .i64 id) ∧ w.cell? ⟨b, 1, none⟩ = some (.int .i64 dl) ∧ w.cell? ⟨b, 2, none⟩ = some (.int .i64 ct) ∧ w.cell? ⟨b, 3, none⟩ = some (.int .i64 ix) ∧ w.cell? ⟨b, 4, none⟩ = some (.int .i64 sz) ∧ b < w.heap.size ∧ w.frozen? ⟨b, 3, none⟩ = false := by
  refine ⟨?_, ?_, ?_, ?_, ?_, h.lt, h.frozen 3⟩ <;> rw [h.cell] <;> rfl
theorem HdAt.five {w : World} {b : Nat} {id dl ct ix sz : Int} (h : HdAt w b id dl ct ix sz) : w.cell? ⟨b, 0, none⟩ = some (.int .i64 id) ∧ w.cell? ⟨b, 1, none⟩ = some (.int .i64 dl) ∧ w.cell? ⟨b, 2, none⟩ = some (.int .i64 ct) ∧ w.cell? ⟨b, 3, none⟩ = some (.int .i64 ix) ∧ w.cell? ⟨b, 4, none⟩ = some (.int .i64 sz) := by
  obtain ⟨h0, h1, h2, h3, h4, _⟩ := h.cells
  exact ⟨h0, h1, h2, h3, h4⟩
theorem HdAt.kp {S : Nat → Prop} {w w' : World} {b : Nat} {id dl ct ix sz : Int} (h : HdAt w b id dl ct ix sz) (hk : Kp S w w') (hb : ¬ S b) : HdAt w' b id dl ct ix sz := hk.whole h hb
theorem HdAt.ix {w : World} {b : Nat} {id dl ct ix sz : Int} (h : HdAt w b id dl ct ix sz) (x : Int) : HdAt (w.setCell ⟨b, 3, none⟩ (.int .i64 x)) b id dl ct x sz := h.set 3 (.int .i64 x)
theorem HdAt.new (w : World) (id dl ct ix sz : Int) : HdAt (w.alloc (.cells #[.int .i64 id, .int .i64 dl, .int .i64 ct, .int .i64 ix, .int .i64 sz] 49)) w.heap.size id dl ct ix sz := Whole.new _ _ _
theorem bs_lit {w : World} {b n : Nat} {t : TypeId} (d : List UInt8) (h : Whole w b t (encB d).toArray) (hn : d.length = n) : Src w 1 (.slice (some ⟨b, 0, none⟩) n n) n (encB d) := by
  subst hn
  exact srcW _ h (by rw [encB_len]; omega) (encB_one _)

set_option maxRecDepth 100000 in
set_option maxHeartbeats 4000000 in
theorem known19 (W : World) : Calls Try.prog 27 #[] W fun e w' => e = .returned (.bool true) ∧ Kp (fun _ => False) W w' := by
  have hof := Lib.hid (hof_yes 1 9 81 W (by decide))
  rw [show cntH 81 = 2 by decide] at hof
  have hmk : ∀ w, (Instr.makeSlice 54 (.int .i64 80) (.int .i64 80)).run Try.prog w = .ok (.slice (some ⟨w.heap.size, 0, none⟩) 80 80) (w.alloc (.cells (encB (zeros 80)).toArray 5)) := fun w => make_by 80 (by omega) w
  go_enter Try.func27, Try.ntmps27
  go_wp2_with fail
  with_reducible refine (hof.out).mono ?_
  rintro e w1 ⟨rfl, hk1⟩
  have hd := HdAt.new w1 1 9 2 0 81
  have hk2 := hk1.alloc (.cells #[.int .i64 1, .int .i64 9, .int .i64 2, .int .i64 0, .int .i64 81] 49)
  have hw1 := hk1.size
  clear hk1 hof
  go_upto_region 2 with (fail)
  generalize w1.alloc (.cells #[.int .i64 1, .int .i64 9, .int .i64 2, .int .i64 0, .int .i64 81] 49) = w2 at *
  generalize w1.heap.size = b at *
  obtain ⟨c0, c1, c2, c3, c4, bl, f3⟩ := hd.cells
  have Hnew := Lib.hid (show Calls Try.prog 26 #[.agg #[.int .i64 1, .int .i64 9, .int .i64 2, .int .i64 0, .int .i64 81]] w2 _ from r_new [b] 1 9 2 0 81 w2 (fun x hx => by simp at hx; subst hx; exact bl) (by decide))
  have Hd := Lib.hid hd
  have Hk2 := Lib.hid hk2
  clear hd hk2
  go_wp2_with fail
  with_reducible refine (Hnew.out).mono ?_
  rintro e w3 ⟨g, gb, rfl, hF, hg, hgb, hk3⟩
  have Hd3 := Lib.hid (Hd.out.kp hk3 (fun h => h))
  have HF := Lib.hid hF
  have Hk3 := Lib.hid (Hk2.out.trans hk3)
  have hw3 := hk3.size
  have hgW : W.heap.size ≤ g := by omega
  have hgbW : W.heap.size ≤ gb := by omega
  have hbg : b ≠ g := by omega
  have hbgb : b ≠ gb := by omega
  clear hF hk3 c0 c1 c2 c3 c4 f3 Hd Hk2 Hnew
  obtain ⟨c0, c1, c2, c3, c4, bl3, f3⟩ := Hd3.out.cells
  have hkb : Kp (fun k => k ∈ [b]) w3 (w3.setCell ⟨b, 3, none⟩ (.int .i64 1)) := Kp.set (S := fun k => k ∈ [b]) (Kp.refl _ w3) (p := ⟨b, 3, none⟩) (.inl (by simp)) _
  have Hd4 := Lib.hid (Hd3.out.ix 1)
  have HF4 := Lib.hid (HF.out.beside hkb)
  have Hk4 := Lib.hid (Hk3.out.set (p := ⟨b, 3, none⟩) (.inr hw1) (.int .i64 1))
  clear hkb
  go_upto_region 6 with (fail)
  generalize w3.setCell ⟨b, 3, none⟩ (.int .i64 1) = w4 at *
  clear c0 c1 c2 c3 c4 f3 bl3 Hd3 HF Hk3
  obtain ⟨c0, c1, c2, c3, c4, bl3, f3⟩ := Hd4.out.cells
  have hk5 : Kp (fun _ => False) w4 (w4.alloc (.cells #[.int .u8 7] 5)) := (Kp.refl _ w4).alloc _
  have Hput := Lib.hid (show Calls Try.prog 28 #[.pointer (some ⟨g, 0, none⟩), .agg #[.int .i64 1, .int .i64 9, .int .i64 2, .int .i64 1, .int .i64 81], .slice (some ⟨w4.heap.size, 0, none⟩) 1 1] _ _ from r_put (HF4.out.no hk5) 1 (by omega) (p := [7]) (m := 1) (c := 1) (bs_lit (n := 1) [7] (Whole.new w4 5 #[.int .u8 7]) rfl) (by omega) (by simp))
  go_wp2_with fail
  with_reducible refine (Hput.out).mono ?_
  rintro e w5 ⟨rfl, L1, hF5, hL1, hk6⟩
  rw [if_neg (by simp)] at hF5
  have hk6' := (Hk4.out.trans hk5).no.trans hk6
  have Hd5 := Lib.hid ((Hd4.out.kp hk5 (fun h => h)).kp hk6 (fun e => e.elim hbg hbgb))
  have HF5 := Lib.hid hF5
  have HL1 : Hid (∀ j, InL L1 j ↔ j = 1) := Lib.hid (fun j => by rw [hL1]; exact ⟨fun h => h.elim (fun h => absurd h (inl_nil _)) (fun h => h), .inr⟩)
  have Hk5 := Lib.hid (hk6'.mono (S' := fun _ => False) (fun k hk e => by rcases e with rfl | rfl <;> omega))
  clear hk5 hk6 hk6' hF5 hL1 Hput c0 c1 c2 c3 c4 f3 bl3 Hd4 HF4 Hk4
  have hfull : fullB L1 2 = false := by
    rw [Bool.eq_false_iff]
    intro h
    have := (full_iff HF5.out.norm (by omega) (by omega)).1 h 0 (by omega)
    have := (HL1.out 0).1 this
    omega
  have Hful := Lib.hid (r_full HF5.out false hfull)
  have Hfull := Lib.hid hfull
  clear hfull
  go_wp2_with fail
  with_reducible refine (Hful.out).mono ?_
  rintro e w6 ⟨rfl, hk6⟩
  have Hd6 := Lib.hid (Hd5.out.kp hk6 (fun h => h))
  have HF6 := Lib.hid (HF5.out.no hk6)
  have Hk6 := Lib.hid (Hk5.out.trans hk6)
  clear hk6 Hd5 HF5 Hk5 Hful
  obtain ⟨c0, c1, c2, c3, c4, bl3, f3⟩ := Hd6.out.cells
  have hkb : Kp (fun k => k ∈ [b]) w6 (w6.setCell ⟨b, 3, none⟩ (.int .i64 0)) := Kp.set (S := fun k => k ∈ [b]) (Kp.refl _ w6) (p := ⟨b, 3, none⟩) (.inl (by simp)) _
  have Hd7 := Lib.hid (Hd6.out.ix 0)
  have HF7 := Lib.hid (HF6.out.beside hkb)
  have Hk7 := Lib.hid (Hk6.out.set (p := ⟨b, 3, none⟩) (.inr hw1) (.int .i64 0))
  clear hkb
  go_upto_region 9 with (fail)
  generalize w6.setCell ⟨b, 3, none⟩ (.int .i64 0) = w7 at *
  clear c0 c1 c2 c3 c4 f3 bl3 Hd6 HF6 Hk6
  obtain ⟨c0, c1, c2, c3, c4, bl3, f3⟩ := Hd7.out.cells
  have hpz : ∀ w', Kp (fun _ => False) w7 w' → ∀ x, Src w' 1 (.slice (some ⟨x, 0, none⟩) 80 80) 80 (encB (zeros 80)) →
      Calls Try.prog 28 #[.pointer (some ⟨g, 0, none⟩), .agg #[.int .i64 1, .int .i64 9, .int .i64 2, .int .i64 0, .int .i64 81], .slice (some ⟨x, 0, none⟩) 80 80] w' fun e w'' => e = .returned (.bool true) ∧
      ∃ L', HasFr w'' [b] g gb 1 9 2 81 L' (putD (putD (zeros 81) (1 * 80) [7]) (0 * 80) (zeros 80)) ∧ (∀ j, InL L' j ↔ InL L1 j ∨ j = 0) ∧ Kp (fun j => j = g ∨ j = gb) w' w'' := fun w' hk x hx => by
    have h := r_put (HF7.out.no hk) 0 (by omega) hx (by omega) (by simp)
    have hn : L1.any (hasP ((0 : Nat) : Int)) = false := by
      rw [Bool.eq_false_iff]
      intro h
      have := (HL1.out _).1 ((has_iff L1 _).1 h)
      omega
    rw [if_neg (by rw [hn]; simp)] at h
    exact h
  have Hpz := Lib.hid hpz
  clear hpz
  go_cut [5] (fun v5 wx => v5 = .bool true ∧ ∃ L', HasFr wx [b] g gb 1 9 2 81 L' (putD (putD (zeros 81) (1 * 80) [7]) (0 * 80) (zeros 80)) ∧ Hid (∀ j, InL L' j ↔ InL L1 j ∨ j = 0) ∧ Kp (fun j => j = g ∨ j = gb) w7 wx)
  case first =>
    have hk7d : Kp (fun _ => False) w7 w7.drew := (Kp.refl _ w7).drew
    go_region_held3 (fun w' => w'.cell? ⟨b, 0, none⟩ = some (.int .i64 1) ∧ w'.cell? ⟨b, 1, none⟩ = some (.int .i64 9) ∧ w'.cell? ⟨b, 2, none⟩ = some (.int .i64 2) ∧ w'.cell? ⟨b, 3, none⟩ = some (.int .i64 0) ∧ w'.cell? ⟨b, 4, none⟩ = some (.int .i64 81)) (first | go_keep | exact (Hd7.out.kp (S := fun j => j = g ∨ j = gb) (by assumption) (fun e => e.elim hbg hbgb)).five)
      (first | (go_at_call 28; (refine (Hpz.out _ (by ((repeat (first | assumption | (with_reducible exact Kp.refl _ _) | with_reducible apply Kp.alloc | with_reducible apply Kp.drew)); done)) _ (by first | exact bs_lit (n := 80) (zeros 80) (Whole.new _ _ _) rfl | exact bs_lit (n := 80) (zeros 80) (Whole.new _ _ _).drew rfl)).mono ?_); rintro e w' ⟨rfl, L2, hF8, hL2, hk8⟩; have hk9 : Kp (fun j => j = g ∨ j = gb) w7 w' := Kp.trans (by ((repeat (first | assumption | (with_reducible exact Kp.refl _ _) | with_reducible apply Kp.alloc | with_reducible apply Kp.drew)); done)) hk8))
    all_goals
      go_wp2_with fail
      go_meet
      case rel => exact ⟨rfl, L2, hF8, Lib.hid hL2, hk9⟩
  case rest =>
  obtain ⟨rfl, L2, hF8, HL2, hk8⟩ := hcut
  generalize wc = w8 at *
  have hI : ∀ j, InL L2 j ↔ j = 1 ∨ j = 0 := fun j => by rw [HL2.out, HL1.out]
  have hfull2 : fullB L2 2 = true := (full_iff hF8.norm (by omega) (by omega)).2 (fun k hk => (hI _).2 (by omega))
  have hK8 := Lib.hid ((Hk7.out.no.trans hk8).mono (S' := fun _ => False) (fun k hk e => by rcases e with rfl | rfl <;> omega))
  have Hfull2 := Lib.hid hfull2
  have HI := Lib.hid hI
  have Hby := Lib.hid (r_bytesY hF8 hfull2)
  have HF8 := Lib.hid hF8
  have hD : (putD (putD (zeros 81) (1 * 80) [7]) (0 * 80) (zeros 80))[80]? = some 7 := by decide
  have hDl : (putD (putD (zeros 81) (1 * 80) [7]) (0 * 80) (zeros 80)).length = 81 := by decide
  generalize putD (putD (zeros 81) (1 * 80) [7]) (0 * 80) (zeros 80) = D at *
  have HD := Lib.hid hD
  clear hF8 hk8 hfull2 hI hD hDl HL2 HL1 Hfull HF7 Hd7 Hk7 c0 c1 c2 c3 c4 f3 bl3 Hpz
  go_wp2_with fail
  with_reducible refine (Hby.out).mono ?_
  rintro e w9 ⟨Ab, rfl, hrow, hk9⟩
  obtain ⟨rg, roff, rcap, hrv, _, hrg, _, _, _, hrc⟩ := hrow.full (by omega)
  cases hrv
  have r80 := hrc 80 (.int .u8 7) (by simp [encB, HD.out])
  have HF9 := Lib.hid (HF8.out.no hk9)
  have HK9 := Lib.hid (hK8.out.trans hk9)
  have Hful := Lib.hid (r_full HF9.out true Hfull2.out)
  clear hrow hk9 hrc HF8 hK8 Hby
  go_wp2_with fail
  with_reducible refine (Hful.out).mono ?_
  rintro e w10 ⟨rfl, hk10⟩
  rw [← hk10.cell (p := ⟨rg, _, none⟩) hrg (fun h => h)] at r80
  have hrg10 := Nat.lt_of_lt_of_le hrg hk10.size
  have HF10 := Lib.hid (HF9.out.no hk10)
  have HK10 := Lib.hid (HK9.out.trans hk10)
  have Hhas := Lib.hid (r_has HF10.out 1 true (by rw [HI.out]; simp))
  clear hk10 HF9 HK9 Hful
  go_wp2_with fail
  with_reducible refine (Hhas.out).mono ?_
  rintro e w11 ⟨rfl, hk11⟩
  have hcn := r_count (HF10.out.no hk11)
  have hc2 : cB (fun k => L2.any (hasP (k : Int))) 8 = 2 := by
    rw [cB_congr (q := fun k => decide (k = 1) || decide (k = 0)) 8 (fun k _ => by rw [Bool.eq_iff_iff, has_iff, HI.out]; simp; omega)]
    decide
  rw [hc2] at hcn
  have Hcn := Lib.hid (show Calls Try.prog 21 #[.pointer (some ⟨g, 0, none⟩)] _ fun e w' => e = .returned (.int .i64 2) ∧ Kp (fun _ => False) _ w' from hcn)
  have HK11 := Lib.hid (HK10.out.trans hk11)
  clear hk11 HF10 HK10 Hhas hcn hc2
  go_wp2_with fail
  with_reducible refine (Hcn.out).mono ?_
  rintro e w12 ⟨rfl, hk12⟩
  have HK12 := Lib.hid (HK11.out.trans hk12)
  clear hk12 HK11 Hcn
  go_wp2_with fail
  go_ret
  exact ⟨rfl, HK12.out⟩
end Go.Proofs.Ytdcbgjbhoejpnaa

/-
  argosylaw19.FragsTells: the walk.
-/
import Derived.Test.YtdcbgjbhoejpnaaFrJ
namespace Go.Proofs.Ytdcbgjbhoejpnaa
open Go.RowKit

theorem rw_kp {w w' : World} {r n : Nat} {id dl ct : Int} {bs : List Bool} {d : List UInt8} (h : RwAt w r id dl ct n bs d) (hk : Kp (fun _ => False) w w') : RwAt w' r id dl ct n bs d := ⟨hk.whole h.cell (fun h => h), h.bl, h.dl6⟩
theorem kk3 {w w' : World} {b0 o0 b1 o1 b2 o2 : Nat} {a b c : Value} (l0 : b0 < w.heap.size) (l1 : b1 < w.heap.size) (l2 : b2 < w.heap.size)
    (h : w.cell? ⟨b0, o0, none⟩ = some a ∧ w.cell? ⟨b1, o1, none⟩ = some b ∧ w.cell? ⟨b2, o2, none⟩ = some c) (hk : Kp (fun _ => False) w w') :
    w'.cell? ⟨b0, o0, none⟩ = some a ∧ w'.cell? ⟨b1, o1, none⟩ = some b ∧ w'.cell? ⟨b2, o2, none⟩ = some c := by
  obtain ⟨h0, h1, h2⟩ := h
  exact ⟨(hk.cell (p := ⟨b0, o0, none⟩) l0 (fun h => h)).trans h0, (hk.cell (p := ⟨b1, o1, none⟩) l1 (fun h => h)).trans h1, (hk.cell (p := ⟨b2, o2, none⟩) l2 (fun h => h)).trans h2⟩
def all5 (w : World) (b : Nat) (id dl ct ix sz : Int) : World := ((((w.setCell ⟨b, 0, none⟩ (.int .i64 id)).setCell ⟨b, 1, none⟩ (.int .i64 dl)).setCell ⟨b, 2, none⟩ (.int .i64 ct)).setCell ⟨b, 3, none⟩ (.int .i64 ix)).setCell ⟨b, 4, none⟩ (.int .i64 sz)
theorem hd_all {w : World} {b : Nat} {id' dl' ct' ix' sz' : Int} (h : HdAt w b id' dl' ct' ix' sz') (id dl ct ix sz : Int) : HdAt (all5 w b id dl ct ix sz) b id dl ct ix sz :=
  ((((h.set 0 (.int .i64 id)).set 1 (.int .i64 dl)).set 2 (.int .i64 ct)).set 3 (.int .i64 ix)).set 4 (.int .i64 sz)
theorem kp_all (w : World) (b : Nat) (id dl ct ix sz : Int) : Kp (fun j => j = b) w (all5 w b id dl ct ix sz) :=
  Kp.set (S := fun j => j = b) (Kp.set (S := fun j => j = b) (Kp.set (S := fun j => j = b) (Kp.set (S := fun j => j = b) (Kp.set (S := fun j => j = b) (Kp.refl _ w) (p := ⟨b, 0, none⟩) (.inl rfl) _) (p := ⟨b, 1, none⟩) (.inl rfl) _) (p := ⟨b, 2, none⟩) (.inl rfl) _) (p := ⟨b, 3, none⟩) (.inl rfl) _) (p := ⟨b, 4, none⟩) (.inl rfl) _

set_option maxRecDepth 100000 in
set_option maxHeartbeats 4000000 in
theorem FragsTells_any (W : World) (x0 : Int) (_l0 : -9223372036854775808 ≤ x0) (_h0 : x0 ≤ 9223372036854775807) (x1 : Int) (l1 : -9223372036854775808 ≤ x1) (h1 : x1 ≤ 9223372036854775807) (x2 : Int) (_l2 : -9223372036854775808 ≤ x2) (_h2 : x2 ≤ 9223372036854775807)
    (v3 : Value) (hv3 : SlArg 22 W v3) (v4 : Value) (hv4 : SlArg 54 W v4) (v5 : Value) (hv5 : SlArg 22 W v5) :
    Calls Try.prog 8 #[.int .i64 x0, .int .i64 x1, .int .i64 x2, v3, v4, v5] W fun e w' => e = .returned (.bool true) ∧ Below W.heap.size W w' := by
  obtain ⟨Ap, pd, capp, rfl, hpb, _, _, _, _, hpr⟩ := bytes_rd hv4
  obtain ⟨A, len, cap, rfl, hlc, hcm, hreach, hcells⟩ := rawInts_rd hv3
  obtain ⟨A', len', cap', rfl, hlc', hcm', hreach', hcells'⟩ := rawInts_rd hv5
  unfold maxLen at hcm hcm'
  unfold reachBytes at hreach hreach' hpr
  have Hc := Lib.hid hcells
  have Hc' := Lib.hid hcells'
  have Hpb := Lib.hid hpb
  have HH := Lib.hid (head0_any x0 x1 x2 l1 h1 W)
  clear hcells hcells' hv3 hv4 hv5 hpb l1 h1
  generalize hpl : pd.length = pl at *
  have Hpl := Lib.hid hpl
  clear hpl
  go_enter Try.func8, Try.ntmps8
  go_wp2_with fail
  with_reducible refine (HH.out).mono ?_
  rintro e w1 ⟨pid, mdl, n, hr, rfl, hk1⟩
  have hr0 := rightB_iff0.1 hr
  obtain ⟨ct, hct⟩ : ∃ ct : Nat, (ct : Int) = cntH (n : Int) := ⟨(cntH (n : Int)).toNat, by have := cnt_lo (sz := (n : Int)) (by omega); omega⟩
  rw [← hct] at hr ⊢
  have hct1 : 1 ≤ ct := by have := cnt_lo (sz := (n : Int)) (by omega); omega
  have hct8 : ct ≤ 8 := by have := cnt_hi (sz := (n : Int)) (by omega); omega
  have hn1 : 1 ≤ n := by omega
  have hn6 : n ≤ 600 := by omega
  have hctn : ∀ k : Nat, k < ct ↔ k * 80 < n := fun k => by unfold cntH at hct; omega
  have Hctn := Lib.hid hctn
  have hrk : ∀ k : Nat, k < ct → rightB pid mdl (ct : Int) (k : Int) (n : Int) = true := fun k hk => rightB_iff0.2 (by omega)
  have Hrk := Lib.hid hrk
  have Hr := Lib.hid hr
  have hd := HdAt.new w1 pid mdl ct 0 n
  have hk2 := hk1.alloc (.cells #[.int .i64 pid, .int .i64 mdl, .int .i64 ct, .int .i64 0, .int .i64 n] 49)
  have hwW := hk1.size
  clear hr hr0 hct hctn hrk hk1 HH
  go_upto_region 2 with (fail)
  generalize w1.alloc (.cells #[.int .i64 pid, .int .i64 mdl, .int .i64 ct, .int .i64 0, .int .i64 n] 49) = w2 at *
  generalize w1.heap.size = hb at *
  obtain ⟨c0, c1, c2, c3, c4, hbl, _⟩ := hd.cells
  have Hd := Lib.hid hd
  have Hk2 := Lib.hid hk2
  have Hnew := Lib.hid (r_new [hb] pid mdl ct 0 n w2 (fun x hx => by simp at hx; subst hx; exact hbl) Hr.out)
  clear hd hk2
  go_wp2_with fail
  with_reducible refine (Hnew.out).mono ?_
  rintro e w4 ⟨g, gb, rfl, hF, hg, hgb, hk4⟩
  have Hd4 := Lib.hid (Hd.out.kp hk4 (fun h => h))
  have HF4 := Lib.hid hF
  have Hk4 := Lib.hid (Hk2.out.trans hk4)
  have hgW : W.heap.size ≤ g := by have := Hk2.out.size; omega
  have hgbW : W.heap.size ≤ gb := by have := Hk2.out.size; omega
  clear hF hk4 c0 c1 c2 c3 c4 Hnew Hd
  obtain ⟨c0, c1, c2, c3, c4, hbl4, _⟩ := Hd4.out.cells
  have Hrn := Lib.hid (rnew_any pid mdl ct 0 n w4 Hr.out)
  go_wp2_with fail
  with_reducible refine (Hrn.out).mono ?_
  rintro e w5 ⟨r, rfl, hrw, hrb, hk5⟩
  have Hd5 := Lib.hid (Hd4.out.kp hk5 (fun h => h))
  have HF5 := Lib.hid (HF4.out.later hk5 hrb hrw.cell.lt)
  have HR5 := Lib.hid hrw
  have Hk5 := Lib.hid (Hk4.out.trans hk5)
  have hgl4 := HF4.out.lt
  have hrg : g < r ∧ gb < r ∧ hb < r := by omega
  clear hrw hk5 c0 c1 c2 c3 c4 Hrn Hd4 HF4 Hk4 hrb
  have Hkn := Lib.hid (known19 w5)
  go_wp2_with fail
  with_reducible refine (Hkn.out).mono ?_
  rintro e w6 ⟨rfl, hk6⟩
  have Hd6 := Lib.hid (Hd5.out.kp hk6 (fun h => h))
  have HF6 := Lib.hid (HF5.out.no hk6)
  have HR6 := Lib.hid (show RwAt w6 r pid mdl ct n (List.replicate 8 false) (zeros 600) from ⟨hk6.whole HR5.out.cell (fun h => h), HR5.out.bl, HR5.out.dl6⟩)
  have Hk6 := Lib.hid (Hk5.out.trans hk6)
  clear hk6 Hd5 HF5 HR5 Hk5 Hkn
  go_upto_region 7 with (fail)
  go_loopw [41] (fun vi wr => ∃ (i : Nat) (bs : List Bool) (L : List Pr) (d dd : List UInt8), i ≤ len ∧ vi = .int .i64 i ∧ Hid (∀ j : Nat, j < 8 → (InL L (j : Int) ↔ bs[j]? = some true)) ∧ Hid (d = dd.take n) ∧
      Hid (HasFr wr [r, hb] g gb pid mdl ct n L d) ∧ Hid (RwAt wr r pid mdl ct n bs dd) ∧ Hid (HdAt wr hb pid mdl ct 0 n) ∧ Kp (fun _ => False) W wr)
    (fun vi _ => len - (intOf vi).toNat)
  case atStart =>
    exact ⟨0, List.replicate 8 false, [], zeros n, zeros 600, by omega, rfl, Lib.hid (fun k hk => ⟨fun h => absurd h (inl_nil _), fun h => absurd h (by rw [List.getElem?_replicate]; split <;> simp)⟩), Lib.hid (by rw [zeros, zeros, List.take_replicate, Nat.min_eq_left hn6]), HF6, HR6, Hd6, Hk6.out⟩
  case round =>
    obtain ⟨i, bs, L, d, dd, hi, rfl, HI, Hdd, HF, HR, HD, hkp⟩ := hrel
    have Hkp := Lib.hid hkp
    clear hkp
    by_cases hlt : i < len
    · have t0 : (i : Int) < (len : Int) := by omega
      have t1 : (0 : Int) ≤ (i : Int) := by omega
      have hWr := Hkp.out.size
      have hrr := HR.out.cell.lt
      have hgr := HF.out.lt
      rcases Hc.out with h0 | ⟨blk, off, rfl, hblk, hcell⟩
      · omega
      obtain ⟨u0, hu0, y, rfl, l0, g0⟩ := hcell i hlt 0 RdI rfl
      clear hcell
      rw [← Hkp.out.cell (p := ⟨blk, _, none⟩) hblk (fun h => h)] at hu0
      simp only [List.length_cons, List.length_nil, Nat.zero_add, Nat.add_zero, Nat.mul_one] at hu0
      have hblr := Nat.lt_of_lt_of_le hblk hWr
      obtain ⟨k0, hk0⟩ := Int.eq_ofNat_of_zero_le (pickF_lo y (ct : Int) (by omega))
      have hk02 := pickF_hi y (ct : Int) (by omega)
      have HP0 := Lib.hid (fun w => pick_any y (ct : Int) w (by omega) (by omega))
      rw [hk0] at HP0
      have hkc0 : k0 < ct := by omega
      clear hk0 hk02
      obtain ⟨c0, c1, c2, c3, c4, hbl, _⟩ := HD.out.cells
      have hx := HdAt.new wr pid mdl ct 0 n
      have hkx : Kp (fun _ => False) wr (wr.alloc (.cells #[.int .i64 pid, .int .i64 mdl, .int .i64 ct, .int .i64 0, .int .i64 n] 49)) := (Kp.refl _ wr).alloc _
      have HF7 := Lib.hid (HF.out.alloc (.cells #[.int .i64 pid, .int .i64 mdl, .int .i64 ct, .int .i64 0, .int .i64 n] 49))
      have HR7 := Lib.hid (hkx.whole HR.out.cell (fun h => h))
      have HD7 := Lib.hid (HD.out.kp hkx (fun h => h))
      have Hk7 := Lib.hid (Hkp.out.trans hkx)
      have HX7 := Lib.hid hx
      have Hbl := Lib.hid HR.out.bl
      have Hdl6 := Lib.hid HR.out.dl6
      clear hx hkx HF HR HD Hkp
      go_upto_region 10 with (fail)
      generalize wr.alloc (.cells #[.int .i64 pid, .int .i64 mdl, .int .i64 ct, .int .i64 0, .int .i64 n] 49) = w7 at *
      generalize wr.heap.size = xb at *
      clear c0 c1 c2 c3 c4 hbl
      obtain ⟨c0, c1, c2, c3, c4, hbl, _⟩ := HD7.out.cells
      obtain ⟨x0', x1', x2', x3', x4', hxl, xf⟩ := HX7.out.cells
      go_wp2_with fail
      with_reducible refine (HP0.out _).mono ?_
      rintro e w' ⟨rfl, rfl⟩
      have hks : Kp (fun j => j = xb) w7 (w7.setCell ⟨xb, 3, none⟩ (.int .i64 k0)) := Kp.set (S := fun j => j = xb) (Kp.refl _ w7) (p := ⟨xb, 3, none⟩) (.inl rfl) _
      have HX8 := Lib.hid (HX7.out.ix (k0 : Int))
      have hxg : g ≠ xb ∧ gb ≠ xb ∧ r ≠ xb ∧ hb ≠ xb := by omega
      have HF8 := Lib.hid (HF7.out.beside (hks.mono (S' := fun j => j ∈ [xb, r, hb]) (fun j _ e => by simp [e])))
      have HR8 := Lib.hid (show RwAt _ r pid mdl ct n bs dd from ⟨hks.whole HR7.out hxg.2.2.1, Hbl.out, Hdl6.out⟩)
      have HD8 := Lib.hid (HD7.out.kp hks hxg.2.2.2)
      have Hk8 := Lib.hid ((Hk7.out.no.trans hks).mono (S' := fun _ => False) (fun j hj e => by omega))
      go_upto_region 11 with (fail)
      clear HF7 HR7 HD7 Hk7 HX7 hks HP0 c0 c1 c2 c3 c4 hbl x0' x1' x2' x3' x4' hxl xf
      generalize w7.setCell ⟨xb, 3, none⟩ (.int .i64 k0) = w8 at *
      obtain ⟨m1, hm1⟩ : ∃ m : Nat, m = min 80 (n - k0 * 80) := ⟨_, rfl⟩
      have hm80 : m1 ≤ 80 := by omega
      have Hm1 := Lib.hid hm1
      clear hm1
      have HTx := Lib.hid (fun (w' : World) (hk' : Kp (fun _ => False) w8 w') => text_any (n := n) (bs_kp (show Bs W (.slice Ap pd.length capp) pd by rw [Hpl.out]; exact Hpb.out) (Hk8.out.trans hk')) (by rw [Hpl.out]; omega) (by omega))
      rw [Hpl.out] at HTx
      refine wp_region_held_drew (S := (fun w' => Kp (fun _ => False) w8 w')) (by kernel_rfl) (Kp.drew (Kp.refl _ w8)) (fun hHeld => ?_)
      refine wpAnyH_take (i := 0) (oi := { dst := some 52, op := Op.load 49 (.tmp 18), type := _, pos := _, after := _, guard := _ }) (v := ?_) rfl (by kernel_rfl) (by kernel_rfl) (by kernel_rfl) (fun _ _ _ h => h) (Or.inl ⟨by rfl, ?_⟩) hHeld ?_
      rotate_left
      · intro w99 hSw
        obtain ⟨x0', x1', x2', x3', x4'⟩ := (HX8.out.kp hSw (fun h => h)).five; first | (go_simp; done) | (go_simp; with_reducible rfl)
      try simp only [Act.put, List.setIfInBounds_toArray, List.set_cons_zero, List.set_cons_succ]
      refine wpAnyH_take (i := 1) (oi := { dst := some 53, op := Op.move (.tmp 4), type := _, pos := _, after := _, guard := _ }) (v := ?_) rfl (by kernel_rfl) (by kernel_rfl) (by kernel_rfl) (fun _ _ _ h => h) (Or.inl ⟨by rfl, ?_⟩) hHeld ?_
      rotate_left
      · intro w99 hSw
        first | (go_simp; done) | (go_simp; with_reducible rfl)
      try simp only [Act.put, List.setIfInBounds_toArray, List.set_cons_zero, List.set_cons_succ]
      refine wpAnyH_take (i := 2) (oi := { dst := some 54, op := Op.fieldAddr 49 (.tmp 13) 4, type := _, pos := _, after := _, guard := _ }) (v := ?_) rfl (by kernel_rfl) (by kernel_rfl) (by kernel_rfl) (fun _ _ _ h => h) (Or.inl ⟨by rfl, ?_⟩) hHeld ?_
      rotate_left
      · intro w99 hSw
        first | (go_simp; done) | (go_simp; with_reducible rfl)
      try simp only [Act.put, List.setIfInBounds_toArray, List.set_cons_zero, List.set_cons_succ]
      refine wpAnyH_take (i := 3) (oi := { dst := some 55, op := Op.load 3 (.tmp 54), type := _, pos := _, after := _, guard := _ }) (v := ?_) rfl (by kernel_rfl) (by kernel_rfl) (by kernel_rfl) (fun _ _ _ h => h) (Or.inl ⟨by rfl, ?_⟩) hHeld ?_
      rotate_left
      · intro w99 hSw
        obtain ⟨c0, c1, c2, c3, c4⟩ := (HD8.out.kp hSw (fun h => h)).five; first | (go_simp; done) | (go_simp; with_reducible rfl)
      try simp only [Act.put, List.setIfInBounds_toArray, List.set_cons_zero, List.set_cons_succ]
      refine wpAnyH_ready (rs := [4]) (by kernel_rfl) (by simp) (AllReadyH.cons (o := { dst := some 56, op := Op.call { callee := Callee.value (Operand.func 34), args := #[(.tmp 53), (.tmp 55)], argTypes := #[54, 3] }, type := _, pos := _, after := _, guard := _ }) rfl (fun K hK => ?_) AllReadyH.nil)
      go_simp
      with_reducible refine (HTx.out _ hHeld).mono ?_
      rintro e w' ⟨v', tB, rfl, htl, hrow, hkh⟩
      go_wp2_with fail
      have hx9 := Kp.trans hHeld hkh
      refine hK.out _ _ hx9 (fun _ => ?_)
      clear hK hHeld
      have hHeld := hx9
      clear hx9
      obtain ⟨Ab, cb, rfl⟩ := hrow.form
      have hcb := row_capL hrow
      have hsrc := hrow.src (encB_one _)
      have hs8 := hHeld.size
      clear hrow hkh
      generalize w' = wd4 at *
      try simp only [Act.put, List.setIfInBounds_toArray, List.set_cons_zero, List.set_cons_succ]
      refine wpAnyH_ready (rs := [5]) (by kernel_rfl) (by simp) (AllReadyH.cons (o := { dst := some 57, op := Op.call { callee := Callee.value (Operand.func 33), args := #[(.tmp 52), (.tmp 56)], argTypes := #[49, 54] }, type := _, pos := _, after := _, guard := _ }) rfl (fun K hK => ?_) AllReadyH.nil)
      go_simp
      with_reducible refine (rpart_yes (Hrk.out k0 hkc0) hsrc hcb.1 hcb.2 Hm1.out).mono ?_
      rintro e w' ⟨Aq, cq, rfl, hrowp, hkh⟩
      go_wp2_with fail
      have hx9 := Kp.trans hHeld hkh
      refine hK.out _ _ hx9 (fun _ => ?_)
      clear hK hHeld
      have hHeld := hx9
      clear hx9
      have hrowp := hrowp.base hs8
      clear hkh hsrc
      generalize w' = wd5 at *
      try simp only [Act.put, List.setIfInBounds_toArray, List.set_cons_zero, List.set_cons_succ]
      refine wpAnyH_take (i := 6) (oi := { dst := some 19, op := Op.assign (.tmp 57), type := _, pos := _, after := _, guard := _ }) (v := ?_) rfl (by kernel_rfl) (by kernel_rfl) (by kernel_rfl) (fun _ _ _ h => h) (Or.inl ⟨by rfl, ?_⟩) hHeld ?_
      rotate_left
      · intro w99 hSw
        first | (go_simp; done) | (go_simp; with_reducible rfl)
      try simp only [Act.put, List.setIfInBounds_toArray, List.set_cons_zero, List.set_cons_succ]
      refine wpAnyH_done (by kernel_rfl) ?_ _
      have Hrowp := Lib.hid hrowp
      have Hh9 := Lib.hid hHeld
      clear hrowp hHeld hcb hs8 htl HTx Hm1
      go_upto_if 61 with (fail)
      generalize wd5 = w9 at *
      have HX9 := Lib.hid (HX8.out.kp Hh9.out (fun h => h))
      have hr0 := rightB_iff0.1 Hr.out
      have hmd : 0 ≤ mdl ∧ mdl ≤ 4611686018427387903 := ⟨hr0.2.2.1, hr0.2.2.2.1⟩
      clear hr0
      go_cut [19] (fun v19 wx => ∃ (id' dl' ct' ix' sz' : Int) (Ax : Option Addr) (mx cx : Nat) (px : List UInt8), v19 = .slice Ax mx cx ∧ mx ≤ 1000 ∧ Hid (HdAt wx xb id' dl' ct' ix' sz') ∧ Hid (RowAt wx w8.heap.size 1 (.slice Ax mx cx) mx (encB px)) ∧ Hid (Kp (fun j => j = xb) w8 wx))
      case first =>
        by_cases hib : i < len'
        · have t2 : (i : Int) < (len' : Int) := by omega
          rcases Hc'.out with h0 | ⟨blk', off', rfl, hblk', hcell⟩
          · omega
          obtain ⟨u1, hu1, z, rfl, l1, g1⟩ := hcell i hib 0 RdI rfl
          clear hcell
          rw [← (Hk8.out.trans Hh9.out).cell (p := ⟨blk', _, none⟩) hblk' (fun h => h)] at hu1
          simp only [List.length_cons, List.length_nil, Nat.zero_add, Nat.add_zero, Nat.mul_one] at hu1
          have hs9 := (Hk8.out.trans Hh9.out).size
          have hblr' := Nat.lt_of_lt_of_le hblk' hs9
          have hsv0 := pickF_lo z 12 (by omega)
          have hsv2 := pickF_hi z 12 (by omega)
          have HPs := Lib.hid (fun w => pick_any z 12 w (by omega) (by omega))
          generalize pickF z 12 = sv at *
          obtain ⟨x0', x1', x2', x3', x4', hxl, _⟩ := HX9.out.cells
          have xf := fun f => HX9.out.frozen f
          have hx8 : xb < w8.heap.size := HX8.out.lt
          have hsx : ∀ f u, Kp (fun j => j = xb) w8 (w9.setCell ⟨xb, f, none⟩ u) := fun f u => Hh9.out.no.trans (Kp.set (S := fun j => j = xb) (Kp.refl _ w9) (p := ⟨xb, f, none⟩) (.inl rfl) u)
          have hrx : ∀ f u, RowAt (w9.setCell ⟨xb, f, none⟩ u) w8.heap.size 1 (.slice Aq m1 cq) m1 (encB (pieceD tB k0 m1)) := fun f u => Hrowp.out.kp (S := fun j => j = xb) (Kp.set (S := fun j => j = xb) (Kp.refl _ w9) (p := ⟨xb, f, none⟩) (.inl rfl) u) (fun k hk e => by have := (Hrowp.out.lt k hk).1; omega)
          have Hsx := Lib.hid hsx
          have Hrx := Lib.hid hrx
          clear hsx hrx
          have xf0 := xf 0
          have xf1 := xf 1
          have xf2 := xf 2
          have xf3 := xf 3
          have xf4 := xf 4
          have HTn := Lib.hid (fun w => text_any (n := m1) (Bs.nil w) (by simp) (by omega))
          simp only [List.length_nil] at HTn
          by_cases s0 : sv = 0
          · have e0 : (sv == 0) = true := by simp [s0]
            obtain ⟨q, hq⟩ := Int.eq_ofNat_of_zero_le (pickF_lo (z.tdiv 12) 11 (by omega))
            have hq2 := pickF_hi (z.tdiv 12) 11 (by omega)
            have HPq := Lib.hid (fun w => pick_any (z.tdiv 12) 11 w (by omega) (by omega))
            rw [hq] at HPq
            have hq3 : q < 11 := by omega
            clear hq hq2
            go_wp2_with fail
            with_reducible refine (HPs.out _).mono ?_
            rintro e w' ⟨rfl, rfl⟩
            go_wp2_with fail
            with_reducible refine (HPq.out _).mono ?_
            rintro e w' ⟨rfl, rfl⟩
            go_wp2_with fail
            go_meet
            case rel => exact ⟨_, _, _, _, _, _, _, _, _, rfl, by omega, Lib.hid (HX9.out.ix _), Lib.hid (Hrx.out _ _), Lib.hid (Hsx.out _ _)⟩
          have e0 : (sv == 0) = false := by simp [s0]
          by_cases s1 : sv = 1
          · have e1 : (sv == 1) = true := by simp [s1]
            go_wp2_with fail
            with_reducible refine (HPs.out _).mono ?_
            rintro e w' ⟨rfl, rfl⟩
            go_wp2_with fail
            go_meet
            case rel => exact ⟨_, _, _, _, _, _, _, _, _, rfl, by omega, Lib.hid (HX9.out.set 1 _), Lib.hid (Hrx.out _ _), Lib.hid (Hsx.out _ _)⟩
          have e1 : (sv == 1) = false := by simp [s1]
          by_cases s2 : sv = 2
          · have e2 : (sv == 2) = true := by simp [s2]
            obtain ⟨q, hq⟩ := Int.eq_ofNat_of_zero_le (pickF_lo z 600 (by omega))
            have hq2 := pickF_hi z 600 (by omega)
            have HPq := Lib.hid (fun w => pick_any z 600 w (by omega) (by omega))
            rw [hq] at HPq
            have hq3 : q < 600 := by omega
            clear hq hq2
            have hr0 := rightB_iff0.1 Hr.out
            have hright : rightB pid mdl (cntH (1 + (q : Int))) 0 (1 + (q : Int)) = true := rightB_iff0.2 (by have := cnt_lo (sz := 1 + (q : Int)) (by omega); omega)
            clear hr0
            have hwr : IntKind.i64.wrap (1 + (q : Int)) = 1 + (q : Int) := IntWalk.i64_in _ (by omega)
            go_wp2_with fail
            with_reducible refine (HPs.out _).mono ?_
            rintro e w' ⟨rfl, rfl⟩
            go_upto_region 19 with (fail)
            refine wp_region_held_drew (S := (fun w' => w'.cell? ⟨xb, 0, none⟩ = some (.int .i64 pid) ∧ w'.cell? ⟨xb, 1, none⟩ = some (.int .i64 mdl) ∧ w'.cell? ⟨blk', off' + i, none⟩ = some (.int .i64 z))) (by kernel_rfl) ⟨x0', x1', hu1⟩ (fun hHeld => ?_)
            refine wpAnyH_take (i := 0) (oi := { dst := some 85, op := Op.fieldAddr 49 (.tmp 18) 0, type := _, pos := _, after := _, guard := _ }) (v := ?_) rfl (by kernel_rfl) (by kernel_rfl) (by kernel_rfl) (fun _ _ _ h => h) (Or.inl ⟨by rfl, ?_⟩) hHeld ?_
            rotate_left
            · intro w99 hSw
              first | (go_simp; done) | (go_simp; with_reducible rfl)
            try simp only [Act.put, List.setIfInBounds_toArray, List.set_cons_zero, List.set_cons_succ]
            refine wpAnyH_take (i := 1) (oi := { dst := some 86, op := Op.load 3 (.tmp 85), type := _, pos := _, after := _, guard := _ }) (v := ?_) rfl (by kernel_rfl) (by kernel_rfl) (by kernel_rfl) (fun _ _ _ h => h) (Or.inl ⟨by rfl, ?_⟩) hHeld ?_
            rotate_left
            · intro w99 hSw
              have x0' := hSw.1; first | (go_simp; done) | (go_simp; with_reducible rfl)
            try simp only [Act.put, List.setIfInBounds_toArray, List.set_cons_zero, List.set_cons_succ]
            refine wpAnyH_take (i := 2) (oi := { dst := some 87, op := Op.fieldAddr 49 (.tmp 18) 1, type := _, pos := _, after := _, guard := _ }) (v := ?_) rfl (by kernel_rfl) (by kernel_rfl) (by kernel_rfl) (fun _ _ _ h => h) (Or.inl ⟨by rfl, ?_⟩) hHeld ?_
            rotate_left
            · intro w99 hSw
              first | (go_simp; done) | (go_simp; with_reducible rfl)
            try simp only [Act.put, List.setIfInBounds_toArray, List.set_cons_zero, List.set_cons_succ]
            refine wpAnyH_take (i := 3) (oi := { dst := some 88, op := Op.load 3 (.tmp 87), type := _, pos := _, after := _, guard := _ }) (v := ?_) rfl (by kernel_rfl) (by kernel_rfl) (by kernel_rfl) (fun _ _ _ h => h) (Or.inl ⟨by rfl, ?_⟩) hHeld ?_
            rotate_left
            · intro w99 hSw
              have x1' := hSw.2.1; first | (go_simp; done) | (go_simp; with_reducible rfl)
            try simp only [Act.put, List.setIfInBounds_toArray, List.set_cons_zero, List.set_cons_succ]
            refine wpAnyH_take (i := 4) (oi := { dst := some 89, op := Op.move (.tmp 5), type := _, pos := _, after := _, guard := _ }) (v := ?_) rfl (by kernel_rfl) (by kernel_rfl) (by kernel_rfl) (fun _ _ _ h => h) (Or.inl ⟨by rfl, ?_⟩) hHeld ?_
            rotate_left
            · intro w99 hSw
              first | (go_simp; done) | (go_simp; with_reducible rfl)
            try simp only [Act.put, List.setIfInBounds_toArray, List.set_cons_zero, List.set_cons_succ]
            refine wpAnyH_take (i := 5) (oi := { dst := some 90, op := Op.move (.tmp 16), type := _, pos := _, after := _, guard := _ }) (v := ?_) rfl (by kernel_rfl) (by kernel_rfl) (by kernel_rfl) (fun _ _ _ h => h) (Or.inl ⟨by rfl, ?_⟩) hHeld ?_
            rotate_left
            · intro w99 hSw
              first | (go_simp; done) | (go_simp; with_reducible rfl)
            try simp only [Act.put, List.setIfInBounds_toArray, List.set_cons_zero, List.set_cons_succ]
            refine wpAnyH_take (i := 6) (oi := { dst := some 91, op := Op.indexAddr 22 (.tmp 89) (.tmp 90), type := _, pos := _, after := _, guard := _ }) (v := ?_) rfl (by kernel_rfl) (by kernel_rfl) (by kernel_rfl) (fun _ _ _ h => h) (Or.inl ⟨by rfl, ?_⟩) hHeld ?_
            rotate_left
            · intro w99 hSw
              first | (go_simp; done) | (go_simp; with_reducible rfl)
            try simp only [Act.put, List.setIfInBounds_toArray, List.set_cons_zero, List.set_cons_succ]
            refine wpAnyH_take (i := 7) (oi := { dst := some 92, op := Op.load 3 (.tmp 91), type := _, pos := _, after := _, guard := _ }) (v := ?_) rfl (by kernel_rfl) (by kernel_rfl) (by kernel_rfl) (fun _ _ _ h => h) (Or.inl ⟨by rfl, ?_⟩) hHeld ?_
            rotate_left
            · intro w99 hSw
              have hu1 := hSw.2.2; first | (go_simp; done) | (go_simp; with_reducible rfl)
            try simp only [Act.put, List.setIfInBounds_toArray, List.set_cons_zero, List.set_cons_succ]
            refine wpAnyH_ready (rs := [8]) (by kernel_rfl) (by simp) (AllReadyH.cons (o := { dst := some 93, op := Op.call { callee := Callee.value (Operand.func 11), args := #[(.tmp 92), (.const (.int .i64 600))], argTypes := #[3, 3] }, type := _, pos := _, after := _, guard := _ }) rfl (fun K hK => ?_) AllReadyH.nil)
            go_simp
            with_reducible refine (HPq.out _).mono ?_
            rintro e w' ⟨rfl, rfl⟩
            go_wp2_with fail
            have hx9 := hHeld
            refine hK.out _ _ hx9 (fun _ => ?_)
            clear hK hHeld
            have hHeld := hx9
            clear hx9
            generalize w' = wd8 at *
            try simp only [Act.put, List.setIfInBounds_toArray, List.set_cons_zero, List.set_cons_succ]
            refine wpAnyH_take (i := 9) (oi := { dst := some 94, op := Op.binOp BinOp.add 3 (.const (.int .i64 1)) (.tmp 93) 3, type := _, pos := _, after := _, guard := _ }) (v := ?_) rfl (by kernel_rfl) (by kernel_rfl) (by kernel_rfl) (fun _ _ _ h => h) (Or.inl ⟨by rfl, ?_⟩) hHeld ?_
            rotate_left
            · intro w99 hSw
              first | (go_simp; done) | (go_simp; with_reducible rfl)
            try simp only [Act.put, List.setIfInBounds_toArray, List.set_cons_zero, List.set_cons_succ]
            refine wpAnyH_ready (rs := [10]) (by kernel_rfl) (by simp) (AllReadyH.cons (o := { dst := some 95, op := Op.call { callee := Callee.value (Operand.func 35), args := #[(.tmp 86), (.tmp 88), (.tmp 94)], argTypes := #[3, 3, 3] }, type := _, pos := _, after := _, guard := _ }) rfl (fun K hK => ?_) AllReadyH.nil)
            go_simp
            with_reducible refine (rof_yes pid mdl (1 + (q : Int)) _ hright).mono ?_
            rintro e w' ⟨rfl, hkh⟩
            go_wp2_with fail
            have hx9 := kk3 (show xb < w9.drew.heap.size from hxl) (show xb < w9.drew.heap.size from hxl) (show blk' < w9.drew.heap.size from hblr') hHeld hkh
            refine hK.out _ _ hx9 (fun _ => ?_)
            clear hK hHeld
            have hHeld := hx9
            clear hx9
            generalize w' = wd10 at *
            try simp only [Act.put, List.setIfInBounds_toArray, List.set_cons_zero, List.set_cons_succ]
            have hkx := Kp.trans (Kp.drew (Kp.refl (fun _ => False) w9)) hkh
            have HXa := HX9.out.kp hkx (fun h => h)
            obtain ⟨y0, y1, y2, y3, y4, yl, _⟩ := HXa.cells
            have f0 := HXa.frozen 0
            have f1 := HXa.frozen 1
            have f2 := HXa.frozen 2
            have f3 := HXa.frozen 3
            have f4 := HXa.frozen 4
            have hX5 := hd_all HXa pid mdl (cntH (1 + (q : Int))) 0 (1 + (q : Int))
            have hk5 := kp_all wd10 xb pid mdl (cntH (1 + (q : Int))) 0 (1 + (q : Int))
            have hu5 := (Kp.cell hk5 (p := ⟨blk', off' + i, none⟩) (Nat.lt_of_lt_of_le hblr' hkx.size) (show ¬ blk' = xb by omega)).trans hHeld.2.2
            refine wpAnyH_ready (rs := [11]) (by kernel_rfl) (by simp) (AllReadyH.cons (o := { dst := none, op := Op.store 49 (.tmp 18) (.tmp 95), type := _, pos := _, after := _, guard := _ }) rfl (fun K hK => ?_) AllReadyH.nil)
            go_simp
            refine hK.out _ _ ⟨hX5.cell 0, hX5.cell 1, hu5⟩ (fun _ => ?_)
            clear hK
            try simp only [Act.put, List.setIfInBounds_toArray, List.set_cons_zero, List.set_cons_succ]
            refine wpAnyH_done (by kernel_rfl) ?_ _
            go_wp2_with fail
            go_meet
            case rel => exact ⟨_, _, _, _, _, _, _, _, _, rfl, by omega, Lib.hid hX5, Lib.hid (Hrowp.out.kp (Kp.trans hkx.no hk5) (fun k hk e => by have := (Hrowp.out.lt k hk).1; omega)), Lib.hid (Kp.trans (Hh9.out.no) (Kp.trans hkx.no hk5))⟩
          have e2 : (sv == 2) = false := by simp [s2]
          by_cases s3 : sv = 3
          · have e3 : (sv == 3) = true := by simp [s3]
            go_wp2_with fail
            with_reducible refine (HPs.out _).mono ?_
            rintro e w' ⟨rfl, rfl⟩
            obtain ⟨j0, hjj, hy0, hy1, hy2⟩ := info_parts infoB
            have Hj := Lib.hid hjj
            have Hy0 := Lib.hid hy0
            have Hy1 := Lib.hid hy1
            have Hy2 := Lib.hid hy2
            clear hjj hy0 hy1 hy2
            have HO1 := Lib.hid (Hrowp.out.kp ((Kp.refl (fun _ => False) w9).alloc (.cells #[.int .u8 1] 5)) (fun _ _ h => h))
            have hX1 : Src (w9.alloc (.cells #[.int .u8 1] 5)) 1 (.slice (some ⟨w9.heap.size, 0, none⟩) 1 1) 1 (encB [1]) := ⟨rfl, encB_one _, .inr ⟨_, _, rfl, fun j u hj => by rw [Addr.add_lit, Nat.zero_add, (Whole.new _ _ _).cell]; simpa [encB] using hj⟩⟩
            have HX1 := Lib.hid hX1
            clear hX1
            have hs98 := Hh9.out.size
            go_wp2_with (at_builtin; refine wpList_row rfl (.tmp 98) (.tmp 99) 54 rfl w8.heap.size 5 j0 _ 1 1 Try.underlying54 Hj.out Hy0.out Hy1.out Hy2.out rfl (by decide) _ m1 _ rfl HO1.out _ 1 _ rfl HX1.out (by unfold maxLen; omega) (by omega) (by simp only [World.size_alloc]; omega) ?_; intro v2 w2 hr2 hg2 hn2; have hk2 : Kp (fun _ => False) w8 w2 := (Hh9.out.alloc _).grown hg2 (fun i hi hlt => absurd (Hrowp.out.lt i hi).1 (by omega)); obtain ⟨A2, c2, rfl⟩ := hr2.form; have Hr2 := Lib.hid hr2; have Hk2 := Lib.hid hk2; clear hr2 hg2 hn2 hk2)
            go_meet
            case rel => exact ⟨_, _, _, _, _, _, _, _, pieceD tB k0 m1 ++ [1], rfl, by omega, Lib.hid (HX8.out.kp Hk2.out (fun h => h)), Lib.hid (by rw [show encB (pieceD tB k0 m1 ++ [1]) = encB (pieceD tB k0 m1) ++ encB [1] from List.map_append]; exact Hr2.out), Lib.hid Hk2.out.no⟩
          have e3 : (sv == 3) = false := by simp [s3]
          by_cases s4 : sv = 4
          · have e4 : (sv == 4) = true := by simp [s4]
            go_wp2_with fail
            with_reducible refine (HPs.out _).mono ?_
            rintro e w' ⟨rfl, rfl⟩
            go_wp2_with fail
            with_reducible refine (HTn.out _).mono ?_
            rintro e w' ⟨v', tB', rfl, htl', hrow', hk'⟩
            obtain ⟨A2, c2, rfl⟩ := hrow'.form
            go_wp2_with fail
            go_meet
            case rel => exact ⟨_, _, _, _, _, _, _, _, _, rfl, by omega, Lib.hid (HX9.out.kp hk' (fun h => h)), Lib.hid (hrow'.base (Hh9.out.size)), Lib.hid ((Hh9.out.trans hk').no)⟩
          have e4 : (sv == 4) = false := by simp [s4]
          by_cases s5 : sv = 5
          · have e5 : (sv == 5) = true := by simp [s5]
            go_wp2_with fail
            with_reducible refine (HPs.out _).mono ?_
            rintro e w' ⟨rfl, rfl⟩
            go_wp2_with fail
            go_meet
            case rel => exact ⟨_, _, _, _, _, _, _, _, _, rfl, by omega, Lib.hid (HX9.out.set 2 _), Lib.hid (Hrx.out _ _), Lib.hid (Hsx.out _ _)⟩
          have e5 : (sv == 5) = false := by simp [s5]
          go_wp2_with fail
          with_reducible refine (HPs.out _).mono ?_
          rintro e w' ⟨rfl, rfl⟩
          go_wp2_with fail
          go_meet
          case rel => exact ⟨_, _, _, _, _, _, _, _, _, rfl, by omega, HX9, Hrowp, Lib.hid Hh9.out.no⟩
        · have t2 : ¬ (i : Int) < (len' : Int) := by omega
          go_wp2_with fail
          go_meet
          case rel => exact ⟨_, _, _, _, _, _, _, _, _, rfl, by omega, HX9, Hrowp, Lib.hid Hh9.out.no⟩
      case rest =>
        obtain ⟨id', dl', ct', ix', sz', Ax, mx, cx, px, rfl, hmx, HX10, Hrx, Hkx⟩ := hcut
        generalize wc = w10 at *
        have hx8 : xb < w8.heap.size := HX8.out.lt
        have hr8 := HR8.out.cell.lt
        have hh8 : hb < w8.heap.size := HD8.out.lt
        have hg8 := HF8.out.lt
        have HF10 := Lib.hid (HF8.out.beside (Hkx.out.mono (S' := fun j => j ∈ [xb, r, hb]) (fun j _ e => by simp [e])))
        have HR10 := Lib.hid (show RwAt w10 r pid mdl ct n bs dd from ⟨Hkx.out.whole HR8.out.cell hxg.2.2.1, Hbl.out, Hdl6.out⟩)
        have HD10 := Lib.hid (HD8.out.kp Hkx.out hxg.2.2.2)
        have Hk10 := Lib.hid ((Hk8.out.no.trans Hkx.out).mono (S' := fun _ => False) (fun j hj e => by omega))
        have Hsrc10 := Lib.hid (Hrx.out.src (encB_one _))
        have Hown := Lib.hid (fun k hk => (Hrx.out.lt k hk).1)
        have Hplx := Lib.hid (show px.length = mx by have := Hrx.out.1; rw [encB_len] at this; omega)
        have hs10 := Hkx.out.size
        have ngx : ¬ xb = g := by omega
        have ngx2 : ¬ xb = gb := by omega
        have nrg : ¬ r = g := by omega
        have nrg2 : ¬ r = gb := by omega
        clear HF8 HR8 HD8 Hk8 HX8 HX9 Hrx Hkx Hrowp Hh9
        go_upto_region 26 with (fail)
        go_cut [162] (fun v162 wx => v162 = .bool false ∧ ∃ bs1 L1 d1 dd1, Hid (∀ j : Nat, j < 8 → (InL L1 (j : Int) ↔ bs1[j]? = some true)) ∧ Hid (d1 = dd1.take n) ∧
          Hid (HasFr wx [xb, r, hb] g gb pid mdl ct n L1 d1) ∧ Hid (RwAt wx r pid mdl ct n bs1 dd1) ∧ Hid (Kp (fun j => j = g ∨ j = gb ∨ j = r) w10 wx))
        case first =>
            refine wp_region_held_drew (S := (fun w' => HdAt w' xb id' dl' ct' ix' sz' ∧ True)) (by kernel_rfl) ⟨HX10.out.kp (Kp.drew (Kp.refl (fun _ => False) w10)) (fun h => h), True.intro⟩ (fun hHeld => ?_)
            refine wpAnyH_take (i := 0) (oi := { dst := some 112, op := Op.move (.tmp 14), type := _, pos := _, after := _, guard := _ }) (v := ?_) rfl (by kernel_rfl) (by kernel_rfl) (by kernel_rfl) (fun _ _ _ h => h) (Or.inl ⟨by rfl, ?_⟩) hHeld ?_
            rotate_left
            · intro w99 hSw
              first | (go_simp; done) | (go_simp; with_reducible rfl)
            try simp only [Act.put, List.setIfInBounds_toArray, List.set_cons_zero, List.set_cons_succ]
            refine wpAnyH_take (i := 1) (oi := { dst := some 113, op := Op.load 49 (.tmp 18), type := _, pos := _, after := _, guard := _ }) (v := ?_) rfl (by kernel_rfl) (by kernel_rfl) (by kernel_rfl) (fun _ _ _ h => h) (Or.inl ⟨by rfl, ?_⟩) hHeld ?_
            rotate_left
            · intro w99 hSw
              obtain ⟨x0', x1', x2', x3', x4', _, _⟩ := hSw.1.cells; first | (go_simp; done) | (go_simp; with_reducible rfl)
            try simp only [Act.put, List.setIfInBounds_toArray, List.set_cons_zero, List.set_cons_succ]
            refine wpAnyH_take (i := 2) (oi := { dst := some 114, op := Op.move (.tmp 19), type := _, pos := _, after := _, guard := _ }) (v := ?_) rfl (by kernel_rfl) (by kernel_rfl) (by kernel_rfl) (fun _ _ _ h => h) (Or.inl ⟨by rfl, ?_⟩) hHeld ?_
            rotate_left
            · intro w99 hSw
              first | (go_simp; done) | (go_simp; with_reducible rfl)
            try simp only [Act.put, List.setIfInBounds_toArray, List.set_cons_zero, List.set_cons_succ]
            refine wpAnyH_take (i := 4) (oi := { dst := some 116, op := Op.move (.tmp 15), type := _, pos := _, after := _, guard := _ }) (v := ?_) rfl (by kernel_rfl) (by kernel_rfl) (by kernel_rfl) (fun _ _ _ h => h) (Or.inl ⟨by rfl, ?_⟩) hHeld ?_
            rotate_left
            · intro w99 hSw
              first | (go_simp; done) | (go_simp; with_reducible rfl)
            try simp only [Act.put, List.setIfInBounds_toArray, List.set_cons_zero, List.set_cons_succ]
            refine wpAnyH_take (i := 5) (oi := { dst := some 117, op := Op.load 49 (.tmp 18), type := _, pos := _, after := _, guard := _ }) (v := ?_) rfl (by kernel_rfl) (by kernel_rfl) (by kernel_rfl) (fun _ _ _ h => h) (Or.inl ⟨by rfl, ?_⟩) hHeld ?_
            rotate_left
            · intro w99 hSw
              obtain ⟨x0', x1', x2', x3', x4', _, _⟩ := hSw.1.cells; first | (go_simp; done) | (go_simp; with_reducible rfl)
            try simp only [Act.put, List.setIfInBounds_toArray, List.set_cons_zero, List.set_cons_succ]
            refine wpAnyH_take (i := 6) (oi := { dst := some 118, op := Op.move (.tmp 19), type := _, pos := _, after := _, guard := _ }) (v := ?_) rfl (by kernel_rfl) (by kernel_rfl) (by kernel_rfl) (fun _ _ _ h => h) (Or.inl ⟨by rfl, ?_⟩) hHeld ?_
            rotate_left
            · intro w99 hSw
              first | (go_simp; done) | (go_simp; with_reducible rfl)
            try simp only [Act.put, List.setIfInBounds_toArray, List.set_cons_zero, List.set_cons_succ]
            refine wpAnyH_ready (rs := [3]) (by kernel_rfl) (by simp) (AllReadyH.cons (o := { dst := some 115, op := Op.call { callee := Callee.value (Operand.func 28), args := #[(.tmp 112), (.tmp 113), (.tmp 114)], argTypes := #[51, 49, 54] }, type := _, pos := _, after := _, guard := _ }) rfl (fun K hK => ?_) AllReadyH.nil)
            go_simp
            with_reducible refine (jput (HF10.out.no (Kp.drew (Kp.refl (fun _ => False) w10))) id' dl' ct' ix' sz' ((Kp.drew (Kp.refl (fun _ => False) w10)).src Hsrc10.out (fun _ _ h => h)) (by omega)).mono ?_
            rintro e w' ⟨rfl, L1, d1, hF11, hR11, hk11⟩
            go_wp2_with fail
            have hx9 := (show HdAt w' xb id' dl' ct' ix' sz' ∧ True from ⟨HX10.out.kp (Kp.trans (Kp.no (Kp.drew (Kp.refl (fun _ => False) w10))) hk11) (fun e => e.elim ngx ngx2), True.intro⟩)
            refine hK.out _ _ hx9 (fun _ => ?_)
            clear hK hHeld
            have hHeld := hx9
            clear hx9
            have hkA := Kp.trans (Kp.no (Kp.drew (Kp.refl (fun _ => False) w10))) hk11
            have hQ11 : RwAt w' r pid mdl ct n bs dd := ⟨hkA.whole HR10.out.cell (fun e => e.elim nrg nrg2), Hbl.out, Hdl6.out⟩
            have hs11 := hkA.src Hsrc10.out (fun k hk e => by have := Hown.out k hk; rcases e with e | e <;> omega)
            clear hk11
            generalize w' = wd3 at *
            try simp only [Act.put, List.setIfInBounds_toArray, List.set_cons_zero, List.set_cons_succ]
            refine wpAnyH_ready (rs := [7]) (by kernel_rfl) (by simp) (AllReadyH.cons (o := { dst := some 119, op := Op.call { callee := Callee.value (Operand.func 36), args := #[(.tmp 116), (.tmp 117), (.tmp 118)], argTypes := #[58, 49, 54] }, type := _, pos := _, after := _, guard := _ }) rfl (fun K hK => ?_) AllReadyH.nil)
            go_simp
            with_reducible refine (jrput hQ11 Hr.out id' dl' ct' ix' sz' hs11 (fun k hk => by have := Hown.out k hk; omega) (by omega)).mono ?_
            rintro e w' ⟨rfl, bs1, dd1, hQ12, hR12, hk12⟩
            go_wp2_with fail
            have hx9 := (show HdAt w' xb id' dl' ct' ix' sz' ∧ True from ⟨hHeld.1.kp hk12 (show ¬ xb = r by omega), True.intro⟩)
            refine hK.out _ _ hx9 (fun _ => ?_)
            clear hK hHeld
            have hHeld := hx9
            clear hx9
            have hF12 := hF11.beside (hk12.mono (S' := fun j => j ∈ [xb, r, hb]) (fun j _ e => by simp [e]))
            have hkB := Kp.trans (hkA.mono (S' := fun j => j = g ∨ j = gb ∨ j = r) (fun j _ e => e.elim .inl (fun e => .inr (.inl e)))) (hk12.mono (S' := fun j => j = g ∨ j = gb ∨ j = r) (fun j _ e => .inr (.inr e)))
            obtain ⟨hI12, hd12⟩ := rel_after hR11 hR12 (by omega) Hbl.out Hdl6.out hn6 Hplx.out (fun hf => (fits_yes hf).2.2.2.2.2.2) HI.out Hdd.out
            have hfull := full_alike hF12.norm hct8 hQ12.bl hI12
            clear hR11 hR12 hF11 hQ11 hkA hk12 hs11
            generalize w' = wd7 at *
            try simp only [Act.put, List.setIfInBounds_toArray, List.set_cons_zero, List.set_cons_succ]
            have HF12 := Lib.hid hF12
            have HQ12 := Lib.hid hQ12
            have HI12 := Lib.hid hI12
            have Hd12 := Lib.hid hd12
            have HkB := Lib.hid hkB
            clear hF12 hQ12 hI12 hd12 hkB
            generalize fitsB pid mdl (ct : Int) n id' dl' ct' ix' sz' mx = ff at *
            have hff : (ff != ff) = false := by simp
            obtain ⟨fl, hfl⟩ : ∃ fl, fl = rfullB bs1 ct := ⟨_, rfl⟩
            rw [← hfl] at hfull
            have Hfl := Lib.hid hfl.symm
            have Hfull := Lib.hid hfull
            clear hfull hfl
            have hfl2 : (fl != fl) = false := by simp
            refine wpAnyH_hold (S' := (fun w' => HdAt w' xb id' dl' ct' ix' sz' ∧ Kp (fun _ => False) wd7 w')) (fun w99 hSw => ⟨hSw.1, True.intro⟩) _ _ _ _ ?_
            have hx9 := (show HdAt wd7 xb id' dl' ct' ix' sz' ∧ Kp (fun _ => False) wd7 wd7 from ⟨hHeld.1, Kp.refl _ _⟩)
            clear hHeld
            have hHeld := hx9
            clear hx9
            refine wpAnyH_take (i := 8) (oi := { dst := some 120, op := Op.binOp BinOp.neq 4 (.tmp 115) (.tmp 119) 4, type := _, pos := _, after := _, guard := _ }) (v := ?_) rfl (by kernel_rfl) (by kernel_rfl) (by kernel_rfl) (fun _ _ _ h => h) (Or.inl ⟨by rfl, ?_⟩) hHeld ?_
            rotate_left
            · intro w99 hSw
              first | (go_simp; done) | (go_simp; with_reducible rfl)
            try simp only [Act.put, List.setIfInBounds_toArray, List.set_cons_zero, List.set_cons_succ]
            refine wpAnyH_take (i := 9) (oi := { dst := some 121, op := Op.move (.tmp 120), type := _, pos := _, after := _, guard := _ }) (v := ?_) rfl (by kernel_rfl) (by kernel_rfl) (by kernel_rfl) (fun _ _ _ h => h) (Or.inl ⟨by rfl, ?_⟩) hHeld ?_
            rotate_left
            · intro w99 hSw
              first | (go_simp; done) | (go_simp; with_reducible rfl)
            try simp only [Act.put, List.setIfInBounds_toArray, List.set_cons_zero, List.set_cons_succ]
            refine wpAnyH_take (i := 10) (oi := { dst := some 122, op := Op.move (.tmp 14), type := _, pos := _, after := _, guard := _ }) (v := ?_) rfl (by kernel_rfl) (by kernel_rfl) (by kernel_rfl) (fun _ _ _ h => h) (Or.inl ⟨by rfl, ?_⟩) hHeld ?_
            rotate_left
            · intro w99 hSw
              first | (go_simp; done) | (go_simp; with_reducible rfl)
            try simp only [Act.put, List.setIfInBounds_toArray, List.set_cons_zero, List.set_cons_succ]
            refine wpAnyH_take (i := 12) (oi := { dst := some 124, op := Op.move (.tmp 15), type := _, pos := _, after := _, guard := _ }) (v := ?_) rfl (by kernel_rfl) (by kernel_rfl) (by kernel_rfl) (fun _ _ _ h => h) (Or.inl ⟨by rfl, ?_⟩) hHeld ?_
            rotate_left
            · intro w99 hSw
              first | (go_simp; done) | (go_simp; with_reducible rfl)
            try simp only [Act.put, List.setIfInBounds_toArray, List.set_cons_zero, List.set_cons_succ]
            refine wpAnyH_ready (rs := [11]) (by kernel_rfl) (by simp) (AllReadyH.cons (o := { dst := some 123, op := Op.call { callee := Callee.value (Operand.func 37), args := #[(.tmp 122)], argTypes := #[51] }, type := _, pos := _, after := _, guard := _ }) rfl (fun K hK => ?_) AllReadyH.nil)
            go_simp
            with_reducible refine (r_full (HF12.out.no hHeld.2) fl Hfull.out).mono ?_
            rintro e w' ⟨rfl, hkh⟩
            go_wp2_with fail
            have hx9 := (show HdAt w' xb id' dl' ct' ix' sz' ∧ Kp (fun _ => False) wd7 w' from ⟨hHeld.1.kp hkh (fun h => h), Kp.trans hHeld.2 hkh⟩)
            refine hK.out _ _ hx9 (fun _ => ?_)
            clear hK hHeld
            have hHeld := hx9
            clear hx9
            clear hkh
            generalize w' = wd11 at *
            try simp only [Act.put, List.setIfInBounds_toArray, List.set_cons_zero, List.set_cons_succ]
            refine wpAnyH_ready (rs := [13]) (by kernel_rfl) (by simp) (AllReadyH.cons (o := { dst := some 125, op := Op.call { callee := Callee.value (Operand.func 38), args := #[(.tmp 124)], argTypes := #[58] }, type := _, pos := _, after := _, guard := _ }) rfl (fun K hK => ?_) AllReadyH.nil)
            go_simp
            with_reducible refine (jrfull (rw_kp HQ12.out hHeld.2) hct8 fl Hfl.out).mono ?_
            rintro e w' ⟨rfl, hkh⟩
            go_wp2_with fail
            have hx9 := (show HdAt w' xb id' dl' ct' ix' sz' ∧ Kp (fun _ => False) wd7 w' from ⟨hHeld.1.kp hkh (fun h => h), Kp.trans hHeld.2 hkh⟩)
            refine hK.out _ _ hx9 (fun _ => ?_)
            clear hK hHeld
            have hHeld := hx9
            clear hx9
            clear hkh
            generalize w' = wd13 at *
            try simp only [Act.put, List.setIfInBounds_toArray, List.set_cons_zero, List.set_cons_succ]
            refine wpAnyH_take (i := 14) (oi := { dst := some 126, op := Op.binOp BinOp.neq 4 (.tmp 123) (.tmp 125) 4, type := _, pos := _, after := _, guard := _ }) (v := ?_) rfl (by kernel_rfl) (by kernel_rfl) (by kernel_rfl) (fun _ _ _ h => h) (Or.inl ⟨by rfl, ?_⟩) hHeld ?_
            rotate_left
            · intro w99 hSw
              first | (go_simp; done) | (go_simp; with_reducible rfl)
            try simp only [Act.put, List.setIfInBounds_toArray, List.set_cons_zero, List.set_cons_succ]
            refine wpAnyH_take (i := 15) (oi := { dst := some 127, op := Op.pick (.tmp 121) (.const (Value.bool true)) (.tmp 126), type := _, pos := _, after := _, guard := _ }) (v := ?_) rfl (by kernel_rfl) (by kernel_rfl) (by kernel_rfl) (fun _ _ _ h => h) (Or.inl ⟨by rfl, ?_⟩) hHeld ?_
            rotate_left
            · intro w99 hSw
              first | (go_simp; done) | (go_simp; with_reducible rfl)
            try simp only [Act.put, List.setIfInBounds_toArray, List.set_cons_zero, List.set_cons_succ]
            refine wpAnyH_take (i := 16) (oi := { dst := some 128, op := Op.move (.tmp 127), type := _, pos := _, after := _, guard := _ }) (v := ?_) rfl (by kernel_rfl) (by kernel_rfl) (by kernel_rfl) (fun _ _ _ h => h) (Or.inl ⟨by rfl, ?_⟩) hHeld ?_
            rotate_left
            · intro w99 hSw
              first | (go_simp; done) | (go_simp; with_reducible rfl)
            try simp only [Act.put, List.setIfInBounds_toArray, List.set_cons_zero, List.set_cons_succ]
            refine wpAnyH_take (i := 17) (oi := { dst := some 129, op := Op.move (.tmp 14), type := _, pos := _, after := _, guard := _ }) (v := ?_) rfl (by kernel_rfl) (by kernel_rfl) (by kernel_rfl) (fun _ _ _ h => h) (Or.inl ⟨by rfl, ?_⟩) hHeld ?_
            rotate_left
            · intro w99 hSw
              first | (go_simp; done) | (go_simp; with_reducible rfl)
            try simp only [Act.put, List.setIfInBounds_toArray, List.set_cons_zero, List.set_cons_succ]
            refine wpAnyH_take (i := 20) (oi := { dst := some 132, op := Op.move (.tmp 15), type := _, pos := _, after := _, guard := _ }) (v := ?_) rfl (by kernel_rfl) (by kernel_rfl) (by kernel_rfl) (fun _ _ _ h => h) (Or.inl ⟨by rfl, ?_⟩) hHeld ?_
            rotate_left
            · intro w99 hSw
              first | (go_simp; done) | (go_simp; with_reducible rfl)
            try simp only [Act.put, List.setIfInBounds_toArray, List.set_cons_zero, List.set_cons_succ]
            refine wpAnyH_ready (rs := [18]) (by kernel_rfl) (by simp) (AllReadyH.cons (o := { dst := some 130, op := Op.call { callee := Callee.value (Operand.func 29), args := #[(.tmp 129)], argTypes := #[51] }, type := _, pos := _, after := _, guard := _ }) rfl (fun K hK => ?_) AllReadyH.nil)
            go_simp
            with_reducible refine (jbytes (HF12.out.no hHeld.2) fl Hfull.out).mono ?_
            rintro e w' ⟨A18, m18, c18, rfl, hr18, Hm18, hkh⟩
            go_wp2_with fail
            have hx9 := (show HdAt w' xb id' dl' ct' ix' sz' ∧ Kp (fun _ => False) wd7 w' from ⟨hHeld.1.kp hkh (fun h => h), Kp.trans hHeld.2 hkh⟩)
            refine hK.out _ _ hx9 (fun _ => ?_)
            clear hK hHeld
            have hHeld := hx9
            clear hx9
            have hrB := hr18
            clear hkh hr18
            generalize w' = wd18 at *
            try simp only [Act.put, List.setIfInBounds_toArray, List.set_cons_zero, List.set_cons_succ]
            refine wpAnyH_hold (S' := (fun w' => HdAt w' xb id' dl' ct' ix' sz' ∧ Kp (fun _ => False) wd7 w' ∧ Kp (fun _ => False) wd18 w')) (fun w99 hSw => ⟨hSw.1, hSw.2.1⟩) _ _ _ _ ?_
            have hx9 := (show HdAt wd18 xb id' dl' ct' ix' sz' ∧ Kp (fun _ => False) wd7 wd18 ∧ Kp (fun _ => False) wd18 wd18 from ⟨hHeld.1, hHeld.2, Kp.refl _ _⟩)
            clear hHeld
            have hHeld := hx9
            clear hx9
            obtain ⟨sB, hsB⟩ : ∃ sB : ByteArray, sB = ⟨(tellB fl d1).toArray⟩ := ⟨_, rfl⟩
            refine wpAnyH_take (i := 19) (oi := { dst := some 131, op := Op.convert 54 9 (.tmp 130), type := _, pos := _, after := _, guard := _ }) (v := ?_) rfl (by kernel_rfl) (by kernel_rfl) (by kernel_rfl) (fun _ _ _ h => h) (Or.inl ⟨by rfl, ?_⟩) hHeld ?_
            rotate_left
            · intro w99 hSw
              have cv1 := conv_any Hm18.out (hrB.kp hSw.2.2 (fun _ _ h => h)); rw [← hsB] at cv1; first | (go_simp; done) | (go_simp; with_reducible rfl)
            try simp only [Act.put, List.setIfInBounds_toArray, List.set_cons_zero, List.set_cons_succ]
            refine wpAnyH_ready (rs := [21]) (by kernel_rfl) (by simp) (AllReadyH.cons (o := { dst := some 133, op := Op.call { callee := Callee.value (Operand.func 39), args := #[(.tmp 132)], argTypes := #[58] }, type := _, pos := _, after := _, guard := _ }) rfl (fun K hK => ?_) AllReadyH.nil)
            go_simp
            with_reducible refine (jrbytes (rw_kp HQ12.out hHeld.2.1) hct8 hn6 fl Hfl.out).mono ?_
            rintro e w' ⟨A21, m21, c21, rfl, hr21, Hm21, hkh⟩
            go_wp2_with fail
            have hx9 := (show HdAt w' xb id' dl' ct' ix' sz' ∧ Kp (fun _ => False) wd7 w' ∧ Kp (fun _ => False) wd18 w' from ⟨hHeld.1.kp hkh (fun h => h), Kp.trans hHeld.2.1 hkh, Kp.trans hHeld.2.2 hkh⟩)
            refine hK.out _ _ hx9 (fun _ => ?_)
            clear hK hHeld
            have hHeld := hx9
            clear hx9
            rw [← Hd12.out] at hr21 Hm21
            have hrC := hr21
            clear hkh hr21
            generalize w' = wd21 at *
            try simp only [Act.put, List.setIfInBounds_toArray, List.set_cons_zero, List.set_cons_succ]
            have hk1821 := hHeld.2.2
            refine wpAnyH_hold (S' := (fun w' => HdAt w' xb id' dl' ct' ix' sz' ∧ Kp (fun _ => False) wd7 w' ∧ Kp (fun _ => False) wd21 w')) (fun w99 hSw => ⟨hSw.1, hSw.2.1, Kp.trans hk1821 hSw.2.2⟩) _ _ _ _ ?_
            have hx9 := (show HdAt wd21 xb id' dl' ct' ix' sz' ∧ Kp (fun _ => False) wd7 wd21 ∧ Kp (fun _ => False) wd21 wd21 from ⟨hHeld.1, hHeld.2.1, Kp.refl _ _⟩)
            clear hHeld
            have hHeld := hx9
            clear hx9
            refine wpAnyH_take (i := 22) (oi := { dst := some 134, op := Op.convert 54 9 (.tmp 133), type := _, pos := _, after := _, guard := _ }) (v := ?_) rfl (by kernel_rfl) (by kernel_rfl) (by kernel_rfl) (fun _ _ _ h => h) (Or.inl ⟨by rfl, ?_⟩) hHeld ?_
            rotate_left
            · intro w99 hSw
              have cv1 := conv_any Hm21.out (hrC.kp hSw.2.2 (fun _ _ h => h)); rw [← hsB] at cv1; first | (go_simp; done) | (go_simp; with_reducible rfl)
            try simp only [Act.put, List.setIfInBounds_toArray, List.set_cons_zero, List.set_cons_succ]
            refine wpAnyH_take (i := 23) (oi := { dst := some 135, op := Op.binOp BinOp.neq 9 (.tmp 131) (.tmp 134) 9, type := _, pos := _, after := _, guard := _ }) (v := ?_) rfl (by kernel_rfl) (by kernel_rfl) (by kernel_rfl) (fun _ _ _ h => h) (Or.inl ⟨by rfl, ?_⟩) hHeld ?_
            rotate_left
            · intro w99 hSw
              first | (go_simp; done) | (go_simp; with_reducible rfl)
            try simp only [Act.put, List.setIfInBounds_toArray, List.set_cons_zero, List.set_cons_succ]
            refine wpAnyH_take (i := 24) (oi := { dst := some 136, op := Op.pick (.tmp 128) (.const (Value.bool true)) (.tmp 135), type := _, pos := _, after := _, guard := _ }) (v := ?_) rfl (by kernel_rfl) (by kernel_rfl) (by kernel_rfl) (fun _ _ _ h => h) (Or.inl ⟨by rfl, ?_⟩) hHeld ?_
            rotate_left
            · intro w99 hSw
              first | (go_simp; done) | (go_simp; with_reducible rfl)
            try simp only [Act.put, List.setIfInBounds_toArray, List.set_cons_zero, List.set_cons_succ]
            refine wpAnyH_take (i := 25) (oi := { dst := some 137, op := Op.move (.tmp 136), type := _, pos := _, after := _, guard := _ }) (v := ?_) rfl (by kernel_rfl) (by kernel_rfl) (by kernel_rfl) (fun _ _ _ h => h) (Or.inl ⟨by rfl, ?_⟩) hHeld ?_
            rotate_left
            · intro w99 hSw
              first | (go_simp; done) | (go_simp; with_reducible rfl)
            try simp only [Act.put, List.setIfInBounds_toArray, List.set_cons_zero, List.set_cons_succ]
            refine wpAnyH_take (i := 26) (oi := { dst := some 138, op := Op.move (.tmp 14), type := _, pos := _, after := _, guard := _ }) (v := ?_) rfl (by kernel_rfl) (by kernel_rfl) (by kernel_rfl) (fun _ _ _ h => h) (Or.inl ⟨by rfl, ?_⟩) hHeld ?_
            rotate_left
            · intro w99 hSw
              first | (go_simp; done) | (go_simp; with_reducible rfl)
            try simp only [Act.put, List.setIfInBounds_toArray, List.set_cons_zero, List.set_cons_succ]
            refine wpAnyH_take (i := 27) (oi := { dst := some 139, op := Op.nilCheck (.tmp 138), type := _, pos := _, after := _, guard := _ }) (v := ?_) rfl (by kernel_rfl) (by kernel_rfl) (by kernel_rfl) (fun _ _ _ h => h) (Or.inl ⟨by rfl, ?_⟩) hHeld ?_
            rotate_left
            · intro w99 hSw
              first | (go_simp; done) | (go_simp; with_reducible rfl)
            try simp only [Act.put, List.setIfInBounds_toArray, List.set_cons_zero, List.set_cons_succ]
            refine wpAnyH_take (i := 28) (oi := { dst := some 140, op := Op.fieldAddr 63 (.tmp 139) 0, type := _, pos := _, after := _, guard := _ }) (v := ?_) rfl (by kernel_rfl) (by kernel_rfl) (by kernel_rfl) (fun _ _ _ h => h) (Or.inl ⟨by rfl, ?_⟩) hHeld ?_
            rotate_left
            · intro w99 hSw
              first | (go_simp; done) | (go_simp; with_reducible rfl)
            try simp only [Act.put, List.setIfInBounds_toArray, List.set_cons_zero, List.set_cons_succ]
            refine wpAnyH_take (i := 29) (oi := { dst := some 141, op := Op.fieldAddr 49 (.tmp 18) 3, type := _, pos := _, after := _, guard := _ }) (v := ?_) rfl (by kernel_rfl) (by kernel_rfl) (by kernel_rfl) (fun _ _ _ h => h) (Or.inl ⟨by rfl, ?_⟩) hHeld ?_
            rotate_left
            · intro w99 hSw
              first | (go_simp; done) | (go_simp; with_reducible rfl)
            try simp only [Act.put, List.setIfInBounds_toArray, List.set_cons_zero, List.set_cons_succ]
            refine wpAnyH_take (i := 30) (oi := { dst := some 142, op := Op.load 3 (.tmp 141), type := _, pos := _, after := _, guard := _ }) (v := ?_) rfl (by kernel_rfl) (by kernel_rfl) (by kernel_rfl) (fun _ _ _ h => h) (Or.inl ⟨by rfl, ?_⟩) hHeld ?_
            rotate_left
            · intro w99 hSw
              obtain ⟨x0', x1', x2', x3', x4', _, _⟩ := hSw.1.cells; first | (go_simp; done) | (go_simp; with_reducible rfl)
            try simp only [Act.put, List.setIfInBounds_toArray, List.set_cons_zero, List.set_cons_succ]
            clear hrB hrC Hm18 Hm21 hsB hk1821
            have Hbl12 := HQ12.out.bl
            have HN12 := HF12.out.norm
            by_cases h0 : 0 ≤ ix'
            · by_cases h8 : ix' < 8
              · obtain ⟨k, rfl⟩ : ∃ k : Nat, ix' = (k : Int) := ⟨ix'.toNat, by omega⟩
                have hk8 : k < 8 := by omega
                obtain ⟨cb, hcb⟩ : ∃ b, bs1[k]? = some b := ⟨_, List.getElem?_eq_getElem (by rw [Hbl12]; exact hk8)⟩
                have hcb2 : InL L1 (k : Int) ↔ cb = true := by rw [HI12.out k hk8, hcb]; simp
                have dg0 : decide ((0 : Int) ≤ (k : Int)) = true := by simp
                have dg8 : decide ((k : Int) < 8) = true := by simp; omega
                have hcc : (cb != cb) = false := by simp
                refine wpAnyH_take (i := 32) (oi := { dst := some 144, op := Op.fieldAddr 49 (.tmp 18) 3, type := _, pos := _, after := _, guard := _ }) (v := ?_) rfl (by kernel_rfl) (by kernel_rfl) (by kernel_rfl) (fun _ _ _ h => h) (Or.inl ⟨by rfl, ?_⟩) hHeld ?_
                rotate_left
                · intro w99 hSw
                  first | (go_simp; done) | (go_simp; with_reducible rfl)
                try simp only [Act.put, List.setIfInBounds_toArray, List.set_cons_zero, List.set_cons_succ]
                refine wpAnyH_take (i := 33) (oi := { dst := some 145, op := Op.load 3 (.tmp 144), type := _, pos := _, after := _, guard := _ }) (v := ?_) rfl (by kernel_rfl) (by kernel_rfl) (by kernel_rfl) (fun _ _ _ h => h) (Or.inl ⟨by rfl, ?_⟩) hHeld ?_
                rotate_left
                · intro w99 hSw
                  obtain ⟨x0', x1', x2', x3', x4', _, _⟩ := hSw.1.cells; first | (go_simp; done) | (go_simp; with_reducible rfl)
                try simp only [Act.put, List.setIfInBounds_toArray, List.set_cons_zero, List.set_cons_succ]
                refine wpAnyH_take (i := 34) (oi := { dst := some 146, op := Op.binOp BinOp.geq 3 (.tmp 145) (.const (.int .i64 0)) 3, type := _, pos := _, after := _, guard := _ }) (v := ?_) rfl (by kernel_rfl) (by kernel_rfl) (by kernel_rfl) (fun _ _ _ h => h) (Or.inl ⟨by rfl, ?_⟩) hHeld ?_
                rotate_left
                · intro w99 hSw
                  first | (go_simp; done) | (go_simp; with_reducible rfl)
                try simp only [Act.put, List.setIfInBounds_toArray, List.set_cons_zero, List.set_cons_succ]
                refine wpAnyH_ready (rs := [31]) (by kernel_rfl) (by simp) (AllReadyH.cons (o := { dst := some 143, op := Op.call { callee := Callee.value (Operand.func 19), args := #[(.tmp 140), (.tmp 142)], argTypes := #[27, 3] }, type := _, pos := _, after := _, guard := _ }) rfl (fun K hK => ?_) AllReadyH.nil)
                go_simp
                with_reducible refine (r_has (HF12.out.no hHeld.2.1) (k : Int) cb hcb2).mono ?_
                rintro e w' ⟨rfl, hkh⟩
                go_wp2_with fail
                have hx9 := (show HdAt w' xb id' dl' ct' (k : Int) sz' ∧ Kp (fun _ => False) wd7 w' ∧ Kp (fun _ => False) wd21 w' from ⟨hHeld.1.kp hkh (fun h => h), Kp.trans hHeld.2.1 hkh, Kp.trans hHeld.2.2 hkh⟩)
                refine hK.out _ _ hx9 (fun _ => ?_)
                clear hK hHeld
                have hHeld := hx9
                clear hx9
                clear hkh
                generalize w' = wd31 at *
                try simp only [Act.put, List.setIfInBounds_toArray, List.set_cons_zero, List.set_cons_succ]
                refine wpAnyH_take (i := 35) (oi := { dst := some 147, op := Op.move (.tmp 146), type := _, pos := _, after := _, guard := _ }) (v := ?_) rfl (by kernel_rfl) (by kernel_rfl) (by kernel_rfl) (fun _ _ _ h => h) (Or.inl ⟨by rfl, ?_⟩) hHeld ?_
                rotate_left
                · intro w99 hSw
                  first | (go_simp; done) | (go_simp; with_reducible rfl)
                try simp only [Act.put, List.setIfInBounds_toArray, List.set_cons_zero, List.set_cons_succ]
                refine wpAnyH_take (i := 36) (oi := { dst := some 148, op := Op.fieldAddr 49 (.tmp 18) 3, type := _, pos := _, after := _, guard := _ }) (v := ?_) rfl (by kernel_rfl) (by kernel_rfl) (by kernel_rfl) (fun _ _ _ h => h) (Or.inl ⟨by rfl, ?_⟩) hHeld ?_
                rotate_left
                · intro w99 hSw
                  first | (go_simp; done) | (go_simp; with_reducible rfl)
                try simp only [Act.put, List.setIfInBounds_toArray, List.set_cons_zero, List.set_cons_succ]
                refine wpAnyH_take (i := 37) (oi := { dst := some 149, op := Op.load 3 (.tmp 148), type := _, pos := _, after := _, guard := _ }) (v := ?_) rfl (by kernel_rfl) (by kernel_rfl) (by kernel_rfl) (fun _ _ _ h => h) (Or.inl ⟨by rfl, ?_⟩) hHeld ?_
                rotate_left
                · intro w99 hSw
                  obtain ⟨x0', x1', x2', x3', x4', _, _⟩ := hSw.1.cells; first | (go_simp; done) | (go_simp; with_reducible rfl)
                try simp only [Act.put, List.setIfInBounds_toArray, List.set_cons_zero, List.set_cons_succ]
                refine wpAnyH_take (i := 38) (oi := { dst := some 150, op := Op.binOp BinOp.lss 3 (.tmp 149) (.const (.int .i64 8)) 3, type := _, pos := _, after := _, guard := _ }) (v := ?_) rfl (by kernel_rfl) (by kernel_rfl) (by kernel_rfl) (fun _ _ _ h => h) (Or.inl ⟨by rfl, ?_⟩) hHeld ?_
                rotate_left
                · intro w99 hSw
                  first | (go_simp; done) | (go_simp; with_reducible rfl)
                try simp only [Act.put, List.setIfInBounds_toArray, List.set_cons_zero, List.set_cons_succ]
                refine wpAnyH_take (i := 39) (oi := { dst := some 151, op := Op.pick (.tmp 147) (.tmp 150) (.const (Value.bool false)), type := _, pos := _, after := _, guard := _ }) (v := ?_) rfl (by kernel_rfl) (by kernel_rfl) (by kernel_rfl) (fun _ _ _ h => h) (Or.inl ⟨by rfl, ?_⟩) hHeld ?_
                rotate_left
                · intro w99 hSw
                  first | (go_simp; done) | (go_simp; with_reducible rfl)
                try simp only [Act.put, List.setIfInBounds_toArray, List.set_cons_zero, List.set_cons_succ]
                refine wpAnyH_take (i := 40) (oi := { dst := some 152, op := Op.move (.tmp 151), type := _, pos := _, after := _, guard := _ }) (v := ?_) rfl (by kernel_rfl) (by kernel_rfl) (by kernel_rfl) (fun _ _ _ h => h) (Or.inl ⟨by rfl, ?_⟩) hHeld ?_
                rotate_left
                · intro w99 hSw
                  first | (go_simp; done) | (go_simp; with_reducible rfl)
                try simp only [Act.put, List.setIfInBounds_toArray, List.set_cons_zero, List.set_cons_succ]
                refine wpAnyH_take (i := 41) (oi := { dst := some 153, op := Op.move (.tmp 15), type := _, pos := _, after := _, guard := _ }) (v := ?_) rfl (by kernel_rfl) (by kernel_rfl) (by kernel_rfl) (fun _ _ _ h => h) (Or.inl ⟨by rfl, ?_⟩) hHeld ?_
                rotate_left
                · intro w99 hSw
                  first | (go_simp; done) | (go_simp; with_reducible rfl)
                try simp only [Act.put, List.setIfInBounds_toArray, List.set_cons_zero, List.set_cons_succ]
                refine wpAnyH_take (i := 42) (oi := { dst := some 154, op := Op.fieldAddr 49 (.tmp 18) 3, type := _, pos := _, after := _, guard := _ }) (v := ?_) rfl (by kernel_rfl) (by kernel_rfl) (by kernel_rfl) (fun _ _ _ h => h) (Or.inl ⟨by rfl, ?_⟩) hHeld ?_
                rotate_left
                · intro w99 hSw
                  first | (go_simp; done) | (go_simp; with_reducible rfl)
                try simp only [Act.put, List.setIfInBounds_toArray, List.set_cons_zero, List.set_cons_succ]
                refine wpAnyH_take (i := 43) (oi := { dst := some 155, op := Op.load 3 (.tmp 154), type := _, pos := _, after := _, guard := _ }) (v := ?_) rfl (by kernel_rfl) (by kernel_rfl) (by kernel_rfl) (fun _ _ _ h => h) (Or.inl ⟨by rfl, ?_⟩) hHeld ?_
                rotate_left
                · intro w99 hSw
                  obtain ⟨x0', x1', x2', x3', x4', _, _⟩ := hSw.1.cells; first | (go_simp; done) | (go_simp; with_reducible rfl)
                try simp only [Act.put, List.setIfInBounds_toArray, List.set_cons_zero, List.set_cons_succ]
                refine wpAnyH_take (i := 44) (oi := { dst := some 156, op := Op.nilCheck (.tmp 153), type := _, pos := _, after := _, guard := _ }) (v := ?_) rfl (by kernel_rfl) (by kernel_rfl) (by kernel_rfl) (fun _ _ _ h => h) (Or.inl ⟨by rfl, ?_⟩) hHeld ?_
                rotate_left
                · intro w99 hSw
                  first | (go_simp; done) | (go_simp; with_reducible rfl)
                try simp only [Act.put, List.setIfInBounds_toArray, List.set_cons_zero, List.set_cons_succ]
                refine wpAnyH_take (i := 45) (oi := { dst := some 157, op := Op.fieldAddr 67 (.tmp 156) 1, type := _, pos := _, after := _, guard := _ }) (v := ?_) rfl (by kernel_rfl) (by kernel_rfl) (by kernel_rfl) (fun _ _ _ h => h) (Or.inl ⟨by rfl, ?_⟩) hHeld ?_
                rotate_left
                · intro w99 hSw
                  first | (go_simp; done) | (go_simp; with_reducible rfl)
                try simp only [Act.put, List.setIfInBounds_toArray, List.set_cons_zero, List.set_cons_succ]
                refine wpAnyH_take (i := 46) (oi := { dst := some 158, op := Op.indexAddr 64 (.tmp 157) (.tmp 155), type := _, pos := _, after := _, guard := _ }) (v := ?_) rfl (by kernel_rfl) (by kernel_rfl) (by kernel_rfl) (fun _ _ _ h => h) (Or.inl ⟨by rfl, ?_⟩) hHeld ?_
                rotate_left
                · intro w99 hSw
                  first | (go_simp; done) | (go_simp; with_reducible rfl)
                try simp only [Act.put, List.setIfInBounds_toArray, List.set_cons_zero, List.set_cons_succ]
                refine wpAnyH_take (i := 47) (oi := { dst := some 159, op := Op.load 4 (.tmp 158), type := _, pos := _, after := _, guard := _ }) (v := ?_) rfl (by kernel_rfl) (by kernel_rfl) (by kernel_rfl) (fun _ _ _ h => h) (Or.inl ⟨by rfl, ?_⟩) hHeld ?_
                rotate_left
                · intro w99 hSw
                  have cr := ((rw_kp HQ12.out hSw.2.1).cell.cell (5 + k)).trans (rw_c Hbl12 k hk8); rw [hcb] at cr; simp only [Option.map_some] at cr; first | (go_simp; done) | (go_simp; with_reducible rfl)
                try simp only [Act.put, List.setIfInBounds_toArray, List.set_cons_zero, List.set_cons_succ]
                refine wpAnyH_take (i := 48) (oi := { dst := some 160, op := Op.pick (.tmp 152) (.tmp 159) (.const (Value.bool false)), type := _, pos := _, after := _, guard := _ }) (v := ?_) rfl (by kernel_rfl) (by kernel_rfl) (by kernel_rfl) (fun _ _ _ h => h) (Or.inl ⟨by rfl, ?_⟩) hHeld ?_
                rotate_left
                · intro w99 hSw
                  first | (go_simp; done) | (go_simp; with_reducible rfl)
                try simp only [Act.put, List.setIfInBounds_toArray, List.set_cons_zero, List.set_cons_succ]
                refine wpAnyH_take (i := 49) (oi := { dst := some 161, op := Op.binOp BinOp.neq 4 (.tmp 143) (.tmp 160) 4, type := _, pos := _, after := _, guard := _ }) (v := ?_) rfl (by kernel_rfl) (by kernel_rfl) (by kernel_rfl) (fun _ _ _ h => h) (Or.inl ⟨by rfl, ?_⟩) hHeld ?_
                rotate_left
                · intro w99 hSw
                  first | (go_simp; done) | (go_simp; with_reducible rfl)
                try simp only [Act.put, List.setIfInBounds_toArray, List.set_cons_zero, List.set_cons_succ]
                refine wpAnyH_take (i := 50) (oi := { dst := some 162, op := Op.pick (.tmp 137) (.const (Value.bool true)) (.tmp 161), type := _, pos := _, after := _, guard := _ }) (v := ?_) rfl (by kernel_rfl) (by kernel_rfl) (by kernel_rfl) (fun _ _ _ h => h) (Or.inl ⟨by rfl, ?_⟩) hHeld ?_
                rotate_left
                · intro w99 hSw
                  first | (go_simp; done) | (go_simp; with_reducible rfl)
                try simp only [Act.put, List.setIfInBounds_toArray, List.set_cons_zero, List.set_cons_succ]
                refine wpAnyH_done (by kernel_rfl) ?_ _
                go_wp2_with fail
                go_meet
                case rel => exact ⟨rfl, bs1, L1, d1, dd1, HI12, Hd12, Lib.hid (HF12.out.no hHeld.2.1), Lib.hid (rw_kp HQ12.out hHeld.2.1), Lib.hid (Kp.trans HkB.out hHeld.2.1.no)⟩
              · have hcb2 : InL L1 ix' ↔ false = true := ⟨fun h => absurd (inl_rng HN12 h) (by omega), fun h => by cases h⟩
                have dg0 : decide ((0 : Int) ≤ ix') = true := by simp; omega
                have dg8 : decide (ix' < 8) = false := by simp; omega
                refine wpAnyH_take (i := 32) (oi := { dst := some 144, op := Op.fieldAddr 49 (.tmp 18) 3, type := _, pos := _, after := _, guard := _ }) (v := ?_) rfl (by kernel_rfl) (by kernel_rfl) (by kernel_rfl) (fun _ _ _ h => h) (Or.inl ⟨by rfl, ?_⟩) hHeld ?_
                rotate_left
                · intro w99 hSw
                  first | (go_simp; done) | (go_simp; with_reducible rfl)
                try simp only [Act.put, List.setIfInBounds_toArray, List.set_cons_zero, List.set_cons_succ]
                refine wpAnyH_take (i := 33) (oi := { dst := some 145, op := Op.load 3 (.tmp 144), type := _, pos := _, after := _, guard := _ }) (v := ?_) rfl (by kernel_rfl) (by kernel_rfl) (by kernel_rfl) (fun _ _ _ h => h) (Or.inl ⟨by rfl, ?_⟩) hHeld ?_
                rotate_left
                · intro w99 hSw
                  obtain ⟨x0', x1', x2', x3', x4', _, _⟩ := hSw.1.cells; first | (go_simp; done) | (go_simp; with_reducible rfl)
                try simp only [Act.put, List.setIfInBounds_toArray, List.set_cons_zero, List.set_cons_succ]
                refine wpAnyH_take (i := 34) (oi := { dst := some 146, op := Op.binOp BinOp.geq 3 (.tmp 145) (.const (.int .i64 0)) 3, type := _, pos := _, after := _, guard := _ }) (v := ?_) rfl (by kernel_rfl) (by kernel_rfl) (by kernel_rfl) (fun _ _ _ h => h) (Or.inl ⟨by rfl, ?_⟩) hHeld ?_
                rotate_left
                · intro w99 hSw
                  first | (go_simp; done) | (go_simp; with_reducible rfl)
                try simp only [Act.put, List.setIfInBounds_toArray, List.set_cons_zero, List.set_cons_succ]
                refine wpAnyH_ready (rs := [31]) (by kernel_rfl) (by simp) (AllReadyH.cons (o := { dst := some 143, op := Op.call { callee := Callee.value (Operand.func 19), args := #[(.tmp 140), (.tmp 142)], argTypes := #[27, 3] }, type := _, pos := _, after := _, guard := _ }) rfl (fun K hK => ?_) AllReadyH.nil)
                go_simp
                with_reducible refine (r_has (HF12.out.no hHeld.2.1) ix' false hcb2).mono ?_
                rintro e w' ⟨rfl, hkh⟩
                go_wp2_with fail
                have hx9 := (show HdAt w' xb id' dl' ct' ix' sz' ∧ Kp (fun _ => False) wd7 w' ∧ Kp (fun _ => False) wd21 w' from ⟨hHeld.1.kp hkh (fun h => h), Kp.trans hHeld.2.1 hkh, Kp.trans hHeld.2.2 hkh⟩)
                refine hK.out _ _ hx9 (fun _ => ?_)
                clear hK hHeld
                have hHeld := hx9
                clear hx9
                clear hkh
                generalize w' = wd31 at *
                try simp only [Act.put, List.setIfInBounds_toArray, List.set_cons_zero, List.set_cons_succ]
                refine wpAnyH_take (i := 35) (oi := { dst := some 147, op := Op.move (.tmp 146), type := _, pos := _, after := _, guard := _ }) (v := ?_) rfl (by kernel_rfl) (by kernel_rfl) (by kernel_rfl) (fun _ _ _ h => h) (Or.inl ⟨by rfl, ?_⟩) hHeld ?_
                rotate_left
                · intro w99 hSw
                  first | (go_simp; done) | (go_simp; with_reducible rfl)
                try simp only [Act.put, List.setIfInBounds_toArray, List.set_cons_zero, List.set_cons_succ]
                refine wpAnyH_take (i := 36) (oi := { dst := some 148, op := Op.fieldAddr 49 (.tmp 18) 3, type := _, pos := _, after := _, guard := _ }) (v := ?_) rfl (by kernel_rfl) (by kernel_rfl) (by kernel_rfl) (fun _ _ _ h => h) (Or.inl ⟨by rfl, ?_⟩) hHeld ?_
                rotate_left
                · intro w99 hSw
                  first | (go_simp; done) | (go_simp; with_reducible rfl)
                try simp only [Act.put, List.setIfInBounds_toArray, List.set_cons_zero, List.set_cons_succ]
                refine wpAnyH_take (i := 37) (oi := { dst := some 149, op := Op.load 3 (.tmp 148), type := _, pos := _, after := _, guard := _ }) (v := ?_) rfl (by kernel_rfl) (by kernel_rfl) (by kernel_rfl) (fun _ _ _ h => h) (Or.inl ⟨by rfl, ?_⟩) hHeld ?_
                rotate_left
                · intro w99 hSw
                  obtain ⟨x0', x1', x2', x3', x4', _, _⟩ := hSw.1.cells; first | (go_simp; done) | (go_simp; with_reducible rfl)
                try simp only [Act.put, List.setIfInBounds_toArray, List.set_cons_zero, List.set_cons_succ]
                refine wpAnyH_take (i := 38) (oi := { dst := some 150, op := Op.binOp BinOp.lss 3 (.tmp 149) (.const (.int .i64 8)) 3, type := _, pos := _, after := _, guard := _ }) (v := ?_) rfl (by kernel_rfl) (by kernel_rfl) (by kernel_rfl) (fun _ _ _ h => h) (Or.inl ⟨by rfl, ?_⟩) hHeld ?_
                rotate_left
                · intro w99 hSw
                  first | (go_simp; done) | (go_simp; with_reducible rfl)
                try simp only [Act.put, List.setIfInBounds_toArray, List.set_cons_zero, List.set_cons_succ]
                refine wpAnyH_take (i := 39) (oi := { dst := some 151, op := Op.pick (.tmp 147) (.tmp 150) (.const (Value.bool false)), type := _, pos := _, after := _, guard := _ }) (v := ?_) rfl (by kernel_rfl) (by kernel_rfl) (by kernel_rfl) (fun _ _ _ h => h) (Or.inl ⟨by rfl, ?_⟩) hHeld ?_
                rotate_left
                · intro w99 hSw
                  first | (go_simp; done) | (go_simp; with_reducible rfl)
                try simp only [Act.put, List.setIfInBounds_toArray, List.set_cons_zero, List.set_cons_succ]
                refine wpAnyH_take (i := 40) (oi := { dst := some 152, op := Op.move (.tmp 151), type := _, pos := _, after := _, guard := _ }) (v := ?_) rfl (by kernel_rfl) (by kernel_rfl) (by kernel_rfl) (fun _ _ _ h => h) (Or.inl ⟨by rfl, ?_⟩) hHeld ?_
                rotate_left
                · intro w99 hSw
                  first | (go_simp; done) | (go_simp; with_reducible rfl)
                try simp only [Act.put, List.setIfInBounds_toArray, List.set_cons_zero, List.set_cons_succ]
                refine wpAnyH_take (i := 41) (oi := { dst := some 153, op := Op.move (.tmp 15), type := _, pos := _, after := _, guard := _ }) (v := undef) rfl (by kernel_rfl) (by kernel_rfl) (by kernel_rfl) (fun _ _ _ h => h) (Or.inr ⟨by rfl, rfl⟩) hHeld ?_
                try simp only [Act.put, List.setIfInBounds_toArray, List.set_cons_zero, List.set_cons_succ]
                refine wpAnyH_take (i := 42) (oi := { dst := some 154, op := Op.fieldAddr 49 (.tmp 18) 3, type := _, pos := _, after := _, guard := _ }) (v := undef) rfl (by kernel_rfl) (by kernel_rfl) (by kernel_rfl) (fun _ _ _ h => h) (Or.inr ⟨by rfl, rfl⟩) hHeld ?_
                try simp only [Act.put, List.setIfInBounds_toArray, List.set_cons_zero, List.set_cons_succ]
                refine wpAnyH_take (i := 43) (oi := { dst := some 155, op := Op.load 3 (.tmp 154), type := _, pos := _, after := _, guard := _ }) (v := undef) rfl (by kernel_rfl) (by kernel_rfl) (by kernel_rfl) (fun _ _ _ h => h) (Or.inr ⟨by rfl, rfl⟩) hHeld ?_
                try simp only [Act.put, List.setIfInBounds_toArray, List.set_cons_zero, List.set_cons_succ]
                refine wpAnyH_take (i := 44) (oi := { dst := some 156, op := Op.nilCheck (.tmp 153), type := _, pos := _, after := _, guard := _ }) (v := undef) rfl (by kernel_rfl) (by kernel_rfl) (by kernel_rfl) (fun _ _ _ h => h) (Or.inr ⟨by rfl, rfl⟩) hHeld ?_
                try simp only [Act.put, List.setIfInBounds_toArray, List.set_cons_zero, List.set_cons_succ]
                refine wpAnyH_take (i := 45) (oi := { dst := some 157, op := Op.fieldAddr 67 (.tmp 156) 1, type := _, pos := _, after := _, guard := _ }) (v := undef) rfl (by kernel_rfl) (by kernel_rfl) (by kernel_rfl) (fun _ _ _ h => h) (Or.inr ⟨by rfl, rfl⟩) hHeld ?_
                try simp only [Act.put, List.setIfInBounds_toArray, List.set_cons_zero, List.set_cons_succ]
                refine wpAnyH_take (i := 46) (oi := { dst := some 158, op := Op.indexAddr 64 (.tmp 157) (.tmp 155), type := _, pos := _, after := _, guard := _ }) (v := undef) rfl (by kernel_rfl) (by kernel_rfl) (by kernel_rfl) (fun _ _ _ h => h) (Or.inr ⟨by rfl, rfl⟩) hHeld ?_
                try simp only [Act.put, List.setIfInBounds_toArray, List.set_cons_zero, List.set_cons_succ]
                refine wpAnyH_take (i := 47) (oi := { dst := some 159, op := Op.load 4 (.tmp 158), type := _, pos := _, after := _, guard := _ }) (v := undef) rfl (by kernel_rfl) (by kernel_rfl) (by kernel_rfl) (fun _ _ _ h => h) (Or.inr ⟨by rfl, rfl⟩) hHeld ?_
                try simp only [Act.put, List.setIfInBounds_toArray, List.set_cons_zero, List.set_cons_succ]
                refine wpAnyH_take (i := 48) (oi := { dst := some 160, op := Op.pick (.tmp 152) (.tmp 159) (.const (Value.bool false)), type := _, pos := _, after := _, guard := _ }) (v := ?_) rfl (by kernel_rfl) (by kernel_rfl) (by kernel_rfl) (fun _ _ _ h => h) (Or.inl ⟨by rfl, ?_⟩) hHeld ?_
                rotate_left
                · intro w99 hSw
                  first | (go_simp; done) | (go_simp; with_reducible rfl)
                try simp only [Act.put, List.setIfInBounds_toArray, List.set_cons_zero, List.set_cons_succ]
                refine wpAnyH_take (i := 49) (oi := { dst := some 161, op := Op.binOp BinOp.neq 4 (.tmp 143) (.tmp 160) 4, type := _, pos := _, after := _, guard := _ }) (v := ?_) rfl (by kernel_rfl) (by kernel_rfl) (by kernel_rfl) (fun _ _ _ h => h) (Or.inl ⟨by rfl, ?_⟩) hHeld ?_
                rotate_left
                · intro w99 hSw
                  first | (go_simp; done) | (go_simp; with_reducible rfl)
                try simp only [Act.put, List.setIfInBounds_toArray, List.set_cons_zero, List.set_cons_succ]
                refine wpAnyH_take (i := 50) (oi := { dst := some 162, op := Op.pick (.tmp 137) (.const (Value.bool true)) (.tmp 161), type := _, pos := _, after := _, guard := _ }) (v := ?_) rfl (by kernel_rfl) (by kernel_rfl) (by kernel_rfl) (fun _ _ _ h => h) (Or.inl ⟨by rfl, ?_⟩) hHeld ?_
                rotate_left
                · intro w99 hSw
                  first | (go_simp; done) | (go_simp; with_reducible rfl)
                try simp only [Act.put, List.setIfInBounds_toArray, List.set_cons_zero, List.set_cons_succ]
                refine wpAnyH_done (by kernel_rfl) ?_ _
                go_wp2_with fail
                go_meet
                case rel => exact ⟨rfl, bs1, L1, d1, dd1, HI12, Hd12, Lib.hid (HF12.out.no hHeld.2.1), Lib.hid (rw_kp HQ12.out hHeld.2.1), Lib.hid (Kp.trans HkB.out hHeld.2.1.no)⟩
            · have hcb2 : InL L1 ix' ↔ false = true := ⟨fun h => absurd (inl_rng HN12 h) (by omega), fun h => by cases h⟩
              have dg0 : decide ((0 : Int) ≤ ix') = false := by simp; omega
              refine wpAnyH_take (i := 32) (oi := { dst := some 144, op := Op.fieldAddr 49 (.tmp 18) 3, type := _, pos := _, after := _, guard := _ }) (v := ?_) rfl (by kernel_rfl) (by kernel_rfl) (by kernel_rfl) (fun _ _ _ h => h) (Or.inl ⟨by rfl, ?_⟩) hHeld ?_
              rotate_left
              · intro w99 hSw
                first | (go_simp; done) | (go_simp; with_reducible rfl)
              try simp only [Act.put, List.setIfInBounds_toArray, List.set_cons_zero, List.set_cons_succ]
              refine wpAnyH_take (i := 33) (oi := { dst := some 145, op := Op.load 3 (.tmp 144), type := _, pos := _, after := _, guard := _ }) (v := ?_) rfl (by kernel_rfl) (by kernel_rfl) (by kernel_rfl) (fun _ _ _ h => h) (Or.inl ⟨by rfl, ?_⟩) hHeld ?_
              rotate_left
              · intro w99 hSw
                obtain ⟨x0', x1', x2', x3', x4', _, _⟩ := hSw.1.cells; first | (go_simp; done) | (go_simp; with_reducible rfl)
              try simp only [Act.put, List.setIfInBounds_toArray, List.set_cons_zero, List.set_cons_succ]
              refine wpAnyH_take (i := 34) (oi := { dst := some 146, op := Op.binOp BinOp.geq 3 (.tmp 145) (.const (.int .i64 0)) 3, type := _, pos := _, after := _, guard := _ }) (v := ?_) rfl (by kernel_rfl) (by kernel_rfl) (by kernel_rfl) (fun _ _ _ h => h) (Or.inl ⟨by rfl, ?_⟩) hHeld ?_
              rotate_left
              · intro w99 hSw
                first | (go_simp; done) | (go_simp; with_reducible rfl)
              try simp only [Act.put, List.setIfInBounds_toArray, List.set_cons_zero, List.set_cons_succ]
              refine wpAnyH_ready (rs := [31]) (by kernel_rfl) (by simp) (AllReadyH.cons (o := { dst := some 143, op := Op.call { callee := Callee.value (Operand.func 19), args := #[(.tmp 140), (.tmp 142)], argTypes := #[27, 3] }, type := _, pos := _, after := _, guard := _ }) rfl (fun K hK => ?_) AllReadyH.nil)
              go_simp
              with_reducible refine (r_has (HF12.out.no hHeld.2.1) ix' false hcb2).mono ?_
              rintro e w' ⟨rfl, hkh⟩
              go_wp2_with fail
              have hx9 := (show HdAt w' xb id' dl' ct' ix' sz' ∧ Kp (fun _ => False) wd7 w' ∧ Kp (fun _ => False) wd21 w' from ⟨hHeld.1.kp hkh (fun h => h), Kp.trans hHeld.2.1 hkh, Kp.trans hHeld.2.2 hkh⟩)
              refine hK.out _ _ hx9 (fun _ => ?_)
              clear hK hHeld
              have hHeld := hx9
              clear hx9
              clear hkh
              generalize w' = wd31 at *
              try simp only [Act.put, List.setIfInBounds_toArray, List.set_cons_zero, List.set_cons_succ]
              refine wpAnyH_take (i := 35) (oi := { dst := some 147, op := Op.move (.tmp 146), type := _, pos := _, after := _, guard := _ }) (v := ?_) rfl (by kernel_rfl) (by kernel_rfl) (by kernel_rfl) (fun _ _ _ h => h) (Or.inl ⟨by rfl, ?_⟩) hHeld ?_
              rotate_left
              · intro w99 hSw
                first | (go_simp; done) | (go_simp; with_reducible rfl)
              try simp only [Act.put, List.setIfInBounds_toArray, List.set_cons_zero, List.set_cons_succ]
              refine wpAnyH_take (i := 36) (oi := { dst := some 148, op := Op.fieldAddr 49 (.tmp 18) 3, type := _, pos := _, after := _, guard := _ }) (v := undef) rfl (by kernel_rfl) (by kernel_rfl) (by kernel_rfl) (fun _ _ _ h => h) (Or.inr ⟨by rfl, rfl⟩) hHeld ?_
              try simp only [Act.put, List.setIfInBounds_toArray, List.set_cons_zero, List.set_cons_succ]
              refine wpAnyH_take (i := 37) (oi := { dst := some 149, op := Op.load 3 (.tmp 148), type := _, pos := _, after := _, guard := _ }) (v := undef) rfl (by kernel_rfl) (by kernel_rfl) (by kernel_rfl) (fun _ _ _ h => h) (Or.inr ⟨by rfl, rfl⟩) hHeld ?_
              try simp only [Act.put, List.setIfInBounds_toArray, List.set_cons_zero, List.set_cons_succ]
              refine wpAnyH_take (i := 38) (oi := { dst := some 150, op := Op.binOp BinOp.lss 3 (.tmp 149) (.const (.int .i64 8)) 3, type := _, pos := _, after := _, guard := _ }) (v := undef) rfl (by kernel_rfl) (by kernel_rfl) (by kernel_rfl) (fun _ _ _ h => h) (Or.inr ⟨by rfl, rfl⟩) hHeld ?_
              try simp only [Act.put, List.setIfInBounds_toArray, List.set_cons_zero, List.set_cons_succ]
              refine wpAnyH_take (i := 39) (oi := { dst := some 151, op := Op.pick (.tmp 147) (.tmp 150) (.const (Value.bool false)), type := _, pos := _, after := _, guard := _ }) (v := ?_) rfl (by kernel_rfl) (by kernel_rfl) (by kernel_rfl) (fun _ _ _ h => h) (Or.inl ⟨by rfl, ?_⟩) hHeld ?_
              rotate_left
              · intro w99 hSw
                first | (go_simp; done) | (go_simp; with_reducible rfl)
              try simp only [Act.put, List.setIfInBounds_toArray, List.set_cons_zero, List.set_cons_succ]
              refine wpAnyH_take (i := 40) (oi := { dst := some 152, op := Op.move (.tmp 151), type := _, pos := _, after := _, guard := _ }) (v := ?_) rfl (by kernel_rfl) (by kernel_rfl) (by kernel_rfl) (fun _ _ _ h => h) (Or.inl ⟨by rfl, ?_⟩) hHeld ?_
              rotate_left
              · intro w99 hSw
                first | (go_simp; done) | (go_simp; with_reducible rfl)
              try simp only [Act.put, List.setIfInBounds_toArray, List.set_cons_zero, List.set_cons_succ]
              refine wpAnyH_take (i := 41) (oi := { dst := some 153, op := Op.move (.tmp 15), type := _, pos := _, after := _, guard := _ }) (v := undef) rfl (by kernel_rfl) (by kernel_rfl) (by kernel_rfl) (fun _ _ _ h => h) (Or.inr ⟨by rfl, rfl⟩) hHeld ?_
              try simp only [Act.put, List.setIfInBounds_toArray, List.set_cons_zero, List.set_cons_succ]
              refine wpAnyH_take (i := 42) (oi := { dst := some 154, op := Op.fieldAddr 49 (.tmp 18) 3, type := _, pos := _, after := _, guard := _ }) (v := undef) rfl (by kernel_rfl) (by kernel_rfl) (by kernel_rfl) (fun _ _ _ h => h) (Or.inr ⟨by rfl, rfl⟩) hHeld ?_
              try simp only [Act.put, List.setIfInBounds_toArray, List.set_cons_zero, List.set_cons_succ]
              refine wpAnyH_take (i := 43) (oi := { dst := some 155, op := Op.load 3 (.tmp 154), type := _, pos := _, after := _, guard := _ }) (v := undef) rfl (by kernel_rfl) (by kernel_rfl) (by kernel_rfl) (fun _ _ _ h => h) (Or.inr ⟨by rfl, rfl⟩) hHeld ?_
              try simp only [Act.put, List.setIfInBounds_toArray, List.set_cons_zero, List.set_cons_succ]
              refine wpAnyH_take (i := 44) (oi := { dst := some 156, op := Op.nilCheck (.tmp 153), type := _, pos := _, after := _, guard := _ }) (v := undef) rfl (by kernel_rfl) (by kernel_rfl) (by kernel_rfl) (fun _ _ _ h => h) (Or.inr ⟨by rfl, rfl⟩) hHeld ?_
              try simp only [Act.put, List.setIfInBounds_toArray, List.set_cons_zero, List.set_cons_succ]
              refine wpAnyH_take (i := 45) (oi := { dst := some 157, op := Op.fieldAddr 67 (.tmp 156) 1, type := _, pos := _, after := _, guard := _ }) (v := undef) rfl (by kernel_rfl) (by kernel_rfl) (by kernel_rfl) (fun _ _ _ h => h) (Or.inr ⟨by rfl, rfl⟩) hHeld ?_
              try simp only [Act.put, List.setIfInBounds_toArray, List.set_cons_zero, List.set_cons_succ]
              refine wpAnyH_take (i := 46) (oi := { dst := some 158, op := Op.indexAddr 64 (.tmp 157) (.tmp 155), type := _, pos := _, after := _, guard := _ }) (v := undef) rfl (by kernel_rfl) (by kernel_rfl) (by kernel_rfl) (fun _ _ _ h => h) (Or.inr ⟨by rfl, rfl⟩) hHeld ?_
              try simp only [Act.put, List.setIfInBounds_toArray, List.set_cons_zero, List.set_cons_succ]
              refine wpAnyH_take (i := 47) (oi := { dst := some 159, op := Op.load 4 (.tmp 158), type := _, pos := _, after := _, guard := _ }) (v := undef) rfl (by kernel_rfl) (by kernel_rfl) (by kernel_rfl) (fun _ _ _ h => h) (Or.inr ⟨by rfl, rfl⟩) hHeld ?_
              try simp only [Act.put, List.setIfInBounds_toArray, List.set_cons_zero, List.set_cons_succ]
              refine wpAnyH_take (i := 48) (oi := { dst := some 160, op := Op.pick (.tmp 152) (.tmp 159) (.const (Value.bool false)), type := _, pos := _, after := _, guard := _ }) (v := ?_) rfl (by kernel_rfl) (by kernel_rfl) (by kernel_rfl) (fun _ _ _ h => h) (Or.inl ⟨by rfl, ?_⟩) hHeld ?_
              rotate_left
              · intro w99 hSw
                first | (go_simp; done) | (go_simp; with_reducible rfl)
              try simp only [Act.put, List.setIfInBounds_toArray, List.set_cons_zero, List.set_cons_succ]
              refine wpAnyH_take (i := 49) (oi := { dst := some 161, op := Op.binOp BinOp.neq 4 (.tmp 143) (.tmp 160) 4, type := _, pos := _, after := _, guard := _ }) (v := ?_) rfl (by kernel_rfl) (by kernel_rfl) (by kernel_rfl) (fun _ _ _ h => h) (Or.inl ⟨by rfl, ?_⟩) hHeld ?_
              rotate_left
              · intro w99 hSw
                first | (go_simp; done) | (go_simp; with_reducible rfl)
              try simp only [Act.put, List.setIfInBounds_toArray, List.set_cons_zero, List.set_cons_succ]
              refine wpAnyH_take (i := 50) (oi := { dst := some 162, op := Op.pick (.tmp 137) (.const (Value.bool true)) (.tmp 161), type := _, pos := _, after := _, guard := _ }) (v := ?_) rfl (by kernel_rfl) (by kernel_rfl) (by kernel_rfl) (fun _ _ _ h => h) (Or.inl ⟨by rfl, ?_⟩) hHeld ?_
              rotate_left
              · intro w99 hSw
                first | (go_simp; done) | (go_simp; with_reducible rfl)
              try simp only [Act.put, List.setIfInBounds_toArray, List.set_cons_zero, List.set_cons_succ]
              refine wpAnyH_done (by kernel_rfl) ?_ _
              go_wp2_with fail
              go_meet
              case rel => exact ⟨rfl, bs1, L1, d1, dd1, HI12, Hd12, Lib.hid (HF12.out.no hHeld.2.1), Lib.hid (rw_kp HQ12.out hHeld.2.1), Lib.hid (Kp.trans HkB.out hHeld.2.1.no)⟩
        case rest =>
          obtain ⟨rfl, bs1, L1, d1, dd1, HI1, Hd1, HF1, HR1, HkB⟩ := hcut
          generalize wc = w11 at *
          have hD11 := HD10.out.kp HkB.out (show ¬ (hb = g ∨ hb = gb ∨ hb = r) by omega)
          have hk11 := (Hk10.out.no.trans HkB.out).mono (S' := fun _ => False) (fun j hj e => by omega)
          have HD11 := Lib.hid hD11
          have Hk11 := Lib.hid hk11
          clear hD11 hk11 HD10 Hk10 HkB HF10 HR10 Hsrc10
          go_wp2_with fail
          go_roundw
          case rel => exact ⟨i + 1, bs1, L1, d1, dd1, by omega, by go_num, HI1, Hd1, Lib.hid (HF1.out.mono (fun x hx => by simp at hx ⊢; rcases hx with hx | hx <;> simp [hx])), HR1, HD11, Hk11.out⟩
          case measure => simp [intOf]; omega
    · obtain rfl : i = len := by omega
      have HH := Lib.hid (r_head HF.out)
      go_wp2_with fail
      with_reducible refine (HH.out).mono ?_
      rintro e w7 ⟨rfl, hk7⟩
      have hR7 := hk7.whole HR.out.cell (fun h => h)
      have hx := HdAt.new w7 pid mdl ct 0 n
      have hkx : Kp (fun _ => False) w7 (w7.alloc (.cells #[.int .i64 pid, .int .i64 mdl, .int .i64 ct, .int .i64 0, .int .i64 n] 49)) := (Kp.refl _ w7).alloc _
      have hR8 := hkx.whole hR7 (fun h => h)
      have Hk8 := Lib.hid ((Hkp.out.trans hk7).trans hkx)
      clear hk7 hkx hR7
      go_upto_region 30 with (fail)
      generalize w7.alloc (.cells #[.int .i64 pid, .int .i64 mdl, .int .i64 ct, .int .i64 0, .int .i64 n] 49) = w8 at *
      generalize w7.heap.size = zb at *
      obtain ⟨z0, z1, z2, z3, z4, hzl, _⟩ := hx.cells
      have y0 := (hR8.cell 0).trans (rw_h bs dd).1
      have y1 := (hR8.cell 1).trans (rw_h bs dd).2.1
      have y2 := (hR8.cell 2).trans (rw_h bs dd).2.2.1
      have y3 := (hR8.cell 3).trans (rw_h bs dd).2.2.2.1
      have y4 := (hR8.cell 4).trans (rw_h bs dd).2.2.2.2
      have hrl := hR8.lt
      have heq := fun w => eql_hd w pid mdl ct 0 n pid mdl ct 0 n
      rw [show hdB pid mdl ct 0 n pid mdl ct 0 n = true by simp [hdB]] at heq
      clear hx hR8
      go_wp2_with fail
      go_quiet (fail)
      go_wp2_with fail
      go_ret
      exact ⟨rfl, (Hk8.out.drewN _).below (Nat.le_refl _) (fun _ h => h.elim)⟩
end Go.Proofs.Ytdcbgjbhoejpnaa

/-
  argosylaw19: FragsOwn.
-/
import Derived.Test.YtdcbgjbhoejpnaaFragAll
namespace Go.Proofs.Ytdcbgjbhoejpnaa
open Go.RowKit

/-- Bytes as numbers. -/
def u8s (xs : List Value) : Prop := ∀ u ∈ xs, ∃ y : Int, u = .int .u8 y ∧ 0 ≤ y ∧ y ≤ 255
theorem u8s_enc (d : List UInt8) : u8s (encB d) := fun u hu => by
  simp only [encB, List.mem_map] at hu
  obtain ⟨c, _, rfl⟩ := hu
  exact ⟨_, rfl, by omega, by have := c.toNat_lt; omega⟩
theorem u8s_set {xs : List Value} (h : u8s xs) (j : Nat) (y : Int) (h0 : 0 ≤ y) (h1 : y ≤ 255) : u8s (xs.set j (.int .u8 y)) := fun u hu => by
  rcases List.mem_or_eq_of_mem_set hu with hu | hu
  · exact h u hu
  · exact ⟨y, hu, h0, h1⟩

set_option maxRecDepth 100000 in
set_option maxHeartbeats 4000000 in
theorem FragsOwn_any (W : World) (x0 : Int) (_l0 : -9223372036854775808 ≤ x0) (_h0 : x0 ≤ 9223372036854775807) (x1 : Int) (_l1 : -9223372036854775808 ≤ x1) (_h1 : x1 ≤ 9223372036854775807)
    (v3 : Value) (hv3 : SlArg 54 W v3) :
    Calls Try.prog 10 #[.int .i64 x0, .int .i64 x1, v3] W fun e w' => e = .returned (.bool true) ∧ Below W.heap.size W w' := by
  obtain ⟨Ap, pd, capp, rfl, hpb, _, _, _, _, hpr⟩ := bytes_rd hv3
  unfold reachBytes at hpr
  have Hpb := Lib.hid hpb
  have HH := Lib.hid (head0_any x0 5 x1 (by omega) (by omega) W)
  clear hv3 hpb
  generalize hpl : pd.length = pl at *
  have Hpl := Lib.hid hpl
  clear hpl
  go_enter Try.func10, Try.ntmps10
  go_wp2_with fail
  with_reducible refine (HH.out).mono ?_
  rintro e w1 ⟨pid, mdl, n, hr, rfl, hk1⟩
  have hr0 := rightB_iff0.1 hr
  obtain ⟨ct, hct⟩ : ∃ ct : Nat, (ct : Int) = cntH (n : Int) := ⟨(cntH (n : Int)).toNat, by have := cnt_lo (sz := (n : Int)) (by omega); omega⟩
  rw [← hct] at hr ⊢
  have hct1 : 1 ≤ ct := by have := cnt_lo (sz := (n : Int)) (by omega); omega
  have hct8 : ct ≤ 8 := by have := cnt_hi (sz := (n : Int)) (by omega); omega
  have hn1 : 1 ≤ n := by omega
  have hn6 : n ≤ 600 := by omega
  have hctn : ∀ k : Nat, k < ct ↔ k * 80 < n := fun k => by unfold cntH at hct; omega
  have Hctn := Lib.hid hctn
  have hrk : ∀ k : Nat, k < ct → rightB pid mdl (ct : Int) (k : Int) (n : Int) = true := fun k hk => rightB_iff0.2 (by omega)
  have Hrk := Lib.hid hrk
  have Hr := Lib.hid hr
  have hd := HdAt.new w1 pid mdl ct 0 n
  have hk2 := hk1.alloc (.cells #[.int .i64 pid, .int .i64 mdl, .int .i64 ct, .int .i64 0, .int .i64 n] 49)
  have hwW := hk1.size
  clear hr hr0 hct hctn hrk hk1 HH
  go_upto_region 2 with (fail)
  generalize w1.alloc (.cells #[.int .i64 pid, .int .i64 mdl, .int .i64 ct, .int .i64 0, .int .i64 n] 49) = w2 at *
  generalize w1.heap.size = hb at *
  obtain ⟨c0, c1, c2, c3, c4, hbl, _⟩ := hd.cells
  have hpb2 : Bs W (.slice Ap pd.length capp) pd := by rw [Hpl.out]; exact Hpb.out
  have htx := text_any (bs_kp hpb2 hk2) (by rw [Hpl.out]; omega) n (by omega)
  rw [Hpl.out] at htx
  have Htx := Lib.hid htx
  have Hd := Lib.hid hd
  have Hk2 := Lib.hid hk2
  clear hd hk2 htx hpb2
  go_wp2_with fail
  with_reducible refine (Htx.out).mono ?_
  rintro e w3 ⟨vb, B, rfl, hBl, hrow, hk3⟩
  obtain ⟨Ab, cb0, rfl⟩ := hrow.form
  have hcapb := row_capL hrow
  have Hrow := Lib.hid hrow
  have HBs := Lib.hid (hrow.src (encB_one _))
  have HBl := Lib.hid hBl
  have Hd3 := Lib.hid (Hd.out.kp hk3 (fun h => h))
  have Hk3 := Lib.hid (Hk2.out.trans hk3)
  have hw23 := hk3.size
  clear hBl hrow hk3 c0 c1 c2 c3 c4 Hd Hk2 Htx
  obtain ⟨c0, c1, c2, c3, c4, hbl3, _⟩ := Hd3.out.cells
  have Hnew := Lib.hid (r_new [hb] pid mdl ct 0 n w3 (fun x hx => by simp at hx; subst hx; exact hbl3) Hr.out)
  go_wp2_with fail
  with_reducible refine (Hnew.out).mono ?_
  rintro e w4 ⟨g, gb, rfl, hF, hg, hgb, hk4⟩
  have Hd4 := Lib.hid (Hd3.out.kp hk4 (fun h => h))
  have HF4 := Lib.hid hF
  have HB4 := Lib.hid (hk4.src HBs.out (fun _ _ h => h))
  have Hk4 := Lib.hid (Hk3.out.trans hk4)
  have hgW : W.heap.size ≤ g := by have := Hk3.out.size; omega
  have hgbW : W.heap.size ≤ gb := by have := Hk3.out.size; omega
  have hAbg : ∀ k, (Value.slice Ab n cb0).ownBlock = some k → k < g ∧ k < gb := fun k hk => by have := (Hrow.out.lt k hk).2; omega
  have HAbg := Lib.hid hAbg
  have hbg : hb < g ∧ hb < gb := by omega
  clear hF hk4 c0 c1 c2 c3 c4 hAbg Hnew Hd3 HBs Hk3 Hrow hg hgb
  obtain ⟨c0, c1, c2, c3, c4, hbl4, _⟩ := Hd4.out.cells
  have hgl4 := HF4.out.lt
  have Hnew2 := Lib.hid (r_new [g, gb, hb] pid mdl ct 0 n w4 (fun x hx => by simp at hx; rcases hx with rfl | rfl | rfl <;> omega) Hr.out)
  go_wp2_with fail
  with_reducible refine (Hnew2.out).mono ?_
  rintro e w5 ⟨gv, gvb, rfl, hV, _, _, hk5⟩
  have Hd5 := Lib.hid (Hd4.out.kp hk5 (fun h => h))
  have HF5 := Lib.hid (HF4.out.no hk5)
  have HV5 := Lib.hid hV
  have HB5 := Lib.hid (hk5.src HB4.out (fun _ _ h => h))
  have Hk5 := Lib.hid (Hk4.out.trans hk5)
  clear hk5 hV Hd4 HF4 HB4 Hk4 Hnew2 c0 c1 c2 c3 c4 hbl4 hgl4
  have Hkn := Lib.hid (known19 w5)
  go_wp2_with fail
  with_reducible refine (Hkn.out).mono ?_
  rintro e w6 ⟨rfl, hk6⟩
  have Hd6 := Lib.hid (Hd5.out.kp hk6 (fun h => h))
  have HF6 := Lib.hid (HF5.out.no hk6)
  have HV6 := Lib.hid (HV5.out.no hk6)
  have HB6 := Lib.hid (hk6.src HB5.out (fun _ _ h => h))
  have Hk6 := Lib.hid (Hk5.out.trans hk6)
  clear hk6 Hd5 HF5 HV5 HB5 Hk5 Hkn hbl3 hbl
  go_upto_region 7 with (fail)
  go_wp2_with fail
  go_loopw [11] (fun vi wr => ∃ (k : Nat) (L : List Pr) (d : List UInt8), k ≤ ct ∧ vi = .int .i64 k ∧ Hid (∀ q : Int, InL L q ↔ 0 ≤ q ∧ q < k) ∧ Hid (Good B d n L) ∧ Hid (HasFr wr [hb] g gb pid mdl ct n L d) ∧ Hid (HasFr wr [g, gb, hb] gv gvb pid mdl ct n [] (zeros n)) ∧ Hid (HdAt wr hb pid mdl ct 0 n) ∧ Hid (Src wr 1 (.slice Ab n cb0) n (encB B)) ∧ Kp (fun _ => False) W wr)
    (fun vi _ => ct - (intOf vi).toNat)
  case atStart => exact ⟨0, [], zeros n, by omega, rfl, Lib.hid (fun q => ⟨fun h => absurd h (inl_nil _), fun h => by omega⟩), Lib.hid (good_nil _ _ _), HF6, HV6, Hd6, HB6, Hk6.out⟩
  case round =>
    obtain ⟨k, L, d, hk, rfl, HI, HG, HF, HV, HD, HB, hkp⟩ := hrel
    obtain ⟨c0, c1, c2, c3, c4, hbl, _⟩ := HD.out.cells
    by_cases hkc : k < ct
    · have t0 : (k : Int) < (ct : Int) := by omega
      have hx := HdAt.new wr pid mdl ct 0 n
      have hkx : Kp (fun _ => False) wr (wr.alloc (.cells #[.int .i64 pid, .int .i64 mdl, .int .i64 ct, .int .i64 0, .int .i64 n] 49)) := (Kp.refl _ wr).alloc _
      have HF7 := Lib.hid (HF.out.alloc (.cells #[.int .i64 pid, .int .i64 mdl, .int .i64 ct, .int .i64 0, .int .i64 n] 49))
      have HV7 := Lib.hid (HV.out.alloc (.cells #[.int .i64 pid, .int .i64 mdl, .int .i64 ct, .int .i64 0, .int .i64 n] 49))
      have HD7 := Lib.hid (HD.out.kp hkx (fun h => h))
      have HB7 := Lib.hid (hkx.src HB.out (fun _ _ h => h))
      have Hk7 := Lib.hid (hkp.trans hkx)
      have HX7 := Lib.hid hx
      have hWr := hkp.size
      have hgr := HF.out.lt
      have HFd := Lib.hid HF.out.len
      clear hx hkx HF HV HD HB hkp
      go_upto_region 11 with (fail)
      generalize wr.alloc (.cells #[.int .i64 pid, .int .i64 mdl, .int .i64 ct, .int .i64 0, .int .i64 n] 49) = w7 at *
      have hxc : hb < wr.heap.size ∧ g < wr.heap.size ∧ gb < wr.heap.size := ⟨hbl, hgr.1, hgr.2.1⟩
      generalize wr.heap.size = xb at *
      clear c0 c1 c2 c3 c4 hbl hgr
      obtain ⟨x0', x1', x2', x3', x4', hxl, xf⟩ := HX7.out.cells
      have hks : Kp (fun j => j = xb) w7 (w7.setCell ⟨xb, 3, none⟩ (.int .i64 k)) := Kp.set (S := fun j => j = xb) (Kp.refl _ w7) (p := ⟨xb, 3, none⟩) (.inl rfl) _
      have hAb : ∀ j, (Value.slice Ab n cb0).ownBlock = some j → j ≠ xb := fun j hj => by have := HAbg.out j hj; omega
      have HX8 := Lib.hid (HX7.out.ix (k : Int))
      have HF8 := Lib.hid (HF7.out.beside (hks.mono (S' := fun j => j ∈ [xb, hb]) (fun j _ e => by simp [e])))
      have HV8 := Lib.hid (HV7.out.beside (hks.mono (S' := fun j => j ∈ [xb, g, gb, hb]) (fun j _ e => by simp [e])))
      have HD8 := Lib.hid (HD7.out.kp hks (show ¬ hb = xb by omega))
      have HB8 := Lib.hid (hks.src HB7.out (fun j hj e => hAb j hj e))
      have Hk8 := Lib.hid ((Hk7.out.no.trans hks).mono (S' := fun _ => False) (fun j hj e => by omega))
      go_upto_region 12 with (fail)
      generalize w7.setCell ⟨xb, 3, none⟩ (.int .i64 k) = w8 at *
      clear hks HF7 HV7 HD7 HB7 Hk7 HX7 x0' x1' x2' x3' x4' hxl xf hAb
      obtain ⟨x0', x1', x2', x3', x4', hxl, xf⟩ := HX8.out.cells
      obtain ⟨m, hm⟩ : ∃ m : Nat, m = min 80 (n - k * 80) := ⟨_, rfl⟩
      have hkn := (Hctn.out k).1 hkc
      have hm1 : 1 ≤ m := by omega
      have Hpart := Lib.hid (part_yes (Hrk.out k hkc) HB8.out hcapb.1 hcapb.2 hm)
      have hmi : (m : Int) = min 80 ((n : Int) - 80 * k) := by omega
      have Hmi := Lib.hid hmi
      have Hm := Lib.hid hm
      have hm80 : m ≤ 80 := by omega
      clear hm hmi
      go_wp2_with fail
      with_reducible refine (Hpart.out).mono ?_
      rintro e w9 ⟨A', rfl, hrp, hk9⟩
      obtain ⟨rg, roff, rcap, hrv, hrgB, hrgl, _, _, _, _⟩ := hrp.full hm1
      cases hrv
      have hsp := hrp.src (encB_one _)
      have HF9 := Lib.hid (HF8.out.later hk9 hrgB hrgl)
      have HV9 := Lib.hid (HV8.out.later hk9 hrgB hrgl)
      have HX9 := Lib.hid (HX8.out.kp hk9 (fun h => h))
      have HD9 := Lib.hid (HD8.out.kp hk9 (fun h => h))
      have HB9 := Lib.hid (hk9.src HB8.out (fun _ _ h => h))
      have Hk9 := Lib.hid (Hk8.out.trans hk9)
      have hxl8 := hxl
      have hgl8 := HF8.out.lt
      have hhl8 := HD8.out.lt
      obtain ⟨dd, hdd⟩ : ∃ dd, dd = (if L.any (hasP (k : Int)) = true then d else putD d (k * 80) (pieceD B k m)) := ⟨_, rfl⟩
      have hput := r_put HF9.out k (by omega) hsp Hmi.out (by simp)
      rw [← hdd] at hput
      have Hput := Lib.hid hput
      have Hdd := Lib.hid hdd
      have Hrp := Lib.hid hrp
      have hw8W := Hk8.out.size
      clear hput hdd hsp hrp hk9 HF8 HV8 HX8 HD8 HB8 Hk8 Hpart x0' x1' x2' x3' x4' hxl xf
      obtain ⟨x0', x1', x2', x3', x4', hxl, xf⟩ := HX9.out.cells
      have hrgg : rg ≠ g ∧ rg ≠ gb ∧ rg ≠ hb ∧ rg ≠ xb := by omega
      go_wp2_with fail
      with_reducible refine (Hput.out).mono ?_
      rintro e w10 ⟨rfl, L', hF10, hI10, hk10⟩
      have HG10 := Lib.hid (show Good B dd n L' by rw [Hdd.out]; exact good_put HG.out HFd.out HBl.out hkn Hm.out hI10)
      have HI10 : Hid (∀ q : Int, InL L' q ↔ 0 ≤ q ∧ q < ((k + 1 : Nat) : Int)) := Lib.hid (fun q => by
        rw [hI10, HI.out]
        constructor
        · rintro (h | h) <;> omega
        · intro h
          by_cases hq : q = k
          · exact .inr hq
          · exact .inl (by omega))
      have HF10 := Lib.hid hF10
      have HV10 := Lib.hid (HV9.out.beside (hk10.mono (S' := fun j => j ∈ [rg, xb, g, gb, hb]) (fun j _ e => by rcases e with e | e <;> simp [e])))
      have HD10 := Lib.hid (HD9.out.kp hk10 (fun e => by rcases e with e | e <;> omega))
      have HB10 := Lib.hid (hk10.src HB9.out (fun j hj e => by have := HAbg.out j hj; rcases e with e | e <;> omega))
      have Hk10 := Lib.hid ((Hk9.out.no.trans hk10).mono (S' := fun _ => False) (fun j hj e => by rcases e with e | e <;> omega))
      have HR10 := Lib.hid (RowAt.kp Hrp.out hk10 (fun j hj e => by have hj' : rg = j := Option.some.inj hj; rcases e with e | e <;> omega))
      clear hF10 hI10 hk10 HF9 HV9 HX9 HD9 HB9 Hk9 Hput Hrp x0' x1' x2' x3' x4' hxl xf
      go_wp2_with fail
      go_loopw [56] (fun vi wr => ∃ (j : Nat) (xs : List Value), j ≤ m ∧ vi = .int .i64 j ∧ Hid (RowAt wr w8.heap.size 1 (.slice (some ⟨rg, roff, none⟩) m m) m xs) ∧ Hid (u8s xs) ∧ Kp (fun x => x = rg) w10 wr)
        (fun vi _ => m - (intOf vi).toNat)
      case atStart => exact ⟨0, _, by omega, rfl, HR10, Lib.hid (u8s_enc _), Kp.refl _ _⟩
      case round =>
        obtain ⟨j, xs, hj, rfl, HR, HU, hkj⟩ := hrel
        by_cases hjm : j < m
        · obtain ⟨rg', roff', rcap', hrv', _, hrg', _, _, hfr, hxc⟩ := HR.out.full hm1
          cases hrv'
          have hxl : xs.length = m * 1 := HR.out.1
          obtain ⟨y, hy, hy0, hy1⟩ := HU.out xs[j] (List.getElem_mem (by omega))
          have e0 := hxc j xs[j] (List.getElem?_eq_getElem (by omega))
          rw [hy] at e0
          have f0 := hfr (roff + j)
          have hset := fun u => HR.out.set j u (by omega)
          have Hset := Lib.hid hset
          have Hkj := Lib.hid hkj
          clear hset hkj hfr hxc hy
          have tj : (j : Int) < (m : Int) := by omega
          have ty0 : 0 ≤ (y + 1) % 256 := Int.emod_nonneg _ (by omega)
          have ty1 : (y + 1) % 256 ≤ 255 := by omega
          have Ty := Lib.hid (And.intro ty0 ty1)
          clear ty0 ty1
          go_wp2_with fail
          go_roundw
          case rel => exact ⟨j + 1, _, by omega, by go_num, Lib.hid (Hset.out _), Lib.hid (u8s_set HU.out j _ Ty.out.1 Ty.out.2), Hkj.out.set (p := ⟨rg, roff + j, none⟩) (.inl rfl) _⟩
          case measure => simp [intOf]; omega
        · obtain rfl : j = m := by omega
          have HF11 := Lib.hid ((HF10.out.beside (hkj.mono (S' := fun x => x ∈ [rg, xb, hb]) (fun x _ e => by simp [e]))).mono (F' := [hb]) (fun x hx => by simp at hx ⊢; exact .inr (.inr hx)))
          have HV11 := Lib.hid ((HV10.out.beside (hkj.mono (S' := fun x => x ∈ [rg, xb, g, gb, hb]) (fun x _ e => by simp [e]))).mono (F' := [g, gb, hb]) (fun x hx => by simp at hx ⊢; exact .inr (.inr hx)))
          have HD11 := Lib.hid (HD10.out.kp hkj (fun e => by omega))
          have HB11 := Lib.hid (hkj.src HB10.out (fun x hx e => by have := HAbg.out x hx; omega))
          have Hk11 := Lib.hid ((Hk10.out.no.trans hkj).mono (S' := fun _ => False) (fun x hx e => by omega))
          clear hkj HF10 HV10 HD10 HB10 Hk10 HR10
          go_wp2_with fail
          go_roundw
          case rel => exact ⟨k + 1, L', dd, by omega, by go_num, HI10, HG10, HF11, HV11, HD11, HB11, Hk11.out⟩
          case measure => simp [intOf]; omega
    · obtain rfl : k = ct := by omega
      have hfull : fullB L (k : Int) = true := (full_iff HF.out.norm (by omega) (by omega)).2 (fun q hq => (HI.out q).2 ⟨by omega, hq⟩)
      have hdB : d = B := good_all HG.out HF.out.len HBl.out (fun j hj => (HI.out j).2 ⟨by omega, by have := (Hctn.out j).2 hj; omega⟩)
      subst hdB
      have Hfull := Lib.hid hfull
      have Hby := Lib.hid (r_bytesY HF.out hfull)
      have Hk1 := Lib.hid hkp
      have t0 : ¬ (k : Int) < (k : Int) := by omega
      clear hfull hkp
      go_wp2_with fail
      with_reducible refine (Hby.out).mono ?_
      rintro e w2 ⟨A2, rfl, hrp, hk2⟩
      obtain ⟨rg, roff, rcap, hrv, hrgB, hrgl, _, _, hfr, hrc⟩ := hrp.full hn1
      cases hrv
      have HF2 := Lib.hid (HF.out.later hk2 hrgB hrgl)
      have HV2 := Lib.hid (HV.out.later hk2 hrgB hrgl)
      have HD2 := Lib.hid (HD.out.kp hk2 (fun h => h))
      have HB2 := Lib.hid (hk2.src HB.out (fun _ _ h => h))
      have Hk2 := Lib.hid (Hk1.out.trans hk2)
      obtain ⟨sB, hsB⟩ : ∃ sB : ByteArray, (⟨d.toArray⟩ : ByteArray) = sB := ⟨_, rfl⟩
      have cv1 := conv_row (w := w2) (c := n) HBl.out hrc
      have cv2 := conv_src HBl.out hn1 HB2.out
      rw [hsB] at cv1 cv2
      have r0 := hrc 0 _ (show (encB d)[0]? = some (.int .u8 ((d[0]'(by rw [HBl.out]; omega)).toNat : Int)) by simp [encB, List.getElem?_eq_getElem (show 0 < d.length by rw [HBl.out]; omega)])
      have f0 := hfr roff
      have hy0 : (0 : Int) ≤ ((d[0]'(by rw [HBl.out]; omega)).toNat : Int) := by omega
      have hy1 : ((d[0]'(by rw [HBl.out]; omega)).toNat : Int) ≤ 255 := by have := (d[0]'(by rw [HBl.out]; omega)).toNat_lt; omega
      generalize ((d[0]'(by rw [HBl.out]; omega)).toNat : Int) = y at *
      rw [Nat.add_zero] at r0
      have hrgn : g < rg ∧ rg ≠ gb ∧ rg ≠ hb ∧ W.heap.size ≤ rg := by have a1 := HF.out.lt; have a2 := HD.out.lt; have a3 := Hk1.out.size; omega
      have ne0 : (n : Int) ≠ 0 := by omega
      have nn0 : (0 : Int) < (n : Int) := by omega
      have HsB := Lib.hid hsB
      clear hrp hk2 hrc hfr HF HV HD HB Hk1 Hby hsB
      go_upto_region 23 with (fail)
      have hks : Kp (fun x => x = rg) w2 (w2.setCell ⟨rg, roff, none⟩ (.int .u8 ((y + 1) % 256))) := Kp.set (S := fun x => x = rg) (Kp.refl _ w2) (p := ⟨rg, roff, none⟩) (.inl rfl) _
      have HF3 := Lib.hid (HF2.out.beside (hks.mono (S' := fun x => x ∈ [rg, hb]) (fun x _ e => by simp [e])))
      have HV3 := Lib.hid (HV2.out.beside (hks.mono (S' := fun x => x ∈ [rg, g, gb, hb]) (fun x _ e => by simp [e])))
      have HD3 := Lib.hid (HD2.out.kp hks (fun e => by omega))
      have HB3 := Lib.hid (hks.src HB2.out (fun x hx e => by have := HAbg.out x hx; omega))
      have Hk3 := Lib.hid ((Hk2.out.no.trans hks).mono (S' := fun _ => False) (fun x hx e => by omega))
      go_upto_region 24 with (fail)
      generalize w2.setCell ⟨rg, roff, none⟩ (.int .u8 ((y + 1) % 256)) = w3 at *
      clear hks HF2 HV2 HD2 HB2 Hk2 cv1 cv2 r0 f0
      obtain ⟨c0, c1, c2, c3, c4, hbl, _⟩ := HD3.out.cells
      have hkd : Kp (fun _ => False) w3 w3.drew := (Kp.refl _ w3).drew
      have HBy := Lib.hid (fun (w' : World) (h : Kp (fun _ => False) w3 w') => r_bytesY (HF3.out.no h) Hfull.out)
      have hvf : fullB [] (k : Int) = false := by
        rw [Bool.eq_false_iff]
        intro h
        exact absurd ((full_iff (NormL.nil 8) (by omega) (by omega)).1 h 0 (by omega)) (inl_nil _)
      have HVF := Lib.hid (fun (w' : World) (h : Kp (fun _ => False) w3 w') => r_full (HV3.out.no h) false hvf)
      have HVB := Lib.hid (fun (w' : World) (h : Kp (fun _ => False) w3 w') => r_bytesN (HV3.out.no h) hvf)
      have HVC := Lib.hid (fun (w' : World) (h : Kp (fun _ => False) w3 w') => (show Calls Try.prog 21 #[.pointer (some ⟨gv, 0, none⟩)] w' fun e w'' => e = .returned (.int .i64 0) ∧ Kp (fun _ => False) w' w'' from r_count (HV3.out.no h)))
      have HAll := Lib.hid (fun (w' : World) (h : Kp (fun _ => False) w3 w') => r_all (HF3.out.no h) (k : Int) true Hfull.out)
      have HHas := Lib.hid (fun (w' : World) (h : Kp (fun _ => False) w3 w') => r_has (HF3.out.no h) (k : Int) false (by rw [HI.out]; exact ⟨fun h => absurd h.2 (Int.lt_irrefl _), fun h => by cases h⟩))
      have HCv := Lib.hid (fun (w' : World) (h : Kp (fun _ => False) w3 w') => conv_src HBl.out hn1 (h.src HB3.out (fun _ _ h => h)))
      rw [HsB.out] at HCv
      clear hvf c0 c1 c3 c4
      refine wp_region_held_drew (S := (fun w' => w'.cell? ⟨hb, 2, none⟩ = some (.int .i64 k) ∧ Kp (fun _ => False) w3 w')) (by kernel_rfl) (kk1F hbl c2 hkd) (fun hHeld => ?_)
      refine wpAnyH_take (i := 0) (oi := { dst := some 78, op := Op.move (.tmp 9), type := _, pos := _, after := _, guard := _ }) (v := ?_) rfl (by kernel_rfl) (by kernel_rfl) (by kernel_rfl) (fun _ _ _ h => h) (Or.inl ⟨by rfl, ?_⟩) hHeld ?_
      rotate_left
      · intro w99 hSw
        first | (go_simp; done) | (go_simp; with_reducible rfl)
      try simp only [Act.put, List.setIfInBounds_toArray, List.set_cons_zero, List.set_cons_succ]
      refine wpAnyH_take (i := 3) (oi := { dst := some 81, op := Op.move (.tmp 8), type := _, pos := _, after := _, guard := _ }) (v := ?_) rfl (by kernel_rfl) (by kernel_rfl) (by kernel_rfl) (fun _ _ _ h => h) (Or.inl ⟨by rfl, ?_⟩) hHeld ?_
      rotate_left
      · intro w99 hSw
        first | (go_simp; done) | (go_simp; with_reducible rfl)
      try simp only [Act.put, List.setIfInBounds_toArray, List.set_cons_zero, List.set_cons_succ]
      refine wpAnyH_take (i := 4) (oi := { dst := some 82, op := Op.convert 54 9 (.tmp 81), type := _, pos := _, after := _, guard := _ }) (v := ?_) rfl (by kernel_rfl) (by kernel_rfl) (by kernel_rfl) (fun _ _ _ h => h) (Or.inl ⟨by rfl, ?_⟩) hHeld ?_
      rotate_left
      · intro w99 hSw
        have cv2 := HCv.out w99 hSw.2; first | (go_simp; done) | (go_simp; with_reducible rfl)
      try simp only [Act.put, List.setIfInBounds_toArray, List.set_cons_zero, List.set_cons_succ]
      refine wpAnyH_ready (rs := [1]) (by kernel_rfl) (by simp) (AllReadyH.cons (o := { dst := some 79, op := Op.call { callee := Callee.value (Operand.func 29), args := #[(.tmp 78)], argTypes := #[51] }, type := _, pos := _, after := _, guard := _ }) rfl (fun K hK => ?_) AllReadyH.nil)
      go_simp
      with_reducible refine (HBy.out _ hHeld.2).mono ?_
      rintro e w' ⟨A', rfl, hrp, hkh⟩
      go_wp2_with fail
      have hx9 := kk1F hbl c2 (hHeld.2.trans hkh)
      refine hK.out _ _ hx9 (fun _ => ?_)
      clear hK hHeld
      have hHeld := hx9
      clear hx9
      obtain ⟨rg', roff', rcap', hrv, _, _, _, _, _, hrc⟩ := hrp.full hn1
      cases hrv
      have cv1 := conv_row (w := w') (c := n) HBl.out hrc
      rw [HsB.out] at cv1
      clear hrp hrc hkh
      generalize w' = wd1 at *
      try simp only [Act.put, List.setIfInBounds_toArray, List.set_cons_zero, List.set_cons_succ]
      refine wpAnyH_ready (rs := [2]) (by kernel_rfl) (by simp) (AllReadyH.cons (o := { dst := some 80, op := Op.convert 54 9 (.tmp 79), type := _, pos := _, after := _, guard := _ }) rfl (fun K hK => ?_) AllReadyH.nil)
      go_simp
      refine hK.out _ _ hHeld (fun _ => ?_)
      clear hK
      try simp only [Act.put, List.setIfInBounds_toArray, List.set_cons_zero, List.set_cons_succ]
      refine wpAnyH_take (i := 5) (oi := { dst := some 83, op := Op.binOp BinOp.eql 9 (.tmp 80) (.tmp 82) 9, type := _, pos := _, after := _, guard := _ }) (v := ?_) rfl (by kernel_rfl) (by kernel_rfl) (by kernel_rfl) (fun _ _ _ h => h) (Or.inl ⟨by rfl, ?_⟩) hHeld ?_
      rotate_left
      · intro w99 hSw
        first | (go_simp; done) | (go_simp; with_reducible rfl)
      try simp only [Act.put, List.setIfInBounds_toArray, List.set_cons_zero, List.set_cons_succ]
      refine wpAnyH_take (i := 6) (oi := { dst := some 84, op := Op.move (.tmp 83), type := _, pos := _, after := _, guard := _ }) (v := ?_) rfl (by kernel_rfl) (by kernel_rfl) (by kernel_rfl) (fun _ _ _ h => h) (Or.inl ⟨by rfl, ?_⟩) hHeld ?_
      rotate_left
      · intro w99 hSw
        first | (go_simp; done) | (go_simp; with_reducible rfl)
      try simp only [Act.put, List.setIfInBounds_toArray, List.set_cons_zero, List.set_cons_succ]
      refine wpAnyH_take (i := 7) (oi := { dst := some 85, op := Op.move (.tmp 10), type := _, pos := _, after := _, guard := _ }) (v := ?_) rfl (by kernel_rfl) (by kernel_rfl) (by kernel_rfl) (fun _ _ _ h => h) (Or.inl ⟨by rfl, ?_⟩) hHeld ?_
      rotate_left
      · intro w99 hSw
        first | (go_simp; done) | (go_simp; with_reducible rfl)
      try simp only [Act.put, List.setIfInBounds_toArray, List.set_cons_zero, List.set_cons_succ]
      refine wpAnyH_take (i := 8) (oi := { dst := some 86, op := Op.nilCheck (.tmp 85), type := _, pos := _, after := _, guard := _ }) (v := ?_) rfl (by kernel_rfl) (by kernel_rfl) (by kernel_rfl) (fun _ _ _ h => h) (Or.inl ⟨by rfl, ?_⟩) hHeld ?_
      rotate_left
      · intro w99 hSw
        first | (go_simp; done) | (go_simp; with_reducible rfl)
      try simp only [Act.put, List.setIfInBounds_toArray, List.set_cons_zero, List.set_cons_succ]
      refine wpAnyH_take (i := 9) (oi := { dst := some 87, op := Op.fieldAddr 63 (.tmp 86) 0, type := _, pos := _, after := _, guard := _ }) (v := ?_) rfl (by kernel_rfl) (by kernel_rfl) (by kernel_rfl) (fun _ _ _ h => h) (Or.inl ⟨by rfl, ?_⟩) hHeld ?_
      rotate_left
      · intro w99 hSw
        first | (go_simp; done) | (go_simp; with_reducible rfl)
      try simp only [Act.put, List.setIfInBounds_toArray, List.set_cons_zero, List.set_cons_succ]
      refine wpAnyH_ready (rs := [10]) (by kernel_rfl) (by simp) (AllReadyH.cons (o := { dst := some 88, op := Op.call { callee := Callee.value (Operand.func 21), args := #[(.tmp 87)], argTypes := #[27] }, type := _, pos := _, after := _, guard := _ }) rfl (fun K hK => ?_) AllReadyH.nil)
      go_simp
      with_reducible refine (HVC.out _ hHeld.2).mono ?_
      rintro e w' ⟨rfl, hkh⟩
      go_wp2_with fail
      have hx9 := kk1F hbl c2 (hHeld.2.trans hkh)
      refine hK.out _ _ hx9 (fun _ => ?_)
      clear hK hHeld
      have hHeld := hx9
      clear hx9
      clear hkh
      generalize w' = wd10 at *
      try simp only [Act.put, List.setIfInBounds_toArray, List.set_cons_zero, List.set_cons_succ]
      refine wpAnyH_take (i := 11) (oi := { dst := some 89, op := Op.binOp BinOp.eql 3 (.tmp 88) (.const (.int .i64 0)) 3, type := _, pos := _, after := _, guard := _ }) (v := ?_) rfl (by kernel_rfl) (by kernel_rfl) (by kernel_rfl) (fun _ _ _ h => h) (Or.inl ⟨by rfl, ?_⟩) hHeld ?_
      rotate_left
      · intro w99 hSw
        first | (go_simp; done) | (go_simp; with_reducible rfl)
      try simp only [Act.put, List.setIfInBounds_toArray, List.set_cons_zero, List.set_cons_succ]
      refine wpAnyH_take (i := 12) (oi := { dst := some 90, op := Op.pick (.tmp 84) (.tmp 89) (.const (Value.bool false)), type := _, pos := _, after := _, guard := _ }) (v := ?_) rfl (by kernel_rfl) (by kernel_rfl) (by kernel_rfl) (fun _ _ _ h => h) (Or.inl ⟨by rfl, ?_⟩) hHeld ?_
      rotate_left
      · intro w99 hSw
        first | (go_simp; done) | (go_simp; with_reducible rfl)
      try simp only [Act.put, List.setIfInBounds_toArray, List.set_cons_zero, List.set_cons_succ]
      refine wpAnyH_take (i := 13) (oi := { dst := some 91, op := Op.move (.tmp 90), type := _, pos := _, after := _, guard := _ }) (v := ?_) rfl (by kernel_rfl) (by kernel_rfl) (by kernel_rfl) (fun _ _ _ h => h) (Or.inl ⟨by rfl, ?_⟩) hHeld ?_
      rotate_left
      · intro w99 hSw
        first | (go_simp; done) | (go_simp; with_reducible rfl)
      try simp only [Act.put, List.setIfInBounds_toArray, List.set_cons_zero, List.set_cons_succ]
      refine wpAnyH_take (i := 14) (oi := { dst := some 92, op := Op.move (.tmp 10), type := _, pos := _, after := _, guard := _ }) (v := ?_) rfl (by kernel_rfl) (by kernel_rfl) (by kernel_rfl) (fun _ _ _ h => h) (Or.inl ⟨by rfl, ?_⟩) hHeld ?_
      rotate_left
      · intro w99 hSw
        first | (go_simp; done) | (go_simp; with_reducible rfl)
      try simp only [Act.put, List.setIfInBounds_toArray, List.set_cons_zero, List.set_cons_succ]
      refine wpAnyH_ready (rs := [15]) (by kernel_rfl) (by simp) (AllReadyH.cons (o := { dst := some 93, op := Op.call { callee := Callee.value (Operand.func 37), args := #[(.tmp 92)], argTypes := #[51] }, type := _, pos := _, after := _, guard := _ }) rfl (fun K hK => ?_) AllReadyH.nil)
      go_simp
      with_reducible refine (HVF.out _ hHeld.2).mono ?_
      rintro e w' ⟨rfl, hkh⟩
      go_wp2_with fail
      have hx9 := kk1F hbl c2 (hHeld.2.trans hkh)
      refine hK.out _ _ hx9 (fun _ => ?_)
      clear hK hHeld
      have hHeld := hx9
      clear hx9
      clear hkh
      generalize w' = wd15 at *
      try simp only [Act.put, List.setIfInBounds_toArray, List.set_cons_zero, List.set_cons_succ]
      refine wpAnyH_take (i := 16) (oi := { dst := some 94, op := Op.unOp UnOp.not 4 (.tmp 93), type := _, pos := _, after := _, guard := _ }) (v := ?_) rfl (by kernel_rfl) (by kernel_rfl) (by kernel_rfl) (fun _ _ _ h => h) (Or.inl ⟨by rfl, ?_⟩) hHeld ?_
      rotate_left
      · intro w99 hSw
        first | (go_simp; done) | (go_simp; with_reducible rfl)
      try simp only [Act.put, List.setIfInBounds_toArray, List.set_cons_zero, List.set_cons_succ]
      refine wpAnyH_take (i := 17) (oi := { dst := some 95, op := Op.pick (.tmp 91) (.tmp 94) (.const (Value.bool false)), type := _, pos := _, after := _, guard := _ }) (v := ?_) rfl (by kernel_rfl) (by kernel_rfl) (by kernel_rfl) (fun _ _ _ h => h) (Or.inl ⟨by rfl, ?_⟩) hHeld ?_
      rotate_left
      · intro w99 hSw
        first | (go_simp; done) | (go_simp; with_reducible rfl)
      try simp only [Act.put, List.setIfInBounds_toArray, List.set_cons_zero, List.set_cons_succ]
      refine wpAnyH_take (i := 18) (oi := { dst := some 96, op := Op.move (.tmp 95), type := _, pos := _, after := _, guard := _ }) (v := ?_) rfl (by kernel_rfl) (by kernel_rfl) (by kernel_rfl) (fun _ _ _ h => h) (Or.inl ⟨by rfl, ?_⟩) hHeld ?_
      rotate_left
      · intro w99 hSw
        first | (go_simp; done) | (go_simp; with_reducible rfl)
      try simp only [Act.put, List.setIfInBounds_toArray, List.set_cons_zero, List.set_cons_succ]
      refine wpAnyH_take (i := 19) (oi := { dst := some 97, op := Op.move (.tmp 10), type := _, pos := _, after := _, guard := _ }) (v := ?_) rfl (by kernel_rfl) (by kernel_rfl) (by kernel_rfl) (fun _ _ _ h => h) (Or.inl ⟨by rfl, ?_⟩) hHeld ?_
      rotate_left
      · intro w99 hSw
        first | (go_simp; done) | (go_simp; with_reducible rfl)
      try simp only [Act.put, List.setIfInBounds_toArray, List.set_cons_zero, List.set_cons_succ]
      refine wpAnyH_ready (rs := [20]) (by kernel_rfl) (by simp) (AllReadyH.cons (o := { dst := some 98, op := Op.call { callee := Callee.value (Operand.func 29), args := #[(.tmp 97)], argTypes := #[51] }, type := _, pos := _, after := _, guard := _ }) rfl (fun K hK => ?_) AllReadyH.nil)
      go_simp
      with_reducible refine (HVB.out _ hHeld.2).mono ?_
      rintro e w' ⟨rfl, hkh⟩
      go_wp2_with fail
      have hx9 := kk1F hbl c2 (hHeld.2.trans hkh)
      refine hK.out _ _ hx9 (fun _ => ?_)
      clear hK hHeld
      have hHeld := hx9
      clear hx9
      clear hkh
      generalize w' = wd20 at *
      try simp only [Act.put, List.setIfInBounds_toArray, List.set_cons_zero, List.set_cons_succ]
      refine wpAnyH_take (i := 21) (oi := { dst := some 99, op := Op.call { callee := Callee.builtin Builtin.len, args := #[(.tmp 98)], argTypes := #[54] }, type := _, pos := _, after := _, guard := _ }) (v := ?_) rfl (by kernel_rfl) (by kernel_rfl) (by kernel_rfl) (fun _ _ _ h => h) (Or.inl ⟨by rfl, ?_⟩) hHeld ?_
      rotate_left
      · intro w99 hSw
        first | (go_simp; done) | (go_simp; with_reducible rfl)
      try simp only [Act.put, List.setIfInBounds_toArray, List.set_cons_zero, List.set_cons_succ]
      refine wpAnyH_take (i := 22) (oi := { dst := some 100, op := Op.binOp BinOp.eql 3 (.tmp 99) (.const (.int .i64 0)) 3, type := _, pos := _, after := _, guard := _ }) (v := ?_) rfl (by kernel_rfl) (by kernel_rfl) (by kernel_rfl) (fun _ _ _ h => h) (Or.inl ⟨by rfl, ?_⟩) hHeld ?_
      rotate_left
      · intro w99 hSw
        first | (go_simp; done) | (go_simp; with_reducible rfl)
      try simp only [Act.put, List.setIfInBounds_toArray, List.set_cons_zero, List.set_cons_succ]
      refine wpAnyH_take (i := 23) (oi := { dst := some 101, op := Op.pick (.tmp 96) (.tmp 100) (.const (Value.bool false)), type := _, pos := _, after := _, guard := _ }) (v := ?_) rfl (by kernel_rfl) (by kernel_rfl) (by kernel_rfl) (fun _ _ _ h => h) (Or.inl ⟨by rfl, ?_⟩) hHeld ?_
      rotate_left
      · intro w99 hSw
        first | (go_simp; done) | (go_simp; with_reducible rfl)
      try simp only [Act.put, List.setIfInBounds_toArray, List.set_cons_zero, List.set_cons_succ]
      refine wpAnyH_take (i := 24) (oi := { dst := some 102, op := Op.move (.tmp 101), type := _, pos := _, after := _, guard := _ }) (v := ?_) rfl (by kernel_rfl) (by kernel_rfl) (by kernel_rfl) (fun _ _ _ h => h) (Or.inl ⟨by rfl, ?_⟩) hHeld ?_
      rotate_left
      · intro w99 hSw
        first | (go_simp; done) | (go_simp; with_reducible rfl)
      try simp only [Act.put, List.setIfInBounds_toArray, List.set_cons_zero, List.set_cons_succ]
      refine wpAnyH_take (i := 25) (oi := { dst := some 103, op := Op.move (.tmp 9), type := _, pos := _, after := _, guard := _ }) (v := ?_) rfl (by kernel_rfl) (by kernel_rfl) (by kernel_rfl) (fun _ _ _ h => h) (Or.inl ⟨by rfl, ?_⟩) hHeld ?_
      rotate_left
      · intro w99 hSw
        first | (go_simp; done) | (go_simp; with_reducible rfl)
      try simp only [Act.put, List.setIfInBounds_toArray, List.set_cons_zero, List.set_cons_succ]
      refine wpAnyH_take (i := 26) (oi := { dst := some 104, op := Op.nilCheck (.tmp 103), type := _, pos := _, after := _, guard := _ }) (v := ?_) rfl (by kernel_rfl) (by kernel_rfl) (by kernel_rfl) (fun _ _ _ h => h) (Or.inl ⟨by rfl, ?_⟩) hHeld ?_
      rotate_left
      · intro w99 hSw
        first | (go_simp; done) | (go_simp; with_reducible rfl)
      try simp only [Act.put, List.setIfInBounds_toArray, List.set_cons_zero, List.set_cons_succ]
      refine wpAnyH_take (i := 27) (oi := { dst := some 105, op := Op.fieldAddr 63 (.tmp 104) 0, type := _, pos := _, after := _, guard := _ }) (v := ?_) rfl (by kernel_rfl) (by kernel_rfl) (by kernel_rfl) (fun _ _ _ h => h) (Or.inl ⟨by rfl, ?_⟩) hHeld ?_
      rotate_left
      · intro w99 hSw
        first | (go_simp; done) | (go_simp; with_reducible rfl)
      try simp only [Act.put, List.setIfInBounds_toArray, List.set_cons_zero, List.set_cons_succ]
      refine wpAnyH_take (i := 28) (oi := { dst := some 106, op := Op.fieldAddr 49 (.tmp 7) 2, type := _, pos := _, after := _, guard := _ }) (v := ?_) rfl (by kernel_rfl) (by kernel_rfl) (by kernel_rfl) (fun _ _ _ h => h) (Or.inl ⟨by rfl, ?_⟩) hHeld ?_
      rotate_left
      · intro w99 hSw
        first | (go_simp; done) | (go_simp; with_reducible rfl)
      try simp only [Act.put, List.setIfInBounds_toArray, List.set_cons_zero, List.set_cons_succ]
      refine wpAnyH_take (i := 29) (oi := { dst := some 107, op := Op.load 3 (.tmp 106), type := _, pos := _, after := _, guard := _ }) (v := ?_) rfl (by kernel_rfl) (by kernel_rfl) (by kernel_rfl) (fun _ _ _ h => h) (Or.inl ⟨by rfl, ?_⟩) hHeld ?_
      rotate_left
      · intro w99 hSw
        first | (go_simp; done) | (go_simp; with_reducible rfl)
      try simp only [Act.put, List.setIfInBounds_toArray, List.set_cons_zero, List.set_cons_succ]
      refine wpAnyH_ready (rs := [30]) (by kernel_rfl) (by simp) (AllReadyH.cons (o := { dst := some 108, op := Op.call { callee := Callee.value (Operand.func 22), args := #[(.tmp 105), (.const (.int .i64 0)), (.tmp 107)], argTypes := #[27, 3, 3] }, type := _, pos := _, after := _, guard := _ }) rfl (fun K hK => ?_) AllReadyH.nil)
      go_simp
      with_reducible refine (HAll.out _ hHeld.2).mono ?_
      rintro e w' ⟨rfl, hkh⟩
      go_wp2_with fail
      have hx9 := kk1F hbl c2 (hHeld.2.trans hkh)
      refine hK.out _ _ hx9 (fun _ => ?_)
      clear hK hHeld
      have hHeld := hx9
      clear hx9
      clear hkh
      generalize w' = wd30 at *
      try simp only [Act.put, List.setIfInBounds_toArray, List.set_cons_zero, List.set_cons_succ]
      refine wpAnyH_take (i := 31) (oi := { dst := some 109, op := Op.pick (.tmp 102) (.tmp 108) (.const (Value.bool false)), type := _, pos := _, after := _, guard := _ }) (v := ?_) rfl (by kernel_rfl) (by kernel_rfl) (by kernel_rfl) (fun _ _ _ h => h) (Or.inl ⟨by rfl, ?_⟩) hHeld ?_
      rotate_left
      · intro w99 hSw
        first | (go_simp; done) | (go_simp; with_reducible rfl)
      try simp only [Act.put, List.setIfInBounds_toArray, List.set_cons_zero, List.set_cons_succ]
      refine wpAnyH_take (i := 32) (oi := { dst := some 110, op := Op.move (.tmp 109), type := _, pos := _, after := _, guard := _ }) (v := ?_) rfl (by kernel_rfl) (by kernel_rfl) (by kernel_rfl) (fun _ _ _ h => h) (Or.inl ⟨by rfl, ?_⟩) hHeld ?_
      rotate_left
      · intro w99 hSw
        first | (go_simp; done) | (go_simp; with_reducible rfl)
      try simp only [Act.put, List.setIfInBounds_toArray, List.set_cons_zero, List.set_cons_succ]
      refine wpAnyH_take (i := 33) (oi := { dst := some 111, op := Op.move (.tmp 9), type := _, pos := _, after := _, guard := _ }) (v := ?_) rfl (by kernel_rfl) (by kernel_rfl) (by kernel_rfl) (fun _ _ _ h => h) (Or.inl ⟨by rfl, ?_⟩) hHeld ?_
      rotate_left
      · intro w99 hSw
        first | (go_simp; done) | (go_simp; with_reducible rfl)
      try simp only [Act.put, List.setIfInBounds_toArray, List.set_cons_zero, List.set_cons_succ]
      refine wpAnyH_take (i := 34) (oi := { dst := some 112, op := Op.nilCheck (.tmp 111), type := _, pos := _, after := _, guard := _ }) (v := ?_) rfl (by kernel_rfl) (by kernel_rfl) (by kernel_rfl) (fun _ _ _ h => h) (Or.inl ⟨by rfl, ?_⟩) hHeld ?_
      rotate_left
      · intro w99 hSw
        first | (go_simp; done) | (go_simp; with_reducible rfl)
      try simp only [Act.put, List.setIfInBounds_toArray, List.set_cons_zero, List.set_cons_succ]
      refine wpAnyH_take (i := 35) (oi := { dst := some 113, op := Op.fieldAddr 63 (.tmp 112) 0, type := _, pos := _, after := _, guard := _ }) (v := ?_) rfl (by kernel_rfl) (by kernel_rfl) (by kernel_rfl) (fun _ _ _ h => h) (Or.inl ⟨by rfl, ?_⟩) hHeld ?_
      rotate_left
      · intro w99 hSw
        first | (go_simp; done) | (go_simp; with_reducible rfl)
      try simp only [Act.put, List.setIfInBounds_toArray, List.set_cons_zero, List.set_cons_succ]
      refine wpAnyH_take (i := 36) (oi := { dst := some 114, op := Op.fieldAddr 49 (.tmp 7) 2, type := _, pos := _, after := _, guard := _ }) (v := ?_) rfl (by kernel_rfl) (by kernel_rfl) (by kernel_rfl) (fun _ _ _ h => h) (Or.inl ⟨by rfl, ?_⟩) hHeld ?_
      rotate_left
      · intro w99 hSw
        first | (go_simp; done) | (go_simp; with_reducible rfl)
      try simp only [Act.put, List.setIfInBounds_toArray, List.set_cons_zero, List.set_cons_succ]
      refine wpAnyH_take (i := 37) (oi := { dst := some 115, op := Op.load 3 (.tmp 114), type := _, pos := _, after := _, guard := _ }) (v := ?_) rfl (by kernel_rfl) (by kernel_rfl) (by kernel_rfl) (fun _ _ _ h => h) (Or.inl ⟨by rfl, ?_⟩) hHeld ?_
      rotate_left
      · intro w99 hSw
        first | (go_simp; done) | (go_simp; with_reducible rfl)
      try simp only [Act.put, List.setIfInBounds_toArray, List.set_cons_zero, List.set_cons_succ]
      refine wpAnyH_ready (rs := [38]) (by kernel_rfl) (by simp) (AllReadyH.cons (o := { dst := some 116, op := Op.call { callee := Callee.value (Operand.func 19), args := #[(.tmp 113), (.tmp 115)], argTypes := #[27, 3] }, type := _, pos := _, after := _, guard := _ }) rfl (fun K hK => ?_) AllReadyH.nil)
      go_simp
      with_reducible refine (HHas.out _ hHeld.2).mono ?_
      rintro e w' ⟨rfl, hkh⟩
      go_wp2_with fail
      have hx9 := kk1F hbl c2 (hHeld.2.trans hkh)
      refine hK.out _ _ hx9 (fun _ => ?_)
      clear hK hHeld
      have hHeld := hx9
      clear hx9
      clear hkh
      generalize w' = wd38 at *
      try simp only [Act.put, List.setIfInBounds_toArray, List.set_cons_zero, List.set_cons_succ]
      refine wpAnyH_take (i := 39) (oi := { dst := some 117, op := Op.unOp UnOp.not 4 (.tmp 116), type := _, pos := _, after := _, guard := _ }) (v := ?_) rfl (by kernel_rfl) (by kernel_rfl) (by kernel_rfl) (fun _ _ _ h => h) (Or.inl ⟨by rfl, ?_⟩) hHeld ?_
      rotate_left
      · intro w99 hSw
        first | (go_simp; done) | (go_simp; with_reducible rfl)
      try simp only [Act.put, List.setIfInBounds_toArray, List.set_cons_zero, List.set_cons_succ]
      refine wpAnyH_take (i := 40) (oi := { dst := some 118, op := Op.pick (.tmp 110) (.tmp 117) (.const (Value.bool false)), type := _, pos := _, after := _, guard := _ }) (v := ?_) rfl (by kernel_rfl) (by kernel_rfl) (by kernel_rfl) (fun _ _ _ h => h) (Or.inl ⟨by rfl, ?_⟩) hHeld ?_
      rotate_left
      · intro w99 hSw
        first | (go_simp; done) | (go_simp; with_reducible rfl)
      try simp only [Act.put, List.setIfInBounds_toArray, List.set_cons_zero, List.set_cons_succ]
      refine wpAnyH_take (i := 41) (oi := { dst := some 6, op := Op.assign (.tmp 118), type := _, pos := _, after := _, guard := _ }) (v := ?_) rfl (by kernel_rfl) (by kernel_rfl) (by kernel_rfl) (fun _ _ _ h => h) (Or.inl ⟨by rfl, ?_⟩) hHeld ?_
      rotate_left
      · intro w99 hSw
        first | (go_simp; done) | (go_simp; with_reducible rfl)
      try simp only [Act.put, List.setIfInBounds_toArray, List.set_cons_zero, List.set_cons_succ]
      refine wpAnyH_done (by kernel_rfl) ?_ _
      go_wp2_with fail
      go_ret
      exact ⟨rfl, (Hk3.out.trans hHeld.2).below (Nat.le_refl _) (fun _ h => h.elim)⟩
end Go.Proofs.Ytdcbgjbhoejpnaa

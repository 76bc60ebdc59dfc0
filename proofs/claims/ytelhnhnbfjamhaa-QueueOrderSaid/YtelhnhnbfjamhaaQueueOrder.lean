/-
  The walk of 'QueueOrder'.
-/
import Derived.Test.YtelhnhnbfjamhaaOrd
namespace Go.Proofs.Ytelhnhnbfjamhaa
open Go.RowKit

set_option maxRecDepth 100000 in
set_option maxHeartbeats 2000000 in
theorem QueueOrder_any (v : Value) (W : World) (hv : SlArg 72 W v) (v1 : Value) (hv1 : SlArg 58 W v1) (x0 : Int) (_l0 : -9223372036854775808 ≤ x0) (_h0 : x0 ≤ 9223372036854775807) :
    Calls Try.prog 9 #[v, v1, .int .i64 x0] W fun e w' => e = .returned (.bool true) ∧ Below W.heap.size W w' := by
  obtain ⟨A, len, cap, rfl, hlc, hcm, hreach, hcells⟩ := data_rd hv
  obtain ⟨Ad, ds, capd, rfl, hdc, hdm, hdr, hdb, hdcell⟩ := ints_of_rd (drops_rd hv1)
  unfold maxLen at hcm hdm
  unfold reachBytes at hreach hdr
  have Hc := Lib.hid hcells
  have Hdb := Lib.hid hdb
  have Hdc := Lib.hid hdcell
  clear hcells hv hv1 hdb hdcell
  have H0 := Lib.hid (q_new W)
  generalize hdn : ds.length = dn at *
  have Hdn := Lib.hid hdn
  clear hdn
  obtain ⟨i0, hii, hz0, hz1, hz2⟩ := info_parts infoI
  have Hi := Lib.hid hii
  have Hz0 := Lib.hid hz0
  have Hz1 := Lib.hid hz1
  have Hz2 := Lib.hid hz2
  obtain ⟨j0, hjj, hy0, hy1, hy2⟩ := info_parts infoB
  have Hj := Lib.hid hjj
  have Hy0 := Lib.hid hy0
  have Hy1 := Lib.hid hy1
  have Hy2 := Lib.hid hy2
  clear hii hz0 hz1 hz2 hjj hy0 hy1 hy2
  go_enter Try.func9, Try.ntmps9
  go_upto_block 0 with (fail)
  obtain ⟨q, hq⟩ : ∃ q, q = W.heap.size := ⟨_, rfl⟩
  rw [← hq]
  rw [← hq] at H0
  clear hq
  generalize W.alloc (.cells #[.slice none 0 0] 51) = wz at H0 ⊢
  have hWz := H0.out.below.size
  go_cut [8] (fun vl wx => ∃ ys : List Zt, ys.length ≤ 32 ∧ Hid (Fine ys) ∧ LRow wx wz.heap.size vl ys ∧ Hid (∀ y ∈ ys, Soft wx y.2.1) ∧ Kp (fun _ => False) wz wx)
  case first =>
    go_wp2_with fail
    go_loopw [8, 9] (fun vl vi wr => ∃ (j : Nat) (ys : List Zt), j ≤ len ∧ j ≤ 32 ∧ vi = .int .i64 j ∧ Hid (ys.length = j) ∧ Hid (Fine ys) ∧ LRow wr wz.heap.size vl ys ∧ Hid (∀ y ∈ ys, Soft wr y.2.1) ∧ Kp (fun _ => False) wz wr)
      (fun _ vi _ => 32 - (intOf vi).toNat)
    case atStart => exact ⟨0, [], by omega, by omega, rfl, Lib.hid rfl, Lib.hid (fun i y h => by simp at h), LRow.nil _ _, Lib.hid (fun y h => by cases h), Kp.refl _ _⟩
    case round =>
      obtain ⟨j, ys, hjl, hj32, rfl, Hyl, Hfine, hlr, Hsf, hkp⟩ := hrel
      have Hlr := Lib.hid hlr
      have Hkp := Lib.hid hkp
      clear hlr hkp
      by_cases hlt : j < len
      · by_cases h32 : j < 32
        · rcases Hc.out with h0 | ⟨b, off, rfl, hbl, hcell⟩
          · omega
          · obtain ⟨u0, hu0, Ab, d, capb, rfl, hbs, hdc1, hdm1, hA0, hA1, hdl⟩ := hcell j hlt 0 _ rfl
            have hbel : Below W.heap.size W wr := H0.out.below.trans (Hkp.out.below0 hWz)
            rw [← hbel.cell (p := ⟨b, _, none⟩) hbl] at hu0
            simp only [List.length_cons, List.length_nil, Nat.zero_add, Nat.add_zero, Nat.mul_one] at hu0
            have hF := few_any (bs_later hbs hA0 hA1 hbel) hdc1 hdm1 (fun h a ha => by obtain ⟨b', off', e, _⟩ := hA1 h; rw [ha] at e; cases e; rfl) hA0 30 (by omega)
            have htl : (d.take 30).length ≤ 30 := by rw [List.length_take]; omega
            rw [show ((30 : Nat) : Int) = 30 from rfl] at hF
            have HF := Lib.hid hF
            generalize d.take 30 = t at HF htl
            clear hF hbs hA0 hA1 hdl hcell hbel
            go_wp2_with fail
            with_reducible refine (HF.out).mono ?_
            rintro e w1 ⟨vf, rfl, hof, hkf⟩
            have hu8 : ((UInt8.ofNat j).toNat : Int) = (j : Int) := by rw [UInt8.toNat_ofNat', Nat.mod_eq_of_lt (by omega)]
            have HO1 := Lib.hid ((RowAt.of_own hof).kp ((Kp.refl (fun _ => False) w1).alloc (.cells #[.int .u8 (j : Int)] 5)) (fun _ _ h => h))
            have hX1 := (newb_one (B := 0) (UInt8.ofNat j) (w := w1.alloc (.cells #[.int .u8 (j : Int)] 5)) (b := w1.heap.size) (by rw [hu8]; exact Whole.new _ _ _) (Nat.zero_le _)).1
            have HX1 : Hid (Src (w1.alloc (.cells #[.int .u8 (j : Int)] 5)) 1 (.slice (some ⟨w1.heap.size, 0, none⟩) 1 1) 1 (encB [UInt8.ofNat j])) := Lib.hid hX1
            have Hkf := Lib.hid hkf
            have Hof := Lib.hid hof
            have hvl := hof.lt
            have Hvl := Lib.hid hvl
            clear hof hkf hX1 hu8 hvl
            generalize htn : t.length = n at *
            have Htn := Lib.hid htn
            clear htn
            go_wp2_with (first
              | (at_builtin; refine wpList_row rfl (.tmp 43) (.tmp 46) 53 rfl wr.heap.size 5 j0 _ 1 1 Try.underlying53 Hj.out Hy0.out Hy1.out Hy2.out rfl (by decide) _ n _ rfl HO1.out _ 1 _ rfl HX1.out (by unfold maxLen; omega) (by omega) (by have := Hkf.out.size; simp only [World.size_alloc]; omega) ?_; intro v2 w2 hr2 hg2 hn2; obtain ⟨A2, c2, rfl⟩ := hr2.form; have hkw2 : Kp (fun _ => False) wr w2 := (Hkf.out.alloc _).grown hg2 (fun i hi hlt => absurd (Hvl.out i hi).1 (by omega)); have hnb : NewB (w2.alloc (.cells #[.int .i64 (j : Int), .slice A2 (n + 1) c2] 55)) wr.heap.size (.slice A2 (n + 1) c2) (t ++ [UInt8.ofNat j]) := newb_app Htn.out hr2; have hkb : Kp (fun _ => False) wr (w2.alloc (.cells #[.int .i64 (j : Int), .slice A2 (n + 1) c2] 55)) := hkw2.alloc _; have hb2 : Whole (w2.alloc (.cells #[.int .i64 (j : Int), .slice A2 (n + 1) c2] 55)) w2.heap.size 55 #[.int .i64 (((j : Int), (.slice A2 (n + 1) c2 : Value), t ++ [UInt8.ofNat j]) : Zt).1, (((j : Int), (.slice A2 (n + 1) c2 : Value), t ++ [UInt8.ofNat j]) : Zt).2.1] := Whole.new _ _ _; have hrl := Hlr.out.1.kp hkb (fun _ _ h => h); rw [Hyl.out] at hrl; have HO2 := Lib.hid hrl; have hsz : Soft (w2.alloc (.cells #[.int .i64 (j : Int), .slice A2 (n + 1) c2] 55)) (.slice A2 (n + 1) c2) := (soft_row hr2).kp ((Kp.refl (fun _ => False) w2).alloc _) (fun k hk => ⟨(hr2.lt k hk).2, fun h => h⟩); have HSZ := Lib.hid hsz; clear hsz; have HX2 := Lib.hid (src_z _ rfl hb2); have HB := Lib.hid hnb; have Hkb := Lib.hid hkb; clear hr2 hg2 hn2 hkw2 hnb hkb hb2 hrl)
              | (at_builtin; refine wpList_row rfl (.tmp 37) (.tmp 49) 49 rfl wz.heap.size 55 i0 _ 2 32 Try.underlying49 Hi.out Hz0.out Hz1.out Hz2.out rfl (by decide) _ j _ rfl HO2.out _ 1 _ rfl HX2.out (by unfold maxLen; omega) (by omega) (by have := Hkp.out.size; have := Hkb.out.size; omega) ?_; intro v3 w3 hr3 hg3 hn3; have hla := lrow_app (z := ((j : Int), (.slice A2 (n + 1) c2 : Value), t ++ [UInt8.ofNat j])) Hlr.out Hkp.out.size Hkb.out HB.out (by rw [Hyl.out]; exact hr3) hg3 hn3; have hkp1 := (Hkp.out.trans Hkb.out).grown hg3 (fun i hi hlt => absurd (Hlr.out.1.lt i hi).1 (by omega)); have hss := softs_app (z := ((j : Int), (.slice A2 (n + 1) c2 : Value), t ++ [UInt8.ofNat j])) Hlr.out Hsf.out Hkb.out HB.out HSZ.out hg3; have Hss := Lib.hid hss; have Hla := Lib.hid hla; have Hkp1 := Lib.hid hkp1; clear hr3 hg3 hn3 hla hkp1 hss))
            go_roundw
            case rel => exact ⟨j + 1, ys ++ [((j : Int), (.slice A2 (n + 1) c2 : Value), t ++ [UInt8.ofNat j])], by omega, by omega, by go_num, Lib.hid (by rw [List.length_append, Hyl.out]; rfl), Lib.hid (fine_snoc Hfine.out Hyl.out Htn.out htl), Hla.out, Hss, Hkp1.out⟩
            case measure => simp [intOf]; omega
        · go_wp2_with fail
          go_meet
          exact ⟨ys, by rw [Hyl.out]; omega, Hfine, Hlr.out, Hsf, Hkp.out⟩
      · go_wp2_with fail
        go_meet
        exact ⟨ys, by rw [Hyl.out]; omega, Hfine, Hlr.out, Hsf, Hkp.out⟩
  case rest =>
    obtain ⟨ys, hys, Hfine, hlr, Hsf, hkp⟩ := hcut
    generalize wc = wl at *
    have Hlr := Lib.hid hlr
    have Hkp := Lib.hid hkp
    clear hlr hkp
    obtain ⟨k, hk⟩ : ∃ k, k = (pickF x0 ((ys.length : Int) + 1)).toNat := ⟨_, rfl⟩
    have hk0 := pickF_lo x0 ((ys.length : Int) + 1) (by omega)
    have hk1 := pickF_hi x0 ((ys.length : Int) + 1) (by omega)
    have hkp : pickF x0 ((ys.length : Int) + 1) = (k : Int) := by omega
    have Hpk := Lib.hid (pick_any x0 ((ys.length : Int) + 1) wl (by omega) (by omega))
    rw [hkp] at Hpk
    have hky : k ≤ ys.length := by omega
    clear hk hk0 hk1 hkp
    obtain ⟨A6, c6, rfl⟩ := Hlr.out.1.form
    generalize hyl : ys.length = yn at *
    have Hyl := Lib.hid hyl
    clear hyl
    have hrl := Hlr.out.1
    rw [Hyl.out] at hrl
    obtain ⟨hyc, hcm6⟩ := row_cap hrl
    clear hrl
    unfold maxLen at hcm6
    have hkc : k ≤ c6 := by omega
    have Hp1 := Lib.hid (ord_put1 H0.out Hkp.out Hlr.out Hfine.out Hyl.out hys hky)
    go_wp2_with fail
    with_reducible refine (Hpk.out).mono ?_
    rintro e w1 ⟨rfl, rfl⟩
    clear Hpk
    go_upto_region 8 with (fail)
    go_cut [72] (fun s72 wx => s72 = .bool false ∧ QOff W wx q (its ys) (Mid wz wl) ∧ KeptL (Mid wz wl) wl wx)
    case first =>
      go_wp2_with fail
      with_reducible refine (Hp1.out).mono ?_
      rintro e w2 ⟨rfl, h2, k2⟩
      clear Hp1
      have Hp2 := Lib.hid (ord_put2 h2 k2 Hlr.out Hfine.out Hyl.out hys hky)
      clear h2 k2
      by_cases hck : c6 = k
      · rw [if_pos hck] at Hp2
        obtain rfl : yn = k := by omega
        subst hck
        rw [Nat.sub_self, show ((0 : Nat) : Int) = 0 from rfl] at Hp2
        go_wp2_with fail
        with_reducible refine (Hp2.out).mono ?_
        rintro e w3 ⟨rfl, h3, k3⟩
        clear Hp2
        have H3 := Lib.hid h3
        have K3 := Lib.hid k3
        clear h3 k3
        go_wp2_with fail
        go_meet
        exact ⟨by first | rfl | (simp; done) | (rw [show ((yn - k : Nat) : Int) = (yn : Int) - k by omega]; simp), H3.out, K3.out⟩
      · rw [if_neg hck] at Hp2
        go_wp2_with fail
        with_reducible refine (Hp2.out).mono ?_
        rintro e w3 ⟨rfl, h3, k3⟩
        clear Hp2
        have H3 := Lib.hid h3
        have K3 := Lib.hid k3
        clear h3 k3
        go_wp2_with fail
        go_meet
        exact ⟨by first | rfl | (simp; done) | (rw [show ((yn - k : Nat) : Int) = (yn : Int) - k by omega]; simp), H3.out, K3.out⟩
    case rest =>
      obtain ⟨rfl, h3, k3⟩ := hcut
      generalize wc = w3 at *
      have H3 := Lib.hid h3
      have K3 := Lib.hid k3
      clear h3 k3 Hp1
      have Hla := Lib.hid (l_at Hlr.out Hyl.out K3.out)
      have hb3 := H3.out.below.size
      go_upto_block 2 with (fail)
      go_cut [11] (fun vw wx => ∃ zs, Hid (its zs = keepI (dm ds) (its ys)) ∧ LRow wx w3.heap.size vw zs ∧ Kp (fun _ => False) w3 wx)
      case first =>
        go_wp2_with fail
        go_loopw [11, 75] (fun vw vi wr => ∃ (j : Nat) (zs : List Zt), j ≤ yn ∧ vi = .int .i64 j ∧ Hid (its zs = keepI (dm ds) (its (ys.take j))) ∧ LRow wr w3.heap.size vw zs ∧ Kp (fun _ => False) w3 wr)
          (fun _ vi _ => yn - (intOf vi).toNat)
        case atStart => exact ⟨0, [], by omega, rfl, Lib.hid rfl, LRow.nil _ _, Kp.refl _ _⟩
        case round =>
          obtain ⟨j, zs, hjn, rfl, Hzs, hlw, hkw⟩ := hrel
          have Hlw := Lib.hid hlw
          have Hkw := Lib.hid hkw
          obtain ⟨Aw, cw, rfl⟩ := hlw.1.form
          clear hlw hkw
          generalize hzl : zs.length = zn at *
          have Hzl := Lib.hid hzl
          clear hzl
          by_cases hlt : j < yn
          · obtain ⟨y, hy⟩ : ∃ y, ys[j]? = some y := ⟨_, List.getElem?_eq_getElem (by rw [Hyl.out]; exact hlt)⟩
            obtain ⟨b, off, rfl, hb, e0, e1, hyb, hyk⟩ := Hla.out j y hy
            rw [← Hkw.out.cell (p := ⟨b, _, none⟩) hb (fun h => h)] at e0 e1
            obtain ⟨Ay, cy, hyv⟩ := hyb.form
            have hyd := (Hfine.out j y hy)
            have hyb2 := hyb.kp Hkw.out (fun _ _ h => h)
            obtain ⟨y1, yv, yd⟩ := y
            dsimp only at hyv e0 e1 hyb2 hyk hyd
            subst hyv
            obtain ⟨rfl, hyd0, hyd1⟩ := hyd
            have Hyb := Lib.hid hyb2
            have Hyk := Lib.hid hyk
            have Hy := Lib.hid hy
            clear hyb hyb2 hyk hy
            go_upto_block 4 with (fail)
            have hx4 : Whole (wr.alloc (.cells #[.int .i64 (j : Int), .slice Ay yd.length cy] 55)) wr.heap.size 55 #[.int .i64 (j : Int), .slice Ay yd.length cy] := Whole.new _ _ _
            have hk4 : Kp (fun _ => False) wr (wr.alloc (.cells #[.int .i64 (j : Int), .slice Ay yd.length cy] 55)) := (Kp.refl _ wr).alloc _
            have hs4 := hk4.size
            generalize wr.alloc (.cells #[.int .i64 (j : Int), .slice Ay yd.length cy] 55) = w4 at hx4 hk4 hs4 ⊢
            have x0 := hx4.cell 0
            have x1 := hx4.cell 1
            have xl := hx4.lt
            simp at x0 x1
            generalize hbx : wr.heap.size = bx at *
            have Hbx := Lib.hid hbx
            have Hx4 := Lib.hid hx4
            have Hk4 := Lib.hid hk4
            have Hd4 : Hid (∀ i d, ds[i]? = some d → ∃ b off, Ad = some ⟨b, off, none⟩ ∧ b < w4.heap.size ∧ w4.cell? ⟨b, off + i, none⟩ = some (.int .i64 d)) := Lib.hid (drop_at Hdc.out Hdn.out (H3.out.below.trans ((Hkw.out.trans Hk4.out).below0 hb3)))
            clear hx4 hk4 hbx e0 e1
            go_cut [14] (fun vg wx => vg = .bool (decide ((j : Int) ∈ dm ds)) ∧ Kp (fun _ => False) w4 wx)
            case first =>
              go_wp2_with fail
              go_loopw [14, 81] (fun vg vi wx => ∃ (i : Nat) (g : Bool), i ≤ dn ∧ vi = .int .i64 i ∧ vg = .bool g ∧ Hid (g = decide ((j : Int) ∈ dm (ds.take i))) ∧ Kp (fun _ => False) w4 wx)
                (fun _ vi _ => dn - (intOf vi).toNat)
              case atStart => exact ⟨0, false, by omega, rfl, rfl, Lib.hid (by simp [dm]), Kp.refl _ _⟩
              case round =>
                obtain ⟨i, g, hid, rfl, rfl, Hg, hkx⟩ := hrel
                by_cases hlti : i < dn
                · obtain ⟨d, hd⟩ : ∃ d, ds[i]? = some d := ⟨_, List.getElem?_eq_getElem (by rw [Hdn.out]; exact hlti)⟩
                  obtain ⟨bd, od, rfl, hbd, d0⟩ := Hd4.out i d hd
                  have Hd := Lib.hid hd
                  rw [← hkx.cell (p := ⟨bd, _, none⟩) hbd (fun h => h)] at d0
                  rw [← hkx.cell (p := ⟨bx, _, none⟩) xl (fun h => h)] at x0 x1
                  have Hkx := Lib.hid hkx
                  clear hd hkx
                  cases g
                  · go_wp2_with fail
                    go_region_with (go_at_call 13; refine (pick_any d 40 _ (by omega) (by omega)).mono ?_; rintro e w5 ⟨rfl, rfl⟩)
                    all_goals
                      go_wp2_with fail
                      go_roundw
                      case rel => exact ⟨i + 1, _, by omega, by go_num, rfl, Lib.hid (by rw [gone_snoc Hd.out, ← Hg.out]; rfl), Hkx.out.drew⟩
                      case measure => simp [intOf]; omega
                  · go_wp2_with fail
                    go_quiet (fail)
                    all_goals
                      go_wp2_with fail
                      go_roundw
                      case rel => exact ⟨i + 1, _, by omega, by go_num, rfl, Lib.hid (by rw [gone_snoc Hd.out, ← Hg.out]; rfl), Hkx.out.drewN _⟩
                      case measure => simp [intOf]; omega
                · obtain rfl : i = dn := by omega
                  rw [List.take_of_length_le (by rw [Hdn.out]; omega)] at Hg
                  have hg := Hg.out
                  subst hg
                  go_wp2_with fail
                  go_meet
                  exact ⟨rfl, hkx⟩
            case rest =>
              obtain ⟨rfl, hkx⟩ := hcut
              generalize wc = w5 at *
              rw [← hkx.cell (p := ⟨bx, _, none⟩) xl (fun h => h)] at x0 x1
              have xl5 := Nat.lt_of_lt_of_le xl hkx.size
              have hs5 := hkx.size
              have Hk5 := Lib.hid (Hk4.out.trans hkx)
              have hzn : zn ≤ 32 := by
                have h1 := congrArg List.length Hzs.out
                rw [its, List.length_map, Hzl.out] at h1
                have h2 := keepI_len (dm ds) (its (ys.take j))
                rw [show (its (ys.take j)).length = min j ys.length by rw [its, List.length_map, List.length_take]] at h2
                omega
              clear hkx
              by_cases hgone : (j : Int) ∈ dm ds
              · rw [decide_eq_true hgone]
                have Hgone := Lib.hid hgone
                clear hgone
                go_wp2_with fail
                go_roundw
                case rel => exact ⟨j + 1, zs, by omega, by go_num, Lib.hid (by rw [its_snoc Hy.out, keepI_snoc, ← Hzs.out, decide_eq_true Hgone.out]; simp), Hlw.out.kp Hk5.out (fun _ _ _ h => h), Hkw.out.trans Hk5.out⟩
                case measure => simp [intOf]; omega
              · rw [decide_eq_false hgone]
                have Hgone := Lib.hid hgone
                clear hgone
                have HO := Lib.hid (RowAt.of_own (World.ownsRow_made (base := w5.heap.size) (e := 5) (size := 1) w5 #[] 0 (Nat.le_refl _) (Nat.zero_le _) rfl).drew)
                have HX : Hid (Src ((w5.alloc (.cells #[] 5)).drew) 1 (.slice Ay yd.length cy) yd.length (encB yd)) := Lib.hid (Hyb.out.kp ((Hk5.out.alloc (.cells #[] 5)).drew) (fun _ _ h => h))
                generalize hdl : yd.length = dl at *
                have Hdl := Lib.hid hdl
                clear hdl
                go_wp2_with fail
                go_region_law (first
                  | (refine step_row rfl (.tmp 99) (.tmp 101) 53 rfl w5.heap.size 5 j0 _ 1 1 Try.underlying53 Hj.out Hy0.out Hy1.out Hy2.out rfl (by decide) (.slice (some ⟨w5.heap.size, 0, none⟩) 0 0) 0 [] (by simp [Act.eval]) HO.out (.slice Ay dl cy) dl (encB yd) (by simp [Act.eval]) HX.out (by unfold maxLen; omega) (by omega) (by simp) ?_; intro v6 w6 hr6 hg6 hn6; rw [Nat.zero_add, List.nil_append] at hr6; obtain ⟨A7, c7, rfl⟩ := hr6.form; have hk6 : Kp (fun _ => False) w5 w6 := (((Kp.refl _ w5).alloc _).drew).grown hg6 (fun i hi hlt => by have := Option.some.inj hi; dsimp only at this; omega); rw [← hk6.cell (p := ⟨bx, _, none⟩) xl5 (fun h => h)] at x0 x1; have hs6 := hk6.size; have xl6 := Nat.lt_of_lt_of_le xl5 hs6; have Hr6 := Lib.hid hr6; have Hk6 := Lib.hid hk6; clear hr6 hg6 hn6 hk6)
                  | (refine step_row rfl (.tmp 96) (.tmp 104) 49 rfl w3.heap.size 55 i0 _ 2 32 Try.underlying49 Hi.out Hz0.out Hz1.out Hz2.out rfl (by decide) (.slice Aw zn cw) zn (encs encZ zs) (by simp [Act.eval]) (by have := Hlw.out.1.kp ((Hk5.out.trans Hk6.out).alloc (.cells #[.int .i64 (j : Int), .slice A7 dl c7] 55)) (fun _ _ h => h); rw [Hzl.out] at this; exact this) (.slice (some ⟨w6.heap.size, 0, none⟩) 1 1) 1 (encs encZ [((j : Int), .slice A7 dl c7, yd)]) (by simp [Act.eval]) (src_z ((j : Int), .slice A7 dl c7, yd) rfl (Whole.new _ _ _)) (by unfold maxLen; omega) (by omega) (by have := Hkw.out.size; have := Hbx.out; simp only [World.size_alloc]; omega) ?_; intro v7 w7 hr7 hg7 hn7; have hkB : Kp (fun _ => False) wr (w6.alloc (.cells #[.int .i64 (j : Int), .slice A7 dl c7] 55)) := (Hk5.out.trans Hk6.out).alloc _; have hB : NewB (w6.alloc (.cells #[.int .i64 (j : Int), .slice A7 dl c7] 55)) wr.heap.size (.slice A7 dl c7) yd := ⟨by unfold Bs; rw [Hdl.out]; exact (Hr6.out.kp ((Kp.refl (fun _ => False) w6).alloc _) (fun _ _ h => h)).src (encB_one _), fun k hk => by have := Hr6.out.lt k hk; have := Hbx.out; simp only [World.size_alloc]; omega, rfl⟩; have hla := lrow_app (z := ((j : Int), .slice A7 dl c7, yd)) Hlw.out Hkw.out.size hkB hB (by rw [Hzl.out]; exact hr7) hg7 hn7; have hkp1 := (Hkw.out.trans hkB).grown hg7 (fun i hi hlt => absurd (Hlw.out.1.lt i hi).1 (by have := Hbx.out; omega)); have Hla7 := Lib.hid hla; have Hkp7 := Lib.hid hkp1; clear hr7 hg7 hn7 hla hkp1 hkB hB))
                all_goals
                  go_wp2_with fail
                  go_roundw
                  case rel => exact ⟨j + 1, _, by omega, by go_num, Lib.hid (by rw [its_snoc Hy.out, keepI_snoc, ← Hzs.out, decide_eq_false Hgone.out, its, List.map_append]; rfl), Hla7.out, Hkp7.out⟩
                  case measure => simp [intOf]; omega
          · obtain rfl : j = yn := by omega
            go_wp2_with fail
            go_meet
            exact ⟨zs, by rw [List.take_of_length_le (by rw [Hyl.out]; omega)] at Hzs; exact Hzs, Hlw.out, Hkw.out⟩
      case rest =>
        obtain ⟨zs, Hzs, hlw, hkw⟩ := hcut
        generalize wc = w4 at *
        obtain ⟨Aw, cw, rfl⟩ := hlw.1.form
        have Hkw := Lib.hid hkw
        have Hsp4 : Hid (∀ b off, A6 = some ⟨b, off, none⟩ → Spoil (Mid wz wl) b off ys w4) := Lib.hid (by
          rintro b off rfl
          have h1 := (spoil_at Hlr.out Hsf.out Hfine.out).kp K3.out (fun k hk => ⟨hk.2, fun hn => hn hk⟩)
          exact h1.kp hkw (fun k hk => ⟨Nat.lt_of_lt_of_le hk.2 K3.out.size, fun h => h⟩))
        have Hlw := Lib.hid hlw
        have hzn : zs.length ≤ yn := by
          have h1 := congrArg List.length Hzs.out
          rw [its, List.length_map] at h1
          have h2 := keepI_len (dm ds) (its ys)
          rw [show (its ys).length = yn by rw [its, List.length_map, Hyl.out]] at h2
          omega
        generalize hzl : zs.length = zn at *
        have Hzl := Lib.hid hzl
        clear hzl hlw hkw
        go_upto_block 6 with (fail)
        go_cut [] (fun wx => Kp (Mid wz wl) w4 wx)
        case first =>
          go_wp2_with fail
          go_loopw [109] (fun vi wr => ∃ i : Nat, i ≤ yn ∧ vi = .int .i64 i ∧ Hid (∀ b off, A6 = some ⟨b, off, none⟩ → Spoil (Mid wz wl) b off ys wr) ∧ Kp (Mid wz wl) w4 wr)
            (fun vi _ => yn - (intOf vi).toNat)
          case atStart => exact ⟨0, by omega, rfl, Hsp4, Kp.refl _ _⟩
          case round =>
            obtain ⟨i, hin, rfl, Hsp, hkx⟩ := hrel
            have Hkx := Lib.hid hkx
            clear hkx
            by_cases hlt : i < yn
            · obtain ⟨y, hy⟩ : ∃ y, ys[i]? = some y := ⟨_, List.getElem?_eq_getElem (by rw [Hyl.out]; exact hlt)⟩
              obtain ⟨b, off, rfl, _⟩ := Hla.out i y hy
              obtain ⟨hfr, hmb, hsp⟩ := Hsp.out b off rfl
              obtain ⟨⟨n, hn⟩, hd, b', o', c', hv, hne, hm, hfr', u, hu⟩ := hsp i y hy
              have hdl := (Hfine.out i y hy).2.1
              have f1 := hfr (off + i * 2)
              have f2 := hfr' o'
              rw [hv] at hd
              generalize y.2.2.length = dl at *
              have hne2 := hne.symm
              have Hmb := Lib.hid hmb
              have Hm := Lib.hid hm
              clear hfr hmb hsp hm hfr' hv hy
              go_wp2_with fail
              go_roundw
              case rel => exact ⟨i + 1, by omega, by go_num, Lib.hid (by rintro b2 o2 e; cases e; exact spoil_set (Hsp.out b off rfl) hne _ _), (Hkx.out.set (p := ⟨b', o', none⟩) (.inl Hm.out) _).set (p := ⟨b, off + i * 2, none⟩) (.inl Hmb.out) _⟩
              case measure => simp [intOf]; omega
            · go_wp2_with fail
              go_meet
              exact Hkx.out
        case rest =>
          generalize wc = w5 at *
          have hq5 : QOff W w5 q (its ys) (Mid w3 w5) := H3.out.move (Hkw.out.no.trans hcut) (fun k hk => ⟨.inr hk.1, hk.2⟩)
          have hlw5 := Hlw.out.kp hcut (fun k h0 _ hm => by have := hm.2; have := K3.out.size; omega)
          have Hq5 := Lib.hid hq5
          have Hlw5 := Lib.hid hlw5
          have hil : (its ys).length = yn := by rw [its, List.length_map, Hyl.out]
          have Hil := Lib.hid hil
          clear hcut hq5 hlw5 hil Hla H3 K3 Hsp4 Hkw Hlw
          go_wp2_with fail
          with_reducible refine (qo_len Hq5.out).mono ?_
          rw [Hil.out]
          rintro e w6 ⟨rfl, rfl⟩
          go_upto_block 8 with (fail)
          go_cut [19] (fun vd wx => vd = .int .i64 ((yn : Int) - zn) ∧ QOff W wx q (its zs) (Mid w3 w5) ∧ KeptL (Mid w3 w5) w5 wx)
          case first =>
            go_wp2_with fail
            go_loopw [19, 129] (fun vd vi wr => ∃ (i ln : Nat) (l : List It), i ≤ dn ∧ vi = .int .i64 i ∧ Hid (l = keepI (dm (ds.take i)) (its ys)) ∧ Hid (l.length = ln) ∧ ln ≤ yn ∧ vd = .int .i64 ((yn : Int) - ln) ∧ QOff W wr q l (Mid w3 w5) ∧ KeptL (Mid w3 w5) w5 wr)
              (fun _ vi _ => dn - (intOf vi).toNat)
            case atStart => exact ⟨0, yn, its ys, by omega, rfl, Lib.hid (by rw [keepI, List.filter_eq_self.2 (fun y hy => by simp [dm])]), Hil, by omega, by simp, Hq5.out, (Kp.refl _ _)⟩
            case round =>
              obtain ⟨i, ln, l, hid, rfl, Hl, Hln, hly, rfl, ho, hko⟩ := hrel
              have Ho := Lib.hid ho
              have Hko := Lib.hid hko
              clear ho hko
              by_cases hlt : i < dn
              · obtain ⟨d, hd⟩ : ∃ d, ds[i]? = some d := ⟨_, List.getElem?_eq_getElem (by rw [Hdn.out]; exact hlt)⟩
                obtain ⟨bd, od, rfl, hbd, d0⟩ := drop_at Hdc.out Hdn.out Ho.out.below i d hd
                have Hd := Lib.hid hd
                have HD := Lib.hid (ord_drop Ho.out (pickF d 40))
                obtain ⟨l2, hl2⟩ : ∃ l2, l2 = keepI [pickF d 40] l := ⟨_, rfl⟩
                have hlen2 : l2.length ≤ ln := by rw [hl2, ← Hln.out]; exact keepI_len _ _
                rw [← hl2, Hln.out] at HD
                have Hl2 := Lib.hid hl2
                obtain ⟨n2, hn2⟩ : ∃ n2, l2.length = n2 := ⟨_, rfl⟩
                rw [hn2, show ((ln - n2 : Nat) : Int) = (ln : Int) - n2 by omega] at HD
                rw [hn2] at hlen2
                have Hn2 := Lib.hid hn2
                clear hd hl2 hn2
                go_wp2_with fail
                with_reducible refine (pick_any d 40 _ (by omega) (by omega)).mono ?_
                rintro e w7 ⟨rfl, rfl⟩
                go_wp2_with fail
                with_reducible refine (HD.out).mono ?_
                rintro e w8 ⟨rfl, h8, k8⟩
                have H8 := Lib.hid h8
                have K8 := Lib.hid k8
                clear h8 k8 HD
                go_wp2_with fail
                go_roundw
                case rel => exact ⟨i + 1, n2, l2, by omega, by go_num, Lib.hid (by rw [dm_snoc Hd.out, ← keepI_two, ← Hl.out]; exact Hl2.out), Hn2, by omega, by first | go_num | (congr 1; omega), H8.out, Hko.out.trans K8.out⟩
                case measure => simp [intOf]; omega
              · obtain rfl : i = dn := by omega
                rw [List.take_of_length_le (by rw [Hdn.out]; omega), ← Hzs.out] at Hl
                have hl := Hl.out
                subst hl
                have hlz : ln = zn := by rw [← Hln.out, its, List.length_map, Hzl.out]
                subst hlz
                go_wp2_with fail
                go_meet
                exact ⟨rfl, Ho.out, Hko.out⟩
          case rest =>
            obtain ⟨rfl, h6, k6⟩ := hcut
            generalize wc = w6 at *
            have H6 := Lib.hid h6
            have K6 := Lib.hid k6
            clear h6 k6 Hq5 Hil
            go_wp2_with fail
            with_reducible refine (known_q _).mono ?_
            rintro e w7 ⟨rfl, hb7⟩
            have H7 := Lib.hid (H6.out.of_below hb7)
            have K7 : Hid (KeptL (Mid w3 w5) w5 w7) := Lib.hid (K6.out.trans (show Kp (fun _ => False) w6 w7 from ⟨hb7.os, hb7.tape, hb7.output, hb7.size, fun k hk' _ => hb7.block k hk'⟩).no)
            have hz0 : ((zn : Int) != zn) = false := by simp
            clear hb7 H6 K6
            go_upto_block 10 with (fail)
            rw [show ((yn : Int) - ((yn : Int) - zn) != zn) = false by rw [show (yn : Int) - ((yn : Int) - zn) = zn by omega]; exact hz0]
            have Hla5 := Lib.hid (fun w8 (hk : KeptL (Mid w3 w5) w5 w8) => l_at Hlw5.out Hzl.out hk)
            have hpos : ∀ (i : Nat) (z : Zt), zs[i]? = some z → 0 < z.2.2.length := fun i z hz => by
              have h1 : (z.1, z.2.2) ∈ its zs := List.mem_map.2 ⟨z, List.mem_of_getElem? hz, rfl⟩
              rw [Hzs.out] at h1
              have h2 : (z.1, z.2.2) ∈ its ys := (List.mem_filter.1 h1).1
              obtain ⟨y, hy, e⟩ := List.mem_map.1 h2
              obtain ⟨i2, hi2, rfl⟩ := List.getElem_of_mem hy
              have := (Hfine.out i2 _ (List.getElem?_eq_getElem hi2)).2.1
              have e2 := congrArg (fun x : It => x.2.length) e
              dsimp only at e2
              omega
            have Hpos := Lib.hid hpos
            clear hpos
            go_wp2_with fail
            go_loopw [152] (fun vi wr => ∃ i : Nat, i ≤ zn ∧ vi = .int .i64 i ∧ QOff W wr q ((its zs).drop i) (Mid w3 w5) ∧ KeptL (Mid w3 w5) w5 wr)
              (fun vi _ => zn - (intOf vi).toNat)
            case atStart => exact ⟨0, by omega, rfl, H7.out, K7.out⟩
            case round =>
              obtain ⟨i, hin, rfl, ho, hko⟩ := hrel
              have Hko := Lib.hid hko
              by_cases hlt : i < zn
              · obtain ⟨z, hz⟩ : ∃ z, zs[i]? = some z := ⟨_, List.getElem?_eq_getElem (by rw [Hzl.out]; exact hlt)⟩
                obtain ⟨b, off, rfl, hb, e0, e1, hzb, hzk⟩ := Hla5.out wr hko i z hz
                have hzd := Hpos.out i z hz
                have hdrop : (its zs).drop i = (z.1, z.2.2) :: (its zs).drop (i + 1) := by
                  have h1 : (its zs)[i]? = some (z.1, z.2.2) := by rw [its, List.getElem?_map, hz]; rfl
                  obtain ⟨h2, h3⟩ := List.getElem?_eq_some_iff.1 h1
                  rw [List.drop_eq_getElem_cons h2, h3]
                rw [hdrop] at ho
                obtain ⟨z1, zv, zd⟩ := z
                dsimp only at *
                obtain ⟨bz, oz, cz, rfl, hbz, hzc⟩ := hzb.cell hzd
                have hx : Whole (wr.alloc (.cells #[.int .i64 z1, .slice (some ⟨bz, oz, none⟩) zd.length cz] 55)) wr.heap.size 55 #[.int .i64 z1, .slice (some ⟨bz, oz, none⟩) zd.length cz] := Whole.new _ _ _
                have hkx : Kp (fun _ => False) wr (wr.alloc (.cells #[.int .i64 z1, .slice (some ⟨bz, oz, none⟩) zd.length cz] 55)) := (Kp.refl _ wr).alloc _
                have hqx := qo_pop2 (ho.move (L' := fun k => Mid w3 w5 k ∨ k = wr.heap.size) hkx.no (fun k hk => by
                  rcases hk with hk | rfl
                  · exact ⟨.inl hk, by have := (ho.llt k hk).2; simp only [World.size_alloc]; omega⟩
                  · exact ⟨.inr (Nat.le_refl _), by simp⟩))
                have HQ := Lib.hid hqx
                have Hx := Lib.hid hx
                have Hzb := Lib.hid hzb
                have Hzk := Lib.hid hzk
                have Hkx := Lib.hid hkx
                have hmid : Mid w3 w5 bz := (Hlw5.out.2 _ (List.mem_of_getElem? hz)).1.2.1 bz rfl
                clear hqx hx hkx ho hko hzb hzk hzc hdrop hz
                go_wp2_with fail
                with_reducible refine (HQ.out).mono ?_
                rintro e w8 ⟨v8, rfl, hn8, h8, k8⟩
                have hx8 := k8.whole Hx.out (fun h => h (.inr rfl))
                have hz8 := (Hzb.out.kp Hkx.out (fun _ _ h => h)).kp k8 (fun k hk h => h (.inl (by have : bz = k := Option.some.inj hk; rw [← this]; exact hmid)))
                obtain ⟨by8, oy8, cy8, rfl, _, hyc⟩ := hn8.1.cell hzd
                have k9 := ((Hko.out.trans (Hkx.out.no.trans (k8.mono (fun k _ hn hm => hn (.inl hm)))))).alloc (.cells #[.int .i64 z1, .slice (some ⟨by8, oy8, none⟩) zd.length cy8] 55)
                have h9 := (h8.alloc (.cells #[.int .i64 z1, .slice (some ⟨by8, oy8, none⟩) zd.length cy8] 55)).sub (L' := Mid w3 w5) (fun k hk => .inl (.inl hk))
                have hx9 := hx8.alloc (.cells #[.int .i64 z1, .slice (some ⟨by8, oy8, none⟩) zd.length cy8] 55)
                have hy9 : Whole (w8.alloc (.cells #[.int .i64 z1, .slice (some ⟨by8, oy8, none⟩) zd.length cy8] 55)) w8.heap.size 55 #[.int .i64 z1, .slice (some ⟨by8, oy8, none⟩) zd.length cy8] := Whole.new _ _ _
                have hka : Kp (fun _ => False) w8 (w8.alloc (.cells #[.int .i64 z1, .slice (some ⟨by8, oy8, none⟩) zd.length cy8] 55)) := (Kp.refl _ w8).alloc _
                have hz9 := hz8.kp hka (fun _ _ h => h)
                have hv9 := hn8.1.kp hka (fun _ _ h => h)
                have H9 := Lib.hid (And.intro hx9 (And.intro hy9 (And.intro hz9 (And.intro hv9 (And.intro h9 k9)))))
                clear hx8 hz8 hyc k9 h9 hx9 hy9 hka hz9 hv9 hn8 h8 k8 HQ
                go_upto_region 42 with (fail)
                generalize w8.alloc (.cells #[.int .i64 z1, .slice (some ⟨by8, oy8, none⟩) zd.length cy8] 55) = w9 at H9 ⊢
                obtain ⟨hx9, hy9, hz9, hv9, h9, k9⟩ := H9.out
                have x0 := hx9.cell 0
                have x1 := hx9.cell 1
                have y0 := hy9.cell 0
                have y1 := hy9.cell 1
                simp at x0 x1 y0 y1
                obtain ⟨bz2, oz2, cz2, e2, _, hzc⟩ := hz9.cell hzd
                cases e2
                obtain ⟨bv2, ov2, cv2, e3, _, hvc⟩ := hv9.cell hzd
                cases e3
                have c1 := run_convert_bytes_back (P := Try.prog) w9 53 9 5 ⟨bz, oz, none⟩ cz zd Try.underlying53 Try.underlying5 Try.underlying9 (fun j hj => by rw [Addr.add_lit]; exact hzc j hj)
                have c2 := run_convert_bytes_back (P := Try.prog) w9 53 9 5 ⟨by8, oy8, none⟩ cy8 zd Try.underlying53 Try.underlying5 Try.underlying9 (fun j hj => by rw [Addr.add_lit]; exact hvc j hj)
                have Hend := Lib.hid (And.intro h9 k9)
                clear hx9 hy9 hz9 hv9 h9 k9 hzc hvc H9
                generalize w8.heap.size = b8 at *
                generalize zd.length = dl at *
                go_wp2_with fail
                go_roundw
                case rel => exact ⟨i + 1, by omega, by go_num, Hend.out.1, Hend.out.2⟩
                case measure => simp [intOf]; omega
              · obtain rfl : i = zn := by omega
                have hnil : (its zs).drop i = [] := List.drop_eq_nil_of_le (by rw [its, List.length_map, Hzl.out]; omega)
                rw [hnil] at ho
                have Ho := Lib.hid ho
                clear ho hko hnil
                go_wp2_with fail
                with_reducible refine (qo_len Ho.out).mono ?_
                rintro e w8 ⟨rfl, rfl⟩
                go_wp2_with fail
                go_ret
                exact ⟨rfl, Ho.out.below⟩
end Go.Proofs.Ytelhnhnbfjamhaa

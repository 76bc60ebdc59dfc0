/-
  The walk of 'QueueTells'.
-/
import Derived.Test.YtelhnhnbfjamhaaQTwo
import Derived.Test.YtelhnhnbfjamhaaArgs
import Derived.Deep.QuietTactic
import Derived.BigQuiet
namespace Go.Proofs.Ytelhnhnbfjamhaa
open Go.RowKit

theorem infoN : (Try.prog.info? 3).map (fun i => (i.zero, i.size, i.bytes)) = some (some (.int .i64 0), 1, 8) := by kernel_rfl
theorem pick_nat (n m : Int) (w : World) (hm : 1 ≤ m) (hm2 : m ≤ 1152921504606846976) :
    Calls Try.prog 13 #[.int .i64 n, .int .i64 m] w fun e w' => ∃ i : Nat, (i : Int) < m ∧ e = .returned (.int .i64 (i : Int)) ∧ w = w' := by
  refine (pick_any n m w hm hm2).mono ?_
  rintro e w' ⟨rfl, rfl⟩
  exact ⟨(pickF n m).toNat, by have := pickF_hi n m hm; have := pickF_lo n m hm; omega, by rw [Int.toNat_of_nonneg (pickF_lo n m hm)], rfl⟩

theorem pick_in (n m : Int) (w : World) (hm : 1 ≤ m) (hm2 : m ≤ 1152921504606846976) :
    Calls Try.prog 13 #[.int .i64 n, .int .i64 m] w fun e w' => ∃ i : Int, 0 ≤ i ∧ i < m ∧ e = .returned (.int .i64 i) ∧ w = w' := by
  refine (pick_any n m w hm hm2).mono ?_
  rintro e w' ⟨rfl, rfl⟩
  exact ⟨pickF n m, pickF_lo n m hm, pickF_hi n m hm, rfl, rfl⟩

set_option maxHeartbeats 4000000 in
set_option maxRecDepth 100000 in
theorem QueueTells_any (v : Value) (W : World) (hv : SlArg 61 W v) :
    Calls Try.prog 8 #[v] W fun e w' => e = .returned (.bool true) ∧ Below W.heap.size W w' := by
  obtain ⟨A, len, cap, rfl, hlc, hcm, hreach, hcells⟩ := rawT_rd hv
  unfold maxLen at hcm
  unfold reachBytes at hreach
  have Hc := Lib.hid hcells
  clear hcells hv
  have H0 := Lib.hid (q_two_new W)
  go_enter Try.func8, Try.ntmps8
  go_wp2_with fail
  obtain ⟨r, hr⟩ : ∃ r, r = W.heap.size + 1 := ⟨_, rfl⟩
  rw [← hr]
  rw [← hr] at H0
  clear hr
  obtain ⟨q, hq⟩ : ∃ q, q = W.heap.size := ⟨_, rfl⟩
  rw [← hq]
  rw [← hq] at H0
  clear hq
  generalize (W.alloc (.cells #[.slice none 0 0] 51)).alloc (.cells #[.slice none 0 0] 64) = wz at H0 ⊢
  go_loopw [21] (fun vi wr => ∃ (k : Nat) (l : List It), k ≤ len ∧ vi = .int .i64 k ∧ QTwo W wr q r l l)
    (fun vi _ => len - (intOf vi).toNat)
  case atStart => exact ⟨0, [], Nat.zero_le _, rfl, H0.out⟩
  case round =>
    obtain ⟨k, l, hk, rfl, ho⟩ := hrel
    have Ho := Lib.hid ho
    by_cases hlt : k < len
    · rcases Hc.out with h0 | ⟨b, off, rfl, hbl, hcell⟩
      · omega
      · obtain ⟨u0, hu0, y0, rfl, l0, g0⟩ := hcell k hlt 0 RdI rfl
        obtain ⟨u1, hu1, hn1⟩ := hcell k hlt 1 _ rfl
        obtain ⟨u2, hu2, A5, yd, cap5, rfl, hbs5, hdc5, hcm5, hnone5, hblk5, hreach5⟩ := hcell k hlt 2 _ rfl
        obtain ⟨A4, ds, cap4, rfl, hlc4, hcm4, hr4, hints4, hdat4⟩ := ints_of_rd hn1
        have Hdat4 := Lib.hid hdat4
        have Hbs5 : Hid (∀ w', Below W.heap.size W w' → Bs w' (.slice A5 yd.length cap5) yd) := Lib.hid (fun w' hb => bs_later hbs5 hnone5 hblk5 hb)
        clear hcell hn1 hdat4 hbs5 hnone5 hblk5
        have hb := ho.below
        rw [← hb.cell (p := ⟨b, _, none⟩) hbl] at hu0 hu1 hu2
        simp only [List.length_cons, List.length_nil, Nat.zero_add, Nat.add_zero, Nat.reduceAdd] at hu0 hu1 hu2
        unfold maxLen at hcm4 hcm5
        unfold reachBytes at hreach5
        have hf := ho.few.1
        generalize hydn : yd.length = ydn at *
        have Hydn := Lib.hid hydn
        have Hints := Lib.hid hints4
        generalize hdn : ds.length = dn at *
        have Hdn := Lib.hid hdn
        clear hb ho hydn hdn hints4
        go_upto_block 2 with (with_reducible refine (pick_in _ _ _ (by omega) (by omega)).mono ?_; rintro e w' ⟨wh, whl, whh, rfl, rfl⟩)
        have ex : Whole (wr.alloc (.cells #[.int .i64 y0, .slice A4 dn cap4, .slice A5 ydn cap5] 66)) wr.heap.size 66 #[.int .i64 y0, .slice A4 dn cap4, .slice A5 ydn cap5] := whole_at _ _ rfl rfl
        have et := Ho.out.same ((Kp.refl _ wr).alloc (.cells #[.int .i64 y0, .slice A4 dn cap4, .slice A5 ydn cap5] 66))
        generalize wr.alloc (.cells #[.int .i64 y0, .slice A4 dn cap4, .slice A5 ydn cap5] 66) = wx at ex et ⊢
        generalize wr.heap.size = gx at ex et ⊢
        clear hu0 hu1 hu2
        have Et := Lib.hid et
        have hxl := ex.lt
        have HX : Hid (∀ w', Kp (fun _ => False) wx w' → w'.cell? ⟨gx, 1, none⟩ = some (.slice A4 dn cap4) ∧ w'.cell? ⟨gx, 2, none⟩ = some (.slice A5 ydn cap5) ∧ gx < w'.heap.size ∧ Below W.heap.size W w' ∧ QTwo W w' q r l l) := Lib.hid (fun w' hk => by
          have e1 := (hk.whole ex (fun h => h)).cell 1
          have e2 := (hk.whole ex (fun h => h)).cell 2
          exact ⟨by simpa using e1, by simpa using e2, Nat.lt_of_lt_of_le hxl hk.size, (et.same hk).below, et.same hk⟩)
        clear ex et hxl Ho
        go_cut [] (fun wx => ∃ l', QTwo W wx q r l' l')
        case first =>
          by_cases hw : wh = 0
          · have hwb : (wh == 0) = true := by simp [hw]
            clear hw
            as_aux_lemma =>
              obtain ⟨k0, hkk, hk0, hk1, hk2⟩ := info_parts infoN
              have Hi := Lib.hid hkk
              have Hz0 := Lib.hid hk0
              have Hz1 := Lib.hid hk1
              have Hz2 := Lib.hid hk2
              clear hkk hk0 hk1 hk2
              go_wp2_with fail
              go_loopw [7, 8] (fun vn vi wr => ∃ (j : Nat) (ns : List Int), j ≤ dn ∧ j ≤ 3 ∧ vi = .int .i64 j ∧ Hid (ns.length = j) ∧ RowAt wr wx.heap.size 1 vn j (encN ns) ∧ Kp (fun _ => False) wx wr)
                (fun _ vi _ => 3 - (intOf vi).toNat)
              case atStart => exact ⟨0, [], by omega, by omega, rfl, Lib.hid rfl, RowAt.nil _ _ _, Kp.refl _ _⟩
              case round =>
                obtain ⟨j, ns, hjd, hj3, rfl, Hns, hrow, hkp⟩ := hrel
                obtain ⟨x1, _, hxl, hbel, _⟩ := HX.out _ hkp
                have Hrow := Lib.hid hrow
                have Hkp := Lib.hid hkp
                have Hbel := Lib.hid hbel
                obtain ⟨A6, c6, rfl⟩ := hrow.form
                clear hrow hkp hbel
                by_cases hd : j < dn
                · by_cases h3 : j < 3
                  · obtain ⟨d, hdj⟩ : ∃ d, ds[j]? = some d := ⟨_, List.getElem?_eq_getElem (by rw [Hdn.out]; exact hd)⟩
                    obtain ⟨bn, on, rfl, hbn, hnc⟩ := drop_at Hdat4.out Hdn.out Hbel.out j d hdj
                    clear hdj
                    go_wp2_with fail
                    with_reducible refine (pick_any _ _ _ (by omega) (by omega)).mono ?_
                    rintro e w' ⟨rfl, rfl⟩
                    generalize pickF d 30 = p
                    have HO := Lib.hid (RowAt.kp Hrow.out ((Kp.refl (fun _ => False) wr).alloc (.cells #[.int .i64 p] 3)) (fun _ _ h => h))
                    have HS : Hid (Src (wr.alloc (.cells #[.int .i64 p] 3)) 1 (.slice (some ⟨wr.heap.size, 0, none⟩) 1 1) 1 (encN [p])) := Lib.hid (src_row _ (Whole.new _ _ _) rfl (fun u hu => by simp [encN] at hu; subst hu; rfl))
                    go_wp2_with (at_builtin; refine wpList_row rfl (.tmp 89) (.tmp 96) 58 rfl wx.heap.size 3 k0 _ 1 8 Try.underlying58 Hi.out Hz0.out Hz1.out Hz2.out rfl (by decide) _ j _ rfl HO.out _ 1 _ rfl HS.out (by unfold maxLen; omega) (by omega) (by have := Hkp.out.size; simp only [World.size_alloc]; omega) ?_; intro v' w1 hr1 hg1 hn1; have hkp1 := (Hkp.out.alloc (.cells #[.int .i64 p] 3)).grown hg1 (fun i hi hlt => absurd (Hrow.out.lt i hi).1 (by omega)); have Hr1 := Lib.hid hr1; have Hkp1 := Lib.hid hkp1; clear hr1 hg1 hn1 hkp1)
                    go_roundw
                    case rel => exact ⟨j + 1, ns ++ [p], by omega, by omega, by go_num, Lib.hid (by rw [List.length_append, Hns.out]; rfl), by rw [encN, List.map_append]; exact Hr1.out, Hkp1.out⟩
                    case measure => simp [intOf]; omega
                  · have hP := tw_drop Et.out Hkp.out (ns := ns) (by rw [Hns.out]; exact Hrow.out) (by rw [Hns.out]; omega)
                    rw [Hns.out] at hP
                    have HP := Lib.hid hP
                    clear hP
                    go_wp2_with fail
                    with_reducible refine (HP.out).mono ?_
                    rintro e w1 ⟨rfl, h1⟩
                    have hQ := tw_rdrop (by rw [Hns.out]; exact h1) (by rw [Hns.out]; omega)
                    rw [Hns.out] at hQ
                    have HQ := Lib.hid hQ
                    clear hQ h1
                    generalize l.length - (keepI ns l).length = dd at *
                    go_wp2_with fail
                    with_reducible refine (HQ.out).mono ?_
                    rintro e w2 ⟨rfl, h2⟩
                    have H2 := Lib.hid h2
                    clear h2
                    go_wp2_with fail
                    go_meet
                    exact ⟨_, H2.out⟩
                · obtain rfl : j = dn := by omega
                  have hP := tw_drop Et.out Hkp.out (ns := ns) (by rw [Hns.out]; exact Hrow.out) (by rw [Hns.out]; omega)
                  rw [Hns.out] at hP
                  have HP := Lib.hid hP
                  clear hP
                  go_wp2_with fail
                  with_reducible refine (HP.out).mono ?_
                  rintro e w1 ⟨rfl, h1⟩
                  have hQ := tw_rdrop (by rw [Hns.out]; exact h1) (by rw [Hns.out]; omega)
                  rw [Hns.out] at hQ
                  have HQ := Lib.hid hQ
                  clear hQ h1
                  generalize l.length - (keepI ns l).length = dd at *
                  go_wp2_with fail
                  with_reducible refine (HQ.out).mono ?_
                  rintro e w2 ⟨rfl, h2⟩
                  have H2 := Lib.hid h2
                  clear h2
                  go_wp2_with fail
                  go_meet
                  exact ⟨_, H2.out⟩
          · have hwb : (wh == 0) = false := by simp [hw]
            by_cases hw1 : wh = 1
            · subst hw1
              clear hw hwb whl whh
              as_aux_lemma =>
                cases l with
                | nil =>
                  go_wp2_with fail
                  with_reducible refine (tw_pop_none Et.out).mono ?_
                  rintro e w1 ⟨rfl, h1⟩
                  obtain ⟨Ar, cr, hrc⟩ := tw_nil h1
                  have hrl := h1.rlt
                  have H1 := Lib.hid h1
                  clear h1
                  go_wp2_with fail
                  go_meet
                  exact ⟨[], H1.out.same ((Kp.refl _ _).alloc _)⟩
                | cons x l =>
                  go_wp2_with fail
                  with_reducible refine (tw_pop Et.out).mono ?_
                  rintro e w1 ⟨v', rfl, hb1, h1⟩
                  obtain ⟨g, og, cg, bz, oz, cz, hrc, hrf, hgl, hlc1, hcm1, e0, e1, hbz, hx0, hfin⟩ := tw_head h1
                  obtain ⟨bv, ov, cv, rfl, _, hbvc⟩ := hb1.cell hx0
                  clear hbvc
                  have hrl := h1.rlt
                  have H1 := Lib.hid (And.intro hrc (And.intro hrf (And.intro e0 (And.intro e1 (And.intro hbz (And.intro hb1 (And.intro hfin (And.intro hgl hrl))))))))
                  clear hrc hrf e0 e1 hbz hb1 h1 hfin
                  go_upto_region 27 with (fail)
                  have hka : Kp (fun _ => False) w1 (w1.alloc (.cells #[.int .i64 x.1, .slice (some ⟨bv, ov, none⟩) x.2.length cv] 55)) := (Kp.refl _ w1).alloc _
                  have hy9 : Whole (w1.alloc (.cells #[.int .i64 x.1, .slice (some ⟨bv, ov, none⟩) x.2.length cv] 55)) w1.heap.size 55 #[.int .i64 x.1, .slice (some ⟨bv, ov, none⟩) x.2.length cv] := Whole.new _ _ _
                  generalize w1.alloc (.cells #[.int .i64 x.1, .slice (some ⟨bv, ov, none⟩) x.2.length cv] 55) = w2 at hka hy9 ⊢
                  obtain ⟨hrc, hrf, e0, e1, hbz, hb1, hfin, _, _⟩ := H1.out
                  rw [← hka.cell (p := ⟨r, _, none⟩) hrl (fun h => h)] at hrc
                  rw [← hka.frozen (p := ⟨r, _, none⟩) hrl (fun h => h)] at hrf
                  rw [← hka.cell (p := ⟨g, _, none⟩) hgl (fun h => h)] at e0 e1
                  have y0 := hy9.cell 0
                  have y1 := hy9.cell 1
                  simp at y0 y1
                  obtain ⟨_, _, _, E1, _, hzc⟩ := (hbz.kp hka (fun _ _ h => h)).cell hx0
                  cases E1
                  obtain ⟨_, _, _, E2, _, hvc⟩ := (hb1.kp hka (fun _ _ h => h)).cell hx0
                  cases E2
                  have c1 := fun nd : Nat => run_convert_bytes_back (P := Try.prog) (w2.drewN nd) 53 9 5 ⟨bz, oz, none⟩ cz x.2 Try.underlying53 Try.underlying5 Try.underlying9 (fun j hj => by rw [Addr.add_lit]; exact (World.cell?_drewN w2 nd _).trans (hzc j hj))
                  have c2 := fun nd : Nat => run_convert_bytes_back (P := Try.prog) (w2.drewN nd) 53 9 5 ⟨bv, ov, none⟩ cv x.2 Try.underlying53 Try.underlying5 Try.underlying9 (fun j hj => by rw [Addr.add_lit]; exact (World.cell?_drewN w2 nd _).trans (hvc j hj))
                  have Hfin := Lib.hid hfin
                  have Hka := Lib.hid hka
                  clear hzc hvc hbz hb1 hfin hka hy9 H1
                  have hr2 := Nat.lt_of_lt_of_le hrl Hka.out.size
                  generalize w1.heap.size = b8 at *
                  generalize hxn : x.2.length = xn at *
                  generalize lrn : l.length = ln at *
                  unfold maxLen at hcm1
                  by_cases hc1 : cg = 1
                  · subst hc1
                    go_wp2_with fail
                    go_quiet (fail)
                    all_goals
                      go_wp2_with fail
                      go_meet
                      obtain rfl : ln = 0 := by omega
                      exact ⟨l, (Hfin.out _ Hka.out).same ((Kp.refl _ _).drewN _)⟩
                  · go_wp2_with fail
                    go_quiet (fail)
                    all_goals
                      go_wp2_with fail
                      go_meet
                      have hf2 := Hfin.out _ Hka.out
                      rw [if_neg hc1] at hf2
                      exact ⟨l, hf2.same ((Kp.refl _ _).drewN _)⟩
            · have hwb1 : (wh == 1) = false := by simp [hw1]
              clear hw hw1
              obtain ⟨i0, hii, hz0, hz1, hz2⟩ := info_parts infoI
              have Hi := Lib.hid hii
              have Hz0 := Lib.hid hz0
              have Hz1 := Lib.hid hz1
              have Hz2 := Lib.hid hz2
              clear hii hz0 hz1 hz2
              obtain ⟨i1, hii, hz0, hz1, hz2⟩ := info_parts infoRI
              have Hj := Lib.hid hii
              have Hy0 := Lib.hid hz0
              have Hy1 := Lib.hid hz1
              have Hy2 := Lib.hid hz2
              clear hii hz0 hz1 hz2
              go_wp2_with fail
              go_loopw [11, 12, 13] (fun va vb vi wr => ∃ (j : Nat) (ys : List Zt), j ≤ dn ∧ j ≤ 5 ∧ vi = .int .i64 j ∧ Hid (ys.length = j) ∧ Hid (∀ y ∈ ys, y.2.2.length ≤ 1000) ∧ L2 wr wx.heap.size va vb ys ∧ Kp (fun _ => False) wx wr)
                (fun _ _ vi _ => 5 - (intOf vi).toNat)
              case atStart => exact ⟨0, [], by omega, by omega, rfl, Lib.hid rfl, Lib.hid (fun y hy => by cases hy), L2.nil _ _, Kp.refl _ _⟩
              case round =>
                obtain ⟨j, ys, hjd, hj5, rfl, Hyl, Hyb, hl2, hkp⟩ := hrel
                obtain ⟨x1, x2, hxl, hbel, _⟩ := HX.out _ hkp
                have Hkp := Lib.hid hkp
                have Hbel := Lib.hid hbel
                obtain ⟨Aa, ca, rfl⟩ := hl2.one.1.form
                obtain ⟨Ab, cb, rfl⟩ := hl2.two.1.form
                rw [Hyl.out] at hl2
                have Hl2 := Lib.hid hl2
                clear hl2 hkp hbel
                rw [Hyl.out]
                by_cases hd : j < dn
                · by_cases h5 : j < 5
                  · obtain ⟨d, hdj⟩ : ∃ d, ds[j]? = some d := ⟨_, List.getElem?_eq_getElem (by rw [Hdn.out]; exact hd)⟩
                    obtain ⟨bn, on, rfl, hbn, hnc⟩ := drop_at Hdat4.out Hdn.out Hbel.out j d hdj
                    have hid := Hints.out d (List.mem_of_getElem? hdj)
                    have Hdj := Lib.hid hdj
                    clear hdj
                    have hB5 := Hbs5.out _ Hbel.out
                    rw [← Hydn.out] at hB5
                    have HT : Hid (∀ (n : Nat) (w' : World), n ≤ 1000 → Kp (fun _ => False) wr w' → Calls Try.prog 33 #[.slice A5 ydn cap5, .int .i64 n] w' fun e w2 => ∃ v' t, e = .returned v' ∧ t.length = n ∧ RowAt w2 wr.heap.size 1 v' n (encB t) ∧ Kp (fun _ => False) wr w2) := Lib.hid (fun n w' hn hk => by
                      have := text_any (hB5.kp hk (fun _ _ h => h)) (by rw [Hydn.out]; omega) n hn
                      rw [Hydn.out] at this
                      refine this.mono ?_
                      rintro e w2 ⟨v', t, h1, h2, h3, h4⟩
                      exact ⟨v', t, h1, h2, h3.base hk.size, hk.trans h4⟩)
                    clear hB5
                    go_upto_region 12 with (fail)
                    go_cut [14] (fun vt wy => ∃ t : List UInt8, t.length ≤ 1000 ∧ RowAt wy wr.heap.size 1 vt t.length (encB t) ∧ Kp (fun _ => False) wr wy)
                    case first =>
                      as_aux_lemma =>
                        go_wp2_with fail
                        go_region_with (first | (go_at_call 13; refine (pick_nat _ _ _ (by omega) (by omega)).mono ?_; rintro e w' ⟨pn, hpn, rfl, rfl⟩) | (go_at_call 33; refine (HT.out _ _ (by omega) ((Kp.refl _ wr).drew)).mono ?_; rintro e w1 ⟨v', t, rfl, ht, hrt, hkt⟩; have Ht := Lib.hid ht; have Hrt := Lib.hid hrt; have Hkt := Lib.hid hkt; clear ht hrt hkt))
                        all_goals
                          go_wp2_with fail
                          go_meet
                          exact ⟨_, by rw [Ht.out]; omega, by rw [Ht.out]; exact Hrt.out, Hkt.out⟩
                    case rest =>
                      as_aux_lemma =>
                        obtain ⟨t, htl, hrt, hkt⟩ := hcut
                        generalize wc = wy at *
                        obtain ⟨At, ct, rfl⟩ := hrt.form
                        have hnc2 := hnc
                        rw [← hkt.cell (p := ⟨bn, _, none⟩) hbn (fun h => h)] at hnc2
                        have hbn2 := Nat.lt_of_lt_of_le hbn hkt.size
                        obtain ⟨x1, _, hxl, _, _⟩ := HX.out _ (Hkp.out.trans hkt)
                        obtain ⟨p, hp⟩ : ∃ p, p = pickF d 30 := ⟨_, rfl⟩
                        have HPk : Hid (∀ w', Calls Try.prog 13 #[.int .i64 d, .int .i64 30] w' fun e w2 => e = .returned (.int .i64 p) ∧ w' = w2) := Lib.hid (fun w' => by rw [hp]; exact pick_any d 30 w' (by omega) (by omega))
                        have hka : Kp (fun _ => False) wr (wy.alloc (.cells #[.int .i64 p, .slice At t.length ct] 55)) := hkt.alloc _
                        have hrt2 := hrt.kp (S := fun _ => False) ((Kp.refl _ wy).alloc (.cells #[.int .i64 p, .slice At t.length ct] 55)) (fun _ _ h => h)
                        have HZ : Hid (NewB (wy.alloc (.cells #[.int .i64 p, .slice At t.length ct] 55)) wr.heap.size (.slice At t.length ct) t) := Lib.hid ⟨hrt2.src (encB_one _), hrt2.lt, rfl⟩
                        have hro := Hl2.out.one.1.kp hka (fun _ _ h => h)
                        rw [Hyl.out] at hro
                        have HO := Lib.hid hro
                        have HS : Hid (Src (wy.alloc (.cells #[.int .i64 p, .slice At t.length ct] 55)) 2 (.slice (some ⟨wy.heap.size, 0, none⟩) 1 1) 1 (encZ (p, .slice At t.length ct, t))) := Lib.hid (src_row _ (Whole.new _ _ _) rfl (fun u hu => by simp [encZ] at hu; rcases hu with rfl | rfl <;> rfl))
                        have Hka := Lib.hid hka
                        have hys := Hkp.out.size
                        have hys2 := hkt.size
                        clear hp hka hrt hrt2 hro hkt
                        generalize htn : t.length = tn at *
                        go_wp2_with fail
                        with_reducible refine (HPk.out _).mono ?_
                        rintro e w' ⟨rfl, rfl⟩
                        go_upto_region 14 with (at_builtin; refine wpList_row rfl (.tmp 49) (.tmp 58) 49 rfl wx.heap.size 55 i0 _ 2 32 Try.underlying49 Hi.out Hz0.out Hz1.out Hz2.out rfl (by decide) _ j _ rfl HO.out _ 1 _ rfl HS.out (by unfold maxLen; omega) (by omega) (by simp only [World.size_alloc]; omega) ?_; intro va' w1 hr1 hg1 hn1; have h1a := l2_first (z := (p, .slice At tn ct, t)) Hl2.out Hkp.out.size Hka.out HZ.out (by rw [Hyl.out]; exact hr1) hg1 hn1; have hk1 := (Hkp.out.trans Hka.out).grown hg1 (fun i hi hlt => absurd (Hl2.out.one.1.lt i hi).1 (by omega)); obtain ⟨x11, _, hxl1, hbel1, _⟩ := HX.out _ hk1; obtain ⟨bn1, on1, hA1, hbn1, hnc1⟩ := drop_at Hdat4.out Hdn.out hbel1 j d Hdj.out; cases hA1; obtain ⟨Aa1, ca1, rfl⟩ := hr1.form; have H1a := Lib.hid h1a; have Hk1 := Lib.hid hk1; clear hr1 hg1 hn1 h1a hk1 hbel1)
                        go_wp2_with fail
                        with_reducible refine (HPk.out _).mono ?_
                        rintro e w' ⟨rfl, rfl⟩
                        have hkb : Kp (fun _ => False) w1 (w1.alloc (.cells #[.int .i64 p, .slice At tn ct] 68)) := (Kp.refl _ w1).alloc _
                        have h1b := H1a.out.kp hkb
                        have hro := h1b.two.1
                        rw [Hyl.out] at hro
                        have HO2 := Lib.hid hro
                        have H1b := Lib.hid h1b
                        have HS2 : Hid (Src (w1.alloc (.cells #[.int .i64 p, .slice At tn ct] 68)) 2 (.slice (some ⟨w1.heap.size, 0, none⟩) 1 1) 1 (encZ (p, .slice At tn ct, t))) := Lib.hid (src_row _ (Whole.new _ _ _) rfl (fun u hu => by simp [encZ] at hu; rcases hu with rfl | rfl <;> rfl))
                        have hys3 := Hk1.out.size
                        clear hkb h1b hro
                        go_wp2_with (at_builtin; refine wpList_row rfl (.tmp 60) (.tmp 69) 62 rfl wx.heap.size 68 i1 _ 2 32 Try.underlying62 Hj.out Hy0.out Hy1.out Hy2.out rfl (by decide) _ j _ rfl HO2.out _ 1 _ rfl HS2.out (by unfold maxLen; omega) (by omega) (by simp only [World.size_alloc]; omega) ?_; intro vb' w2 hr2 hg2 hn2; have h2 := l2_second H1b.out (by rw [Hyl.out]; exact hr2) hg2 hn2; have hk2 := (Hk1.out.alloc (.cells #[.int .i64 p, .slice At tn ct] 68)).grown hg2 (fun i hi hlt => absurd (H1b.out.two.1.lt i hi).1 (by omega)); have H2 := Lib.hid h2; have Hk2 := Lib.hid hk2; clear hr2 hg2 hn2 h2 hk2)
                        go_roundw
                        case rel => exact ⟨j + 1, ys ++ [(p, .slice At tn ct, t)], by omega, by omega, by go_num, Lib.hid (by rw [List.length_append, Hyl.out]; rfl), Lib.hid (fun y hy => by
                          rcases List.mem_append.1 hy with hy | hy
                          · exact Hyb.out y hy
                          · simp only [List.mem_singleton] at hy; subst hy; dsimp only; omega), H2.out, Hk2.out⟩
                        case measure => simp [intOf]; omega
                  · have hP := tw_put Et.out Hkp.out (ys := ys) Hl2.out.one Hl2.out.two (fun y hy => by have := Hyb.out y hy; omega) (by rw [Hyl.out]; omega)
                    have HP := Lib.hid hP
                    clear hP
                    go_wp2_with fail
                    with_reducible refine (HP.out).mono ?_
                    rintro e w1 ⟨rfl, h1⟩
                    have hQ := tw_rput h1 h1.size (fun y hy => by have := Hyb.out y hy; omega) (by rw [Hyl.out]; omega)
                    have HQ := Lib.hid hQ
                    clear hQ h1
                    generalize accept l.length (its ys) = acc at *
                    go_wp2_with fail
                    with_reducible refine (HQ.out).mono ?_
                    rintro e w2 ⟨rfl, h2⟩
                    have H2 := Lib.hid h2
                    clear h2
                    go_wp2_with fail
                    go_meet
                    exact ⟨_, H2.out⟩
                · obtain rfl : j = dn := by omega
                  have hP := tw_put Et.out Hkp.out (ys := ys) Hl2.out.one Hl2.out.two (fun y hy => by have := Hyb.out y hy; omega) (by rw [Hyl.out]; omega)
                  have HP := Lib.hid hP
                  clear hP
                  go_wp2_with fail
                  with_reducible refine (HP.out).mono ?_
                  rintro e w1 ⟨rfl, h1⟩
                  have hQ := tw_rput h1 h1.size (fun y hy => by have := Hyb.out y hy; omega) (by rw [Hyl.out]; omega)
                  have HQ := Lib.hid hQ
                  clear hQ h1
                  generalize accept l.length (its ys) = acc at *
                  go_wp2_with fail
                  with_reducible refine (HQ.out).mono ?_
                  rintro e w2 ⟨rfl, h2⟩
                  have H2 := Lib.hid h2
                  clear h2
                  go_wp2_with fail
                  go_meet
                  exact ⟨_, H2.out⟩
        case rest =>
          obtain ⟨l', h⟩ := hcut
          generalize wc = wk at *
          have Hh := Lib.hid h
          clear h
          cases l' with
          | nil =>
            as_aux_lemma =>
              go_wp2_with fail
              with_reducible refine (tw_first_none Hh.out).mono ?_
              rintro e w1 ⟨rfl, h1⟩
              obtain ⟨Ar, cr, hrc⟩ := tw_nil h1
              have hrl := h1.rlt
              go_upto_region 34 with (fail)
              have hka : Kp (fun _ => False) w1 (w1.alloc (.cells #[.int .i64 0, .slice none 0 0] 55)) := (Kp.refl _ w1).alloc _
              generalize w1.alloc (.cells #[.int .i64 0, .slice none 0 0] 55) = w2 at hka ⊢
              rw [← hka.cell (p := ⟨r, _, none⟩) hrl (fun h => h)] at hrc
              have H1 := Lib.hid (h1.same hka)
              have HL : Hid (∀ nd : Nat, Calls Try.prog 27 #[.pointer (some ⟨q, 0, none⟩)] (w2.drewN nd) fun e w' => e = .returned (.int .i64 0) ∧ w' = w2.drewN nd) := Lib.hid (fun nd => (tw_len ((h1.same hka).same ((Kp.refl _ _).drewN nd))).mono fun e w' ⟨he, hw⟩ => ⟨he, hw.symm⟩)
              clear h1 hka
              go_wp2_with fail
              go_quiet ((go_at_call 27; exact Calls.quiet_of_same (HL.out _)))
              all_goals
                go_wp2_with fail
                go_roundw
                case rel => exact ⟨k + 1, [], by omega, by go_num, H1.out.same ((Kp.refl _ _).drewN _)⟩
                case measure => simp [intOf]; omega
          | cons x l' =>
            as_aux_lemma =>
              go_wp2_with fail
              with_reducible refine (tw_first Hh.out).mono ?_
              rintro e w1 ⟨v', rfl, hb1, h1⟩
              obtain ⟨g, og, cg, bz, oz, cz, hrc, hrf, hgl, hlc1, hcm1, e0, e1, hbz, hx0, _⟩ := tw_head h1
              obtain ⟨bv, ov, cv, rfl, _, hbvc⟩ := hb1.cell hx0
              clear hbvc
              have hrl := h1.rlt
              have H1 := Lib.hid (And.intro hrc (And.intro e0 (And.intro e1 (And.intro hbz (And.intro hb1 h1)))))
              clear hrc hrf e0 e1 hbz hb1 h1
              go_upto_region 34 with (fail)
              have hka : Kp (fun _ => False) w1 (w1.alloc (.cells #[.int .i64 x.1, .slice (some ⟨bv, ov, none⟩) x.2.length cv] 55)) := (Kp.refl _ w1).alloc _
              have hy9 : Whole (w1.alloc (.cells #[.int .i64 x.1, .slice (some ⟨bv, ov, none⟩) x.2.length cv] 55)) w1.heap.size 55 #[.int .i64 x.1, .slice (some ⟨bv, ov, none⟩) x.2.length cv] := Whole.new _ _ _
              generalize w1.alloc (.cells #[.int .i64 x.1, .slice (some ⟨bv, ov, none⟩) x.2.length cv] 55) = w2 at hka hy9 ⊢
              obtain ⟨hrc, e0, e1, hbz, hb1, h1⟩ := H1.out
              rw [← hka.cell (p := ⟨r, _, none⟩) hrl (fun h => h)] at hrc
              rw [← hka.cell (p := ⟨g, _, none⟩) hgl (fun h => h)] at e0 e1
              have y0 := hy9.cell 0
              have y1 := hy9.cell 1
              simp at y0 y1
              obtain ⟨_, _, _, E1, _, hzc⟩ := (hbz.kp hka (fun _ _ h => h)).cell hx0
              cases E1
              obtain ⟨_, _, _, E2, _, hvc⟩ := (hb1.kp hka (fun _ _ h => h)).cell hx0
              cases E2
              have c1 := fun nd : Nat => run_convert_bytes_back (P := Try.prog) (w2.drewN nd) 53 9 5 ⟨bz, oz, none⟩ cz x.2 Try.underlying53 Try.underlying5 Try.underlying9 (fun j hj => by rw [Addr.add_lit]; exact (World.cell?_drewN w2 nd _).trans (hzc j hj))
              have c2 := fun nd : Nat => run_convert_bytes_back (P := Try.prog) (w2.drewN nd) 53 9 5 ⟨bv, ov, none⟩ cv x.2 Try.underlying53 Try.underlying5 Try.underlying9 (fun j hj => by rw [Addr.add_lit]; exact (World.cell?_drewN w2 nd _).trans (hvc j hj))
              have HL : Hid (∀ nd : Nat, Calls Try.prog 27 #[.pointer (some ⟨q, 0, none⟩)] (w2.drewN nd) fun e w' => e = .returned (.int .i64 ((l'.length + 1 : Nat) : Int)) ∧ w' = w2.drewN nd) := Lib.hid (fun nd => (tw_len ((h1.same hka).same ((Kp.refl _ _).drewN nd))).mono fun e w' ⟨he, hw⟩ => ⟨he, hw.symm⟩)
              have H2 := Lib.hid (h1.same hka)
              clear hzc hvc hbz hb1 h1 hka hy9 H1
              generalize w1.heap.size = b8 at *
              generalize hxn : x.2.length = xn at *
              generalize lrn : l'.length = ln at *
              unfold maxLen at hcm1
              go_wp2_with fail
              go_quiet ((go_at_call 27; exact Calls.quiet_of_same (HL.out _)))
              all_goals
                go_wp2_with fail
                go_roundw
                case rel => exact ⟨k + 1, x :: l', by omega, by go_num, H2.out.same ((Kp.refl _ _).drewN _)⟩
                case measure => simp [intOf]; omega
    · go_wp2_with (go_at_call 31; refine (known_q _).mono ?_; rintro e w1 ⟨rfl, hb1⟩; have Hb1 := Lib.hid hb1; clear hb1)
      go_ret
      exact ⟨rfl, (Ho.out.same (kp_below Hb1.out)).below⟩
end Go.Proofs.Ytelhnhnbfjamhaa

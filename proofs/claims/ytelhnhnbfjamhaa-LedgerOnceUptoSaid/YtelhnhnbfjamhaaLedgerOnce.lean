/-
  The walk of 'LedgerOnce' (arguments of small bulk).
-/
import Derived.Test.YtelhnhnbfjamhaaOnceS
import Derived.Deep.RegionHeld3
namespace Go.Proofs.Ytelhnhnbfjamhaa
open Go.RowKit

/-- Ahead of the telling: what is out and what was just taken out of it. -/
def Mid2 (W w : World) (l mb : Nat) (v : Value) (T : List Int) (next : Int) : Prop :=
  ∃ (zsA : List St) (p : St → Bool) (top0 top : Int) (vz : Value), Once zsA T next top0 ∧ 0 ≤ top ∧ top ≤ next ∧ (∃ A n, v = .slice A (zsA.filter p).length n) ∧ Got W w mb v (zsA.filter p) ∧ OS W w l mb vz (zsA.filter fun z => !p z) T next top

/-- The number of the packet ahead of the i-th. -/
abbrev w_prev (w : World) (b o i : Nat) (z : St) : Prop := w.cell? ⟨b, o + (i - 1) * 4, none⟩ = some (.int .i64 z.1)

set_option maxRecDepth 100000 in
set_option maxHeartbeats 4000000 in
theorem LedgerOnce_upto (v : Value) (W : World) (hv : SlArgB 89 W v) :
    Calls Try.prog 12 #[v] W fun e w' => e = .returned (.bool true) ∧ Below W.heap.size W w' := by
  obtain ⟨A, len, cap, rfl, hlc, hcm, hlen, hcells⟩ := rawL_rd hv
  have Hc := Lib.hid hcells
  clear hcells hv
  have hmm := @run_makeMap Try.prog
  go_enter Try.func12, Try.ntmps12
  go_upto_region 3 with (fail)
  have h0 : OS W ((W.alloc (.cells #[.slice none 0 0, .int .i64 0, .int .i64 0] 76)).alloc (.map #[] 0)) W.heap.size (W.heap.size + 1) (.slice none 0 0) [] [] 0 0 := by
    refine ⟨(LAt.new W _).kp ((Kp.refl (fun _ => False) _).alloc _) (fun h => h) (fun _ _ h => h), ?_, ((Kp.refl _ W).alloc _).alloc _, by omega, Nat.le_refl _, fun k hk => by cases hk⟩
    have := World.ownsMap_made (W.alloc (.cells #[.slice none 0 0, .int .i64 0, .int .i64 0] 76)) Try.prog 3 (plainElem (H := Unit) Try.prog 3)
    rw [World.size_alloc] at this
    exact this
  have H0 := Lib.hid h0
  clear h0 hmm
  obtain ⟨mb, hmb⟩ : ∃ mb, mb = W.heap.size + 1 := ⟨_, rfl⟩
  have hmW : W.heap.size ≤ mb := by omega
  rw [← hmb]
  rw [← hmb] at H0
  clear hmb
  obtain ⟨l, hl⟩ : ∃ l, l = W.heap.size := ⟨_, rfl⟩
  rw [← hl]
  rw [← hl] at H0
  clear hl
  generalize (W.alloc (.cells #[.slice none 0 0, .int .i64 0, .int .i64 0] 76)).alloc (.map #[] 0) = wz at H0 ⊢
  go_wp2_with fail
  go_loopw [5, 24] (fun vn vi wr => ∃ (k : Nat) (now : Nat) (zs : List St) (T : List Int) (next top : Int) (vz : Value), k ≤ len ∧ now ≤ k ∧ vi = .int .i64 k ∧ vn = .int .i64 now ∧ next ≤ 3 * k ∧ T.Nodup ∧ Once zs T next top ∧ OS W wr l mb vz zs T next top)
    (fun _ vi _ => len - (intOf vi).toNat)
  case atStart => exact ⟨0, 0, [], [], 0, 0, _, by omega, by omega, rfl, rfl, by omega, List.nodup_nil, ⟨List.Pairwise.nil, by simp, by simp, by simp, by simp, fun n h0 h1 => by omega, by simp, by omega, by omega⟩, H0.out⟩
  case round =>
    obtain ⟨k, now, zs, T, next, top, vz, hk, hnow, rfl, rfl, hnx, hnd, honce, hos⟩ := hrel
    have Hos := Lib.hid hos
    have Honce := Lib.hid honce
    have Hnd := Lib.hid hnd
    have hcnt := honce.cnt
    have htop0 := honce.top0
    have htop1 := honce.top1
    clear hos honce hnd
    by_cases hlt : k < len
    · rcases Hc.out with h0 | ⟨b, off, rfl, hbl, hcell⟩
      · omega
      · obtain ⟨u0, hu0, y0, rfl, _, _⟩ := hcell k hlt 0 RdI rfl
        obtain ⟨u1, hu1, y1, rfl, _, _⟩ := hcell k hlt 1 RdI rfl
        obtain ⟨u2, hu2, y2, rfl, _, _⟩ := hcell k hlt 2 RdI rfl
        obtain ⟨u3, hu3, y3, rfl, _, _⟩ := hcell k hlt 3 RdI rfl
        obtain ⟨u4, hu4, y4, rfl⟩ := hcell k hlt 4 RdB rfl
        obtain ⟨u5, hu5, A5, len5, cap5, rfl, hlc5, hcm5, hlen5, hc5⟩ := hcell k hlt 5 _ rfl
        have hin : IntsIn W A5 len5 := by
          rcases hc5 with h | ⟨b5, o5, rfl, hb5, hcc⟩
          · exact .inl h
          · exact .inr ⟨b5, o5, rfl, hb5, fun i hi => by
              obtain ⟨u, hu, x, rfl, _, _⟩ := hcc i hi 0 RdI rfl
              exact ⟨x, by simpa using hu⟩⟩
        clear hcell hc5
        have hkw := Hos.out.kp
        have hWb : ∀ o, wr.cell? ⟨b, o, none⟩ = W.cell? ⟨b, o, none⟩ := fun o => hkw.cell (p := ⟨b, o, none⟩) hbl (by intro h; dsimp only at h; omega)
        rw [← hWb] at hu0 hu1 hu2 hu3 hu4 hu5
        simp only [List.length_cons, List.length_nil, Nat.zero_add, Nat.add_zero, Nat.reduceAdd] at hu0 hu1 hu2 hu3 hu4 hu5
        have hin2 : IntsIn wr A5 len5 := by
          rcases hin with h | ⟨b5, o5, rfl, hb5, hcc⟩
          · exact .inl h
          · exact .inr ⟨b5, o5, rfl, Nat.lt_of_lt_of_le hb5 hkw.size, fun i hi => by
              obtain ⟨x, hx⟩ := hcc i hi
              exact ⟨x, (hkw.cell (p := ⟨b5, o5 + i, none⟩) hb5 (by intro h; dsimp only at h; omega)).trans hx⟩⟩
        have hbw := Nat.lt_of_lt_of_le hbl hkw.size
        clear hkw hWb hin
        unfold maxLen at hcm hcm5
        go_upto_block 2 with (with_reducible refine (pick_natO _ _ _ (by omega) (by omega)).mono ?_; rintro e w' ⟨wh, hwh, rfl, rfl⟩)
        have ex : Whole (wr.alloc (.cells #[.int .i64 y0, .int .i64 y1, .int .i64 y2, .int .i64 y3, .bool y4, .slice A5 len5 cap5] 92)) wr.heap.size 92 #[.int .i64 y0, .int .i64 y1, .int .i64 y2, .int .i64 y3, .bool y4, .slice A5 len5 cap5] := whole_at _ _ rfl rfl
        have hka : Kp (fun _ => False) wr (wr.alloc (.cells #[.int .i64 y0, .int .i64 y1, .int .i64 y2, .int .i64 y3, .bool y4, .slice A5 len5 cap5] 92)) := (Kp.refl _ wr).alloc _
        have et := Hos.out.same hka
        have ei := hin2.kp hka
        generalize wr.alloc (.cells #[.int .i64 y0, .int .i64 y1, .int .i64 y2, .int .i64 y3, .bool y4, .slice A5 len5 cap5] 92) = wx at ex et ei ⊢
        generalize wr.heap.size = gx at ex ⊢
        have Et := Lib.hid et
        have Ei := Lib.hid ei
        have Ex := Lib.hid ex
        have x1 := ex.cell 1
        have x2 := ex.cell 2
        have x5 := ex.cell 5
        have hxl := ex.lt
        simp at x1 x2 x5
        clear hu0 hu1 hu2 hu3 hu4 hu5 hka hin2 et ei ex
        go_cut [5, 8] (fun s5 s8 wx => ∃ (now' : Nat) (next' : Int), now' ≤ k + 1 ∧ s5 = .int .i64 now' ∧ next' ≤ 3 * (k + 1) ∧ Mid2 W wx l mb s8 T next')
        case first =>
          by_cases hw : wh = 0
          · have hwb : ((wh : Int) == 0) = true := by simp [hw]
            clear hw
            as_aux_lemma =>
              have hkd : Kp (fun _ => False) wx wx.drew := (Kp.refl _ wx).drew
              have Etd := Lib.hid (Et.out.same hkd)
              have Eid := Lib.hid (Ei.out.kp hkd)
              clear hkd
              go_wp2_with fail
              go_region_with (first
                | (go_at_call 42; refine (l_next Etd.out.led).mono ?_; rintro e w' ⟨rfl, rfl⟩)
                | (go_at_call 41; refine (runs_any Eid.out hlen5 (by omega) (by omega)).mono ?_; rintro e w1 ⟨vr, rs, rfl, hrl, hrr, hkr⟩; obtain ⟨Ar, cr, rfl⟩ := hrr.form; have Hrr := Lib.hid hrr; have Hkr := Lib.hid hkr; clear hrr hkr)
                | (go_at_call 37; refine (os_ack (Etd.out.same Hkr.out) Etd.out Hrr.out hrl htop0 htop1 (by omega) (by omega)).mono ?_; rintro e w2 ⟨r, en, p, top2, rfl, hbad, ⟨A2, n2, rfl⟩, hg, ht0, ht1, vz', ho⟩; have Hbad := Lib.hid hbad; have Hg := Lib.hid hg; have Ho := Lib.hid ho; clear hbad hg ho))
              all_goals
                by_cases hen : en = 0
                · subst hen
                  go_wp2_with fail
                  go_meet
                  exact ⟨now, next, by omega, rfl, by omega, zs, p, top, top2, vz', Honce.out, ht0, ht1, ⟨_, _, rfl⟩, Hg.out, Ho.out⟩
                · have hnil := (Hbad.out hen).2
                  have Hnil := Lib.hid hnil
                  have hl0 : (zs.filter p).length = 0 := by rw [hnil]; rfl
                  have Hl0 := Lib.hid hl0
                  have Hg0 : Hid (Got W w2 mb (.slice A2 0 n2) (zs.filter p)) := Lib.hid (by have := Hg.out; rw [hl0] at this; exact this)
                  have hen2 : (en == 0) = false := by simp [hen]
                  clear hnil hen
                  go_wp2_with fail
                  all_goals
                    go_meet
                    exact ⟨now, next, by omega, rfl, by omega, zs, p, top, top2, vz', Honce.out, ht0, ht1, ⟨A2, n2, by rw [Hl0.out]⟩, Hg0.out, Ho.out⟩
          · by_cases hw1 : wh = 1
            · subst hw1
              as_aux_lemma =>
                go_wp2_with fail
                with_reducible refine (pick_natO _ _ _ (by omega) (by omega)).mono ?_
                rintro e w' ⟨q, hq, rfl, rfl⟩
                go_wp2_with fail
                with_reducible refine (os_lose Et.out now q htop0 htop1 (by omega) (by omega) (by omega)).mono ?_
                rintro e w2 ⟨r, rfl, ⟨A2, n2, rfl⟩, hg, vz', ho⟩
                have Hg := Lib.hid hg
                have Ho := Lib.hid ho
                clear hg ho
                obtain ⟨xs, hxs⟩ : ∃ xs, xs = zs.filter (lostS top (now : Int) (q : Int)) := ⟨_, rfl⟩
                rw [← hxs] at Hg ⊢
                have Hxs := Lib.hid hxs
                clear hxs
                generalize hxn : xs.length = xn at *
                have Hxn := Lib.hid hxn
                have hxb : xn ≤ 549755813888 := by
                  have h1 := List.length_filter_le (lostS top (now : Int) (q : Int)) zs
                  rw [← Hxs.out, hxn] at h1
                  omega
                clear hxn
                go_wp2_with fail
                go_loopw [70] (fun vi wr => ∃ i : Nat, i ≤ xn ∧ vi = .int .i64 i ∧ Kp (fun _ => False) w2 wr) (fun vi _ => xn - (intOf vi).toNat)
                case atStart => exact ⟨0, by omega, rfl, Kp.refl _ _⟩
                case round =>
                  obtain ⟨i, hix, rfl, hkp⟩ := hrel
                  have Hkp := Lib.hid hkp
                  clear hkp
                  by_cases hil : i < xn
                  · obtain ⟨b2, o2, c2, hv, _, hb2, _, _, _, hcell⟩ := Hg.out.1.full (by rw [Hxn.out]; omega)
                    cases hv
                    obtain ⟨z, hzi⟩ : ∃ z, xs[i]? = some z := ⟨_, List.getElem?_eq_getElem (by rw [Hxn.out]; exact hil)⟩
                    have e0 := hcell (i * 4) _ (ss0 hzi)
                    have e1 := hcell (i * 4 + 1) _ (ss1 hzi)
                    have e2 := hcell (i * 4 + 2) _ (ss2 hzi)
                    have e3 := hcell (i * 4 + 3) _ (ss3 hzi)
                    rw [← Hkp.out.cell (p := ⟨b2, _, none⟩) hb2 (fun h => h)] at e0 e1 e2 e3
                    rw [← Nat.add_assoc] at e1 e2 e3
                    have hlost : z.1 < top - 1 := by
                      have hm := List.mem_of_getElem? hzi
                      rw [Hxs.out] at hm
                      have := (List.mem_filter.1 hm).2
                      simp only [lostS, Bool.and_eq_true, decide_eq_true_eq] at this
                      exact this.1
                    have hbw2 := Nat.lt_of_lt_of_le hb2 Hkp.out.size
                    clear hcell hzi
                    obtain ⟨z1, z2, z3⟩ := z
                    dsimp only at e0 e1 e2 e3 hlost
                    have hka : Kp (fun _ => False) wr (wr.alloc (.cells #[.int .i64 z1, .int .i64 z2, .bool z3, .slice none 0 0] 80)) := (Kp.refl _ wr).alloc _
                    have hxw : Whole (wr.alloc (.cells #[.int .i64 z1, .int .i64 z2, .bool z3, .slice none 0 0] 80)) wr.heap.size 80 #[.int .i64 z1, .int .i64 z2, .bool z3, .slice none 0 0] := Whole.new _ _ _
                    go_upto_region 21 with (fail)
                    generalize wr.alloc (.cells #[.int .i64 z1, .int .i64 z2, .bool z3, .slice none 0 0] 80) = w3 at hka hxw ⊢
                    have c0 := hxw.cell 0
                    simp at c0
                    have Hka := Lib.hid (Hkp.out.trans hka)
                    have HT : Hid (∀ nd : Nat, Calls Try.prog 43 #[.pointer (some ⟨l, 0, none⟩)] (w3.drewN nd) fun e w' => e = .returned (.int .i64 (top - 1)) ∧ w' = w3.drewN nd) := Lib.hid (fun nd => (l_acked ((Ho.out.same (Hkp.out.trans hka)).same ((Kp.refl _ _).drewN nd)).led htop0 (by omega)).mono fun e w' ⟨he, hw⟩ => ⟨he, hw.symm⟩)
                    clear hka hxw e0 e1 e2 e3
                    generalize wr.heap.size = bx at *
                    go_wp2_with fail
                    go_quiet ((go_at_call 43; exact Calls.quiet_of_same (HT.out _)))
                    all_goals
                      go_wp2_with fail
                      go_roundw
                      case rel => exact ⟨i + 1, by omega, by go_num, Hka.out.drewN _⟩
                      case measure => simp [intOf]; omega
                  · obtain rfl : i = xn := by omega
                    go_wp2_with fail
                    go_meet
                    refine ⟨now, next, by omega, rfl, by omega, zs, lostS top (now : Int) (q : Int), top, top, vz', Honce.out, htop0, htop1, ⟨A2, n2, by rw [← Hxs.out, Hxn.out]⟩, by rw [← Hxs.out]; exact Hg.out.same Hkp.out, Ho.out.same Hkp.out⟩
            · have hwb : ((wh : Int) == 0) = false := by simp [hw]
              have hwb1 : ((wh : Int) == 1) = false := by simp; omega
              clear hw hw1
              as_aux_lemma =>
                have hkd : Kp (fun _ => False) wx wx.drew := (Kp.refl _ wx).drew
                have Etd := Lib.hid (Et.out.same hkd)
                clear hkd
                go_wp2_with fail
                go_region_with (first
                  | (go_at_call 42; refine (l_next Etd.out.led).mono ?_; rintro e w' ⟨rfl, rfl⟩)
                  | (go_at_call 13; refine (pick_natO _ _ _ (by omega) (by omega)).mono ?_; rintro e w' ⟨q, hq, rfl, rfl⟩)
                  | (go_at_call 44; refine (sent_any _ next _ _ (1 + q) (by rw [IntWalk.i64_in (next + 1) (by omega), IntWalk.i64_in _ (by omega)]; omega) (by omega) (by omega) (by omega)).mono ?_; rintro e w1 ⟨vs, rfl, hrs, hks⟩; have Hrs := Lib.hid hrs; have Hks := Lib.hid hks; clear hrs hks)
                  | (go_at_call 36; refine (os_put Etd.out Hks.out Hrs.out (by omega) (by omega) (by omega) (by omega)).mono ?_; rintro e w2 ⟨rfl, vz', ho⟩; have Ho := Lib.hid ho; clear ho))
                all_goals
                  go_wp2_with fail
                  go_meet
                  have f1 : ((zs ++ sentS next (1 + q) ((now : Int) + 1)).filter fun _ => !false) = zs ++ sentS next (1 + q) ((now : Int) + 1) := List.filter_eq_self.2 (fun _ _ => rfl)
                  have f0 : (zs ++ sentS next (1 + q) ((now : Int) + 1)).filter (fun _ => false) = [] := List.filter_eq_nil_iff.2 (fun _ _ => by simp)
                  exact ⟨now + 1, next + ((1 + q : Nat) : Int), by omega, by go_num, by omega, zs ++ sentS next (1 + q) ((now : Int) + 1), fun _ => false, top, top, vz', Honce.out.more (1 + q) ((now : Int) + 1) (by omega), htop0, by omega, ⟨none, 0, by rw [f0]; rfl⟩, by rw [f0]; exact Got.nil _ _ _, by rw [f1]; exact Ho.out⟩
        case rest =>
          obtain ⟨now', next', hn', rfl, hnx', zsA, p, top0, top', vz', hA, ht0, ht1, ⟨Ax, nx, rfl⟩, hg, ho⟩ := hcut
          generalize wc = wk at *
          have hnd2 := tellS_nodup (zsA.filter p) T Hnd.out (hA.asc.sublist List.filter_sublist) (fun z hz => hA.dis z (List.mem_filter.1 hz).1)
          have hpart := hA.part p ht0 ht1
          have hcntA := hA.cnt
          have hxr : ∀ z ∈ zsA.filter p, 0 ≤ z.1 ∧ z.1 < next' ∧ z.1 ∉ T := fun z hz => ⟨(hA.rng z (List.mem_filter.1 hz).1).1, (hA.rng z (List.mem_filter.1 hz).1).2, hA.dis z (List.mem_filter.1 hz).1⟩
          have hasc : (zsA.filter p).Pairwise (fun a b => a.1 < b.1) := hA.asc.sublist List.filter_sublist
          have hxl := List.length_filter_le p zsA
          generalize zsA.filter (fun z => !p z) = zs2 at *
          generalize zsA.filter p = xs at *
          have Hnd2 := Lib.hid hnd2
          have Hpart := Lib.hid hpart
          have Hxr := Lib.hid hxr
          have Hasc := Lib.hid hasc
          have Hg := Lib.hid hg
          have Ho := Lib.hid ho
          clear hnd2 hpart hxr hasc hg ho hA Et Ei Ex Hos Honce x1 x2 x5
          generalize hxn : xs.length = xn at *
          have Hxn := Lib.hid hxn
          clear hxn
          go_wp2_with fail
          go_loopw [81] (fun vi wr => ∃ i : Nat, i ≤ xn ∧ vi = .int .i64 i ∧ ToldAt wr mb (tellS (xs.take i) T) ∧ Kp (fun k => k = mb) wk wr) (fun vi _ => xn - (intOf vi).toNat)
          case atStart => exact ⟨0, by omega, rfl, Ho.out.map, Kp.refl _ _⟩
          case round =>
            obtain ⟨i, hix, rfl, htm, hkp⟩ := hrel
            by_cases hil : i < xn
            · obtain ⟨b2, o2, c2, hv, _, hb2, _, _, _, hcell⟩ := Hg.out.1.full (by rw [Hxn.out]; omega)
              cases hv
              obtain ⟨z, hzi⟩ : ∃ z, xs[i]? = some z := ⟨_, List.getElem?_eq_getElem (by rw [Hxn.out]; exact hil)⟩
              have hbm : b2 ≠ mb := Hg.out.2 b2 rfl
              have e0 := hcell (i * 4) _ (ss0 hzi)
              have e1 := hcell (i * 4 + 1) _ (ss1 hzi)
              have e2 := hcell (i * 4 + 2) _ (ss2 hzi)
              have e3 := hcell (i * 4 + 3) _ (ss3 hzi)
              rw [← hkp.cell (p := ⟨b2, _, none⟩) hb2 hbm] at e0 e1 e2 e3
              rw [← Nat.add_assoc] at e1 e2 e3
              have hzr := Hxr.out z (List.mem_of_getElem? hzi)
              have hnot : z.1 ∉ tellS (xs.take i) T := fun hm => by
                rcases (tellS_mem _ _ _).1 hm with hm | ⟨y, hy, he⟩
                · exact hzr.2.2 hm
                · obtain ⟨j, hj, rfl⟩ := List.getElem_of_mem hy
                  rw [List.length_take] at hj
                  rw [List.getElem_take] at he
                  obtain ⟨hil', hzi'⟩ := List.getElem?_eq_some_iff.1 hzi
                  have := List.pairwise_iff_getElem.1 Hasc.out j i (by omega) hil' (by omega)
                  rw [hzi'] at this
                  omega
              have hprev : 0 < i → ∃ zp : St, w_prev wk b2 o2 i zp ∧ zp.1 < z.1 := fun h0i => by
                obtain ⟨hil', hzi'⟩ := List.getElem?_eq_some_iff.1 hzi
                refine ⟨xs[i - 1]'(by omega), hcell ((i - 1) * 4) _ (ss0 (List.getElem?_eq_getElem (by omega))), ?_⟩
                have := List.pairwise_iff_getElem.1 Hasc.out (i - 1) i (by omega) hil' (by omega)
                rw [hzi'] at this
                exact this
              have Hzi := Lib.hid hzi
              have hTl : (tellS (xs.take i) T).length ≤ 1099511627776 := by rw [tellS_len, List.length_take]; omega
              have Hkp := Lib.hid hkp
              have hbw2 := Nat.lt_of_lt_of_le hb2 hkp.size
              clear hcell hzi hkp
              obtain ⟨z1, z2, z3⟩ := z
              dsimp only at e0 e1 e2 e3 hzr hnot hprev
              have hka : Kp (fun _ => False) wr (wr.alloc (.cells #[.int .i64 z1, .int .i64 z2, .bool z3, .slice none 0 0] 80)) := (Kp.refl _ wr).alloc _
              have hxw : Whole (wr.alloc (.cells #[.int .i64 z1, .int .i64 z2, .bool z3, .slice none 0 0] 80)) wr.heap.size 80 #[.int .i64 z1, .int .i64 z2, .bool z3, .slice none 0 0] := Whole.new _ _ _
              have hmlt : mb < wr.heap.size := World.ownsMap.lt htm
              go_upto_region 27 with (fail)
              generalize wr.alloc (.cells #[.int .i64 z1, .int .i64 z2, .bool z3, .slice none 0 0] 80) = w3 at hka hxw ⊢
              have ht3 := htm.kp hka (fun h => h)
              have hl3 := ht3.look z1 (by omega) (by omega)
              rw [if_neg hnot] at hl3
              obtain ⟨w4, hu4, ht4, hg4⟩ := ht3.tell z1 (by omega) (by omega) hTl
              have hbx : wr.heap.size ≠ mb := by omega
              have hk4 : Kp (fun k => k = mb) w3 w4 := Kp.of_grown hg4 (fun i hi _ => (Option.some.inj hi).symm)
              have c0 := hxw.cell 0
              simp at c0
              have d0 := (hk4.whole hxw hbx).cell 0
              simp at d0
              have hl4 : ∀ nd : Nat, (Instr.lookup 90 (.map (some mb)) (.int .i64 z1) false).run Try.prog (w4.drewN nd) = .ok (.int .i64 1) (w4.drewN nd) := fun nd => by
                have := (ht4.kp ((Kp.refl (fun _ => False) w4).drewN nd) (fun h => h)).look z1 (by omega) (by omega)
                rw [if_pos (by simp)] at this
                exact this
              have Hk4 := Lib.hid ((Hkp.out.trans hka.no).trans hk4)
              have Ht4 := Lib.hid ht4
              clear hka hxw htm ht3 ht4 hg4 hk4 e0 e1 e2 e3 hnot
              generalize wr.heap.size = bx at *
              by_cases hi0 : i = 0
              · subst hi0
                go_wp2_with fail
                go_quiet (fail)
                all_goals
                  go_wp2_with fail
                  go_roundw
                  case rel => exact ⟨0 + 1, by omega, by go_num, by rw [takeS Hzi.out, tellS_snoc]; exact Ht4.out.kp ((Kp.refl (fun _ => False) _).drewN _) (fun h => h), Hk4.out.drewN _⟩
                  case measure => simp [intOf]; omega
              · obtain ⟨zp, hzp, hzl⟩ := hprev (by omega)
                have p0 := (Hk4.out.cell (p := ⟨b2, o2 + (i - 1) * 4, none⟩) hb2 hbm).trans hzp
                have hi1 : IntKind.i64.wrap ((i : Int) - 1) = (i : Int) - 1 := IntWalk.i64_in _ (by omega)
                have hi2 : ((i : Int) - 1).toNat = i - 1 := by omega
                have hi3 : (0 : Int) ≤ (i : Int) - 1 := by omega
                have hi4 : (i : Int) - 1 < (xs.length : Int) := by omega
                have hi5 : (0 : Int) < (i : Int) := by omega
                have hd5 : decide ((0 : Int) < (i : Int)) = true := decide_eq_true hi5
                have hd6 : decide (0 < i) = true := decide_eq_true (by omega)
                have hge : decide (z1 ≤ zp.1) = false := decide_eq_false (by omega)
                go_wp2_with fail
                go_quiet (fail)
                all_goals
                  go_wp2_with fail
                  go_roundw
                  case rel => exact ⟨i + 1, by omega, by go_num, by rw [takeS Hzi.out, tellS_snoc]; exact Ht4.out.kp ((Kp.refl (fun _ => False) _).drewN _) (fun h => h), Hk4.out.drewN _⟩
                  case measure => simp [intOf]; omega
            · obtain rfl : i = xn := by omega
              have hta : xs.take i = xs := List.take_of_length_le (by rw [Hxn.out]; omega)
              rw [hta] at htm
              have Hend := Lib.hid (Ho.out.told hmW hkp htm)
              clear htm hkp hta
              go_wp2_with fail
              go_roundw
              case rel => exact ⟨k + 1, now', zs2, tellS xs T, next', top', vz', by omega, by omega, by go_num, rfl, by omega, Hnd2.out, Hpart.out, Hend.out⟩
              case measure => simp [intOf]; omega
    · have hke : ¬ k < len := hlt
      clear hlt
      have hpart := Honce.out.part (fun _ => true) htop0 htop1
      rw [List.filter_eq_self.2 (fun _ _ => rfl), show (zs.filter fun _ => !true) = [] from List.filter_eq_nil_iff.2 (fun _ _ => by simp)] at hpart
      have hnd2 := tellS_nodup zs T Hnd.out Honce.out.asc Honce.out.dis
      have hzr : ∀ z ∈ zs, 0 ≤ z.1 ∧ z.1 < next ∧ z.1 ∉ T := fun z hz => ⟨(Honce.out.rng z hz).1, (Honce.out.rng z hz).2, Honce.out.dis z hz⟩
      have hel : zs.filter (fun z => z.2.2) = zs := List.filter_eq_self.2 (fun z hz => Honce.out.el z hz)
      have Hpart := Lib.hid hpart
      have Hnd2 := Lib.hid hnd2
      have Hzr := Lib.hid hzr
      have Hasc := Lib.hid Honce.out.asc
      have hF := l_flight Hos.out.led (by omega)
      rw [hel] at hF
      have HF := Lib.hid hF
      clear hpart hnd2 hzr hel hF
      generalize hzl : zs.length = zn at *
      have Hzl := Lib.hid hzl
      clear hzl
      go_wp2_with fail
      with_reducible refine (HF.out).mono ?_
      rintro e w1 ⟨rfl, hk1⟩
      have h1 := Hos.out.same hk1
      go_wp2_with fail
      with_reducible refine (os_take h1 (by rw [Hzl.out]; omega)).mono ?_
      rintro e wk ⟨r, rfl, ⟨Ax, nx, rfl⟩, hg, vz', ho⟩
      rw [Hzl.out] at hg ⊢
      have Hg := Lib.hid hg
      have Ho := Lib.hid ho
      clear hg ho h1 hk1 Hos HF
      go_wp2_with fail
      go_loopw [120] (fun vi wr => ∃ i : Nat, i ≤ zn ∧ vi = .int .i64 i ∧ ToldAt wr mb (tellS (zs.take i) T) ∧ Kp (fun k => k = mb) wk wr) (fun vi _ => zn - (intOf vi).toNat)
      case atStart => exact ⟨0, by omega, rfl, Ho.out.map, Kp.refl _ _⟩
      case round =>
        obtain ⟨i, hix, rfl, htm, hkp⟩ := hrel
        by_cases hil : i < zn
        · obtain ⟨b2, o2, c2, hv, _, hb2, _, _, _, hcell⟩ := Hg.out.1.full (by rw [Hzl.out]; omega)
          cases hv
          obtain ⟨z, hzi⟩ : ∃ z, zs[i]? = some z := ⟨_, List.getElem?_eq_getElem (by rw [Hzl.out]; exact hil)⟩
          have hbm : b2 ≠ mb := Hg.out.2 b2 rfl
          have e0 := hcell (i * 4) _ (ss0 hzi)
          have e1 := hcell (i * 4 + 1) _ (ss1 hzi)
          have e2 := hcell (i * 4 + 2) _ (ss2 hzi)
          have e3 := hcell (i * 4 + 3) _ (ss3 hzi)
          rw [← hkp.cell (p := ⟨b2, _, none⟩) hb2 hbm] at e0 e1 e2 e3
          rw [← Nat.add_assoc] at e1 e2 e3
          have hzr := Hzr.out z (List.mem_of_getElem? hzi)
          have hnot : z.1 ∉ tellS (zs.take i) T := fun hm => by
            rcases (tellS_mem _ _ _).1 hm with hm | ⟨y, hy, he⟩
            · exact hzr.2.2 hm
            · obtain ⟨j, hj, rfl⟩ := List.getElem_of_mem hy
              rw [List.length_take] at hj
              rw [List.getElem_take] at he
              obtain ⟨hil', hzi'⟩ := List.getElem?_eq_some_iff.1 hzi
              have := List.pairwise_iff_getElem.1 Hasc.out j i (by omega) hil' (by omega)
              rw [hzi'] at this
              omega
          have Hzi := Lib.hid hzi
          have hTl : (tellS (zs.take i) T).length ≤ 1099511627776 := by rw [tellS_len, List.length_take]; omega
          have Hkp := Lib.hid hkp
          have hbw2 := Nat.lt_of_lt_of_le hb2 hkp.size
          clear hcell hzi hkp
          obtain ⟨z1, z2, z3⟩ := z
          dsimp only at e0 e1 e2 e3 hzr hnot
          have hka : Kp (fun _ => False) wr (wr.alloc (.cells #[.int .i64 z1, .int .i64 z2, .bool z3, .slice none 0 0] 80)) := (Kp.refl _ wr).alloc _
          have hxw : Whole (wr.alloc (.cells #[.int .i64 z1, .int .i64 z2, .bool z3, .slice none 0 0] 80)) wr.heap.size 80 #[.int .i64 z1, .int .i64 z2, .bool z3, .slice none 0 0] := Whole.new _ _ _
          go_upto_region 37 with (fail)
          generalize wr.alloc (.cells #[.int .i64 z1, .int .i64 z2, .bool z3, .slice none 0 0] 80) = w3 at hka hxw ⊢
          have ht3 := htm.kp hka (fun h => h)
          have hl3 := ht3.look z1 (by omega) (by omega)
          rw [if_neg hnot] at hl3
          obtain ⟨w4, hu4, ht4, hg4⟩ := ht3.tell z1 (by omega) (by omega) hTl
          have c0 := hxw.cell 0
          simp at c0
          have Hk4 := Lib.hid ((Hkp.out.trans hka.no).trans (Kp.of_grown hg4 (fun i hi _ => (Option.some.inj hi).symm)))
          have Ht4 := Lib.hid ht4
          clear hka hxw htm ht3 ht4 hg4 e0 e1 e2 e3 hnot
          generalize wr.heap.size = bx at *
          go_wp2_with fail
          go_roundw
          case rel => exact ⟨i + 1, by omega, by go_num, by rw [takeS Hzi.out, tellS_snoc]; exact Ht4.out, Hk4.out⟩
          case measure => simp [intOf]; omega
        · obtain rfl : i = zn := by omega
          have hta : zs.take i = zs := List.take_of_length_le (by rw [Hzl.out]; omega)
          rw [hta] at htm
          have Hos5 := Lib.hid (Ho.out.told hmW hkp htm)
          clear htm hkp hta
          generalize wr = w5 at *
          have Hin : Hid (∀ m : Int, 0 ≤ m → m < next → m ∈ tellS zs T) := Lib.hid (fun m h0 h1 => by
            rcases Hpart.out.cov m h0 h1 with h | ⟨z, hz, _⟩
            · exact h
            · cases hz)
          have hcnt2 : ((tellS zs T).length : Int) = next := by have := Hpart.out.cnt; simpa using this
          go_wp2_with fail
          go_loopw [19] (fun vi wr => ∃ j : Nat, (j : Int) ≤ next ∧ vi = .int .i64 j ∧ wr = w5) (fun vi _ => (next - intOf vi).toNat)
          case atStart => exact ⟨0, by omega, rfl, rfl⟩
          case round =>
            obtain ⟨j, hj, rfl, hw5⟩ := hrel
            subst hw5
            go_wp2_with fail
            with_reducible refine (l_next Hos5.out.led).mono ?_
            rintro e w6 ⟨rfl, rfl⟩
            by_cases hjl : (j : Int) < next
            · have hl3 := Hos5.out.map.look (j : Int) (by omega) (by omega)
              rw [if_pos (Hin.out _ (by omega) hjl)] at hl3
              go_wp2_with fail
              go_roundw
              case rel => exact ⟨j + 1, by omega, by go_num, trivial⟩
              case measure => simp [intOf]; omega
            · go_wp2_with fail
              with_reducible refine (known_l _).mono ?_
              rintro e w7 ⟨rfl, hb7⟩
              have hk7 : Kp (fun _ => False) wr w7 := ⟨hb7.os, hb7.tape, hb7.output, hb7.size, fun k hk' _ => hb7.block k hk'⟩
              have h7 := Hos5.out.same hk7
              have hml := h7.map.len Hnd2.out
              rw [hcnt2] at hml
              have HN := Lib.hid (l_next h7.led)
              have HF := Lib.hid (l_flight h7.led (by simp))
              have H7 := Lib.hid h7
              have hzn : (zs.length : Int) = zs.length := rfl
              clear h7 hk7 hb7 hzn
              go_wp2_with fail
              with_reducible refine (HN.out).mono ?_
              rintro e w8 ⟨rfl, rfl⟩
              go_wp2_with fail
              with_reducible refine (HF.out).mono ?_
              rintro e w8 ⟨rfl, hk8⟩
              have Hk8 := Lib.hid hk8
              clear hk8
              go_wp2_with fail
              go_ret
              exact ⟨rfl, (H7.out.kp.trans Hk8.out.no).below (Nat.le_refl _) (fun k hk => hk)⟩
end Go.Proofs.Ytelhnhnbfjamhaa

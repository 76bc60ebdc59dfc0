/-
  argosylaw14.RecvTells: the walk. (printed by src/gen_XRecvTells.py)
-/
import Derived.Test.YtbkpapdbidbhaaaRfK
namespace Go.Proofs.Ytbkpapdbidbhaaa
open Go.RowKit

set_option maxRecDepth 100000 in
set_option maxHeartbeats 60000000 in
theorem RecvTells_any (v : Value) (W : World) (hv : SlArg 23 W v) :
    Calls Try.prog 8 #[v] W fun e w' => e = .returned (.bool true) ∧ Below W.heap.size W w' := by
  obtain ⟨A, len, cap, rfl, hlc, hcm, hreach, hcells⟩ := raw14_rd hv
  unfold maxLen at hcm
  unfold reachBytes at hreach
  have Hc := Lib.hid hcells
  clear hcells hv
  have HN := Lib.hid (h_new 5 W (fun k => k < W.heap.size) (fun k h => h))
  go_enter Try.func8, Try.ntmps8
  go_wp2_with fail
  with_reducible refine (HN.out).mono ?_
  rintro e w1 ⟨g, rfl, hs1, hg1, hk1⟩
  have HS1 := Lib.hid hs1
  have Hk1 := Lib.hid hk1
  have HR := Lib.hid (j_new w1)
  clear hs1 hk1 HN
  go_wp2_with fail
  with_reducible refine (HR.out).mono ?_
  rintro e w2 ⟨r, rfl, hr2, hk2⟩
  have hW1 := Hk1.out.size
  obtain ⟨F2, G2, hs2, hr2', hGF, hF2⟩ : ∃ F2 G2 : Nat → Prop, HasSt w2 F2 g rs0 ∧ HasRf w2 G2 r rs0 ∧ (∀ k, G2 k → F2 k ∧ W.heap.size ≤ k) ∧ (∀ k, k < W.heap.size → F2 k) := ⟨_, _, HS1.out.turn hk2.no, hr2, fun k e => ⟨.inr e, by omega⟩, fun k e => .inl e⟩
  have HS2 := Lib.hid hs2
  have HR2 := Lib.hid hr2'
  have Hk2 := Lib.hid (Hk1.out.trans hk2)
  have HGF := Lib.hid hGF
  have HF2 := Lib.hid hF2
  have HK := Lib.hid (known14 w2)
  clear hs2 hk2 HR hr2 hr2' hGF hF2 HS1 Hk1
  go_wp2_with fail
  with_reducible refine (HK.out).mono ?_
  rintro e w3 ⟨rfl, hk3⟩
  have HS3 := Lib.hid (HS2.out.no hk3)
  have HR3 := Lib.hid (HR2.out.no hk3)
  have Hk3 := Lib.hid ((Hk2.out.trans hk3).no (S := fun k => ¬ k < W.heap.size))
  clear hk3 HS2 HR2 Hk2 HK
  go_wp2_with fail
  go_loopw [41] (fun vi wr => ∃ (i : Nat) (s : RS) (F G : Nat → Prop), i ≤ len ∧ vi = .int .i64 i ∧ Hid (Jt i s) ∧ Hid (HasSt wr F g s) ∧ Hid (HasRf wr G r s) ∧ Hid (∀ k, G k → F k ∧ W.heap.size ≤ k) ∧ Hid (∀ k, k < W.heap.size → F k) ∧ Hid (Kp (fun k => ¬ k < W.heap.size) W wr))
    (fun vi _ => len - (intOf vi).toNat)
  case atStart => exact ⟨0, rs0, F2, G2, by omega, rfl, Lib.hid jt_start, HS3, HR3, HGF, HF2, Hk3⟩
  case round =>
    obtain ⟨i, s, F, G, hi, rfl, HJ, HS, HRf, HG, HF, Hkp⟩ := hrel
    by_cases hlt : i < len
    · have t0 : (i : Int) < (len : Int) := by omega
      have t1 : (0 : Int) ≤ (i : Int) := by omega
      have hWr := Hkp.out.size
      rcases Hc.out with h0 | ⟨blk, off, rfl, hblk, hcell⟩
      · omega
      obtain ⟨u0, e0, y0, rfl, ya0, yb0⟩ := hcell i hlt 0 RdI rfl
      obtain ⟨u1, e1, y1, rfl, ya1, yb1⟩ := hcell i hlt 1 RdI rfl
      obtain ⟨u2, e2, y2, rfl, ya2, yb2⟩ := hcell i hlt 2 RdI rfl
      obtain ⟨u3, e3, y3, rfl, ya3, yb3⟩ := hcell i hlt 3 RdI rfl
      obtain ⟨u4, e4, y4, rfl⟩ := hcell i hlt 4 RdB rfl
      obtain ⟨u5, e5, A5, d5, c5, rfl, hbs5, hlc5, hcm5, _, hA5, hl5⟩ := hcell i hlt 5 (RdBy W) rfl
      unfold reachBytes at hl5
      clear hcell
      have hnb : ¬ ¬ blk < W.heap.size := fun h => h hblk
      rw [← Hkp.out.cell (p := ⟨blk, _, none⟩) hblk hnb] at e0 e1 e2 e3 e4 e5
      simp only [List.length_cons, List.length_nil, Nat.zero_add, Nat.add_zero, Nat.reduceAdd] at e0 e1 e2 e3 e4 e5
      have hblr := Nat.lt_of_lt_of_le hblk hWr
      have Hbs5 := Lib.hid hbs5
      generalize hd5 : d5.length = d5l at *
      have Hd5 := Lib.hid hd5
      clear hd5 hbs5
      have hxw : Whole (wr.alloc (.cells #[.int .i64 y0, .int .i64 y1, .int .i64 y2, .int .i64 y3, .bool y4, .slice A5 d5l c5] 31)) wr.heap.size 31 #[.int .i64 y0, .int .i64 y1, .int .i64 y2, .int .i64 y3, .bool y4, .slice A5 d5l c5] := Whole.new _ _ _
      have hka : Kp (fun _ => False) wr (wr.alloc (.cells #[.int .i64 y0, .int .i64 y1, .int .i64 y2, .int .i64 y3, .bool y4, .slice A5 d5l c5] 31)) := (Kp.refl _ wr).alloc _
      obtain ⟨F1, hT1, hF1x⟩ : ∃ F1 : Nat → Prop, Two (wr.alloc (.cells #[.int .i64 y0, .int .i64 y1, .int .i64 y2, .int .i64 y3, .bool y4, .slice A5 d5l c5] 31)) W.heap.size wr.heap.size F1 G g r s ∧ F1 wr.heap.size :=
        ⟨_, ⟨HS.out.turn hka.no, HRf.out.no hka, fun k e => ⟨.inl (HG.out k e).1, (HG.out k e).2, fun h => by have := HRf.out.old k e; omega⟩, fun k e => .inl (HF.out k e), .inr ⟨Nat.le_refl _, by simp⟩⟩, .inr ⟨Nat.le_refl _, by simp⟩⟩
      have HT1 := Lib.hid hT1
      have HF1x := Lib.hid hF1x
      have Hk1 := Lib.hid (Hkp.out.trans hka.no)
      have Hxw := Lib.hid hxw
      have hB1 : W.heap.size ≤ wr.heap.size := hWr
      clear hka hxw hT1 hF1x HS HRf HG HF
      go_upto_region 8 with (fail)
      generalize wr.alloc (.cells #[.int .i64 y0, .int .i64 y1, .int .i64 y2, .int .i64 y3, .bool y4, .slice A5 d5l c5] 31) = w1 at *
      have hB2 : W.heap.size ≤ w1.heap.size := Hk1.out.size
      generalize wr.heap.size = xb at *
      have hxl := Hxw.out.lt
      have z0 := Hxw.out.cell 0
      simp at z0
      obtain ⟨c, hc⟩ := Int.eq_ofNat_of_zero_le (pickF_lo y0 10 (by omega))
      have hc2 := pickF_hi y0 10 (by omega)
      have HPw := Lib.hid (fun w => pick_any y0 10 w (by omega) (by omega))
      rw [hc] at HPw hc2
      have hc3 : c < 10 := by omega
      clear hc hc2
      have Hxb : Hid (xb < w1.heap.size) := Lib.hid hxl
      go_wp2_with fail
      with_reducible refine (HPw.out _).mono ?_
      rintro e w' ⟨rfl, rfl⟩
      clear z0 HPw e0 e1 e2 e3 e4 e5
      go_upto_block 2 with (fail)
      go_cut [] (fun wx => ∃ (s' : RS) (F' G' : Nat → Prop), Hid (Jt (i + 1) s') ∧ Hid (Two wx W.heap.size xb F' G' g r s') ∧ Hid (Whole wx xb 31 #[.int .i64 y0, .int .i64 y1, .int .i64 y2, .int .i64 y3, .bool y4, .slice A5 d5l c5]) ∧ Hid (Kp (fun k => ¬ k < W.heap.size) w1 wx))
      case first =>
        have hgl1 := HT1.out.st.lt.1
        have hrl1 := HT1.out.rf.lt.1
        have hok : s.Ok := HT1.out.st.ok
        have Hok := Lib.hid hok
        have hfew := HJ.out.few hok
        have HkF : Hid (∀ (w w' : World), Kp (fun k => ¬ F1 k) w w' → Kp (fun k => ¬ k < W.heap.size) w w') := Lib.hid (fun w w' hk => hk.mono (S' := fun k => ¬ k < W.heap.size) (fun k _ e h => e (HT1.out.low k h)))
        have HkG : Hid (∀ (w w' : World), Kp G w w' → Kp (fun k => ¬ k < W.heap.size) w w') := Lib.hid (fun w w' hk => hk.mono (S' := fun k => ¬ k < W.heap.size) (fun k _ e h => by have := (HT1.out.sub k e).2.1; omega))
        have hto := hok.told
        have htp := hok.top
        have hJt := HJ.out.told
        clear hok
        by_cases hc012 : c < 3
        · -- Take
          have z1 := Hxw.out.cell 1
          simp at z1
          obtain ⟨q, hq⟩ := Int.eq_ofNat_of_zero_le (pickF_lo y1 250 (by omega))
          have hq2 := pickF_hi y1 250 (by omega)
          have HPq := Lib.hid (fun w => pick_any y1 250 w (by omega) (by omega))
          rw [hq] at HPq hq2
          have hq3 : q < 250 := by omega
          clear hq hq2
          obtain ⟨t, ht⟩ : ∃ t, t = toN s (q : Int) := ⟨_, rfl⟩
          have htl := to_le Hok.out (q : Int)
          rw [← ht] at htl
          have hT := h_take HT1.out.st (q : Int) (by omega) (by omega) t ht
          have HT := Lib.hid hT
          have Ht := Lib.hid ht
          clear hT ht
          have hbl : ((s.d.drop s.taken).take (t - s.taken)).length = t - s.taken := by rw [List.length_take, List.length_drop]; omega
          have Hbl := Lib.hid hbl.symm
          clear hbl
          rcases (show c = 0 ∨ c = 1 ∨ c = 2 by omega) with rfl | rfl | rfl
          all_goals
            as_aux_lemma =>
              go_upto_region 19 with (fail)
              go_wp2_with fail
              with_reducible refine (HPq.out _).mono ?_
              rintro e w' ⟨rfl, rfl⟩
              go_wp2_with fail
              with_reducible refine (HT.out).mono ?_
              rintro e w2 ⟨vr, rfl, hr2, hs2, hk2⟩
              obtain ⟨A2, c2, rfl⟩ := hr2.form
              have HRf2 := Lib.hid (HT1.out.step1 hk2)
              have HS2 := Lib.hid hs2
              have Hr2 := Lib.hid hr2
              have Hk2 := Lib.hid hk2
              have HTj := Lib.hid (j_take HRf2.out Hok.out q (by omega) t Ht.out)
              clear hr2 hs2 hk2 HT
              go_wp2_with fail
              with_reducible refine (HTj.out).mono ?_
              rintro e w4 ⟨vr4, rfl, hr4, hrf4, hk4⟩
              obtain ⟨A4, c4, rfl⟩ := hr4.form
              have HT4 := Lib.hid (show Two w4 W.heap.size xb _ G g r (takeS s t) from ⟨HS2.out.turn (hk4.mono (fun k _ e => .inl (HT1.out.sub k e).1)), hrf4, fun k e => ⟨.inl (.inl (HT1.out.sub k e).1), (HT1.out.sub k e).2⟩, fun k e => .inl (.inl (HT1.out.low k e)), .inl (.inl HT1.out.x)⟩)
              have Hx4 := Lib.hid (hk4.whole (Hk2.out.whole Hxw.out (fun h => h HT1.out.x)) (fun e => (HT1.out.sub _ e).2.2 rfl))
              have Hk4 := Lib.hid ((HkF.out _ _ Hk2.out).trans (HkG.out _ _ hk4))
              have hr24 := Hr2.out.kp hk4 (fun k hk e => by have := (Hr2.out.lt k hk).1; have := HT1.out.rf.old k e; omega)
              have HO := Lib.hid (h_over HT4.out.st)
              obtain ⟨sB, hsB⟩ : ∃ sB : ByteArray, (⟨((s.d.drop s.taken).take (t - s.taken)).toArray⟩ : ByteArray) = sB := ⟨_, rfl⟩
              have cv1 := conv_any Hbl.out hr24
              have cv2 := conv_any Hbl.out hr4
              rw [hsB] at cv1 cv2
              have HJ4 := Lib.hid (jt_take HJ.out Hok.out q hq3 t Ht.out)
              generalize overN (takeS s t) = ovn at *
              generalize codeN (takeS s t) = cdn at *
              generalize t - s.taken = dx at *
              clear hr4 hrf4 hk4 hr24 hsB HTj HS2 HRf2 Hr2 Hk2 z1
              go_wp2_with fail
              refine (HO.out).mono ?_
              rintro e w5 ⟨rfl, hk5⟩
              have HT5 := Lib.hid (HT4.out.no hk5)
              have Hx5 := Lib.hid (hk5.whole Hx4.out (fun h => h))
              have Hk5 := Lib.hid (Hk4.out.trans hk5.no)
              clear hk5 cv1 cv2 HO
              go_wp2_with fail
              go_meet
              case rel => exact ⟨_, _, G, HJ4, HT5, Hx5, Hk5⟩
        · by_cases hc3' : c = 3
          · subst hc3'
            as_aux_lemma =>
              obtain ⟨tt, htt⟩ : ∃ tt, tt = max s.told (s.rd + 400) := ⟨_, rfl⟩
              have hj1 := HJ.out.dl
              have hj2 := Hok.out.rd
              have hj3 := Hok.out.taken
              have hkd : Kp (fun _ => False) w1 w1.drew := (Kp.refl _ w1).drew
              have HTa := Lib.hid (h_tell (HT1.out.st.no hkd) tt htt (by omega))
              have HJ4 := Lib.hid (jt_tell HJ.out tt htt)
              have Htt := Lib.hid htt
              have Hkd := Lib.hid hkd
              clear hkd htt
              go_upto_region 25 with (fail)
              refine wp_region_held_drew (S := (fun _ => True)) (by kernel_rfl) True.intro (fun hHeld => ?_)
              refine wpAnyH_take (i := 0) (oi := { dst := some 139, op := Op.move (.tmp 3), type := _, pos := _, after := _, guard := _ }) (v := ?_) rfl (by kernel_rfl) (by kernel_rfl) (by kernel_rfl) (fun _ _ _ h => h) (Or.inl ⟨by rfl, ?_⟩) hHeld ?_
              rotate_left
              · intro w99 hSw
                first | (go_simp; done) | (go_simp; with_reducible rfl)
              try simp only [Act.put, List.setIfInBounds_toArray, List.set_cons_zero, List.set_cons_succ]
              refine wpAnyH_take (i := 1) (oi := { dst := some 140, op := Op.nilCheck (.tmp 139), type := _, pos := _, after := _, guard := _ }) (v := ?_) rfl (by kernel_rfl) (by kernel_rfl) (by kernel_rfl) (fun _ _ _ h => h) (Or.inl ⟨by rfl, ?_⟩) hHeld ?_
              rotate_left
              · intro w99 hSw
                first | (go_simp; done) | (go_simp; with_reducible rfl)
              try simp only [Act.put, List.setIfInBounds_toArray, List.set_cons_zero, List.set_cons_succ]
              refine wpAnyH_take (i := 2) (oi := { dst := some 141, op := Op.fieldAddr 45 (.tmp 140) 1, type := _, pos := _, after := _, guard := _ }) (v := ?_) rfl (by kernel_rfl) (by kernel_rfl) (by kernel_rfl) (fun _ _ _ h => h) (Or.inl ⟨by rfl, ?_⟩) hHeld ?_
              rotate_left
              · intro w99 hSw
                first | (go_simp; done) | (go_simp; with_reducible rfl)
              try simp only [Act.put, List.setIfInBounds_toArray, List.set_cons_zero, List.set_cons_succ]
              refine wpAnyH_take (i := 4) (oi := { dst := some 143, op := Op.move (.tmp 4), type := _, pos := _, after := _, guard := _ }) (v := ?_) rfl (by kernel_rfl) (by kernel_rfl) (by kernel_rfl) (fun _ _ _ h => h) (Or.inl ⟨by rfl, ?_⟩) hHeld ?_
              rotate_left
              · intro w99 hSw
                first | (go_simp; done) | (go_simp; with_reducible rfl)
              try simp only [Act.put, List.setIfInBounds_toArray, List.set_cons_zero, List.set_cons_succ]
              refine wpAnyH_take (i := 5) (oi := { dst := some 144, op := Op.nilCheck (.tmp 143), type := _, pos := _, after := _, guard := _ }) (v := ?_) rfl (by kernel_rfl) (by kernel_rfl) (by kernel_rfl) (fun _ _ _ h => h) (Or.inl ⟨by rfl, ?_⟩) hHeld ?_
              rotate_left
              · intro w99 hSw
                first | (go_simp; done) | (go_simp; with_reducible rfl)
              try simp only [Act.put, List.setIfInBounds_toArray, List.set_cons_zero, List.set_cons_succ]
              refine wpAnyH_take (i := 6) (oi := { dst := some 145, op := Op.fieldAddr 58 (.tmp 144) 1, type := _, pos := _, after := _, guard := _ }) (v := ?_) rfl (by kernel_rfl) (by kernel_rfl) (by kernel_rfl) (fun _ _ _ h => h) (Or.inl ⟨by rfl, ?_⟩) hHeld ?_
              rotate_left
              · intro w99 hSw
                first | (go_simp; done) | (go_simp; with_reducible rfl)
              try simp only [Act.put, List.setIfInBounds_toArray, List.set_cons_zero, List.set_cons_succ]
              refine wpAnyH_ready (rs := [3]) (by kernel_rfl) (by simp) (AllReadyH.cons (o := { dst := some 142, op := Op.call { callee := Callee.value (Operand.func 17), args := #[(.tmp 141)], argTypes := #[43] }, type := _, pos := _, after := _, guard := _ }) rfl (fun K hK => ?_) AllReadyH.nil)
              go_simp
              with_reducible refine (HTa.out).mono ?_
              rintro e w' ⟨rfl, hs3, hk3⟩
              go_wp2_with fail
              have hx9 := True.intro
              refine hK.out _ _ hx9 (fun _ => ?_)
              clear hK hHeld
              have hHeld := hx9
              clear hx9
              have HTb := Lib.hid (j_tell (HT1.out.step1 (Hkd.out.no.trans hk3)) Hok.out tt Htt.out)
              generalize w' = wd3 at *
              try simp only [Act.put, List.setIfInBounds_toArray, List.set_cons_zero, List.set_cons_succ]
              refine wpAnyH_ready (rs := [7]) (by kernel_rfl) (by simp) (AllReadyH.cons (o := { dst := some 146, op := Op.call { callee := Callee.value (Operand.func 25), args := #[(.tmp 145)], argTypes := #[56] }, type := _, pos := _, after := _, guard := _ }) rfl (fun K hK => ?_) AllReadyH.nil)
              go_simp
              with_reducible refine (HTb.out).mono ?_
              rintro e w' ⟨rfl, hr7, hk7⟩
              go_wp2_with fail
              have hx9 := True.intro
              refine hK.out _ _ hx9 (fun _ => ?_)
              clear hK hHeld
              have hHeld := hx9
              clear hx9
              generalize w' = wd7 at *
              try simp only [Act.put, List.setIfInBounds_toArray, List.set_cons_zero, List.set_cons_succ]
              refine wpAnyH_take (i := 8) (oi := { dst := some 147, op := Op.binOp BinOp.neq 3 (.tmp 142) (.tmp 146) 3, type := _, pos := _, after := _, guard := _ }) (v := ?_) rfl (by kernel_rfl) (by kernel_rfl) (by kernel_rfl) (fun _ _ _ h => h) (Or.inl ⟨by rfl, ?_⟩) hHeld ?_
              rotate_left
              · intro w99 hSw
                first | (go_simp; done) | (go_simp; with_reducible rfl)
              try simp only [Act.put, List.setIfInBounds_toArray, List.set_cons_zero, List.set_cons_succ]
              refine wpAnyH_done (by kernel_rfl) ?_ _
              have hk03 : Kp (fun k => ¬ F1 k) w1 wd3 := Hkd.out.no.trans hk3
              have HT7 := Lib.hid (show Two wd7 W.heap.size xb _ G g r { s with told := tt } from ⟨hs3.turn (hk7.mono (fun k _ e => (HT1.out.sub k e).1)), hr7, fun k e => ⟨.inl (HT1.out.sub k e).1, (HT1.out.sub k e).2⟩, fun k e => .inl (HT1.out.low k e), .inl HT1.out.x⟩)
              have Hx7 := Lib.hid (hk7.whole (hk03.whole Hxw.out (fun h => h HT1.out.x)) (fun e => (HT1.out.sub _ e).2.2 rfl))
              have Hk7 := Lib.hid ((HkF.out _ _ hk03).trans (HkG.out _ _ hk7))
              have HJ5 : Hid (Jt (i + 1) { s with told := tt }) := HJ4
              clear hs3 hk3 hr7 hk7 hk03 hHeld HTa HTb
              go_wp2_with fail
              go_meet
              case rel => exact ⟨_, _, G, HJ5, HT7, Hx7, Hk7⟩
          · by_cases hc4 : c = 4
            · subst hc4
              as_aux_lemma =>
                have z1 := Hxw.out.cell 1
                simp at z1
                obtain ⟨b2, hb2⟩ : ∃ b2, ((y1.tmod 2) == 0) = b2 := ⟨_, rfl⟩
                cases b2 with
                | false =>
                  go_wp2_with fail
                  go_meet
                  case rel => exact ⟨s, F1, G, Lib.hid (jt_more HJ.out), HT1, Hxw, Lib.hid (Kp.refl _ _)⟩
                | true =>
                  obtain ⟨p2, hp2⟩ := Int.eq_ofNat_of_zero_le (pickF_lo y2 20 (by omega))
                  have hp22 := pickF_hi y2 20 (by omega)
                  have HPp := Lib.hid (fun w => pick_any y2 20 w (by omega) (by omega))
                  rw [hp2] at HPp hp22
                  have hp23 : p2 < 20 := by omega
                  clear hp2 hp22
                  have hw1 : IntKind.i64.wrap ((s.top : Int) + (p2 : Int)) = (s.top : Int) + (p2 : Int) := IntWalk.i64_in _ (by omega)
                  have hw2 : IntKind.i64.wrap ((s.top : Int) + (p2 : Int) - 2) = (s.top : Int) + (p2 : Int) - 2 := IntWalk.i64_in _ (by omega)
                  obtain ⟨e0, he0⟩ : ∃ e0 : Nat, e0 = s.top + p2 - 2 := ⟨_, rfl⟩
                  have hmx : (if (0 : Int) < (s.top : Int) + (p2 : Int) - 2 then (s.top : Int) + (p2 : Int) - 2 else 0) = (e0 : Int) := by split <;> omega
                  have he01 : e0 ≤ 225000000000020 := by omega
                  have He0 := Lib.hid he0
                  clear he0
                  go_upto_region 29 with (fail)
                  go_cut [14] (fun v14 wx => v14 = .int .i64 (e0 : Int) ∧ Hid (Kp (fun _ => False) w1 wx))
                  case first =>
                    as_aux_lemma =>
                      refine wp_region_held_drew (S := (fun w' => Kp (fun _ => False) w1 w')) (by kernel_rfl) (Kp.drew (Kp.refl _ w1)) (fun hHeld => ?_)
                      refine wpAnyH_take (i := 0) (oi := { dst := some 154, op := Op.move (.tmp 4), type := _, pos := _, after := _, guard := _ }) (v := ?_) rfl (by kernel_rfl) (by kernel_rfl) (by kernel_rfl) (fun _ _ _ h => h) (Or.inl ⟨by rfl, ?_⟩) hHeld ?_
                      rotate_left
                      · intro w99 hSw
                        first | (go_simp; done) | (go_simp; with_reducible rfl)
                      try simp only [Act.put, List.setIfInBounds_toArray, List.set_cons_zero, List.set_cons_succ]
                      refine wpAnyH_take (i := 1) (oi := { dst := some 155, op := Op.nilCheck (.tmp 154), type := _, pos := _, after := _, guard := _ }) (v := ?_) rfl (by kernel_rfl) (by kernel_rfl) (by kernel_rfl) (fun _ _ _ h => h) (Or.inl ⟨by rfl, ?_⟩) hHeld ?_
                      rotate_left
                      · intro w99 hSw
                        first | (go_simp; done) | (go_simp; with_reducible rfl)
                      try simp only [Act.put, List.setIfInBounds_toArray, List.set_cons_zero, List.set_cons_succ]
                      refine wpAnyH_take (i := 2) (oi := { dst := some 156, op := Op.fieldAddr 58 (.tmp 155) 3, type := _, pos := _, after := _, guard := _ }) (v := ?_) rfl (by kernel_rfl) (by kernel_rfl) (by kernel_rfl) (fun _ _ _ h => h) (Or.inl ⟨by rfl, ?_⟩) hHeld ?_
                      rotate_left
                      · intro w99 hSw
                        first | (go_simp; done) | (go_simp; with_reducible rfl)
                      try simp only [Act.put, List.setIfInBounds_toArray, List.set_cons_zero, List.set_cons_succ]
                      refine wpAnyH_take (i := 3) (oi := { dst := some 157, op := Op.load 3 (.tmp 156), type := _, pos := _, after := _, guard := _ }) (v := ?_) rfl (by kernel_rfl) (by kernel_rfl) (by kernel_rfl) (fun _ _ _ h => h) (Or.inl ⟨by rfl, ?_⟩) hHeld ?_
                      rotate_left
                      · intro w99 hSw
                        have c5 := (j_cells (HT1.out.rf.no hSw)).2.2.1; have hl5 := Nat.lt_of_lt_of_le hrl1 hSw.size; first | (go_simp; done) | (go_simp; with_reducible rfl)
                      try simp only [Act.put, List.setIfInBounds_toArray, List.set_cons_zero, List.set_cons_succ]
                      refine wpAnyH_take (i := 4) (oi := { dst := some 158, op := Op.fieldAddr 31 (.tmp 6) 2, type := _, pos := _, after := _, guard := _ }) (v := ?_) rfl (by kernel_rfl) (by kernel_rfl) (by kernel_rfl) (fun _ _ _ h => h) (Or.inl ⟨by rfl, ?_⟩) hHeld ?_
                      rotate_left
                      · intro w99 hSw
                        first | (go_simp; done) | (go_simp; with_reducible rfl)
                      try simp only [Act.put, List.setIfInBounds_toArray, List.set_cons_zero, List.set_cons_succ]
                      refine wpAnyH_take (i := 5) (oi := { dst := some 159, op := Op.load 3 (.tmp 158), type := _, pos := _, after := _, guard := _ }) (v := ?_) rfl (by kernel_rfl) (by kernel_rfl) (by kernel_rfl) (fun _ _ _ h => h) (Or.inl ⟨by rfl, ?_⟩) hHeld ?_
                      rotate_left
                      · intro w99 hSw
                        have zx := hSw.whole Hxw.out (fun h => h); have zl := zx.lt; have z2 := zx.cell 2; simp at z2; first | (go_simp; done) | (go_simp; with_reducible rfl)
                      try simp only [Act.put, List.setIfInBounds_toArray, List.set_cons_zero, List.set_cons_succ]
                      refine wpAnyH_ready (rs := [6]) (by kernel_rfl) (by simp) (AllReadyH.cons (o := { dst := some 160, op := Op.call { callee := Callee.value (Operand.func 12), args := #[(.tmp 159), (.const (.int .i64 20))], argTypes := #[3, 3] }, type := _, pos := _, after := _, guard := _ }) rfl (fun K hK => ?_) AllReadyH.nil)
                      go_simp
                      with_reducible refine (HPp.out _).mono ?_
                      rintro e w' ⟨rfl, rfl⟩
                      go_wp2_with fail
                      refine hK.out _ _ hHeld (fun _ => ?_)
                      clear hK
                      try simp only [Act.put, List.setIfInBounds_toArray, List.set_cons_zero, List.set_cons_succ]
                      refine wpAnyH_take (i := 7) (oi := { dst := some 161, op := Op.binOp BinOp.add 3 (.tmp 157) (.tmp 160) 3, type := _, pos := _, after := _, guard := _ }) (v := ?_) rfl (by kernel_rfl) (by kernel_rfl) (by kernel_rfl) (fun _ _ _ h => h) (Or.inl ⟨by rfl, ?_⟩) hHeld ?_
                      rotate_left
                      · intro w99 hSw
                        first | (go_simp; done) | (go_simp; with_reducible rfl)
                      try simp only [Act.put, List.setIfInBounds_toArray, List.set_cons_zero, List.set_cons_succ]
                      refine wpAnyH_take (i := 8) (oi := { dst := some 162, op := Op.binOp BinOp.sub 3 (.tmp 161) (.const (.int .i64 2)) 3, type := _, pos := _, after := _, guard := _ }) (v := ?_) rfl (by kernel_rfl) (by kernel_rfl) (by kernel_rfl) (fun _ _ _ h => h) (Or.inl ⟨by rfl, ?_⟩) hHeld ?_
                      rotate_left
                      · intro w99 hSw
                        first | (go_simp; done) | (go_simp; with_reducible rfl)
                      try simp only [Act.put, List.setIfInBounds_toArray, List.set_cons_zero, List.set_cons_succ]
                      refine wpAnyH_take (i := 9) (oi := { dst := some 163, op := Op.call { callee := Callee.builtin Builtin.max, args := #[(.const (.int .i64 0)), (.tmp 162)], argTypes := #[3, 3] }, type := _, pos := _, after := _, guard := _ }) (v := ?_) rfl (by kernel_rfl) (by kernel_rfl) (by kernel_rfl) (fun _ _ _ h => h) (Or.inl ⟨by rfl, ?_⟩) hHeld ?_
                      rotate_left
                      · intro w99 hSw
                        first | (go_simp; done) | (go_simp; with_reducible rfl)
                      try simp only [Act.put, List.setIfInBounds_toArray, List.set_cons_zero, List.set_cons_succ]
                      refine wpAnyH_take (i := 10) (oi := { dst := some 14, op := Op.assign (.tmp 163), type := _, pos := _, after := _, guard := _ }) (v := ?_) rfl (by kernel_rfl) (by kernel_rfl) (by kernel_rfl) (fun _ _ _ h => h) (Or.inl ⟨by rfl, ?_⟩) hHeld ?_
                      rotate_left
                      · intro w99 hSw
                        first | (go_simp; done) | (go_simp; with_reducible rfl)
                      try simp only [Act.put, List.setIfInBounds_toArray, List.set_cons_zero, List.set_cons_succ]
                      refine wpAnyH_done (by kernel_rfl) ?_ _
                      have Hh6 := Lib.hid hHeld
                      clear hHeld
                      all_goals (try (go_wp2_with fail))
                      all_goals go_meet
                      all_goals exact ⟨by have h9 := He0.out; first | (congr 1; omega) | (congr 1; split <;> omega), Hh6⟩
                  case rest =>
                  obtain ⟨rfl, Hh6⟩ := hcut
                  generalize wc = w6 at *
                  as_aux_lemma =>
                    have HT6 := Lib.hid (HT1.out.no Hh6.out)
                    have Hx6 := Lib.hid (Hh6.out.whole Hxw.out (fun h => h))
                    have Hk6 := Hh6
                    have hok6 := Hok.out.en
                    clear hw1 hw2 hmx HPp hp23 z1 hgl1 hrl1 He0
                    have hgl6 := HT6.out.st.lt.1
                    have hrl6 := HT6.out.rf.lt.1
                    have hxl6 := Hx6.out.lt
                    have z16 := Hx6.out.cell 1
                    have z36 := Hx6.out.cell 3
                    simp at z16 z36
                    have c66 := (j_cells HT6.out.rf).2.2.2.1
                    go_upto_region 30 with (fail)
                    go_cut [174] (fun v174 wx => ∃ cb : Bool, v174 = .bool cb ∧ Hid (cb = true → s.ended = true) ∧ wx = w6)
                    case first =>
                      as_aux_lemma =>
                        unfold endI at c66
                        cases hen : s.ended with
                        | false =>
                          rw [hen, if_neg (by simp)] at c66
                          go_wp2_with fail
                          go_meet
                          case rel => exact ⟨false, rfl, Lib.hid (fun h => by cases h), by first | rfl | trivial⟩
                        | true =>
                          rw [hen, if_pos rfl] at c66
                          go_wp2_with fail
                          go_meet
                          case rel => exact ⟨_, rfl, Lib.hid (fun _ => by first | rfl | assumption), by first | rfl | trivial⟩
                    case rest =>
                    as_aux_lemma =>
                      obtain ⟨cb, rfl, Hcb, hwc⟩ := hcut
                      have hwc' := hwc.symm
                      clear hwc
                      subst hwc'
                      cases cb with
                      | false =>
                        as_aux_lemma =>
                          obtain ⟨en, hen0⟩ : ∃ en, en = e0 := ⟨_, rfl⟩
                          subst hen0
                          have hen3 : en ≤ 225000000000020 := he01
                          go_upto_region 32 with (fail)
                          clear c66
                          have hw3 : IntKind.i64.wrap ((en : Int) + 2) = (en : Int) + 2 := IntWalk.i64_in _ (by omega)
                          obtain ⟨su, hsu⟩ := Int.eq_ofNat_of_zero_le (pickF_lo y3 ((en : Int) + 2) (by omega))
                          have hsu2 := pickF_hi y3 ((en : Int) + 2) (by omega)
                          have HPs := Lib.hid (fun w => pick_any y3 ((en : Int) + 2) w (by omega) (by omega))
                          rw [hsu] at HPs hsu2
                          obtain ⟨pk, hpk⟩ := Int.eq_ofNat_of_zero_le (pickF_lo y1 60 (by omega))
                          have hpk2 := pickF_hi y1 60 (by omega)
                          have HPk := Lib.hid (fun w => pick_any y1 60 w (by omega) (by omega))
                          rw [hpk] at HPk hpk2
                          clear hsu hpk
                          have hw4 : IntKind.i64.wrap ((pk : Int) - 1) = (pk : Int) - 1 := IntWalk.i64_in _ (by omega)
                          have HB1 := Lib.hid (h_brk_any HT6.out.st ((pk : Int) - 1) en su)
                          clear Hcb
                          go_wp2_with fail
                          with_reducible refine (HPs.out _).mono ?_
                          rintro e w' ⟨rfl, rfl⟩
                          go_wp2_with fail
                          with_reducible refine (HPk.out _).mono ?_
                          rintro e w' ⟨rfl, rfl⟩
                          go_wp2_with fail
                          refine (HB1.out).mono ?_
                          rintro e w7 ⟨rfl, hs7, hk7⟩
                          as_aux_lemma =>
                            have HB2 := Lib.hid (j_brk_any (HT6.out.step1 hk7) Hok.out ((pk : Int) - 1) en su)
                            have HS7 := Lib.hid hs7
                            have Hk7 := Lib.hid hk7
                            have Hx7 := Lib.hid (hk7.whole Hx6.out (fun h => h HT6.out.x))
                            have hxl7 := Hx7.out.lt
                            have z17 := Hx7.out.cell 1
                            simp at z17
                            clear hs7 hk7 HB1 z16 z36
                            go_wp2_with fail
                            with_reducible refine (HPk.out _).mono ?_
                            rintro e w' ⟨rfl, rfl⟩
                            go_wp2_with fail
                            refine (HB2.out).mono ?_
                            rintro e w8 ⟨rfl, hr8, hk8⟩
                            as_aux_lemma =>
                              have HT8 := Lib.hid (show Two w8 W.heap.size xb _ G g r (brkRs s ((pk : Int) - 1) en su) from ⟨HS7.out.turn (hk8.mono (fun k _ e => (HT6.out.sub k e).1)), hr8, fun k e => ⟨.inl (HT6.out.sub k e).1, (HT6.out.sub k e).2⟩, fun k e => .inl (HT6.out.low k e), .inl HT6.out.x⟩)
                              have Hx8 := Lib.hid (hk8.whole Hx7.out (fun e => (HT6.out.sub _ e).2.2 rfl))
                              have Hk8 := Lib.hid ((Hk6.out.no.trans (HkF.out _ _ Hk7.out)).trans (HkG.out _ _ hk8))
                              have HJ8 := Lib.hid (jt_brk HJ.out ((pk : Int) - 1) en su)
                              generalize brkErr s ((pk : Int) - 1) (en : Int) (su : Int) = er at *
                              generalize brkRf s ((pk : Int) - 1) en su = bf at *
                              clear hr8 hk8 HB2 z17
                              go_wp2_with fail
                              go_meet
                              case rel => exact ⟨_, _, G, HJ8, HT8, Hx8, Hk8⟩
                      | true =>
                        as_aux_lemma =>
                          obtain ⟨en, hen0⟩ : ∃ en, en = s.en := ⟨_, rfl⟩
                          have hen3 : en ≤ 225000000000020 := by omega
                          rw [endI_on (Hcb.out rfl), ← hen0] at c66
                          clear hen0
                          go_upto_region 32 with (fail)
                          clear c66
                          have hw3 : IntKind.i64.wrap ((en : Int) + 2) = (en : Int) + 2 := IntWalk.i64_in _ (by omega)
                          obtain ⟨su, hsu⟩ := Int.eq_ofNat_of_zero_le (pickF_lo y3 ((en : Int) + 2) (by omega))
                          have hsu2 := pickF_hi y3 ((en : Int) + 2) (by omega)
                          have HPs := Lib.hid (fun w => pick_any y3 ((en : Int) + 2) w (by omega) (by omega))
                          rw [hsu] at HPs hsu2
                          obtain ⟨pk, hpk⟩ := Int.eq_ofNat_of_zero_le (pickF_lo y1 60 (by omega))
                          have hpk2 := pickF_hi y1 60 (by omega)
                          have HPk := Lib.hid (fun w => pick_any y1 60 w (by omega) (by omega))
                          rw [hpk] at HPk hpk2
                          clear hsu hpk
                          have hw4 : IntKind.i64.wrap ((pk : Int) - 1) = (pk : Int) - 1 := IntWalk.i64_in _ (by omega)
                          have HB1 := Lib.hid (h_brk_any HT6.out.st ((pk : Int) - 1) en su)
                          clear Hcb
                          go_wp2_with fail
                          with_reducible refine (HPs.out _).mono ?_
                          rintro e w' ⟨rfl, rfl⟩
                          go_wp2_with fail
                          with_reducible refine (HPk.out _).mono ?_
                          rintro e w' ⟨rfl, rfl⟩
                          go_wp2_with fail
                          refine (HB1.out).mono ?_
                          rintro e w7 ⟨rfl, hs7, hk7⟩
                          as_aux_lemma =>
                            have HB2 := Lib.hid (j_brk_any (HT6.out.step1 hk7) Hok.out ((pk : Int) - 1) en su)
                            have HS7 := Lib.hid hs7
                            have Hk7 := Lib.hid hk7
                            have Hx7 := Lib.hid (hk7.whole Hx6.out (fun h => h HT6.out.x))
                            have hxl7 := Hx7.out.lt
                            have z17 := Hx7.out.cell 1
                            simp at z17
                            clear hs7 hk7 HB1 z16 z36
                            go_wp2_with fail
                            with_reducible refine (HPk.out _).mono ?_
                            rintro e w' ⟨rfl, rfl⟩
                            go_wp2_with fail
                            refine (HB2.out).mono ?_
                            rintro e w8 ⟨rfl, hr8, hk8⟩
                            as_aux_lemma =>
                              have HT8 := Lib.hid (show Two w8 W.heap.size xb _ G g r (brkRs s ((pk : Int) - 1) en su) from ⟨HS7.out.turn (hk8.mono (fun k _ e => (HT6.out.sub k e).1)), hr8, fun k e => ⟨.inl (HT6.out.sub k e).1, (HT6.out.sub k e).2⟩, fun k e => .inl (HT6.out.low k e), .inl HT6.out.x⟩)
                              have Hx8 := Lib.hid (hk8.whole Hx7.out (fun e => (HT6.out.sub _ e).2.2 rfl))
                              have Hk8 := Lib.hid ((Hk6.out.no.trans (HkF.out _ _ Hk7.out)).trans (HkG.out _ _ hk8))
                              have HJ8 := Lib.hid (jt_brk HJ.out ((pk : Int) - 1) en su)
                              generalize brkErr s ((pk : Int) - 1) (en : Int) (su : Int) = er at *
                              generalize brkRf s ((pk : Int) - 1) en su = bf at *
                              clear hr8 hk8 HB2 z17
                              go_wp2_with fail
                              go_meet
                              case rel => exact ⟨_, _, G, HJ8, HT8, Hx8, Hk8⟩
            · have HWk : Hid (∀ w' : World, Kp (fun k => ¬ k < W.heap.size) w1 w' → Src w' 1 (.slice A5 d5l c5) d5l (encB d5)) := Lib.hid (fun w' hk => by
                have h1 := Hbs5.out
                unfold Bs at h1
                rw [Hd5.out] at h1
                exact src_keep1 h1 (Hk1.out.trans hk) (fun h0 k hk' e => by
                  obtain ⟨b, off', hA, hb⟩ := hA5 h0
                  rw [hA] at hk'
                  have : b = k := Option.some.inj hk'
                  omega))
              by_cases hc5 : c = 5
              · subst hc5
                as_aux_lemma =>
                  have HNm := Lib.hid (fun w => num_fix y1 ya1 yb1 w)
                  obtain ⟨nm1, nm2⟩ := numF_in y1 ya1 yb1
                  generalize numF y1 = nm at *
                  have hkd : Kp (fun _ => False) w1 w1.drew := (Kp.refl _ w1).drew
                  have HP1 := Lib.hid (h_put_any (HT1.out.st.no hkd) (by omega) nm nm1 nm2 y4 (HWk.out _ hkd.no) hlc5 hcm5 (by omega) (fun h0 k hk => HT1.out.low k (by
                    obtain ⟨b, off', hA, hb⟩ := hA5 h0
                    rw [hA] at hk
                    have : b = k := Option.some.inj hk
                    omega)))
                  have Hkd := Lib.hid hkd
                  clear hkd
                  go_upto_region 38 with (fail)
                  refine wp_region_held_drew (S := (fun w' => Whole w' xb 31 #[.int .i64 y0, .int .i64 y1, .int .i64 y2, .int .i64 y3, .bool y4, .slice A5 d5l c5])) (by kernel_rfl) (Whole.drew Hxw.out) (fun hHeld => ?_)
                  refine wpAnyH_take (i := 0) (oi := { dst := some 217, op := Op.move (.tmp 3), type := _, pos := _, after := _, guard := _ }) (v := ?_) rfl (by kernel_rfl) (by kernel_rfl) (by kernel_rfl) (fun _ _ _ h => h) (Or.inl ⟨by rfl, ?_⟩) hHeld ?_
                  rotate_left
                  · intro w99 hSw
                    first | (go_simp; done) | (go_simp; with_reducible rfl)
                  try simp only [Act.put, List.setIfInBounds_toArray, List.set_cons_zero, List.set_cons_succ]
                  refine wpAnyH_take (i := 1) (oi := { dst := some 218, op := Op.fieldAddr 31 (.tmp 6) 1, type := _, pos := _, after := _, guard := _ }) (v := ?_) rfl (by kernel_rfl) (by kernel_rfl) (by kernel_rfl) (fun _ _ _ h => h) (Or.inl ⟨by rfl, ?_⟩) hHeld ?_
                  rotate_left
                  · intro w99 hSw
                    first | (go_simp; done) | (go_simp; with_reducible rfl)
                  try simp only [Act.put, List.setIfInBounds_toArray, List.set_cons_zero, List.set_cons_succ]
                  refine wpAnyH_take (i := 2) (oi := { dst := some 219, op := Op.load 3 (.tmp 218), type := _, pos := _, after := _, guard := _ }) (v := ?_) rfl (by kernel_rfl) (by kernel_rfl) (by kernel_rfl) (fun _ _ _ h => h) (Or.inl ⟨by rfl, ?_⟩) hHeld ?_
                  rotate_left
                  · intro w99 hSw
                    have zx := hSw; have zl := zx.lt; have z1 := zx.cell 1; simp at z1; first | (go_simp; done) | (go_simp; with_reducible rfl)
                  try simp only [Act.put, List.setIfInBounds_toArray, List.set_cons_zero, List.set_cons_succ]
                  refine wpAnyH_take (i := 4) (oi := { dst := some 221, op := Op.fieldAddr 31 (.tmp 6) 4, type := _, pos := _, after := _, guard := _ }) (v := ?_) rfl (by kernel_rfl) (by kernel_rfl) (by kernel_rfl) (fun _ _ _ h => h) (Or.inl ⟨by rfl, ?_⟩) hHeld ?_
                  rotate_left
                  · intro w99 hSw
                    first | (go_simp; done) | (go_simp; with_reducible rfl)
                  try simp only [Act.put, List.setIfInBounds_toArray, List.set_cons_zero, List.set_cons_succ]
                  refine wpAnyH_take (i := 5) (oi := { dst := some 222, op := Op.load 4 (.tmp 221), type := _, pos := _, after := _, guard := _ }) (v := ?_) rfl (by kernel_rfl) (by kernel_rfl) (by kernel_rfl) (fun _ _ _ h => h) (Or.inl ⟨by rfl, ?_⟩) hHeld ?_
                  rotate_left
                  · intro w99 hSw
                    have zx := hSw; have zl := zx.lt; have z4 := zx.cell 4; simp at z4; first | (go_simp; done) | (go_simp; with_reducible rfl)
                  try simp only [Act.put, List.setIfInBounds_toArray, List.set_cons_zero, List.set_cons_succ]
                  refine wpAnyH_take (i := 6) (oi := { dst := some 223, op := Op.fieldAddr 31 (.tmp 6) 5, type := _, pos := _, after := _, guard := _ }) (v := ?_) rfl (by kernel_rfl) (by kernel_rfl) (by kernel_rfl) (fun _ _ _ h => h) (Or.inl ⟨by rfl, ?_⟩) hHeld ?_
                  rotate_left
                  · intro w99 hSw
                    first | (go_simp; done) | (go_simp; with_reducible rfl)
                  try simp only [Act.put, List.setIfInBounds_toArray, List.set_cons_zero, List.set_cons_succ]
                  refine wpAnyH_take (i := 7) (oi := { dst := some 224, op := Op.load 22 (.tmp 223), type := _, pos := _, after := _, guard := _ }) (v := ?_) rfl (by kernel_rfl) (by kernel_rfl) (by kernel_rfl) (fun _ _ _ h => h) (Or.inl ⟨by rfl, ?_⟩) hHeld ?_
                  rotate_left
                  · intro w99 hSw
                    have zx := hSw; have zl := zx.lt; have z5 := zx.cell 5; simp at z5; first | (go_simp; done) | (go_simp; with_reducible rfl)
                  try simp only [Act.put, List.setIfInBounds_toArray, List.set_cons_zero, List.set_cons_succ]
                  refine wpAnyH_ready (rs := [3]) (by kernel_rfl) (by simp) (AllReadyH.cons (o := { dst := some 220, op := Op.call { callee := Callee.value (Operand.func 27), args := #[(.tmp 219)], argTypes := #[3] }, type := _, pos := _, after := _, guard := _ }) rfl (fun K hK => ?_) AllReadyH.nil)
                  go_simp
                  with_reducible refine (HNm.out _).mono ?_
                  rintro e w' ⟨rfl, rfl⟩
                  go_wp2_with fail
                  refine hK.out _ _ hHeld (fun _ => ?_)
                  clear hK
                  try simp only [Act.put, List.setIfInBounds_toArray, List.set_cons_zero, List.set_cons_succ]
                  refine wpAnyH_ready (rs := [8]) (by kernel_rfl) (by simp) (AllReadyH.cons (o := { dst := some 225, op := Op.call { callee := Callee.value (Operand.func 13), args := #[(.tmp 217), (.tmp 220), (.tmp 222), (.tmp 224)], argTypes := #[25, 3, 4, 22] }, type := _, pos := _, after := _, guard := _ }) rfl (fun K hK => ?_) AllReadyH.nil)
                  go_simp
                  with_reducible refine (HP1.out).mono ?_
                  rintro e w' ⟨rfl, hs8, hk8⟩
                  go_wp2_with fail
                  have hx9 := (hk8.whole hHeld (fun h => h HT1.out.x))
                  refine hK.out _ _ hx9 (fun _ => ?_)
                  clear hK hHeld
                  have hHeld := hx9
                  clear hx9
                  generalize w' = wd8 at *
                  try simp only [Act.put, List.setIfInBounds_toArray, List.set_cons_zero, List.set_cons_succ]
                  refine wpAnyH_take (i := 9) (oi := { dst := some 216, op := Op.move (.tmp 225), type := _, pos := _, after := _, guard := _ }) (v := ?_) rfl (by kernel_rfl) (by kernel_rfl) (by kernel_rfl) (fun _ _ _ h => h) (Or.inl ⟨by rfl, ?_⟩) hHeld ?_
                  rotate_left
                  · intro w99 hSw
                    first | (go_simp; done) | (go_simp; with_reducible rfl)
                  try simp only [Act.put, List.setIfInBounds_toArray, List.set_cons_zero, List.set_cons_succ]
                  refine wpAnyH_take (i := 10) (oi := { dst := some 226, op := Op.extract (.tmp 216) 0, type := _, pos := _, after := _, guard := _ }) (v := ?_) rfl (by kernel_rfl) (by kernel_rfl) (by kernel_rfl) (fun _ _ _ h => h) (Or.inl ⟨by rfl, ?_⟩) hHeld ?_
                  rotate_left
                  · intro w99 hSw
                    first | (go_simp; done) | (go_simp; with_reducible rfl)
                  try simp only [Act.put, List.setIfInBounds_toArray, List.set_cons_zero, List.set_cons_succ]
                  refine wpAnyH_take (i := 11) (oi := { dst := some 227, op := Op.extract (.tmp 216) 1, type := _, pos := _, after := _, guard := _ }) (v := ?_) rfl (by kernel_rfl) (by kernel_rfl) (by kernel_rfl) (fun _ _ _ h => h) (Or.inl ⟨by rfl, ?_⟩) hHeld ?_
                  rotate_left
                  · intro w99 hSw
                    first | (go_simp; done) | (go_simp; with_reducible rfl)
                  try simp only [Act.put, List.setIfInBounds_toArray, List.set_cons_zero, List.set_cons_succ]
                  refine wpAnyH_take (i := 12) (oi := { dst := some 20, op := Op.assign (.tmp 226), type := _, pos := _, after := _, guard := _ }) (v := ?_) rfl (by kernel_rfl) (by kernel_rfl) (by kernel_rfl) (fun _ _ _ h => h) (Or.inl ⟨by rfl, ?_⟩) hHeld ?_
                  rotate_left
                  · intro w99 hSw
                    first | (go_simp; done) | (go_simp; with_reducible rfl)
                  try simp only [Act.put, List.setIfInBounds_toArray, List.set_cons_zero, List.set_cons_succ]
                  refine wpAnyH_take (i := 13) (oi := { dst := some 21, op := Op.assign (.tmp 227), type := _, pos := _, after := _, guard := _ }) (v := ?_) rfl (by kernel_rfl) (by kernel_rfl) (by kernel_rfl) (fun _ _ _ h => h) (Or.inl ⟨by rfl, ?_⟩) hHeld ?_
                  rotate_left
                  · intro w99 hSw
                    first | (go_simp; done) | (go_simp; with_reducible rfl)
                  try simp only [Act.put, List.setIfInBounds_toArray, List.set_cons_zero, List.set_cons_succ]
                  refine wpAnyH_done (by kernel_rfl) ?_ _
                  have hk08 : Kp (fun k => ¬ F1 k) w1 wd8 := Hkd.out.no.trans hk8
                  have HS8 := Lib.hid hs8
                  have Hk08 := Lib.hid hk08
                  have Hx8 := Lib.hid hHeld
                  generalize wd8 = w8 at *
                  have hkd8 : Kp (fun _ => False) w8 w8.drew := (Kp.refl _ w8).drew
                  have HP2 := Lib.hid (j_put_any ((HT1.out.step1 hk08).no hkd8) Hok.out nm nm1 nm2 y4 (HWk.out _ ((HkF.out _ _ hk08).trans hkd8.no)) (by omega) (fun h0 k hk => by
                    obtain ⟨b, off', hA, hb⟩ := hA5 h0
                    rw [hA] at hk
                    have hbk : b = k := Option.some.inj hk
                    exact ⟨by have := hk08.size; simp; omega, fun e => by have := (HT1.out.sub k e).2.1; omega⟩))
                  have Hkd8 := Lib.hid hkd8
                  clear hkd8 hs8 hk8 hk08 hHeld HP1
                  go_upto_region 39 with (fail)
                  refine wp_region_held_drew (S := (fun w' => Whole w' xb 31 #[.int .i64 y0, .int .i64 y1, .int .i64 y2, .int .i64 y3, .bool y4, .slice A5 d5l c5])) (by kernel_rfl) (Whole.drew Hx8.out) (fun hHeld => ?_)
                  refine wpAnyH_take (i := 0) (oi := { dst := some 229, op := Op.move (.tmp 4), type := _, pos := _, after := _, guard := _ }) (v := ?_) rfl (by kernel_rfl) (by kernel_rfl) (by kernel_rfl) (fun _ _ _ h => h) (Or.inl ⟨by rfl, ?_⟩) hHeld ?_
                  rotate_left
                  · intro w99 hSw
                    first | (go_simp; done) | (go_simp; with_reducible rfl)
                  try simp only [Act.put, List.setIfInBounds_toArray, List.set_cons_zero, List.set_cons_succ]
                  refine wpAnyH_take (i := 1) (oi := { dst := some 230, op := Op.fieldAddr 31 (.tmp 6) 1, type := _, pos := _, after := _, guard := _ }) (v := ?_) rfl (by kernel_rfl) (by kernel_rfl) (by kernel_rfl) (fun _ _ _ h => h) (Or.inl ⟨by rfl, ?_⟩) hHeld ?_
                  rotate_left
                  · intro w99 hSw
                    first | (go_simp; done) | (go_simp; with_reducible rfl)
                  try simp only [Act.put, List.setIfInBounds_toArray, List.set_cons_zero, List.set_cons_succ]
                  refine wpAnyH_take (i := 2) (oi := { dst := some 231, op := Op.load 3 (.tmp 230), type := _, pos := _, after := _, guard := _ }) (v := ?_) rfl (by kernel_rfl) (by kernel_rfl) (by kernel_rfl) (fun _ _ _ h => h) (Or.inl ⟨by rfl, ?_⟩) hHeld ?_
                  rotate_left
                  · intro w99 hSw
                    have zx := hSw; have zl := zx.lt; have z1 := zx.cell 1; simp at z1; first | (go_simp; done) | (go_simp; with_reducible rfl)
                  try simp only [Act.put, List.setIfInBounds_toArray, List.set_cons_zero, List.set_cons_succ]
                  refine wpAnyH_take (i := 4) (oi := { dst := some 233, op := Op.fieldAddr 31 (.tmp 6) 4, type := _, pos := _, after := _, guard := _ }) (v := ?_) rfl (by kernel_rfl) (by kernel_rfl) (by kernel_rfl) (fun _ _ _ h => h) (Or.inl ⟨by rfl, ?_⟩) hHeld ?_
                  rotate_left
                  · intro w99 hSw
                    first | (go_simp; done) | (go_simp; with_reducible rfl)
                  try simp only [Act.put, List.setIfInBounds_toArray, List.set_cons_zero, List.set_cons_succ]
                  refine wpAnyH_take (i := 5) (oi := { dst := some 234, op := Op.load 4 (.tmp 233), type := _, pos := _, after := _, guard := _ }) (v := ?_) rfl (by kernel_rfl) (by kernel_rfl) (by kernel_rfl) (fun _ _ _ h => h) (Or.inl ⟨by rfl, ?_⟩) hHeld ?_
                  rotate_left
                  · intro w99 hSw
                    have zx := hSw; have zl := zx.lt; have z4 := zx.cell 4; simp at z4; first | (go_simp; done) | (go_simp; with_reducible rfl)
                  try simp only [Act.put, List.setIfInBounds_toArray, List.set_cons_zero, List.set_cons_succ]
                  refine wpAnyH_take (i := 6) (oi := { dst := some 235, op := Op.fieldAddr 31 (.tmp 6) 5, type := _, pos := _, after := _, guard := _ }) (v := ?_) rfl (by kernel_rfl) (by kernel_rfl) (by kernel_rfl) (fun _ _ _ h => h) (Or.inl ⟨by rfl, ?_⟩) hHeld ?_
                  rotate_left
                  · intro w99 hSw
                    first | (go_simp; done) | (go_simp; with_reducible rfl)
                  try simp only [Act.put, List.setIfInBounds_toArray, List.set_cons_zero, List.set_cons_succ]
                  refine wpAnyH_take (i := 7) (oi := { dst := some 236, op := Op.load 22 (.tmp 235), type := _, pos := _, after := _, guard := _ }) (v := ?_) rfl (by kernel_rfl) (by kernel_rfl) (by kernel_rfl) (fun _ _ _ h => h) (Or.inl ⟨by rfl, ?_⟩) hHeld ?_
                  rotate_left
                  · intro w99 hSw
                    have zx := hSw; have zl := zx.lt; have z5 := zx.cell 5; simp at z5; first | (go_simp; done) | (go_simp; with_reducible rfl)
                  try simp only [Act.put, List.setIfInBounds_toArray, List.set_cons_zero, List.set_cons_succ]
                  refine wpAnyH_ready (rs := [3]) (by kernel_rfl) (by simp) (AllReadyH.cons (o := { dst := some 232, op := Op.call { callee := Callee.value (Operand.func 27), args := #[(.tmp 231)], argTypes := #[3] }, type := _, pos := _, after := _, guard := _ }) rfl (fun K hK => ?_) AllReadyH.nil)
                  go_simp
                  with_reducible refine (HNm.out _).mono ?_
                  rintro e w' ⟨rfl, rfl⟩
                  go_wp2_with fail
                  refine hK.out _ _ hHeld (fun _ => ?_)
                  clear hK
                  try simp only [Act.put, List.setIfInBounds_toArray, List.set_cons_zero, List.set_cons_succ]
                  refine wpAnyH_ready (rs := [8]) (by kernel_rfl) (by simp) (AllReadyH.cons (o := { dst := some 237, op := Op.call { callee := Callee.value (Operand.func 28), args := #[(.tmp 229), (.tmp 232), (.tmp 234), (.tmp 236)], argTypes := #[52, 3, 4, 22] }, type := _, pos := _, after := _, guard := _ }) rfl (fun K hK => ?_) AllReadyH.nil)
                  go_simp
                  with_reducible refine (HP2.out).mono ?_
                  rintro e w' ⟨rfl, hr9, hk9⟩
                  go_wp2_with fail
                  have hx9 := (hk9.whole hHeld (fun e => (HT1.out.sub _ e).2.2 rfl))
                  refine hK.out _ _ hx9 (fun _ => ?_)
                  clear hK hHeld
                  have hHeld := hx9
                  clear hx9
                  generalize w' = wd8 at *
                  try simp only [Act.put, List.setIfInBounds_toArray, List.set_cons_zero, List.set_cons_succ]
                  refine wpAnyH_take (i := 9) (oi := { dst := some 228, op := Op.move (.tmp 237), type := _, pos := _, after := _, guard := _ }) (v := ?_) rfl (by kernel_rfl) (by kernel_rfl) (by kernel_rfl) (fun _ _ _ h => h) (Or.inl ⟨by rfl, ?_⟩) hHeld ?_
                  rotate_left
                  · intro w99 hSw
                    first | (go_simp; done) | (go_simp; with_reducible rfl)
                  try simp only [Act.put, List.setIfInBounds_toArray, List.set_cons_zero, List.set_cons_succ]
                  refine wpAnyH_take (i := 10) (oi := { dst := some 238, op := Op.extract (.tmp 228) 0, type := _, pos := _, after := _, guard := _ }) (v := ?_) rfl (by kernel_rfl) (by kernel_rfl) (by kernel_rfl) (fun _ _ _ h => h) (Or.inl ⟨by rfl, ?_⟩) hHeld ?_
                  rotate_left
                  · intro w99 hSw
                    first | (go_simp; done) | (go_simp; with_reducible rfl)
                  try simp only [Act.put, List.setIfInBounds_toArray, List.set_cons_zero, List.set_cons_succ]
                  refine wpAnyH_take (i := 11) (oi := { dst := some 239, op := Op.extract (.tmp 228) 1, type := _, pos := _, after := _, guard := _ }) (v := ?_) rfl (by kernel_rfl) (by kernel_rfl) (by kernel_rfl) (fun _ _ _ h => h) (Or.inl ⟨by rfl, ?_⟩) hHeld ?_
                  rotate_left
                  · intro w99 hSw
                    first | (go_simp; done) | (go_simp; with_reducible rfl)
                  try simp only [Act.put, List.setIfInBounds_toArray, List.set_cons_zero, List.set_cons_succ]
                  refine wpAnyH_take (i := 12) (oi := { dst := some 22, op := Op.assign (.tmp 238), type := _, pos := _, after := _, guard := _ }) (v := ?_) rfl (by kernel_rfl) (by kernel_rfl) (by kernel_rfl) (fun _ _ _ h => h) (Or.inl ⟨by rfl, ?_⟩) hHeld ?_
                  rotate_left
                  · intro w99 hSw
                    first | (go_simp; done) | (go_simp; with_reducible rfl)
                  try simp only [Act.put, List.setIfInBounds_toArray, List.set_cons_zero, List.set_cons_succ]
                  refine wpAnyH_take (i := 13) (oi := { dst := some 23, op := Op.assign (.tmp 239), type := _, pos := _, after := _, guard := _ }) (v := ?_) rfl (by kernel_rfl) (by kernel_rfl) (by kernel_rfl) (fun _ _ _ h => h) (Or.inl ⟨by rfl, ?_⟩) hHeld ?_
                  rotate_left
                  · intro w99 hSw
                    first | (go_simp; done) | (go_simp; with_reducible rfl)
                  try simp only [Act.put, List.setIfInBounds_toArray, List.set_cons_zero, List.set_cons_succ]
                  refine wpAnyH_done (by kernel_rfl) ?_ _
                  have hk88 : Kp G w8 wd8 := Hkd8.out.no.trans hk9
                  have HT9 := Lib.hid (show Two wd8 W.heap.size xb _ _ g r (putRs s nm y4 d5l d5) from ⟨HS8.out.turn (hk88.mono (fun k _ e => (HT1.out.sub k e).1)), hr9, fun k e => e.elim (fun e => ⟨.inl (HT1.out.sub k e).1, (HT1.out.sub k e).2⟩) (fun e => ⟨.inr (by simpa using e), by have := Hk08.out.size; simp at e; omega, by have := Hk08.out.size; have := Hxb.out; simp at e; omega⟩), fun k e => .inl (HT1.out.low k e), .inl HT1.out.x⟩)
                  have Hx9 := Lib.hid hHeld
                  have Hk9 := Lib.hid ((HkF.out _ _ Hk08.out).trans (HkG.out _ _ hk88))
                  have HJ9 := Lib.hid (jt_put HJ.out Hok.out (off := nm) (fin := y4) Hd5.out)
                  generalize putErr s nm y4 d5l = er at *
                  generalize putRf s nm y4 d5l d5 = bf at *
                  clear hr9 hk9 hk88 hHeld HP2
                  go_wp2_with fail
                  go_meet
                  case rel => exact ⟨_, _, _, HJ9, HT9, Hx9, Hk9⟩
              · have hc6 : 6 ≤ c := by omega
                have q0 : ((c : Int) == 0) = false := by simp; omega
                have q1 : ((c : Int) == 1) = false := by simp; omega
                have q2 : ((c : Int) == 2) = false := by simp; omega
                have q3 : ((c : Int) == 3) = false := by simp; omega
                have q4 : ((c : Int) == 4) = false := by simp; omega
                have q5 : ((c : Int) == 5) = false := by simp; omega
                clear hc3 hc012 hc3' hc4 hc5 hc6
                as_aux_lemma =>
                  have hw1 : IntKind.i64.wrap ((s.top : Int) + 30) = (s.top : Int) + 30 := IntWalk.i64_in _ (by omega)
                  have hmx : (if (1 : Int) < (s.top : Int) + 30 then (s.top : Int) + 30 else 1) = (s.top : Int) + 30 := by split <;> omega
                  obtain ⟨o, ho⟩ := Int.eq_ofNat_of_zero_le (pickF_lo y1 ((s.top : Int) + 30) (by omega))
                  have ho2 := pickF_hi y1 ((s.top : Int) + 30) (by omega)
                  have HPo := Lib.hid (fun w => pick_any y1 ((s.top : Int) + 30) w (by omega) (by omega))
                  rw [ho] at HPo ho2
                  clear ho
                  obtain ⟨p2, hp2⟩ := Int.eq_ofNat_of_zero_le (pickF_lo y2 40 (by omega))
                  have hp22 := pickF_hi y2 40 (by omega)
                  have HPp := Lib.hid (fun w => pick_any y2 40 w (by omega) (by omega))
                  rw [hp2] at HPp hp22
                  have hp23 : p2 < 40 := by omega
                  clear hp2 hp22
                  go_upto_region 9 with (fail)
                  refine wp_region_held_drew (S := (fun w' => Kp (fun _ => False) w1 w')) (by kernel_rfl) (Kp.drew (Kp.refl _ w1)) (fun hHeld => ?_)
                  refine wpAnyH_take (i := 0) (oi := { dst := some 48, op := Op.fieldAddr 31 (.tmp 6) 1, type := _, pos := _, after := _, guard := _ }) (v := ?_) rfl (by kernel_rfl) (by kernel_rfl) (by kernel_rfl) (fun _ _ _ h => h) (Or.inl ⟨by rfl, ?_⟩) hHeld ?_
                  rotate_left
                  · intro w99 hSw
                    first | (go_simp; done) | (go_simp; with_reducible rfl)
                  try simp only [Act.put, List.setIfInBounds_toArray, List.set_cons_zero, List.set_cons_succ]
                  refine wpAnyH_take (i := 1) (oi := { dst := some 49, op := Op.load 3 (.tmp 48), type := _, pos := _, after := _, guard := _ }) (v := ?_) rfl (by kernel_rfl) (by kernel_rfl) (by kernel_rfl) (fun _ _ _ h => h) (Or.inl ⟨by rfl, ?_⟩) hHeld ?_
                  rotate_left
                  · intro w99 hSw
                    have zx := hSw.whole Hxw.out (fun h => h); have zl := zx.lt; have z1 := zx.cell 1; simp at z1; first | (go_simp; done) | (go_simp; with_reducible rfl)
                  try simp only [Act.put, List.setIfInBounds_toArray, List.set_cons_zero, List.set_cons_succ]
                  refine wpAnyH_take (i := 2) (oi := { dst := some 50, op := Op.move (.tmp 4), type := _, pos := _, after := _, guard := _ }) (v := ?_) rfl (by kernel_rfl) (by kernel_rfl) (by kernel_rfl) (fun _ _ _ h => h) (Or.inl ⟨by rfl, ?_⟩) hHeld ?_
                  rotate_left
                  · intro w99 hSw
                    first | (go_simp; done) | (go_simp; with_reducible rfl)
                  try simp only [Act.put, List.setIfInBounds_toArray, List.set_cons_zero, List.set_cons_succ]
                  refine wpAnyH_take (i := 3) (oi := { dst := some 51, op := Op.nilCheck (.tmp 50), type := _, pos := _, after := _, guard := _ }) (v := ?_) rfl (by kernel_rfl) (by kernel_rfl) (by kernel_rfl) (fun _ _ _ h => h) (Or.inl ⟨by rfl, ?_⟩) hHeld ?_
                  rotate_left
                  · intro w99 hSw
                    first | (go_simp; done) | (go_simp; with_reducible rfl)
                  try simp only [Act.put, List.setIfInBounds_toArray, List.set_cons_zero, List.set_cons_succ]
                  refine wpAnyH_take (i := 4) (oi := { dst := some 52, op := Op.fieldAddr 58 (.tmp 51) 3, type := _, pos := _, after := _, guard := _ }) (v := ?_) rfl (by kernel_rfl) (by kernel_rfl) (by kernel_rfl) (fun _ _ _ h => h) (Or.inl ⟨by rfl, ?_⟩) hHeld ?_
                  rotate_left
                  · intro w99 hSw
                    first | (go_simp; done) | (go_simp; with_reducible rfl)
                  try simp only [Act.put, List.setIfInBounds_toArray, List.set_cons_zero, List.set_cons_succ]
                  refine wpAnyH_take (i := 5) (oi := { dst := some 53, op := Op.load 3 (.tmp 52), type := _, pos := _, after := _, guard := _ }) (v := ?_) rfl (by kernel_rfl) (by kernel_rfl) (by kernel_rfl) (fun _ _ _ h => h) (Or.inl ⟨by rfl, ?_⟩) hHeld ?_
                  rotate_left
                  · intro w99 hSw
                    have c5 := (j_cells (HT1.out.rf.no hSw)).2.2.1; have hl5 := Nat.lt_of_lt_of_le hrl1 hSw.size; first | (go_simp; done) | (go_simp; with_reducible rfl)
                  try simp only [Act.put, List.setIfInBounds_toArray, List.set_cons_zero, List.set_cons_succ]
                  refine wpAnyH_take (i := 6) (oi := { dst := some 54, op := Op.binOp BinOp.add 3 (.tmp 53) (.const (.int .i64 30)) 3, type := _, pos := _, after := _, guard := _ }) (v := ?_) rfl (by kernel_rfl) (by kernel_rfl) (by kernel_rfl) (fun _ _ _ h => h) (Or.inl ⟨by rfl, ?_⟩) hHeld ?_
                  rotate_left
                  · intro w99 hSw
                    first | (go_simp; done) | (go_simp; with_reducible rfl)
                  try simp only [Act.put, List.setIfInBounds_toArray, List.set_cons_zero, List.set_cons_succ]
                  refine wpAnyH_take (i := 7) (oi := { dst := some 55, op := Op.call { callee := Callee.builtin Builtin.max, args := #[(.const (.int .i64 1)), (.tmp 54)], argTypes := #[3, 3] }, type := _, pos := _, after := _, guard := _ }) (v := ?_) rfl (by kernel_rfl) (by kernel_rfl) (by kernel_rfl) (fun _ _ _ h => h) (Or.inl ⟨by rfl, ?_⟩) hHeld ?_
                  rotate_left
                  · intro w99 hSw
                    first | (go_simp; done) | (go_simp; with_reducible rfl)
                  try simp only [Act.put, List.setIfInBounds_toArray, List.set_cons_zero, List.set_cons_succ]
                  refine wpAnyH_ready (rs := [8]) (by kernel_rfl) (by simp) (AllReadyH.cons (o := { dst := some 56, op := Op.call { callee := Callee.value (Operand.func 12), args := #[(.tmp 49), (.tmp 55)], argTypes := #[3, 3] }, type := _, pos := _, after := _, guard := _ }) rfl (fun K hK => ?_) AllReadyH.nil)
                  go_simp
                  with_reducible refine (HPo.out _).mono ?_
                  rintro e w' ⟨rfl, rfl⟩
                  go_wp2_with fail
                  refine hK.out _ _ hHeld (fun _ => ?_)
                  clear hK
                  try simp only [Act.put, List.setIfInBounds_toArray, List.set_cons_zero, List.set_cons_succ]
                  refine wpAnyH_take (i := 9) (oi := { dst := some 24, op := Op.assign (.tmp 56), type := _, pos := _, after := _, guard := _ }) (v := ?_) rfl (by kernel_rfl) (by kernel_rfl) (by kernel_rfl) (fun _ _ _ h => h) (Or.inl ⟨by rfl, ?_⟩) hHeld ?_
                  rotate_left
                  · intro w99 hSw
                    first | (go_simp; done) | (go_simp; with_reducible rfl)
                  try simp only [Act.put, List.setIfInBounds_toArray, List.set_cons_zero, List.set_cons_succ]
                  refine wpAnyH_done (by kernel_rfl) ?_ _
                  have HTa := Lib.hid (HT1.out.no hHeld)
                  have Hxa := Lib.hid (hHeld.whole Hxw.out (fun h => h))
                  have Hka := Lib.hid hHeld
                  clear hHeld hw1 hmx HPo
                  generalize w1.drew = wa at *
                  have hxla := Hxa.out.lt
                  have hkd : Kp (fun _ => False) wa wa.drew := (Kp.refl _ wa).drew
                  have hBt : Bs wa.drew (.slice A5 d5.length c5) d5 := by
                    have h1 := HWk.out _ (Hka.out.no.trans hkd.no)
                    unfold Bs
                    rw [Hd5.out]
                    exact h1
                  have hTx := text_any hBt (by rw [Hd5.out]; omega) p2 (by omega)
                  rw [Hd5.out] at hTx
                  have HTx := Lib.hid hTx
                  clear hTx hBt hkd
                  go_upto_region 10 with (fail)
                  refine wp_region_held_drew (S := (fun w' => Kp (fun _ => False) wa w')) (by kernel_rfl) (Kp.drew (Kp.refl _ wa)) (fun hHeld => ?_)
                  refine wpAnyH_take (i := 0) (oi := { dst := some 57, op := Op.fieldAddr 31 (.tmp 6) 5, type := _, pos := _, after := _, guard := _ }) (v := ?_) rfl (by kernel_rfl) (by kernel_rfl) (by kernel_rfl) (fun _ _ _ h => h) (Or.inl ⟨by rfl, ?_⟩) hHeld ?_
                  rotate_left
                  · intro w99 hSw
                    first | (go_simp; done) | (go_simp; with_reducible rfl)
                  try simp only [Act.put, List.setIfInBounds_toArray, List.set_cons_zero, List.set_cons_succ]
                  refine wpAnyH_take (i := 1) (oi := { dst := some 58, op := Op.load 22 (.tmp 57), type := _, pos := _, after := _, guard := _ }) (v := ?_) rfl (by kernel_rfl) (by kernel_rfl) (by kernel_rfl) (fun _ _ _ h => h) (Or.inl ⟨by rfl, ?_⟩) hHeld ?_
                  rotate_left
                  · intro w99 hSw
                    have zx := hSw.whole Hxa.out (fun h => h); have zl := zx.lt; have z5 := zx.cell 5; simp at z5; first | (go_simp; done) | (go_simp; with_reducible rfl)
                  try simp only [Act.put, List.setIfInBounds_toArray, List.set_cons_zero, List.set_cons_succ]
                  refine wpAnyH_take (i := 2) (oi := { dst := some 59, op := Op.fieldAddr 31 (.tmp 6) 2, type := _, pos := _, after := _, guard := _ }) (v := ?_) rfl (by kernel_rfl) (by kernel_rfl) (by kernel_rfl) (fun _ _ _ h => h) (Or.inl ⟨by rfl, ?_⟩) hHeld ?_
                  rotate_left
                  · intro w99 hSw
                    first | (go_simp; done) | (go_simp; with_reducible rfl)
                  try simp only [Act.put, List.setIfInBounds_toArray, List.set_cons_zero, List.set_cons_succ]
                  refine wpAnyH_take (i := 3) (oi := { dst := some 60, op := Op.load 3 (.tmp 59), type := _, pos := _, after := _, guard := _ }) (v := ?_) rfl (by kernel_rfl) (by kernel_rfl) (by kernel_rfl) (fun _ _ _ h => h) (Or.inl ⟨by rfl, ?_⟩) hHeld ?_
                  rotate_left
                  · intro w99 hSw
                    have zx := hSw.whole Hxa.out (fun h => h); have zl := zx.lt; have z2 := zx.cell 2; simp at z2; first | (go_simp; done) | (go_simp; with_reducible rfl)
                  try simp only [Act.put, List.setIfInBounds_toArray, List.set_cons_zero, List.set_cons_succ]
                  refine wpAnyH_ready (rs := [4]) (by kernel_rfl) (by simp) (AllReadyH.cons (o := { dst := some 61, op := Op.call { callee := Callee.value (Operand.func 12), args := #[(.tmp 60), (.const (.int .i64 40))], argTypes := #[3, 3] }, type := _, pos := _, after := _, guard := _ }) rfl (fun K hK => ?_) AllReadyH.nil)
                  go_simp
                  with_reducible refine (HPp.out _).mono ?_
                  rintro e w' ⟨rfl, rfl⟩
                  go_wp2_with fail
                  refine hK.out _ _ hHeld (fun _ => ?_)
                  clear hK
                  try simp only [Act.put, List.setIfInBounds_toArray, List.set_cons_zero, List.set_cons_succ]
                  refine wpAnyH_ready (rs := [5]) (by kernel_rfl) (by simp) (AllReadyH.cons (o := { dst := some 62, op := Op.call { callee := Callee.value (Operand.func 29), args := #[(.tmp 58), (.tmp 61)], argTypes := #[22, 3] }, type := _, pos := _, after := _, guard := _ }) rfl (fun K hK => ?_) AllReadyH.nil)
                  go_simp
                  with_reducible refine (HTx.out).mono ?_
                  rintro e w' ⟨vt, tx, rfl, htl, hrt, hkt⟩
                  go_wp2_with fail
                  have hx9 := Kp.trans hHeld hkt
                  refine hK.out _ _ hx9 (fun _ => ?_)
                  clear hK hHeld
                  have hHeld := hx9
                  clear hx9
                  obtain ⟨At, ct, rfl⟩ := hrt.form
                  clear hkt
                  generalize w' = wd5 at *
                  try simp only [Act.put, List.setIfInBounds_toArray, List.set_cons_zero, List.set_cons_succ]
                  refine wpAnyH_take (i := 6) (oi := { dst := some 25, op := Op.assign (.tmp 62), type := _, pos := _, after := _, guard := _ }) (v := ?_) rfl (by kernel_rfl) (by kernel_rfl) (by kernel_rfl) (fun _ _ _ h => h) (Or.inl ⟨by rfl, ?_⟩) hHeld ?_
                  rotate_left
                  · intro w99 hSw
                    first | (go_simp; done) | (go_simp; with_reducible rfl)
                  try simp only [Act.put, List.setIfInBounds_toArray, List.set_cons_zero, List.set_cons_succ]
                  refine wpAnyH_done (by kernel_rfl) ?_ _
                  have hk15 : Kp (fun _ => False) w1 wd5 := Hka.out.trans hHeld
                  obtain ⟨F5, HT5, hF5⟩ : ∃ F5 : Nat → Prop, Two wd5 W.heap.size xb F5 G g r s ∧ ∀ k, w1.heap.size ≤ k → k < wd5.heap.size → F5 k := ⟨_, HT1.out.new hk15, fun k h1 h2 => .inr ⟨h1, h2⟩⟩
                  have Hx5 := Lib.hid (hk15.whole Hxw.out (fun h => h))
                  have Hk15 := Lib.hid hk15
                  have HT5' := Lib.hid HT5
                  have HF5x := Lib.hid hF5
                  have hca := row_capL hrt
                  have hwa := Hka.out.size
                  have HP1 := Lib.hid (fun fb : Bool => h_put_any HT5.st (by omega) (o : Int) (by omega) (by omega) fb (hrt.src (encB_one _)) hca.1 hca.2 (by omega) (fun _ k hk => hF5 k (by have := (hrt.lt k hk).1; simp at this; omega) (hrt.lt k hk).2))
                  have Hrt := Lib.hid hrt
                  have Htl := Lib.hid htl
                  clear HT5 hk15 hHeld hF5 hrt HTx
                  generalize wd5 = w5 at *
                  have hxl5 := Hx5.out.lt
                  have z45 := Hx5.out.cell 4
                  have z35 := Hx5.out.cell 3
                  simp at z45 z35
                  go_upto_region 11 with (fail)
                  go_cut [26] (fun v26 wx => ∃ fb : Bool, v26 = .bool fb ∧ wx = w5)
                  case first =>
                    cases y4 with
                    | false =>
                      go_wp2_with fail
                      go_meet
                      case rel => exact ⟨false, rfl, by first | rfl | trivial⟩
                    | true =>
                      go_wp2_with fail
                      go_meet
                      case rel => exact ⟨_, rfl, by first | rfl | trivial⟩
                  case rest =>
                  obtain ⟨fb, rfl, hwc⟩ := hcut
                  have hwc' := hwc.symm
                  clear hwc
                  subst hwc'
                  clear z45 z35
                  go_wp2_with fail
                  refine (HP1.out fb).mono ?_
                  rintro e w7 ⟨rfl, hs7, hk7⟩
                  have HP2 := Lib.hid (j_put_any (HT5'.out.step1 hk7) Hok.out (o : Int) (by omega) (by omega) fb ((hk7.src (Hrt.out.src (encB_one _)) (fun k hk e => e (by
                    have h1 := (Hrt.out.lt k hk)
                    simp at h1
                    exact HF5x.out k (by omega) h1.2)))) (by omega) (fun _ k hk => ⟨by have := (Hrt.out.lt k hk).2; have := hk7.size; omega, fun e => by have h1 := (Hrt.out.lt k hk).1; have := HT1.out.rf.old k e; simp at h1; omega⟩))
                  have HS7 := Lib.hid hs7
                  have Hk7 := Lib.hid hk7
                  clear hs7 hk7 HP1
                  go_wp2_with fail
                  refine (HP2.out).mono ?_
                  rintro e w8 ⟨rfl, hr8, hk8⟩
                  have HT8 := Lib.hid (show Two w8 W.heap.size xb _ _ g r (putRs s (o : Int) fb p2 tx) from ⟨HS7.out.turn (hk8.mono (fun k _ e => (HT5'.out.sub k e).1)), hr8, fun k e => e.elim (fun e => ⟨.inl (HT5'.out.sub k e).1, (HT5'.out.sub k e).2⟩) (fun e => ⟨.inr e, by have := Hk7.out.size; have := Hk15.out.size; omega, by have := Hk7.out.size; have := Hx5.out.lt; omega⟩), fun k e => .inl (HT5'.out.low k e), .inl HT5'.out.x⟩)
                  have Hx8 := Lib.hid (hk8.whole (Hk7.out.whole Hx5.out (fun h => h HT5'.out.x)) (fun e => (HT5'.out.sub _ e).2.2 rfl))
                  have Hk8 := Lib.hid ((Hk15.out.no.trans (Hk7.out.mono (S' := fun k => ¬ k < W.heap.size) (fun k _ e h => e (HT5'.out.low k h)))).trans (HkG.out _ _ hk8))
                  have HJ8 := Lib.hid (jt_put HJ.out Hok.out (off := (o : Int)) (fin := fb) Htl.out)
                  generalize putErr s (o : Int) fb p2 = er at *
                  generalize putRf s (o : Int) fb p2 tx = bf at *
                  clear hr8 hk8 HP2
                  go_wp2_with fail
                  go_meet
                  case rel => exact ⟨_, _, _, HJ8, HT8, Hx8, Hk8⟩
      case rest =>
      obtain ⟨s', F', G', HJ', HT', Hx', Hk'⟩ := hcut
      as_aux_lemma =>
        generalize wc = w9 at *
        have hgl9 := HT'.out.st.lt.1
        have hrl9 := HT'.out.rf.lt.1
        have hxl9 := Hx'.out.lt
        have hok' := HT'.out.st.ok
        have ht1 := hok'.top
        have ht2 := hok'.taken
        have ht3 := hok'.dl
        have Hok' := Lib.hid hok'
        have HTop := Lib.hid (fun (w' : World) (hk : Kp (fun _ => False) w9 w') => h_top (HT'.out.st.no hk))
        have HEnd := Lib.hid (fun (w' : World) (hk : Kp (fun _ => False) w9 w') => h_ended (HT'.out.st.no hk))
        have HRest := Lib.hid (fun (w' : World) (hk : Kp (fun _ => False) w9 w') => h_rest (HT'.out.st.no hk))
        have HCnt := Lib.hid (fun (w' : World) (hk : Kp (fun _ => False) w9 w') => h_count (HT'.out.st.no hk) _ rfl)
        have HCnr := Lib.hid (fun (w' : World) (hk : Kp (fun _ => False) w9 w') => j_count (HT'.out.rf.no hk) Hok'.out)
        have HHas := Lib.hid (fun (w' : World) (hk : Kp (fun _ => False) w9 w') => h_has (HT'.out.st.no hk) (y1.tmod 300))
        have HHar := Lib.hid (fun (w' : World) (hk : Kp (fun _ => False) w9 w') => j_has (HT'.out.rf.no hk) Hok'.out (y1.tmod 300))
        have HCs := Lib.hid (fun (w' : World) (hk : Kp (fun _ => False) w9 w') => h_cells (HT'.out.st.no hk))
        have HCr := Lib.hid (fun (w' : World) (hk : Kp (fun _ => False) w9 w') => j_cells (HT'.out.rf.no hk))
        have HCx := Lib.hid (fun (w' : World) (hk : Kp (fun _ => False) w9 w') => (hk.whole Hx'.out (fun h => h)))
        have hws : IntKind.i64.wrap ((s'.top : Int) - (s'.taken : Int)) = (s'.top : Int) - (s'.taken : Int) := IntWalk.i64_in _ (by omega)
        obtain ⟨eb, heb⟩ : ∃ eb, eb = s'.ended := ⟨_, rfl⟩
        have hge1 : decide (0 ≤ endI s') = eb := by
          rw [heb]
          unfold endI
          cases s'.ended <;> simp
        rw [← heb] at HEnd
        generalize endI s' = ei at *
        generalize countL s'.L = cn at *
        generalize s'.L.any (hasP (y1.tmod 300)) = hb at *
        clear heb hok'
        go_upto_region 42 with (fail)
        refine wp_region_held_drew (S := (fun w' => Kp (fun _ => False) w9 w')) (by kernel_rfl) (Kp.drew (Kp.refl _ w9)) (fun hHeld => ?_)
        refine wpAnyH_take (i := 0) (oi := { dst := some 248, op := Op.move (.tmp 3), type := _, pos := _, after := _, guard := _ }) (v := ?_) rfl (by kernel_rfl) (by kernel_rfl) (by kernel_rfl) (fun _ _ _ h => h) (Or.inl ⟨by rfl, ?_⟩) hHeld ?_
        rotate_left
        · intro w99 hSw
          first | (go_simp; done) | (go_simp; with_reducible rfl)
        try simp only [Act.put, List.setIfInBounds_toArray, List.set_cons_zero, List.set_cons_succ]
        refine wpAnyH_take (i := 2) (oi := { dst := some 250, op := Op.move (.tmp 4), type := _, pos := _, after := _, guard := _ }) (v := ?_) rfl (by kernel_rfl) (by kernel_rfl) (by kernel_rfl) (fun _ _ _ h => h) (Or.inl ⟨by rfl, ?_⟩) hHeld ?_
        rotate_left
        · intro w99 hSw
          first | (go_simp; done) | (go_simp; with_reducible rfl)
        try simp only [Act.put, List.setIfInBounds_toArray, List.set_cons_zero, List.set_cons_succ]
        refine wpAnyH_take (i := 3) (oi := { dst := some 251, op := Op.nilCheck (.tmp 250), type := _, pos := _, after := _, guard := _ }) (v := ?_) rfl (by kernel_rfl) (by kernel_rfl) (by kernel_rfl) (fun _ _ _ h => h) (Or.inl ⟨by rfl, ?_⟩) hHeld ?_
        rotate_left
        · intro w99 hSw
          first | (go_simp; done) | (go_simp; with_reducible rfl)
        try simp only [Act.put, List.setIfInBounds_toArray, List.set_cons_zero, List.set_cons_succ]
        refine wpAnyH_take (i := 4) (oi := { dst := some 252, op := Op.fieldAddr 58 (.tmp 251) 3, type := _, pos := _, after := _, guard := _ }) (v := ?_) rfl (by kernel_rfl) (by kernel_rfl) (by kernel_rfl) (fun _ _ _ h => h) (Or.inl ⟨by rfl, ?_⟩) hHeld ?_
        rotate_left
        · intro w99 hSw
          first | (go_simp; done) | (go_simp; with_reducible rfl)
        try simp only [Act.put, List.setIfInBounds_toArray, List.set_cons_zero, List.set_cons_succ]
        refine wpAnyH_take (i := 5) (oi := { dst := some 253, op := Op.load 3 (.tmp 252), type := _, pos := _, after := _, guard := _ }) (v := ?_) rfl (by kernel_rfl) (by kernel_rfl) (by kernel_rfl) (fun _ _ _ h => h) (Or.inl ⟨by rfl, ?_⟩) hHeld ?_
        rotate_left
        · intro w99 hSw
          have c9 := (HCr.out _ hSw).2.2.1; have hlr := Nat.lt_of_lt_of_le hrl9 hSw.size; have hlg := Nat.lt_of_lt_of_le hgl9 hSw.size; first | (go_simp; done) | (go_simp; with_reducible rfl)
        try simp only [Act.put, List.setIfInBounds_toArray, List.set_cons_zero, List.set_cons_succ]
        refine wpAnyH_ready (rs := [1]) (by kernel_rfl) (by simp) (AllReadyH.cons (o := { dst := some 249, op := Op.call { callee := Callee.value (Operand.func 18), args := #[(.tmp 248)], argTypes := #[25] }, type := _, pos := _, after := _, guard := _ }) rfl (fun K hK => ?_) AllReadyH.nil)
        go_simp
        with_reducible refine (HTop.out _ hHeld).mono ?_
        rintro e w' ⟨rfl, rfl⟩
        go_wp2_with fail
        refine hK.out _ _ hHeld (fun _ => ?_)
        clear hK
        try simp only [Act.put, List.setIfInBounds_toArray, List.set_cons_zero, List.set_cons_succ]
        refine wpAnyH_take (i := 6) (oi := { dst := some 254, op := Op.binOp BinOp.neq 3 (.tmp 249) (.tmp 253) 3, type := _, pos := _, after := _, guard := _ }) (v := ?_) rfl (by kernel_rfl) (by kernel_rfl) (by kernel_rfl) (fun _ _ _ h => h) (Or.inl ⟨by rfl, ?_⟩) hHeld ?_
        rotate_left
        · intro w99 hSw
          first | (go_simp; done) | (go_simp; with_reducible rfl)
        try simp only [Act.put, List.setIfInBounds_toArray, List.set_cons_zero, List.set_cons_succ]
        refine wpAnyH_take (i := 7) (oi := { dst := some 255, op := Op.move (.tmp 254), type := _, pos := _, after := _, guard := _ }) (v := ?_) rfl (by kernel_rfl) (by kernel_rfl) (by kernel_rfl) (fun _ _ _ h => h) (Or.inl ⟨by rfl, ?_⟩) hHeld ?_
        rotate_left
        · intro w99 hSw
          first | (go_simp; done) | (go_simp; with_reducible rfl)
        try simp only [Act.put, List.setIfInBounds_toArray, List.set_cons_zero, List.set_cons_succ]
        refine wpAnyH_take (i := 8) (oi := { dst := some 256, op := Op.move (.tmp 3), type := _, pos := _, after := _, guard := _ }) (v := ?_) rfl (by kernel_rfl) (by kernel_rfl) (by kernel_rfl) (fun _ _ _ h => h) (Or.inl ⟨by rfl, ?_⟩) hHeld ?_
        rotate_left
        · intro w99 hSw
          first | (go_simp; done) | (go_simp; with_reducible rfl)
        try simp only [Act.put, List.setIfInBounds_toArray, List.set_cons_zero, List.set_cons_succ]
        as_aux_lemma =>
          refine wpAnyH_take (i := 10) (oi := { dst := some 258, op := Op.move (.tmp 4), type := _, pos := _, after := _, guard := _ }) (v := ?_) rfl (by kernel_rfl) (by kernel_rfl) (by kernel_rfl) (fun _ _ _ h => h) (Or.inl ⟨by rfl, ?_⟩) hHeld ?_
          rotate_left
          · intro w99 hSw
            first | (go_simp; done) | (go_simp; with_reducible rfl)
          try simp only [Act.put, List.setIfInBounds_toArray, List.set_cons_zero, List.set_cons_succ]
          refine wpAnyH_take (i := 11) (oi := { dst := some 259, op := Op.nilCheck (.tmp 258), type := _, pos := _, after := _, guard := _ }) (v := ?_) rfl (by kernel_rfl) (by kernel_rfl) (by kernel_rfl) (fun _ _ _ h => h) (Or.inl ⟨by rfl, ?_⟩) hHeld ?_
          rotate_left
          · intro w99 hSw
            first | (go_simp; done) | (go_simp; with_reducible rfl)
          try simp only [Act.put, List.setIfInBounds_toArray, List.set_cons_zero, List.set_cons_succ]
          refine wpAnyH_take (i := 12) (oi := { dst := some 260, op := Op.fieldAddr 58 (.tmp 259) 4, type := _, pos := _, after := _, guard := _ }) (v := ?_) rfl (by kernel_rfl) (by kernel_rfl) (by kernel_rfl) (fun _ _ _ h => h) (Or.inl ⟨by rfl, ?_⟩) hHeld ?_
          rotate_left
          · intro w99 hSw
            first | (go_simp; done) | (go_simp; with_reducible rfl)
          try simp only [Act.put, List.setIfInBounds_toArray, List.set_cons_zero, List.set_cons_succ]
          refine wpAnyH_take (i := 13) (oi := { dst := some 261, op := Op.load 3 (.tmp 260), type := _, pos := _, after := _, guard := _ }) (v := ?_) rfl (by kernel_rfl) (by kernel_rfl) (by kernel_rfl) (fun _ _ _ h => h) (Or.inl ⟨by rfl, ?_⟩) hHeld ?_
          rotate_left
          · intro w99 hSw
            have c9 := (HCr.out _ hSw).2.2.2.1; have hlr := Nat.lt_of_lt_of_le hrl9 hSw.size; have hlg := Nat.lt_of_lt_of_le hgl9 hSw.size; first | (go_simp; done) | (go_simp; with_reducible rfl)
          try simp only [Act.put, List.setIfInBounds_toArray, List.set_cons_zero, List.set_cons_succ]
          refine wpAnyH_take (i := 14) (oi := { dst := some 262, op := Op.binOp BinOp.geq 3 (.tmp 261) (.const (.int .i64 0)) 3, type := _, pos := _, after := _, guard := _ }) (v := ?_) rfl (by kernel_rfl) (by kernel_rfl) (by kernel_rfl) (fun _ _ _ h => h) (Or.inl ⟨by rfl, ?_⟩) hHeld ?_
          rotate_left
          · intro w99 hSw
            first | (go_simp; done) | (go_simp; with_reducible rfl)
          try simp only [Act.put, List.setIfInBounds_toArray, List.set_cons_zero, List.set_cons_succ]
          refine wpAnyH_ready (rs := [9]) (by kernel_rfl) (by simp) (AllReadyH.cons (o := { dst := some 257, op := Op.call { callee := Callee.value (Operand.func 22), args := #[(.tmp 256)], argTypes := #[25] }, type := _, pos := _, after := _, guard := _ }) rfl (fun K hK => ?_) AllReadyH.nil)
          go_simp
          with_reducible refine (HEnd.out _ hHeld).mono ?_
          rintro e w' ⟨rfl, rfl⟩
          go_wp2_with fail
          refine hK.out _ _ hHeld (fun _ => ?_)
          clear hK
          try simp only [Act.put, List.setIfInBounds_toArray, List.set_cons_zero, List.set_cons_succ]
          refine wpAnyH_take (i := 15) (oi := { dst := some 263, op := Op.binOp BinOp.neq 4 (.tmp 257) (.tmp 262) 4, type := _, pos := _, after := _, guard := _ }) (v := ?_) rfl (by kernel_rfl) (by kernel_rfl) (by kernel_rfl) (fun _ _ _ h => h) (Or.inl ⟨by rfl, ?_⟩) hHeld ?_
          rotate_left
          · intro w99 hSw
            first | (go_simp; done) | (go_simp; with_reducible rfl)
          try simp only [Act.put, List.setIfInBounds_toArray, List.set_cons_zero, List.set_cons_succ]
          refine wpAnyH_take (i := 16) (oi := { dst := some 264, op := Op.pick (.tmp 255) (.const (Value.bool true)) (.tmp 263), type := _, pos := _, after := _, guard := _ }) (v := ?_) rfl (by kernel_rfl) (by kernel_rfl) (by kernel_rfl) (fun _ _ _ h => h) (Or.inl ⟨by rfl, ?_⟩) hHeld ?_
          rotate_left
          · intro w99 hSw
            first | (go_simp; done) | (go_simp; with_reducible rfl)
          try simp only [Act.put, List.setIfInBounds_toArray, List.set_cons_zero, List.set_cons_succ]
          refine wpAnyH_take (i := 17) (oi := { dst := some 265, op := Op.move (.tmp 264), type := _, pos := _, after := _, guard := _ }) (v := ?_) rfl (by kernel_rfl) (by kernel_rfl) (by kernel_rfl) (fun _ _ _ h => h) (Or.inl ⟨by rfl, ?_⟩) hHeld ?_
          rotate_left
          · intro w99 hSw
            first | (go_simp; done) | (go_simp; with_reducible rfl)
          try simp only [Act.put, List.setIfInBounds_toArray, List.set_cons_zero, List.set_cons_succ]
          as_aux_lemma =>
            refine wpAnyH_take (i := 18) (oi := { dst := some 266, op := Op.move (.tmp 3), type := _, pos := _, after := _, guard := _ }) (v := ?_) rfl (by kernel_rfl) (by kernel_rfl) (by kernel_rfl) (fun _ _ _ h => h) (Or.inl ⟨by rfl, ?_⟩) hHeld ?_
            rotate_left
            · intro w99 hSw
              first | (go_simp; done) | (go_simp; with_reducible rfl)
            try simp only [Act.put, List.setIfInBounds_toArray, List.set_cons_zero, List.set_cons_succ]
            refine wpAnyH_take (i := 20) (oi := { dst := some 268, op := Op.move (.tmp 4), type := _, pos := _, after := _, guard := _ }) (v := ?_) rfl (by kernel_rfl) (by kernel_rfl) (by kernel_rfl) (fun _ _ _ h => h) (Or.inl ⟨by rfl, ?_⟩) hHeld ?_
            rotate_left
            · intro w99 hSw
              first | (go_simp; done) | (go_simp; with_reducible rfl)
            try simp only [Act.put, List.setIfInBounds_toArray, List.set_cons_zero, List.set_cons_succ]
            refine wpAnyH_take (i := 21) (oi := { dst := some 269, op := Op.nilCheck (.tmp 268), type := _, pos := _, after := _, guard := _ }) (v := ?_) rfl (by kernel_rfl) (by kernel_rfl) (by kernel_rfl) (fun _ _ _ h => h) (Or.inl ⟨by rfl, ?_⟩) hHeld ?_
            rotate_left
            · intro w99 hSw
              first | (go_simp; done) | (go_simp; with_reducible rfl)
            try simp only [Act.put, List.setIfInBounds_toArray, List.set_cons_zero, List.set_cons_succ]
            refine wpAnyH_take (i := 22) (oi := { dst := some 270, op := Op.fieldAddr 58 (.tmp 269) 3, type := _, pos := _, after := _, guard := _ }) (v := ?_) rfl (by kernel_rfl) (by kernel_rfl) (by kernel_rfl) (fun _ _ _ h => h) (Or.inl ⟨by rfl, ?_⟩) hHeld ?_
            rotate_left
            · intro w99 hSw
              first | (go_simp; done) | (go_simp; with_reducible rfl)
            try simp only [Act.put, List.setIfInBounds_toArray, List.set_cons_zero, List.set_cons_succ]
            refine wpAnyH_take (i := 23) (oi := { dst := some 271, op := Op.load 3 (.tmp 270), type := _, pos := _, after := _, guard := _ }) (v := ?_) rfl (by kernel_rfl) (by kernel_rfl) (by kernel_rfl) (fun _ _ _ h => h) (Or.inl ⟨by rfl, ?_⟩) hHeld ?_
            rotate_left
            · intro w99 hSw
              have c9 := (HCr.out _ hSw).2.2.1; have hlr := Nat.lt_of_lt_of_le hrl9 hSw.size; have hlg := Nat.lt_of_lt_of_le hgl9 hSw.size; first | (go_simp; done) | (go_simp; with_reducible rfl)
            try simp only [Act.put, List.setIfInBounds_toArray, List.set_cons_zero, List.set_cons_succ]
            refine wpAnyH_take (i := 24) (oi := { dst := some 272, op := Op.move (.tmp 4), type := _, pos := _, after := _, guard := _ }) (v := ?_) rfl (by kernel_rfl) (by kernel_rfl) (by kernel_rfl) (fun _ _ _ h => h) (Or.inl ⟨by rfl, ?_⟩) hHeld ?_
            rotate_left
            · intro w99 hSw
              first | (go_simp; done) | (go_simp; with_reducible rfl)
            try simp only [Act.put, List.setIfInBounds_toArray, List.set_cons_zero, List.set_cons_succ]
            refine wpAnyH_take (i := 25) (oi := { dst := some 273, op := Op.nilCheck (.tmp 272), type := _, pos := _, after := _, guard := _ }) (v := ?_) rfl (by kernel_rfl) (by kernel_rfl) (by kernel_rfl) (fun _ _ _ h => h) (Or.inl ⟨by rfl, ?_⟩) hHeld ?_
            rotate_left
            · intro w99 hSw
              first | (go_simp; done) | (go_simp; with_reducible rfl)
            try simp only [Act.put, List.setIfInBounds_toArray, List.set_cons_zero, List.set_cons_succ]
            refine wpAnyH_take (i := 26) (oi := { dst := some 274, op := Op.fieldAddr 58 (.tmp 273) 8, type := _, pos := _, after := _, guard := _ }) (v := ?_) rfl (by kernel_rfl) (by kernel_rfl) (by kernel_rfl) (fun _ _ _ h => h) (Or.inl ⟨by rfl, ?_⟩) hHeld ?_
            rotate_left
            · intro w99 hSw
              first | (go_simp; done) | (go_simp; with_reducible rfl)
            try simp only [Act.put, List.setIfInBounds_toArray, List.set_cons_zero, List.set_cons_succ]
            refine wpAnyH_take (i := 27) (oi := { dst := some 275, op := Op.load 3 (.tmp 274), type := _, pos := _, after := _, guard := _ }) (v := ?_) rfl (by kernel_rfl) (by kernel_rfl) (by kernel_rfl) (fun _ _ _ h => h) (Or.inl ⟨by rfl, ?_⟩) hHeld ?_
            rotate_left
            · intro w99 hSw
              have c9 := (HCr.out _ hSw).2.2.2.2; have hlr := Nat.lt_of_lt_of_le hrl9 hSw.size; have hlg := Nat.lt_of_lt_of_le hgl9 hSw.size; first | (go_simp; done) | (go_simp; with_reducible rfl)
            try simp only [Act.put, List.setIfInBounds_toArray, List.set_cons_zero, List.set_cons_succ]
            as_aux_lemma =>
              refine wpAnyH_take (i := 28) (oi := { dst := some 276, op := Op.binOp BinOp.sub 3 (.tmp 271) (.tmp 275) 3, type := _, pos := _, after := _, guard := _ }) (v := ?_) rfl (by kernel_rfl) (by kernel_rfl) (by kernel_rfl) (fun _ _ _ h => h) (Or.inl ⟨by rfl, ?_⟩) hHeld ?_
              rotate_left
              · intro w99 hSw
                first | (go_simp; done) | (go_simp; with_reducible rfl)
              try simp only [Act.put, List.setIfInBounds_toArray, List.set_cons_zero, List.set_cons_succ]
              refine wpAnyH_ready (rs := [19]) (by kernel_rfl) (by simp) (AllReadyH.cons (o := { dst := some 267, op := Op.call { callee := Callee.value (Operand.func 15), args := #[(.tmp 266)], argTypes := #[25] }, type := _, pos := _, after := _, guard := _ }) rfl (fun K hK => ?_) AllReadyH.nil)
              go_simp
              with_reducible refine (HRest.out _ hHeld).mono ?_
              rintro e w' ⟨rfl, hkh⟩
              go_wp2_with fail
              have hx9 := Kp.trans hHeld hkh
              refine hK.out _ _ hx9 (fun _ => ?_)
              clear hK hHeld
              have hHeld := hx9
              clear hx9
              clear hkh
              generalize w' = wd19 at *
              try simp only [Act.put, List.setIfInBounds_toArray, List.set_cons_zero, List.set_cons_succ]
              refine wpAnyH_take (i := 29) (oi := { dst := some 277, op := Op.binOp BinOp.neq 3 (.tmp 267) (.tmp 276) 3, type := _, pos := _, after := _, guard := _ }) (v := ?_) rfl (by kernel_rfl) (by kernel_rfl) (by kernel_rfl) (fun _ _ _ h => h) (Or.inl ⟨by rfl, ?_⟩) hHeld ?_
              rotate_left
              · intro w99 hSw
                first | (go_simp; done) | (go_simp; with_reducible rfl)
              try simp only [Act.put, List.setIfInBounds_toArray, List.set_cons_zero, List.set_cons_succ]
              refine wpAnyH_take (i := 30) (oi := { dst := some 278, op := Op.pick (.tmp 265) (.const (Value.bool true)) (.tmp 277), type := _, pos := _, after := _, guard := _ }) (v := ?_) rfl (by kernel_rfl) (by kernel_rfl) (by kernel_rfl) (fun _ _ _ h => h) (Or.inl ⟨by rfl, ?_⟩) hHeld ?_
              rotate_left
              · intro w99 hSw
                first | (go_simp; done) | (go_simp; with_reducible rfl)
              try simp only [Act.put, List.setIfInBounds_toArray, List.set_cons_zero, List.set_cons_succ]
              refine wpAnyH_take (i := 31) (oi := { dst := some 279, op := Op.move (.tmp 278), type := _, pos := _, after := _, guard := _ }) (v := ?_) rfl (by kernel_rfl) (by kernel_rfl) (by kernel_rfl) (fun _ _ _ h => h) (Or.inl ⟨by rfl, ?_⟩) hHeld ?_
              rotate_left
              · intro w99 hSw
                first | (go_simp; done) | (go_simp; with_reducible rfl)
              try simp only [Act.put, List.setIfInBounds_toArray, List.set_cons_zero, List.set_cons_succ]
              refine wpAnyH_take (i := 32) (oi := { dst := some 280, op := Op.move (.tmp 3), type := _, pos := _, after := _, guard := _ }) (v := ?_) rfl (by kernel_rfl) (by kernel_rfl) (by kernel_rfl) (fun _ _ _ h => h) (Or.inl ⟨by rfl, ?_⟩) hHeld ?_
              rotate_left
              · intro w99 hSw
                first | (go_simp; done) | (go_simp; with_reducible rfl)
              try simp only [Act.put, List.setIfInBounds_toArray, List.set_cons_zero, List.set_cons_succ]
              refine wpAnyH_take (i := 33) (oi := { dst := some 281, op := Op.nilCheck (.tmp 280), type := _, pos := _, after := _, guard := _ }) (v := ?_) rfl (by kernel_rfl) (by kernel_rfl) (by kernel_rfl) (fun _ _ _ h => h) (Or.inl ⟨by rfl, ?_⟩) hHeld ?_
              rotate_left
              · intro w99 hSw
                first | (go_simp; done) | (go_simp; with_reducible rfl)
              try simp only [Act.put, List.setIfInBounds_toArray, List.set_cons_zero, List.set_cons_succ]
              refine wpAnyH_take (i := 34) (oi := { dst := some 282, op := Op.fieldAddr 45 (.tmp 281) 0, type := _, pos := _, after := _, guard := _ }) (v := ?_) rfl (by kernel_rfl) (by kernel_rfl) (by kernel_rfl) (fun _ _ _ h => h) (Or.inl ⟨by rfl, ?_⟩) hHeld ?_
              rotate_left
              · intro w99 hSw
                first | (go_simp; done) | (go_simp; with_reducible rfl)
              try simp only [Act.put, List.setIfInBounds_toArray, List.set_cons_zero, List.set_cons_succ]
              refine wpAnyH_take (i := 36) (oi := { dst := some 284, op := Op.move (.tmp 4), type := _, pos := _, after := _, guard := _ }) (v := ?_) rfl (by kernel_rfl) (by kernel_rfl) (by kernel_rfl) (fun _ _ _ h => h) (Or.inl ⟨by rfl, ?_⟩) hHeld ?_
              rotate_left
              · intro w99 hSw
                first | (go_simp; done) | (go_simp; with_reducible rfl)
              try simp only [Act.put, List.setIfInBounds_toArray, List.set_cons_zero, List.set_cons_succ]
              as_aux_lemma =>
                refine wpAnyH_take (i := 37) (oi := { dst := some 285, op := Op.nilCheck (.tmp 284), type := _, pos := _, after := _, guard := _ }) (v := ?_) rfl (by kernel_rfl) (by kernel_rfl) (by kernel_rfl) (fun _ _ _ h => h) (Or.inl ⟨by rfl, ?_⟩) hHeld ?_
                rotate_left
                · intro w99 hSw
                  first | (go_simp; done) | (go_simp; with_reducible rfl)
                try simp only [Act.put, List.setIfInBounds_toArray, List.set_cons_zero, List.set_cons_succ]
                refine wpAnyH_take (i := 38) (oi := { dst := some 286, op := Op.fieldAddr 58 (.tmp 285) 0, type := _, pos := _, after := _, guard := _ }) (v := ?_) rfl (by kernel_rfl) (by kernel_rfl) (by kernel_rfl) (fun _ _ _ h => h) (Or.inl ⟨by rfl, ?_⟩) hHeld ?_
                rotate_left
                · intro w99 hSw
                  first | (go_simp; done) | (go_simp; with_reducible rfl)
                try simp only [Act.put, List.setIfInBounds_toArray, List.set_cons_zero, List.set_cons_succ]
                refine wpAnyH_ready (rs := [35]) (by kernel_rfl) (by simp) (AllReadyH.cons (o := { dst := some 283, op := Op.call { callee := Callee.value (Operand.func 20), args := #[(.tmp 282)], argTypes := #[41] }, type := _, pos := _, after := _, guard := _ }) rfl (fun K hK => ?_) AllReadyH.nil)
                go_simp
                with_reducible refine (HCnt.out _ hHeld).mono ?_
                rintro e w' ⟨rfl, hkh⟩
                go_wp2_with fail
                have hx9 := Kp.trans hHeld hkh
                refine hK.out _ _ hx9 (fun _ => ?_)
                clear hK hHeld
                have hHeld := hx9
                clear hx9
                clear hkh
                generalize w' = wd35 at *
                try simp only [Act.put, List.setIfInBounds_toArray, List.set_cons_zero, List.set_cons_succ]
                refine wpAnyH_ready (rs := [39]) (by kernel_rfl) (by simp) (AllReadyH.cons (o := { dst := some 287, op := Op.call { callee := Callee.value (Operand.func 30), args := #[(.tmp 286)], argTypes := #[55] }, type := _, pos := _, after := _, guard := _ }) rfl (fun K hK => ?_) AllReadyH.nil)
                go_simp
                with_reducible refine (HCnr.out _ hHeld).mono ?_
                rintro e w' ⟨rfl, hkh⟩
                go_wp2_with fail
                have hx9 := Kp.trans hHeld hkh
                refine hK.out _ _ hx9 (fun _ => ?_)
                clear hK hHeld
                have hHeld := hx9
                clear hx9
                clear hkh
                generalize w' = wd39 at *
                try simp only [Act.put, List.setIfInBounds_toArray, List.set_cons_zero, List.set_cons_succ]
                refine wpAnyH_take (i := 40) (oi := { dst := some 288, op := Op.binOp BinOp.neq 3 (.tmp 283) (.tmp 287) 3, type := _, pos := _, after := _, guard := _ }) (v := ?_) rfl (by kernel_rfl) (by kernel_rfl) (by kernel_rfl) (fun _ _ _ h => h) (Or.inl ⟨by rfl, ?_⟩) hHeld ?_
                rotate_left
                · intro w99 hSw
                  first | (go_simp; done) | (go_simp; with_reducible rfl)
                try simp only [Act.put, List.setIfInBounds_toArray, List.set_cons_zero, List.set_cons_succ]
                refine wpAnyH_take (i := 41) (oi := { dst := some 289, op := Op.pick (.tmp 279) (.const (Value.bool true)) (.tmp 288), type := _, pos := _, after := _, guard := _ }) (v := ?_) rfl (by kernel_rfl) (by kernel_rfl) (by kernel_rfl) (fun _ _ _ h => h) (Or.inl ⟨by rfl, ?_⟩) hHeld ?_
                rotate_left
                · intro w99 hSw
                  first | (go_simp; done) | (go_simp; with_reducible rfl)
                try simp only [Act.put, List.setIfInBounds_toArray, List.set_cons_zero, List.set_cons_succ]
                refine wpAnyH_take (i := 42) (oi := { dst := some 290, op := Op.move (.tmp 289), type := _, pos := _, after := _, guard := _ }) (v := ?_) rfl (by kernel_rfl) (by kernel_rfl) (by kernel_rfl) (fun _ _ _ h => h) (Or.inl ⟨by rfl, ?_⟩) hHeld ?_
                rotate_left
                · intro w99 hSw
                  first | (go_simp; done) | (go_simp; with_reducible rfl)
                try simp only [Act.put, List.setIfInBounds_toArray, List.set_cons_zero, List.set_cons_succ]
                refine wpAnyH_take (i := 43) (oi := { dst := some 291, op := Op.move (.tmp 3), type := _, pos := _, after := _, guard := _ }) (v := ?_) rfl (by kernel_rfl) (by kernel_rfl) (by kernel_rfl) (fun _ _ _ h => h) (Or.inl ⟨by rfl, ?_⟩) hHeld ?_
                rotate_left
                · intro w99 hSw
                  first | (go_simp; done) | (go_simp; with_reducible rfl)
                try simp only [Act.put, List.setIfInBounds_toArray, List.set_cons_zero, List.set_cons_succ]
                refine wpAnyH_take (i := 44) (oi := { dst := some 292, op := Op.nilCheck (.tmp 291), type := _, pos := _, after := _, guard := _ }) (v := ?_) rfl (by kernel_rfl) (by kernel_rfl) (by kernel_rfl) (fun _ _ _ h => h) (Or.inl ⟨by rfl, ?_⟩) hHeld ?_
                rotate_left
                · intro w99 hSw
                  first | (go_simp; done) | (go_simp; with_reducible rfl)
                try simp only [Act.put, List.setIfInBounds_toArray, List.set_cons_zero, List.set_cons_succ]
                as_aux_lemma =>
                  refine wpAnyH_take (i := 45) (oi := { dst := some 293, op := Op.fieldAddr 45 (.tmp 292) 1, type := _, pos := _, after := _, guard := _ }) (v := ?_) rfl (by kernel_rfl) (by kernel_rfl) (by kernel_rfl) (fun _ _ _ h => h) (Or.inl ⟨by rfl, ?_⟩) hHeld ?_
                  rotate_left
                  · intro w99 hSw
                    first | (go_simp; done) | (go_simp; with_reducible rfl)
                  try simp only [Act.put, List.setIfInBounds_toArray, List.set_cons_zero, List.set_cons_succ]
                  refine wpAnyH_take (i := 46) (oi := { dst := some 294, op := Op.fieldAddr 43 (.tmp 293) 2, type := _, pos := _, after := _, guard := _ }) (v := ?_) rfl (by kernel_rfl) (by kernel_rfl) (by kernel_rfl) (fun _ _ _ h => h) (Or.inl ⟨by rfl, ?_⟩) hHeld ?_
                  rotate_left
                  · intro w99 hSw
                    first | (go_simp; done) | (go_simp; with_reducible rfl)
                  try simp only [Act.put, List.setIfInBounds_toArray, List.set_cons_zero, List.set_cons_succ]
                  refine wpAnyH_take (i := 47) (oi := { dst := some 295, op := Op.load 3 (.tmp 294), type := _, pos := _, after := _, guard := _ }) (v := ?_) rfl (by kernel_rfl) (by kernel_rfl) (by kernel_rfl) (fun _ _ _ h => h) (Or.inl ⟨by rfl, ?_⟩) hHeld ?_
                  rotate_left
                  · intro w99 hSw
                    have c9 := (HCs.out _ hSw).2.1; have hlr := Nat.lt_of_lt_of_le hrl9 hSw.size; have hlg := Nat.lt_of_lt_of_le hgl9 hSw.size; first | (go_simp; done) | (go_simp; with_reducible rfl)
                  try simp only [Act.put, List.setIfInBounds_toArray, List.set_cons_zero, List.set_cons_succ]
                  refine wpAnyH_take (i := 48) (oi := { dst := some 296, op := Op.move (.tmp 4), type := _, pos := _, after := _, guard := _ }) (v := ?_) rfl (by kernel_rfl) (by kernel_rfl) (by kernel_rfl) (fun _ _ _ h => h) (Or.inl ⟨by rfl, ?_⟩) hHeld ?_
                  rotate_left
                  · intro w99 hSw
                    first | (go_simp; done) | (go_simp; with_reducible rfl)
                  try simp only [Act.put, List.setIfInBounds_toArray, List.set_cons_zero, List.set_cons_succ]
                  refine wpAnyH_take (i := 49) (oi := { dst := some 297, op := Op.nilCheck (.tmp 296), type := _, pos := _, after := _, guard := _ }) (v := ?_) rfl (by kernel_rfl) (by kernel_rfl) (by kernel_rfl) (fun _ _ _ h => h) (Or.inl ⟨by rfl, ?_⟩) hHeld ?_
                  rotate_left
                  · intro w99 hSw
                    first | (go_simp; done) | (go_simp; with_reducible rfl)
                  try simp only [Act.put, List.setIfInBounds_toArray, List.set_cons_zero, List.set_cons_succ]
                  refine wpAnyH_take (i := 50) (oi := { dst := some 298, op := Op.fieldAddr 58 (.tmp 297) 1, type := _, pos := _, after := _, guard := _ }) (v := ?_) rfl (by kernel_rfl) (by kernel_rfl) (by kernel_rfl) (fun _ _ _ h => h) (Or.inl ⟨by rfl, ?_⟩) hHeld ?_
                  rotate_left
                  · intro w99 hSw
                    first | (go_simp; done) | (go_simp; with_reducible rfl)
                  try simp only [Act.put, List.setIfInBounds_toArray, List.set_cons_zero, List.set_cons_succ]
                  refine wpAnyH_take (i := 51) (oi := { dst := some 299, op := Op.fieldAddr 56 (.tmp 298) 2, type := _, pos := _, after := _, guard := _ }) (v := ?_) rfl (by kernel_rfl) (by kernel_rfl) (by kernel_rfl) (fun _ _ _ h => h) (Or.inl ⟨by rfl, ?_⟩) hHeld ?_
                  rotate_left
                  · intro w99 hSw
                    first | (go_simp; done) | (go_simp; with_reducible rfl)
                  try simp only [Act.put, List.setIfInBounds_toArray, List.set_cons_zero, List.set_cons_succ]
                  refine wpAnyH_take (i := 52) (oi := { dst := some 300, op := Op.load 3 (.tmp 299), type := _, pos := _, after := _, guard := _ }) (v := ?_) rfl (by kernel_rfl) (by kernel_rfl) (by kernel_rfl) (fun _ _ _ h => h) (Or.inl ⟨by rfl, ?_⟩) hHeld ?_
                  rotate_left
                  · intro w99 hSw
                    have c9 := (HCr.out _ hSw).2.1; have hlr := Nat.lt_of_lt_of_le hrl9 hSw.size; have hlg := Nat.lt_of_lt_of_le hgl9 hSw.size; first | (go_simp; done) | (go_simp; with_reducible rfl)
                  try simp only [Act.put, List.setIfInBounds_toArray, List.set_cons_zero, List.set_cons_succ]
                  refine wpAnyH_take (i := 53) (oi := { dst := some 301, op := Op.binOp BinOp.neq 3 (.tmp 295) (.tmp 300) 3, type := _, pos := _, after := _, guard := _ }) (v := ?_) rfl (by kernel_rfl) (by kernel_rfl) (by kernel_rfl) (fun _ _ _ h => h) (Or.inl ⟨by rfl, ?_⟩) hHeld ?_
                  rotate_left
                  · intro w99 hSw
                    first | (go_simp; done) | (go_simp; with_reducible rfl)
                  try simp only [Act.put, List.setIfInBounds_toArray, List.set_cons_zero, List.set_cons_succ]
                  as_aux_lemma =>
                    refine wpAnyH_take (i := 54) (oi := { dst := some 302, op := Op.pick (.tmp 290) (.const (Value.bool true)) (.tmp 301), type := _, pos := _, after := _, guard := _ }) (v := ?_) rfl (by kernel_rfl) (by kernel_rfl) (by kernel_rfl) (fun _ _ _ h => h) (Or.inl ⟨by rfl, ?_⟩) hHeld ?_
                    rotate_left
                    · intro w99 hSw
                      first | (go_simp; done) | (go_simp; with_reducible rfl)
                    try simp only [Act.put, List.setIfInBounds_toArray, List.set_cons_zero, List.set_cons_succ]
                    refine wpAnyH_take (i := 55) (oi := { dst := some 303, op := Op.move (.tmp 302), type := _, pos := _, after := _, guard := _ }) (v := ?_) rfl (by kernel_rfl) (by kernel_rfl) (by kernel_rfl) (fun _ _ _ h => h) (Or.inl ⟨by rfl, ?_⟩) hHeld ?_
                    rotate_left
                    · intro w99 hSw
                      first | (go_simp; done) | (go_simp; with_reducible rfl)
                    try simp only [Act.put, List.setIfInBounds_toArray, List.set_cons_zero, List.set_cons_succ]
                    refine wpAnyH_take (i := 56) (oi := { dst := some 304, op := Op.move (.tmp 3), type := _, pos := _, after := _, guard := _ }) (v := ?_) rfl (by kernel_rfl) (by kernel_rfl) (by kernel_rfl) (fun _ _ _ h => h) (Or.inl ⟨by rfl, ?_⟩) hHeld ?_
                    rotate_left
                    · intro w99 hSw
                      first | (go_simp; done) | (go_simp; with_reducible rfl)
                    try simp only [Act.put, List.setIfInBounds_toArray, List.set_cons_zero, List.set_cons_succ]
                    refine wpAnyH_take (i := 57) (oi := { dst := some 305, op := Op.nilCheck (.tmp 304), type := _, pos := _, after := _, guard := _ }) (v := ?_) rfl (by kernel_rfl) (by kernel_rfl) (by kernel_rfl) (fun _ _ _ h => h) (Or.inl ⟨by rfl, ?_⟩) hHeld ?_
                    rotate_left
                    · intro w99 hSw
                      first | (go_simp; done) | (go_simp; with_reducible rfl)
                    try simp only [Act.put, List.setIfInBounds_toArray, List.set_cons_zero, List.set_cons_succ]
                    refine wpAnyH_take (i := 58) (oi := { dst := some 306, op := Op.fieldAddr 45 (.tmp 305) 1, type := _, pos := _, after := _, guard := _ }) (v := ?_) rfl (by kernel_rfl) (by kernel_rfl) (by kernel_rfl) (fun _ _ _ h => h) (Or.inl ⟨by rfl, ?_⟩) hHeld ?_
                    rotate_left
                    · intro w99 hSw
                      first | (go_simp; done) | (go_simp; with_reducible rfl)
                    try simp only [Act.put, List.setIfInBounds_toArray, List.set_cons_zero, List.set_cons_succ]
                    refine wpAnyH_take (i := 59) (oi := { dst := some 307, op := Op.fieldAddr 43 (.tmp 306) 1, type := _, pos := _, after := _, guard := _ }) (v := ?_) rfl (by kernel_rfl) (by kernel_rfl) (by kernel_rfl) (fun _ _ _ h => h) (Or.inl ⟨by rfl, ?_⟩) hHeld ?_
                    rotate_left
                    · intro w99 hSw
                      first | (go_simp; done) | (go_simp; with_reducible rfl)
                    try simp only [Act.put, List.setIfInBounds_toArray, List.set_cons_zero, List.set_cons_succ]
                    refine wpAnyH_take (i := 60) (oi := { dst := some 308, op := Op.load 3 (.tmp 307), type := _, pos := _, after := _, guard := _ }) (v := ?_) rfl (by kernel_rfl) (by kernel_rfl) (by kernel_rfl) (fun _ _ _ h => h) (Or.inl ⟨by rfl, ?_⟩) hHeld ?_
                    rotate_left
                    · intro w99 hSw
                      have c9 := (HCs.out _ hSw).1; have hlr := Nat.lt_of_lt_of_le hrl9 hSw.size; have hlg := Nat.lt_of_lt_of_le hgl9 hSw.size; first | (go_simp; done) | (go_simp; with_reducible rfl)
                    try simp only [Act.put, List.setIfInBounds_toArray, List.set_cons_zero, List.set_cons_succ]
                    refine wpAnyH_take (i := 61) (oi := { dst := some 309, op := Op.move (.tmp 4), type := _, pos := _, after := _, guard := _ }) (v := ?_) rfl (by kernel_rfl) (by kernel_rfl) (by kernel_rfl) (fun _ _ _ h => h) (Or.inl ⟨by rfl, ?_⟩) hHeld ?_
                    rotate_left
                    · intro w99 hSw
                      first | (go_simp; done) | (go_simp; with_reducible rfl)
                    try simp only [Act.put, List.setIfInBounds_toArray, List.set_cons_zero, List.set_cons_succ]
                    refine wpAnyH_take (i := 62) (oi := { dst := some 310, op := Op.nilCheck (.tmp 309), type := _, pos := _, after := _, guard := _ }) (v := ?_) rfl (by kernel_rfl) (by kernel_rfl) (by kernel_rfl) (fun _ _ _ h => h) (Or.inl ⟨by rfl, ?_⟩) hHeld ?_
                    rotate_left
                    · intro w99 hSw
                      first | (go_simp; done) | (go_simp; with_reducible rfl)
                    try simp only [Act.put, List.setIfInBounds_toArray, List.set_cons_zero, List.set_cons_succ]
                    as_aux_lemma =>
                      refine wpAnyH_take (i := 63) (oi := { dst := some 311, op := Op.fieldAddr 58 (.tmp 310) 1, type := _, pos := _, after := _, guard := _ }) (v := ?_) rfl (by kernel_rfl) (by kernel_rfl) (by kernel_rfl) (fun _ _ _ h => h) (Or.inl ⟨by rfl, ?_⟩) hHeld ?_
                      rotate_left
                      · intro w99 hSw
                        first | (go_simp; done) | (go_simp; with_reducible rfl)
                      try simp only [Act.put, List.setIfInBounds_toArray, List.set_cons_zero, List.set_cons_succ]
                      refine wpAnyH_take (i := 64) (oi := { dst := some 312, op := Op.fieldAddr 56 (.tmp 311) 1, type := _, pos := _, after := _, guard := _ }) (v := ?_) rfl (by kernel_rfl) (by kernel_rfl) (by kernel_rfl) (fun _ _ _ h => h) (Or.inl ⟨by rfl, ?_⟩) hHeld ?_
                      rotate_left
                      · intro w99 hSw
                        first | (go_simp; done) | (go_simp; with_reducible rfl)
                      try simp only [Act.put, List.setIfInBounds_toArray, List.set_cons_zero, List.set_cons_succ]
                      refine wpAnyH_take (i := 65) (oi := { dst := some 313, op := Op.load 3 (.tmp 312), type := _, pos := _, after := _, guard := _ }) (v := ?_) rfl (by kernel_rfl) (by kernel_rfl) (by kernel_rfl) (fun _ _ _ h => h) (Or.inl ⟨by rfl, ?_⟩) hHeld ?_
                      rotate_left
                      · intro w99 hSw
                        have c9 := (HCr.out _ hSw).1; have hlr := Nat.lt_of_lt_of_le hrl9 hSw.size; have hlg := Nat.lt_of_lt_of_le hgl9 hSw.size; first | (go_simp; done) | (go_simp; with_reducible rfl)
                      try simp only [Act.put, List.setIfInBounds_toArray, List.set_cons_zero, List.set_cons_succ]
                      refine wpAnyH_take (i := 66) (oi := { dst := some 314, op := Op.binOp BinOp.neq 3 (.tmp 308) (.tmp 313) 3, type := _, pos := _, after := _, guard := _ }) (v := ?_) rfl (by kernel_rfl) (by kernel_rfl) (by kernel_rfl) (fun _ _ _ h => h) (Or.inl ⟨by rfl, ?_⟩) hHeld ?_
                      rotate_left
                      · intro w99 hSw
                        first | (go_simp; done) | (go_simp; with_reducible rfl)
                      try simp only [Act.put, List.setIfInBounds_toArray, List.set_cons_zero, List.set_cons_succ]
                      refine wpAnyH_take (i := 67) (oi := { dst := some 315, op := Op.pick (.tmp 303) (.const (Value.bool true)) (.tmp 314), type := _, pos := _, after := _, guard := _ }) (v := ?_) rfl (by kernel_rfl) (by kernel_rfl) (by kernel_rfl) (fun _ _ _ h => h) (Or.inl ⟨by rfl, ?_⟩) hHeld ?_
                      rotate_left
                      · intro w99 hSw
                        first | (go_simp; done) | (go_simp; with_reducible rfl)
                      try simp only [Act.put, List.setIfInBounds_toArray, List.set_cons_zero, List.set_cons_succ]
                      refine wpAnyH_take (i := 68) (oi := { dst := some 316, op := Op.move (.tmp 315), type := _, pos := _, after := _, guard := _ }) (v := ?_) rfl (by kernel_rfl) (by kernel_rfl) (by kernel_rfl) (fun _ _ _ h => h) (Or.inl ⟨by rfl, ?_⟩) hHeld ?_
                      rotate_left
                      · intro w99 hSw
                        first | (go_simp; done) | (go_simp; with_reducible rfl)
                      try simp only [Act.put, List.setIfInBounds_toArray, List.set_cons_zero, List.set_cons_succ]
                      refine wpAnyH_take (i := 69) (oi := { dst := some 317, op := Op.move (.tmp 3), type := _, pos := _, after := _, guard := _ }) (v := ?_) rfl (by kernel_rfl) (by kernel_rfl) (by kernel_rfl) (fun _ _ _ h => h) (Or.inl ⟨by rfl, ?_⟩) hHeld ?_
                      rotate_left
                      · intro w99 hSw
                        first | (go_simp; done) | (go_simp; with_reducible rfl)
                      try simp only [Act.put, List.setIfInBounds_toArray, List.set_cons_zero, List.set_cons_succ]
                      refine wpAnyH_take (i := 70) (oi := { dst := some 318, op := Op.nilCheck (.tmp 317), type := _, pos := _, after := _, guard := _ }) (v := ?_) rfl (by kernel_rfl) (by kernel_rfl) (by kernel_rfl) (fun _ _ _ h => h) (Or.inl ⟨by rfl, ?_⟩) hHeld ?_
                      rotate_left
                      · intro w99 hSw
                        first | (go_simp; done) | (go_simp; with_reducible rfl)
                      try simp only [Act.put, List.setIfInBounds_toArray, List.set_cons_zero, List.set_cons_succ]
                      refine wpAnyH_take (i := 71) (oi := { dst := some 319, op := Op.fieldAddr 45 (.tmp 318) 0, type := _, pos := _, after := _, guard := _ }) (v := ?_) rfl (by kernel_rfl) (by kernel_rfl) (by kernel_rfl) (fun _ _ _ h => h) (Or.inl ⟨by rfl, ?_⟩) hHeld ?_
                      rotate_left
                      · intro w99 hSw
                        first | (go_simp; done) | (go_simp; with_reducible rfl)
                      try simp only [Act.put, List.setIfInBounds_toArray, List.set_cons_zero, List.set_cons_succ]
                      as_aux_lemma =>
                        refine wpAnyH_take (i := 72) (oi := { dst := some 320, op := Op.fieldAddr 31 (.tmp 6) 1, type := _, pos := _, after := _, guard := _ }) (v := ?_) rfl (by kernel_rfl) (by kernel_rfl) (by kernel_rfl) (fun _ _ _ h => h) (Or.inl ⟨by rfl, ?_⟩) hHeld ?_
                        rotate_left
                        · intro w99 hSw
                          first | (go_simp; done) | (go_simp; with_reducible rfl)
                        try simp only [Act.put, List.setIfInBounds_toArray, List.set_cons_zero, List.set_cons_succ]
                        refine wpAnyH_take (i := 73) (oi := { dst := some 321, op := Op.load 3 (.tmp 320), type := _, pos := _, after := _, guard := _ }) (v := ?_) rfl (by kernel_rfl) (by kernel_rfl) (by kernel_rfl) (fun _ _ _ h => h) (Or.inl ⟨by rfl, ?_⟩) hHeld ?_
                        rotate_left
                        · intro w99 hSw
                          have zx := HCx.out _ hSw; have zl := zx.lt; have z1 := zx.cell 1; simp at z1; have hlr := Nat.lt_of_lt_of_le hrl9 hSw.size; have hlg := Nat.lt_of_lt_of_le hgl9 hSw.size; first | (go_simp; done) | (go_simp; with_reducible rfl)
                        try simp only [Act.put, List.setIfInBounds_toArray, List.set_cons_zero, List.set_cons_succ]
                        refine wpAnyH_take (i := 74) (oi := { dst := some 322, op := Op.binOp BinOp.rem 3 (.tmp 321) (.const (.int .i64 300)) 3, type := _, pos := _, after := _, guard := _ }) (v := ?_) rfl (by kernel_rfl) (by kernel_rfl) (by kernel_rfl) (fun _ _ _ h => h) (Or.inl ⟨by rfl, ?_⟩) hHeld ?_
                        rotate_left
                        · intro w99 hSw
                          first | (go_simp; done) | (go_simp; with_reducible rfl)
                        try simp only [Act.put, List.setIfInBounds_toArray, List.set_cons_zero, List.set_cons_succ]
                        refine wpAnyH_take (i := 76) (oi := { dst := some 324, op := Op.move (.tmp 4), type := _, pos := _, after := _, guard := _ }) (v := ?_) rfl (by kernel_rfl) (by kernel_rfl) (by kernel_rfl) (fun _ _ _ h => h) (Or.inl ⟨by rfl, ?_⟩) hHeld ?_
                        rotate_left
                        · intro w99 hSw
                          first | (go_simp; done) | (go_simp; with_reducible rfl)
                        try simp only [Act.put, List.setIfInBounds_toArray, List.set_cons_zero, List.set_cons_succ]
                        refine wpAnyH_take (i := 77) (oi := { dst := some 325, op := Op.nilCheck (.tmp 324), type := _, pos := _, after := _, guard := _ }) (v := ?_) rfl (by kernel_rfl) (by kernel_rfl) (by kernel_rfl) (fun _ _ _ h => h) (Or.inl ⟨by rfl, ?_⟩) hHeld ?_
                        rotate_left
                        · intro w99 hSw
                          first | (go_simp; done) | (go_simp; with_reducible rfl)
                        try simp only [Act.put, List.setIfInBounds_toArray, List.set_cons_zero, List.set_cons_succ]
                        refine wpAnyH_take (i := 78) (oi := { dst := some 326, op := Op.fieldAddr 58 (.tmp 325) 0, type := _, pos := _, after := _, guard := _ }) (v := ?_) rfl (by kernel_rfl) (by kernel_rfl) (by kernel_rfl) (fun _ _ _ h => h) (Or.inl ⟨by rfl, ?_⟩) hHeld ?_
                        rotate_left
                        · intro w99 hSw
                          first | (go_simp; done) | (go_simp; with_reducible rfl)
                        try simp only [Act.put, List.setIfInBounds_toArray, List.set_cons_zero, List.set_cons_succ]
                        refine wpAnyH_take (i := 79) (oi := { dst := some 327, op := Op.fieldAddr 31 (.tmp 6) 1, type := _, pos := _, after := _, guard := _ }) (v := ?_) rfl (by kernel_rfl) (by kernel_rfl) (by kernel_rfl) (fun _ _ _ h => h) (Or.inl ⟨by rfl, ?_⟩) hHeld ?_
                        rotate_left
                        · intro w99 hSw
                          first | (go_simp; done) | (go_simp; with_reducible rfl)
                        try simp only [Act.put, List.setIfInBounds_toArray, List.set_cons_zero, List.set_cons_succ]
                        refine wpAnyH_take (i := 80) (oi := { dst := some 328, op := Op.load 3 (.tmp 327), type := _, pos := _, after := _, guard := _ }) (v := ?_) rfl (by kernel_rfl) (by kernel_rfl) (by kernel_rfl) (fun _ _ _ h => h) (Or.inl ⟨by rfl, ?_⟩) hHeld ?_
                        rotate_left
                        · intro w99 hSw
                          have zx := HCx.out _ hSw; have zl := zx.lt; have z1 := zx.cell 1; simp at z1; have hlr := Nat.lt_of_lt_of_le hrl9 hSw.size; have hlg := Nat.lt_of_lt_of_le hgl9 hSw.size; first | (go_simp; done) | (go_simp; with_reducible rfl)
                        try simp only [Act.put, List.setIfInBounds_toArray, List.set_cons_zero, List.set_cons_succ]
                        refine wpAnyH_take (i := 81) (oi := { dst := some 329, op := Op.binOp BinOp.rem 3 (.tmp 328) (.const (.int .i64 300)) 3, type := _, pos := _, after := _, guard := _ }) (v := ?_) rfl (by kernel_rfl) (by kernel_rfl) (by kernel_rfl) (fun _ _ _ h => h) (Or.inl ⟨by rfl, ?_⟩) hHeld ?_
                        rotate_left
                        · intro w99 hSw
                          first | (go_simp; done) | (go_simp; with_reducible rfl)
                        try simp only [Act.put, List.setIfInBounds_toArray, List.set_cons_zero, List.set_cons_succ]
                        as_aux_lemma =>
                          refine wpAnyH_ready (rs := [75]) (by kernel_rfl) (by simp) (AllReadyH.cons (o := { dst := some 323, op := Op.call { callee := Callee.value (Operand.func 31), args := #[(.tmp 319), (.tmp 322)], argTypes := #[41, 3] }, type := _, pos := _, after := _, guard := _ }) rfl (fun K hK => ?_) AllReadyH.nil)
                          go_simp
                          with_reducible refine (HHas.out _ hHeld).mono ?_
                          rintro e w' ⟨rfl, hkh⟩
                          go_wp2_with fail
                          have hx9 := Kp.trans hHeld hkh
                          refine hK.out _ _ hx9 (fun _ => ?_)
                          clear hK hHeld
                          have hHeld := hx9
                          clear hx9
                          clear hkh
                          generalize w' = wd75 at *
                          try simp only [Act.put, List.setIfInBounds_toArray, List.set_cons_zero, List.set_cons_succ]
                          refine wpAnyH_ready (rs := [82]) (by kernel_rfl) (by simp) (AllReadyH.cons (o := { dst := some 330, op := Op.call { callee := Callee.value (Operand.func 32), args := #[(.tmp 326), (.tmp 329)], argTypes := #[55, 3] }, type := _, pos := _, after := _, guard := _ }) rfl (fun K hK => ?_) AllReadyH.nil)
                          go_simp
                          with_reducible refine (HHar.out _ hHeld).mono ?_
                          rintro e w' ⟨rfl, rfl⟩
                          go_wp2_with fail
                          refine hK.out _ _ hHeld (fun _ => ?_)
                          clear hK
                          try simp only [Act.put, List.setIfInBounds_toArray, List.set_cons_zero, List.set_cons_succ]
                          refine wpAnyH_take (i := 83) (oi := { dst := some 331, op := Op.binOp BinOp.neq 4 (.tmp 323) (.tmp 330) 4, type := _, pos := _, after := _, guard := _ }) (v := ?_) rfl (by kernel_rfl) (by kernel_rfl) (by kernel_rfl) (fun _ _ _ h => h) (Or.inl ⟨by rfl, ?_⟩) hHeld ?_
                          rotate_left
                          · intro w99 hSw
                            first | (go_simp; done) | (go_simp; with_reducible rfl)
                          try simp only [Act.put, List.setIfInBounds_toArray, List.set_cons_zero, List.set_cons_succ]
                          refine wpAnyH_take (i := 84) (oi := { dst := some 332, op := Op.pick (.tmp 316) (.const (Value.bool true)) (.tmp 331), type := _, pos := _, after := _, guard := _ }) (v := ?_) rfl (by kernel_rfl) (by kernel_rfl) (by kernel_rfl) (fun _ _ _ h => h) (Or.inl ⟨by rfl, ?_⟩) hHeld ?_
                          rotate_left
                          · intro w99 hSw
                            first | (go_simp; done) | (go_simp; with_reducible rfl)
                          try simp only [Act.put, List.setIfInBounds_toArray, List.set_cons_zero, List.set_cons_succ]
                          refine wpAnyH_done (by kernel_rfl) ?_ _
                          as_aux_lemma =>
                            have HT10 := Lib.hid (HT'.out.no hHeld)
                            have Hk10 := Lib.hid ((Hk1.out.trans Hk'.out).trans hHeld.no)
                            clear hHeld
                            go_wp2_with fail
                            go_roundw
                            case rel => exact ⟨i + 1, s', F', G', by omega, by go_num, HJ', Lib.hid HT10.out.st, Lib.hid HT10.out.rf, Lib.hid (fun k e => ⟨(HT10.out.sub k e).1, (HT10.out.sub k e).2.1⟩), Lib.hid HT10.out.low, Hk10⟩
                            case measure => simp [intOf]; omega
    · obtain rfl : i = len := by omega
      have t0 : ¬ (i : Int) < (i : Int) := by omega
      go_wp2_with fail
      go_ret
      exact ⟨rfl, (Hkp.out.mono (S' := fun k => W.heap.size ≤ k) (fun k _ e => by omega)).below (Nat.le_refl _) (fun k h => h)⟩
end Go.Proofs.Ytbkpapdbidbhaaa

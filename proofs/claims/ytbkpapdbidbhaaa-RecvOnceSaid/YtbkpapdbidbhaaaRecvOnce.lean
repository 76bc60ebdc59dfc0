/-
  argosylaw14.RecvOnce: the walk.
-/
import Derived.Test.YtbkpapdbidbhaaaRecvO
import Derived.Test.YtbkpapdbidbhaaaRecvF
import Derived.Test.YtbkpapdbidbhaaaRecvCut
import Derived.Test.YtbkpapdbidbhaaaBools
namespace Go.Proofs.Ytbkpapdbidbhaaa
open Go.RowKit

/-- A slice value's length. -/
def slLen : Value → Nat
  | .slice _ n _ => n
  | _ => 0
set_option maxRecDepth 100000 in
set_option maxHeartbeats 4000000 in
theorem RecvOnce_any (W : World) (v0 : Value) (hv0 : SlArg 22 W v0) (v1 : Value) (hv1 : SlArg 23 W v1) (x2 : Int) (_l2 : -9223372036854775808 ≤ x2) (_h2 : x2 ≤ 9223372036854775807) :
    Calls Try.prog 3 #[v0, v1, .int .i64 x2] W fun e w' => e = .returned (.bool true) ∧ Below W.heap.size W w' := by
  obtain ⟨A, pd, cap, rfl, hbs, hlc, hcm, hA0, hAb, hreach⟩ := bytes_rd hv0
  obtain ⟨Ar, len, capr, rfl, hlcr, hcmr, hreachr, hcells⟩ := raw14_rd hv1
  unfold maxLen at hcmr
  unfold reachBytes at hreachr
  have HFe := Lib.hid (few_any hbs hlc hcm (fun h0 a ha => by obtain ⟨b, off, hx, _⟩ := hAb h0; rw [hx] at ha; cases ha; rw [Addr.add_lit, Nat.add_zero]) hA0 400 (by omega))
  have Hc := Lib.hid hcells
  clear hv0 hv1 hbs hlc hcm hA0 hAb hreach hcells
  generalize hal : pd.take 400 = al at *
  have hal4 : al.length ≤ 400 := by rw [← hal, List.length_take]; omega
  clear hal
  generalize pd.length = pl at *
  generalize hn : al.length = n at *
  have Hn := Lib.hid hn
  clear hn
  go_enter Try.func3, Try.ntmps3
  go_wp2_with fail
  refine (HFe.out).mono ?_
  rintro e w1 ⟨v1, rfl, hrow, hk1⟩
  obtain ⟨Av, cv, rfl⟩ := (RowAt.of_own hrow).form
  have Hrow := Lib.hid (RowAt.of_own hrow)
  have hcv := row_capL Hrow.out
  have Hk1 := Lib.hid hk1
  clear hrow hk1 HFe
  have HN := Lib.hid (h_new 7 w1 (fun k => k < w1.heap.size) (fun k h => h))
  go_wp2_with fail
  with_reducible refine (HN.out).mono ?_
  rintro e w2 ⟨g, rfl, hs2, hg2, hk2⟩
  have HS2 := Lib.hid hs2
  have Hk2 := Lib.hid hk2
  have HK := Lib.hid (known14 w2)
  clear hs2 hk2 HN
  go_wp2_with fail
  with_reducible refine (HK.out).mono ?_
  rintro e w3 ⟨rfl, hk3⟩
  have HS3 := Lib.hid (HS2.out.no hk3)
  have Hk3 := Lib.hid (Hk2.out.trans hk3)
  clear hk3 HS2 Hk2 HK
  have hk13 : Kp (fun k => W.heap.size ≤ k) W w3 := (Hk1.out.trans Hk3.out).no
  have hrow3 : RowAt w3 W.heap.size 1 (.slice Av n cv) n (encB al) := Hrow.out.kp Hk3.out (fun _ _ h => h)
  have hown3 : ∀ k, (Value.slice Av n cv).ownBlock = some k → k < w1.heap.size := fun k hk => (Hrow.out.lt k hk).2
  have hw13 := Hk3.out.size
  have hWw1 := Hk1.out.size
  -- the row of what was had
  have hnw : IntKind.i64.wrap ((n : Int) + 1) = (n : Int) + 1 := IntWalk.i64_in _ (by omega)
  have hmk : ∀ w : World, (Instr.makeSlice 28 (.int .i64 ((n : Int) + 1)) (.int .i64 ((n : Int) + 1))).run Try.prog w = .ok (.slice (some ⟨w.heap.size, 0, none⟩) (n + 1) (n + 1)) (w.alloc (.cells (boolA (List.replicate (n + 1) false)) 4)) := fun w => by
    have h := make_bo (n + 1) (by omega) w
    rw [Int.natCast_add] at h
    exact h
  have hka : Kp (fun _ => False) w3 (w3.alloc (.cells (boolA (List.replicate (n + 1) false)) 4)) := (Kp.refl _ w3).alloc _
  have hcw : Whole (w3.alloc (.cells (boolA (List.replicate (n + 1) false)) 4)) w3.heap.size 4 (boolA (List.replicate (n + 1) false)) := Whole.new _ _ _
  obtain ⟨F0, hF01, hF02, hs4⟩ : ∃ F0 : Nat → Prop, (∀ k, k < w1.heap.size → F0 k) ∧ F0 w3.heap.size ∧ HasSt (w3.alloc (.cells (boolA (List.replicate (n + 1) false)) 4)) F0 g rs0 := ⟨_, fun k h => .inl h, .inr ⟨Nat.le_refl _, by simp⟩, HS3.out.turn hka.no⟩
  have Hk13 := Lib.hid (hk13.trans hka.no)
  have Hrow4 := Lib.hid (hrow3.kp hka (fun _ _ h => h))
  have Hown3 := Lib.hid hown3
  have HS4 := Lib.hid hs4
  have HF01 := Lib.hid hF01
  have HF02 := Lib.hid hF02
  have HC4 := Lib.hid hcw
  obtain ⟨b0, hb0⟩ : ∃ b0, b0 = List.replicate (n + 1) false := ⟨_, rfl⟩
  rw [← hb0] at HS4 Hk13 Hrow4 HC4
  simp only [← hb0] at hmk
  have Hb0 := Lib.hid hb0
  have hgl3 := HS3.out.lt.1
  clear hk13 hrow3 hown3 Hrow Hk1 Hk3 HS3 hka hcw hs4 hF01 hF02 hb0
  go_upto_region 7 with (fail)
  generalize w3.alloc (.cells (boolA b0) 4) = w4 at *
  have hcw1 : w1.heap.size ≤ w3.heap.size := hw13
  generalize w3.heap.size = hb at *
  have hb4 := HC4.out.lt
  have hw14 : w1.heap.size ≤ w4.heap.size := by omega
  clear hmk hnw hw13 hgl3
  go_wp2_with fail
  go_loopw [9, 11, 12, 13] (fun v9 v11 v12 vi wr => ∃ (i ov : Nat) (s : RS) (bs : List Bool) (Ag : Option Addr) (cg : Nat) (F : Nat → Prop), i ≤ len + 1 ∧ vi = .int .i64 i ∧ v9 = .slice Ag s.taken cg ∧ v11 = .int .i64 (s.top : Int) ∧ v12 = .int .i64 (ov : Int) ∧
      Hid (0 < i → ov = if s.taken = n then 1 else 0) ∧ Hid (i = len + 1 → s.top = n ∧ s.ended = true ∧ ∀ j : Nat, j < n → InL s.L (j : Int)) ∧ Hid (Ow al n s) ∧ Hid (Et n s) ∧ Hid (bs.length = n + 1) ∧ Hid (∀ j : Nat, InL s.L (j : Int) ↔ bs[j]? = some true) ∧
      Hid (HasSt wr F g s) ∧ Hid (∀ k, k < w1.heap.size → F k) ∧ Hid (F hb) ∧ Hid (∀ k, (Value.slice Ag s.taken cg).ownBlock = some k → F k ∧ k ≠ hb) ∧ Hid (Whole wr hb 4 (boolA bs)) ∧
      Hid (RowAt wr w1.heap.size 1 (.slice Ag s.taken cg) s.taken (encB (al.take s.taken))) ∧ Kp (fun k => w1.heap.size ≤ k) w4 wr)
    (fun _ _ _ vi _ => len + 1 - (intOf vi).toNat)
  case atStart => exact ⟨0, 0, rs0, b0, none, 0, F0, by omega, rfl, rfl, rfl, rfl, Lib.hid (fun h => by omega), Lib.hid (fun h => by omega), Lib.hid ow_start, Lib.hid et_start, Lib.hid (by rw [Hb0.out]; simp), Lib.hid (fun k => ⟨fun h => absurd h (inl_nil _), fun h => absurd h (by rw [Hb0.out, List.getElem?_replicate]; split <;> simp)⟩), HS4, HF01, HF02, Lib.hid (fun k h => by cases h), HC4, Lib.hid (RowAt.nil _ _ _), Kp.refl _ _⟩
  case round =>
    obtain ⟨i, ov, s, bs, Ag, cg, F, hi, rfl, rfl, rfl, rfl, Hov, Hend, HV, HE, Hbl, HI, HS, HFo, HFh, HFg, HC, Hgot, hkp⟩ := hrel
    have Hkp := Lib.hid hkp
    clear hkp
    have hgl := HS.out.lt.1
    have htn0 : s.taken ≤ n := by have := HV.out.len; have := HV.out.ok.taken; omega
    have htp0 : s.top ≤ n := HV.out.top
    have HF1 : Hid (∀ k, k < w1.heap.size → F k) := HFo
    have HkF : Hid (∀ (w w' : World), Kp (fun k => ¬ F k) w w' → Kp (fun k => w1.heap.size ≤ k) w w') := Lib.hid (fun w w' hk => hk.mono (S' := fun k => w1.heap.size ≤ k) (fun k _ e => Nat.le_of_not_lt (fun h => e (HFo.out k h))))
    by_cases hle : i ≤ len
    · have t0 : (i : Int) ≤ (len : Int) := by omega
      go_upto_if 53 with (fail)
      go_cut [14, 15, 16] (fun v14 v15 v16 wx => ∃ a b q : Nat, v14 = .int .i64 (a : Int) ∧ v15 = .int .i64 (b : Int) ∧ v16 = .int .i64 (q : Int) ∧ a ≤ b ∧ b ≤ n ∧ q ≤ 400 ∧ Hid (i = len → a = 0 ∧ b = n) ∧ wx = wr)
      case first =>
        as_aux_lemma =>
          by_cases hlt : i < len
          · have t3 : (i : Int) < (len : Int) := by omega
            rcases Hc.out with h0 | ⟨blk, off, rfl, hblk, hcell⟩
            · omega
            obtain ⟨u1, e1, y1, rfl, _, _⟩ := hcell i hlt 1 RdI rfl
            obtain ⟨u2, e2, y2, rfl, _, _⟩ := hcell i hlt 2 RdI rfl
            obtain ⟨u3, e3, y3, rfl, _, _⟩ := hcell i hlt 3 RdI rfl
            clear hcell
            have HWw := Hk13.out.trans (Hkp.out.mono (S' := fun k => W.heap.size ≤ k) (fun k _ e => by omega))
            have hnb : ¬ W.heap.size ≤ blk := by omega
            rw [← HWw.cell (p := ⟨blk, _, none⟩) hblk hnb] at e1 e2 e3
            simp only [List.length_cons, List.length_nil, Nat.zero_add, Nat.reduceAdd] at e1 e2 e3
            have hblr := Nat.lt_of_lt_of_le hblk HWw.size
            clear HWw
            obtain ⟨a, ha⟩ := Int.eq_ofNat_of_zero_le (pickF_lo y1 ((n : Int) + 1) (by omega))
            have ha2 := pickF_hi y1 ((n : Int) + 1) (by omega)
            have HPa := Lib.hid (fun w => pick_any y1 ((n : Int) + 1) w (by omega) (by omega))
            rw [ha] at HPa ha2
            have ha3 : a ≤ n := by omega
            obtain ⟨m, hm⟩ := Int.eq_ofNat_of_zero_le (pickF_lo y2 ((n : Int) - (a : Int) + 1) (by omega))
            have hm2 := pickF_hi y2 ((n : Int) - (a : Int) + 1) (by omega)
            have HPm := Lib.hid (fun w => pick_any y2 ((n : Int) - (a : Int) + 1) w (by omega) (by omega))
            rw [hm] at HPm hm2
            have hm3 : a + m ≤ n := by omega
            obtain ⟨q, hq⟩ := Int.eq_ofNat_of_zero_le (pickF_lo y3 40 (by omega))
            have hq2 := pickF_hi y3 40 (by omega)
            have HPq := Lib.hid (fun w => pick_any y3 40 w (by omega) (by omega))
            rw [hq] at HPq hq2
            have hq3 : q ≤ 400 := by omega
            clear ha ha2 hm hm2 hq hq2
            have hws0 : IntKind.i64.wrap ((n : Int) + 1) = (n : Int) + 1 := IntWalk.i64_in _ (by omega)
            have hws : IntKind.i64.wrap ((n : Int) - (a : Int)) = (n : Int) - (a : Int) := IntWalk.i64_in _ (by omega)
            have hws2 : IntKind.i64.wrap ((n : Int) - (a : Int) + 1) = (n : Int) - (a : Int) + 1 := IntWalk.i64_in _ (by omega)
            have hws3 : IntKind.i64.wrap ((a : Int) + (m : Int)) = ((a + m : Nat) : Int) := by rw [IntWalk.i64_in _ (by omega)]; omega
            go_wp2_with fail
            with_reducible refine (HPa.out _).mono ?_
            rintro e w' ⟨rfl, rfl⟩
            go_wp2_with fail
            with_reducible refine (HPm.out _).mono ?_
            rintro e w' ⟨rfl, rfl⟩
            go_wp2_with fail
            with_reducible refine (HPq.out _).mono ?_
            rintro e w' ⟨rfl, rfl⟩
            go_wp2_with fail
            go_meet
            case rel => exact ⟨a, a + m, q, rfl, rfl, rfl, by omega, hm3, hq3, Lib.hid (fun h => by omega), rfl⟩
          · have t3 : ¬ (i : Int) < (len : Int) := by omega
            go_wp2_with fail
            go_meet
            case rel => exact ⟨0, n, n, rfl, rfl, rfl, by omega, by omega, by omega, Lib.hid (fun _ => ⟨rfl, rfl⟩), rfl⟩
      case rest =>
      obtain ⟨a, b, q, rfl, rfl, rfl, hab, hbn, hq, Hlast, rfl⟩ := hcut
      generalize wc = wr at *
      have hal1 : al.length = n := Hn.out
      have hpzl : ((al.drop a).take (b - a)).length = b - a := by rw [List.length_take, List.length_drop]; omega
      obtain ⟨fin, hfin⟩ : ∃ fin : Bool, fin = decide (b = n) := ⟨_, rfl⟩
      have Hpe := Lib.hid (ow_perr HV.out (by omega) a (b - a) (by omega) fin (fun h => by rw [hfin] at h; have := of_decide_eq_true h; omega))
      have Hpz := Lib.hid hpzl
      have Hal := Lib.hid hal1
      have hfin2 : ((b : Int) == (n : Int)) = fin := by rw [hfin, Bool.eq_iff_iff]; simp; omega
      have Hfin := Lib.hid hfin
      have Hall : Hid (RowAt wr W.heap.size 1 (.slice Av n cv) n (encB al)) := Lib.hid (Hrow4.out.kp Hkp.out (fun k hk e => by have := Hown3.out k hk; omega))
      clear hpzl hal1 hfin
      have q1 : a ≤ b := hab
      have q2 : b ≤ cv := by omega
      go_upto_region 19 with (fail)
      go_cut [17, 18] (fun v17 v18 wx => ∃ (s5 : RS), v17 = .int .i64 ((s5.top : Int) - (s.top : Int)) ∧ v18 = .int .i64 0 ∧ Hid (HasSt wx F g s5) ∧ Hid (Ow al n s5) ∧ Hid (Et n s5 ∧ (n = 0 → s5.ended = true)) ∧ Hid (s5.taken = s.taken) ∧ Hid (∀ bs' : List Bool, (∀ j : Nat, bs'[j]? = some true ↔ bs[j]? = some true ∨ (a ≤ j ∧ j < b)) → ∀ j : Nat, InL s5.L (j : Int) ↔ bs'[j]? = some true) ∧
        Hid (i = len → s5.top = n ∧ s5.ended = true ∧ ∀ j : Nat, j < n → InL s5.L (j : Int)) ∧ Hid (Kp (fun k => ¬ F k) wr wx))
      case first =>
        as_aux_lemma =>
          have hput : ∀ (wx : World), HasSt wx F g (putS s a fin ((al.drop a).take (b - a))) → Kp (fun k => ¬ F k) wr wx → ∃ (s5 : RS), ((putS s a fin ((al.drop a).take (b - a))).top : Int) = (s5.top : Int) ∧ Hid (HasSt wx F g s5) ∧ Hid (Ow al n s5) ∧ Hid (Et n s5 ∧ (n = 0 → s5.ended = true)) ∧ Hid (s5.taken = s.taken) ∧ Hid (∀ bs' : List Bool, (∀ j : Nat, bs'[j]? = some true ↔ bs[j]? = some true ∨ (a ≤ j ∧ j < b)) → ∀ j : Nat, InL s5.L (j : Int) ↔ bs'[j]? = some true) ∧
              Hid (i = len → s5.top = n ∧ s5.ended = true ∧ ∀ j : Nat, j < n → InL s5.L (j : Int)) ∧ Hid (Kp (fun k => ¬ F k) wr wx) := fun wx hs hk => by
            have h1 := Hpz.out
            have h2 := Hfin.out
            refine ⟨_, rfl, Lib.hid hs, Lib.hid (ow_put HV.out (by omega) (by omega) (fun h => by rw [h2] at h; have := of_decide_eq_true h; omega) (fun j j1 j2 => by
              rw [List.getElem?_take, if_pos (by omega), List.getElem?_drop]
              congr 1
              omega) hs.ok), Lib.hid (et_put HV.out (by omega) HE.out (by omega) (fun h => by rw [h2]; exact decide_eq_true (by omega))), Lib.hid rfl, Lib.hid (fun bs' hb j => had_put HV.out.ok (by omega) HI.out (fun j => by rw [hb j]; constructor <;> rintro (h | h) <;> first | exact .inl h | exact .inr (by omega)) j), Lib.hid (fun h => ?_), Lib.hid hk⟩
            obtain ⟨rfl, rfl⟩ := Hlast.out h
            rw [show fin = true by rw [h2]; exact decide_eq_true rfl]
            exact ow_full HV.out (by omega) (by omega)
          have Hput := Lib.hid hput
          clear hput
          by_cases hca : cv = a
          · have HPut := Lib.hid (h_put HS.out a fin (src_cut0 (a := a) Hall.out (show b - a = 0 by omega)) (show b - a ≤ 0 by omega) (Nat.zero_le _) (fun k hk => HF1.out k (Hown3.out k (by cases Av with | none => cases hk | some x => exact hk))) Hpe.out)
            go_wp2_with fail
            refine (HPut.out).mono ?_
            rintro e w5 ⟨rfl, hs5, hk5⟩
            obtain ⟨s5, hf', qq⟩ := Hput.out _ hs5 hk5
            rw [hf']
            clear hs5 hk5 hf' hca
            go_wp2_with fail
            go_meet
            case rel => exact ⟨s5, rfl, rfl, qq⟩
          · have HPut := Lib.hid (h_put HS.out a fin (src_cut Hall.out (show a + (b - a) ≤ n by omega) hca) (show b - a ≤ cv - a by omega) (by omega) (fun k hk => HF1.out k (Hown3.out k (by cases Av with | none => cases hk | some x => exact congrArg some ((add_block x a).symm.trans (Option.some.inj hk))))) Hpe.out)
            go_wp2_with fail
            refine (HPut.out).mono ?_
            rintro e w5 ⟨rfl, hs5, hk5⟩
            obtain ⟨s5, hf', qq⟩ := Hput.out _ hs5 hk5
            rw [hf']
            clear hs5 hk5 hf' hca
            go_wp2_with fail
            go_meet
            case rel => exact ⟨s5, rfl, rfl, qq⟩
      case rest =>
      obtain ⟨s5, rfl, rfl, HS5, HV5, HE5, Htk5, HI5, Hend5, Hk5⟩ := hcut
      generalize wc = w5 at *
      have htp5 : s5.top ≤ n := HV5.out.top
      have hadd : IntKind.i64.wrap ((s.top : Int) + ((s5.top : Int) - (s.top : Int))) = (s5.top : Int) := by rw [IntWalk.i64_in _ (by omega)]; omega
      have HC5 := Lib.hid (Hk5.out.whole HC.out (fun h => h HFh.out))
      have Hgot5 : Hid (RowAt w5 w1.heap.size 1 (.slice Ag s.taken cg) s.taken (encB (al.take s.taken))) := Lib.hid (Hgot.out.kp Hk5.out (fun k hk e => e (HFg.out k hk).1))
      have Hall5 : Hid (RowAt w5 W.heap.size 1 (.slice Av n cv) n (encB al)) := Lib.hid (Hall.out.kp Hk5.out (fun k hk e => e (HF1.out k (Hown3.out k hk))))
      have HkW5 := Lib.hid (Hkp.out.trans (HkF.out _ _ Hk5.out))
      clear Hgot Hall Hkp HS HC HV HE HI Hpe hfin2 Hov Hend
      go_wp2_with fail
      go_loopw [19] (fun v19 wx => ∃ (k : Nat) (bs' : List Bool), v19 = .int .i64 (k : Int) ∧ a ≤ k ∧ k ≤ b ∧ bs'.length = n + 1 ∧ Hid (∀ j : Nat, bs'[j]? = some true ↔ bs[j]? = some true ∨ (a ≤ j ∧ j < k)) ∧ Hid (Whole wx hb 4 (boolA bs')) ∧ Hid (Kp (fun k => k = hb) w5 wx))
        (fun v19 _ => b - (intOf v19).toNat)
      case atStart => exact ⟨a, bs, rfl, by omega, by omega, Hbl.out, Lib.hid (fun j => ⟨.inl, fun h => h.elim (fun h => h) (fun h => by omega)⟩), HC5, Lib.hid (Kp.refl _ _)⟩
      case round =>
      obtain ⟨k, bs', rfl, hak, hkb, hbl', Hbs', HC6, Hk6⟩ := hrel
      by_cases hkl : k < b
      · have t4 : (k : Int) < (b : Int) := by omega
        as_aux_lemma =>
          have t5 : (k : Int) < (n : Int) + 1 := by omega
          have hkn : k < n + 1 := by omega
          obtain ⟨x, hx⟩ : ∃ x, bs'[k]? = some x := ⟨_, List.getElem?_eq_getElem (by omega)⟩
          have y0 := HC6.out.cell k
          rw [boolA_get, hx] at y0
          simp only [Option.map_some] at y0
          have hcl6 := HC6.out.lt
          have fc := HC6.out.frozen k
          have hC7 := HC6.out.set k (.bool true)
          rw [boolA_set] at hC7
          have HC7 := Lib.hid hC7
          have Hk7 := Lib.hid (Kp.set (S := fun j => j = hb) Hk6.out (p := ⟨hb, k, none⟩) (.inl rfl) (.bool true))
          have Hb7 := Lib.hid (fun j => had_set (by omega) hak Hbs'.out j)
          clear hC7 hx
          go_wp2_with fail
          go_roundw
          case rel => exact ⟨k + 1, bs'.set k true, by go_num, by omega, by omega, by rw [List.length_set]; exact hbl', Hb7, HC7, Hk7⟩
          case measure => simp [intOf]; omega
      · have t4 : ¬ (k : Int) < (b : Int) := by omega
        obtain rfl : k = b := by omega
        have HI6 := Lib.hid (HI5.out bs' Hbs'.out)
        have hfh := HFh.out
        have HS6 := Lib.hid ((HS5.out.turn (Hk6.out.mono (S' := F) (fun j _ e => e ▸ hfh))).sub (F' := F) (fun _ h => .inl h))
        have hhb : ¬ hb < w1.heap.size := by omega
        have Hgot6 : Hid (RowAt wr w1.heap.size 1 (.slice Ag s.taken cg) s.taken (encB (al.take s.taken))) := Lib.hid (Hgot5.out.kp Hk6.out (fun k hk e => (HFg.out k hk).2 e))
        have Hall6 : Hid (RowAt wr W.heap.size 1 (.slice Av n cv) n (encB al)) := Lib.hid (Hall5.out.kp Hk6.out (fun k hk e => hhb (e ▸ Hown3.out k hk)))
        have HkW6 := Lib.hid (HkW5.out.trans (Hk6.out.mono (S' := fun k => w1.heap.size ≤ k) (fun k _ e => by omega)))
        clear HS5 HI5 Hgot5 Hall5 HkW5 Hbs' Hk6 HC5 hfh
        generalize wr = w6 at *
        obtain ⟨VT, a1, a3⟩ := ow_take HV5.out (q : Int)
        have htb := take_bytes HV5.out.ok HV5.out.good (q : Int) (by have := Hal.out; omega)
        have hov : overN (takeS s5 (toN s5 (q : Int))) = if toN s5 (q : Int) = n then 1 else 0 := ow_over HV5.out _ (fun h => et_last HV5.out HE5.out.1 HE5.out.2 _ h) a3
        have hTo : ∀ first : Nat, (∀ j : Nat, j < first → bs'[j]? = some true) → ¬ bs'[first]? = some true → toN s5 (q : Int) = min first (s5.taken + q) := fun first h1 h2 => ow_to HV5.out first q (fun j hj => (HI6.out j).2 (h1 j hj)) (fun h => h2 ((HI6.out _).1 h)) (by omega)
        have hT := h_take HS6.out (q : Int) (by omega) (by omega) _ rfl
        rw [htb, hov] at hT
        generalize toN s5 (q : Int) = t at *
        rw [Htk5.out] at hT a1 hTo
        generalize codeN (takeS s5 t) = cd at *
        obtain ⟨ov2, hov2⟩ : ∃ ov2, ov2 = if t = n then 1 else 0 := ⟨_, rfl⟩
        rw [← hov2] at hT
        have hgl6 := HS6.out.lt.1
        have Hov2 := Lib.hid hov2
        have HT := Lib.hid hT
        have HVT := Lib.hid VT
        have HTo := Lib.hid hTo
        have HET : Hid (Et n (takeS s5 t)) := Lib.hid HE5.out.1
        clear hT VT hTo hov htb hov2
        go_wp2_with fail
        with_reducible refine (HT.out).mono ?_
        rintro e w7 ⟨vr, rfl, hr7, hs7, hk7⟩
        obtain ⟨Ax, cx, rfl⟩ := hr7.form
        have hsz7 := hk7.size
        have HX := Lib.hid (hr7.src (encB_one _))
        have HS7 := Lib.hid hs7
        have hF6 : ∀ k, F k → ¬ ¬ F k := fun k h e => e h
        have Hgot7 := Lib.hid (Hgot6.out.kp hk7 (fun k hk e => e (HFg.out k hk).1))
        have Hall7 := Lib.hid (Hall6.out.kp hk7 (fun k hk e => e (HF1.out k (Hown3.out k hk))))
        have HC7 := Lib.hid (hk7.whole HC6.out (fun h => h HFh.out))
        have HkW7 := Lib.hid (HkW6.out.trans (HkF.out _ _ hk7))
        have hw17 : w1.heap.size ≤ w7.heap.size := Nat.le_trans hw14 HkW7.out.size
        have hb6 := HC6.out.lt
        obtain ⟨j0, hjj, hy0, hy1, hy2⟩ := info_parts infoB
        have Hj := Lib.hid hjj
        have Hy0 := Lib.hid hy0
        have Hy1 := Lib.hid hy1
        have Hy2 := Lib.hid hy2
        clear hr7 hs7 hk7 HT Hgot6 Hall6 HkW6 HC6 HS6 hF6 hjj hy0 hy1 hy2
        generalize s.taken = tk at *
        obtain ⟨dx, hdx⟩ : ∃ dx, dx = t - tk := ⟨_, rfl⟩
        rw [← hdx] at HX
        have hdx2 : dx ≤ 400 := by omega
        have htk4 : tk ≤ 400 := by omega
        have ht4 : t ≤ n := a3
        have hdx3 : tk + dx = t := by omega
        have Hdx := Lib.hid hdx
        simp only [← hdx]
        clear hdx
        go_upto_region 28 with (fail)
        go_cut [9] (fun v9 wx => ∃ (A7 : Option Addr) (c7 : Nat) (F7 : Nat → Prop), v9 = .slice A7 t c7 ∧ Hid (RowAt wx w1.heap.size 1 (.slice A7 t c7) t (encB (al.take t))) ∧ Hid (∀ k, F k → F7 k) ∧ Hid (∀ k, (Value.slice A7 t c7).ownBlock = some k → F7 k ∧ k ≠ hb) ∧ Hid (HasSt wx F7 g (takeS s5 t)) ∧ Hid (Whole wx hb 4 (boolA bs')) ∧ Hid (Kp (fun k => w1.heap.size ≤ k) w7 wx))
        case first =>
          as_aux_lemma =>
            have e8 : encB (al.take tk) ++ encB ((al.drop tk).take dx) = encB (al.take t) := by
              rw [show encB (al.take tk) ++ encB ((al.drop tk).take dx) = encB (al.take tk ++ (al.drop tk).take dx) from List.map_append.symm, Hdx.out, got_app a1]
            have E9 := Lib.hid hdx3
            have E8 := Lib.hid e8
            clear e8 hdx3
            go_wp2_with (at_builtin; refine wpList_row rfl (.tmp 117) (.tmp 118) 22 rfl w1.heap.size 5 j0 _ 1 1 Try.underlying22 Hj.out Hy0.out Hy1.out Hy2.out rfl (by decide) _ tk _ rfl Hgot7.out _ dx _ rfl HX.out (by unfold maxLen; omega) (by omega) hw17 ?_; intro v8 w8 hr8 hg8 hn8; rw [E9.out, E8.out] at hr8; obtain ⟨A7, c7, rfl⟩ := hr8.form; have Hr8 := Lib.hid hr8; have Hg8 := Lib.hid hg8; have Hn8 := Lib.hid hn8; clear hr8 hg8 hn8)
            go_meet
            have hkF : Kp F w7 w8 := Kp.of_grown Hg8.out (fun k hk _ => (HFg.out k hk).1)
            have hkb : Kp (fun k => k ≠ hb) w7 w8 := Kp.of_grown Hg8.out (fun k hk _ => (HFg.out k hk).2)
            case rel =>
              refine ⟨A7, c7, fun k => (F k ∨ (w6.heap.size ≤ k ∧ k < w7.heap.size)) ∨ (w7.heap.size ≤ k ∧ k < w8.heap.size), rfl, Hr8, Lib.hid (fun k h => .inl (.inl h)), Lib.hid (fun k hk => ?_), Lib.hid (HS7.out.turn (hkF.mono (fun _ _ e => .inl e))), Lib.hid (hkb.whole HC7.out (fun h => h rfl)), Lib.hid (Kp.of_grown Hg8.out (fun k hk _ => (Hgot7.out.lt k hk).1))⟩
              rcases Hn8.out with hn | hn
              · exact ⟨.inl (.inl (HFg.out k (hn ▸ hk)).1), (HFg.out k (hn ▸ hk)).2⟩
              · exact ⟨.inr ⟨hn k hk, (Hr8.out.lt k hk).2⟩, by have := hn k hk; omega⟩
        case rest =>
        obtain ⟨A7, c7, F7, rfl, Hgot8, HFF, HF7, HS8, HC8, Hk8⟩ := hcut
        generalize wc = w8 at *
        have hgl8 := HS8.out.lt.1
        have hb8 := HC8.out.lt
        have HkW8 := Lib.hid (HkW7.out.trans Hk8.out)
        have Hall8 : Hid (RowAt w8 W.heap.size 1 (.slice Av n cv) n (encB al)) := Lib.hid (Hall7.out.kp Hk8.out (fun k hk e => by have := Hown3.out k hk; omega))
        clear HkW7 Hall7 Hk8 HC7 HS7 Hgot7 HX HFg
        go_wp2_with fail
        go_loopw [23] (fun v23 wx => ∃ f : Nat, v23 = .int .i64 (f : Int) ∧ f ≤ n ∧ Hid (∀ j : Nat, j < f → bs'[j]? = some true) ∧ wx = w8)
          (fun v23 _ => n - (intOf v23).toNat)
        case atStart => exact ⟨0, rfl, by omega, Lib.hid (fun j h => by omega), rfl⟩
        case round =>
        obtain ⟨f, rfl, hfn, Hf, hwr⟩ := hrel
        have hwr' := hwr.symm
        clear hwr
        subst hwr'
        go_upto_region 31 with (fail)
        go_cut [130] (fun v130 wx => ∃ c : Bool, v130 = .bool c ∧ Hid (c = true ↔ f < n ∧ bs'[f]? = some true) ∧ wx = w8)
        case first =>
          as_aux_lemma =>
            by_cases hfl : f < n
            · have t4 : (f : Int) < (n : Int) := by omega
              have t5 : (f : Int) < (n : Int) + 1 := by omega
              have hkn : f < n + 1 := by omega
              obtain ⟨x, hx⟩ : ∃ x, bs'[f]? = some x := ⟨_, List.getElem?_eq_getElem (by omega)⟩
              have y0 := HC8.out.cell f
              rw [boolA_get, hx] at y0
              simp only [Option.map_some] at y0
              have Hx := Lib.hid hx
              clear hx
              cases x
              · go_wp2_with fail
                go_meet
                case rel => exact ⟨false, rfl, Lib.hid (by rw [Hx.out]; simp), rfl⟩
              · go_wp2_with fail
                go_meet
                case rel => exact ⟨true, rfl, Lib.hid (by rw [Hx.out]; simp [hfl]), rfl⟩
            · have t4 : ¬ (f : Int) < (n : Int) := by omega
              go_wp2_with fail
              go_meet
              case rel => exact ⟨false, rfl, Lib.hid (by simp [hfl]), rfl⟩
        case rest =>
        obtain ⟨c, rfl, Hc1, hwc⟩ := hcut
        have hwc' := hwc.symm
        clear hwc
        subst hwc'
        cases c with
        | true =>
          obtain ⟨c1, c2⟩ := Hc1.out.1 rfl
          have Hf2 : Hid (∀ j : Nat, j < f + 1 → bs'[j]? = some true) := Lib.hid (fun j hj => by
            by_cases e : j = f
            · rw [e]; exact c2
            · exact Hf.out j (by omega))
          clear c2
          go_wp2_with fail
          go_roundw
          case rel => exact ⟨f + 1, by go_num, by omega, Hf2, by first | rfl | trivial⟩
          case measure => simp [intOf]; omega
        | false =>
          have hnf : ¬ bs'[f]? = some true := fun h => by
            by_cases hfl : f < n
            · have := Hc1.out.2 ⟨hfl, h⟩
              cases this
            · have h1 := (HI6.out f).2 h
              have := HV5.out.rng _ h1
              omega
          have hto := HTo.out f Hf.out hnf
          have hov2 := Hov2.out
          have Hgl : Hid (t = (al.take t).length) := Lib.hid (by rw [List.length_take, Hal.out]; omega)
          have HalT := Lib.hid (row_pre Hall8.out t (by omega))
          obtain ⟨sB, hsB⟩ : ∃ sB : ByteArray, (⟨(al.take t).toArray⟩ : ByteArray) = sB := ⟨_, rfl⟩
          have HsB := Lib.hid hsB
          have f1 : ¬ (f : Int) < (t : Int) := by omega
          have f2 : (t : Int) ≤ (f : Int) := by omega
          have q8 : t ≤ cv := by omega
          have f3 : ¬ (q : Int) < (dx : Int) := by omega
          have f4 : (dx : Int) ≤ (q : Int) := by omega
          obtain ⟨ef, hef⟩ : ∃ ef, ef = f - tk := ⟨_, rfl⟩
          have g1 : IntKind.i64.wrap ((f : Int) - (t : Int)) = (f : Int) - (t : Int) := IntWalk.i64_in _ (by omega)
          have g2 : IntKind.i64.wrap ((f : Int) - (t : Int) + (dx : Int)) = (ef : Int) := by rw [IntWalk.i64_in _ (by omega)]; omega
          have hmin : (if ef < q then (ef : Int) else (q : Int)) = (dx : Int) := by split <;> omega
          obtain ⟨ob, hob⟩ : ∃ ob : Bool, ob = decide (t = n) := ⟨_, rfl⟩
          have o1 : ((ov2 : Int) == 1) = ob := by
            rw [hov2, hob]
            by_cases e : t = n
            · rw [if_pos e, decide_eq_true e]; rfl
            · rw [if_neg e, decide_eq_false e]; rfl
          have o2 : ((t : Int) == (n : Int)) = ob := by rw [hob, Bool.eq_iff_iff]; simp; omega
          have o3 : ((ov2 : Int) == 2) = false := by
            rw [hov2]
            by_cases e : t = n
            · rw [if_pos e]; rfl
            · rw [if_neg e]; rfl
          have Htop5 : Hid ((takeS s5 t).top = s5.top) := Lib.hid rfl
          clear hsB hto hnf hov2 hef hob Hc1 hdx3
          go_upto_region 33 with (fail)
          as_aux_lemma =>
            refine wp_region_held_drew (S := (fun w' => Kp (fun _ => False) w8 w')) (by kernel_rfl) (Kp.drew (Kp.refl _ w8)) (fun hHeld => ?_)
            refine wpAnyH_take (i := 0) (oi := { dst := some 133, op := Op.move (.tmp 9), type := _, pos := _, after := _, guard := _ }) (v := ?_) rfl (by kernel_rfl) (by kernel_rfl) (by kernel_rfl) (fun _ _ _ h => h) (Or.inl ⟨by rfl, ?_⟩) hHeld ?_
            rotate_left
            · intro w99 hSw
              first | (go_simp; done) | (go_simp; with_reducible rfl)
            try simp only [Act.put, List.setIfInBounds_toArray, List.set_cons_zero, List.set_cons_succ]
            refine wpAnyH_take (i := 1) (oi := { dst := some 134, op := Op.call { callee := Callee.builtin Builtin.len, args := #[(.tmp 133)], argTypes := #[22] }, type := _, pos := _, after := _, guard := _ }) (v := ?_) rfl (by kernel_rfl) (by kernel_rfl) (by kernel_rfl) (fun _ _ _ h => h) (Or.inl ⟨by rfl, ?_⟩) hHeld ?_
            rotate_left
            · intro w99 hSw
              first | (go_simp; done) | (go_simp; with_reducible rfl)
            try simp only [Act.put, List.setIfInBounds_toArray, List.set_cons_zero, List.set_cons_succ]
            refine wpAnyH_take (i := 2) (oi := { dst := some 135, op := Op.move (.tmp 23), type := _, pos := _, after := _, guard := _ }) (v := ?_) rfl (by kernel_rfl) (by kernel_rfl) (by kernel_rfl) (fun _ _ _ h => h) (Or.inl ⟨by rfl, ?_⟩) hHeld ?_
            rotate_left
            · intro w99 hSw
              first | (go_simp; done) | (go_simp; with_reducible rfl)
            try simp only [Act.put, List.setIfInBounds_toArray, List.set_cons_zero, List.set_cons_succ]
            refine wpAnyH_take (i := 3) (oi := { dst := some 136, op := Op.binOp BinOp.gtr 3 (.tmp 134) (.tmp 135) 3, type := _, pos := _, after := _, guard := _ }) (v := ?_) rfl (by kernel_rfl) (by kernel_rfl) (by kernel_rfl) (fun _ _ _ h => h) (Or.inl ⟨by rfl, ?_⟩) hHeld ?_
            rotate_left
            · intro w99 hSw
              first | (go_simp; done) | (go_simp; with_reducible rfl)
            try simp only [Act.put, List.setIfInBounds_toArray, List.set_cons_zero, List.set_cons_succ]
            refine wpAnyH_take (i := 4) (oi := { dst := some 137, op := Op.move (.tmp 136), type := _, pos := _, after := _, guard := _ }) (v := ?_) rfl (by kernel_rfl) (by kernel_rfl) (by kernel_rfl) (fun _ _ _ h => h) (Or.inl ⟨by rfl, ?_⟩) hHeld ?_
            rotate_left
            · intro w99 hSw
              first | (go_simp; done) | (go_simp; with_reducible rfl)
            try simp only [Act.put, List.setIfInBounds_toArray, List.set_cons_zero, List.set_cons_succ]
            refine wpAnyH_take (i := 5) (oi := { dst := some 138, op := Op.move (.tmp 9), type := _, pos := _, after := _, guard := _ }) (v := ?_) rfl (by kernel_rfl) (by kernel_rfl) (by kernel_rfl) (fun _ _ _ h => h) (Or.inl ⟨by rfl, ?_⟩) hHeld ?_
            rotate_left
            · intro w99 hSw
              first | (go_simp; done) | (go_simp; with_reducible rfl)
            try simp only [Act.put, List.setIfInBounds_toArray, List.set_cons_zero, List.set_cons_succ]
            refine wpAnyH_take (i := 6) (oi := { dst := some 139, op := Op.convert 22 9 (.tmp 138), type := _, pos := _, after := _, guard := _ }) (v := ?_) rfl (by kernel_rfl) (by kernel_rfl) (by kernel_rfl) (fun _ _ _ h => h) (Or.inl ⟨by rfl, ?_⟩) hHeld ?_
            rotate_left
            · intro w99 hSw
              have cv1 := conv_any Hgl.out (Hgot8.out.kp hSw (fun _ _ h => h)); rw [HsB.out] at cv1; first | (go_simp; done) | (go_simp; with_reducible rfl)
            try simp only [Act.put, List.setIfInBounds_toArray, List.set_cons_zero, List.set_cons_succ]
            refine wpAnyH_take (i := 7) (oi := { dst := some 140, op := Op.move (.tmp 7), type := _, pos := _, after := _, guard := _ }) (v := ?_) rfl (by kernel_rfl) (by kernel_rfl) (by kernel_rfl) (fun _ _ _ h => h) (Or.inl ⟨by rfl, ?_⟩) hHeld ?_
            rotate_left
            · intro w99 hSw
              first | (go_simp; done) | (go_simp; with_reducible rfl)
            try simp only [Act.put, List.setIfInBounds_toArray, List.set_cons_zero, List.set_cons_succ]
            refine wpAnyH_take (i := 8) (oi := { dst := some 141, op := Op.move (.tmp 9), type := _, pos := _, after := _, guard := _ }) (v := ?_) rfl (by kernel_rfl) (by kernel_rfl) (by kernel_rfl) (fun _ _ _ h => h) (Or.inl ⟨by rfl, ?_⟩) hHeld ?_
            rotate_left
            · intro w99 hSw
              first | (go_simp; done) | (go_simp; with_reducible rfl)
            try simp only [Act.put, List.setIfInBounds_toArray, List.set_cons_zero, List.set_cons_succ]
            refine wpAnyH_take (i := 9) (oi := { dst := some 142, op := Op.call { callee := Callee.builtin Builtin.len, args := #[(.tmp 141)], argTypes := #[22] }, type := _, pos := _, after := _, guard := _ }) (v := ?_) rfl (by kernel_rfl) (by kernel_rfl) (by kernel_rfl) (fun _ _ _ h => h) (Or.inl ⟨by rfl, ?_⟩) hHeld ?_
            rotate_left
            · intro w99 hSw
              first | (go_simp; done) | (go_simp; with_reducible rfl)
            try simp only [Act.put, List.setIfInBounds_toArray, List.set_cons_zero, List.set_cons_succ]
            refine wpAnyH_take (i := 10) (oi := { dst := some 143, op := Op.slice 22 (.tmp 140) none (some (.tmp 142)) none, type := _, pos := _, after := _, guard := _ }) (v := ?_) rfl (by kernel_rfl) (by kernel_rfl) (by kernel_rfl) (fun _ _ _ h => h) (Or.inl ⟨by rfl, ?_⟩) hHeld ?_
            rotate_left
            · intro w99 hSw
              first | (go_simp; done) | (go_simp; with_reducible rfl)
            try simp only [Act.put, List.setIfInBounds_toArray, List.set_cons_zero, List.set_cons_succ]
            refine wpAnyH_take (i := 11) (oi := { dst := some 144, op := Op.convert 22 9 (.tmp 143), type := _, pos := _, after := _, guard := _ }) (v := ?_) rfl (by kernel_rfl) (by kernel_rfl) (by kernel_rfl) (fun _ _ _ h => h) (Or.inl ⟨by rfl, ?_⟩) hHeld ?_
            rotate_left
            · intro w99 hSw
              have cv2 := conv_any Hgl.out (HalT.out.kp hSw (fun _ _ h => h)); rw [HsB.out] at cv2; first | (go_simp; done) | (go_simp; with_reducible rfl)
            try simp only [Act.put, List.setIfInBounds_toArray, List.set_cons_zero, List.set_cons_succ]
            refine wpAnyH_take (i := 12) (oi := { dst := some 145, op := Op.binOp BinOp.neq 9 (.tmp 139) (.tmp 144) 9, type := _, pos := _, after := _, guard := _ }) (v := ?_) rfl (by kernel_rfl) (by kernel_rfl) (by kernel_rfl) (fun _ _ _ h => h) (Or.inl ⟨by rfl, ?_⟩) hHeld ?_
            rotate_left
            · intro w99 hSw
              first | (go_simp; done) | (go_simp; with_reducible rfl)
            try simp only [Act.put, List.setIfInBounds_toArray, List.set_cons_zero, List.set_cons_succ]
            refine wpAnyH_take (i := 13) (oi := { dst := some 146, op := Op.pick (.tmp 137) (.const (Value.bool true)) (.tmp 145), type := _, pos := _, after := _, guard := _ }) (v := ?_) rfl (by kernel_rfl) (by kernel_rfl) (by kernel_rfl) (fun _ _ _ h => h) (Or.inl ⟨by rfl, ?_⟩) hHeld ?_
            rotate_left
            · intro w99 hSw
              first | (go_simp; done) | (go_simp; with_reducible rfl)
            try simp only [Act.put, List.setIfInBounds_toArray, List.set_cons_zero, List.set_cons_succ]
            refine wpAnyH_take (i := 14) (oi := { dst := some 147, op := Op.move (.tmp 146), type := _, pos := _, after := _, guard := _ }) (v := ?_) rfl (by kernel_rfl) (by kernel_rfl) (by kernel_rfl) (fun _ _ _ h => h) (Or.inl ⟨by rfl, ?_⟩) hHeld ?_
            rotate_left
            · intro w99 hSw
              first | (go_simp; done) | (go_simp; with_reducible rfl)
            try simp only [Act.put, List.setIfInBounds_toArray, List.set_cons_zero, List.set_cons_succ]
            refine wpAnyH_take (i := 15) (oi := { dst := some 148, op := Op.move (.tmp 20), type := _, pos := _, after := _, guard := _ }) (v := ?_) rfl (by kernel_rfl) (by kernel_rfl) (by kernel_rfl) (fun _ _ _ h => h) (Or.inl ⟨by rfl, ?_⟩) hHeld ?_
            rotate_left
            · intro w99 hSw
              first | (go_simp; done) | (go_simp; with_reducible rfl)
            try simp only [Act.put, List.setIfInBounds_toArray, List.set_cons_zero, List.set_cons_succ]
            refine wpAnyH_take (i := 16) (oi := { dst := some 149, op := Op.call { callee := Callee.builtin Builtin.len, args := #[(.tmp 148)], argTypes := #[22] }, type := _, pos := _, after := _, guard := _ }) (v := ?_) rfl (by kernel_rfl) (by kernel_rfl) (by kernel_rfl) (fun _ _ _ h => h) (Or.inl ⟨by rfl, ?_⟩) hHeld ?_
            rotate_left
            · intro w99 hSw
              first | (go_simp; done) | (go_simp; with_reducible rfl)
            try simp only [Act.put, List.setIfInBounds_toArray, List.set_cons_zero, List.set_cons_succ]
            refine wpAnyH_take (i := 17) (oi := { dst := some 150, op := Op.move (.tmp 16), type := _, pos := _, after := _, guard := _ }) (v := ?_) rfl (by kernel_rfl) (by kernel_rfl) (by kernel_rfl) (fun _ _ _ h => h) (Or.inl ⟨by rfl, ?_⟩) hHeld ?_
            rotate_left
            · intro w99 hSw
              first | (go_simp; done) | (go_simp; with_reducible rfl)
            try simp only [Act.put, List.setIfInBounds_toArray, List.set_cons_zero, List.set_cons_succ]
            refine wpAnyH_take (i := 18) (oi := { dst := some 151, op := Op.binOp BinOp.gtr 3 (.tmp 149) (.tmp 150) 3, type := _, pos := _, after := _, guard := _ }) (v := ?_) rfl (by kernel_rfl) (by kernel_rfl) (by kernel_rfl) (fun _ _ _ h => h) (Or.inl ⟨by rfl, ?_⟩) hHeld ?_
            rotate_left
            · intro w99 hSw
              first | (go_simp; done) | (go_simp; with_reducible rfl)
            try simp only [Act.put, List.setIfInBounds_toArray, List.set_cons_zero, List.set_cons_succ]
            refine wpAnyH_take (i := 19) (oi := { dst := some 152, op := Op.pick (.tmp 147) (.const (Value.bool true)) (.tmp 151), type := _, pos := _, after := _, guard := _ }) (v := ?_) rfl (by kernel_rfl) (by kernel_rfl) (by kernel_rfl) (fun _ _ _ h => h) (Or.inl ⟨by rfl, ?_⟩) hHeld ?_
            rotate_left
            · intro w99 hSw
              first | (go_simp; done) | (go_simp; with_reducible rfl)
            try simp only [Act.put, List.setIfInBounds_toArray, List.set_cons_zero, List.set_cons_succ]
            refine wpAnyH_take (i := 20) (oi := { dst := some 153, op := Op.move (.tmp 152), type := _, pos := _, after := _, guard := _ }) (v := ?_) rfl (by kernel_rfl) (by kernel_rfl) (by kernel_rfl) (fun _ _ _ h => h) (Or.inl ⟨by rfl, ?_⟩) hHeld ?_
            rotate_left
            · intro w99 hSw
              first | (go_simp; done) | (go_simp; with_reducible rfl)
            try simp only [Act.put, List.setIfInBounds_toArray, List.set_cons_zero, List.set_cons_succ]
            refine wpAnyH_take (i := 21) (oi := { dst := some 154, op := Op.move (.tmp 20), type := _, pos := _, after := _, guard := _ }) (v := ?_) rfl (by kernel_rfl) (by kernel_rfl) (by kernel_rfl) (fun _ _ _ h => h) (Or.inl ⟨by rfl, ?_⟩) hHeld ?_
            rotate_left
            · intro w99 hSw
              first | (go_simp; done) | (go_simp; with_reducible rfl)
            try simp only [Act.put, List.setIfInBounds_toArray, List.set_cons_zero, List.set_cons_succ]
            refine wpAnyH_take (i := 22) (oi := { dst := some 155, op := Op.call { callee := Callee.builtin Builtin.len, args := #[(.tmp 154)], argTypes := #[22] }, type := _, pos := _, after := _, guard := _ }) (v := ?_) rfl (by kernel_rfl) (by kernel_rfl) (by kernel_rfl) (fun _ _ _ h => h) (Or.inl ⟨by rfl, ?_⟩) hHeld ?_
            rotate_left
            · intro w99 hSw
              first | (go_simp; done) | (go_simp; with_reducible rfl)
            try simp only [Act.put, List.setIfInBounds_toArray, List.set_cons_zero, List.set_cons_succ]
            refine wpAnyH_take (i := 23) (oi := { dst := some 156, op := Op.move (.tmp 16), type := _, pos := _, after := _, guard := _ }) (v := ?_) rfl (by kernel_rfl) (by kernel_rfl) (by kernel_rfl) (fun _ _ _ h => h) (Or.inl ⟨by rfl, ?_⟩) hHeld ?_
            rotate_left
            · intro w99 hSw
              first | (go_simp; done) | (go_simp; with_reducible rfl)
            try simp only [Act.put, List.setIfInBounds_toArray, List.set_cons_zero, List.set_cons_succ]
            refine wpAnyH_take (i := 24) (oi := { dst := some 157, op := Op.move (.tmp 23), type := _, pos := _, after := _, guard := _ }) (v := ?_) rfl (by kernel_rfl) (by kernel_rfl) (by kernel_rfl) (fun _ _ _ h => h) (Or.inl ⟨by rfl, ?_⟩) hHeld ?_
            rotate_left
            · intro w99 hSw
              first | (go_simp; done) | (go_simp; with_reducible rfl)
            try simp only [Act.put, List.setIfInBounds_toArray, List.set_cons_zero, List.set_cons_succ]
            refine wpAnyH_take (i := 25) (oi := { dst := some 158, op := Op.move (.tmp 9), type := _, pos := _, after := _, guard := _ }) (v := ?_) rfl (by kernel_rfl) (by kernel_rfl) (by kernel_rfl) (fun _ _ _ h => h) (Or.inl ⟨by rfl, ?_⟩) hHeld ?_
            rotate_left
            · intro w99 hSw
              first | (go_simp; done) | (go_simp; with_reducible rfl)
            try simp only [Act.put, List.setIfInBounds_toArray, List.set_cons_zero, List.set_cons_succ]
            refine wpAnyH_take (i := 26) (oi := { dst := some 159, op := Op.call { callee := Callee.builtin Builtin.len, args := #[(.tmp 158)], argTypes := #[22] }, type := _, pos := _, after := _, guard := _ }) (v := ?_) rfl (by kernel_rfl) (by kernel_rfl) (by kernel_rfl) (fun _ _ _ h => h) (Or.inl ⟨by rfl, ?_⟩) hHeld ?_
            rotate_left
            · intro w99 hSw
              first | (go_simp; done) | (go_simp; with_reducible rfl)
            try simp only [Act.put, List.setIfInBounds_toArray, List.set_cons_zero, List.set_cons_succ]
            refine wpAnyH_take (i := 27) (oi := { dst := some 160, op := Op.binOp BinOp.sub 3 (.tmp 157) (.tmp 159) 3, type := _, pos := _, after := _, guard := _ }) (v := ?_) rfl (by kernel_rfl) (by kernel_rfl) (by kernel_rfl) (fun _ _ _ h => h) (Or.inl ⟨by rfl, ?_⟩) hHeld ?_
            rotate_left
            · intro w99 hSw
              first | (go_simp; done) | (go_simp; with_reducible rfl)
            try simp only [Act.put, List.setIfInBounds_toArray, List.set_cons_zero, List.set_cons_succ]
            refine wpAnyH_take (i := 28) (oi := { dst := some 161, op := Op.move (.tmp 20), type := _, pos := _, after := _, guard := _ }) (v := ?_) rfl (by kernel_rfl) (by kernel_rfl) (by kernel_rfl) (fun _ _ _ h => h) (Or.inl ⟨by rfl, ?_⟩) hHeld ?_
            rotate_left
            · intro w99 hSw
              first | (go_simp; done) | (go_simp; with_reducible rfl)
            try simp only [Act.put, List.setIfInBounds_toArray, List.set_cons_zero, List.set_cons_succ]
            refine wpAnyH_take (i := 29) (oi := { dst := some 162, op := Op.call { callee := Callee.builtin Builtin.len, args := #[(.tmp 161)], argTypes := #[22] }, type := _, pos := _, after := _, guard := _ }) (v := ?_) rfl (by kernel_rfl) (by kernel_rfl) (by kernel_rfl) (fun _ _ _ h => h) (Or.inl ⟨by rfl, ?_⟩) hHeld ?_
            rotate_left
            · intro w99 hSw
              first | (go_simp; done) | (go_simp; with_reducible rfl)
            try simp only [Act.put, List.setIfInBounds_toArray, List.set_cons_zero, List.set_cons_succ]
            refine wpAnyH_take (i := 30) (oi := { dst := some 163, op := Op.binOp BinOp.add 3 (.tmp 160) (.tmp 162) 3, type := _, pos := _, after := _, guard := _ }) (v := ?_) rfl (by kernel_rfl) (by kernel_rfl) (by kernel_rfl) (fun _ _ _ h => h) (Or.inl ⟨by rfl, ?_⟩) hHeld ?_
            rotate_left
            · intro w99 hSw
              first | (go_simp; done) | (go_simp; with_reducible rfl)
            try simp only [Act.put, List.setIfInBounds_toArray, List.set_cons_zero, List.set_cons_succ]
            refine wpAnyH_take (i := 31) (oi := { dst := some 164, op := Op.call { callee := Callee.builtin Builtin.min, args := #[(.tmp 156), (.tmp 163)], argTypes := #[3, 3] }, type := _, pos := _, after := _, guard := _ }) (v := ?_) rfl (by kernel_rfl) (by kernel_rfl) (by kernel_rfl) (fun _ _ _ h => h) (Or.inl ⟨by rfl, ?_⟩) hHeld ?_
            rotate_left
            · intro w99 hSw
              first | (go_simp; done) | (go_simp; with_reducible rfl)
            try simp only [Act.put, List.setIfInBounds_toArray, List.set_cons_zero, List.set_cons_succ]
            refine wpAnyH_take (i := 32) (oi := { dst := some 165, op := Op.binOp BinOp.lss 3 (.tmp 155) (.tmp 164) 3, type := _, pos := _, after := _, guard := _ }) (v := ?_) rfl (by kernel_rfl) (by kernel_rfl) (by kernel_rfl) (fun _ _ _ h => h) (Or.inl ⟨by rfl, ?_⟩) hHeld ?_
            rotate_left
            · intro w99 hSw
              first | (go_simp; done) | (go_simp; with_reducible rfl)
            try simp only [Act.put, List.setIfInBounds_toArray, List.set_cons_zero, List.set_cons_succ]
            refine wpAnyH_take (i := 33) (oi := { dst := some 166, op := Op.pick (.tmp 153) (.const (Value.bool true)) (.tmp 165), type := _, pos := _, after := _, guard := _ }) (v := ?_) rfl (by kernel_rfl) (by kernel_rfl) (by kernel_rfl) (fun _ _ _ h => h) (Or.inl ⟨by rfl, ?_⟩) hHeld ?_
            rotate_left
            · intro w99 hSw
              first | (go_simp; done) | (go_simp; with_reducible rfl)
            try simp only [Act.put, List.setIfInBounds_toArray, List.set_cons_zero, List.set_cons_succ]
            refine wpAnyH_take (i := 34) (oi := { dst := some 167, op := Op.move (.tmp 166), type := _, pos := _, after := _, guard := _ }) (v := ?_) rfl (by kernel_rfl) (by kernel_rfl) (by kernel_rfl) (fun _ _ _ h => h) (Or.inl ⟨by rfl, ?_⟩) hHeld ?_
            rotate_left
            · intro w99 hSw
              first | (go_simp; done) | (go_simp; with_reducible rfl)
            try simp only [Act.put, List.setIfInBounds_toArray, List.set_cons_zero, List.set_cons_succ]
            refine wpAnyH_take (i := 35) (oi := { dst := some 168, op := Op.move (.tmp 21), type := _, pos := _, after := _, guard := _ }) (v := ?_) rfl (by kernel_rfl) (by kernel_rfl) (by kernel_rfl) (fun _ _ _ h => h) (Or.inl ⟨by rfl, ?_⟩) hHeld ?_
            rotate_left
            · intro w99 hSw
              first | (go_simp; done) | (go_simp; with_reducible rfl)
            try simp only [Act.put, List.setIfInBounds_toArray, List.set_cons_zero, List.set_cons_succ]
            refine wpAnyH_take (i := 36) (oi := { dst := some 169, op := Op.binOp BinOp.eql 3 (.tmp 168) (.const (.int .i64 1)) 3, type := _, pos := _, after := _, guard := _ }) (v := ?_) rfl (by kernel_rfl) (by kernel_rfl) (by kernel_rfl) (fun _ _ _ h => h) (Or.inl ⟨by rfl, ?_⟩) hHeld ?_
            rotate_left
            · intro w99 hSw
              first | (go_simp; done) | (go_simp; with_reducible rfl)
            try simp only [Act.put, List.setIfInBounds_toArray, List.set_cons_zero, List.set_cons_succ]
            refine wpAnyH_take (i := 37) (oi := { dst := some 170, op := Op.move (.tmp 9), type := _, pos := _, after := _, guard := _ }) (v := ?_) rfl (by kernel_rfl) (by kernel_rfl) (by kernel_rfl) (fun _ _ _ h => h) (Or.inl ⟨by rfl, ?_⟩) hHeld ?_
            rotate_left
            · intro w99 hSw
              first | (go_simp; done) | (go_simp; with_reducible rfl)
            try simp only [Act.put, List.setIfInBounds_toArray, List.set_cons_zero, List.set_cons_succ]
            refine wpAnyH_take (i := 38) (oi := { dst := some 171, op := Op.call { callee := Callee.builtin Builtin.len, args := #[(.tmp 170)], argTypes := #[22] }, type := _, pos := _, after := _, guard := _ }) (v := ?_) rfl (by kernel_rfl) (by kernel_rfl) (by kernel_rfl) (fun _ _ _ h => h) (Or.inl ⟨by rfl, ?_⟩) hHeld ?_
            rotate_left
            · intro w99 hSw
              first | (go_simp; done) | (go_simp; with_reducible rfl)
            try simp only [Act.put, List.setIfInBounds_toArray, List.set_cons_zero, List.set_cons_succ]
            refine wpAnyH_take (i := 39) (oi := { dst := some 172, op := Op.move (.tmp 7), type := _, pos := _, after := _, guard := _ }) (v := ?_) rfl (by kernel_rfl) (by kernel_rfl) (by kernel_rfl) (fun _ _ _ h => h) (Or.inl ⟨by rfl, ?_⟩) hHeld ?_
            rotate_left
            · intro w99 hSw
              first | (go_simp; done) | (go_simp; with_reducible rfl)
            try simp only [Act.put, List.setIfInBounds_toArray, List.set_cons_zero, List.set_cons_succ]
            refine wpAnyH_take (i := 40) (oi := { dst := some 173, op := Op.call { callee := Callee.builtin Builtin.len, args := #[(.tmp 172)], argTypes := #[22] }, type := _, pos := _, after := _, guard := _ }) (v := ?_) rfl (by kernel_rfl) (by kernel_rfl) (by kernel_rfl) (fun _ _ _ h => h) (Or.inl ⟨by rfl, ?_⟩) hHeld ?_
            rotate_left
            · intro w99 hSw
              first | (go_simp; done) | (go_simp; with_reducible rfl)
            try simp only [Act.put, List.setIfInBounds_toArray, List.set_cons_zero, List.set_cons_succ]
            refine wpAnyH_take (i := 41) (oi := { dst := some 174, op := Op.binOp BinOp.eql 3 (.tmp 171) (.tmp 173) 3, type := _, pos := _, after := _, guard := _ }) (v := ?_) rfl (by kernel_rfl) (by kernel_rfl) (by kernel_rfl) (fun _ _ _ h => h) (Or.inl ⟨by rfl, ?_⟩) hHeld ?_
            rotate_left
            · intro w99 hSw
              first | (go_simp; done) | (go_simp; with_reducible rfl)
            try simp only [Act.put, List.setIfInBounds_toArray, List.set_cons_zero, List.set_cons_succ]
            refine wpAnyH_take (i := 42) (oi := { dst := some 175, op := Op.binOp BinOp.neq 4 (.tmp 169) (.tmp 174) 4, type := _, pos := _, after := _, guard := _ }) (v := ?_) rfl (by kernel_rfl) (by kernel_rfl) (by kernel_rfl) (fun _ _ _ h => h) (Or.inl ⟨by rfl, ?_⟩) hHeld ?_
            rotate_left
            · intro w99 hSw
              first | (go_simp; done) | (go_simp; with_reducible rfl)
            try simp only [Act.put, List.setIfInBounds_toArray, List.set_cons_zero, List.set_cons_succ]
            refine wpAnyH_take (i := 43) (oi := { dst := some 176, op := Op.pick (.tmp 167) (.const (Value.bool true)) (.tmp 175), type := _, pos := _, after := _, guard := _ }) (v := ?_) rfl (by kernel_rfl) (by kernel_rfl) (by kernel_rfl) (fun _ _ _ h => h) (Or.inl ⟨by rfl, ?_⟩) hHeld ?_
            rotate_left
            · intro w99 hSw
              first | (go_simp; done) | (go_simp; with_reducible rfl)
            try simp only [Act.put, List.setIfInBounds_toArray, List.set_cons_zero, List.set_cons_succ]
            refine wpAnyH_take (i := 44) (oi := { dst := some 177, op := Op.move (.tmp 176), type := _, pos := _, after := _, guard := _ }) (v := ?_) rfl (by kernel_rfl) (by kernel_rfl) (by kernel_rfl) (fun _ _ _ h => h) (Or.inl ⟨by rfl, ?_⟩) hHeld ?_
            rotate_left
            · intro w99 hSw
              first | (go_simp; done) | (go_simp; with_reducible rfl)
            try simp only [Act.put, List.setIfInBounds_toArray, List.set_cons_zero, List.set_cons_succ]
            refine wpAnyH_take (i := 45) (oi := { dst := some 178, op := Op.move (.tmp 21), type := _, pos := _, after := _, guard := _ }) (v := ?_) rfl (by kernel_rfl) (by kernel_rfl) (by kernel_rfl) (fun _ _ _ h => h) (Or.inl ⟨by rfl, ?_⟩) hHeld ?_
            rotate_left
            · intro w99 hSw
              first | (go_simp; done) | (go_simp; with_reducible rfl)
            try simp only [Act.put, List.setIfInBounds_toArray, List.set_cons_zero, List.set_cons_succ]
            refine wpAnyH_take (i := 46) (oi := { dst := some 179, op := Op.binOp BinOp.eql 3 (.tmp 178) (.const (.int .i64 2)) 3, type := _, pos := _, after := _, guard := _ }) (v := ?_) rfl (by kernel_rfl) (by kernel_rfl) (by kernel_rfl) (fun _ _ _ h => h) (Or.inl ⟨by rfl, ?_⟩) hHeld ?_
            rotate_left
            · intro w99 hSw
              first | (go_simp; done) | (go_simp; with_reducible rfl)
            try simp only [Act.put, List.setIfInBounds_toArray, List.set_cons_zero, List.set_cons_succ]
            refine wpAnyH_take (i := 47) (oi := { dst := some 180, op := Op.pick (.tmp 177) (.const (Value.bool true)) (.tmp 179), type := _, pos := _, after := _, guard := _ }) (v := ?_) rfl (by kernel_rfl) (by kernel_rfl) (by kernel_rfl) (fun _ _ _ h => h) (Or.inl ⟨by rfl, ?_⟩) hHeld ?_
            rotate_left
            · intro w99 hSw
              first | (go_simp; done) | (go_simp; with_reducible rfl)
            try simp only [Act.put, List.setIfInBounds_toArray, List.set_cons_zero, List.set_cons_succ]
            refine wpAnyH_done (by kernel_rfl) ?_ _
            have Hh9 := Lib.hid hHeld
            clear hHeld
            go_wp2_with fail
            go_roundw
            case rel => exact ⟨i + 1, ov2, takeS s5 t, bs', A7, c7, F7, by omega, by go_num, rfl, rfl, rfl, Lib.hid (fun _ => Hov2.out), Lib.hid (fun h => Hend5.out (by omega)), HVT, HET, Lib.hid hbl', HI6, Lib.hid (HS8.out.no Hh9.out), Lib.hid (fun k h => HFF.out k (HF1.out k h)), Lib.hid (HFF.out _ HFh.out), HF7, Lib.hid (Hh9.out.whole HC8.out (fun h => h)), Lib.hid (Hgot8.out.kp Hh9.out (fun _ _ h => h)), HkW8.out.trans Hh9.out.no⟩
            case measure => simp [intOf]; omega
    · obtain rfl : i = len + 1 := by omega
      have t0 : ¬ ((len : Int) + 1) ≤ (len : Int) := by omega
      have t0' : (len : Int) < (len : Int) + 1 := by omega
      have hov := Hov.out (by omega)
      obtain ⟨hn1, hn2, hn3⟩ := Hend.out rfl
      have HHov := Lib.hid hov
      have Htp := Lib.hid hn1
      have Hn2 := Lib.hid hn2
      have Hn3 := Lib.hid hn3
      simp only [hn1]
      clear hov hn1 hn2 hn3 Hov Hend Hbl HI HE HC
      as_aux_lemma =>
        go_wp2_with fail
        go_loopw [9, 12] (fun v9 v12 wx => ∃ (ov : Nat) (s' : RS) (Ag : Option Addr) (cg : Nat) (F' : Nat → Prop), v9 = .slice Ag s'.taken cg ∧ v12 = .int .i64 (ov : Int) ∧ s'.taken ≤ n ∧ Hid (ov = if s'.taken = n then 1 else 0) ∧ Hid (s'.top = n) ∧ Hid (s'.ended = true) ∧ Hid (∀ j : Nat, j < n → InL s'.L (j : Int)) ∧ Hid (Ow al n s') ∧ Hid (HasSt wx F' g s') ∧ Hid (∀ k, k < w1.heap.size → F' k) ∧ Hid (∀ k, (Value.slice Ag s'.taken cg).ownBlock = some k → F' k) ∧
            Hid (RowAt wx w1.heap.size 1 (.slice Ag s'.taken cg) s'.taken (encB (al.take s'.taken))) ∧ Hid (Kp (fun k => w1.heap.size ≤ k) w4 wx))
          (fun v9 _ _ => n - slLen v9)
        case atStart => exact ⟨ov, s, Ag, cg, F, rfl, rfl, htn0, HHov, Htp, Hn2, Hn3, HV, HS, HF1, Lib.hid (fun k hk => (HFg.out k hk).1), Hgot, Hkp⟩
        case round =>
        obtain ⟨ov', s', Ag', cg', F', rfl, rfl, htn, Hov', Htp', Hen', Hn3', HV', HS', HF1', HFg', Hgot', Hkp'⟩ := hrel
        have hgl' := HS'.out.lt.1
        have Hall' : Hid (RowAt wr W.heap.size 1 (.slice Av n cv) n (encB al)) := Lib.hid (Hrow4.out.kp Hkp'.out (fun k hk e => by have := Hown3.out k hk; omega))
        have hal1 : al.length = n := Hn.out
        clear HV HS HF1 HFg Hgot Hkp HHov Htp Hn2 Hn3
        by_cases htl : s'.taken < n
        · have t4 : (s'.taken : Int) < (n : Int) := by omega
          obtain ⟨q, hq⟩ := Int.eq_ofNat_of_zero_le (pickF_lo x2 90 (by omega))
          have hq2 := pickF_hi x2 90 (by omega)
          have HPq := Lib.hid (fun w => pick_any x2 90 w (by omega) (by omega))
          rw [hq] at HPq hq2
          clear hq
          obtain ⟨q1, hq1⟩ : ∃ q1, q1 = 1 + q := ⟨_, rfl⟩
          have hqw : (q1 : Int) = 1 + (q : Int) := by omega
          have hto := ow_end HV'.out Hn3'.out q1 (by omega)
          obtain ⟨VT, a1, a3⟩ := ow_take HV'.out (q1 : Int)
          have htb := take_bytes HV'.out.ok HV'.out.good (q1 : Int) (by omega)
          have hov : overN (takeS s' (toN s' (q1 : Int))) = if toN s' (q1 : Int) = n then 1 else 0 := ow_over HV'.out _ (fun _ => Hen'.out) a3
          have hT := h_take HS'.out (q1 : Int) (by omega) (by omega) _ rfl
          rw [htb, hov] at hT
          generalize toN s' (q1 : Int) = t at *
          generalize codeN (takeS s' t) = cd at *
          obtain ⟨ov2, hov2⟩ : ∃ ov2, ov2 = if t = n then 1 else 0 := ⟨_, rfl⟩
          rw [← hov2, hqw] at hT
          have Hov2 := Lib.hid hov2
          have HT := Lib.hid hT
          have HVT := Lib.hid VT
          have HtpT : Hid ((takeS s' t).top = n) := Lib.hid Htp'.out
          have HenT : Hid ((takeS s' t).ended = true) := Lib.hid Hen'.out
          have Hn3T : Hid (∀ j : Nat, j < n → InL (takeS s' t).L (j : Int)) := Lib.hid Hn3'.out
          have hgt : s'.taken < t := by omega
          clear hT VT hov htb hov2 hto Hov' HV' Htp' Hen' Hn3'
          go_wp2_with fail
          with_reducible refine (HPq.out _).mono ?_
          rintro e w' ⟨rfl, rfl⟩
          go_wp2_with fail
          with_reducible refine (HT.out).mono ?_
          rintro e w7 ⟨vr, rfl, hr7, hs7, hk7⟩
          obtain ⟨Ax, cx, rfl⟩ := hr7.form
          have hF1' := HF1'.out
          have HX := Lib.hid (hr7.src (encB_one _))
          have HS7 := Lib.hid hs7
          have Hgot7 := Lib.hid (Hgot'.out.kp hk7 (fun k hk e => e (HFg'.out k hk)))
          have HkW7 := Lib.hid (Hkp'.out.trans (hk7.mono (S' := fun k => w1.heap.size ≤ k) (fun k _ e => Nat.le_of_not_lt (fun h => e (hF1' k h)))))
          have hw17 : w1.heap.size ≤ w7.heap.size := Nat.le_trans hw14 HkW7.out.size
          obtain ⟨j0, hjj, hy0, hy1, hy2⟩ := info_parts infoB
          have Hj := Lib.hid hjj
          have Hy0 := Lib.hid hy0
          have Hy1 := Lib.hid hy1
          have Hy2 := Lib.hid hy2
          clear hr7 hs7 hk7 HT Hgot' Hkp' hjj hy0 hy1 hy2 hF1' HS' Hall'
          generalize htkg : s'.taken = tk at *
          have Htkg := Lib.hid htkg
          clear htkg
          obtain ⟨dx, hdx⟩ : ∃ dx, dx = t - tk := ⟨_, rfl⟩
          rw [← hdx] at HX
          have e9 : tk + dx = t := by omega
          have e8 : encB (al.take tk) ++ encB ((al.drop tk).take dx) = encB (al.take t) := by
            rw [show encB (al.take tk) ++ encB ((al.drop tk).take dx) = encB (al.take tk ++ (al.drop tk).take dx) from List.map_append.symm, hdx, got_app a1]
          have E9 := Lib.hid e9
          have E8 := Lib.hid e8
          have d0 : ((dx : Int) == 0) = false := by simp; omega
          have d1 : ¬ dx = 0 := by omega
          have hdx2 : dx ≤ 400 := by omega
          have htk4 : tk ≤ 400 := by omega
          simp only [← hdx]
          clear hdx e9 e8
          go_upto_region 39 with (fail)
          go_wp2_with (at_builtin; refine wpList_row rfl (.tmp 198) (.tmp 199) 22 rfl w1.heap.size 5 j0 _ 1 1 Try.underlying22 Hj.out Hy0.out Hy1.out Hy2.out rfl (by decide) _ tk _ rfl Hgot7.out _ dx _ rfl HX.out (by unfold maxLen; omega) (by omega) hw17 ?_; intro v8 w8 hr8 hg8 hn8; rw [E9.out, E8.out] at hr8; obtain ⟨A7, c7, rfl⟩ := hr8.form; have Hr8 := Lib.hid hr8; have Hg8 := Lib.hid hg8; have Hn8 := Lib.hid hn8; clear hr8 hg8 hn8)
          have hkF : Kp F' w7 w8 := Kp.of_grown Hg8.out (fun k hk _ => HFg'.out k hk)
          go_roundw
          case rel =>
            refine ⟨ov2, takeS s' t, A7, c7, fun k => (F' k ∨ (wr.heap.size ≤ k ∧ k < w7.heap.size)) ∨ (w7.heap.size ≤ k ∧ k < w8.heap.size), rfl, rfl, a3, Hov2, HtpT, HenT, Hn3T, HVT, Lib.hid (HS7.out.turn (hkF.mono (fun _ _ e => .inl e))), Lib.hid (fun k h => .inl (.inl (HF1'.out k h))), Lib.hid (fun k hk => ?_), Hr8, Lib.hid (HkW7.out.trans (Kp.of_grown Hg8.out (fun k hk _ => (Hgot7.out.lt k hk).1)))⟩
            rcases Hn8.out with hn | hn
            · exact .inl (.inl (HFg'.out k (hn ▸ hk)))
            · exact .inr ⟨hn k hk, (Hr8.out.lt k hk).2⟩
          case measure => have := Htkg.out; simp only [slLen]; omega
        · have htE : s'.taken = n := by omega
          have hov' : ov' = 1 := by rw [Hov'.out, if_pos htE]
          have hR := h_rest HS'.out
          rw [Htp'.out, htE, show ((n : Int) - (n : Int)) = 0 by omega] at hR
          have HR := Lib.hid hR
          have hgot := Hgot'.out
          rw [htE, List.take_of_length_le (by omega)] at hgot
          obtain ⟨sB, hsB⟩ : ∃ sB : ByteArray, (⟨al.toArray⟩ : ByteArray) = sB := ⟨_, rfl⟩
          have cv1 := conv_any hal1.symm hgot
          have cv2 := conv_any hal1.symm Hall'.out
          rw [hsB] at cv1 cv2
          subst hov'
          simp only [htE]
          clear hR hgot hsB t0 t0' htn
          go_wp2_with fail
          refine (HR.out).mono ?_
          rintro e w9 ⟨rfl, hk9⟩
          go_wp2_with fail
          go_ret
          refine ⟨rfl, ?_⟩
          exact ((Hk13.out.trans (Hkp'.out.mono (S' := fun k => W.heap.size ≤ k) (fun k _ e => by omega))).trans hk9.no).below (Nat.le_refl _) (fun k h => h)
end Go.Proofs.Ytbkpapdbidbhaaa

/-
  argosylaw14.RecvSure: the walk.
-/
import Derived.Test.YtbkpapdbidbhaaaRecvS
import Derived.Test.YtbkpapdbidbhaaaRecvF
import Derived.Test.YtbkpapdbidbhaaaRecvRefuses
namespace Go.Proofs.Ytbkpapdbidbhaaa
open Go.RowKit

theorem add_block (x : Addr) (a : Nat) : (x.add a).block = x.block := by unfold Addr.add; split <;> rfl
theorem src_cut0 {w : World} {B n cv a m : Nat} {Av : Option Addr} {al : List UInt8} (h : RowAt w B 1 (.slice Av n cv) n (encB al)) (hm : m = 0) : Src w 1 (.slice Av m 0) m (encB ((al.drop a).take m)) := by
  subst hm
  rw [List.take_zero]
  refine ⟨rfl, encB_one _, ?_⟩
  cases Av with
  | none => exact .inl ⟨rfl, rfl⟩
  | some x => exact .inr ⟨x, 0, rfl, fun j u hj => by simp [encB] at hj⟩
theorem src_cut {w : World} {B n cv a m : Nat} {Av : Option Addr} {al : List UInt8} (h : RowAt w B 1 (.slice Av n cv) n (encB al)) (ham : a + m ≤ n) (hca : ¬ cv = a) : Src w 1 (.slice (Av.map (fun x => x.add a)) m (cv - a)) m (encB ((al.drop a).take m)) := by
  have hl := h.1
  rw [encB_len, Nat.mul_one] at hl
  rcases h.2 with ⟨hv, h0⟩ | ⟨g, off, cap, hv, _, _, _, _, _, _, h7⟩
  · cases hv; omega
  · cases hv
    refine ⟨by rw [encB_len, List.length_take, List.length_drop]; omega, encB_one _, .inr ⟨⟨g, off + a, none⟩, cv - a, by simp [Addr.add_lit], fun j u hj => ?_⟩⟩
    rw [Addr.add_lit, Nat.add_assoc]
    refine h7 (a + j) u ?_
    unfold encB at hj ⊢
    rw [List.map_take, List.map_drop, List.getElem?_take] at hj
    split at hj
    · rw [List.getElem?_drop] at hj
      exact hj
    · cases hj
set_option maxRecDepth 100000 in
set_option maxHeartbeats 4000000 in
theorem RecvSure_any (W : World) (v0 : Value) (hv0 : SlArg 22 W v0) (v1 : Value) (hv1 : SlArg 23 W v1) (x2 : Int) (_l2 : -9223372036854775808 ≤ x2) (_h2 : x2 ≤ 9223372036854775807) (x3 : Int) (_l3 : -9223372036854775808 ≤ x3) (_h3 : x3 ≤ 9223372036854775807)
    (x4 : Int) (_l4 : -9223372036854775808 ≤ x4) (_h4 : x4 ≤ 9223372036854775807) (x5 : Int) (_l5 : -9223372036854775808 ≤ x5) (_h5 : x5 ≤ 9223372036854775807) :
    Calls Try.prog 6 #[v0, v1, .int .i64 x2, .int .i64 x3, .int .i64 x4, .int .i64 x5] W fun e w' => e = .returned (.bool true) ∧ Below W.heap.size W w' := by
  obtain ⟨A, pd, cap, rfl, hbs, hlc, hcm, hA0, hAb, hreach⟩ := bytes_rd hv0
  obtain ⟨Ar, len, capr, rfl, hlcr, hcmr, hreachr, hcells⟩ := raw14_rd hv1
  unfold maxLen at hcmr
  unfold reachBytes at hreachr
  have HFe := Lib.hid (few_any hbs hlc hcm (fun h0 a ha => by obtain ⟨b, off, hx, _⟩ := hAb h0; rw [hx] at ha; cases ha; rw [Addr.add_lit, Nat.add_zero]) hA0 200 (by omega))
  have Hc := Lib.hid hcells
  clear hv0 hv1 hbs hlc hcm hA0 hAb hreach hcells
  generalize hal : pd.take 200 = al at *
  have hal2 : al.length ≤ 200 := by rw [← hal, List.length_take]; omega
  clear hal
  generalize pd.length = pl at *
  generalize hn : al.length = n at *
  have Hn := Lib.hid hn
  clear hn
  go_enter Try.func6, Try.ntmps6
  go_wp2_with fail
  refine (HFe.out).mono ?_
  rintro e w1 ⟨v1, rfl, hrow, hk1⟩
  obtain ⟨Av, cv, rfl⟩ := (RowAt.of_own hrow).form
  have Hrow := Lib.hid (RowAt.of_own hrow)
  have hcv := row_capL Hrow.out
  have Hk1 := Lib.hid hk1
  clear hrow hk1 HFe
  have HN := Lib.hid (h_new 7 w1 (fun k => k < w1.heap.size) (fun k h => h))
  go_wp2_with fail
  with_reducible refine (HN.out).mono ?_
  rintro e w2 ⟨g, rfl, hs2, hg2, hk2⟩
  have HS2 := Lib.hid hs2
  have Hk2 := Lib.hid hk2
  have HK := Lib.hid (known14 w2)
  clear hs2 hk2 HN
  go_wp2_with fail
  with_reducible refine (HK.out).mono ?_
  rintro e w3 ⟨rfl, hk3⟩
  have HS3 := Lib.hid (HS2.out.no hk3)
  have Hk3 := Lib.hid (Hk2.out.trans hk3)
  clear hk3 HS2 Hk2 HK
  obtain ⟨en, hen⟩ := Int.eq_ofNat_of_zero_le (pickF_lo x3 ((n : Int) + 1) (by omega))
  have hen2 := pickF_hi x3 ((n : Int) + 1) (by omega)
  have HP1 := Lib.hid (fun w => pick_any x3 ((n : Int) + 1) w (by omega) (by omega))
  rw [hen] at HP1 hen2
  have hen3 : en ≤ n := by omega
  obtain ⟨su0, hsu⟩ := Int.eq_ofNat_of_zero_le (pickF_lo x4 ((en : Int) + 1) (by omega))
  have hsu2 := pickF_hi x4 ((en : Int) + 1) (by omega)
  have HP2 := Lib.hid (fun w => pick_any x4 ((en : Int) + 1) w (by omega) (by omega))
  rw [hsu] at HP2 hsu2
  have hsu3 : su0 ≤ en := by omega
  obtain ⟨wn, hwn⟩ := Int.eq_ofNat_of_zero_le (pickF_lo x2 ((len : Int) + 1) (by omega))
  have hwn2 := pickF_hi x2 ((len : Int) + 1) (by omega)
  have HPw := Lib.hid (fun w => pick_any x2 ((len : Int) + 1) w (by omega) (by omega))
  rw [hwn] at HPw hwn2
  have hwn3 : wn ≤ len := by omega
  clear hen hen2 hsu hsu2 hwn hwn2
  go_wp2_with fail
  with_reducible refine (HP1.out _).mono ?_
  rintro e w' ⟨rfl, rfl⟩
  go_wp2_with fail
  with_reducible refine (HP2.out _).mono ?_
  rintro e w' ⟨rfl, rfl⟩
  have hk13 : Kp (fun k => W.heap.size ≤ k) W w3 := (Hk1.out.trans Hk3.out).no
  have hrow3 : RowAt w3 W.heap.size 1 (.slice Av n cv) n (encB al) := Hrow.out.kp Hk3.out (fun _ _ h => h)
  have hown3 : ∀ k, (Value.slice Av n cv).ownBlock = some k → k < w1.heap.size := fun k hk => (Hrow.out.lt k hk).2
  have hw13 := Hk3.out.size
  have hWw1 := Hk1.out.size
  have Hk13 := Lib.hid hk13
  have Hrow3 := Lib.hid hrow3
  have Hown3 := Lib.hid hown3
  clear HP1 HP2 hk13 hrow3 hown3 Hrow Hk1 Hk3
  go_wp2_with fail
  go_loopw [4, 5, 15, 16, 17, 18] (fun v4 v5 v15 v16 v17 vi wr => ∃ (i su ah : Nat) (le : Int) (b : Bool) (s : RS) (Ag : Option Addr) (cg : Nat) (F : Nat → Prop), i ≤ len ∧ vi = .int .i64 i ∧ v4 = .int .i64 (su : Int) ∧ v5 = .int .i64 le ∧ v15 = .slice Ag s.taken cg ∧ v16 = .bool b ∧ v17 = .int .i64 (ah : Int) ∧
      Hid (b = decide (wn < i)) ∧ Hid (s.broken = b) ∧ su ≤ en ∧ Hid (b = true → s.sure = su ∧ ah ≤ s.taken ∧ s.taken ≤ max su ah) ∧ Hid (Sv al en s) ∧ Hid (HasSt wr F g s) ∧ Hid (∀ k, k < w1.heap.size → F k) ∧ Hid (∀ k, (Value.slice Ag s.taken cg).ownBlock = some k → F k) ∧
      Hid (RowAt wr w1.heap.size 1 (.slice Ag s.taken cg) s.taken (encB (al.take s.taken))) ∧ Kp (fun k => w1.heap.size ≤ k) w3 wr)
    (fun _ _ _ _ _ vi _ => len - (intOf vi).toNat)
  case atStart => exact ⟨0, su0, 0, x5, false, rs0, none, 0, _, by omega, rfl, rfl, rfl, rfl, rfl, rfl, Lib.hid (decide_eq_false (by omega)).symm, Lib.hid rfl, hsu3, Lib.hid (fun h => by cases h), Lib.hid sv_start, HS3, Lib.hid (fun k h => h), Lib.hid (fun k h => by cases h), Lib.hid (RowAt.nil _ _ _), Kp.refl _ _⟩
  case round =>
    obtain ⟨i, su, ah, le, b, s, Ag, cg, F, hi, rfl, rfl, rfl, rfl, rfl, rfl, Hb, Hsb, hsu, Hbt, HV, HS, HFo, HFg, Hgot, hkp⟩ := hrel
    have Hkp := Lib.hid hkp
    clear hkp
    have t0 : (i : Int) ≤ (len : Int) := by omega
    have hgl := HS.out.lt.1
    go_wp2_with fail
    with_reducible refine (HPw.out _).mono ?_
    rintro e w' ⟨rfl, rfl⟩
    go_upto_if 63 with (fail)
    go_cut [4, 5, 16, 17] (fun v4 v5 v16 v17 wx => ∃ (su ah : Nat) (le : Int) (b : Bool) (s' : RS), v4 = .int .i64 (su : Int) ∧ v5 = .int .i64 le ∧ v16 = .bool b ∧ v17 = .int .i64 (ah : Int) ∧
      Hid (b = decide (wn ≤ i)) ∧ Hid (s'.broken = b) ∧ su ≤ en ∧ Hid (b = true → s'.sure = su ∧ ah ≤ s'.taken ∧ s'.taken ≤ max su ah) ∧ Hid (Sv al en s') ∧ Hid (HasSt wx F g s') ∧ Hid (s'.taken = s.taken) ∧ Hid (Kp (fun k => ¬ F k) wr wx))
    case first =>
      as_aux_lemma =>
        by_cases hw : i = wn
        · have t1 : ((i : Int) == (wn : Int)) = true := by simp; omega
          have hbf : s.broken = false := by rw [Hsb.out, Hb.out]; exact decide_eq_false (by omega)
          have hB := h_brk HS.out 77 en su (sv_berr HV.out (by omega) 77 su (by omega) hsu)
          have HB := Lib.hid hB
          have Hw := Lib.hid hw
          have Hbf := Lib.hid hbf
          clear hw hB hbf
          go_wp2_with fail
          refine (HB.out).mono ?_
          rintro e w4 ⟨rfl, hs4, hk4⟩
          obtain ⟨q1, q2, q3, q4⟩ := sv_brk1 HV.out Hbf.out su hs4.ok
          generalize brkS s 77 en su = s4 at *
          have HS4 := Lib.hid hs4
          have Hk4 := Lib.hid hk4
          have Q1 := Lib.hid q1
          have Q2 := Lib.hid q2
          have Q3 := Lib.hid q3
          have Q4 := Lib.hid q4
          clear hs4 hk4 q1 q2 q3 q4 HB
          obtain ⟨l1, hl1⟩ := Int.eq_ofNat_of_zero_le (pickF_lo le ((su : Int) + 1) (by omega))
          have hl2 := pickF_hi le ((su : Int) + 1) (by omega)
          have HPl := Lib.hid (fun w => pick_any le ((su : Int) + 1) w (by omega) (by omega))
          rw [hl1] at HPl hl2
          have hl3 : l1 ≤ su := by omega
          clear hl1 hl2
          have htm : (i : Int).tmod 2 = ((i % 2 : Nat) : Int) := by rw [Int.tmod_eq_emod_of_nonneg (by omega)]; omega
          go_wp2_with fail
          with_reducible refine (HPl.out _).mono ?_
          rintro e w' ⟨rfl, rfl⟩
          by_cases hodd : i % 2 = 1
          · have r1 : (((i % 2 : Nat) : Int) == 1) = true := by simp; omega
            have hB2 := h_brk HS4.out 5 en l1 (sv_berr Q1.out (by omega) 5 l1 (by omega) (by omega))
            have HB2 := Lib.hid hB2
            clear hodd hB2
            generalize i % 2 = i2 at *
            go_wp2_with fail
            refine (HB2.out).mono ?_
            rintro e w5 ⟨rfl, hs5, hk5⟩
            obtain ⟨q1, q2, q3, q4⟩ := sv_brk2 Q1.out Q2.out 5 l1 hs5.ok
            generalize brkS s4 5 en l1 = s5 at *
            have HS5 := Lib.hid hs5
            have Hk5 := Lib.hid (Hk4.out.trans hk5)
            have R1 := Lib.hid q1
            have R2 := Lib.hid q2
            have R3 := Lib.hid q3
            have R4 := Lib.hid q4
            clear hs5 hk5 q1 q2 q3 q4 HB2
            go_wp2_with fail
            go_meet
            case rel => exact ⟨l1, s.taken, _, true, s5, rfl, rfl, rfl, rfl, Lib.hid (decide_eq_true (by have := Hw.out; omega)).symm, R2, by omega, Lib.hid (fun _ => ⟨by rw [R3.out, Q3.out]; omega, by rw [R4.out, Q4.out]; exact Nat.le_refl _, by rw [R4.out, Q4.out]; omega⟩), R1, HS5, Lib.hid (R4.out.trans Q4.out), Hk5⟩
          · have r1 : (((i % 2 : Nat) : Int) == 1) = false := by simp; omega
            clear hodd
            generalize i % 2 = i2 at *
            go_wp2_with fail
            go_meet
            case rel => exact ⟨su, s.taken, _, true, s4, rfl, rfl, rfl, rfl, Lib.hid (decide_eq_true (by have := Hw.out; omega)).symm, Q2, hsu, Lib.hid (fun _ => ⟨Q3.out, by rw [Q4.out]; exact Nat.le_refl _, by rw [Q4.out]; omega⟩), Q1, HS4, Q4, Hk4⟩
        · have t1 : ((i : Int) == (wn : Int)) = false := by simp; omega
          have Hw := Lib.hid hw
          clear hw
          go_wp2_with fail
          go_meet
          case rel => exact ⟨su, ah, le, b, s, rfl, rfl, rfl, rfl, Lib.hid (by rw [Hb.out]; congr 1; have := Hw.out; simp only [eq_iff_iff]; omega), Hsb, hsu, Hbt, HV, HS, Lib.hid rfl, Lib.hid (Kp.refl _ _)⟩
    case rest =>
      obtain ⟨su', ah', le', b', s', rfl, rfl, rfl, rfl, Hb', Hsb', hsu', Hbt', HV', HS', Htk', Hk'⟩ := hcut
      generalize wc = w4 at *
      have hgl4 := HS'.out.lt.1
      have hF1 : ∀ k, k < w1.heap.size → F k := HFo.out
      have HkW : Hid (Kp (fun k => w1.heap.size ≤ k) w3 w4) := Lib.hid (Hkp.out.trans (Hk'.out.mono (S' := fun k => w1.heap.size ≤ k) (fun k _ e => Nat.le_of_not_lt (fun h => e (hF1 k h)))))
      have Hgot4 : Hid (RowAt w4 w1.heap.size 1 (.slice Ag s.taken cg) s.taken (encB (al.take s.taken))) := Lib.hid (Hgot.out.kp Hk'.out (fun k hk e => e (HFg.out k hk)))
      have Hall4 : Hid (RowAt w4 W.heap.size 1 (.slice Av n cv) n (encB al)) := Lib.hid (Hrow3.out.kp HkW.out (fun k hk e => by have := Hown3.out k hk; omega))
      have HF1 := Lib.hid hF1
      clear Hgot Hk' Hkp HS HV Hbt Hsb Hb hF1
      by_cases hlast : i = len
      · have hl0 := hlast
        as_aux_lemma =>
          have t2 : ((i : Int) == (len : Int)) = true := by simp; omega
          have hbT : b' = true := by rw [Hb'.out]; exact decide_eq_true (by omega)
          subst hbT
          obtain ⟨hb1, hb2, hb3⟩ := Hbt'.out rfl
          have hal1 : al.length = n := Hn.out
          have hpl3 : (al.take en).length = en := by rw [List.length_take]; omega
          have HPut := Lib.hid (h_put HS'.out 0 false (src_pre (Hall4.out.src (encB_one _)) en hen3) (by omega) hcv.2 (fun k hk => HF1.out k (Hown3.out k (by cases Av with | none => cases hk | some a => exact hk))) (sv_perr HV'.out (by omega) 0 en (by omega)))
          have hV5 := fun hok => sv_put HV'.out (by omega) (o := 0) (p := al.take en) (by omega) (fun j h1 h2 => by rw [List.getElem?_take, if_pos (by omega)]; simp) hok
          have hI5 := sv_full HV'.out (by omega) hpl3
          have HV5' := Lib.hid hV5
          have HI5 := Lib.hid hI5
          have Hal := Lib.hid hal1
          clear hlast hV5 hI5 hpl3 hal1
          go_wp2_with fail
          refine (HPut.out).mono ?_
          rintro e w5 ⟨rfl, hs5, hk5⟩
          have hV5 := HV5'.out hs5.ok
          have hI5 := HI5.out
          have hb5 : (putS s' 0 false (al.take en)).broken = true := Hsb'.out
          have hsu5 : (putS s' 0 false (al.take en)).sure = su' := hb1
          have htk5 : (putS s' 0 false (al.take en)).taken = s.taken := Htk'.out
          generalize putS s' 0 false (al.take en) = s5 at *
          obtain ⟨V6, a1, a2, a3, a4, a5⟩ := sv_take hV5 999
          have htb := take_bytes hV5.ok hV5.good 999 (by have := Hal.out; omega)
          have hlt5 := sv_last hV5 hb5 hI5 (by rw [hsu5]; exact hsu') (by omega)
          have hT := h_take hs5 999 (by omega) (by omega) _ rfl
          rw [htb] at hT
          rw [a4, a5] at hT
          generalize toN s5 999 = t at *
          rw [htk5] at hlt5 hT a1
          rw [hsu5] at hlt5
          have hsv : s5.broken = true ∧ s5.sure ≤ t := ⟨hb5, by rw [hsu5]; omega⟩
          rw [if_pos hsv, if_pos hsv] at hT
          have hmax : (t : Int) = (if (su' : Int) < (ah' : Int) then (ah' : Int) else (su' : Int)) := by
            have := Htk'.out
            split <;> omega
          have HT := Lib.hid hT
          have Hmax := Lib.hid hmax
          have htop : s5.top = en := (hV5.brk hb5).2.1
          have Htop := Lib.hid htop
          have Hgot5 := Lib.hid (Hgot4.out.kp hk5 (fun k hk e => e (HFg.out k hk)))
          have Hall5 := Lib.hid (Hall4.out.kp hk5 (fun k hk e => e (HF1.out k (Hown3.out k hk))))
          have HkW5 := Lib.hid (HkW.out.trans (hk5.mono (S' := fun k => w1.heap.size ≤ k) (fun k _ e => Nat.le_of_not_lt (fun h => e (HF1.out k h)))))
          have ht200 : t ≤ 200 := by omega
          have hten : t ≤ n := by omega
          clear hT hmax htop hk5 hs5 hV5 hI5 hb5 hsu5 htk5 V6 a3 a4 a5 htb hlt5 hsv HPut HV5' HI5 Hgot4 Hall4 HkW HS' HV' Hbt' hb1 hb2 hb3
          generalize htkg : s.taken = tk at *
          have Htkg := Lib.hid htkg
          clear htkg
          obtain ⟨dx, hdx⟩ : ∃ dx, dx = t - tk := ⟨_, rfl⟩
          rw [← hdx] at HT
          have hdx2 : dx ≤ 200 := by omega
          have htk200 : tk ≤ 200 := by omega
          have e9 : tk + dx = t := by omega
          have e8 : encB (al.take tk) ++ encB ((al.drop tk).take dx) = encB (al.take t) := by
            rw [show encB (al.take tk) ++ encB ((al.drop tk).take dx) = encB (al.take tk ++ (al.drop tk).take dx) from List.map_append.symm, hdx, got_app a1]
          have E9 := Lib.hid e9
          have E8 := Lib.hid e8
          clear hdx e9 e8
          obtain ⟨j0, hjj, hy0, hy1, hy2⟩ := info_parts infoB
          have Hj := Lib.hid hjj
          have Hy0 := Lib.hid hy0
          have Hy1 := Lib.hid hy1
          have Hy2 := Lib.hid hy2
          clear hjj hy0 hy1 hy2
          go_wp2_with fail
          refine (HT.out).mono ?_
          rintro e w6 ⟨vr, rfl, hr6, hs6, hk6⟩
          obtain ⟨Ax, cx, rfl⟩ := hr6.form
          have HX := Lib.hid (hr6.src (encB_one _))
          have HS6 := Lib.hid hs6
          have Hgot6 := Lib.hid (Hgot5.out.kp hk6 (fun k hk e => e (HFg.out k hk)))
          have Hall6 := Lib.hid (Hall5.out.kp hk6 (fun k hk e => e (HF1.out k (Hown3.out k hk))))
          have HkW6 := Lib.hid (HkW5.out.trans (hk6.mono (S' := fun k => w1.heap.size ≤ k) (fun k _ e => Nat.le_of_not_lt (fun h => e (HF1.out k h)))))
          have hw16 : w1.heap.size ≤ w6.heap.size := Nat.le_trans hw13 HkW6.out.size
          clear hr6 hs6 hk6 HT Hgot5 Hall5 HkW5
          go_upto_region 37 with (fail)
          go_wp2_with (at_builtin; refine wpList_row rfl (.tmp 200) (.tmp 201) 22 rfl w1.heap.size 5 j0 _ 1 1 Try.underlying22 Hj.out Hy0.out Hy1.out Hy2.out rfl (by decide) _ tk _ rfl Hgot6.out _ dx _ rfl HX.out (by unfold maxLen; omega) (by omega) hw16 ?_; intro v7 w7 hr7 hg7 hn7; rw [E9.out, E8.out] at hr7; obtain ⟨A7, c7, rfl⟩ := hr7.form; have Hr7 := Lib.hid hr7; have Hg7 := Lib.hid hg7; have Hn7 := Lib.hid hn7; clear hr7 hg7 hn7)
          have Hk67 := Lib.hid (Kp.of_grown (S := fun k => w1.heap.size ≤ k) Hg7.out (fun k hk _ => (Hgot6.out.lt k hk).1))
          have HkF : Kp F w6 w7 := Kp.of_grown Hg7.out (fun k hk _ => HFg.out k hk)
          have HS7 := Lib.hid (HS6.out.turn (HkF.mono (fun _ _ e => .inl e)))
          have Hgl : Hid (t = (al.take t).length) := Lib.hid (by rw [List.length_take, Hal.out]; omega)
          have Hal7 := Lib.hid (row_pre (Hall6.out.kp Hk67.out (fun k hk e => by have := Hown3.out k hk; omega)) t hten)
          have hR := h_rest HS7.out
          rw [show (takeS s5 t).top = en from Htop.out, show (takeS s5 t).taken = t from rfl] at hR
          obtain ⟨sB, hsB⟩ : ∃ sB : ByteArray, (⟨(al.take t).toArray⟩ : ByteArray) = sB := ⟨_, rfl⟩
          have HsB := Lib.hid hsB
          have hmx : (if su' < ah' then (ah' : Int) else (su' : Int)) = (t : Int) := by
            have := Hmax.out
            split at this <;> split <;> omega
          have hwe : IntKind.i64.wrap ((en : Int) - (t : Int)) = (en : Int) - (t : Int) := IntWalk.i64_in _ (by omega)
          have q8 : t ≤ cv := by omega
          have HR7 := Lib.hid (fun (w' : World) (hk : Kp (fun _ => False) w7 w') => (show Calls Try.prog 15 #[.pointer (some ⟨g, 0, none⟩)] w' (fun e w'' => e = .returned (.int .i64 ((en : Int) - (t : Int))) ∧ Kp (fun _ => False) w' w'') by
            have h := h_rest (HS7.out.no hk)
            rw [show (takeS s5 t).top = en from Htop.out, show (takeS s5 t).taken = t from rfl] at h
            exact h))
          clear hR hsB HkF Hmax
          go_upto_region 38 with (fail)
          refine wp_region_held_drew (S := (fun w' => Kp (fun _ => False) w7 w')) (by kernel_rfl) (Kp.drew (Kp.refl _ w7)) (fun hHeld => ?_)
          refine wpAnyH_take (i := 0) (oi := { dst := some 203, op := Op.move (.tmp 31), type := _, pos := _, after := _, guard := _ }) (v := ?_) rfl (by kernel_rfl) (by kernel_rfl) (by kernel_rfl) (fun _ _ _ h => h) (Or.inl ⟨by rfl, ?_⟩) hHeld ?_
          rotate_left
          · intro w99 hSw
            first | (go_simp; done) | (go_simp; with_reducible rfl)
          try simp only [Act.put, List.setIfInBounds_toArray, List.set_cons_zero, List.set_cons_succ]
          refine wpAnyH_take (i := 1) (oi := { dst := some 204, op := Op.binOp BinOp.eql 3 (.tmp 203) (.const (.int .i64 2)) 3, type := _, pos := _, after := _, guard := _ }) (v := ?_) rfl (by kernel_rfl) (by kernel_rfl) (by kernel_rfl) (fun _ _ _ h => h) (Or.inl ⟨by rfl, ?_⟩) hHeld ?_
          rotate_left
          · intro w99 hSw
            first | (go_simp; done) | (go_simp; with_reducible rfl)
          try simp only [Act.put, List.setIfInBounds_toArray, List.set_cons_zero, List.set_cons_succ]
          refine wpAnyH_take (i := 2) (oi := { dst := some 205, op := Op.move (.tmp 204), type := _, pos := _, after := _, guard := _ }) (v := ?_) rfl (by kernel_rfl) (by kernel_rfl) (by kernel_rfl) (fun _ _ _ h => h) (Or.inl ⟨by rfl, ?_⟩) hHeld ?_
          rotate_left
          · intro w99 hSw
            first | (go_simp; done) | (go_simp; with_reducible rfl)
          try simp only [Act.put, List.setIfInBounds_toArray, List.set_cons_zero, List.set_cons_succ]
          refine wpAnyH_take (i := 3) (oi := { dst := some 206, op := Op.move (.tmp 32), type := _, pos := _, after := _, guard := _ }) (v := ?_) rfl (by kernel_rfl) (by kernel_rfl) (by kernel_rfl) (fun _ _ _ h => h) (Or.inl ⟨by rfl, ?_⟩) hHeld ?_
          rotate_left
          · intro w99 hSw
            first | (go_simp; done) | (go_simp; with_reducible rfl)
          try simp only [Act.put, List.setIfInBounds_toArray, List.set_cons_zero, List.set_cons_succ]
          refine wpAnyH_take (i := 4) (oi := { dst := some 207, op := Op.binOp BinOp.eql 3 (.tmp 206) (.const (.int .i64 77)) 3, type := _, pos := _, after := _, guard := _ }) (v := ?_) rfl (by kernel_rfl) (by kernel_rfl) (by kernel_rfl) (fun _ _ _ h => h) (Or.inl ⟨by rfl, ?_⟩) hHeld ?_
          rotate_left
          · intro w99 hSw
            first | (go_simp; done) | (go_simp; with_reducible rfl)
          try simp only [Act.put, List.setIfInBounds_toArray, List.set_cons_zero, List.set_cons_succ]
          refine wpAnyH_take (i := 5) (oi := { dst := some 208, op := Op.pick (.tmp 205) (.tmp 207) (.const (Value.bool false)), type := _, pos := _, after := _, guard := _ }) (v := ?_) rfl (by kernel_rfl) (by kernel_rfl) (by kernel_rfl) (fun _ _ _ h => h) (Or.inl ⟨by rfl, ?_⟩) hHeld ?_
          rotate_left
          · intro w99 hSw
            first | (go_simp; done) | (go_simp; with_reducible rfl)
          try simp only [Act.put, List.setIfInBounds_toArray, List.set_cons_zero, List.set_cons_succ]
          refine wpAnyH_take (i := 6) (oi := { dst := some 209, op := Op.move (.tmp 208), type := _, pos := _, after := _, guard := _ }) (v := ?_) rfl (by kernel_rfl) (by kernel_rfl) (by kernel_rfl) (fun _ _ _ h => h) (Or.inl ⟨by rfl, ?_⟩) hHeld ?_
          rotate_left
          · intro w99 hSw
            first | (go_simp; done) | (go_simp; with_reducible rfl)
          try simp only [Act.put, List.setIfInBounds_toArray, List.set_cons_zero, List.set_cons_succ]
          refine wpAnyH_take (i := 7) (oi := { dst := some 210, op := Op.move (.tmp 15), type := _, pos := _, after := _, guard := _ }) (v := ?_) rfl (by kernel_rfl) (by kernel_rfl) (by kernel_rfl) (fun _ _ _ h => h) (Or.inl ⟨by rfl, ?_⟩) hHeld ?_
          rotate_left
          · intro w99 hSw
            first | (go_simp; done) | (go_simp; with_reducible rfl)
          try simp only [Act.put, List.setIfInBounds_toArray, List.set_cons_zero, List.set_cons_succ]
          refine wpAnyH_take (i := 8) (oi := { dst := some 211, op := Op.call { callee := Callee.builtin Builtin.len, args := #[(.tmp 210)], argTypes := #[22] }, type := _, pos := _, after := _, guard := _ }) (v := ?_) rfl (by kernel_rfl) (by kernel_rfl) (by kernel_rfl) (fun _ _ _ h => h) (Or.inl ⟨by rfl, ?_⟩) hHeld ?_
          rotate_left
          · intro w99 hSw
            first | (go_simp; done) | (go_simp; with_reducible rfl)
          try simp only [Act.put, List.setIfInBounds_toArray, List.set_cons_zero, List.set_cons_succ]
          refine wpAnyH_take (i := 9) (oi := { dst := some 212, op := Op.move (.tmp 4), type := _, pos := _, after := _, guard := _ }) (v := ?_) rfl (by kernel_rfl) (by kernel_rfl) (by kernel_rfl) (fun _ _ _ h => h) (Or.inl ⟨by rfl, ?_⟩) hHeld ?_
          rotate_left
          · intro w99 hSw
            first | (go_simp; done) | (go_simp; with_reducible rfl)
          try simp only [Act.put, List.setIfInBounds_toArray, List.set_cons_zero, List.set_cons_succ]
          refine wpAnyH_take (i := 10) (oi := { dst := some 213, op := Op.move (.tmp 17), type := _, pos := _, after := _, guard := _ }) (v := ?_) rfl (by kernel_rfl) (by kernel_rfl) (by kernel_rfl) (fun _ _ _ h => h) (Or.inl ⟨by rfl, ?_⟩) hHeld ?_
          rotate_left
          · intro w99 hSw
            first | (go_simp; done) | (go_simp; with_reducible rfl)
          try simp only [Act.put, List.setIfInBounds_toArray, List.set_cons_zero, List.set_cons_succ]
          refine wpAnyH_take (i := 11) (oi := { dst := some 214, op := Op.call { callee := Callee.builtin Builtin.max, args := #[(.tmp 212), (.tmp 213)], argTypes := #[3, 3] }, type := _, pos := _, after := _, guard := _ }) (v := ?_) rfl (by kernel_rfl) (by kernel_rfl) (by kernel_rfl) (fun _ _ _ h => h) (Or.inl ⟨by rfl, ?_⟩) hHeld ?_
          rotate_left
          · intro w99 hSw
            first | (go_simp; done) | (go_simp; with_reducible rfl)
          try simp only [Act.put, List.setIfInBounds_toArray, List.set_cons_zero, List.set_cons_succ]
          refine wpAnyH_take (i := 12) (oi := { dst := some 215, op := Op.binOp BinOp.eql 3 (.tmp 211) (.tmp 214) 3, type := _, pos := _, after := _, guard := _ }) (v := ?_) rfl (by kernel_rfl) (by kernel_rfl) (by kernel_rfl) (fun _ _ _ h => h) (Or.inl ⟨by rfl, ?_⟩) hHeld ?_
          rotate_left
          · intro w99 hSw
            first | (go_simp; done) | (go_simp; with_reducible rfl)
          try simp only [Act.put, List.setIfInBounds_toArray, List.set_cons_zero, List.set_cons_succ]
          refine wpAnyH_take (i := 13) (oi := { dst := some 216, op := Op.pick (.tmp 209) (.tmp 215) (.const (Value.bool false)), type := _, pos := _, after := _, guard := _ }) (v := ?_) rfl (by kernel_rfl) (by kernel_rfl) (by kernel_rfl) (fun _ _ _ h => h) (Or.inl ⟨by rfl, ?_⟩) hHeld ?_
          rotate_left
          · intro w99 hSw
            first | (go_simp; done) | (go_simp; with_reducible rfl)
          try simp only [Act.put, List.setIfInBounds_toArray, List.set_cons_zero, List.set_cons_succ]
          refine wpAnyH_take (i := 14) (oi := { dst := some 217, op := Op.move (.tmp 216), type := _, pos := _, after := _, guard := _ }) (v := ?_) rfl (by kernel_rfl) (by kernel_rfl) (by kernel_rfl) (fun _ _ _ h => h) (Or.inl ⟨by rfl, ?_⟩) hHeld ?_
          rotate_left
          · intro w99 hSw
            first | (go_simp; done) | (go_simp; with_reducible rfl)
          try simp only [Act.put, List.setIfInBounds_toArray, List.set_cons_zero, List.set_cons_succ]
          refine wpAnyH_take (i := 15) (oi := { dst := some 218, op := Op.move (.tmp 15), type := _, pos := _, after := _, guard := _ }) (v := ?_) rfl (by kernel_rfl) (by kernel_rfl) (by kernel_rfl) (fun _ _ _ h => h) (Or.inl ⟨by rfl, ?_⟩) hHeld ?_
          rotate_left
          · intro w99 hSw
            first | (go_simp; done) | (go_simp; with_reducible rfl)
          try simp only [Act.put, List.setIfInBounds_toArray, List.set_cons_zero, List.set_cons_succ]
          refine wpAnyH_take (i := 16) (oi := { dst := some 219, op := Op.convert 22 9 (.tmp 218), type := _, pos := _, after := _, guard := _ }) (v := ?_) rfl (by kernel_rfl) (by kernel_rfl) (by kernel_rfl) (fun _ _ _ h => h) (Or.inl ⟨by rfl, ?_⟩) hHeld ?_
          rotate_left
          · intro w99 hSw
            have cv1 := conv_any Hgl.out (Hr7.out.kp hSw (fun _ _ h => h)); rw [HsB.out] at cv1; first | (go_simp; done) | (go_simp; with_reducible rfl)
          try simp only [Act.put, List.setIfInBounds_toArray, List.set_cons_zero, List.set_cons_succ]
          refine wpAnyH_take (i := 17) (oi := { dst := some 220, op := Op.move (.tmp 13), type := _, pos := _, after := _, guard := _ }) (v := ?_) rfl (by kernel_rfl) (by kernel_rfl) (by kernel_rfl) (fun _ _ _ h => h) (Or.inl ⟨by rfl, ?_⟩) hHeld ?_
          rotate_left
          · intro w99 hSw
            first | (go_simp; done) | (go_simp; with_reducible rfl)
          try simp only [Act.put, List.setIfInBounds_toArray, List.set_cons_zero, List.set_cons_succ]
          refine wpAnyH_take (i := 18) (oi := { dst := some 221, op := Op.move (.tmp 15), type := _, pos := _, after := _, guard := _ }) (v := ?_) rfl (by kernel_rfl) (by kernel_rfl) (by kernel_rfl) (fun _ _ _ h => h) (Or.inl ⟨by rfl, ?_⟩) hHeld ?_
          rotate_left
          · intro w99 hSw
            first | (go_simp; done) | (go_simp; with_reducible rfl)
          try simp only [Act.put, List.setIfInBounds_toArray, List.set_cons_zero, List.set_cons_succ]
          refine wpAnyH_take (i := 19) (oi := { dst := some 222, op := Op.call { callee := Callee.builtin Builtin.len, args := #[(.tmp 221)], argTypes := #[22] }, type := _, pos := _, after := _, guard := _ }) (v := ?_) rfl (by kernel_rfl) (by kernel_rfl) (by kernel_rfl) (fun _ _ _ h => h) (Or.inl ⟨by rfl, ?_⟩) hHeld ?_
          rotate_left
          · intro w99 hSw
            first | (go_simp; done) | (go_simp; with_reducible rfl)
          try simp only [Act.put, List.setIfInBounds_toArray, List.set_cons_zero, List.set_cons_succ]
          refine wpAnyH_take (i := 20) (oi := { dst := some 223, op := Op.slice 22 (.tmp 220) none (some (.tmp 222)) none, type := _, pos := _, after := _, guard := _ }) (v := ?_) rfl (by kernel_rfl) (by kernel_rfl) (by kernel_rfl) (fun _ _ _ h => h) (Or.inl ⟨by rfl, ?_⟩) hHeld ?_
          rotate_left
          · intro w99 hSw
            first | (go_simp; done) | (go_simp; with_reducible rfl)
          try simp only [Act.put, List.setIfInBounds_toArray, List.set_cons_zero, List.set_cons_succ]
          refine wpAnyH_take (i := 21) (oi := { dst := some 224, op := Op.convert 22 9 (.tmp 223), type := _, pos := _, after := _, guard := _ }) (v := ?_) rfl (by kernel_rfl) (by kernel_rfl) (by kernel_rfl) (fun _ _ _ h => h) (Or.inl ⟨by rfl, ?_⟩) hHeld ?_
          rotate_left
          · intro w99 hSw
            have cv2 := conv_any Hgl.out (Hal7.out.kp hSw (fun _ _ h => h)); rw [HsB.out] at cv2; first | (go_simp; done) | (go_simp; with_reducible rfl)
          try simp only [Act.put, List.setIfInBounds_toArray, List.set_cons_zero, List.set_cons_succ]
          refine wpAnyH_take (i := 22) (oi := { dst := some 225, op := Op.binOp BinOp.eql 9 (.tmp 219) (.tmp 224) 9, type := _, pos := _, after := _, guard := _ }) (v := ?_) rfl (by kernel_rfl) (by kernel_rfl) (by kernel_rfl) (fun _ _ _ h => h) (Or.inl ⟨by rfl, ?_⟩) hHeld ?_
          rotate_left
          · intro w99 hSw
            first | (go_simp; done) | (go_simp; with_reducible rfl)
          try simp only [Act.put, List.setIfInBounds_toArray, List.set_cons_zero, List.set_cons_succ]
          refine wpAnyH_take (i := 23) (oi := { dst := some 226, op := Op.pick (.tmp 217) (.tmp 225) (.const (Value.bool false)), type := _, pos := _, after := _, guard := _ }) (v := ?_) rfl (by kernel_rfl) (by kernel_rfl) (by kernel_rfl) (fun _ _ _ h => h) (Or.inl ⟨by rfl, ?_⟩) hHeld ?_
          rotate_left
          · intro w99 hSw
            first | (go_simp; done) | (go_simp; with_reducible rfl)
          try simp only [Act.put, List.setIfInBounds_toArray, List.set_cons_zero, List.set_cons_succ]
          refine wpAnyH_take (i := 24) (oi := { dst := some 227, op := Op.move (.tmp 226), type := _, pos := _, after := _, guard := _ }) (v := ?_) rfl (by kernel_rfl) (by kernel_rfl) (by kernel_rfl) (fun _ _ _ h => h) (Or.inl ⟨by rfl, ?_⟩) hHeld ?_
          rotate_left
          · intro w99 hSw
            first | (go_simp; done) | (go_simp; with_reducible rfl)
          try simp only [Act.put, List.setIfInBounds_toArray, List.set_cons_zero, List.set_cons_succ]
          refine wpAnyH_take (i := 25) (oi := { dst := some 228, op := Op.move (.tmp 14), type := _, pos := _, after := _, guard := _ }) (v := ?_) rfl (by kernel_rfl) (by kernel_rfl) (by kernel_rfl) (fun _ _ _ h => h) (Or.inl ⟨by rfl, ?_⟩) hHeld ?_
          rotate_left
          · intro w99 hSw
            first | (go_simp; done) | (go_simp; with_reducible rfl)
          try simp only [Act.put, List.setIfInBounds_toArray, List.set_cons_zero, List.set_cons_succ]
          refine wpAnyH_take (i := 27) (oi := { dst := some 230, op := Op.move (.tmp 3), type := _, pos := _, after := _, guard := _ }) (v := ?_) rfl (by kernel_rfl) (by kernel_rfl) (by kernel_rfl) (fun _ _ _ h => h) (Or.inl ⟨by rfl, ?_⟩) hHeld ?_
          rotate_left
          · intro w99 hSw
            first | (go_simp; done) | (go_simp; with_reducible rfl)
          try simp only [Act.put, List.setIfInBounds_toArray, List.set_cons_zero, List.set_cons_succ]
          refine wpAnyH_take (i := 28) (oi := { dst := some 231, op := Op.move (.tmp 15), type := _, pos := _, after := _, guard := _ }) (v := ?_) rfl (by kernel_rfl) (by kernel_rfl) (by kernel_rfl) (fun _ _ _ h => h) (Or.inl ⟨by rfl, ?_⟩) hHeld ?_
          rotate_left
          · intro w99 hSw
            first | (go_simp; done) | (go_simp; with_reducible rfl)
          try simp only [Act.put, List.setIfInBounds_toArray, List.set_cons_zero, List.set_cons_succ]
          refine wpAnyH_take (i := 29) (oi := { dst := some 232, op := Op.call { callee := Callee.builtin Builtin.len, args := #[(.tmp 231)], argTypes := #[22] }, type := _, pos := _, after := _, guard := _ }) (v := ?_) rfl (by kernel_rfl) (by kernel_rfl) (by kernel_rfl) (fun _ _ _ h => h) (Or.inl ⟨by rfl, ?_⟩) hHeld ?_
          rotate_left
          · intro w99 hSw
            first | (go_simp; done) | (go_simp; with_reducible rfl)
          try simp only [Act.put, List.setIfInBounds_toArray, List.set_cons_zero, List.set_cons_succ]
          refine wpAnyH_take (i := 30) (oi := { dst := some 233, op := Op.binOp BinOp.sub 3 (.tmp 230) (.tmp 232) 3, type := _, pos := _, after := _, guard := _ }) (v := ?_) rfl (by kernel_rfl) (by kernel_rfl) (by kernel_rfl) (fun _ _ _ h => h) (Or.inl ⟨by rfl, ?_⟩) hHeld ?_
          rotate_left
          · intro w99 hSw
            first | (go_simp; done) | (go_simp; with_reducible rfl)
          try simp only [Act.put, List.setIfInBounds_toArray, List.set_cons_zero, List.set_cons_succ]
          refine wpAnyH_ready (rs := [26]) (by kernel_rfl) (by simp) (AllReadyH.cons (o := { dst := some 229, op := Op.call { callee := Callee.value (Operand.func 15), args := #[(.tmp 228)], argTypes := #[25] }, type := _, pos := _, after := _, guard := _ }) rfl (fun K hK => ?_) AllReadyH.nil)
          go_simp
          with_reducible refine (HR7.out _ hHeld).mono ?_
          rintro e w' ⟨rfl, hkh⟩
          go_wp2_with fail
          have hx9 := Kp.trans hHeld hkh
          refine hK.out _ _ hx9 (fun _ => ?_)
          clear hK hHeld
          have hHeld := hx9
          clear hx9
          clear hkh
          generalize w' = wd26 at *
          try simp only [Act.put, List.setIfInBounds_toArray, List.set_cons_zero, List.set_cons_succ]
          refine wpAnyH_take (i := 31) (oi := { dst := some 234, op := Op.binOp BinOp.eql 3 (.tmp 229) (.tmp 233) 3, type := _, pos := _, after := _, guard := _ }) (v := ?_) rfl (by kernel_rfl) (by kernel_rfl) (by kernel_rfl) (fun _ _ _ h => h) (Or.inl ⟨by rfl, ?_⟩) hHeld ?_
          rotate_left
          · intro w99 hSw
            first | (go_simp; done) | (go_simp; with_reducible rfl)
          try simp only [Act.put, List.setIfInBounds_toArray, List.set_cons_zero, List.set_cons_succ]
          refine wpAnyH_take (i := 32) (oi := { dst := some 235, op := Op.pick (.tmp 227) (.tmp 234) (.const (Value.bool false)), type := _, pos := _, after := _, guard := _ }) (v := ?_) rfl (by kernel_rfl) (by kernel_rfl) (by kernel_rfl) (fun _ _ _ h => h) (Or.inl ⟨by rfl, ?_⟩) hHeld ?_
          rotate_left
          · intro w99 hSw
            first | (go_simp; done) | (go_simp; with_reducible rfl)
          try simp only [Act.put, List.setIfInBounds_toArray, List.set_cons_zero, List.set_cons_succ]
          refine wpAnyH_take (i := 33) (oi := { dst := some 12, op := Op.assign (.tmp 235), type := _, pos := _, after := _, guard := _ }) (v := ?_) rfl (by kernel_rfl) (by kernel_rfl) (by kernel_rfl) (fun _ _ _ h => h) (Or.inl ⟨by rfl, ?_⟩) hHeld ?_
          rotate_left
          · intro w99 hSw
            first | (go_simp; done) | (go_simp; with_reducible rfl)
          try simp only [Act.put, List.setIfInBounds_toArray, List.set_cons_zero, List.set_cons_succ]
          refine wpAnyH_done (by kernel_rfl) ?_ _
          have Hh7 := Lib.hid hHeld
          clear hHeld
          go_wp2_with fail
          go_ret
          refine ⟨rfl, ?_⟩
          exact ((Hk13.out.trans (HkW6.out.mono (S' := fun k => W.heap.size ≤ k) (fun k _ e => by omega))).trans ((Hk67.out.mono (S' := fun k => W.heap.size ≤ k) (fun k _ e => by omega)).trans Hh7.out.no)).below (Nat.le_refl _) (fun k h => h)
      · have t2 : ((i : Int) == (len : Int)) = false := by simp; omega
        have hlt : i < len := by omega
        have t3 : (i : Int) < (len : Int) := by omega
        clear hlast
        rcases Hc.out with h0 | ⟨blk, off, rfl, hblk, hcell⟩
        · omega
        obtain ⟨u1, e1, y1, rfl, _, _⟩ := hcell i hlt 1 RdI rfl
        obtain ⟨u2, e2, y2, rfl, _, _⟩ := hcell i hlt 2 RdI rfl
        obtain ⟨u3, e3, y3, rfl, _, _⟩ := hcell i hlt 3 RdI rfl
        clear hcell
        have HWw : Hid (∀ w' : World, Kp (fun k => ¬ F k) w4 w' → Kp (fun k => W.heap.size ≤ k) W w') := Lib.hid (fun w' hk => (Hk13.out.trans (HkW.out.mono (S' := fun k => W.heap.size ≤ k) (fun k _ e => by omega))).trans (hk.mono (S' := fun k => W.heap.size ≤ k) (fun k _ e => by
          have : ¬ k < w1.heap.size := fun h => e (HF1.out k h)
          omega)))
        have hnb : ¬ W.heap.size ≤ blk := by omega
        rw [← (HWw.out w4 (Kp.refl _ _)).cell (p := ⟨blk, _, none⟩) hblk hnb] at e1 e2 e3
        simp only [List.length_cons, List.length_nil, Nat.zero_add, Nat.reduceAdd] at e1 e2 e3
        have hblr := Nat.lt_of_lt_of_le hblk (HWw.out w4 (Kp.refl _ _)).size
        obtain ⟨a, ha⟩ := Int.eq_ofNat_of_zero_le (pickF_lo y1 ((en : Int) + 1) (by omega))
        have ha2 := pickF_hi y1 ((en : Int) + 1) (by omega)
        have HPa := Lib.hid (fun w => pick_any y1 ((en : Int) + 1) w (by omega) (by omega))
        rw [ha] at HPa ha2
        have ha3 : a ≤ en := by omega
        obtain ⟨m, hm⟩ := Int.eq_ofNat_of_zero_le (pickF_lo y2 ((en : Int) - (a : Int) + 1) (by omega))
        have hm2 := pickF_hi y2 ((en : Int) - (a : Int) + 1) (by omega)
        have HPm := Lib.hid (fun w => pick_any y2 ((en : Int) - (a : Int) + 1) w (by omega) (by omega))
        rw [hm] at HPm hm2
        have hm3 : a + m ≤ en := by omega
        clear ha ha2 hm hm2
        have hws : IntKind.i64.wrap ((en : Int) - (a : Int)) = (en : Int) - (a : Int) := IntWalk.i64_in _ (by omega)
        have hws2 : IntKind.i64.wrap ((en : Int) - (a : Int) + 1) = (en : Int) - (a : Int) + 1 := IntWalk.i64_in _ (by omega)
        have hws3 : IntKind.i64.wrap ((a : Int) + (m : Int)) = ((a + m : Nat) : Int) := by rw [IntWalk.i64_in _ (by omega)]; omega
        have q1 : a ≤ a + m := by omega
        have q2 : a + m ≤ cv := by omega
        go_wp2_with fail
        with_reducible refine (HPa.out _).mono ?_
        rintro e w' ⟨rfl, rfl⟩
        go_wp2_with fail
        with_reducible refine (HPm.out _).mono ?_
        rintro e w' ⟨rfl, rfl⟩
        have hal1 : al.length = n := Hn.out
        have hpzl : ((al.drop a).take m).length = m := by rw [List.length_take, List.length_drop]; omega
        have Hpz := Lib.hid hpzl
        have Hpe := Lib.hid (sv_perr HV'.out (by omega) a m hm3)
        have Hal := Lib.hid hal1
        clear hpzl hal1
        go_upto_region 28 with (fail)
        go_cut [25, 26] (fun v25 v26 wx => ∃ (f : Int) (s5 : RS), v25 = .int .i64 f ∧ v26 = .int .i64 0 ∧ Hid (HasSt wx F g s5) ∧ Hid (Sv al en s5) ∧ Hid (s5.broken = s'.broken ∧ s5.sure = s'.sure ∧ s5.taken = s'.taken) ∧ Hid (Kp (fun k => ¬ F k) w4 wx))
        case first =>
          as_aux_lemma =>
            have hfin : ∀ (f : Int) (wx : World), f = ((putS s' a false ((al.drop a).take m)).top : Int) - (s'.top : Int) → HasSt wx F g (putS s' a false ((al.drop a).take m)) → Kp (fun k => ¬ F k) w4 wx → ∃ (f' : Int) (s5 : RS), f = f' ∧ Hid (HasSt wx F g s5) ∧ Hid (Sv al en s5) ∧ Hid (s5.broken = s'.broken ∧ s5.sure = s'.sure ∧ s5.taken = s'.taken) ∧ Hid (Kp (fun k => ¬ F k) w4 wx) := fun f wx hf hs hk =>
              ⟨f, _, rfl, Lib.hid hs, Lib.hid (sv_put HV'.out (by omega) (by rw [Hpz.out]; exact hm3) (fun j h1 h2 => by
                rw [List.getElem?_take, if_pos (by rw [Hpz.out] at h2; omega), List.getElem?_drop]
                congr 1
                omega) hs.ok), Lib.hid ⟨rfl, rfl, rfl⟩, Lib.hid hk⟩
            have Hfin := Lib.hid hfin
            clear hfin
            by_cases hca : cv = a
            · have HPut := Lib.hid (h_put HS'.out a false (src_cut0 (a := a) Hall4.out (show m = 0 by omega)) (show m ≤ 0 by omega) (Nat.zero_le _) (fun k hk => HF1.out k (Hown3.out k (by cases Av with | none => cases hk | some x => exact hk))) Hpe.out)
              go_wp2_with fail
              refine (HPut.out).mono ?_
              rintro e w5 ⟨rfl, hs5, hk5⟩
              obtain ⟨f', s5, hf', q1, q2, q3, q4⟩ := Hfin.out _ _ rfl hs5 hk5
              rw [hf']
              clear hs5 hk5 hf' hca
              go_wp2_with fail
              go_meet
              case rel => exact ⟨f', s5, rfl, rfl, q1, q2, q3, q4⟩
            · have HPut := Lib.hid (h_put HS'.out a false (src_cut Hall4.out (show a + m ≤ n by omega) hca) (show m ≤ cv - a by omega) (by omega) (fun k hk => HF1.out k (Hown3.out k (by cases Av with | none => cases hk | some x => exact congrArg some ((add_block x a).symm.trans (Option.some.inj hk))))) Hpe.out)
              go_wp2_with fail
              refine (HPut.out).mono ?_
              rintro e w5 ⟨rfl, hs5, hk5⟩
              obtain ⟨f', s5, hf', q1, q2, q3, q4⟩ := Hfin.out _ _ rfl hs5 hk5
              rw [hf']
              clear hs5 hk5 hf' hca
              go_wp2_with fail
              go_meet
              case rel => exact ⟨f', s5, rfl, rfl, q1, q2, q3, q4⟩
        case rest =>
        obtain ⟨f5, s5, rfl, rfl, HS5, HV5, H5, Hk5⟩ := hcut
        generalize wc = w5 at *
        have hFb : F blk := HF1.out blk (by omega)
        have e3' := (Hk5.out.cell (p := ⟨blk, off + i * 6 + 3, none⟩) hblr (fun h => h hFb)).trans e3
        have hblr5 := Nat.lt_of_lt_of_le hblr Hk5.out.size
        obtain ⟨q, hq⟩ := Int.eq_ofNat_of_zero_le (pickF_lo y3 60 (by omega))
        have hq2 := pickF_hi y3 60 (by omega)
        have HPq := Lib.hid (fun w => pick_any y3 60 w (by omega) (by omega))
        rw [hq] at HPq hq2
        have hq3 : q < 60 := by omega
        clear hq hq2
        obtain ⟨V6, a1, a2, a3, a4, a5⟩ := sv_take HV5.out (q : Int)
        have htb := take_bytes HV5.out.ok HV5.out.good (q : Int) (by have := Hal.out; omega)
        have hT := h_take HS5.out (q : Int) (by omega) (by omega) _ rfl
        rw [htb] at hT
        rw [a4, a5] at hT
        generalize toN s5 (q : Int) = t at *
        have hbs : s5.broken = b' := H5.out.1.trans Hsb'.out
        have hsu5 := H5.out.2.1
        have htk5 : s5.taken = s.taken := H5.out.2.2.trans Htk'.out
        rw [hbs, htk5] at hT
        have hbt : b' = true → s5.sure = su' ∧ ah' ≤ s.taken ∧ s.taken ≤ max su' ah' := fun h => by
          have h1 := Hbt'.out h
          rw [Htk'.out] at h1
          rw [hsu5]
          exact h1
        have hov : ∀ x y : Nat, (if b' = true ∧ s5.sure ≤ t then x else y) = if b' = true ∧ su' ≤ t then x else y := fun x y => by
          by_cases hb : b' = true
          · rw [(hbt hb).1]
          · rw [if_neg (fun h => hb h.1), if_neg (fun h => hb h.1)]
        rw [hov, hov] at hT
        have ha3 : b' = true → t ≤ max su' s.taken := fun h => by
          have h1 := a3 (hbs.trans h)
          rw [(hbt h).1, htk5] at h1
          exact h1
        rw [htk5] at a1
        have hgl5 := HS5.out.lt.1
        obtain ⟨ov, hov2⟩ : ∃ ov, ov = (if b' = true ∧ su' ≤ t then 2 else 0) := ⟨_, rfl⟩
        obtain ⟨cd, hcd2⟩ : ∃ cd, cd = (if b' = true ∧ su' ≤ t then 77 else 0) := ⟨_, rfl⟩
        rw [← hov2, ← hcd2] at hT
        have HT := Lib.hid hT
        have Hov := Lib.hid hov2
        have Hcd := Lib.hid hcd2
        have Hbt5 := Lib.hid hbt
        have Ha3 := Lib.hid ha3
        have Hbs5 := Lib.hid hbs
        have Hsu5 := Lib.hid hsu5
        have HV6 := Lib.hid V6
        have Htk5 := Lib.hid htk5
        have Hgot5 := Lib.hid (Hgot4.out.kp Hk5.out (fun k hk e => e (HFg.out k hk)))
        have Hall5 := Lib.hid (Hall4.out.kp Hk5.out (fun k hk e => e (HF1.out k (Hown3.out k hk))))
        have HkW5 := Lib.hid (HkW.out.trans (Hk5.out.mono (S' := fun k => w1.heap.size ≤ k) (fun k _ e => Nat.le_of_not_lt (fun h => e (HF1.out k h)))))
        clear hT hov2 hcd2 hov hbt ha3 hbs hsu5 htk5 V6 a3 a4 a5 htb HS' HV' Hsb' Hbt' Htk' H5 HV5 Hgot4 Hall4 HkW HPa HPm Hpz Hpe e1 e2 e3 hws hws2 hws3 q1 q2
        go_wp2_with fail
        with_reducible refine (HPq.out _).mono ?_
        rintro e w' ⟨rfl, rfl⟩
        go_wp2_with fail
        with_reducible refine (HT.out).mono ?_
        rintro e w6 ⟨vr, rfl, hr6, hs6, hk6⟩
        obtain ⟨Ax, cx, rfl⟩ := hr6.form
        have HX := Lib.hid (hr6.src (encB_one _))
        have HS6 := Lib.hid hs6
        have Hgot6 := Lib.hid (Hgot5.out.kp hk6 (fun k hk e => e (HFg.out k hk)))
        have Hall6 := Lib.hid (Hall5.out.kp hk6 (fun k hk e => e (HF1.out k (Hown3.out k hk))))
        have HkW6 := Lib.hid (HkW5.out.trans (hk6.mono (S' := fun k => w1.heap.size ≤ k) (fun k _ e => Nat.le_of_not_lt (fun h => e (HF1.out k h)))))
        have hw16 : w1.heap.size ≤ w6.heap.size := Nat.le_trans hw13 HkW6.out.size
        obtain ⟨j0, hjj, hy0, hy1, hy2⟩ := info_parts infoB
        have Hj := Lib.hid hjj
        have Hy0 := Lib.hid hy0
        have Hy1 := Lib.hid hy1
        have Hy2 := Lib.hid hy2
        have ht200 : t ≤ 200 := by omega
        clear hr6 hs6 hk6 HT Hgot5 Hall5 HkW5 e3' hblr5 hjj hy0 hy1 hy2 HPq
        generalize htkg : s.taken = tk at *
        have Htkg := Lib.hid htkg
        clear htkg
        obtain ⟨dx, hdx⟩ : ∃ dx, dx = t - tk := ⟨_, rfl⟩
        rw [← hdx] at HX
        have hdx2 : dx ≤ 200 := by omega
        have htk200 : tk ≤ 200 := by omega
        have Hdx := Lib.hid hdx
        simp only [← hdx]
        clear hdx
        go_upto_region 32 with (fail)
        go_cut [15] (fun v15 wx => ∃ (A7 : Option Addr) (c7 : Nat) (F7 : Nat → Prop), v15 = .slice A7 t c7 ∧ Hid (RowAt wx w1.heap.size 1 (.slice A7 t c7) t (encB (al.take t))) ∧ Hid (∀ k, F k → F7 k) ∧ Hid (∀ k, (Value.slice A7 t c7).ownBlock = some k → F7 k) ∧ Hid (HasSt wx F7 g (takeS s5 t)) ∧ Hid (Kp F w6 wx) ∧ Hid (Kp (fun k => w1.heap.size ≤ k) w6 wx))
        case first =>
          as_aux_lemma =>
            have hgl6 := HS6.out.lt.1
            have e9 : tk + dx = t := by have := Hdx.out; omega
            have e8 : encB (al.take tk) ++ encB ((al.drop tk).take dx) = encB (al.take t) := by
              rw [show encB (al.take tk) ++ encB ((al.drop tk).take dx) = encB (al.take tk ++ (al.drop tk).take dx) from List.map_append.symm, Hdx.out, got_app (by omega)]
            have E9 := Lib.hid e9
            have E8 := Lib.hid e8
            clear e9 e8
            go_wp2_with (at_builtin; refine wpList_row rfl (.tmp 140) (.tmp 141) 22 rfl w1.heap.size 5 j0 _ 1 1 Try.underlying22 Hj.out Hy0.out Hy1.out Hy2.out rfl (by decide) _ tk _ rfl Hgot6.out _ dx _ rfl HX.out (by unfold maxLen; omega) (by omega) hw16 ?_; intro v7 w7 hr7 hg7 hn7; rw [E9.out, E8.out] at hr7; obtain ⟨A7, c7, rfl⟩ := hr7.form; have Hr7 := Lib.hid hr7; have Hg7 := Lib.hid hg7; have Hn7 := Lib.hid hn7; clear hr7 hg7 hn7)
            go_meet
            have hkF : Kp F w6 w7 := Kp.of_grown Hg7.out (fun k hk _ => HFg.out k hk)
            case rel =>
              refine ⟨A7, c7, fun k => (F k ∨ (w5.heap.size ≤ k ∧ k < w6.heap.size)) ∨ (w6.heap.size ≤ k ∧ k < w7.heap.size), rfl, Hr7, Lib.hid (fun k h => .inl (.inl h)), Lib.hid (fun k hk => ?_), Lib.hid (HS6.out.turn (hkF.mono (fun _ _ e => .inl e))), Lib.hid hkF, Lib.hid (Kp.of_grown Hg7.out (fun k hk _ => (Hgot6.out.lt k hk).1))⟩
              rcases Hn7.out with hn | hn
              · exact .inl (.inl (HFg.out k (hn ▸ hk)))
              · exact .inr ⟨hn k hk, (Hr7.out.lt k hk).2⟩
        case rest =>
        obtain ⟨A7, c7, F7, rfl, Hgot7, HFF, HF7, HS7, HkF7, Hk7⟩ := hcut
        generalize wc = w7 at *
        have hgl7 := HS7.out.lt.1
        have hten : t ≤ en := by omega
        have Hgl : Hid (t = (al.take t).length) := Lib.hid (by rw [List.length_take, Hal.out]; omega)
        have Hal7 := Lib.hid (row_pre (Hall6.out.kp Hk7.out (fun k hk e => by have := Hown3.out k hk; omega)) t (by omega))
        obtain ⟨sB, hsB⟩ : ∃ sB : ByteArray, (⟨(al.take t).toArray⟩ : ByteArray) = sB := ⟨_, rfl⟩
        have HsB := Lib.hid hsB
        have htn : (t : Int) ≤ (n : Int) := by omega
        have htn2 : ¬ (n : Int) < (t : Int) := by omega
        have q8 : t ≤ cv := by omega
        have hmin : (if t < n then (t : Int) else (n : Int)) = (t : Int) := by split <;> omega
        have hov := Hov.out
        have hcd := Hcd.out
        have hbt5 := Hbt5.out
        have ha3 := Ha3.out
        clear hsB HS6 Hgot6 Hall6 Hov Hcd
        go_upto_region 33 with (fail)
        cases b' with
        | false =>
          rw [if_neg (fun h => by cases h.1)] at hov hcd
          subst hov hcd
          clear hbt5 ha3
          as_aux_lemma =>
            refine wp_region_held_drew (S := (fun w' => Kp (fun _ => False) w7 w')) (by kernel_rfl) (Kp.drew (Kp.refl _ w7)) (fun hHeld => ?_)
            refine wpAnyH_take (i := 0) (oi := { dst := some 143, op := Op.move (.tmp 15), type := _, pos := _, after := _, guard := _ }) (v := ?_) rfl (by kernel_rfl) (by kernel_rfl) (by kernel_rfl) (fun _ _ _ h => h) (Or.inl ⟨by rfl, ?_⟩) hHeld ?_
            rotate_left
            · intro w99 hSw
              first | (go_simp; done) | (go_simp; with_reducible rfl)
            try simp only [Act.put, List.setIfInBounds_toArray, List.set_cons_zero, List.set_cons_succ]
            refine wpAnyH_take (i := 1) (oi := { dst := some 144, op := Op.convert 22 9 (.tmp 143), type := _, pos := _, after := _, guard := _ }) (v := ?_) rfl (by kernel_rfl) (by kernel_rfl) (by kernel_rfl) (fun _ _ _ h => h) (Or.inl ⟨by rfl, ?_⟩) hHeld ?_
            rotate_left
            · intro w99 hSw
              have cv1 := conv_any Hgl.out (Hgot7.out.kp hSw (fun _ _ h => h)); rw [HsB.out] at cv1; first | (go_simp; done) | (go_simp; with_reducible rfl)
            try simp only [Act.put, List.setIfInBounds_toArray, List.set_cons_zero, List.set_cons_succ]
            refine wpAnyH_take (i := 2) (oi := { dst := some 145, op := Op.move (.tmp 13), type := _, pos := _, after := _, guard := _ }) (v := ?_) rfl (by kernel_rfl) (by kernel_rfl) (by kernel_rfl) (fun _ _ _ h => h) (Or.inl ⟨by rfl, ?_⟩) hHeld ?_
            rotate_left
            · intro w99 hSw
              first | (go_simp; done) | (go_simp; with_reducible rfl)
            try simp only [Act.put, List.setIfInBounds_toArray, List.set_cons_zero, List.set_cons_succ]
            refine wpAnyH_take (i := 3) (oi := { dst := some 146, op := Op.move (.tmp 13), type := _, pos := _, after := _, guard := _ }) (v := ?_) rfl (by kernel_rfl) (by kernel_rfl) (by kernel_rfl) (fun _ _ _ h => h) (Or.inl ⟨by rfl, ?_⟩) hHeld ?_
            rotate_left
            · intro w99 hSw
              first | (go_simp; done) | (go_simp; with_reducible rfl)
            try simp only [Act.put, List.setIfInBounds_toArray, List.set_cons_zero, List.set_cons_succ]
            refine wpAnyH_take (i := 4) (oi := { dst := some 147, op := Op.call { callee := Callee.builtin Builtin.len, args := #[(.tmp 146)], argTypes := #[22] }, type := _, pos := _, after := _, guard := _ }) (v := ?_) rfl (by kernel_rfl) (by kernel_rfl) (by kernel_rfl) (fun _ _ _ h => h) (Or.inl ⟨by rfl, ?_⟩) hHeld ?_
            rotate_left
            · intro w99 hSw
              first | (go_simp; done) | (go_simp; with_reducible rfl)
            try simp only [Act.put, List.setIfInBounds_toArray, List.set_cons_zero, List.set_cons_succ]
            refine wpAnyH_take (i := 5) (oi := { dst := some 148, op := Op.move (.tmp 15), type := _, pos := _, after := _, guard := _ }) (v := ?_) rfl (by kernel_rfl) (by kernel_rfl) (by kernel_rfl) (fun _ _ _ h => h) (Or.inl ⟨by rfl, ?_⟩) hHeld ?_
            rotate_left
            · intro w99 hSw
              first | (go_simp; done) | (go_simp; with_reducible rfl)
            try simp only [Act.put, List.setIfInBounds_toArray, List.set_cons_zero, List.set_cons_succ]
            refine wpAnyH_take (i := 6) (oi := { dst := some 149, op := Op.call { callee := Callee.builtin Builtin.len, args := #[(.tmp 148)], argTypes := #[22] }, type := _, pos := _, after := _, guard := _ }) (v := ?_) rfl (by kernel_rfl) (by kernel_rfl) (by kernel_rfl) (fun _ _ _ h => h) (Or.inl ⟨by rfl, ?_⟩) hHeld ?_
            rotate_left
            · intro w99 hSw
              first | (go_simp; done) | (go_simp; with_reducible rfl)
            try simp only [Act.put, List.setIfInBounds_toArray, List.set_cons_zero, List.set_cons_succ]
            refine wpAnyH_take (i := 7) (oi := { dst := some 150, op := Op.call { callee := Callee.builtin Builtin.min, args := #[(.tmp 147), (.tmp 149)], argTypes := #[3, 3] }, type := _, pos := _, after := _, guard := _ }) (v := ?_) rfl (by kernel_rfl) (by kernel_rfl) (by kernel_rfl) (fun _ _ _ h => h) (Or.inl ⟨by rfl, ?_⟩) hHeld ?_
            rotate_left
            · intro w99 hSw
              first | (go_simp; done) | (go_simp; with_reducible rfl)
            try simp only [Act.put, List.setIfInBounds_toArray, List.set_cons_zero, List.set_cons_succ]
            refine wpAnyH_take (i := 8) (oi := { dst := some 151, op := Op.slice 22 (.tmp 145) none (some (.tmp 150)) none, type := _, pos := _, after := _, guard := _ }) (v := ?_) rfl (by kernel_rfl) (by kernel_rfl) (by kernel_rfl) (fun _ _ _ h => h) (Or.inl ⟨by rfl, ?_⟩) hHeld ?_
            rotate_left
            · intro w99 hSw
              first | (go_simp; done) | (go_simp; with_reducible rfl)
            try simp only [Act.put, List.setIfInBounds_toArray, List.set_cons_zero, List.set_cons_succ]
            refine wpAnyH_take (i := 9) (oi := { dst := some 152, op := Op.convert 22 9 (.tmp 151), type := _, pos := _, after := _, guard := _ }) (v := ?_) rfl (by kernel_rfl) (by kernel_rfl) (by kernel_rfl) (fun _ _ _ h => h) (Or.inl ⟨by rfl, ?_⟩) hHeld ?_
            rotate_left
            · intro w99 hSw
              have cv2 := conv_any Hgl.out (Hal7.out.kp hSw (fun _ _ h => h)); rw [HsB.out] at cv2; first | (go_simp; done) | (go_simp; with_reducible rfl)
            try simp only [Act.put, List.setIfInBounds_toArray, List.set_cons_zero, List.set_cons_succ]
            refine wpAnyH_take (i := 10) (oi := { dst := some 153, op := Op.binOp BinOp.neq 9 (.tmp 144) (.tmp 152) 9, type := _, pos := _, after := _, guard := _ }) (v := ?_) rfl (by kernel_rfl) (by kernel_rfl) (by kernel_rfl) (fun _ _ _ h => h) (Or.inl ⟨by rfl, ?_⟩) hHeld ?_
            rotate_left
            · intro w99 hSw
              first | (go_simp; done) | (go_simp; with_reducible rfl)
            try simp only [Act.put, List.setIfInBounds_toArray, List.set_cons_zero, List.set_cons_succ]
            refine wpAnyH_take (i := 11) (oi := { dst := some 154, op := Op.move (.tmp 153), type := _, pos := _, after := _, guard := _ }) (v := ?_) rfl (by kernel_rfl) (by kernel_rfl) (by kernel_rfl) (fun _ _ _ h => h) (Or.inl ⟨by rfl, ?_⟩) hHeld ?_
            rotate_left
            · intro w99 hSw
              first | (go_simp; done) | (go_simp; with_reducible rfl)
            try simp only [Act.put, List.setIfInBounds_toArray, List.set_cons_zero, List.set_cons_succ]
            refine wpAnyH_take (i := 12) (oi := { dst := some 155, op := Op.move (.tmp 28), type := _, pos := _, after := _, guard := _ }) (v := ?_) rfl (by kernel_rfl) (by kernel_rfl) (by kernel_rfl) (fun _ _ _ h => h) (Or.inl ⟨by rfl, ?_⟩) hHeld ?_
            rotate_left
            · intro w99 hSw
              first | (go_simp; done) | (go_simp; with_reducible rfl)
            try simp only [Act.put, List.setIfInBounds_toArray, List.set_cons_zero, List.set_cons_succ]
            refine wpAnyH_take (i := 13) (oi := { dst := some 156, op := Op.binOp BinOp.eql 3 (.tmp 155) (.const (.int .i64 2)) 3, type := _, pos := _, after := _, guard := _ }) (v := ?_) rfl (by kernel_rfl) (by kernel_rfl) (by kernel_rfl) (fun _ _ _ h => h) (Or.inl ⟨by rfl, ?_⟩) hHeld ?_
            rotate_left
            · intro w99 hSw
              first | (go_simp; done) | (go_simp; with_reducible rfl)
            try simp only [Act.put, List.setIfInBounds_toArray, List.set_cons_zero, List.set_cons_succ]
            refine wpAnyH_take (i := 14) (oi := { dst := some 157, op := Op.move (.tmp 16), type := _, pos := _, after := _, guard := _ }) (v := ?_) rfl (by kernel_rfl) (by kernel_rfl) (by kernel_rfl) (fun _ _ _ h => h) (Or.inl ⟨by rfl, ?_⟩) hHeld ?_
            rotate_left
            · intro w99 hSw
              first | (go_simp; done) | (go_simp; with_reducible rfl)
            try simp only [Act.put, List.setIfInBounds_toArray, List.set_cons_zero, List.set_cons_succ]
            refine wpAnyH_take (i := 15) (oi := { dst := some 158, op := Op.move (.tmp 157), type := _, pos := _, after := _, guard := _ }) (v := ?_) rfl (by kernel_rfl) (by kernel_rfl) (by kernel_rfl) (fun _ _ _ h => h) (Or.inl ⟨by rfl, ?_⟩) hHeld ?_
            rotate_left
            · intro w99 hSw
              first | (go_simp; done) | (go_simp; with_reducible rfl)
            try simp only [Act.put, List.setIfInBounds_toArray, List.set_cons_zero, List.set_cons_succ]
            refine wpAnyH_take (i := 16) (oi := { dst := some 159, op := Op.move (.tmp 15), type := _, pos := _, after := _, guard := _ }) (v := undef) rfl (by kernel_rfl) (by kernel_rfl) (by kernel_rfl) (fun _ _ _ h => h) (Or.inr ⟨by rfl, rfl⟩) hHeld ?_
            try simp only [Act.put, List.setIfInBounds_toArray, List.set_cons_zero, List.set_cons_succ]
            refine wpAnyH_take (i := 17) (oi := { dst := some 160, op := Op.call { callee := Callee.builtin Builtin.len, args := #[(.tmp 159)], argTypes := #[22] }, type := _, pos := _, after := _, guard := _ }) (v := undef) rfl (by kernel_rfl) (by kernel_rfl) (by kernel_rfl) (fun _ _ _ h => h) (Or.inr ⟨by rfl, rfl⟩) hHeld ?_
            try simp only [Act.put, List.setIfInBounds_toArray, List.set_cons_zero, List.set_cons_succ]
            refine wpAnyH_take (i := 18) (oi := { dst := some 161, op := Op.move (.tmp 4), type := _, pos := _, after := _, guard := _ }) (v := undef) rfl (by kernel_rfl) (by kernel_rfl) (by kernel_rfl) (fun _ _ _ h => h) (Or.inr ⟨by rfl, rfl⟩) hHeld ?_
            try simp only [Act.put, List.setIfInBounds_toArray, List.set_cons_zero, List.set_cons_succ]
            refine wpAnyH_take (i := 19) (oi := { dst := some 162, op := Op.binOp BinOp.geq 3 (.tmp 160) (.tmp 161) 3, type := _, pos := _, after := _, guard := _ }) (v := undef) rfl (by kernel_rfl) (by kernel_rfl) (by kernel_rfl) (fun _ _ _ h => h) (Or.inr ⟨by rfl, rfl⟩) hHeld ?_
            try simp only [Act.put, List.setIfInBounds_toArray, List.set_cons_zero, List.set_cons_succ]
            refine wpAnyH_take (i := 20) (oi := { dst := some 163, op := Op.pick (.tmp 158) (.tmp 162) (.const (Value.bool false)), type := _, pos := _, after := _, guard := _ }) (v := ?_) rfl (by kernel_rfl) (by kernel_rfl) (by kernel_rfl) (fun _ _ _ h => h) (Or.inl ⟨by rfl, ?_⟩) hHeld ?_
            rotate_left
            · intro w99 hSw
              first | (go_simp; done) | (go_simp; with_reducible rfl)
            try simp only [Act.put, List.setIfInBounds_toArray, List.set_cons_zero, List.set_cons_succ]
            refine wpAnyH_take (i := 21) (oi := { dst := some 164, op := Op.binOp BinOp.neq 4 (.tmp 156) (.tmp 163) 4, type := _, pos := _, after := _, guard := _ }) (v := ?_) rfl (by kernel_rfl) (by kernel_rfl) (by kernel_rfl) (fun _ _ _ h => h) (Or.inl ⟨by rfl, ?_⟩) hHeld ?_
            rotate_left
            · intro w99 hSw
              first | (go_simp; done) | (go_simp; with_reducible rfl)
            try simp only [Act.put, List.setIfInBounds_toArray, List.set_cons_zero, List.set_cons_succ]
            refine wpAnyH_take (i := 22) (oi := { dst := some 165, op := Op.pick (.tmp 154) (.const (Value.bool true)) (.tmp 164), type := _, pos := _, after := _, guard := _ }) (v := ?_) rfl (by kernel_rfl) (by kernel_rfl) (by kernel_rfl) (fun _ _ _ h => h) (Or.inl ⟨by rfl, ?_⟩) hHeld ?_
            rotate_left
            · intro w99 hSw
              first | (go_simp; done) | (go_simp; with_reducible rfl)
            try simp only [Act.put, List.setIfInBounds_toArray, List.set_cons_zero, List.set_cons_succ]
            refine wpAnyH_take (i := 23) (oi := { dst := some 166, op := Op.move (.tmp 165), type := _, pos := _, after := _, guard := _ }) (v := ?_) rfl (by kernel_rfl) (by kernel_rfl) (by kernel_rfl) (fun _ _ _ h => h) (Or.inl ⟨by rfl, ?_⟩) hHeld ?_
            rotate_left
            · intro w99 hSw
              first | (go_simp; done) | (go_simp; with_reducible rfl)
            try simp only [Act.put, List.setIfInBounds_toArray, List.set_cons_zero, List.set_cons_succ]
            refine wpAnyH_take (i := 24) (oi := { dst := some 167, op := Op.move (.tmp 28), type := _, pos := _, after := _, guard := _ }) (v := ?_) rfl (by kernel_rfl) (by kernel_rfl) (by kernel_rfl) (fun _ _ _ h => h) (Or.inl ⟨by rfl, ?_⟩) hHeld ?_
            rotate_left
            · intro w99 hSw
              first | (go_simp; done) | (go_simp; with_reducible rfl)
            try simp only [Act.put, List.setIfInBounds_toArray, List.set_cons_zero, List.set_cons_succ]
            refine wpAnyH_take (i := 25) (oi := { dst := some 168, op := Op.binOp BinOp.eql 3 (.tmp 167) (.const (.int .i64 2)) 3, type := _, pos := _, after := _, guard := _ }) (v := ?_) rfl (by kernel_rfl) (by kernel_rfl) (by kernel_rfl) (fun _ _ _ h => h) (Or.inl ⟨by rfl, ?_⟩) hHeld ?_
            rotate_left
            · intro w99 hSw
              first | (go_simp; done) | (go_simp; with_reducible rfl)
            try simp only [Act.put, List.setIfInBounds_toArray, List.set_cons_zero, List.set_cons_succ]
            refine wpAnyH_take (i := 26) (oi := { dst := some 169, op := Op.move (.tmp 168), type := _, pos := _, after := _, guard := _ }) (v := ?_) rfl (by kernel_rfl) (by kernel_rfl) (by kernel_rfl) (fun _ _ _ h => h) (Or.inl ⟨by rfl, ?_⟩) hHeld ?_
            rotate_left
            · intro w99 hSw
              first | (go_simp; done) | (go_simp; with_reducible rfl)
            try simp only [Act.put, List.setIfInBounds_toArray, List.set_cons_zero, List.set_cons_succ]
            refine wpAnyH_take (i := 27) (oi := { dst := some 170, op := Op.move (.tmp 29), type := _, pos := _, after := _, guard := _ }) (v := undef) rfl (by kernel_rfl) (by kernel_rfl) (by kernel_rfl) (fun _ _ _ h => h) (Or.inr ⟨by rfl, rfl⟩) hHeld ?_
            try simp only [Act.put, List.setIfInBounds_toArray, List.set_cons_zero, List.set_cons_succ]
            refine wpAnyH_take (i := 28) (oi := { dst := some 171, op := Op.binOp BinOp.neq 3 (.tmp 170) (.const (.int .i64 77)) 3, type := _, pos := _, after := _, guard := _ }) (v := undef) rfl (by kernel_rfl) (by kernel_rfl) (by kernel_rfl) (fun _ _ _ h => h) (Or.inr ⟨by rfl, rfl⟩) hHeld ?_
            try simp only [Act.put, List.setIfInBounds_toArray, List.set_cons_zero, List.set_cons_succ]
            refine wpAnyH_take (i := 29) (oi := { dst := some 172, op := Op.pick (.tmp 169) (.tmp 171) (.const (Value.bool false)), type := _, pos := _, after := _, guard := _ }) (v := ?_) rfl (by kernel_rfl) (by kernel_rfl) (by kernel_rfl) (fun _ _ _ h => h) (Or.inl ⟨by rfl, ?_⟩) hHeld ?_
            rotate_left
            · intro w99 hSw
              first | (go_simp; done) | (go_simp; with_reducible rfl)
            try simp only [Act.put, List.setIfInBounds_toArray, List.set_cons_zero, List.set_cons_succ]
            refine wpAnyH_take (i := 30) (oi := { dst := some 173, op := Op.pick (.tmp 166) (.const (Value.bool true)) (.tmp 172), type := _, pos := _, after := _, guard := _ }) (v := ?_) rfl (by kernel_rfl) (by kernel_rfl) (by kernel_rfl) (fun _ _ _ h => h) (Or.inl ⟨by rfl, ?_⟩) hHeld ?_
            rotate_left
            · intro w99 hSw
              first | (go_simp; done) | (go_simp; with_reducible rfl)
            try simp only [Act.put, List.setIfInBounds_toArray, List.set_cons_zero, List.set_cons_succ]
            refine wpAnyH_take (i := 31) (oi := { dst := some 174, op := Op.move (.tmp 173), type := _, pos := _, after := _, guard := _ }) (v := ?_) rfl (by kernel_rfl) (by kernel_rfl) (by kernel_rfl) (fun _ _ _ h => h) (Or.inl ⟨by rfl, ?_⟩) hHeld ?_
            rotate_left
            · intro w99 hSw
              first | (go_simp; done) | (go_simp; with_reducible rfl)
            try simp only [Act.put, List.setIfInBounds_toArray, List.set_cons_zero, List.set_cons_succ]
            refine wpAnyH_take (i := 32) (oi := { dst := some 175, op := Op.move (.tmp 28), type := _, pos := _, after := _, guard := _ }) (v := ?_) rfl (by kernel_rfl) (by kernel_rfl) (by kernel_rfl) (fun _ _ _ h => h) (Or.inl ⟨by rfl, ?_⟩) hHeld ?_
            rotate_left
            · intro w99 hSw
              first | (go_simp; done) | (go_simp; with_reducible rfl)
            try simp only [Act.put, List.setIfInBounds_toArray, List.set_cons_zero, List.set_cons_succ]
            refine wpAnyH_take (i := 33) (oi := { dst := some 176, op := Op.binOp BinOp.eql 3 (.tmp 175) (.const (.int .i64 1)) 3, type := _, pos := _, after := _, guard := _ }) (v := ?_) rfl (by kernel_rfl) (by kernel_rfl) (by kernel_rfl) (fun _ _ _ h => h) (Or.inl ⟨by rfl, ?_⟩) hHeld ?_
            rotate_left
            · intro w99 hSw
              first | (go_simp; done) | (go_simp; with_reducible rfl)
            try simp only [Act.put, List.setIfInBounds_toArray, List.set_cons_zero, List.set_cons_succ]
            refine wpAnyH_take (i := 34) (oi := { dst := some 177, op := Op.pick (.tmp 174) (.const (Value.bool true)) (.tmp 176), type := _, pos := _, after := _, guard := _ }) (v := ?_) rfl (by kernel_rfl) (by kernel_rfl) (by kernel_rfl) (fun _ _ _ h => h) (Or.inl ⟨by rfl, ?_⟩) hHeld ?_
            rotate_left
            · intro w99 hSw
              first | (go_simp; done) | (go_simp; with_reducible rfl)
            try simp only [Act.put, List.setIfInBounds_toArray, List.set_cons_zero, List.set_cons_succ]
            refine wpAnyH_take (i := 35) (oi := { dst := some 178, op := Op.move (.tmp 177), type := _, pos := _, after := _, guard := _ }) (v := ?_) rfl (by kernel_rfl) (by kernel_rfl) (by kernel_rfl) (fun _ _ _ h => h) (Or.inl ⟨by rfl, ?_⟩) hHeld ?_
            rotate_left
            · intro w99 hSw
              first | (go_simp; done) | (go_simp; with_reducible rfl)
            try simp only [Act.put, List.setIfInBounds_toArray, List.set_cons_zero, List.set_cons_succ]
            refine wpAnyH_take (i := 36) (oi := { dst := some 179, op := Op.move (.tmp 16), type := _, pos := _, after := _, guard := _ }) (v := ?_) rfl (by kernel_rfl) (by kernel_rfl) (by kernel_rfl) (fun _ _ _ h => h) (Or.inl ⟨by rfl, ?_⟩) hHeld ?_
            rotate_left
            · intro w99 hSw
              first | (go_simp; done) | (go_simp; with_reducible rfl)
            try simp only [Act.put, List.setIfInBounds_toArray, List.set_cons_zero, List.set_cons_succ]
            refine wpAnyH_take (i := 37) (oi := { dst := some 180, op := Op.move (.tmp 179), type := _, pos := _, after := _, guard := _ }) (v := ?_) rfl (by kernel_rfl) (by kernel_rfl) (by kernel_rfl) (fun _ _ _ h => h) (Or.inl ⟨by rfl, ?_⟩) hHeld ?_
            rotate_left
            · intro w99 hSw
              first | (go_simp; done) | (go_simp; with_reducible rfl)
            try simp only [Act.put, List.setIfInBounds_toArray, List.set_cons_zero, List.set_cons_succ]
            refine wpAnyH_take (i := 38) (oi := { dst := some 181, op := Op.move (.tmp 15), type := _, pos := _, after := _, guard := _ }) (v := undef) rfl (by kernel_rfl) (by kernel_rfl) (by kernel_rfl) (fun _ _ _ h => h) (Or.inr ⟨by rfl, rfl⟩) hHeld ?_
            try simp only [Act.put, List.setIfInBounds_toArray, List.set_cons_zero, List.set_cons_succ]
            refine wpAnyH_take (i := 39) (oi := { dst := some 182, op := Op.call { callee := Callee.builtin Builtin.len, args := #[(.tmp 181)], argTypes := #[22] }, type := _, pos := _, after := _, guard := _ }) (v := undef) rfl (by kernel_rfl) (by kernel_rfl) (by kernel_rfl) (fun _ _ _ h => h) (Or.inr ⟨by rfl, rfl⟩) hHeld ?_
            try simp only [Act.put, List.setIfInBounds_toArray, List.set_cons_zero, List.set_cons_succ]
            refine wpAnyH_take (i := 40) (oi := { dst := some 183, op := Op.move (.tmp 4), type := _, pos := _, after := _, guard := _ }) (v := undef) rfl (by kernel_rfl) (by kernel_rfl) (by kernel_rfl) (fun _ _ _ h => h) (Or.inr ⟨by rfl, rfl⟩) hHeld ?_
            try simp only [Act.put, List.setIfInBounds_toArray, List.set_cons_zero, List.set_cons_succ]
            refine wpAnyH_take (i := 41) (oi := { dst := some 184, op := Op.move (.tmp 17), type := _, pos := _, after := _, guard := _ }) (v := undef) rfl (by kernel_rfl) (by kernel_rfl) (by kernel_rfl) (fun _ _ _ h => h) (Or.inr ⟨by rfl, rfl⟩) hHeld ?_
            try simp only [Act.put, List.setIfInBounds_toArray, List.set_cons_zero, List.set_cons_succ]
            refine wpAnyH_take (i := 42) (oi := { dst := some 185, op := Op.call { callee := Callee.builtin Builtin.max, args := #[(.tmp 183), (.tmp 184)], argTypes := #[3, 3] }, type := _, pos := _, after := _, guard := _ }) (v := undef) rfl (by kernel_rfl) (by kernel_rfl) (by kernel_rfl) (fun _ _ _ h => h) (Or.inr ⟨by rfl, rfl⟩) hHeld ?_
            try simp only [Act.put, List.setIfInBounds_toArray, List.set_cons_zero, List.set_cons_succ]
            refine wpAnyH_take (i := 43) (oi := { dst := some 186, op := Op.binOp BinOp.gtr 3 (.tmp 182) (.tmp 185) 3, type := _, pos := _, after := _, guard := _ }) (v := undef) rfl (by kernel_rfl) (by kernel_rfl) (by kernel_rfl) (fun _ _ _ h => h) (Or.inr ⟨by rfl, rfl⟩) hHeld ?_
            try simp only [Act.put, List.setIfInBounds_toArray, List.set_cons_zero, List.set_cons_succ]
            refine wpAnyH_take (i := 44) (oi := { dst := some 187, op := Op.pick (.tmp 180) (.tmp 186) (.const (Value.bool false)), type := _, pos := _, after := _, guard := _ }) (v := ?_) rfl (by kernel_rfl) (by kernel_rfl) (by kernel_rfl) (fun _ _ _ h => h) (Or.inl ⟨by rfl, ?_⟩) hHeld ?_
            rotate_left
            · intro w99 hSw
              first | (go_simp; done) | (go_simp; with_reducible rfl)
            try simp only [Act.put, List.setIfInBounds_toArray, List.set_cons_zero, List.set_cons_succ]
            refine wpAnyH_take (i := 45) (oi := { dst := some 188, op := Op.pick (.tmp 178) (.const (Value.bool true)) (.tmp 187), type := _, pos := _, after := _, guard := _ }) (v := ?_) rfl (by kernel_rfl) (by kernel_rfl) (by kernel_rfl) (fun _ _ _ h => h) (Or.inl ⟨by rfl, ?_⟩) hHeld ?_
            rotate_left
            · intro w99 hSw
              first | (go_simp; done) | (go_simp; with_reducible rfl)
            try simp only [Act.put, List.setIfInBounds_toArray, List.set_cons_zero, List.set_cons_succ]
            refine wpAnyH_done (by kernel_rfl) ?_ _
            have Hh7 := Lib.hid hHeld
            clear hHeld
            go_wp2_with fail
            go_roundw
            case rel => exact ⟨i + 1, su', ah', le', _, takeS s5 t, A7, c7, F7, by omega, by go_num, rfl, rfl, rfl, rfl, rfl, Lib.hid (by rw [Hb'.out]; congr 1; simp only [eq_iff_iff]; omega), Hbs5, hsu', Lib.hid (fun h => ⟨(Hbt5.out h).1, Nat.le_trans (Hbt5.out h).2.1 a1, by have h1 := Ha3.out h; have h2 := (Hbt5.out h).2.2; show t ≤ max su' ah'; omega⟩), HV6, Lib.hid (HS7.out.no Hh7.out), Lib.hid (fun k h => HFF.out k (HF1.out k h)), HF7, Lib.hid (Hgot7.out.kp Hh7.out (fun _ _ h => h)), HkW6.out.trans (Hk7.out.trans Hh7.out.no)⟩
            case measure => simp [intOf]; omega
        | true =>
          obtain ⟨hb1, hb2, hb3⟩ := hbt5 rfl
          have hb4 := ha3 rfl
          clear hbt5 ha3
          by_cases hst : su' ≤ t
          · rw [if_pos ⟨rfl, hst⟩] at hov hcd
            subst hov hcd
            have g1 : (su' : Int) ≤ (t : Int) := by omega
            rcases Nat.lt_or_ge su' ah' with hsa | hsa
            · have m1 : (su' : Int) < (ah' : Int) := by omega
              have m2 : ¬ (ah' : Int) < (su' : Int) := by omega
              have m3 : ¬ (ah' : Int) < (t : Int) := by omega
              have m4 : (t : Int) ≤ (ah' : Int) := by omega
              clear hb1 hb2 hb3 hb4 hst hsa
              as_aux_lemma =>
                refine wp_region_held_drew (S := (fun w' => Kp (fun _ => False) w7 w')) (by kernel_rfl) (Kp.drew (Kp.refl _ w7)) (fun hHeld => ?_)
                refine wpAnyH_take (i := 0) (oi := { dst := some 143, op := Op.move (.tmp 15), type := _, pos := _, after := _, guard := _ }) (v := ?_) rfl (by kernel_rfl) (by kernel_rfl) (by kernel_rfl) (fun _ _ _ h => h) (Or.inl ⟨by rfl, ?_⟩) hHeld ?_
                rotate_left
                · intro w99 hSw
                  first | (go_simp; done) | (go_simp; with_reducible rfl)
                try simp only [Act.put, List.setIfInBounds_toArray, List.set_cons_zero, List.set_cons_succ]
                refine wpAnyH_take (i := 1) (oi := { dst := some 144, op := Op.convert 22 9 (.tmp 143), type := _, pos := _, after := _, guard := _ }) (v := ?_) rfl (by kernel_rfl) (by kernel_rfl) (by kernel_rfl) (fun _ _ _ h => h) (Or.inl ⟨by rfl, ?_⟩) hHeld ?_
                rotate_left
                · intro w99 hSw
                  have cv1 := conv_any Hgl.out (Hgot7.out.kp hSw (fun _ _ h => h)); rw [HsB.out] at cv1; first | (go_simp; done) | (go_simp; with_reducible rfl)
                try simp only [Act.put, List.setIfInBounds_toArray, List.set_cons_zero, List.set_cons_succ]
                refine wpAnyH_take (i := 2) (oi := { dst := some 145, op := Op.move (.tmp 13), type := _, pos := _, after := _, guard := _ }) (v := ?_) rfl (by kernel_rfl) (by kernel_rfl) (by kernel_rfl) (fun _ _ _ h => h) (Or.inl ⟨by rfl, ?_⟩) hHeld ?_
                rotate_left
                · intro w99 hSw
                  first | (go_simp; done) | (go_simp; with_reducible rfl)
                try simp only [Act.put, List.setIfInBounds_toArray, List.set_cons_zero, List.set_cons_succ]
                refine wpAnyH_take (i := 3) (oi := { dst := some 146, op := Op.move (.tmp 13), type := _, pos := _, after := _, guard := _ }) (v := ?_) rfl (by kernel_rfl) (by kernel_rfl) (by kernel_rfl) (fun _ _ _ h => h) (Or.inl ⟨by rfl, ?_⟩) hHeld ?_
                rotate_left
                · intro w99 hSw
                  first | (go_simp; done) | (go_simp; with_reducible rfl)
                try simp only [Act.put, List.setIfInBounds_toArray, List.set_cons_zero, List.set_cons_succ]
                refine wpAnyH_take (i := 4) (oi := { dst := some 147, op := Op.call { callee := Callee.builtin Builtin.len, args := #[(.tmp 146)], argTypes := #[22] }, type := _, pos := _, after := _, guard := _ }) (v := ?_) rfl (by kernel_rfl) (by kernel_rfl) (by kernel_rfl) (fun _ _ _ h => h) (Or.inl ⟨by rfl, ?_⟩) hHeld ?_
                rotate_left
                · intro w99 hSw
                  first | (go_simp; done) | (go_simp; with_reducible rfl)
                try simp only [Act.put, List.setIfInBounds_toArray, List.set_cons_zero, List.set_cons_succ]
                refine wpAnyH_take (i := 5) (oi := { dst := some 148, op := Op.move (.tmp 15), type := _, pos := _, after := _, guard := _ }) (v := ?_) rfl (by kernel_rfl) (by kernel_rfl) (by kernel_rfl) (fun _ _ _ h => h) (Or.inl ⟨by rfl, ?_⟩) hHeld ?_
                rotate_left
                · intro w99 hSw
                  first | (go_simp; done) | (go_simp; with_reducible rfl)
                try simp only [Act.put, List.setIfInBounds_toArray, List.set_cons_zero, List.set_cons_succ]
                refine wpAnyH_take (i := 6) (oi := { dst := some 149, op := Op.call { callee := Callee.builtin Builtin.len, args := #[(.tmp 148)], argTypes := #[22] }, type := _, pos := _, after := _, guard := _ }) (v := ?_) rfl (by kernel_rfl) (by kernel_rfl) (by kernel_rfl) (fun _ _ _ h => h) (Or.inl ⟨by rfl, ?_⟩) hHeld ?_
                rotate_left
                · intro w99 hSw
                  first | (go_simp; done) | (go_simp; with_reducible rfl)
                try simp only [Act.put, List.setIfInBounds_toArray, List.set_cons_zero, List.set_cons_succ]
                refine wpAnyH_take (i := 7) (oi := { dst := some 150, op := Op.call { callee := Callee.builtin Builtin.min, args := #[(.tmp 147), (.tmp 149)], argTypes := #[3, 3] }, type := _, pos := _, after := _, guard := _ }) (v := ?_) rfl (by kernel_rfl) (by kernel_rfl) (by kernel_rfl) (fun _ _ _ h => h) (Or.inl ⟨by rfl, ?_⟩) hHeld ?_
                rotate_left
                · intro w99 hSw
                  first | (go_simp; done) | (go_simp; with_reducible rfl)
                try simp only [Act.put, List.setIfInBounds_toArray, List.set_cons_zero, List.set_cons_succ]
                refine wpAnyH_take (i := 8) (oi := { dst := some 151, op := Op.slice 22 (.tmp 145) none (some (.tmp 150)) none, type := _, pos := _, after := _, guard := _ }) (v := ?_) rfl (by kernel_rfl) (by kernel_rfl) (by kernel_rfl) (fun _ _ _ h => h) (Or.inl ⟨by rfl, ?_⟩) hHeld ?_
                rotate_left
                · intro w99 hSw
                  first | (go_simp; done) | (go_simp; with_reducible rfl)
                try simp only [Act.put, List.setIfInBounds_toArray, List.set_cons_zero, List.set_cons_succ]
                refine wpAnyH_take (i := 9) (oi := { dst := some 152, op := Op.convert 22 9 (.tmp 151), type := _, pos := _, after := _, guard := _ }) (v := ?_) rfl (by kernel_rfl) (by kernel_rfl) (by kernel_rfl) (fun _ _ _ h => h) (Or.inl ⟨by rfl, ?_⟩) hHeld ?_
                rotate_left
                · intro w99 hSw
                  have cv2 := conv_any Hgl.out (Hal7.out.kp hSw (fun _ _ h => h)); rw [HsB.out] at cv2; first | (go_simp; done) | (go_simp; with_reducible rfl)
                try simp only [Act.put, List.setIfInBounds_toArray, List.set_cons_zero, List.set_cons_succ]
                refine wpAnyH_take (i := 10) (oi := { dst := some 153, op := Op.binOp BinOp.neq 9 (.tmp 144) (.tmp 152) 9, type := _, pos := _, after := _, guard := _ }) (v := ?_) rfl (by kernel_rfl) (by kernel_rfl) (by kernel_rfl) (fun _ _ _ h => h) (Or.inl ⟨by rfl, ?_⟩) hHeld ?_
                rotate_left
                · intro w99 hSw
                  first | (go_simp; done) | (go_simp; with_reducible rfl)
                try simp only [Act.put, List.setIfInBounds_toArray, List.set_cons_zero, List.set_cons_succ]
                refine wpAnyH_take (i := 11) (oi := { dst := some 154, op := Op.move (.tmp 153), type := _, pos := _, after := _, guard := _ }) (v := ?_) rfl (by kernel_rfl) (by kernel_rfl) (by kernel_rfl) (fun _ _ _ h => h) (Or.inl ⟨by rfl, ?_⟩) hHeld ?_
                rotate_left
                · intro w99 hSw
                  first | (go_simp; done) | (go_simp; with_reducible rfl)
                try simp only [Act.put, List.setIfInBounds_toArray, List.set_cons_zero, List.set_cons_succ]
                refine wpAnyH_take (i := 12) (oi := { dst := some 155, op := Op.move (.tmp 28), type := _, pos := _, after := _, guard := _ }) (v := ?_) rfl (by kernel_rfl) (by kernel_rfl) (by kernel_rfl) (fun _ _ _ h => h) (Or.inl ⟨by rfl, ?_⟩) hHeld ?_
                rotate_left
                · intro w99 hSw
                  first | (go_simp; done) | (go_simp; with_reducible rfl)
                try simp only [Act.put, List.setIfInBounds_toArray, List.set_cons_zero, List.set_cons_succ]
                refine wpAnyH_take (i := 13) (oi := { dst := some 156, op := Op.binOp BinOp.eql 3 (.tmp 155) (.const (.int .i64 2)) 3, type := _, pos := _, after := _, guard := _ }) (v := ?_) rfl (by kernel_rfl) (by kernel_rfl) (by kernel_rfl) (fun _ _ _ h => h) (Or.inl ⟨by rfl, ?_⟩) hHeld ?_
                rotate_left
                · intro w99 hSw
                  first | (go_simp; done) | (go_simp; with_reducible rfl)
                try simp only [Act.put, List.setIfInBounds_toArray, List.set_cons_zero, List.set_cons_succ]
                refine wpAnyH_take (i := 14) (oi := { dst := some 157, op := Op.move (.tmp 16), type := _, pos := _, after := _, guard := _ }) (v := ?_) rfl (by kernel_rfl) (by kernel_rfl) (by kernel_rfl) (fun _ _ _ h => h) (Or.inl ⟨by rfl, ?_⟩) hHeld ?_
                rotate_left
                · intro w99 hSw
                  first | (go_simp; done) | (go_simp; with_reducible rfl)
                try simp only [Act.put, List.setIfInBounds_toArray, List.set_cons_zero, List.set_cons_succ]
                refine wpAnyH_take (i := 15) (oi := { dst := some 158, op := Op.move (.tmp 157), type := _, pos := _, after := _, guard := _ }) (v := ?_) rfl (by kernel_rfl) (by kernel_rfl) (by kernel_rfl) (fun _ _ _ h => h) (Or.inl ⟨by rfl, ?_⟩) hHeld ?_
                rotate_left
                · intro w99 hSw
                  first | (go_simp; done) | (go_simp; with_reducible rfl)
                try simp only [Act.put, List.setIfInBounds_toArray, List.set_cons_zero, List.set_cons_succ]
                refine wpAnyH_take (i := 16) (oi := { dst := some 159, op := Op.move (.tmp 15), type := _, pos := _, after := _, guard := _ }) (v := ?_) rfl (by kernel_rfl) (by kernel_rfl) (by kernel_rfl) (fun _ _ _ h => h) (Or.inl ⟨by rfl, ?_⟩) hHeld ?_
                rotate_left
                · intro w99 hSw
                  first | (go_simp; done) | (go_simp; with_reducible rfl)
                try simp only [Act.put, List.setIfInBounds_toArray, List.set_cons_zero, List.set_cons_succ]
                refine wpAnyH_take (i := 17) (oi := { dst := some 160, op := Op.call { callee := Callee.builtin Builtin.len, args := #[(.tmp 159)], argTypes := #[22] }, type := _, pos := _, after := _, guard := _ }) (v := ?_) rfl (by kernel_rfl) (by kernel_rfl) (by kernel_rfl) (fun _ _ _ h => h) (Or.inl ⟨by rfl, ?_⟩) hHeld ?_
                rotate_left
                · intro w99 hSw
                  first | (go_simp; done) | (go_simp; with_reducible rfl)
                try simp only [Act.put, List.setIfInBounds_toArray, List.set_cons_zero, List.set_cons_succ]
                refine wpAnyH_take (i := 18) (oi := { dst := some 161, op := Op.move (.tmp 4), type := _, pos := _, after := _, guard := _ }) (v := ?_) rfl (by kernel_rfl) (by kernel_rfl) (by kernel_rfl) (fun _ _ _ h => h) (Or.inl ⟨by rfl, ?_⟩) hHeld ?_
                rotate_left
                · intro w99 hSw
                  first | (go_simp; done) | (go_simp; with_reducible rfl)
                try simp only [Act.put, List.setIfInBounds_toArray, List.set_cons_zero, List.set_cons_succ]
                refine wpAnyH_take (i := 19) (oi := { dst := some 162, op := Op.binOp BinOp.geq 3 (.tmp 160) (.tmp 161) 3, type := _, pos := _, after := _, guard := _ }) (v := ?_) rfl (by kernel_rfl) (by kernel_rfl) (by kernel_rfl) (fun _ _ _ h => h) (Or.inl ⟨by rfl, ?_⟩) hHeld ?_
                rotate_left
                · intro w99 hSw
                  first | (go_simp; done) | (go_simp; with_reducible rfl)
                try simp only [Act.put, List.setIfInBounds_toArray, List.set_cons_zero, List.set_cons_succ]
                refine wpAnyH_take (i := 20) (oi := { dst := some 163, op := Op.pick (.tmp 158) (.tmp 162) (.const (Value.bool false)), type := _, pos := _, after := _, guard := _ }) (v := ?_) rfl (by kernel_rfl) (by kernel_rfl) (by kernel_rfl) (fun _ _ _ h => h) (Or.inl ⟨by rfl, ?_⟩) hHeld ?_
                rotate_left
                · intro w99 hSw
                  first | (go_simp; done) | (go_simp; with_reducible rfl)
                try simp only [Act.put, List.setIfInBounds_toArray, List.set_cons_zero, List.set_cons_succ]
                refine wpAnyH_take (i := 21) (oi := { dst := some 164, op := Op.binOp BinOp.neq 4 (.tmp 156) (.tmp 163) 4, type := _, pos := _, after := _, guard := _ }) (v := ?_) rfl (by kernel_rfl) (by kernel_rfl) (by kernel_rfl) (fun _ _ _ h => h) (Or.inl ⟨by rfl, ?_⟩) hHeld ?_
                rotate_left
                · intro w99 hSw
                  first | (go_simp; done) | (go_simp; with_reducible rfl)
                try simp only [Act.put, List.setIfInBounds_toArray, List.set_cons_zero, List.set_cons_succ]
                refine wpAnyH_take (i := 22) (oi := { dst := some 165, op := Op.pick (.tmp 154) (.const (Value.bool true)) (.tmp 164), type := _, pos := _, after := _, guard := _ }) (v := ?_) rfl (by kernel_rfl) (by kernel_rfl) (by kernel_rfl) (fun _ _ _ h => h) (Or.inl ⟨by rfl, ?_⟩) hHeld ?_
                rotate_left
                · intro w99 hSw
                  first | (go_simp; done) | (go_simp; with_reducible rfl)
                try simp only [Act.put, List.setIfInBounds_toArray, List.set_cons_zero, List.set_cons_succ]
                refine wpAnyH_take (i := 23) (oi := { dst := some 166, op := Op.move (.tmp 165), type := _, pos := _, after := _, guard := _ }) (v := ?_) rfl (by kernel_rfl) (by kernel_rfl) (by kernel_rfl) (fun _ _ _ h => h) (Or.inl ⟨by rfl, ?_⟩) hHeld ?_
                rotate_left
                · intro w99 hSw
                  first | (go_simp; done) | (go_simp; with_reducible rfl)
                try simp only [Act.put, List.setIfInBounds_toArray, List.set_cons_zero, List.set_cons_succ]
                refine wpAnyH_take (i := 24) (oi := { dst := some 167, op := Op.move (.tmp 28), type := _, pos := _, after := _, guard := _ }) (v := ?_) rfl (by kernel_rfl) (by kernel_rfl) (by kernel_rfl) (fun _ _ _ h => h) (Or.inl ⟨by rfl, ?_⟩) hHeld ?_
                rotate_left
                · intro w99 hSw
                  first | (go_simp; done) | (go_simp; with_reducible rfl)
                try simp only [Act.put, List.setIfInBounds_toArray, List.set_cons_zero, List.set_cons_succ]
                refine wpAnyH_take (i := 25) (oi := { dst := some 168, op := Op.binOp BinOp.eql 3 (.tmp 167) (.const (.int .i64 2)) 3, type := _, pos := _, after := _, guard := _ }) (v := ?_) rfl (by kernel_rfl) (by kernel_rfl) (by kernel_rfl) (fun _ _ _ h => h) (Or.inl ⟨by rfl, ?_⟩) hHeld ?_
                rotate_left
                · intro w99 hSw
                  first | (go_simp; done) | (go_simp; with_reducible rfl)
                try simp only [Act.put, List.setIfInBounds_toArray, List.set_cons_zero, List.set_cons_succ]
                refine wpAnyH_take (i := 26) (oi := { dst := some 169, op := Op.move (.tmp 168), type := _, pos := _, after := _, guard := _ }) (v := ?_) rfl (by kernel_rfl) (by kernel_rfl) (by kernel_rfl) (fun _ _ _ h => h) (Or.inl ⟨by rfl, ?_⟩) hHeld ?_
                rotate_left
                · intro w99 hSw
                  first | (go_simp; done) | (go_simp; with_reducible rfl)
                try simp only [Act.put, List.setIfInBounds_toArray, List.set_cons_zero, List.set_cons_succ]
                refine wpAnyH_take (i := 27) (oi := { dst := some 170, op := Op.move (.tmp 29), type := _, pos := _, after := _, guard := _ }) (v := ?_) rfl (by kernel_rfl) (by kernel_rfl) (by kernel_rfl) (fun _ _ _ h => h) (Or.inl ⟨by rfl, ?_⟩) hHeld ?_
                rotate_left
                · intro w99 hSw
                  first | (go_simp; done) | (go_simp; with_reducible rfl)
                try simp only [Act.put, List.setIfInBounds_toArray, List.set_cons_zero, List.set_cons_succ]
                refine wpAnyH_take (i := 28) (oi := { dst := some 171, op := Op.binOp BinOp.neq 3 (.tmp 170) (.const (.int .i64 77)) 3, type := _, pos := _, after := _, guard := _ }) (v := ?_) rfl (by kernel_rfl) (by kernel_rfl) (by kernel_rfl) (fun _ _ _ h => h) (Or.inl ⟨by rfl, ?_⟩) hHeld ?_
                rotate_left
                · intro w99 hSw
                  first | (go_simp; done) | (go_simp; with_reducible rfl)
                try simp only [Act.put, List.setIfInBounds_toArray, List.set_cons_zero, List.set_cons_succ]
                refine wpAnyH_take (i := 29) (oi := { dst := some 172, op := Op.pick (.tmp 169) (.tmp 171) (.const (Value.bool false)), type := _, pos := _, after := _, guard := _ }) (v := ?_) rfl (by kernel_rfl) (by kernel_rfl) (by kernel_rfl) (fun _ _ _ h => h) (Or.inl ⟨by rfl, ?_⟩) hHeld ?_
                rotate_left
                · intro w99 hSw
                  first | (go_simp; done) | (go_simp; with_reducible rfl)
                try simp only [Act.put, List.setIfInBounds_toArray, List.set_cons_zero, List.set_cons_succ]
                refine wpAnyH_take (i := 30) (oi := { dst := some 173, op := Op.pick (.tmp 166) (.const (Value.bool true)) (.tmp 172), type := _, pos := _, after := _, guard := _ }) (v := ?_) rfl (by kernel_rfl) (by kernel_rfl) (by kernel_rfl) (fun _ _ _ h => h) (Or.inl ⟨by rfl, ?_⟩) hHeld ?_
                rotate_left
                · intro w99 hSw
                  first | (go_simp; done) | (go_simp; with_reducible rfl)
                try simp only [Act.put, List.setIfInBounds_toArray, List.set_cons_zero, List.set_cons_succ]
                refine wpAnyH_take (i := 31) (oi := { dst := some 174, op := Op.move (.tmp 173), type := _, pos := _, after := _, guard := _ }) (v := ?_) rfl (by kernel_rfl) (by kernel_rfl) (by kernel_rfl) (fun _ _ _ h => h) (Or.inl ⟨by rfl, ?_⟩) hHeld ?_
                rotate_left
                · intro w99 hSw
                  first | (go_simp; done) | (go_simp; with_reducible rfl)
                try simp only [Act.put, List.setIfInBounds_toArray, List.set_cons_zero, List.set_cons_succ]
                refine wpAnyH_take (i := 32) (oi := { dst := some 175, op := Op.move (.tmp 28), type := _, pos := _, after := _, guard := _ }) (v := ?_) rfl (by kernel_rfl) (by kernel_rfl) (by kernel_rfl) (fun _ _ _ h => h) (Or.inl ⟨by rfl, ?_⟩) hHeld ?_
                rotate_left
                · intro w99 hSw
                  first | (go_simp; done) | (go_simp; with_reducible rfl)
                try simp only [Act.put, List.setIfInBounds_toArray, List.set_cons_zero, List.set_cons_succ]
                refine wpAnyH_take (i := 33) (oi := { dst := some 176, op := Op.binOp BinOp.eql 3 (.tmp 175) (.const (.int .i64 1)) 3, type := _, pos := _, after := _, guard := _ }) (v := ?_) rfl (by kernel_rfl) (by kernel_rfl) (by kernel_rfl) (fun _ _ _ h => h) (Or.inl ⟨by rfl, ?_⟩) hHeld ?_
                rotate_left
                · intro w99 hSw
                  first | (go_simp; done) | (go_simp; with_reducible rfl)
                try simp only [Act.put, List.setIfInBounds_toArray, List.set_cons_zero, List.set_cons_succ]
                refine wpAnyH_take (i := 34) (oi := { dst := some 177, op := Op.pick (.tmp 174) (.const (Value.bool true)) (.tmp 176), type := _, pos := _, after := _, guard := _ }) (v := ?_) rfl (by kernel_rfl) (by kernel_rfl) (by kernel_rfl) (fun _ _ _ h => h) (Or.inl ⟨by rfl, ?_⟩) hHeld ?_
                rotate_left
                · intro w99 hSw
                  first | (go_simp; done) | (go_simp; with_reducible rfl)
                try simp only [Act.put, List.setIfInBounds_toArray, List.set_cons_zero, List.set_cons_succ]
                refine wpAnyH_take (i := 35) (oi := { dst := some 178, op := Op.move (.tmp 177), type := _, pos := _, after := _, guard := _ }) (v := ?_) rfl (by kernel_rfl) (by kernel_rfl) (by kernel_rfl) (fun _ _ _ h => h) (Or.inl ⟨by rfl, ?_⟩) hHeld ?_
                rotate_left
                · intro w99 hSw
                  first | (go_simp; done) | (go_simp; with_reducible rfl)
                try simp only [Act.put, List.setIfInBounds_toArray, List.set_cons_zero, List.set_cons_succ]
                refine wpAnyH_take (i := 36) (oi := { dst := some 179, op := Op.move (.tmp 16), type := _, pos := _, after := _, guard := _ }) (v := ?_) rfl (by kernel_rfl) (by kernel_rfl) (by kernel_rfl) (fun _ _ _ h => h) (Or.inl ⟨by rfl, ?_⟩) hHeld ?_
                rotate_left
                · intro w99 hSw
                  first | (go_simp; done) | (go_simp; with_reducible rfl)
                try simp only [Act.put, List.setIfInBounds_toArray, List.set_cons_zero, List.set_cons_succ]
                refine wpAnyH_take (i := 37) (oi := { dst := some 180, op := Op.move (.tmp 179), type := _, pos := _, after := _, guard := _ }) (v := ?_) rfl (by kernel_rfl) (by kernel_rfl) (by kernel_rfl) (fun _ _ _ h => h) (Or.inl ⟨by rfl, ?_⟩) hHeld ?_
                rotate_left
                · intro w99 hSw
                  first | (go_simp; done) | (go_simp; with_reducible rfl)
                try simp only [Act.put, List.setIfInBounds_toArray, List.set_cons_zero, List.set_cons_succ]
                refine wpAnyH_take (i := 38) (oi := { dst := some 181, op := Op.move (.tmp 15), type := _, pos := _, after := _, guard := _ }) (v := ?_) rfl (by kernel_rfl) (by kernel_rfl) (by kernel_rfl) (fun _ _ _ h => h) (Or.inl ⟨by rfl, ?_⟩) hHeld ?_
                rotate_left
                · intro w99 hSw
                  first | (go_simp; done) | (go_simp; with_reducible rfl)
                try simp only [Act.put, List.setIfInBounds_toArray, List.set_cons_zero, List.set_cons_succ]
                refine wpAnyH_take (i := 39) (oi := { dst := some 182, op := Op.call { callee := Callee.builtin Builtin.len, args := #[(.tmp 181)], argTypes := #[22] }, type := _, pos := _, after := _, guard := _ }) (v := ?_) rfl (by kernel_rfl) (by kernel_rfl) (by kernel_rfl) (fun _ _ _ h => h) (Or.inl ⟨by rfl, ?_⟩) hHeld ?_
                rotate_left
                · intro w99 hSw
                  first | (go_simp; done) | (go_simp; with_reducible rfl)
                try simp only [Act.put, List.setIfInBounds_toArray, List.set_cons_zero, List.set_cons_succ]
                refine wpAnyH_take (i := 40) (oi := { dst := some 183, op := Op.move (.tmp 4), type := _, pos := _, after := _, guard := _ }) (v := ?_) rfl (by kernel_rfl) (by kernel_rfl) (by kernel_rfl) (fun _ _ _ h => h) (Or.inl ⟨by rfl, ?_⟩) hHeld ?_
                rotate_left
                · intro w99 hSw
                  first | (go_simp; done) | (go_simp; with_reducible rfl)
                try simp only [Act.put, List.setIfInBounds_toArray, List.set_cons_zero, List.set_cons_succ]
                refine wpAnyH_take (i := 41) (oi := { dst := some 184, op := Op.move (.tmp 17), type := _, pos := _, after := _, guard := _ }) (v := ?_) rfl (by kernel_rfl) (by kernel_rfl) (by kernel_rfl) (fun _ _ _ h => h) (Or.inl ⟨by rfl, ?_⟩) hHeld ?_
                rotate_left
                · intro w99 hSw
                  first | (go_simp; done) | (go_simp; with_reducible rfl)
                try simp only [Act.put, List.setIfInBounds_toArray, List.set_cons_zero, List.set_cons_succ]
                refine wpAnyH_take (i := 42) (oi := { dst := some 185, op := Op.call { callee := Callee.builtin Builtin.max, args := #[(.tmp 183), (.tmp 184)], argTypes := #[3, 3] }, type := _, pos := _, after := _, guard := _ }) (v := ?_) rfl (by kernel_rfl) (by kernel_rfl) (by kernel_rfl) (fun _ _ _ h => h) (Or.inl ⟨by rfl, ?_⟩) hHeld ?_
                rotate_left
                · intro w99 hSw
                  first | (go_simp; done) | (go_simp; with_reducible rfl)
                try simp only [Act.put, List.setIfInBounds_toArray, List.set_cons_zero, List.set_cons_succ]
                refine wpAnyH_take (i := 43) (oi := { dst := some 186, op := Op.binOp BinOp.gtr 3 (.tmp 182) (.tmp 185) 3, type := _, pos := _, after := _, guard := _ }) (v := ?_) rfl (by kernel_rfl) (by kernel_rfl) (by kernel_rfl) (fun _ _ _ h => h) (Or.inl ⟨by rfl, ?_⟩) hHeld ?_
                rotate_left
                · intro w99 hSw
                  first | (go_simp; done) | (go_simp; with_reducible rfl)
                try simp only [Act.put, List.setIfInBounds_toArray, List.set_cons_zero, List.set_cons_succ]
                refine wpAnyH_take (i := 44) (oi := { dst := some 187, op := Op.pick (.tmp 180) (.tmp 186) (.const (Value.bool false)), type := _, pos := _, after := _, guard := _ }) (v := ?_) rfl (by kernel_rfl) (by kernel_rfl) (by kernel_rfl) (fun _ _ _ h => h) (Or.inl ⟨by rfl, ?_⟩) hHeld ?_
                rotate_left
                · intro w99 hSw
                  first | (go_simp; done) | (go_simp; with_reducible rfl)
                try simp only [Act.put, List.setIfInBounds_toArray, List.set_cons_zero, List.set_cons_succ]
                refine wpAnyH_take (i := 45) (oi := { dst := some 188, op := Op.pick (.tmp 178) (.const (Value.bool true)) (.tmp 187), type := _, pos := _, after := _, guard := _ }) (v := ?_) rfl (by kernel_rfl) (by kernel_rfl) (by kernel_rfl) (fun _ _ _ h => h) (Or.inl ⟨by rfl, ?_⟩) hHeld ?_
                rotate_left
                · intro w99 hSw
                  first | (go_simp; done) | (go_simp; with_reducible rfl)
                try simp only [Act.put, List.setIfInBounds_toArray, List.set_cons_zero, List.set_cons_succ]
                refine wpAnyH_done (by kernel_rfl) ?_ _
                have Hh7 := Lib.hid hHeld
                clear hHeld
                go_wp2_with fail
                go_roundw
                case rel => exact ⟨i + 1, su', ah', le', _, takeS s5 t, A7, c7, F7, by omega, by go_num, rfl, rfl, rfl, rfl, rfl, Lib.hid (by rw [Hb'.out]; congr 1; simp only [eq_iff_iff]; omega), Hbs5, hsu', Lib.hid (fun h => ⟨(Hbt5.out h).1, Nat.le_trans (Hbt5.out h).2.1 a1, by have h1 := Ha3.out h; have h2 := (Hbt5.out h).2.2; show t ≤ max su' ah'; omega⟩), HV6, Lib.hid (HS7.out.no Hh7.out), Lib.hid (fun k h => HFF.out k (HF1.out k h)), HF7, Lib.hid (Hgot7.out.kp Hh7.out (fun _ _ h => h)), HkW6.out.trans (Hk7.out.trans Hh7.out.no)⟩
                case measure => simp [intOf]; omega
            · have m1 : ¬ (su' : Int) < (ah' : Int) := by omega
              have m2 : (ah' : Int) ≤ (su' : Int) := by omega
              have m3 : ¬ (su' : Int) < (t : Int) := by omega
              have m4 : (t : Int) ≤ (su' : Int) := by omega
              clear hb1 hb2 hb3 hb4 hst hsa
              as_aux_lemma =>
                refine wp_region_held_drew (S := (fun w' => Kp (fun _ => False) w7 w')) (by kernel_rfl) (Kp.drew (Kp.refl _ w7)) (fun hHeld => ?_)
                refine wpAnyH_take (i := 0) (oi := { dst := some 143, op := Op.move (.tmp 15), type := _, pos := _, after := _, guard := _ }) (v := ?_) rfl (by kernel_rfl) (by kernel_rfl) (by kernel_rfl) (fun _ _ _ h => h) (Or.inl ⟨by rfl, ?_⟩) hHeld ?_
                rotate_left
                · intro w99 hSw
                  first | (go_simp; done) | (go_simp; with_reducible rfl)
                try simp only [Act.put, List.setIfInBounds_toArray, List.set_cons_zero, List.set_cons_succ]
                refine wpAnyH_take (i := 1) (oi := { dst := some 144, op := Op.convert 22 9 (.tmp 143), type := _, pos := _, after := _, guard := _ }) (v := ?_) rfl (by kernel_rfl) (by kernel_rfl) (by kernel_rfl) (fun _ _ _ h => h) (Or.inl ⟨by rfl, ?_⟩) hHeld ?_
                rotate_left
                · intro w99 hSw
                  have cv1 := conv_any Hgl.out (Hgot7.out.kp hSw (fun _ _ h => h)); rw [HsB.out] at cv1; first | (go_simp; done) | (go_simp; with_reducible rfl)
                try simp only [Act.put, List.setIfInBounds_toArray, List.set_cons_zero, List.set_cons_succ]
                refine wpAnyH_take (i := 2) (oi := { dst := some 145, op := Op.move (.tmp 13), type := _, pos := _, after := _, guard := _ }) (v := ?_) rfl (by kernel_rfl) (by kernel_rfl) (by kernel_rfl) (fun _ _ _ h => h) (Or.inl ⟨by rfl, ?_⟩) hHeld ?_
                rotate_left
                · intro w99 hSw
                  first | (go_simp; done) | (go_simp; with_reducible rfl)
                try simp only [Act.put, List.setIfInBounds_toArray, List.set_cons_zero, List.set_cons_succ]
                refine wpAnyH_take (i := 3) (oi := { dst := some 146, op := Op.move (.tmp 13), type := _, pos := _, after := _, guard := _ }) (v := ?_) rfl (by kernel_rfl) (by kernel_rfl) (by kernel_rfl) (fun _ _ _ h => h) (Or.inl ⟨by rfl, ?_⟩) hHeld ?_
                rotate_left
                · intro w99 hSw
                  first | (go_simp; done) | (go_simp; with_reducible rfl)
                try simp only [Act.put, List.setIfInBounds_toArray, List.set_cons_zero, List.set_cons_succ]
                refine wpAnyH_take (i := 4) (oi := { dst := some 147, op := Op.call { callee := Callee.builtin Builtin.len, args := #[(.tmp 146)], argTypes := #[22] }, type := _, pos := _, after := _, guard := _ }) (v := ?_) rfl (by kernel_rfl) (by kernel_rfl) (by kernel_rfl) (fun _ _ _ h => h) (Or.inl ⟨by rfl, ?_⟩) hHeld ?_
                rotate_left
                · intro w99 hSw
                  first | (go_simp; done) | (go_simp; with_reducible rfl)
                try simp only [Act.put, List.setIfInBounds_toArray, List.set_cons_zero, List.set_cons_succ]
                refine wpAnyH_take (i := 5) (oi := { dst := some 148, op := Op.move (.tmp 15), type := _, pos := _, after := _, guard := _ }) (v := ?_) rfl (by kernel_rfl) (by kernel_rfl) (by kernel_rfl) (fun _ _ _ h => h) (Or.inl ⟨by rfl, ?_⟩) hHeld ?_
                rotate_left
                · intro w99 hSw
                  first | (go_simp; done) | (go_simp; with_reducible rfl)
                try simp only [Act.put, List.setIfInBounds_toArray, List.set_cons_zero, List.set_cons_succ]
                refine wpAnyH_take (i := 6) (oi := { dst := some 149, op := Op.call { callee := Callee.builtin Builtin.len, args := #[(.tmp 148)], argTypes := #[22] }, type := _, pos := _, after := _, guard := _ }) (v := ?_) rfl (by kernel_rfl) (by kernel_rfl) (by kernel_rfl) (fun _ _ _ h => h) (Or.inl ⟨by rfl, ?_⟩) hHeld ?_
                rotate_left
                · intro w99 hSw
                  first | (go_simp; done) | (go_simp; with_reducible rfl)
                try simp only [Act.put, List.setIfInBounds_toArray, List.set_cons_zero, List.set_cons_succ]
                refine wpAnyH_take (i := 7) (oi := { dst := some 150, op := Op.call { callee := Callee.builtin Builtin.min, args := #[(.tmp 147), (.tmp 149)], argTypes := #[3, 3] }, type := _, pos := _, after := _, guard := _ }) (v := ?_) rfl (by kernel_rfl) (by kernel_rfl) (by kernel_rfl) (fun _ _ _ h => h) (Or.inl ⟨by rfl, ?_⟩) hHeld ?_
                rotate_left
                · intro w99 hSw
                  first | (go_simp; done) | (go_simp; with_reducible rfl)
                try simp only [Act.put, List.setIfInBounds_toArray, List.set_cons_zero, List.set_cons_succ]
                refine wpAnyH_take (i := 8) (oi := { dst := some 151, op := Op.slice 22 (.tmp 145) none (some (.tmp 150)) none, type := _, pos := _, after := _, guard := _ }) (v := ?_) rfl (by kernel_rfl) (by kernel_rfl) (by kernel_rfl) (fun _ _ _ h => h) (Or.inl ⟨by rfl, ?_⟩) hHeld ?_
                rotate_left
                · intro w99 hSw
                  first | (go_simp; done) | (go_simp; with_reducible rfl)
                try simp only [Act.put, List.setIfInBounds_toArray, List.set_cons_zero, List.set_cons_succ]
                refine wpAnyH_take (i := 9) (oi := { dst := some 152, op := Op.convert 22 9 (.tmp 151), type := _, pos := _, after := _, guard := _ }) (v := ?_) rfl (by kernel_rfl) (by kernel_rfl) (by kernel_rfl) (fun _ _ _ h => h) (Or.inl ⟨by rfl, ?_⟩) hHeld ?_
                rotate_left
                · intro w99 hSw
                  have cv2 := conv_any Hgl.out (Hal7.out.kp hSw (fun _ _ h => h)); rw [HsB.out] at cv2; first | (go_simp; done) | (go_simp; with_reducible rfl)
                try simp only [Act.put, List.setIfInBounds_toArray, List.set_cons_zero, List.set_cons_succ]
                refine wpAnyH_take (i := 10) (oi := { dst := some 153, op := Op.binOp BinOp.neq 9 (.tmp 144) (.tmp 152) 9, type := _, pos := _, after := _, guard := _ }) (v := ?_) rfl (by kernel_rfl) (by kernel_rfl) (by kernel_rfl) (fun _ _ _ h => h) (Or.inl ⟨by rfl, ?_⟩) hHeld ?_
                rotate_left
                · intro w99 hSw
                  first | (go_simp; done) | (go_simp; with_reducible rfl)
                try simp only [Act.put, List.setIfInBounds_toArray, List.set_cons_zero, List.set_cons_succ]
                refine wpAnyH_take (i := 11) (oi := { dst := some 154, op := Op.move (.tmp 153), type := _, pos := _, after := _, guard := _ }) (v := ?_) rfl (by kernel_rfl) (by kernel_rfl) (by kernel_rfl) (fun _ _ _ h => h) (Or.inl ⟨by rfl, ?_⟩) hHeld ?_
                rotate_left
                · intro w99 hSw
                  first | (go_simp; done) | (go_simp; with_reducible rfl)
                try simp only [Act.put, List.setIfInBounds_toArray, List.set_cons_zero, List.set_cons_succ]
                refine wpAnyH_take (i := 12) (oi := { dst := some 155, op := Op.move (.tmp 28), type := _, pos := _, after := _, guard := _ }) (v := ?_) rfl (by kernel_rfl) (by kernel_rfl) (by kernel_rfl) (fun _ _ _ h => h) (Or.inl ⟨by rfl, ?_⟩) hHeld ?_
                rotate_left
                · intro w99 hSw
                  first | (go_simp; done) | (go_simp; with_reducible rfl)
                try simp only [Act.put, List.setIfInBounds_toArray, List.set_cons_zero, List.set_cons_succ]
                refine wpAnyH_take (i := 13) (oi := { dst := some 156, op := Op.binOp BinOp.eql 3 (.tmp 155) (.const (.int .i64 2)) 3, type := _, pos := _, after := _, guard := _ }) (v := ?_) rfl (by kernel_rfl) (by kernel_rfl) (by kernel_rfl) (fun _ _ _ h => h) (Or.inl ⟨by rfl, ?_⟩) hHeld ?_
                rotate_left
                · intro w99 hSw
                  first | (go_simp; done) | (go_simp; with_reducible rfl)
                try simp only [Act.put, List.setIfInBounds_toArray, List.set_cons_zero, List.set_cons_succ]
                refine wpAnyH_take (i := 14) (oi := { dst := some 157, op := Op.move (.tmp 16), type := _, pos := _, after := _, guard := _ }) (v := ?_) rfl (by kernel_rfl) (by kernel_rfl) (by kernel_rfl) (fun _ _ _ h => h) (Or.inl ⟨by rfl, ?_⟩) hHeld ?_
                rotate_left
                · intro w99 hSw
                  first | (go_simp; done) | (go_simp; with_reducible rfl)
                try simp only [Act.put, List.setIfInBounds_toArray, List.set_cons_zero, List.set_cons_succ]
                refine wpAnyH_take (i := 15) (oi := { dst := some 158, op := Op.move (.tmp 157), type := _, pos := _, after := _, guard := _ }) (v := ?_) rfl (by kernel_rfl) (by kernel_rfl) (by kernel_rfl) (fun _ _ _ h => h) (Or.inl ⟨by rfl, ?_⟩) hHeld ?_
                rotate_left
                · intro w99 hSw
                  first | (go_simp; done) | (go_simp; with_reducible rfl)
                try simp only [Act.put, List.setIfInBounds_toArray, List.set_cons_zero, List.set_cons_succ]
                refine wpAnyH_take (i := 16) (oi := { dst := some 159, op := Op.move (.tmp 15), type := _, pos := _, after := _, guard := _ }) (v := ?_) rfl (by kernel_rfl) (by kernel_rfl) (by kernel_rfl) (fun _ _ _ h => h) (Or.inl ⟨by rfl, ?_⟩) hHeld ?_
                rotate_left
                · intro w99 hSw
                  first | (go_simp; done) | (go_simp; with_reducible rfl)
                try simp only [Act.put, List.setIfInBounds_toArray, List.set_cons_zero, List.set_cons_succ]
                refine wpAnyH_take (i := 17) (oi := { dst := some 160, op := Op.call { callee := Callee.builtin Builtin.len, args := #[(.tmp 159)], argTypes := #[22] }, type := _, pos := _, after := _, guard := _ }) (v := ?_) rfl (by kernel_rfl) (by kernel_rfl) (by kernel_rfl) (fun _ _ _ h => h) (Or.inl ⟨by rfl, ?_⟩) hHeld ?_
                rotate_left
                · intro w99 hSw
                  first | (go_simp; done) | (go_simp; with_reducible rfl)
                try simp only [Act.put, List.setIfInBounds_toArray, List.set_cons_zero, List.set_cons_succ]
                refine wpAnyH_take (i := 18) (oi := { dst := some 161, op := Op.move (.tmp 4), type := _, pos := _, after := _, guard := _ }) (v := ?_) rfl (by kernel_rfl) (by kernel_rfl) (by kernel_rfl) (fun _ _ _ h => h) (Or.inl ⟨by rfl, ?_⟩) hHeld ?_
                rotate_left
                · intro w99 hSw
                  first | (go_simp; done) | (go_simp; with_reducible rfl)
                try simp only [Act.put, List.setIfInBounds_toArray, List.set_cons_zero, List.set_cons_succ]
                refine wpAnyH_take (i := 19) (oi := { dst := some 162, op := Op.binOp BinOp.geq 3 (.tmp 160) (.tmp 161) 3, type := _, pos := _, after := _, guard := _ }) (v := ?_) rfl (by kernel_rfl) (by kernel_rfl) (by kernel_rfl) (fun _ _ _ h => h) (Or.inl ⟨by rfl, ?_⟩) hHeld ?_
                rotate_left
                · intro w99 hSw
                  first | (go_simp; done) | (go_simp; with_reducible rfl)
                try simp only [Act.put, List.setIfInBounds_toArray, List.set_cons_zero, List.set_cons_succ]
                refine wpAnyH_take (i := 20) (oi := { dst := some 163, op := Op.pick (.tmp 158) (.tmp 162) (.const (Value.bool false)), type := _, pos := _, after := _, guard := _ }) (v := ?_) rfl (by kernel_rfl) (by kernel_rfl) (by kernel_rfl) (fun _ _ _ h => h) (Or.inl ⟨by rfl, ?_⟩) hHeld ?_
                rotate_left
                · intro w99 hSw
                  first | (go_simp; done) | (go_simp; with_reducible rfl)
                try simp only [Act.put, List.setIfInBounds_toArray, List.set_cons_zero, List.set_cons_succ]
                refine wpAnyH_take (i := 21) (oi := { dst := some 164, op := Op.binOp BinOp.neq 4 (.tmp 156) (.tmp 163) 4, type := _, pos := _, after := _, guard := _ }) (v := ?_) rfl (by kernel_rfl) (by kernel_rfl) (by kernel_rfl) (fun _ _ _ h => h) (Or.inl ⟨by rfl, ?_⟩) hHeld ?_
                rotate_left
                · intro w99 hSw
                  first | (go_simp; done) | (go_simp; with_reducible rfl)
                try simp only [Act.put, List.setIfInBounds_toArray, List.set_cons_zero, List.set_cons_succ]
                refine wpAnyH_take (i := 22) (oi := { dst := some 165, op := Op.pick (.tmp 154) (.const (Value.bool true)) (.tmp 164), type := _, pos := _, after := _, guard := _ }) (v := ?_) rfl (by kernel_rfl) (by kernel_rfl) (by kernel_rfl) (fun _ _ _ h => h) (Or.inl ⟨by rfl, ?_⟩) hHeld ?_
                rotate_left
                · intro w99 hSw
                  first | (go_simp; done) | (go_simp; with_reducible rfl)
                try simp only [Act.put, List.setIfInBounds_toArray, List.set_cons_zero, List.set_cons_succ]
                refine wpAnyH_take (i := 23) (oi := { dst := some 166, op := Op.move (.tmp 165), type := _, pos := _, after := _, guard := _ }) (v := ?_) rfl (by kernel_rfl) (by kernel_rfl) (by kernel_rfl) (fun _ _ _ h => h) (Or.inl ⟨by rfl, ?_⟩) hHeld ?_
                rotate_left
                · intro w99 hSw
                  first | (go_simp; done) | (go_simp; with_reducible rfl)
                try simp only [Act.put, List.setIfInBounds_toArray, List.set_cons_zero, List.set_cons_succ]
                refine wpAnyH_take (i := 24) (oi := { dst := some 167, op := Op.move (.tmp 28), type := _, pos := _, after := _, guard := _ }) (v := ?_) rfl (by kernel_rfl) (by kernel_rfl) (by kernel_rfl) (fun _ _ _ h => h) (Or.inl ⟨by rfl, ?_⟩) hHeld ?_
                rotate_left
                · intro w99 hSw
                  first | (go_simp; done) | (go_simp; with_reducible rfl)
                try simp only [Act.put, List.setIfInBounds_toArray, List.set_cons_zero, List.set_cons_succ]
                refine wpAnyH_take (i := 25) (oi := { dst := some 168, op := Op.binOp BinOp.eql 3 (.tmp 167) (.const (.int .i64 2)) 3, type := _, pos := _, after := _, guard := _ }) (v := ?_) rfl (by kernel_rfl) (by kernel_rfl) (by kernel_rfl) (fun _ _ _ h => h) (Or.inl ⟨by rfl, ?_⟩) hHeld ?_
                rotate_left
                · intro w99 hSw
                  first | (go_simp; done) | (go_simp; with_reducible rfl)
                try simp only [Act.put, List.setIfInBounds_toArray, List.set_cons_zero, List.set_cons_succ]
                refine wpAnyH_take (i := 26) (oi := { dst := some 169, op := Op.move (.tmp 168), type := _, pos := _, after := _, guard := _ }) (v := ?_) rfl (by kernel_rfl) (by kernel_rfl) (by kernel_rfl) (fun _ _ _ h => h) (Or.inl ⟨by rfl, ?_⟩) hHeld ?_
                rotate_left
                · intro w99 hSw
                  first | (go_simp; done) | (go_simp; with_reducible rfl)
                try simp only [Act.put, List.setIfInBounds_toArray, List.set_cons_zero, List.set_cons_succ]
                refine wpAnyH_take (i := 27) (oi := { dst := some 170, op := Op.move (.tmp 29), type := _, pos := _, after := _, guard := _ }) (v := ?_) rfl (by kernel_rfl) (by kernel_rfl) (by kernel_rfl) (fun _ _ _ h => h) (Or.inl ⟨by rfl, ?_⟩) hHeld ?_
                rotate_left
                · intro w99 hSw
                  first | (go_simp; done) | (go_simp; with_reducible rfl)
                try simp only [Act.put, List.setIfInBounds_toArray, List.set_cons_zero, List.set_cons_succ]
                refine wpAnyH_take (i := 28) (oi := { dst := some 171, op := Op.binOp BinOp.neq 3 (.tmp 170) (.const (.int .i64 77)) 3, type := _, pos := _, after := _, guard := _ }) (v := ?_) rfl (by kernel_rfl) (by kernel_rfl) (by kernel_rfl) (fun _ _ _ h => h) (Or.inl ⟨by rfl, ?_⟩) hHeld ?_
                rotate_left
                · intro w99 hSw
                  first | (go_simp; done) | (go_simp; with_reducible rfl)
                try simp only [Act.put, List.setIfInBounds_toArray, List.set_cons_zero, List.set_cons_succ]
                refine wpAnyH_take (i := 29) (oi := { dst := some 172, op := Op.pick (.tmp 169) (.tmp 171) (.const (Value.bool false)), type := _, pos := _, after := _, guard := _ }) (v := ?_) rfl (by kernel_rfl) (by kernel_rfl) (by kernel_rfl) (fun _ _ _ h => h) (Or.inl ⟨by rfl, ?_⟩) hHeld ?_
                rotate_left
                · intro w99 hSw
                  first | (go_simp; done) | (go_simp; with_reducible rfl)
                try simp only [Act.put, List.setIfInBounds_toArray, List.set_cons_zero, List.set_cons_succ]
                refine wpAnyH_take (i := 30) (oi := { dst := some 173, op := Op.pick (.tmp 166) (.const (Value.bool true)) (.tmp 172), type := _, pos := _, after := _, guard := _ }) (v := ?_) rfl (by kernel_rfl) (by kernel_rfl) (by kernel_rfl) (fun _ _ _ h => h) (Or.inl ⟨by rfl, ?_⟩) hHeld ?_
                rotate_left
                · intro w99 hSw
                  first | (go_simp; done) | (go_simp; with_reducible rfl)
                try simp only [Act.put, List.setIfInBounds_toArray, List.set_cons_zero, List.set_cons_succ]
                refine wpAnyH_take (i := 31) (oi := { dst := some 174, op := Op.move (.tmp 173), type := _, pos := _, after := _, guard := _ }) (v := ?_) rfl (by kernel_rfl) (by kernel_rfl) (by kernel_rfl) (fun _ _ _ h => h) (Or.inl ⟨by rfl, ?_⟩) hHeld ?_
                rotate_left
                · intro w99 hSw
                  first | (go_simp; done) | (go_simp; with_reducible rfl)
                try simp only [Act.put, List.setIfInBounds_toArray, List.set_cons_zero, List.set_cons_succ]
                refine wpAnyH_take (i := 32) (oi := { dst := some 175, op := Op.move (.tmp 28), type := _, pos := _, after := _, guard := _ }) (v := ?_) rfl (by kernel_rfl) (by kernel_rfl) (by kernel_rfl) (fun _ _ _ h => h) (Or.inl ⟨by rfl, ?_⟩) hHeld ?_
                rotate_left
                · intro w99 hSw
                  first | (go_simp; done) | (go_simp; with_reducible rfl)
                try simp only [Act.put, List.setIfInBounds_toArray, List.set_cons_zero, List.set_cons_succ]
                refine wpAnyH_take (i := 33) (oi := { dst := some 176, op := Op.binOp BinOp.eql 3 (.tmp 175) (.const (.int .i64 1)) 3, type := _, pos := _, after := _, guard := _ }) (v := ?_) rfl (by kernel_rfl) (by kernel_rfl) (by kernel_rfl) (fun _ _ _ h => h) (Or.inl ⟨by rfl, ?_⟩) hHeld ?_
                rotate_left
                · intro w99 hSw
                  first | (go_simp; done) | (go_simp; with_reducible rfl)
                try simp only [Act.put, List.setIfInBounds_toArray, List.set_cons_zero, List.set_cons_succ]
                refine wpAnyH_take (i := 34) (oi := { dst := some 177, op := Op.pick (.tmp 174) (.const (Value.bool true)) (.tmp 176), type := _, pos := _, after := _, guard := _ }) (v := ?_) rfl (by kernel_rfl) (by kernel_rfl) (by kernel_rfl) (fun _ _ _ h => h) (Or.inl ⟨by rfl, ?_⟩) hHeld ?_
                rotate_left
                · intro w99 hSw
                  first | (go_simp; done) | (go_simp; with_reducible rfl)
                try simp only [Act.put, List.setIfInBounds_toArray, List.set_cons_zero, List.set_cons_succ]
                refine wpAnyH_take (i := 35) (oi := { dst := some 178, op := Op.move (.tmp 177), type := _, pos := _, after := _, guard := _ }) (v := ?_) rfl (by kernel_rfl) (by kernel_rfl) (by kernel_rfl) (fun _ _ _ h => h) (Or.inl ⟨by rfl, ?_⟩) hHeld ?_
                rotate_left
                · intro w99 hSw
                  first | (go_simp; done) | (go_simp; with_reducible rfl)
                try simp only [Act.put, List.setIfInBounds_toArray, List.set_cons_zero, List.set_cons_succ]
                refine wpAnyH_take (i := 36) (oi := { dst := some 179, op := Op.move (.tmp 16), type := _, pos := _, after := _, guard := _ }) (v := ?_) rfl (by kernel_rfl) (by kernel_rfl) (by kernel_rfl) (fun _ _ _ h => h) (Or.inl ⟨by rfl, ?_⟩) hHeld ?_
                rotate_left
                · intro w99 hSw
                  first | (go_simp; done) | (go_simp; with_reducible rfl)
                try simp only [Act.put, List.setIfInBounds_toArray, List.set_cons_zero, List.set_cons_succ]
                refine wpAnyH_take (i := 37) (oi := { dst := some 180, op := Op.move (.tmp 179), type := _, pos := _, after := _, guard := _ }) (v := ?_) rfl (by kernel_rfl) (by kernel_rfl) (by kernel_rfl) (fun _ _ _ h => h) (Or.inl ⟨by rfl, ?_⟩) hHeld ?_
                rotate_left
                · intro w99 hSw
                  first | (go_simp; done) | (go_simp; with_reducible rfl)
                try simp only [Act.put, List.setIfInBounds_toArray, List.set_cons_zero, List.set_cons_succ]
                refine wpAnyH_take (i := 38) (oi := { dst := some 181, op := Op.move (.tmp 15), type := _, pos := _, after := _, guard := _ }) (v := ?_) rfl (by kernel_rfl) (by kernel_rfl) (by kernel_rfl) (fun _ _ _ h => h) (Or.inl ⟨by rfl, ?_⟩) hHeld ?_
                rotate_left
                · intro w99 hSw
                  first | (go_simp; done) | (go_simp; with_reducible rfl)
                try simp only [Act.put, List.setIfInBounds_toArray, List.set_cons_zero, List.set_cons_succ]
                refine wpAnyH_take (i := 39) (oi := { dst := some 182, op := Op.call { callee := Callee.builtin Builtin.len, args := #[(.tmp 181)], argTypes := #[22] }, type := _, pos := _, after := _, guard := _ }) (v := ?_) rfl (by kernel_rfl) (by kernel_rfl) (by kernel_rfl) (fun _ _ _ h => h) (Or.inl ⟨by rfl, ?_⟩) hHeld ?_
                rotate_left
                · intro w99 hSw
                  first | (go_simp; done) | (go_simp; with_reducible rfl)
                try simp only [Act.put, List.setIfInBounds_toArray, List.set_cons_zero, List.set_cons_succ]
                refine wpAnyH_take (i := 40) (oi := { dst := some 183, op := Op.move (.tmp 4), type := _, pos := _, after := _, guard := _ }) (v := ?_) rfl (by kernel_rfl) (by kernel_rfl) (by kernel_rfl) (fun _ _ _ h => h) (Or.inl ⟨by rfl, ?_⟩) hHeld ?_
                rotate_left
                · intro w99 hSw
                  first | (go_simp; done) | (go_simp; with_reducible rfl)
                try simp only [Act.put, List.setIfInBounds_toArray, List.set_cons_zero, List.set_cons_succ]
                refine wpAnyH_take (i := 41) (oi := { dst := some 184, op := Op.move (.tmp 17), type := _, pos := _, after := _, guard := _ }) (v := ?_) rfl (by kernel_rfl) (by kernel_rfl) (by kernel_rfl) (fun _ _ _ h => h) (Or.inl ⟨by rfl, ?_⟩) hHeld ?_
                rotate_left
                · intro w99 hSw
                  first | (go_simp; done) | (go_simp; with_reducible rfl)
                try simp only [Act.put, List.setIfInBounds_toArray, List.set_cons_zero, List.set_cons_succ]
                refine wpAnyH_take (i := 42) (oi := { dst := some 185, op := Op.call { callee := Callee.builtin Builtin.max, args := #[(.tmp 183), (.tmp 184)], argTypes := #[3, 3] }, type := _, pos := _, after := _, guard := _ }) (v := ?_) rfl (by kernel_rfl) (by kernel_rfl) (by kernel_rfl) (fun _ _ _ h => h) (Or.inl ⟨by rfl, ?_⟩) hHeld ?_
                rotate_left
                · intro w99 hSw
                  first | (go_simp; done) | (go_simp; with_reducible rfl)
                try simp only [Act.put, List.setIfInBounds_toArray, List.set_cons_zero, List.set_cons_succ]
                refine wpAnyH_take (i := 43) (oi := { dst := some 186, op := Op.binOp BinOp.gtr 3 (.tmp 182) (.tmp 185) 3, type := _, pos := _, after := _, guard := _ }) (v := ?_) rfl (by kernel_rfl) (by kernel_rfl) (by kernel_rfl) (fun _ _ _ h => h) (Or.inl ⟨by rfl, ?_⟩) hHeld ?_
                rotate_left
                · intro w99 hSw
                  first | (go_simp; done) | (go_simp; with_reducible rfl)
                try simp only [Act.put, List.setIfInBounds_toArray, List.set_cons_zero, List.set_cons_succ]
                refine wpAnyH_take (i := 44) (oi := { dst := some 187, op := Op.pick (.tmp 180) (.tmp 186) (.const (Value.bool false)), type := _, pos := _, after := _, guard := _ }) (v := ?_) rfl (by kernel_rfl) (by kernel_rfl) (by kernel_rfl) (fun _ _ _ h => h) (Or.inl ⟨by rfl, ?_⟩) hHeld ?_
                rotate_left
                · intro w99 hSw
                  first | (go_simp; done) | (go_simp; with_reducible rfl)
                try simp only [Act.put, List.setIfInBounds_toArray, List.set_cons_zero, List.set_cons_succ]
                refine wpAnyH_take (i := 45) (oi := { dst := some 188, op := Op.pick (.tmp 178) (.const (Value.bool true)) (.tmp 187), type := _, pos := _, after := _, guard := _ }) (v := ?_) rfl (by kernel_rfl) (by kernel_rfl) (by kernel_rfl) (fun _ _ _ h => h) (Or.inl ⟨by rfl, ?_⟩) hHeld ?_
                rotate_left
                · intro w99 hSw
                  first | (go_simp; done) | (go_simp; with_reducible rfl)
                try simp only [Act.put, List.setIfInBounds_toArray, List.set_cons_zero, List.set_cons_succ]
                refine wpAnyH_done (by kernel_rfl) ?_ _
                have Hh7 := Lib.hid hHeld
                clear hHeld
                go_wp2_with fail
                go_roundw
                case rel => exact ⟨i + 1, su', ah', le', _, takeS s5 t, A7, c7, F7, by omega, by go_num, rfl, rfl, rfl, rfl, rfl, Lib.hid (by rw [Hb'.out]; congr 1; simp only [eq_iff_iff]; omega), Hbs5, hsu', Lib.hid (fun h => ⟨(Hbt5.out h).1, Nat.le_trans (Hbt5.out h).2.1 a1, by have h1 := Ha3.out h; have h2 := (Hbt5.out h).2.2; show t ≤ max su' ah'; omega⟩), HV6, Lib.hid (HS7.out.no Hh7.out), Lib.hid (fun k h => HFF.out k (HF1.out k h)), HF7, Lib.hid (Hgot7.out.kp Hh7.out (fun _ _ h => h)), HkW6.out.trans (Hk7.out.trans Hh7.out.no)⟩
                case measure => simp [intOf]; omega
          · rw [if_neg (fun h => hst h.2)] at hov hcd
            subst hov hcd
            have g1 : ¬ (su' : Int) ≤ (t : Int) := by omega
            have g2 : (t : Int) < (su' : Int) := by omega
            rcases Nat.lt_or_ge su' ah' with hsa | hsa
            · have m1 : (su' : Int) < (ah' : Int) := by omega
              have m2 : ¬ (ah' : Int) < (su' : Int) := by omega
              have m3 : ¬ (ah' : Int) < (t : Int) := by omega
              have m4 : (t : Int) ≤ (ah' : Int) := by omega
              clear hb1 hb2 hb3 hb4 hst hsa
              as_aux_lemma =>
                refine wp_region_held_drew (S := (fun w' => Kp (fun _ => False) w7 w')) (by kernel_rfl) (Kp.drew (Kp.refl _ w7)) (fun hHeld => ?_)
                refine wpAnyH_take (i := 0) (oi := { dst := some 143, op := Op.move (.tmp 15), type := _, pos := _, after := _, guard := _ }) (v := ?_) rfl (by kernel_rfl) (by kernel_rfl) (by kernel_rfl) (fun _ _ _ h => h) (Or.inl ⟨by rfl, ?_⟩) hHeld ?_
                rotate_left
                · intro w99 hSw
                  first | (go_simp; done) | (go_simp; with_reducible rfl)
                try simp only [Act.put, List.setIfInBounds_toArray, List.set_cons_zero, List.set_cons_succ]
                refine wpAnyH_take (i := 1) (oi := { dst := some 144, op := Op.convert 22 9 (.tmp 143), type := _, pos := _, after := _, guard := _ }) (v := ?_) rfl (by kernel_rfl) (by kernel_rfl) (by kernel_rfl) (fun _ _ _ h => h) (Or.inl ⟨by rfl, ?_⟩) hHeld ?_
                rotate_left
                · intro w99 hSw
                  have cv1 := conv_any Hgl.out (Hgot7.out.kp hSw (fun _ _ h => h)); rw [HsB.out] at cv1; first | (go_simp; done) | (go_simp; with_reducible rfl)
                try simp only [Act.put, List.setIfInBounds_toArray, List.set_cons_zero, List.set_cons_succ]
                refine wpAnyH_take (i := 2) (oi := { dst := some 145, op := Op.move (.tmp 13), type := _, pos := _, after := _, guard := _ }) (v := ?_) rfl (by kernel_rfl) (by kernel_rfl) (by kernel_rfl) (fun _ _ _ h => h) (Or.inl ⟨by rfl, ?_⟩) hHeld ?_
                rotate_left
                · intro w99 hSw
                  first | (go_simp; done) | (go_simp; with_reducible rfl)
                try simp only [Act.put, List.setIfInBounds_toArray, List.set_cons_zero, List.set_cons_succ]
                refine wpAnyH_take (i := 3) (oi := { dst := some 146, op := Op.move (.tmp 13), type := _, pos := _, after := _, guard := _ }) (v := ?_) rfl (by kernel_rfl) (by kernel_rfl) (by kernel_rfl) (fun _ _ _ h => h) (Or.inl ⟨by rfl, ?_⟩) hHeld ?_
                rotate_left
                · intro w99 hSw
                  first | (go_simp; done) | (go_simp; with_reducible rfl)
                try simp only [Act.put, List.setIfInBounds_toArray, List.set_cons_zero, List.set_cons_succ]
                refine wpAnyH_take (i := 4) (oi := { dst := some 147, op := Op.call { callee := Callee.builtin Builtin.len, args := #[(.tmp 146)], argTypes := #[22] }, type := _, pos := _, after := _, guard := _ }) (v := ?_) rfl (by kernel_rfl) (by kernel_rfl) (by kernel_rfl) (fun _ _ _ h => h) (Or.inl ⟨by rfl, ?_⟩) hHeld ?_
                rotate_left
                · intro w99 hSw
                  first | (go_simp; done) | (go_simp; with_reducible rfl)
                try simp only [Act.put, List.setIfInBounds_toArray, List.set_cons_zero, List.set_cons_succ]
                refine wpAnyH_take (i := 5) (oi := { dst := some 148, op := Op.move (.tmp 15), type := _, pos := _, after := _, guard := _ }) (v := ?_) rfl (by kernel_rfl) (by kernel_rfl) (by kernel_rfl) (fun _ _ _ h => h) (Or.inl ⟨by rfl, ?_⟩) hHeld ?_
                rotate_left
                · intro w99 hSw
                  first | (go_simp; done) | (go_simp; with_reducible rfl)
                try simp only [Act.put, List.setIfInBounds_toArray, List.set_cons_zero, List.set_cons_succ]
                refine wpAnyH_take (i := 6) (oi := { dst := some 149, op := Op.call { callee := Callee.builtin Builtin.len, args := #[(.tmp 148)], argTypes := #[22] }, type := _, pos := _, after := _, guard := _ }) (v := ?_) rfl (by kernel_rfl) (by kernel_rfl) (by kernel_rfl) (fun _ _ _ h => h) (Or.inl ⟨by rfl, ?_⟩) hHeld ?_
                rotate_left
                · intro w99 hSw
                  first | (go_simp; done) | (go_simp; with_reducible rfl)
                try simp only [Act.put, List.setIfInBounds_toArray, List.set_cons_zero, List.set_cons_succ]
                refine wpAnyH_take (i := 7) (oi := { dst := some 150, op := Op.call { callee := Callee.builtin Builtin.min, args := #[(.tmp 147), (.tmp 149)], argTypes := #[3, 3] }, type := _, pos := _, after := _, guard := _ }) (v := ?_) rfl (by kernel_rfl) (by kernel_rfl) (by kernel_rfl) (fun _ _ _ h => h) (Or.inl ⟨by rfl, ?_⟩) hHeld ?_
                rotate_left
                · intro w99 hSw
                  first | (go_simp; done) | (go_simp; with_reducible rfl)
                try simp only [Act.put, List.setIfInBounds_toArray, List.set_cons_zero, List.set_cons_succ]
                refine wpAnyH_take (i := 8) (oi := { dst := some 151, op := Op.slice 22 (.tmp 145) none (some (.tmp 150)) none, type := _, pos := _, after := _, guard := _ }) (v := ?_) rfl (by kernel_rfl) (by kernel_rfl) (by kernel_rfl) (fun _ _ _ h => h) (Or.inl ⟨by rfl, ?_⟩) hHeld ?_
                rotate_left
                · intro w99 hSw
                  first | (go_simp; done) | (go_simp; with_reducible rfl)
                try simp only [Act.put, List.setIfInBounds_toArray, List.set_cons_zero, List.set_cons_succ]
                refine wpAnyH_take (i := 9) (oi := { dst := some 152, op := Op.convert 22 9 (.tmp 151), type := _, pos := _, after := _, guard := _ }) (v := ?_) rfl (by kernel_rfl) (by kernel_rfl) (by kernel_rfl) (fun _ _ _ h => h) (Or.inl ⟨by rfl, ?_⟩) hHeld ?_
                rotate_left
                · intro w99 hSw
                  have cv2 := conv_any Hgl.out (Hal7.out.kp hSw (fun _ _ h => h)); rw [HsB.out] at cv2; first | (go_simp; done) | (go_simp; with_reducible rfl)
                try simp only [Act.put, List.setIfInBounds_toArray, List.set_cons_zero, List.set_cons_succ]
                refine wpAnyH_take (i := 10) (oi := { dst := some 153, op := Op.binOp BinOp.neq 9 (.tmp 144) (.tmp 152) 9, type := _, pos := _, after := _, guard := _ }) (v := ?_) rfl (by kernel_rfl) (by kernel_rfl) (by kernel_rfl) (fun _ _ _ h => h) (Or.inl ⟨by rfl, ?_⟩) hHeld ?_
                rotate_left
                · intro w99 hSw
                  first | (go_simp; done) | (go_simp; with_reducible rfl)
                try simp only [Act.put, List.setIfInBounds_toArray, List.set_cons_zero, List.set_cons_succ]
                refine wpAnyH_take (i := 11) (oi := { dst := some 154, op := Op.move (.tmp 153), type := _, pos := _, after := _, guard := _ }) (v := ?_) rfl (by kernel_rfl) (by kernel_rfl) (by kernel_rfl) (fun _ _ _ h => h) (Or.inl ⟨by rfl, ?_⟩) hHeld ?_
                rotate_left
                · intro w99 hSw
                  first | (go_simp; done) | (go_simp; with_reducible rfl)
                try simp only [Act.put, List.setIfInBounds_toArray, List.set_cons_zero, List.set_cons_succ]
                refine wpAnyH_take (i := 12) (oi := { dst := some 155, op := Op.move (.tmp 28), type := _, pos := _, after := _, guard := _ }) (v := ?_) rfl (by kernel_rfl) (by kernel_rfl) (by kernel_rfl) (fun _ _ _ h => h) (Or.inl ⟨by rfl, ?_⟩) hHeld ?_
                rotate_left
                · intro w99 hSw
                  first | (go_simp; done) | (go_simp; with_reducible rfl)
                try simp only [Act.put, List.setIfInBounds_toArray, List.set_cons_zero, List.set_cons_succ]
                refine wpAnyH_take (i := 13) (oi := { dst := some 156, op := Op.binOp BinOp.eql 3 (.tmp 155) (.const (.int .i64 2)) 3, type := _, pos := _, after := _, guard := _ }) (v := ?_) rfl (by kernel_rfl) (by kernel_rfl) (by kernel_rfl) (fun _ _ _ h => h) (Or.inl ⟨by rfl, ?_⟩) hHeld ?_
                rotate_left
                · intro w99 hSw
                  first | (go_simp; done) | (go_simp; with_reducible rfl)
                try simp only [Act.put, List.setIfInBounds_toArray, List.set_cons_zero, List.set_cons_succ]
                refine wpAnyH_take (i := 14) (oi := { dst := some 157, op := Op.move (.tmp 16), type := _, pos := _, after := _, guard := _ }) (v := ?_) rfl (by kernel_rfl) (by kernel_rfl) (by kernel_rfl) (fun _ _ _ h => h) (Or.inl ⟨by rfl, ?_⟩) hHeld ?_
                rotate_left
                · intro w99 hSw
                  first | (go_simp; done) | (go_simp; with_reducible rfl)
                try simp only [Act.put, List.setIfInBounds_toArray, List.set_cons_zero, List.set_cons_succ]
                refine wpAnyH_take (i := 15) (oi := { dst := some 158, op := Op.move (.tmp 157), type := _, pos := _, after := _, guard := _ }) (v := ?_) rfl (by kernel_rfl) (by kernel_rfl) (by kernel_rfl) (fun _ _ _ h => h) (Or.inl ⟨by rfl, ?_⟩) hHeld ?_
                rotate_left
                · intro w99 hSw
                  first | (go_simp; done) | (go_simp; with_reducible rfl)
                try simp only [Act.put, List.setIfInBounds_toArray, List.set_cons_zero, List.set_cons_succ]
                refine wpAnyH_take (i := 16) (oi := { dst := some 159, op := Op.move (.tmp 15), type := _, pos := _, after := _, guard := _ }) (v := ?_) rfl (by kernel_rfl) (by kernel_rfl) (by kernel_rfl) (fun _ _ _ h => h) (Or.inl ⟨by rfl, ?_⟩) hHeld ?_
                rotate_left
                · intro w99 hSw
                  first | (go_simp; done) | (go_simp; with_reducible rfl)
                try simp only [Act.put, List.setIfInBounds_toArray, List.set_cons_zero, List.set_cons_succ]
                refine wpAnyH_take (i := 17) (oi := { dst := some 160, op := Op.call { callee := Callee.builtin Builtin.len, args := #[(.tmp 159)], argTypes := #[22] }, type := _, pos := _, after := _, guard := _ }) (v := ?_) rfl (by kernel_rfl) (by kernel_rfl) (by kernel_rfl) (fun _ _ _ h => h) (Or.inl ⟨by rfl, ?_⟩) hHeld ?_
                rotate_left
                · intro w99 hSw
                  first | (go_simp; done) | (go_simp; with_reducible rfl)
                try simp only [Act.put, List.setIfInBounds_toArray, List.set_cons_zero, List.set_cons_succ]
                refine wpAnyH_take (i := 18) (oi := { dst := some 161, op := Op.move (.tmp 4), type := _, pos := _, after := _, guard := _ }) (v := ?_) rfl (by kernel_rfl) (by kernel_rfl) (by kernel_rfl) (fun _ _ _ h => h) (Or.inl ⟨by rfl, ?_⟩) hHeld ?_
                rotate_left
                · intro w99 hSw
                  first | (go_simp; done) | (go_simp; with_reducible rfl)
                try simp only [Act.put, List.setIfInBounds_toArray, List.set_cons_zero, List.set_cons_succ]
                refine wpAnyH_take (i := 19) (oi := { dst := some 162, op := Op.binOp BinOp.geq 3 (.tmp 160) (.tmp 161) 3, type := _, pos := _, after := _, guard := _ }) (v := ?_) rfl (by kernel_rfl) (by kernel_rfl) (by kernel_rfl) (fun _ _ _ h => h) (Or.inl ⟨by rfl, ?_⟩) hHeld ?_
                rotate_left
                · intro w99 hSw
                  first | (go_simp; done) | (go_simp; with_reducible rfl)
                try simp only [Act.put, List.setIfInBounds_toArray, List.set_cons_zero, List.set_cons_succ]
                refine wpAnyH_take (i := 20) (oi := { dst := some 163, op := Op.pick (.tmp 158) (.tmp 162) (.const (Value.bool false)), type := _, pos := _, after := _, guard := _ }) (v := ?_) rfl (by kernel_rfl) (by kernel_rfl) (by kernel_rfl) (fun _ _ _ h => h) (Or.inl ⟨by rfl, ?_⟩) hHeld ?_
                rotate_left
                · intro w99 hSw
                  first | (go_simp; done) | (go_simp; with_reducible rfl)
                try simp only [Act.put, List.setIfInBounds_toArray, List.set_cons_zero, List.set_cons_succ]
                refine wpAnyH_take (i := 21) (oi := { dst := some 164, op := Op.binOp BinOp.neq 4 (.tmp 156) (.tmp 163) 4, type := _, pos := _, after := _, guard := _ }) (v := ?_) rfl (by kernel_rfl) (by kernel_rfl) (by kernel_rfl) (fun _ _ _ h => h) (Or.inl ⟨by rfl, ?_⟩) hHeld ?_
                rotate_left
                · intro w99 hSw
                  first | (go_simp; done) | (go_simp; with_reducible rfl)
                try simp only [Act.put, List.setIfInBounds_toArray, List.set_cons_zero, List.set_cons_succ]
                refine wpAnyH_take (i := 22) (oi := { dst := some 165, op := Op.pick (.tmp 154) (.const (Value.bool true)) (.tmp 164), type := _, pos := _, after := _, guard := _ }) (v := ?_) rfl (by kernel_rfl) (by kernel_rfl) (by kernel_rfl) (fun _ _ _ h => h) (Or.inl ⟨by rfl, ?_⟩) hHeld ?_
                rotate_left
                · intro w99 hSw
                  first | (go_simp; done) | (go_simp; with_reducible rfl)
                try simp only [Act.put, List.setIfInBounds_toArray, List.set_cons_zero, List.set_cons_succ]
                refine wpAnyH_take (i := 23) (oi := { dst := some 166, op := Op.move (.tmp 165), type := _, pos := _, after := _, guard := _ }) (v := ?_) rfl (by kernel_rfl) (by kernel_rfl) (by kernel_rfl) (fun _ _ _ h => h) (Or.inl ⟨by rfl, ?_⟩) hHeld ?_
                rotate_left
                · intro w99 hSw
                  first | (go_simp; done) | (go_simp; with_reducible rfl)
                try simp only [Act.put, List.setIfInBounds_toArray, List.set_cons_zero, List.set_cons_succ]
                refine wpAnyH_take (i := 24) (oi := { dst := some 167, op := Op.move (.tmp 28), type := _, pos := _, after := _, guard := _ }) (v := ?_) rfl (by kernel_rfl) (by kernel_rfl) (by kernel_rfl) (fun _ _ _ h => h) (Or.inl ⟨by rfl, ?_⟩) hHeld ?_
                rotate_left
                · intro w99 hSw
                  first | (go_simp; done) | (go_simp; with_reducible rfl)
                try simp only [Act.put, List.setIfInBounds_toArray, List.set_cons_zero, List.set_cons_succ]
                refine wpAnyH_take (i := 25) (oi := { dst := some 168, op := Op.binOp BinOp.eql 3 (.tmp 167) (.const (.int .i64 2)) 3, type := _, pos := _, after := _, guard := _ }) (v := ?_) rfl (by kernel_rfl) (by kernel_rfl) (by kernel_rfl) (fun _ _ _ h => h) (Or.inl ⟨by rfl, ?_⟩) hHeld ?_
                rotate_left
                · intro w99 hSw
                  first | (go_simp; done) | (go_simp; with_reducible rfl)
                try simp only [Act.put, List.setIfInBounds_toArray, List.set_cons_zero, List.set_cons_succ]
                refine wpAnyH_take (i := 26) (oi := { dst := some 169, op := Op.move (.tmp 168), type := _, pos := _, after := _, guard := _ }) (v := ?_) rfl (by kernel_rfl) (by kernel_rfl) (by kernel_rfl) (fun _ _ _ h => h) (Or.inl ⟨by rfl, ?_⟩) hHeld ?_
                rotate_left
                · intro w99 hSw
                  first | (go_simp; done) | (go_simp; with_reducible rfl)
                try simp only [Act.put, List.setIfInBounds_toArray, List.set_cons_zero, List.set_cons_succ]
                refine wpAnyH_take (i := 27) (oi := { dst := some 170, op := Op.move (.tmp 29), type := _, pos := _, after := _, guard := _ }) (v := undef) rfl (by kernel_rfl) (by kernel_rfl) (by kernel_rfl) (fun _ _ _ h => h) (Or.inr ⟨by rfl, rfl⟩) hHeld ?_
                try simp only [Act.put, List.setIfInBounds_toArray, List.set_cons_zero, List.set_cons_succ]
                refine wpAnyH_take (i := 28) (oi := { dst := some 171, op := Op.binOp BinOp.neq 3 (.tmp 170) (.const (.int .i64 77)) 3, type := _, pos := _, after := _, guard := _ }) (v := undef) rfl (by kernel_rfl) (by kernel_rfl) (by kernel_rfl) (fun _ _ _ h => h) (Or.inr ⟨by rfl, rfl⟩) hHeld ?_
                try simp only [Act.put, List.setIfInBounds_toArray, List.set_cons_zero, List.set_cons_succ]
                refine wpAnyH_take (i := 29) (oi := { dst := some 172, op := Op.pick (.tmp 169) (.tmp 171) (.const (Value.bool false)), type := _, pos := _, after := _, guard := _ }) (v := ?_) rfl (by kernel_rfl) (by kernel_rfl) (by kernel_rfl) (fun _ _ _ h => h) (Or.inl ⟨by rfl, ?_⟩) hHeld ?_
                rotate_left
                · intro w99 hSw
                  first | (go_simp; done) | (go_simp; with_reducible rfl)
                try simp only [Act.put, List.setIfInBounds_toArray, List.set_cons_zero, List.set_cons_succ]
                refine wpAnyH_take (i := 30) (oi := { dst := some 173, op := Op.pick (.tmp 166) (.const (Value.bool true)) (.tmp 172), type := _, pos := _, after := _, guard := _ }) (v := ?_) rfl (by kernel_rfl) (by kernel_rfl) (by kernel_rfl) (fun _ _ _ h => h) (Or.inl ⟨by rfl, ?_⟩) hHeld ?_
                rotate_left
                · intro w99 hSw
                  first | (go_simp; done) | (go_simp; with_reducible rfl)
                try simp only [Act.put, List.setIfInBounds_toArray, List.set_cons_zero, List.set_cons_succ]
                refine wpAnyH_take (i := 31) (oi := { dst := some 174, op := Op.move (.tmp 173), type := _, pos := _, after := _, guard := _ }) (v := ?_) rfl (by kernel_rfl) (by kernel_rfl) (by kernel_rfl) (fun _ _ _ h => h) (Or.inl ⟨by rfl, ?_⟩) hHeld ?_
                rotate_left
                · intro w99 hSw
                  first | (go_simp; done) | (go_simp; with_reducible rfl)
                try simp only [Act.put, List.setIfInBounds_toArray, List.set_cons_zero, List.set_cons_succ]
                refine wpAnyH_take (i := 32) (oi := { dst := some 175, op := Op.move (.tmp 28), type := _, pos := _, after := _, guard := _ }) (v := ?_) rfl (by kernel_rfl) (by kernel_rfl) (by kernel_rfl) (fun _ _ _ h => h) (Or.inl ⟨by rfl, ?_⟩) hHeld ?_
                rotate_left
                · intro w99 hSw
                  first | (go_simp; done) | (go_simp; with_reducible rfl)
                try simp only [Act.put, List.setIfInBounds_toArray, List.set_cons_zero, List.set_cons_succ]
                refine wpAnyH_take (i := 33) (oi := { dst := some 176, op := Op.binOp BinOp.eql 3 (.tmp 175) (.const (.int .i64 1)) 3, type := _, pos := _, after := _, guard := _ }) (v := ?_) rfl (by kernel_rfl) (by kernel_rfl) (by kernel_rfl) (fun _ _ _ h => h) (Or.inl ⟨by rfl, ?_⟩) hHeld ?_
                rotate_left
                · intro w99 hSw
                  first | (go_simp; done) | (go_simp; with_reducible rfl)
                try simp only [Act.put, List.setIfInBounds_toArray, List.set_cons_zero, List.set_cons_succ]
                refine wpAnyH_take (i := 34) (oi := { dst := some 177, op := Op.pick (.tmp 174) (.const (Value.bool true)) (.tmp 176), type := _, pos := _, after := _, guard := _ }) (v := ?_) rfl (by kernel_rfl) (by kernel_rfl) (by kernel_rfl) (fun _ _ _ h => h) (Or.inl ⟨by rfl, ?_⟩) hHeld ?_
                rotate_left
                · intro w99 hSw
                  first | (go_simp; done) | (go_simp; with_reducible rfl)
                try simp only [Act.put, List.setIfInBounds_toArray, List.set_cons_zero, List.set_cons_succ]
                refine wpAnyH_take (i := 35) (oi := { dst := some 178, op := Op.move (.tmp 177), type := _, pos := _, after := _, guard := _ }) (v := ?_) rfl (by kernel_rfl) (by kernel_rfl) (by kernel_rfl) (fun _ _ _ h => h) (Or.inl ⟨by rfl, ?_⟩) hHeld ?_
                rotate_left
                · intro w99 hSw
                  first | (go_simp; done) | (go_simp; with_reducible rfl)
                try simp only [Act.put, List.setIfInBounds_toArray, List.set_cons_zero, List.set_cons_succ]
                refine wpAnyH_take (i := 36) (oi := { dst := some 179, op := Op.move (.tmp 16), type := _, pos := _, after := _, guard := _ }) (v := ?_) rfl (by kernel_rfl) (by kernel_rfl) (by kernel_rfl) (fun _ _ _ h => h) (Or.inl ⟨by rfl, ?_⟩) hHeld ?_
                rotate_left
                · intro w99 hSw
                  first | (go_simp; done) | (go_simp; with_reducible rfl)
                try simp only [Act.put, List.setIfInBounds_toArray, List.set_cons_zero, List.set_cons_succ]
                refine wpAnyH_take (i := 37) (oi := { dst := some 180, op := Op.move (.tmp 179), type := _, pos := _, after := _, guard := _ }) (v := ?_) rfl (by kernel_rfl) (by kernel_rfl) (by kernel_rfl) (fun _ _ _ h => h) (Or.inl ⟨by rfl, ?_⟩) hHeld ?_
                rotate_left
                · intro w99 hSw
                  first | (go_simp; done) | (go_simp; with_reducible rfl)
                try simp only [Act.put, List.setIfInBounds_toArray, List.set_cons_zero, List.set_cons_succ]
                refine wpAnyH_take (i := 38) (oi := { dst := some 181, op := Op.move (.tmp 15), type := _, pos := _, after := _, guard := _ }) (v := ?_) rfl (by kernel_rfl) (by kernel_rfl) (by kernel_rfl) (fun _ _ _ h => h) (Or.inl ⟨by rfl, ?_⟩) hHeld ?_
                rotate_left
                · intro w99 hSw
                  first | (go_simp; done) | (go_simp; with_reducible rfl)
                try simp only [Act.put, List.setIfInBounds_toArray, List.set_cons_zero, List.set_cons_succ]
                refine wpAnyH_take (i := 39) (oi := { dst := some 182, op := Op.call { callee := Callee.builtin Builtin.len, args := #[(.tmp 181)], argTypes := #[22] }, type := _, pos := _, after := _, guard := _ }) (v := ?_) rfl (by kernel_rfl) (by kernel_rfl) (by kernel_rfl) (fun _ _ _ h => h) (Or.inl ⟨by rfl, ?_⟩) hHeld ?_
                rotate_left
                · intro w99 hSw
                  first | (go_simp; done) | (go_simp; with_reducible rfl)
                try simp only [Act.put, List.setIfInBounds_toArray, List.set_cons_zero, List.set_cons_succ]
                refine wpAnyH_take (i := 40) (oi := { dst := some 183, op := Op.move (.tmp 4), type := _, pos := _, after := _, guard := _ }) (v := ?_) rfl (by kernel_rfl) (by kernel_rfl) (by kernel_rfl) (fun _ _ _ h => h) (Or.inl ⟨by rfl, ?_⟩) hHeld ?_
                rotate_left
                · intro w99 hSw
                  first | (go_simp; done) | (go_simp; with_reducible rfl)
                try simp only [Act.put, List.setIfInBounds_toArray, List.set_cons_zero, List.set_cons_succ]
                refine wpAnyH_take (i := 41) (oi := { dst := some 184, op := Op.move (.tmp 17), type := _, pos := _, after := _, guard := _ }) (v := ?_) rfl (by kernel_rfl) (by kernel_rfl) (by kernel_rfl) (fun _ _ _ h => h) (Or.inl ⟨by rfl, ?_⟩) hHeld ?_
                rotate_left
                · intro w99 hSw
                  first | (go_simp; done) | (go_simp; with_reducible rfl)
                try simp only [Act.put, List.setIfInBounds_toArray, List.set_cons_zero, List.set_cons_succ]
                refine wpAnyH_take (i := 42) (oi := { dst := some 185, op := Op.call { callee := Callee.builtin Builtin.max, args := #[(.tmp 183), (.tmp 184)], argTypes := #[3, 3] }, type := _, pos := _, after := _, guard := _ }) (v := ?_) rfl (by kernel_rfl) (by kernel_rfl) (by kernel_rfl) (fun _ _ _ h => h) (Or.inl ⟨by rfl, ?_⟩) hHeld ?_
                rotate_left
                · intro w99 hSw
                  first | (go_simp; done) | (go_simp; with_reducible rfl)
                try simp only [Act.put, List.setIfInBounds_toArray, List.set_cons_zero, List.set_cons_succ]
                refine wpAnyH_take (i := 43) (oi := { dst := some 186, op := Op.binOp BinOp.gtr 3 (.tmp 182) (.tmp 185) 3, type := _, pos := _, after := _, guard := _ }) (v := ?_) rfl (by kernel_rfl) (by kernel_rfl) (by kernel_rfl) (fun _ _ _ h => h) (Or.inl ⟨by rfl, ?_⟩) hHeld ?_
                rotate_left
                · intro w99 hSw
                  first | (go_simp; done) | (go_simp; with_reducible rfl)
                try simp only [Act.put, List.setIfInBounds_toArray, List.set_cons_zero, List.set_cons_succ]
                refine wpAnyH_take (i := 44) (oi := { dst := some 187, op := Op.pick (.tmp 180) (.tmp 186) (.const (Value.bool false)), type := _, pos := _, after := _, guard := _ }) (v := ?_) rfl (by kernel_rfl) (by kernel_rfl) (by kernel_rfl) (fun _ _ _ h => h) (Or.inl ⟨by rfl, ?_⟩) hHeld ?_
                rotate_left
                · intro w99 hSw
                  first | (go_simp; done) | (go_simp; with_reducible rfl)
                try simp only [Act.put, List.setIfInBounds_toArray, List.set_cons_zero, List.set_cons_succ]
                refine wpAnyH_take (i := 45) (oi := { dst := some 188, op := Op.pick (.tmp 178) (.const (Value.bool true)) (.tmp 187), type := _, pos := _, after := _, guard := _ }) (v := ?_) rfl (by kernel_rfl) (by kernel_rfl) (by kernel_rfl) (fun _ _ _ h => h) (Or.inl ⟨by rfl, ?_⟩) hHeld ?_
                rotate_left
                · intro w99 hSw
                  first | (go_simp; done) | (go_simp; with_reducible rfl)
                try simp only [Act.put, List.setIfInBounds_toArray, List.set_cons_zero, List.set_cons_succ]
                refine wpAnyH_done (by kernel_rfl) ?_ _
                have Hh7 := Lib.hid hHeld
                clear hHeld
                go_wp2_with fail
                go_roundw
                case rel => exact ⟨i + 1, su', ah', le', _, takeS s5 t, A7, c7, F7, by omega, by go_num, rfl, rfl, rfl, rfl, rfl, Lib.hid (by rw [Hb'.out]; congr 1; simp only [eq_iff_iff]; omega), Hbs5, hsu', Lib.hid (fun h => ⟨(Hbt5.out h).1, Nat.le_trans (Hbt5.out h).2.1 a1, by have h1 := Ha3.out h; have h2 := (Hbt5.out h).2.2; show t ≤ max su' ah'; omega⟩), HV6, Lib.hid (HS7.out.no Hh7.out), Lib.hid (fun k h => HFF.out k (HF1.out k h)), HF7, Lib.hid (Hgot7.out.kp Hh7.out (fun _ _ h => h)), HkW6.out.trans (Hk7.out.trans Hh7.out.no)⟩
                case measure => simp [intOf]; omega
            · have m1 : ¬ (su' : Int) < (ah' : Int) := by omega
              have m2 : (ah' : Int) ≤ (su' : Int) := by omega
              have m3 : ¬ (su' : Int) < (t : Int) := by omega
              have m4 : (t : Int) ≤ (su' : Int) := by omega
              clear hb1 hb2 hb3 hb4 hst hsa
              as_aux_lemma =>
                refine wp_region_held_drew (S := (fun w' => Kp (fun _ => False) w7 w')) (by kernel_rfl) (Kp.drew (Kp.refl _ w7)) (fun hHeld => ?_)
                refine wpAnyH_take (i := 0) (oi := { dst := some 143, op := Op.move (.tmp 15), type := _, pos := _, after := _, guard := _ }) (v := ?_) rfl (by kernel_rfl) (by kernel_rfl) (by kernel_rfl) (fun _ _ _ h => h) (Or.inl ⟨by rfl, ?_⟩) hHeld ?_
                rotate_left
                · intro w99 hSw
                  first | (go_simp; done) | (go_simp; with_reducible rfl)
                try simp only [Act.put, List.setIfInBounds_toArray, List.set_cons_zero, List.set_cons_succ]
                refine wpAnyH_take (i := 1) (oi := { dst := some 144, op := Op.convert 22 9 (.tmp 143), type := _, pos := _, after := _, guard := _ }) (v := ?_) rfl (by kernel_rfl) (by kernel_rfl) (by kernel_rfl) (fun _ _ _ h => h) (Or.inl ⟨by rfl, ?_⟩) hHeld ?_
                rotate_left
                · intro w99 hSw
                  have cv1 := conv_any Hgl.out (Hgot7.out.kp hSw (fun _ _ h => h)); rw [HsB.out] at cv1; first | (go_simp; done) | (go_simp; with_reducible rfl)
                try simp only [Act.put, List.setIfInBounds_toArray, List.set_cons_zero, List.set_cons_succ]
                refine wpAnyH_take (i := 2) (oi := { dst := some 145, op := Op.move (.tmp 13), type := _, pos := _, after := _, guard := _ }) (v := ?_) rfl (by kernel_rfl) (by kernel_rfl) (by kernel_rfl) (fun _ _ _ h => h) (Or.inl ⟨by rfl, ?_⟩) hHeld ?_
                rotate_left
                · intro w99 hSw
                  first | (go_simp; done) | (go_simp; with_reducible rfl)
                try simp only [Act.put, List.setIfInBounds_toArray, List.set_cons_zero, List.set_cons_succ]
                refine wpAnyH_take (i := 3) (oi := { dst := some 146, op := Op.move (.tmp 13), type := _, pos := _, after := _, guard := _ }) (v := ?_) rfl (by kernel_rfl) (by kernel_rfl) (by kernel_rfl) (fun _ _ _ h => h) (Or.inl ⟨by rfl, ?_⟩) hHeld ?_
                rotate_left
                · intro w99 hSw
                  first | (go_simp; done) | (go_simp; with_reducible rfl)
                try simp only [Act.put, List.setIfInBounds_toArray, List.set_cons_zero, List.set_cons_succ]
                refine wpAnyH_take (i := 4) (oi := { dst := some 147, op := Op.call { callee := Callee.builtin Builtin.len, args := #[(.tmp 146)], argTypes := #[22] }, type := _, pos := _, after := _, guard := _ }) (v := ?_) rfl (by kernel_rfl) (by kernel_rfl) (by kernel_rfl) (fun _ _ _ h => h) (Or.inl ⟨by rfl, ?_⟩) hHeld ?_
                rotate_left
                · intro w99 hSw
                  first | (go_simp; done) | (go_simp; with_reducible rfl)
                try simp only [Act.put, List.setIfInBounds_toArray, List.set_cons_zero, List.set_cons_succ]
                refine wpAnyH_take (i := 5) (oi := { dst := some 148, op := Op.move (.tmp 15), type := _, pos := _, after := _, guard := _ }) (v := ?_) rfl (by kernel_rfl) (by kernel_rfl) (by kernel_rfl) (fun _ _ _ h => h) (Or.inl ⟨by rfl, ?_⟩) hHeld ?_
                rotate_left
                · intro w99 hSw
                  first | (go_simp; done) | (go_simp; with_reducible rfl)
                try simp only [Act.put, List.setIfInBounds_toArray, List.set_cons_zero, List.set_cons_succ]
                refine wpAnyH_take (i := 6) (oi := { dst := some 149, op := Op.call { callee := Callee.builtin Builtin.len, args := #[(.tmp 148)], argTypes := #[22] }, type := _, pos := _, after := _, guard := _ }) (v := ?_) rfl (by kernel_rfl) (by kernel_rfl) (by kernel_rfl) (fun _ _ _ h => h) (Or.inl ⟨by rfl, ?_⟩) hHeld ?_
                rotate_left
                · intro w99 hSw
                  first | (go_simp; done) | (go_simp; with_reducible rfl)
                try simp only [Act.put, List.setIfInBounds_toArray, List.set_cons_zero, List.set_cons_succ]
                refine wpAnyH_take (i := 7) (oi := { dst := some 150, op := Op.call { callee := Callee.builtin Builtin.min, args := #[(.tmp 147), (.tmp 149)], argTypes := #[3, 3] }, type := _, pos := _, after := _, guard := _ }) (v := ?_) rfl (by kernel_rfl) (by kernel_rfl) (by kernel_rfl) (fun _ _ _ h => h) (Or.inl ⟨by rfl, ?_⟩) hHeld ?_
                rotate_left
                · intro w99 hSw
                  first | (go_simp; done) | (go_simp; with_reducible rfl)
                try simp only [Act.put, List.setIfInBounds_toArray, List.set_cons_zero, List.set_cons_succ]
                refine wpAnyH_take (i := 8) (oi := { dst := some 151, op := Op.slice 22 (.tmp 145) none (some (.tmp 150)) none, type := _, pos := _, after := _, guard := _ }) (v := ?_) rfl (by kernel_rfl) (by kernel_rfl) (by kernel_rfl) (fun _ _ _ h => h) (Or.inl ⟨by rfl, ?_⟩) hHeld ?_
                rotate_left
                · intro w99 hSw
                  first | (go_simp; done) | (go_simp; with_reducible rfl)
                try simp only [Act.put, List.setIfInBounds_toArray, List.set_cons_zero, List.set_cons_succ]
                refine wpAnyH_take (i := 9) (oi := { dst := some 152, op := Op.convert 22 9 (.tmp 151), type := _, pos := _, after := _, guard := _ }) (v := ?_) rfl (by kernel_rfl) (by kernel_rfl) (by kernel_rfl) (fun _ _ _ h => h) (Or.inl ⟨by rfl, ?_⟩) hHeld ?_
                rotate_left
                · intro w99 hSw
                  have cv2 := conv_any Hgl.out (Hal7.out.kp hSw (fun _ _ h => h)); rw [HsB.out] at cv2; first | (go_simp; done) | (go_simp; with_reducible rfl)
                try simp only [Act.put, List.setIfInBounds_toArray, List.set_cons_zero, List.set_cons_succ]
                refine wpAnyH_take (i := 10) (oi := { dst := some 153, op := Op.binOp BinOp.neq 9 (.tmp 144) (.tmp 152) 9, type := _, pos := _, after := _, guard := _ }) (v := ?_) rfl (by kernel_rfl) (by kernel_rfl) (by kernel_rfl) (fun _ _ _ h => h) (Or.inl ⟨by rfl, ?_⟩) hHeld ?_
                rotate_left
                · intro w99 hSw
                  first | (go_simp; done) | (go_simp; with_reducible rfl)
                try simp only [Act.put, List.setIfInBounds_toArray, List.set_cons_zero, List.set_cons_succ]
                refine wpAnyH_take (i := 11) (oi := { dst := some 154, op := Op.move (.tmp 153), type := _, pos := _, after := _, guard := _ }) (v := ?_) rfl (by kernel_rfl) (by kernel_rfl) (by kernel_rfl) (fun _ _ _ h => h) (Or.inl ⟨by rfl, ?_⟩) hHeld ?_
                rotate_left
                · intro w99 hSw
                  first | (go_simp; done) | (go_simp; with_reducible rfl)
                try simp only [Act.put, List.setIfInBounds_toArray, List.set_cons_zero, List.set_cons_succ]
                refine wpAnyH_take (i := 12) (oi := { dst := some 155, op := Op.move (.tmp 28), type := _, pos := _, after := _, guard := _ }) (v := ?_) rfl (by kernel_rfl) (by kernel_rfl) (by kernel_rfl) (fun _ _ _ h => h) (Or.inl ⟨by rfl, ?_⟩) hHeld ?_
                rotate_left
                · intro w99 hSw
                  first | (go_simp; done) | (go_simp; with_reducible rfl)
                try simp only [Act.put, List.setIfInBounds_toArray, List.set_cons_zero, List.set_cons_succ]
                refine wpAnyH_take (i := 13) (oi := { dst := some 156, op := Op.binOp BinOp.eql 3 (.tmp 155) (.const (.int .i64 2)) 3, type := _, pos := _, after := _, guard := _ }) (v := ?_) rfl (by kernel_rfl) (by kernel_rfl) (by kernel_rfl) (fun _ _ _ h => h) (Or.inl ⟨by rfl, ?_⟩) hHeld ?_
                rotate_left
                · intro w99 hSw
                  first | (go_simp; done) | (go_simp; with_reducible rfl)
                try simp only [Act.put, List.setIfInBounds_toArray, List.set_cons_zero, List.set_cons_succ]
                refine wpAnyH_take (i := 14) (oi := { dst := some 157, op := Op.move (.tmp 16), type := _, pos := _, after := _, guard := _ }) (v := ?_) rfl (by kernel_rfl) (by kernel_rfl) (by kernel_rfl) (fun _ _ _ h => h) (Or.inl ⟨by rfl, ?_⟩) hHeld ?_
                rotate_left
                · intro w99 hSw
                  first | (go_simp; done) | (go_simp; with_reducible rfl)
                try simp only [Act.put, List.setIfInBounds_toArray, List.set_cons_zero, List.set_cons_succ]
                refine wpAnyH_take (i := 15) (oi := { dst := some 158, op := Op.move (.tmp 157), type := _, pos := _, after := _, guard := _ }) (v := ?_) rfl (by kernel_rfl) (by kernel_rfl) (by kernel_rfl) (fun _ _ _ h => h) (Or.inl ⟨by rfl, ?_⟩) hHeld ?_
                rotate_left
                · intro w99 hSw
                  first | (go_simp; done) | (go_simp; with_reducible rfl)
                try simp only [Act.put, List.setIfInBounds_toArray, List.set_cons_zero, List.set_cons_succ]
                refine wpAnyH_take (i := 16) (oi := { dst := some 159, op := Op.move (.tmp 15), type := _, pos := _, after := _, guard := _ }) (v := ?_) rfl (by kernel_rfl) (by kernel_rfl) (by kernel_rfl) (fun _ _ _ h => h) (Or.inl ⟨by rfl, ?_⟩) hHeld ?_
                rotate_left
                · intro w99 hSw
                  first | (go_simp; done) | (go_simp; with_reducible rfl)
                try simp only [Act.put, List.setIfInBounds_toArray, List.set_cons_zero, List.set_cons_succ]
                refine wpAnyH_take (i := 17) (oi := { dst := some 160, op := Op.call { callee := Callee.builtin Builtin.len, args := #[(.tmp 159)], argTypes := #[22] }, type := _, pos := _, after := _, guard := _ }) (v := ?_) rfl (by kernel_rfl) (by kernel_rfl) (by kernel_rfl) (fun _ _ _ h => h) (Or.inl ⟨by rfl, ?_⟩) hHeld ?_
                rotate_left
                · intro w99 hSw
                  first | (go_simp; done) | (go_simp; with_reducible rfl)
                try simp only [Act.put, List.setIfInBounds_toArray, List.set_cons_zero, List.set_cons_succ]
                refine wpAnyH_take (i := 18) (oi := { dst := some 161, op := Op.move (.tmp 4), type := _, pos := _, after := _, guard := _ }) (v := ?_) rfl (by kernel_rfl) (by kernel_rfl) (by kernel_rfl) (fun _ _ _ h => h) (Or.inl ⟨by rfl, ?_⟩) hHeld ?_
                rotate_left
                · intro w99 hSw
                  first | (go_simp; done) | (go_simp; with_reducible rfl)
                try simp only [Act.put, List.setIfInBounds_toArray, List.set_cons_zero, List.set_cons_succ]
                refine wpAnyH_take (i := 19) (oi := { dst := some 162, op := Op.binOp BinOp.geq 3 (.tmp 160) (.tmp 161) 3, type := _, pos := _, after := _, guard := _ }) (v := ?_) rfl (by kernel_rfl) (by kernel_rfl) (by kernel_rfl) (fun _ _ _ h => h) (Or.inl ⟨by rfl, ?_⟩) hHeld ?_
                rotate_left
                · intro w99 hSw
                  first | (go_simp; done) | (go_simp; with_reducible rfl)
                try simp only [Act.put, List.setIfInBounds_toArray, List.set_cons_zero, List.set_cons_succ]
                refine wpAnyH_take (i := 20) (oi := { dst := some 163, op := Op.pick (.tmp 158) (.tmp 162) (.const (Value.bool false)), type := _, pos := _, after := _, guard := _ }) (v := ?_) rfl (by kernel_rfl) (by kernel_rfl) (by kernel_rfl) (fun _ _ _ h => h) (Or.inl ⟨by rfl, ?_⟩) hHeld ?_
                rotate_left
                · intro w99 hSw
                  first | (go_simp; done) | (go_simp; with_reducible rfl)
                try simp only [Act.put, List.setIfInBounds_toArray, List.set_cons_zero, List.set_cons_succ]
                refine wpAnyH_take (i := 21) (oi := { dst := some 164, op := Op.binOp BinOp.neq 4 (.tmp 156) (.tmp 163) 4, type := _, pos := _, after := _, guard := _ }) (v := ?_) rfl (by kernel_rfl) (by kernel_rfl) (by kernel_rfl) (fun _ _ _ h => h) (Or.inl ⟨by rfl, ?_⟩) hHeld ?_
                rotate_left
                · intro w99 hSw
                  first | (go_simp; done) | (go_simp; with_reducible rfl)
                try simp only [Act.put, List.setIfInBounds_toArray, List.set_cons_zero, List.set_cons_succ]
                refine wpAnyH_take (i := 22) (oi := { dst := some 165, op := Op.pick (.tmp 154) (.const (Value.bool true)) (.tmp 164), type := _, pos := _, after := _, guard := _ }) (v := ?_) rfl (by kernel_rfl) (by kernel_rfl) (by kernel_rfl) (fun _ _ _ h => h) (Or.inl ⟨by rfl, ?_⟩) hHeld ?_
                rotate_left
                · intro w99 hSw
                  first | (go_simp; done) | (go_simp; with_reducible rfl)
                try simp only [Act.put, List.setIfInBounds_toArray, List.set_cons_zero, List.set_cons_succ]
                refine wpAnyH_take (i := 23) (oi := { dst := some 166, op := Op.move (.tmp 165), type := _, pos := _, after := _, guard := _ }) (v := ?_) rfl (by kernel_rfl) (by kernel_rfl) (by kernel_rfl) (fun _ _ _ h => h) (Or.inl ⟨by rfl, ?_⟩) hHeld ?_
                rotate_left
                · intro w99 hSw
                  first | (go_simp; done) | (go_simp; with_reducible rfl)
                try simp only [Act.put, List.setIfInBounds_toArray, List.set_cons_zero, List.set_cons_succ]
                refine wpAnyH_take (i := 24) (oi := { dst := some 167, op := Op.move (.tmp 28), type := _, pos := _, after := _, guard := _ }) (v := ?_) rfl (by kernel_rfl) (by kernel_rfl) (by kernel_rfl) (fun _ _ _ h => h) (Or.inl ⟨by rfl, ?_⟩) hHeld ?_
                rotate_left
                · intro w99 hSw
                  first | (go_simp; done) | (go_simp; with_reducible rfl)
                try simp only [Act.put, List.setIfInBounds_toArray, List.set_cons_zero, List.set_cons_succ]
                refine wpAnyH_take (i := 25) (oi := { dst := some 168, op := Op.binOp BinOp.eql 3 (.tmp 167) (.const (.int .i64 2)) 3, type := _, pos := _, after := _, guard := _ }) (v := ?_) rfl (by kernel_rfl) (by kernel_rfl) (by kernel_rfl) (fun _ _ _ h => h) (Or.inl ⟨by rfl, ?_⟩) hHeld ?_
                rotate_left
                · intro w99 hSw
                  first | (go_simp; done) | (go_simp; with_reducible rfl)
                try simp only [Act.put, List.setIfInBounds_toArray, List.set_cons_zero, List.set_cons_succ]
                refine wpAnyH_take (i := 26) (oi := { dst := some 169, op := Op.move (.tmp 168), type := _, pos := _, after := _, guard := _ }) (v := ?_) rfl (by kernel_rfl) (by kernel_rfl) (by kernel_rfl) (fun _ _ _ h => h) (Or.inl ⟨by rfl, ?_⟩) hHeld ?_
                rotate_left
                · intro w99 hSw
                  first | (go_simp; done) | (go_simp; with_reducible rfl)
                try simp only [Act.put, List.setIfInBounds_toArray, List.set_cons_zero, List.set_cons_succ]
                refine wpAnyH_take (i := 27) (oi := { dst := some 170, op := Op.move (.tmp 29), type := _, pos := _, after := _, guard := _ }) (v := undef) rfl (by kernel_rfl) (by kernel_rfl) (by kernel_rfl) (fun _ _ _ h => h) (Or.inr ⟨by rfl, rfl⟩) hHeld ?_
                try simp only [Act.put, List.setIfInBounds_toArray, List.set_cons_zero, List.set_cons_succ]
                refine wpAnyH_take (i := 28) (oi := { dst := some 171, op := Op.binOp BinOp.neq 3 (.tmp 170) (.const (.int .i64 77)) 3, type := _, pos := _, after := _, guard := _ }) (v := undef) rfl (by kernel_rfl) (by kernel_rfl) (by kernel_rfl) (fun _ _ _ h => h) (Or.inr ⟨by rfl, rfl⟩) hHeld ?_
                try simp only [Act.put, List.setIfInBounds_toArray, List.set_cons_zero, List.set_cons_succ]
                refine wpAnyH_take (i := 29) (oi := { dst := some 172, op := Op.pick (.tmp 169) (.tmp 171) (.const (Value.bool false)), type := _, pos := _, after := _, guard := _ }) (v := ?_) rfl (by kernel_rfl) (by kernel_rfl) (by kernel_rfl) (fun _ _ _ h => h) (Or.inl ⟨by rfl, ?_⟩) hHeld ?_
                rotate_left
                · intro w99 hSw
                  first | (go_simp; done) | (go_simp; with_reducible rfl)
                try simp only [Act.put, List.setIfInBounds_toArray, List.set_cons_zero, List.set_cons_succ]
                refine wpAnyH_take (i := 30) (oi := { dst := some 173, op := Op.pick (.tmp 166) (.const (Value.bool true)) (.tmp 172), type := _, pos := _, after := _, guard := _ }) (v := ?_) rfl (by kernel_rfl) (by kernel_rfl) (by kernel_rfl) (fun _ _ _ h => h) (Or.inl ⟨by rfl, ?_⟩) hHeld ?_
                rotate_left
                · intro w99 hSw
                  first | (go_simp; done) | (go_simp; with_reducible rfl)
                try simp only [Act.put, List.setIfInBounds_toArray, List.set_cons_zero, List.set_cons_succ]
                refine wpAnyH_take (i := 31) (oi := { dst := some 174, op := Op.move (.tmp 173), type := _, pos := _, after := _, guard := _ }) (v := ?_) rfl (by kernel_rfl) (by kernel_rfl) (by kernel_rfl) (fun _ _ _ h => h) (Or.inl ⟨by rfl, ?_⟩) hHeld ?_
                rotate_left
                · intro w99 hSw
                  first | (go_simp; done) | (go_simp; with_reducible rfl)
                try simp only [Act.put, List.setIfInBounds_toArray, List.set_cons_zero, List.set_cons_succ]
                refine wpAnyH_take (i := 32) (oi := { dst := some 175, op := Op.move (.tmp 28), type := _, pos := _, after := _, guard := _ }) (v := ?_) rfl (by kernel_rfl) (by kernel_rfl) (by kernel_rfl) (fun _ _ _ h => h) (Or.inl ⟨by rfl, ?_⟩) hHeld ?_
                rotate_left
                · intro w99 hSw
                  first | (go_simp; done) | (go_simp; with_reducible rfl)
                try simp only [Act.put, List.setIfInBounds_toArray, List.set_cons_zero, List.set_cons_succ]
                refine wpAnyH_take (i := 33) (oi := { dst := some 176, op := Op.binOp BinOp.eql 3 (.tmp 175) (.const (.int .i64 1)) 3, type := _, pos := _, after := _, guard := _ }) (v := ?_) rfl (by kernel_rfl) (by kernel_rfl) (by kernel_rfl) (fun _ _ _ h => h) (Or.inl ⟨by rfl, ?_⟩) hHeld ?_
                rotate_left
                · intro w99 hSw
                  first | (go_simp; done) | (go_simp; with_reducible rfl)
                try simp only [Act.put, List.setIfInBounds_toArray, List.set_cons_zero, List.set_cons_succ]
                refine wpAnyH_take (i := 34) (oi := { dst := some 177, op := Op.pick (.tmp 174) (.const (Value.bool true)) (.tmp 176), type := _, pos := _, after := _, guard := _ }) (v := ?_) rfl (by kernel_rfl) (by kernel_rfl) (by kernel_rfl) (fun _ _ _ h => h) (Or.inl ⟨by rfl, ?_⟩) hHeld ?_
                rotate_left
                · intro w99 hSw
                  first | (go_simp; done) | (go_simp; with_reducible rfl)
                try simp only [Act.put, List.setIfInBounds_toArray, List.set_cons_zero, List.set_cons_succ]
                refine wpAnyH_take (i := 35) (oi := { dst := some 178, op := Op.move (.tmp 177), type := _, pos := _, after := _, guard := _ }) (v := ?_) rfl (by kernel_rfl) (by kernel_rfl) (by kernel_rfl) (fun _ _ _ h => h) (Or.inl ⟨by rfl, ?_⟩) hHeld ?_
                rotate_left
                · intro w99 hSw
                  first | (go_simp; done) | (go_simp; with_reducible rfl)
                try simp only [Act.put, List.setIfInBounds_toArray, List.set_cons_zero, List.set_cons_succ]
                refine wpAnyH_take (i := 36) (oi := { dst := some 179, op := Op.move (.tmp 16), type := _, pos := _, after := _, guard := _ }) (v := ?_) rfl (by kernel_rfl) (by kernel_rfl) (by kernel_rfl) (fun _ _ _ h => h) (Or.inl ⟨by rfl, ?_⟩) hHeld ?_
                rotate_left
                · intro w99 hSw
                  first | (go_simp; done) | (go_simp; with_reducible rfl)
                try simp only [Act.put, List.setIfInBounds_toArray, List.set_cons_zero, List.set_cons_succ]
                refine wpAnyH_take (i := 37) (oi := { dst := some 180, op := Op.move (.tmp 179), type := _, pos := _, after := _, guard := _ }) (v := ?_) rfl (by kernel_rfl) (by kernel_rfl) (by kernel_rfl) (fun _ _ _ h => h) (Or.inl ⟨by rfl, ?_⟩) hHeld ?_
                rotate_left
                · intro w99 hSw
                  first | (go_simp; done) | (go_simp; with_reducible rfl)
                try simp only [Act.put, List.setIfInBounds_toArray, List.set_cons_zero, List.set_cons_succ]
                refine wpAnyH_take (i := 38) (oi := { dst := some 181, op := Op.move (.tmp 15), type := _, pos := _, after := _, guard := _ }) (v := ?_) rfl (by kernel_rfl) (by kernel_rfl) (by kernel_rfl) (fun _ _ _ h => h) (Or.inl ⟨by rfl, ?_⟩) hHeld ?_
                rotate_left
                · intro w99 hSw
                  first | (go_simp; done) | (go_simp; with_reducible rfl)
                try simp only [Act.put, List.setIfInBounds_toArray, List.set_cons_zero, List.set_cons_succ]
                refine wpAnyH_take (i := 39) (oi := { dst := some 182, op := Op.call { callee := Callee.builtin Builtin.len, args := #[(.tmp 181)], argTypes := #[22] }, type := _, pos := _, after := _, guard := _ }) (v := ?_) rfl (by kernel_rfl) (by kernel_rfl) (by kernel_rfl) (fun _ _ _ h => h) (Or.inl ⟨by rfl, ?_⟩) hHeld ?_
                rotate_left
                · intro w99 hSw
                  first | (go_simp; done) | (go_simp; with_reducible rfl)
                try simp only [Act.put, List.setIfInBounds_toArray, List.set_cons_zero, List.set_cons_succ]
                refine wpAnyH_take (i := 40) (oi := { dst := some 183, op := Op.move (.tmp 4), type := _, pos := _, after := _, guard := _ }) (v := ?_) rfl (by kernel_rfl) (by kernel_rfl) (by kernel_rfl) (fun _ _ _ h => h) (Or.inl ⟨by rfl, ?_⟩) hHeld ?_
                rotate_left
                · intro w99 hSw
                  first | (go_simp; done) | (go_simp; with_reducible rfl)
                try simp only [Act.put, List.setIfInBounds_toArray, List.set_cons_zero, List.set_cons_succ]
                refine wpAnyH_take (i := 41) (oi := { dst := some 184, op := Op.move (.tmp 17), type := _, pos := _, after := _, guard := _ }) (v := ?_) rfl (by kernel_rfl) (by kernel_rfl) (by kernel_rfl) (fun _ _ _ h => h) (Or.inl ⟨by rfl, ?_⟩) hHeld ?_
                rotate_left
                · intro w99 hSw
                  first | (go_simp; done) | (go_simp; with_reducible rfl)
                try simp only [Act.put, List.setIfInBounds_toArray, List.set_cons_zero, List.set_cons_succ]
                refine wpAnyH_take (i := 42) (oi := { dst := some 185, op := Op.call { callee := Callee.builtin Builtin.max, args := #[(.tmp 183), (.tmp 184)], argTypes := #[3, 3] }, type := _, pos := _, after := _, guard := _ }) (v := ?_) rfl (by kernel_rfl) (by kernel_rfl) (by kernel_rfl) (fun _ _ _ h => h) (Or.inl ⟨by rfl, ?_⟩) hHeld ?_
                rotate_left
                · intro w99 hSw
                  first | (go_simp; done) | (go_simp; with_reducible rfl)
                try simp only [Act.put, List.setIfInBounds_toArray, List.set_cons_zero, List.set_cons_succ]
                refine wpAnyH_take (i := 43) (oi := { dst := some 186, op := Op.binOp BinOp.gtr 3 (.tmp 182) (.tmp 185) 3, type := _, pos := _, after := _, guard := _ }) (v := ?_) rfl (by kernel_rfl) (by kernel_rfl) (by kernel_rfl) (fun _ _ _ h => h) (Or.inl ⟨by rfl, ?_⟩) hHeld ?_
                rotate_left
                · intro w99 hSw
                  first | (go_simp; done) | (go_simp; with_reducible rfl)
                try simp only [Act.put, List.setIfInBounds_toArray, List.set_cons_zero, List.set_cons_succ]
                refine wpAnyH_take (i := 44) (oi := { dst := some 187, op := Op.pick (.tmp 180) (.tmp 186) (.const (Value.bool false)), type := _, pos := _, after := _, guard := _ }) (v := ?_) rfl (by kernel_rfl) (by kernel_rfl) (by kernel_rfl) (fun _ _ _ h => h) (Or.inl ⟨by rfl, ?_⟩) hHeld ?_
                rotate_left
                · intro w99 hSw
                  first | (go_simp; done) | (go_simp; with_reducible rfl)
                try simp only [Act.put, List.setIfInBounds_toArray, List.set_cons_zero, List.set_cons_succ]
                refine wpAnyH_take (i := 45) (oi := { dst := some 188, op := Op.pick (.tmp 178) (.const (Value.bool true)) (.tmp 187), type := _, pos := _, after := _, guard := _ }) (v := ?_) rfl (by kernel_rfl) (by kernel_rfl) (by kernel_rfl) (fun _ _ _ h => h) (Or.inl ⟨by rfl, ?_⟩) hHeld ?_
                rotate_left
                · intro w99 hSw
                  first | (go_simp; done) | (go_simp; with_reducible rfl)
                try simp only [Act.put, List.setIfInBounds_toArray, List.set_cons_zero, List.set_cons_succ]
                refine wpAnyH_done (by kernel_rfl) ?_ _
                have Hh7 := Lib.hid hHeld
                clear hHeld
                go_wp2_with fail
                go_roundw
                case rel => exact ⟨i + 1, su', ah', le', _, takeS s5 t, A7, c7, F7, by omega, by go_num, rfl, rfl, rfl, rfl, rfl, Lib.hid (by rw [Hb'.out]; congr 1; simp only [eq_iff_iff]; omega), Hbs5, hsu', Lib.hid (fun h => ⟨(Hbt5.out h).1, Nat.le_trans (Hbt5.out h).2.1 a1, by have h1 := Ha3.out h; have h2 := (Hbt5.out h).2.2; show t ≤ max su' ah'; omega⟩), HV6, Lib.hid (HS7.out.no Hh7.out), Lib.hid (fun k h => HFF.out k (HF1.out k h)), HF7, Lib.hid (Hgot7.out.kp Hh7.out (fun _ _ h => h)), HkW6.out.trans (Hk7.out.trans Hh7.out.no)⟩
                case measure => simp [intOf]; omega
end Go.Proofs.Ytbkpapdbidbhaaa

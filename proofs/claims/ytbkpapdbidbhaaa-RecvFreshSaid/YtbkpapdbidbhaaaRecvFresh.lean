/-
  argosylaw14.RecvFresh: the walk.
-/
import Derived.Test.YtbkpapdbidbhaaaRecvF
import Derived.Deep.CutBlock
namespace Go.Proofs.Ytbkpapdbidbhaaa
open Go.RowKit

set_option maxRecDepth 100000 in
set_option maxHeartbeats 4000000 in
theorem RecvFresh_any (v : Value) (W : World) (hv : SlArg 23 W v) :
    Calls Try.prog 4 #[v] W fun e w' => e = .returned (.bool true) ∧ Below W.heap.size W w' := by
  obtain ⟨A, len, cap, rfl, hlc, hcm, hreach, hcells⟩ := raw14_rd hv
  unfold maxLen at hcm
  unfold reachBytes at hreach
  have Hc := Lib.hid hcells
  clear hcells hv
  have HN := Lib.hid (h_new 3 W (fun k => k < W.heap.size) (fun k h => h))
  go_enter Try.func4, Try.ntmps4
  go_wp2_with fail
  with_reducible refine (HN.out).mono ?_
  rintro e w2 ⟨g, rfl, hs2, hg2, hk2⟩
  have HS2 := Lib.hid hs2
  have Hk2 := Lib.hid hk2
  have HK := Lib.hid (known14 w2)
  clear hs2 hk2 HN
  go_wp2_with fail
  with_reducible refine (HK.out).mono ?_
  rintro e w3 ⟨rfl, hk3⟩
  have HS3 := Lib.hid (HS2.out.no hk3)
  have Hk3 := Lib.hid ((Hk2.out.trans hk3).no (S := fun k => ¬ k < W.heap.size))
  clear hk3 HS2 Hk2 HK
  go_wp2_with fail
  go_loopw [4, 5, 6, 28] (fun v4 v5 v6 vi wr => ∃ (i : Nat) (s : RS), i ≤ len ∧ vi = .int .i64 i ∧ v4 = .int .i64 (s.top : Int) ∧ v5 = .int .i64 (s.top : Int) ∧ v6 = .int .i64 (s.taken : Int) ∧ Hid (HasSt wr (fun k => k < W.heap.size) g s) ∧ Hid (Fr s) ∧ Kp (fun k => ¬ k < W.heap.size) W wr)
    (fun _ _ _ vi _ => len - (intOf vi).toNat)
  case atStart => exact ⟨0, rs0, by omega, rfl, rfl, rfl, rfl, HS3, Lib.hid ⟨rfl, rfl, by decide, by decide, by decide⟩, Hk3.out⟩
  case round =>
    obtain ⟨i, s, hi, rfl, rfl, rfl, rfl, HS, HF, hkp⟩ := hrel
    have Hkp := Lib.hid hkp
    clear hkp
    by_cases hlt : i < len
    · have t0 : (i : Int) < (len : Int) := by omega
      have t1 : (0 : Int) ≤ (i : Int) := by omega
      have hWr := Hkp.out.size
      rcases Hc.out with h0 | ⟨blk, off, rfl, hblk, hcell⟩
      · omega
      obtain ⟨u0, e0, y0, rfl, _, _⟩ := hcell i hlt 0 RdI rfl
      obtain ⟨u1, e1, y1, rfl, _, _⟩ := hcell i hlt 1 RdI rfl
      obtain ⟨u2, e2, y2, rfl, _, _⟩ := hcell i hlt 2 RdI rfl
      obtain ⟨u3, e3, y3, rfl, _, _⟩ := hcell i hlt 3 RdI rfl
      obtain ⟨u4, e4, y4, rfl⟩ := hcell i hlt 4 RdB rfl
      obtain ⟨u5, e5, A5, d5, c5, rfl, _⟩ := hcell i hlt 5 (RdBy W) rfl
      clear hcell
      have hnb : ¬ ¬ blk < W.heap.size := fun h => h hblk
      rw [← Hkp.out.cell (p := ⟨blk, _, none⟩) hblk hnb] at e0 e1 e2 e3 e4 e5
      simp only [List.length_cons, List.length_nil, Nat.zero_add, Nat.add_zero, Nat.reduceAdd] at e0 e1 e2 e3 e4 e5
      have hblr := Nat.lt_of_lt_of_le hblk hWr
      generalize d5.length = d5l at *
      have hxw : Whole (wr.alloc (.cells #[.int .i64 y0, .int .i64 y1, .int .i64 y2, .int .i64 y3, .bool y4, .slice A5 d5l c5] 31)) wr.heap.size 31 #[.int .i64 y0, .int .i64 y1, .int .i64 y2, .int .i64 y3, .bool y4, .slice A5 d5l c5] := Whole.new _ _ _
      have hka : Kp (fun k => k < W.heap.size) wr (wr.alloc (.cells #[.int .i64 y0, .int .i64 y1, .int .i64 y2, .int .i64 y3, .bool y4, .slice A5 d5l c5] 31)) := (Kp.refl _ wr).alloc _
      obtain ⟨F1, hF1, hF1x, hS1⟩ : ∃ F1 : Nat → Prop, (∀ k, k < W.heap.size → F1 k) ∧ F1 wr.heap.size ∧ HasSt (wr.alloc (.cells #[.int .i64 y0, .int .i64 y1, .int .i64 y2, .int .i64 y3, .bool y4, .slice A5 d5l c5] 31)) F1 g s := ⟨_, fun k h => .inl h, .inr ⟨Nat.le_refl _, by simp⟩, HS.out.turn hka⟩
      have HS1 := Lib.hid hS1
      have HF1 := Lib.hid hF1
      have HF1x := Lib.hid hF1x
      have Hk1 := Lib.hid (Hkp.out.alloc (.cells #[.int .i64 y0, .int .i64 y1, .int .i64 y2, .int .i64 y3, .bool y4, .slice A5 d5l c5] 31))
      have hgl := HS.out.lt
      clear hka HS hS1 hF1 hF1x
      go_upto_region 10 with (fail)
      generalize wr.alloc (.cells #[.int .i64 y0, .int .i64 y1, .int .i64 y2, .int .i64 y3, .bool y4, .slice A5 d5l c5] 31) = w1 at *
      generalize wr.heap.size = xb at *
      have hxl := hxw.lt
      have z1 := hxw.cell 1
      have z2 := hxw.cell 2
      have z3 := hxw.cell 3
      have z4 := hxw.cell 4
      simp at z1 z2 z3 z4
      have Hxw := Lib.hid hxw
      clear hxw
      have hgl1 := HS1.out.lt.1
      have hc3 := (h_cells HS1.out).2.1
      have htold := HS1.out.ok.told
      have htop6 := HF.out.top
      obtain ⟨o, ho⟩ := Int.eq_ofNat_of_zero_le (pickF_lo y1 420 (by omega))
      have ho2 := pickF_hi y1 420 (by omega)
      have HP1 := Lib.hid (fun w => pick_any y1 420 w (by omega) (by omega))
      rw [ho] at HP1 ho2
      have ho3 : o < 420 := by omega
      obtain ⟨m, hm⟩ := Int.eq_ofNat_of_zero_le (pickF_lo y2 60 (by omega))
      have hm2 := pickF_hi y2 60 (by omega)
      have HP2 := Lib.hid (fun w => pick_any y2 60 w (by omega) (by omega))
      rw [hm] at HP2 hm2
      have hm3 : m < 60 := by omega
      obtain ⟨q, hq⟩ := Int.eq_ofNat_of_zero_le (pickF_lo y3 90 (by omega))
      have hq2 := pickF_hi y3 90 (by omega)
      have HP3 := Lib.hid (fun w => pick_any y3 90 w (by omega) (by omega))
      rw [hq] at HP3 hq2
      have hq3 : q < 90 := by omega
      clear ho ho2 hm hm2 hq hq2
      obtain ⟨er, her⟩ : ∃ er, er = if o + m ≤ s.told then 0 else 7 := ⟨_, rfl⟩
      obtain ⟨tp, htp⟩ : ∃ tp, tp = if o + m ≤ s.told ∧ 0 < m then max s.top (o + m) else s.top := ⟨_, rfl⟩
      have htp6 : s.top ≤ tp ∧ tp ≤ 479 := by rw [htp]; split <;> omega
      have hmk := fun w => make_by m (by omega) w
      have hkz : Kp F1 w1 (w1.alloc (.cells (encB (zeros m)).toArray 5)) := (Kp.refl _ w1).alloc _
      have hpz := src_lit (zeros m) (n := m) (Whole.new w1 5 (encB (zeros m)).toArray) (by simp [zeros])
      have HPut := Lib.hid (fr_put (HS1.out.turn hkz) HF.out o m ho3 hm3 hpz (Nat.le_refl _) (by unfold maxLen; omega) (fun k hk => .inr (by have : w1.heap.size = k := Option.some.inj hk; simp only [World.size_alloc]; omega)) er her tp htp)
      have Her := Lib.hid her
      have Htp := Lib.hid htp
      clear hkz hpz her htp
      go_wp2_with fail
      with_reducible refine (HP1.out _).mono ?_
      rintro e w' ⟨rfl, rfl⟩
      go_wp2_with fail
      with_reducible refine (HP2.out _).mono ?_
      rintro e w' ⟨rfl, rfl⟩
      go_wp2_with fail
      refine (HPut.out).mono ?_
      rintro e w3 ⟨s3, rfl, hs3, hf3, htop3, htk3, htd3, hk3⟩
      have HS3' := Lib.hid (hs3.sub (F' := F1) (fun k h => .inl h))
      have hk3' : Kp (fun k => ¬ F1 k) w1 w3 := Kp.trans ((Kp.refl _ w1).alloc (.cells (encB (zeros m)).toArray 5)) (hk3.mono (S' := fun k => ¬ F1 k) (fun k _ e h => e (.inl h)))
      have Hk3' := Lib.hid hk3'
      have Hxw3 := Lib.hid (hk3'.whole Hxw.out (fun h => h HF1x.out))
      have Hf3 := Lib.hid hf3
      have Htop3 := Lib.hid htop3
      have Htk3 := Lib.hid htk3
      have Htd3 := Lib.hid htd3
      clear hs3 hk3 hk3' hf3 htop3 htk3 htd3 HPut HS1 HP1 HP2 z1 z2 hmk hc3
      have hwr : IntKind.i64.wrap ((o : Int) + (m : Int)) = (o : Int) + (m : Int) := IntWalk.i64_in _ (by omega)
      have hadd : IntKind.i64.wrap ((s.top : Int) + ((tp : Int) - (s.top : Int))) = (tp : Int) := by rw [IntWalk.i64_in _ (by omega)]; omega
      go_upto_region 14 with (fail)
      go_cut [66] (fun v66 wx => v66 = .bool false ∧ wx = w3)
      case first =>
        have her := Her.out
        have htp := Htp.out
        clear Her Htp
        by_cases h1 : o + m ≤ s.told
        · rw [if_pos h1] at her
          have r1 : (o : Int) + (m : Int) ≤ (s.told : Int) := by omega
          clear h1 htp
          subst her
          go_wp2_with fail
          go_meet
          case rel => exact ⟨rfl, rfl⟩
        · rw [if_neg h1] at her
          rw [if_neg (fun h => h1 h.1)] at htp
          have r1 : ¬ (o : Int) + (m : Int) ≤ (s.told : Int) := by omega
          clear h1
          subst her
          have r2 : ((tp : Int) - (s.top : Int) != 0) = false := by simp; omega
          clear htp
          go_wp2_with fail
          go_meet
          case rel => exact ⟨rfl, rfl⟩
      case rest =>
      obtain ⟨rfl, rfl⟩ := hcut
      generalize wc = w3 at *
      obtain ⟨bP, hbP⟩ : ∃ bP, bP = decide (o + m ≤ s.told ∧ 0 < m) := ⟨_, rfl⟩
      have HbP := Lib.hid hbP
      clear hbP
      go_upto_region 17 with (fail)
      go_cut [75] (fun v75 wx => v75 = .bool bP ∧ wx = w3)
      case first =>
        have her := Her.out
        have hbP := HbP.out
        clear Her Htp HbP
        by_cases h1 : o + m ≤ s.told
        · rw [if_pos h1] at her
          by_cases h2 : 0 < m
          · rw [decide_eq_true (show o + m ≤ s.told ∧ 0 < m from ⟨h1, h2⟩)] at hbP
            have r2 : (0 : Int) < (m : Int) := by omega
            clear h1 h2
            subst her hbP
            go_wp2_with fail
            go_meet
            case rel => exact ⟨by first | rfl | (rw [decide_eq_true (show 0 < m by omega)]; done), rfl⟩
          · rw [decide_eq_false (show ¬ (o + m ≤ s.told ∧ 0 < m) from fun h => h2 h.2)] at hbP
            have r2 : ¬ (0 : Int) < (m : Int) := by omega
            clear h1 h2
            subst her hbP
            go_wp2_with fail
            go_meet
            case rel => exact ⟨by first | rfl | (rw [decide_eq_false (show ¬ 0 < m by omega)]; done), rfl⟩
        · rw [if_neg h1] at her
          rw [decide_eq_false (show ¬ (o + m ≤ s.told ∧ 0 < m) from fun h => h1 h.1)] at hbP
          clear h1
          subst her hbP
          go_wp2_with fail
          go_meet
          case rel => exact ⟨rfl, rfl⟩
      case rest =>
      obtain ⟨rfl, rfl⟩ := hcut
      generalize wc = w3 at *
      go_upto_if 75 with (fail)
      go_cut [5] (fun v5 wx => v5 = .int .i64 (tp : Int) ∧ wx = w3)
      case first =>
        have htp := Htp.out
        have hbP := HbP.out
        clear Her Htp HbP
        by_cases h1 : o + m ≤ s.told ∧ 0 < m
        · rw [decide_eq_true h1] at hbP
          rw [if_pos h1] at htp
          subst hbP
          clear h1
          by_cases h3 : s.top < o + m
          · have r1 : (s.top : Int) < (o : Int) + (m : Int) := by omega
            have r2 : ¬ (o : Int) + (m : Int) < (s.top : Int) := by omega
            have r3 : (tp : Int) = (o : Int) + (m : Int) := by omega
            have R3 := Lib.hid r3
            clear h3 htp r3
            go_wp2_with fail
            go_meet
            case rel => exact ⟨by rw [R3.out], rfl⟩
          · have r1 : ¬ (s.top : Int) < (o : Int) + (m : Int) := by omega
            have r3 : (tp : Int) = (s.top : Int) := by omega
            have R3 := Lib.hid r3
            clear h3 htp r3
            go_wp2_with fail
            go_meet
            case rel => exact ⟨by rw [R3.out], rfl⟩
        · rw [decide_eq_false h1] at hbP
          rw [if_neg h1] at htp
          have R3 := Lib.hid htp
          subst hbP
          clear h1 htp
          go_wp2_with fail
          go_meet
          case rel => exact ⟨by rw [R3.out], rfl⟩
      case rest =>
      obtain ⟨rfl, rfl⟩ := hcut
      generalize wc = w3 at *
      have z3' := Hxw3.out.cell 3
      have z4' := Hxw3.out.cell 4
      simp at z3' z4'
      have hxl3 := Hxw3.out.lt
      have HTk := Lib.hid (fr_take HS3'.out Hf3.out q (by omega))
      clear z3 z4 Her Htp HbP hadd hwr
      go_wp2_with fail
      with_reducible refine (HP3.out _).mono ?_
      rintro e w' ⟨rfl, rfl⟩
      go_wp2_with fail
      with_reducible refine (HTk.out).mono ?_
      rintro e w4 ⟨vr, s4, nn, ov, cd, rfl, ⟨Ar, cr, rfl⟩, hs4, hf4, htop4, htk4, htd4, hk4⟩
      have Hs4 := Lib.hid hs4
      have Hf4 := Lib.hid hf4
      have htk5 : s4.taken = s.taken + nn := by rw [htk4, Htk3.out]
      have htop5 : s4.top = tp := by rw [htop4, Htop3.out]
      have ht479 : s4.taken ≤ 479 := Nat.le_trans hs4.ok.taken hf4.len
      have Hk4 := Lib.hid (Hk3'.out.trans hk4)
      have Hxw4 := Lib.hid (hk4.whole Hxw3.out (fun h => h HF1x.out))
      have hwt : IntKind.i64.wrap ((s.taken : Int) + (nn : Int)) = (s4.taken : Int) := by rw [IntWalk.i64_in _ (by omega)]; omega
      have hrd4 := hs4.ok.rd
      obtain ⟨bd, hbd⟩ : ∃ bd, bd = decide ((s4.told : Int) + 200 ≤ (s4.rd : Int) + 400) := ⟨_, rfl⟩
      have hD := h_due hs4 bd hbd
      rw [hrd4] at hD hbd
      have HD := Lib.hid hD
      have Hbd := Lib.hid hbd
      have Htop5 := Lib.hid htop5
      clear hs4 hf4 htop4 htk4 htd4 hk4 htk5 hD hbd htop5 HTk HS3' Hf3 Htop3 Htk3 Htd3 Hk3' z3' z4' hxl3 HP3 hrd4
      go_wp2_with fail
      with_reducible refine (HD.out).mono ?_
      rintro e w5 ⟨rfl, hk5⟩
      have Hs5 := Lib.hid (Hs4.out.no hk5)
      have Hk5 := Lib.hid (Hk4.out.trans hk5.no)
      have Hxw5 := Lib.hid (hk5.whole Hxw4.out (fun h => h))
      clear hk5 HD Hs4 Hk4 Hxw4
      have hc3 := (h_cells Hs5.out).2.1
      have hgl5 := Hs5.out.lt.1
      have ht6 := Hs5.out.ok.told
      have hws : IntKind.i64.wrap ((s4.taken : Int) + 400 - (s4.told : Int)) = (s4.taken : Int) + 400 - (s4.told : Int) := IntWalk.i64_in _ (by omega)
      have hwa : IntKind.i64.wrap ((s4.taken : Int) + 400) = (s4.taken : Int) + 400 := IntWalk.i64_in _ (by omega)
      go_upto_region 22 with (fail)
      go_cut [116] (fun v116 wx => v116 = .bool false ∧ wx = w5)
      case first =>
        have hbd := Hbd.out
        clear Hbd
        by_cases h1 : (s4.told : Int) + 200 ≤ (s4.taken : Int) + 400
        · rw [decide_eq_true h1] at hbd
          have r1 : (200 : Int) ≤ (s4.taken : Int) + 400 - (s4.told : Int) := by omega
          clear h1
          subst hbd
          go_wp2_with fail
          go_meet
          case rel => exact ⟨rfl, rfl⟩
        · rw [decide_eq_false h1] at hbd
          have r1 : ¬ (200 : Int) ≤ (s4.taken : Int) + 400 - (s4.told : Int) := by omega
          clear h1
          subst hbd
          go_wp2_with fail
          go_meet
          case rel => exact ⟨rfl, rfl⟩
      case rest =>
      obtain ⟨rfl, rfl⟩ := hcut
      generalize wc = w5 at *
      have z4' := Hxw5.out.cell 4
      simp at z4'
      have hxl5 := Hxw5.out.lt
      go_upto_region 24 with (fail)
      go_cut [127] (fun v127 wx => v127 = .bool false ∧ ∃ s6, Hid (HasSt wx F1 g s6) ∧ Hid (Fr s6) ∧ Hid (s6.top = s4.top) ∧ Hid (s6.taken = s4.taken) ∧ Hid (Kp (fun k => ¬ F1 k) w5 wx))
      case first =>
        cases y4 with
        | true =>
          have htd := Hf4.out.told
          have hT := h_tell Hs5.out (s4.taken + 400) (by have := Hs5.out.ok.rd; omega) (by omega)
          rw [show ((s4.taken + 400 : Nat) : Int) = (s4.taken : Int) + 400 by omega] at hT
          have HT := Lib.hid hT
          clear hT htd
          go_wp2_with fail
          with_reducible refine (HT.out).mono ?_
          rintro e w6 ⟨rfl, hs6, hk6⟩
          have Hs6 := Lib.hid hs6
          have Hk6 := Lib.hid hk6
          clear hs6 hk6
          go_wp2_with fail
          go_meet
          case rel => exact ⟨rfl, _, Hs6, Lib.hid ⟨Hf4.out.ended, Hf4.out.broken, Hf4.out.top, Hf4.out.len, Nat.le_refl _⟩, Lib.hid rfl, Lib.hid rfl, Hk6⟩
        | false =>
          go_wp2_with fail
          go_meet
          case rel => exact ⟨rfl, s4, Hs5, Hf4, Lib.hid rfl, Lib.hid rfl, Lib.hid (Kp.refl _ _)⟩
      case rest =>
      obtain ⟨rfl, s6, Hs6, Hf6, Htop6, Htk6, Hk6⟩ := hcut
      generalize wc = w6 at *
      have hT := h_top Hs6.out
      rw [Htop6.out, Htop5.out] at hT
      have HT := Lib.hid hT
      have hR := h_rest Hs6.out
      rw [Htop6.out, Htop5.out, Htk6.out] at hR
      have HR := Lib.hid hR
      have hc2 := (h_cells Hs6.out).1
      rw [Hs6.out.ok.rd, Htk6.out] at hc2
      have hgl6 := Hs6.out.lt.1
      have hwq : IntKind.i64.wrap ((tp : Int) - (s4.taken : Int)) = (tp : Int) - (s4.taken : Int) := IntWalk.i64_in _ (by omega)
      clear hT hR hc3 z4'
      go_wp2_with fail
      with_reducible refine (HT.out).mono ?_
      rintro e w' ⟨rfl, rfl⟩
      go_wp2_with fail
      with_reducible refine (HR.out).mono ?_
      rintro e w7 ⟨rfl, hk7⟩
      have Hs7 := Lib.hid (Hs6.out.no hk7)
      have Hk7 := Lib.hid ((Hk5.out.trans Hk6.out).trans hk7.no)
      clear hk7 hc2 HT HR
      go_wp2_with fail
      go_roundw
      case rel => exact ⟨i + 1, s6, by omega, by go_num, by rw [Htop6.out, Htop5.out], by rw [Htop6.out, Htop5.out], by rw [Htk6.out], Lib.hid (Hs7.out.sub (fun k h => HF1.out k h)), Hf6, Hk1.out.trans (Hk7.out.mono (S' := fun k => ¬ k < W.heap.size) (fun k _ e h => e (HF1.out k h)))⟩
      case measure => simp [intOf]; omega
    · obtain rfl : i = len := by omega
      have t0 : ¬ (i : Int) < (i : Int) := by omega
      go_wp2_with fail
      go_ret
      exact ⟨rfl, (Hkp.out.mono (S' := fun k => W.heap.size ≤ k) (fun k _ e => by omega)).below (Nat.le_refl _) (fun k h => h)⟩
end Go.Proofs.Ytbkpapdbidbhaaa

/-
  The walk of 'LedgerLate'.
-/
import Derived.Test.YtelhnhnbfjamhaaLateP
namespace Go.Proofs.Ytelhnhnbfjamhaa
open Go.RowKit

theorem pick_natL (n m : Int) (w : World) (hm : 1 ≤ m) (hm2 : m ≤ 1152921504606846976) :
    Calls Try.prog 13 #[.int .i64 n, .int .i64 m] w fun e w' => ∃ i : Nat, (i : Int) < m ∧ e = .returned (.int .i64 (i : Int)) ∧ w = w' := by
  refine (pick_any n m w hm hm2).mono ?_
  rintro e w' ⟨rfl, rfl⟩
  exact ⟨(pickF n m).toNat, by have := pickF_hi n m hm; have := pickF_lo n m hm; omega, by rw [Int.toNat_of_nonneg (pickF_lo n m hm)], rfl⟩

set_option maxRecDepth 100000 in
set_option maxHeartbeats 2000000 in
theorem LedgerLate_any (x0 : Int) (_l0 : -9223372036854775808 ≤ x0) (_h0 : x0 ≤ 9223372036854775807) (x1 : Int) (_l1 : -9223372036854775808 ≤ x1) (_h1 : x1 ≤ 9223372036854775807) (x2 : Int) (_l2 : -9223372036854775808 ≤ x2) (_h2 : x2 ≤ 9223372036854775807) (x3 : Int) (_l3 : -9223372036854775808 ≤ x3) (_h3 : x3 ≤ 9223372036854775807) (W : World) :
    Calls Try.prog 11 #[.int .i64 x0, .int .i64 x1, .int .i64 x2, .int .i64 x3] W fun e w' => e = .returned (.bool true) ∧ Below W.heap.size W w' := by
  go_enter Try.func11, Try.ntmps11
  go_wp2_with fail
  with_reducible refine (pick_natL _ _ _ (by omega) (by omega)).mono ?_
  rintro e w' ⟨p, hp, rfl, rfl⟩
  go_wp2_with fail
  obtain ⟨n, hn⟩ : ∃ n : Nat, (4 : Int) + (p : Int) = (n : Int) := ⟨4 + p, by omega⟩
  rw [hn]
  have hn4 : 4 ≤ n := by omega
  have hn33 : n ≤ 33 := by omega
  clear hn hp
  with_reducible refine (pick_natL _ _ _ (by omega) (by omega)).mono ?_
  rintro e w' ⟨a, ha, rfl, rfl⟩
  go_wp2_with fail
  with_reducible refine (pick_natL _ _ _ (by omega) (by omega)).mono ?_
  rintro e w' ⟨nw, hnw, rfl, rfl⟩
  go_wp2_with fail
  with_reducible refine (pick_natL _ _ _ (by omega) (by omega)).mono ?_
  rintro e w' ⟨p, hp, rfl, rfl⟩
  go_upto_region 6 with (fail)
  obtain ⟨L, hL⟩ : ∃ L : Nat, (1 : Int) + (p : Int) = (L : Int) := ⟨1 + p, by omega⟩
  rw [hL]
  have hL1 : 1 ≤ L := by omega
  have hL30 : L ≤ 30 := by omega
  clear hL hp
  have h0 : LAt (W.alloc (.cells #[.slice none 0 0, .int .i64 0, .int .i64 0] 76)) W.heap.size W.heap.size (.slice none 0 0) [] 0 0 := LAt.new W _
  have hk0 : Kp (fun k => W.heap.size ≤ k) W (W.alloc (.cells #[.slice none 0 0, .int .i64 0, .int .i64 0] 76)) := (Kp.refl _ W).alloc _
  generalize W.alloc (.cells #[.slice none 0 0, .int .i64 0, .int .i64 0] 76) = w0 at h0 hk0 ⊢
  obtain ⟨l, hl⟩ : ∃ l, l = W.heap.size := ⟨_, rfl⟩
  have hlW : W.heap.size ≤ l := by omega
  rw [← hl]
  have h0 : LAt w0 l W.heap.size (.slice none 0 0) [] 0 0 := by rw [hl]; exact h0
  clear hl
  have H0 := Lib.hid h0
  have Hk0 := Lib.hid hk0
  clear h0 hk0
  go_wp2_with fail
  go_loopw [10] (fun vi wr => ∃ (i : Nat) (v : Value), i ≤ n ∧ vi = .int .i64 i ∧ LAt wr l W.heap.size v (seqS i) i 0 ∧ Kp (fun k => W.heap.size ≤ k) W wr)
    (fun vi _ => n - (intOf vi).toNat)
  case atStart => exact ⟨0, _, by omega, rfl, H0.out, Hk0.out⟩
  case round =>
    obtain ⟨i, v, hin, rfl, hla, hkp⟩ := hrel
    have Hla := Lib.hid hla
    have Hkp := Lib.hid hkp
    clear hla hkp
    by_cases hlt : i < n
    · have hka : Kp (fun _ => False) wr (wr.alloc (.cells #[.int .i64 (i : Int), .int .i64 (i : Int), .bool true, .slice none 0 0] 80)) := (Kp.refl _ wr).alloc _
      have hrl := Hla.out.row.lt
      have hP := l_put (Hla.out.kp hka (fun h => h) (fun _ _ h => h)) (Nat.le_trans Hkp.out.size hka.size) (.slice (some ⟨wr.heap.size, 0, none⟩) 1 1) [((i : Int), (i : Int), true)] (by rw [show encs encS [((i : Int), (i : Int), true)] = encS ((i : Int), (i : Int), true) by simp [encs]]; exact srcW _ (Whole.new _ _ _) rfl (fun u hu => by simp [encS] at hu; rcases hu with rfl | rfl | rfl | rfl <;> rfl)) (fun k hk hs => by
        have hk' : wr.heap.size = k := Option.some.inj hk
        rcases hs with hs | hs
        · have := Hla.out.cell.lt; omega
        · have := (hrl k hs).2; omega) (fun j y hj => by
        match j, hj with
        | 0, hj => cases hj; simp
        | j + 1, hj => simp at hj) (by omega) (by simp; omega) (by rw [seqS_len]; simp; omega)
      have HP := Lib.hid hP
      have Hka := Lib.hid hka
      clear hka hP
      go_wp2_with fail
      with_reducible refine (HP.out).mono ?_
      rintro e w1 ⟨rfl, v1, hl1, hk1, _⟩
      rw [← seqS_snoc] at hl1
      have hkw : Kp (fun k => W.heap.size ≤ k) W w1 := (Hkp.out.trans Hka.out.no).trans (hk1.mono (fun k _ hs => by
        rcases hs with hs | hs
        · omega
        · exact (hrl k hs).1))
      have Hl1 := Lib.hid hl1
      have Hkw := Lib.hid hkw
      clear hl1 hk1 hkw hrl
      go_wp2_with fail
      go_roundw
      case rel => exact ⟨i + 1, v1, by omega, by go_num, Hl1.out, Hkw.out⟩
      case measure => simp [intOf]; omega
    · obtain rfl : i = n := by omega
      clear hlt hin H0 Hk0
      have hka : Kp (fun _ => False) wr (wr.alloc (.cells #[.int .i64 (a : Int), .int .i64 (a : Int)] 84)) := (Kp.refl _ wr).alloc _
      have hA := l_ack (Hla.out.kp hka (fun h => h) (fun _ _ h => h)) (Nat.le_trans Hkp.out.size hka.size) (A := some ⟨wr.heap.size, 0, none⟩) (c := 1) (rs := [((a : Int), (a : Int))]) (src_run ((a : Int), (a : Int)) (Whole.new _ _ _)) (fun k hk e => by
        have h1 : wr.heap.size = k := Option.some.inj hk
        have h2 := Hla.out.cell.lt
        omega) (by simp) (by simp [overP]; omega) (by omega) (by omega) (by omega) (by rw [seqS_len]; omega)
      rw [show ([((a : Int), (a : Int))] : List Pr).length = 1 from rfl, show topR 0 [((a : Int), (a : Int))] = (a : Int) + 1 by simp [topR]; omega] at hA
      have HA := Lib.hid hA
      have Hka := Lib.hid hka
      have hlw := Hla.out.cell.lt
      clear hA hka
      go_wp2_with fail
      with_reducible refine (HA.out).mono ?_
      rintro e w2 ⟨r, W1, rfl, hk1, A1, v1, rfl, _, hl2, hk2, _⟩
      generalize (List.filter (hitS [((a : Int), (a : Int))]) (seqS i)).length = gn at *
      have hl2 : LAt w2 l W.heap.size v1 (leftS i a) i ((a : Int) + 1) := hl2
      have hkw : Kp (fun k => W.heap.size ≤ k) W w2 := (Hkp.out.trans Hka.out.no).trans ((hk1.mono (fun k _ e => by omega)).trans (hk2.mono (fun k _ e => by omega)))
      have hLs := l_lose hl2 hkw.size (nw : Int) (L : Int) (by omega) (by omega) (by omega) (by rw [leftS_len (by omega)]; omega)
      have HL := Lib.hid hLs
      have Hkw := Lib.hid hkw
      have Hl2 := Lib.hid hl2
      have hlw2 := hl2.cell.lt
      clear hl2 hkw hLs hk1 hk2 HA
      go_wp2_with fail
      with_reducible refine (HL.out).mono ?_
      rintro e w3 ⟨r, W2, rfl, hk3, A3, v3, rfl, hrow, hl3, hk4, _⟩
      have hkw3 : Kp (fun k => W.heap.size ≤ k) W w3 := Hkw.out.trans (hk3.no.trans (hk4.mono (fun k _ e => by omega)))
      have hW2 := hk3.size
      obtain ⟨xs, hxs⟩ : ∃ xs, xs = (leftS i a).filter (lostS ((a : Int) + 1) nw L) := ⟨_, rfl⟩
      rw [← hxs] at hrow ⊢
      have Hxs := Lib.hid hxs
      have Hrow := Lib.hid hrow
      have Hl3 := Lib.hid hl3
      have Hkw3 := Lib.hid hkw3
      clear hxs hrow hl3 hk4 hkw3 hk3 HL
      generalize hxn : xs.length = xn at *
      have Hxn := Lib.hid hxn
      have hxi : xn ≤ 33 := by
        have h1 := List.length_filter_le (lostS ((a : Int) + 1) nw L) (leftS i a)
        rw [← Hxs.out, hxn, leftS_len (by omega)] at h1
        omega
      clear hxn
      have hmk := make_had i (by omega)
      go_upto_region 15 with (fail)
      clear hmk
      have hka3 : Kp (fun _ => False) w3 (w3.alloc (.cells (hadL i []).toArray 4)) := (Kp.refl _ w3).alloc _
      have hwd : Whole (w3.alloc (.cells (hadL i []).toArray 4)) w3.heap.size 4 (hadL i []).toArray := Whole.new _ _ _
      generalize w3.alloc (.cells (hadL i []).toArray 4) = w4 at hka3 hwd ⊢
      obtain ⟨hb, hhb⟩ : ∃ hb, hb = w3.heap.size := ⟨_, rfl⟩
      rw [← hhb] at hwd ⊢
      have Hka3 := Lib.hid hka3
      have Hwd := Lib.hid hwd
      have Hhb := Lib.hid hhb
      have hbl := hwd.lt
      clear hka3 hwd hhb
      go_wp2_with fail
      go_loopw [59] (fun vi wr => ∃ j : Nat, j ≤ xn ∧ vi = .int .i64 j ∧ Whole wr hb 4 (hadL i (xs.take j)).toArray ∧ Kp (fun k => k = hb) w4 wr)
        (fun vi _ => xn - (intOf vi).toNat)
      case atStart => exact ⟨0, by omega, rfl, Hwd.out, Kp.refl _ _⟩
      case round =>
        obtain ⟨j, hjx, rfl, hwh, hkp⟩ := hrel
        by_cases hjlt : j < xn
        · have hr4 := Hrow.out.kp Hka3.out (fun _ _ h => h)
          obtain ⟨b, off, c', hv, _, hbw, _, _, _, hcell⟩ := hr4.full (by omega)
          cases hv
          obtain ⟨z, hzi⟩ : ∃ z, xs[j]? = some z := ⟨_, List.getElem?_eq_getElem (by rw [Hxn.out]; exact hjlt)⟩
          have hbne : b ≠ hb := by have := (Hrow.out.lt b rfl).2; have := Hhb.out; omega
          have e0 := hcell (j * 4) _ (ss0 hzi)
          have e1 := hcell (j * 4 + 1) _ (ss1 hzi)
          have e2 := hcell (j * 4 + 2) _ (ss2 hzi)
          have e3 := hcell (j * 4 + 3) _ (ss3 hzi)
          rw [← hkp.cell (p := ⟨b, _, none⟩) hbw hbne] at e0 e1 e2 e3
          rw [← Nat.add_assoc] at e1 e2 e3
          obtain ⟨k, hki, rfl⟩ := lost_mem (by rw [← Hxs.out]; exact List.mem_of_getElem? hzi)
          have hgr := Nat.lt_of_lt_of_le hbw hkp.size
          have d0 := hwh.cell k
          rw [hadL_at hki] at d0
          have d1 := hwh.frozen k
          have d2 := hwh.lt
          have Hzi := Lib.hid hzi
          have Hwh := Lib.hid hwh
          have Hkp2 := Lib.hid hkp
          have hneg : ¬ ((k : Int) < 0) := by omega
          have hlt2 : ¬ ((i : Int) ≤ (k : Int)) := by omega
          dsimp only at e0 e1 e2 e3
          generalize (xs.take j).any (fun y => y.1 == (k : Int)) = hbit at d0
          clear hcell hr4 hzi hwh hkp
          go_wp2_with fail
          go_roundw
          case rel =>
            refine ⟨j + 1, by omega, by go_num, ?_, ?_⟩
            · rw [show xs.take (j + 1) = xs.take j ++ [((k : Int), (k : Int), true)] from takeS Hzi.out, ← hadL_set (xs.take j) ((k : Int), (k : Int), true) rfl]
              exact (Hwh.out.set k _).alloc _
            · exact (Kp.set (S := fun k => k = hb) Hkp2.out (p := ⟨hb, k, none⟩) (.inl rfl) _).alloc _
          case measure => simp [intOf]; omega
        · obtain rfl : j = xn := by omega
          have hta : xs.take j = xs := List.take_of_length_le (by rw [Hxn.out]; omega)
          rw [hta] at hwh
          have Hwh := Lib.hid hwh
          have hs3 := Hka3.out.size
          have hl5 : LAt wr l W.heap.size v3 _ i ((a : Int) + 1) := (Hl3.out.kp Hka3.out (fun h => h) (fun _ _ h => h)).kp hkp (fun e => by have := Hl3.out.cell.lt; have := Hhb.out; omega) (fun k hk e => by have := (Hl3.out.row.lt k hk).2; have := Hhb.out; omega)
          have hkw5 : Kp (fun k => W.heap.size ≤ k) W wr := (Hkw3.out.trans Hka3.out.no).trans (hkp.mono (fun k _ e => by have := Hhb.out; have := Hkw3.out.size; omega))
          have Hl5 := Lib.hid hl5
          have Hkw5 := Lib.hid hkw5
          clear hwh hkp hl5 hkw5 hta
          generalize wr = w5 at *
          go_wp2_with fail
          go_loopw [17] (fun vi wr => ∃ k : Nat, k ≤ i ∧ vi = .int .i64 k ∧ wr = w5) (fun vi _ => i - (intOf vi).toNat)
          case atStart => exact ⟨0, by omega, rfl, rfl⟩
          case round =>
            obtain ⟨k, hki, rfl, hw5⟩ := hrel
            subst hw5
            by_cases hk2 : k < i
            · have d0 := Hwh.out.cell k
              rw [hadL_at hk2, Hxs.out, lost_any hk2] at d0
              have d2 := Hwh.out.lt
              by_cases t1 : (k : Int) < (a : Int)
              · by_cases t2 : 3 ≤ (a : Int) - (k : Int)
                · rw [show lostS ((a : Int) + 1) nw L ((k : Int), (k : Int), true) = true by simp only [lostS]; rw [decide_eq_true (show (k : Int) < (a : Int) + 1 - 1 by omega), decide_eq_true (show (k : Int) ≤ (a : Int) + 1 - 1 - 3 by omega)]; rfl] at d0
                  go_wp2_with fail
                  go_roundw
                  case rel => exact ⟨k + 1, by omega, by go_num, trivial⟩
                  case measure => simp [intOf]; omega
                · by_cases t3 : (k : Int) ≤ (nw : Int) - (L : Int)
                  · rw [show lostS ((a : Int) + 1) nw L ((k : Int), (k : Int), true) = true by simp only [lostS]; rw [decide_eq_true (show (k : Int) < (a : Int) + 1 - 1 by omega), decide_eq_true t3, Bool.or_true]; rfl] at d0
                    go_wp2_with fail
                    go_roundw
                    case rel => exact ⟨k + 1, by omega, by go_num, trivial⟩
                    case measure => simp [intOf]; omega
                  · rw [show lostS ((a : Int) + 1) nw L ((k : Int), (k : Int), true) = false by simp only [lostS]; rw [decide_eq_false (show ¬ (k : Int) ≤ (a : Int) + 1 - 1 - 3 by omega), decide_eq_false t3, Bool.or_false, Bool.and_false]] at d0
                    go_wp2_with fail
                    go_roundw
                    case rel => exact ⟨k + 1, by omega, by go_num, trivial⟩
                    case measure => simp [intOf]; omega
              · rw [show lostS ((a : Int) + 1) nw L ((k : Int), (k : Int), true) = false by simp only [lostS]; rw [decide_eq_false (show ¬ (k : Int) < (a : Int) + 1 - 1 by omega), Bool.false_and]] at d0
                go_wp2_with fail
                go_roundw
                case rel => exact ⟨k + 1, by omega, by go_num, trivial⟩
                case measure => simp [intOf]; omega
            · obtain rfl : k = i := by omega
              obtain ⟨ys, hys⟩ : ∃ ys, ys = (leftS k a).filter (fun z => !lostS ((a : Int) + 1) nw L z) := ⟨_, rfl⟩
              have hyl : j + ys.length = k - 1 := by
                have := parts_len (lostS ((a : Int) + 1) nw L) (leftS k a)
                rw [leftS_len (by omega), ← Hxs.out, ← hys, Hxn.out] at this
                exact this
              have hl5 := Hl5.out
              rw [← hys] at hl5
              have hLs := l_lose hl5 Hkw5.out.size (nw : Int) (L : Int) (by omega) (by omega) (by omega) (by omega)
              have h1 : ys.filter (lostS ((a : Int) + 1) nw L) = [] := by rw [hys]; exact again_nil _ _
              have h2 : (ys.filter fun z => !lostS ((a : Int) + 1) nw L z) = ys := by rw [hys]; exact again_id _ _
              have h3 : (ys.filter fun z => z.2.2) = ys := by rw [hys]; exact left_all _
              have HL := Lib.hid hLs
              have H1 := Lib.hid h1
              have H2 := Lib.hid h2
              have H3 := Lib.hid h3
              have hl5l := hl5.cell.lt
              clear hLs h1 h2 h3 hys hl5
              go_wp2_with fail
              with_reducible refine (HL.out).mono ?_
              rintro e w6 ⟨r, W6, rfl, hk6, A6, v6, rfl, _, hl6, hk7, _⟩
              rw [H1.out]
              rw [H2.out] at hl6
              have hkw6 : Kp (fun k => W.heap.size ≤ k) W w6 := Hkw5.out.trans (hk6.no.trans (hk7.mono (fun k _ e => by omega)))
              have Hl6 := Lib.hid hl6
              have Hkw6 := Lib.hid hkw6
              clear hl6 hkw6 hk6 hk7 HL
              go_wp2_with fail
              with_reducible refine (known_l _).mono ?_
              rintro e w7 ⟨rfl, hb7⟩
              have hk7 : Kp (fun _ => False) w6 w7 := ⟨hb7.os, hb7.tape, hb7.output, hb7.size, fun k hk' _ => hb7.block k hk'⟩
              have hF := l_flight (Hl6.out.kp hk7 (fun h => h) (fun _ _ h => h)) (by omega)
              rw [H3.out] at hF
              have HF := Lib.hid hF
              have Hk7 := Lib.hid hk7
              clear hF hk7 hb7
              generalize ys.length = yn at *
              go_wp2_with fail
              with_reducible refine (HF.out).mono ?_
              rintro e w8 ⟨rfl, hk8⟩
              have Hk8 := Lib.hid hk8
              clear hk8
              have hq : (yn : Int) = (k : Int) - 1 - (j : Int) := by omega
              go_wp2_with fail
              go_ret
              exact ⟨rfl, ((Hkw6.out.trans Hk7.out.no).trans Hk8.out.no).below (Nat.le_refl _) (fun k hk => hk)⟩
end Go.Proofs.Ytelhnhnbfjamhaa

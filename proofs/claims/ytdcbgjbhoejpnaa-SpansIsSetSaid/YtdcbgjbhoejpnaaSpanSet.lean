/-
  argosylaw3: SpansIsSet.
-/
import Derived.Test.YtdcbgjbhoejpnaaSpanM
import Derived.Deep.RegionHeld3
import Derived.Deep.DeepCutAuto
namespace Go.Proofs.Ytdcbgjbhoejpnaa
open Go.RowKit

theorem kk1 {w w' w3 : World} {b i : Nat} {a : Value} (_hs : b < w3.heap.size) (qs : w3.cell? ⟨b, i, none⟩ = some a) (h3 : Kp (fun _ => False) w w3) (h : Kp (fun _ => False) w w') (hb : b < w.heap.size := by assumption) :
    w'.cell? ⟨b, i, none⟩ = some a ∧ Kp (fun _ => False) w w' :=
  ⟨by rw [h.cell (p := ⟨b, i, none⟩) hb (fun h => h), ← h3.cell (p := ⟨b, i, none⟩) hb (fun h => h)]; exact qs, h⟩
theorem count_law {L : List Pr} {bs : List Bool} (h : NormL ((70 : Nat) : Int) L) (hI : ∀ n : Nat, InL L n ↔ bs[n]? = some true) : countL L = (insN bs 0 70 : Nat) := by
  rw [count_is L h, insN_is, cB_congr (q := fun n => bs[0 + n]? == some true) 70 (fun n _ => by rw [Bool.eq_iff_iff, has_iff, hI n, Nat.zero_add]; simp)]
theorem fill_law {L T : List Pr} {bs : List Bool} {a b : Nat} (hT : NormL ((70 : Nat) : Int) T) (hI : ∀ n : Nat, InL L n ↔ bs[n]? = some true) (hb : b ≤ 70)
    (hTI : ∀ n : Int, InL T n ↔ InL L n ∨ ((a : Int) ≤ n ∧ n < b ∧ ¬ InL L n)) : ∃ d : Nat, countL T = (d : Int) ∧ (a < b → d + insN bs a (b - a) = insN bs 0 70 + (b - a)) := by
  refine ⟨_, count_is T hT, fun hab => ?_⟩
  have e1 := cB_congr (p := fun n => T.any (hasP (n : Int))) (q := fun n => (bs[n]? == some true) || (decide (a ≤ n) && decide (n < a + (b - a)))) 70 (fun n _ => by
    rw [Bool.eq_iff_iff, has_iff, hTI n, hI n]
    simp only [Bool.or_eq_true, beq_iff_eq, Bool.and_eq_true, decide_eq_true_eq]
    constructor
    · rintro (h | ⟨h1, h2, _⟩)
      · exact .inl h
      · exact .inr (by omega)
    · rintro (h | h)
      · exact .inl h
      · by_cases hn : bs[n]? = some true
        · exact .inl hn
        · exact .inr ⟨by omega, by omega, hn⟩)
  have e2 := cB_fill (fun n => bs[n]? == some true) a (b - a) 70
  rw [Nat.min_eq_left (show a + (b - a) ≤ 70 by omega), Nat.min_eq_left (show a ≤ 70 by omega)] at e2
  have e3 := cB_from (fun n => bs[n]? == some true) a (b - a)
  have e4 : insN bs 0 70 = cB (fun n => bs[n]? == some true) 70 := by rw [insN_is]; exact cB_congr _ (fun n _ => by rw [Nat.zero_add])
  rw [e1, e4, insN_is]
  omega
theorem zeroB (w : World) : (zeroValue 40).run Try.prog w = .ok (.agg (bools (List.replicate 70 false))) w := by
  have h : (Try.prog.info? 40).map (·.zero) = some (some (.agg (bools (List.replicate 70 false)))) := by kernel_rfl
  cases hi : Try.prog.info? 40 with
  | none => rw [hi] at h; cases h
  | some i =>
    rw [hi] at h
    have hz : i.zero = some (.agg (bools (List.replicate 70 false))) := Option.some.inj h
    simp [zeroValue, typeInfo, hi, hz]

set_option maxRecDepth 100000 in
set_option maxHeartbeats 4000000 in
theorem SpansIsSet_any (W : World) (v : Value) (hv : SlArg 23 W v) (x1 : Int) (_l1 : -9223372036854775808 ≤ x1) (_h1 : x1 ≤ 9223372036854775807) (x2 : Int) (_l2 : -9223372036854775808 ≤ x2) (_h2 : x2 ≤ 9223372036854775807) :
    Calls Try.prog 4 #[v, .int .i64 x1, .int .i64 x2] W fun e w' => e = .returned (.bool true) ∧ Below W.heap.size W w' := by
  obtain ⟨b0, hb0⟩ : ∃ b0 : List Bool, b0 = List.replicate 70 false := ⟨_, rfl⟩
  obtain ⟨A, len, cap, rfl, hlc, hcm, hreach, hcells⟩ := rawS_rd hv
  unfold maxLen at hcm
  unfold reachBytes at hreach
  have Hc := Lib.hid hcells
  clear hcells hv
  have hS0 : HasSet ((W.alloc (.cells #[.slice none 0 0] 27)).alloc (.cells (bools b0) 40)) W.heap.size [] := (HasSet.new W).no ((Kp.refl _ _).alloc _)
  have hB0 : Whole ((W.alloc (.cells #[.slice none 0 0] 27)).alloc (.cells (bools b0) 40)) (W.heap.size + 1) 40 (bools b0) := whole_at _ _ rfl (by simp)
  have hk0 : Kp (fun _ => False) W ((W.alloc (.cells #[.slice none 0 0] 27)).alloc (.cells (bools b0) 40)) := ((Kp.refl _ W).alloc _).alloc _
  have hzb := fun w => zeroB w
  simp only [← hb0] at hzb
  have Hb0 := Lib.hid hb0
  clear hb0
  go_enter Try.func4, Try.ntmps4
  go_upto_region 3 with (fail)
  generalize (W.alloc (.cells #[.slice none 0 0] 27)).alloc (.cells (bools b0) 40) = w1 at *
  have HS1 := Lib.hid hS0
  have HB1 := Lib.hid hB0
  have HK1 := Lib.hid hk0
  clear hS0 hB0 hk0 hzb
  obtain ⟨s, hs⟩ : ∃ s, s = W.heap.size := ⟨_, rfl⟩
  obtain ⟨ib, hib⟩ : ∃ ib, ib = W.heap.size + 1 := ⟨_, rfl⟩
  rw [← hs] at HS1
  rw [← hib] at HB1
  rw [← hib, ← hs]
  have hne : s ≠ ib := by omega
  have hsW : W.heap.size ≤ s := by omega
  have hibW : W.heap.size ≤ ib := by omega
  clear hs hib
  go_wp2_with fail
  go_loopw [27] (fun vi wr => ∃ (k : Nat) (L : List Pr) (bs : List Bool), k ≤ len ∧ vi = .int .i64 k ∧ Hid (bs.length = 70) ∧ Hid (HasSet wr s L) ∧ Hid (Whole wr ib 40 (bools bs)) ∧ Hid (NormL ((70 : Nat) : Int) L) ∧ Hid (∀ n : Nat, InL L n ↔ bs[n]? = some true) ∧ Hid (∀ n, InL L n → 0 ≤ n ∧ n < 70) ∧ Kp (fun _ => False) W wr)
    (fun vi _ => len - (intOf vi).toNat)
  case atStart => exact ⟨0, [], b0, by omega, rfl, Lib.hid (by rw [Hb0.out]; simp), HS1, HB1, Lib.hid (NormL.nil _), Lib.hid (fun n => ⟨fun h => absurd h (inl_nil _), fun h => absurd h (by rw [Hb0.out, List.getElem?_replicate]; split <;> simp)⟩), Lib.hid (fun n h => absurd h (inl_nil _)), HK1.out⟩
  case round =>
    obtain ⟨k, L, bs, hk, rfl, Hbl, HS, HB, HN, HI, HR, hkp⟩ := hrel
    by_cases hlt : k < len
    · rcases Hc.out with h0 | ⟨blk, off, rfl, hbl, hcell⟩
      · omega
      · obtain ⟨u0, hu0, y0, rfl, l0, g0⟩ := hcell k hlt 0 RdI rfl
        obtain ⟨u1, hu1, y1, rfl, l1, g1⟩ := hcell k hlt 1 RdI rfl
        obtain ⟨u2, hu2, y2, rfl, l2, g2⟩ := hcell k hlt 2 RdI rfl
        clear hcell
        rw [← hkp.cell (p := ⟨blk, _, none⟩) hbl (fun h => h)] at hu0 hu1 hu2
        simp only [List.length_cons, List.length_nil, Nat.zero_add, Nat.add_zero, Nat.reduceAdd] at hu0 hu1 hu2
        have hS5 := HS.out.no ((Kp.refl (fun _ => False) wr).alloc (.cells #[.int .i64 y0, .int .i64 y1, .int .i64 y2] 33))
        have hB5 := HB.out.alloc (.cells #[.int .i64 y0, .int .i64 y1, .int .i64 y2] 33)
        have hX5 : Whole (wr.alloc (.cells #[.int .i64 y0, .int .i64 y1, .int .i64 y2] 33)) wr.heap.size 33 #[.int .i64 y0, .int .i64 y1, .int .i64 y2] := Whole.new _ _ _
        have hk5 := hkp.alloc (.cells #[.int .i64 y0, .int .i64 y1, .int .i64 y2] 33)
        have hblr := Nat.lt_of_lt_of_le hbl hkp.size
        go_upto_region 6 with (fail)
        generalize wr.alloc (.cells #[.int .i64 y0, .int .i64 y1, .int .i64 y2] 33) = w5 at *
        generalize wr.heap.size = bx at *
        have c0 := hX5.cell 0
        have c1 := hX5.cell 1
        have c2 := hX5.cell 2
        have hxl := hX5.lt
        simp at c0 c1 c2
        have HS5 := Lib.hid hS5
        have HB5 := Lib.hid hB5
        have Hk5 := Lib.hid hk5
        clear hS5 hB5 hk5 hX5 hkp HS HB hu0 hu1 hu2
        go_upto_region 7 with (with_reducible refine (pick_nat _ _ _ (by omega) (by omega)).mono ?_; rintro e w' ⟨a, ha, rfl, rfl⟩)
        go_upto_region 8 with (with_reducible refine (pick_nat _ _ _ (by omega) (by omega)).mono ?_; rintro e w' ⟨b, hb, rfl, rfl⟩)
        go_wp2_with fail
        with_reducible refine (pick_nat _ _ _ (by omega) (by omega)).mono ?_
        rintro e w' ⟨q3, hq3, rfl, rfl⟩
        have ha2 : a ≤ 63 := by omega
        have hb2 : b ≤ 65 := by omega
        clear ha hb
        obtain ⟨d, hd⟩ : ∃ d, ((q3 : Int) == 0) = d := ⟨_, rfl⟩
        cases d with
        | true =>
        have Hc6 := Lib.hid (f_dropN HS5.out HN.out (by omega) a b (by omega) (by omega))
        go_wp2_with fail
        with_reducible refine (Hc6.out).mono ?_
        rintro e w6 ⟨rfl, L', hS6, hN6, hI6, hk6⟩
        have hk7 : Kp (fun _ => False) W w6 := (Hk5.out.no.trans hk6).mono (fun k hk e => by omega)
        have hB6 := hk6.whole HB5.out (fun e => hne e.symm)
        have HS6 := Lib.hid hS6
        have HB6 := Lib.hid hB6
        have HK6 := Lib.hid hk7
        have HN6 := Lib.hid hN6
        have HI6 : Hid (∀ n : Nat, InL L' n ↔ (if a ≤ n ∧ n < b then some false else bs[n]?) = some true) := Lib.hid (fun n => by
          rw [hI6, HI.out n]
          by_cases hh : a ≤ n ∧ n < b
          · rw [if_pos hh]; exact ⟨fun h => absurd (by omega) h.2, fun h => by simp at h⟩
          · rw [if_neg hh]; exact ⟨fun h => h.1, fun h => ⟨h, fun hx => hh (by omega)⟩⟩)
        have HR6 : Hid (∀ n, InL L' n → 0 ≤ n ∧ n < 70) := Lib.hid (fun n ⟨x, hx, h1, h2⟩ => by have := hN6.run x hx; omega)
        clear hS6 hB6 hk6 hk7 hN6 hI6 HS5 HB5 Hk5
        go_wp2_with fail
        go_loopw [14] (fun vi w2 => ∃ (j : Nat) (bs' : List Bool), vi = .int .i64 ((a + j : Nat) : Int) ∧ (j = 0 ∨ a + j ≤ b) ∧ bs'.length = 70 ∧ Hid (∀ n : Nat, bs'[n]? = if a ≤ n ∧ n < a + j then some false else bs[n]?) ∧ Whole w2 ib 40 (bools bs') ∧ HasSet w2 s L' ∧ Kp (fun _ => False) W w2)
          (fun vi _ => b - (intOf vi).toNat)
        case atStart => exact ⟨0, bs, by simp, .inl rfl, Hbl.out, Lib.hid (fun n => by rw [if_neg (by omega)]), HB6.out, HS6.out, HK6.out⟩
        case round =>
          obtain ⟨j, bs', rfl, hj, hbl', Hbs', hB', hS', hK'⟩ := hrel
          by_cases hlt2 : a + j < b
          · obtain ⟨y, hy⟩ : ∃ y, bs'[a + j]? = some y := ⟨_, List.getElem?_eq_getElem (by omega)⟩
            have x0 := hB'.cell (a + j)
            have f0 := hB'.frozen (a + j)
            have hibl := hB'.lt
            rw [bools_get, hy] at x0
            simp only [Option.map_some] at x0
            have hS2 := hS'.setB hB' hne (a + j) (.bool false)
            have hB2 := hB'.set (a + j) (.bool false)
            rw [bools_set] at hB2
            have hK2 := hK'.set (p := ⟨ib, a + j, none⟩) (.inr hibW) (.bool false)
            have h70 : a + j < 70 := by omega
            have HS2 := Lib.hid hS2
            have HB2 := Lib.hid hB2
            have HK2 := Lib.hid hK2
            have Hbl' := Lib.hid hbl'
            clear hS' hB' hK' hS2 hB2 hK2 hy hj hbl'
            go_wp2_with fail
            go_roundw
            case rel =>
              refine ⟨j + 1, bs'.set (a + j) false, by go_num, .inr (by omega), by rw [List.length_set]; exact Hbl'.out, Lib.hid (fun n => ?_), HB2.out, HS2.out, HK2.out⟩
              rw [List.getElem?_set, Hbs'.out n, Hbl'.out]
              by_cases hn : a + j = n
              · subst hn
                rw [if_pos rfl, if_pos h70, if_pos (by omega)]
              · rw [if_neg hn]
                by_cases hn2 : a ≤ n ∧ n < a + j
                · rw [if_pos hn2, if_pos (by omega)]
                · rw [if_neg hn2, if_neg (by omega)]
            case measure => simp [intOf]; omega
          · have HB' := Lib.hid hB'
            have HS' := Lib.hid hS'
            have HK' := Lib.hid hK'
            have Hbl' := Lib.hid hbl'
            clear hB' hS' hK' hbl'
            go_wp2_with fail
            go_roundw
            case rel =>
              refine ⟨k + 1, L', bs', by omega, by go_num, Hbl', Lib.hid HS'.out, Lib.hid HB'.out, HN6, Lib.hid (fun n => ?_), HR6, HK'.out⟩
              rw [HI6.out n, Hbs'.out n]
              rcases hj with h0 | h0
              · subst h0
                rw [if_neg (show ¬ (a ≤ n ∧ n < a + 0) by omega), if_neg (by omega)]
              · by_cases hn : a ≤ n ∧ n < b
                · rw [if_pos hn, if_pos (by omega)]
                · rw [if_neg hn, if_neg (by omega)]
            case measure => simp [intOf]; omega
        | false =>
        have Hc6 := Lib.hid (f_addN HS5.out HN.out (by omega) a b (by omega) (by omega))
        go_wp2_with fail
        with_reducible refine (Hc6.out).mono ?_
        rintro e w6 ⟨rfl, L', hS6, hN6, hI6, hk6⟩
        have hk7 : Kp (fun _ => False) W w6 := (Hk5.out.no.trans hk6).mono (fun k hk e => by omega)
        have hB6 := hk6.whole HB5.out (fun e => hne e.symm)
        have HS6 := Lib.hid hS6
        have HB6 := Lib.hid hB6
        have HK6 := Lib.hid hk7
        have HN6 := Lib.hid hN6
        have HI6 : Hid (∀ n : Nat, InL L' n ↔ (if a ≤ n ∧ n < b then some true else bs[n]?) = some true) := Lib.hid (fun n => by
          rw [hI6, HI.out n]
          by_cases hh : a ≤ n ∧ n < b
          · rw [if_pos hh]; exact ⟨fun _ => rfl, fun _ => .inr (by omega)⟩
          · rw [if_neg hh]; exact ⟨fun h => h.elim id (fun hx => absurd (by omega) hh), .inl⟩)
        have HR6 : Hid (∀ n, InL L' n → 0 ≤ n ∧ n < 70) := Lib.hid (fun n ⟨x, hx, h1, h2⟩ => by have := hN6.run x hx; omega)
        clear hS6 hB6 hk6 hk7 hN6 hI6 HS5 HB5 Hk5
        go_wp2_with fail
        go_loopw [14] (fun vi w2 => ∃ (j : Nat) (bs' : List Bool), vi = .int .i64 ((a + j : Nat) : Int) ∧ (j = 0 ∨ a + j ≤ b) ∧ bs'.length = 70 ∧ Hid (∀ n : Nat, bs'[n]? = if a ≤ n ∧ n < a + j then some true else bs[n]?) ∧ Whole w2 ib 40 (bools bs') ∧ HasSet w2 s L' ∧ Kp (fun _ => False) W w2)
          (fun vi _ => b - (intOf vi).toNat)
        case atStart => exact ⟨0, bs, by simp, .inl rfl, Hbl.out, Lib.hid (fun n => by rw [if_neg (by omega)]), HB6.out, HS6.out, HK6.out⟩
        case round =>
          obtain ⟨j, bs', rfl, hj, hbl', Hbs', hB', hS', hK'⟩ := hrel
          by_cases hlt2 : a + j < b
          · obtain ⟨y, hy⟩ : ∃ y, bs'[a + j]? = some y := ⟨_, List.getElem?_eq_getElem (by omega)⟩
            have x0 := hB'.cell (a + j)
            have f0 := hB'.frozen (a + j)
            have hibl := hB'.lt
            rw [bools_get, hy] at x0
            simp only [Option.map_some] at x0
            have hS2 := hS'.setB hB' hne (a + j) (.bool true)
            have hB2 := hB'.set (a + j) (.bool true)
            rw [bools_set] at hB2
            have hK2 := hK'.set (p := ⟨ib, a + j, none⟩) (.inr hibW) (.bool true)
            have h70 : a + j < 70 := by omega
            have HS2 := Lib.hid hS2
            have HB2 := Lib.hid hB2
            have HK2 := Lib.hid hK2
            have Hbl' := Lib.hid hbl'
            clear hS' hB' hK' hS2 hB2 hK2 hy hj hbl'
            go_wp2_with fail
            go_roundw
            case rel =>
              refine ⟨j + 1, bs'.set (a + j) true, by go_num, .inr (by omega), by rw [List.length_set]; exact Hbl'.out, Lib.hid (fun n => ?_), HB2.out, HS2.out, HK2.out⟩
              rw [List.getElem?_set, Hbs'.out n, Hbl'.out]
              by_cases hn : a + j = n
              · subst hn
                rw [if_pos rfl, if_pos h70, if_pos (by omega)]
              · rw [if_neg hn]
                by_cases hn2 : a ≤ n ∧ n < a + j
                · rw [if_pos hn2, if_pos (by omega)]
                · rw [if_neg hn2, if_neg (by omega)]
            case measure => simp [intOf]; omega
          · have HB' := Lib.hid hB'
            have HS' := Lib.hid hS'
            have HK' := Lib.hid hK'
            have Hbl' := Lib.hid hbl'
            clear hB' hS' hK' hbl'
            go_wp2_with fail
            go_roundw
            case rel =>
              refine ⟨k + 1, L', bs', by omega, by go_num, Hbl', Lib.hid HS'.out, Lib.hid HB'.out, HN6, Lib.hid (fun n => ?_), HR6, HK'.out⟩
              rw [HI6.out n, Hbs'.out n]
              rcases hj with h0 | h0
              · subst h0
                rw [if_neg (show ¬ (a ≤ n ∧ n < a + 0) by omega), if_neg (by omega)]
              · by_cases hn : a ≤ n ∧ n < b
                · rw [if_pos hn, if_pos (by omega)]
                · rw [if_neg hn, if_neg (by omega)]
            case measure => simp [intOf]; omega
    · obtain rfl : k = len := by omega
      clear Hc
      generalize wr = wa at *
      have HK := Lib.hid hkp
      clear hkp
      go_wp2_with fail
      have hslt := HS.out.lt
      have hblt := HB.out.lt
      go_loopw [15, 59] (fun vc vi wr => ∃ (i c : Nat), i ≤ 70 ∧ vi = .int .i64 i ∧ vc = .int .i64 c ∧ Hid (insN bs 0 i = c) ∧ c ≤ i ∧ Kp (fun _ => False) wa wr)
        (fun _ vi _ => 70 - (intOf vi).toNat)
      case atStart => exact ⟨0, 0, by omega, rfl, rfl, Lib.hid rfl, by omega, Kp.refl _ _⟩
      case round =>
        obtain ⟨i, c, hi, rfl, rfl, Hin, hci, hk3⟩ := hrel
        have Hk3 := Lib.hid hk3
        have hiw : ib < wr.heap.size := Nat.lt_of_lt_of_le hblt hk3.size
        clear hk3
        by_cases hlt : i < 70
        · obtain ⟨x, hx⟩ : ∃ x, bs[i]? = some x := ⟨_, List.getElem?_eq_getElem (by rw [Hbl.out]; omega)⟩
          have x0 := (Hk3.out.whole HB.out (fun h => h)).cell i
          rw [bools_get, hx] at x0
          simp only [Option.map_some] at x0
          have hx2 : InL L (i : Int) ↔ x = true := by rw [HI.out i, hx]; simp
          have Hx := Lib.hid hx
          have Hh := Lib.hid (fun (w4 : World) (h : Kp (fun _ => False) wa w4) => f_hasN (HS.out.no h) HN.out (by omega) (i : Int) x hx2)
          have Hs : Hid (insN bs 0 (i + 1) = insN bs 0 i + (if bs[0 + i]? = some true then 1 else 0)) := Lib.hid rfl
          clear hx hx2
          have hkd : Kp (fun _ => False) wa wr.drew := Hk3.out.drew
          have x0d : wr.drew.cell? ⟨ib, i, none⟩ = some (.bool x) := x0
          have hi70 : (i : Int) < 70 := by omega
          go_upto_region 21 with (fail)
          go_cut [67] (fun v67 w4 => v67 = .bool false ∧ Kp (fun _ => False) wa w4)
          case first =>
            cases x with
            | true =>
              go_region_held3 (fun w' => w'.cell? ⟨ib, i, none⟩ = some (.bool true) ∧ Kp (fun _ => False) wa w') (exact kk1 hiw x0 Hk3.out (by ((repeat (first | assumption | with_reducible apply Kp.drew)); done)))
                (first | (go_at_call 19; (refine (Hh.out _ (by ((repeat (first | assumption | with_reducible apply Kp.drew)); done))).mono ?_); rintro e w' ⟨rfl, hkh⟩; have hkx : Kp (fun _ => False) wa w' := Kp.trans (by ((repeat (first | assumption | with_reducible apply Kp.drew)); done)) hkh))
              all_goals
                go_wp2_with fail
                go_meet
                case rel => exact ⟨rfl, by assumption⟩
            | false =>
              go_region_held3 (fun w' => w'.cell? ⟨ib, i, none⟩ = some (.bool false) ∧ Kp (fun _ => False) wa w') (exact kk1 hiw x0 Hk3.out (by ((repeat (first | assumption | with_reducible apply Kp.drew)); done)))
                (first | (go_at_call 19; (refine (Hh.out _ (by ((repeat (first | assumption | with_reducible apply Kp.drew)); done))).mono ?_); rintro e w' ⟨rfl, hkh⟩; have hkx : Kp (fun _ => False) wa w' := Kp.trans (by ((repeat (first | assumption | with_reducible apply Kp.drew)); done)) hkh))
              all_goals
                go_wp2_with fail
                go_meet
                case rel => exact ⟨rfl, by assumption⟩
          case rest =>
          obtain ⟨rfl, hk4⟩ := hcut
          generalize wc = w4 at *
          have y0 := (hk4.whole HB.out (fun h => h)).cell i
          rw [bools_get, Hx.out] at y0
          simp only [Option.map_some] at y0
          have hiw4 : ib < w4.heap.size := Nat.lt_of_lt_of_le hblt hk4.size
          have Hk4 := Lib.hid hk4
          clear hk4 x0 x0d hkd Hh
          cases x with
          | true =>
            go_wp2_with fail
            go_roundw
            case rel => exact ⟨i + 1, c + 1, by omega, by go_num, by go_num, Lib.hid (by rw [Hs.out, Nat.zero_add, Hx.out, if_pos rfl, Hin.out]), by omega, Hk4.out⟩
            case measure => simp [intOf]; omega
          | false =>
            go_wp2_with fail
            go_roundw
            case rel => exact ⟨i + 1, c, by omega, by go_num, rfl, Lib.hid (by rw [Hs.out, Nat.zero_add, Hx.out, if_neg (by simp), Hin.out]; rfl), by omega, Hk4.out⟩
            case measure => simp [intOf]; omega
        · obtain rfl : i = 70 := by omega
          generalize wr = wb at *
          have hS := HS.out.no Hk3.out
          have hB := Hk3.out.whole HB.out (fun h => h)
          have hK := HK.out.trans Hk3.out
          have Hsp := Lib.hid (f_spans hS (by have := HN.out.few (by omega); omega))
          have HSb := Lib.hid hS
          have HBb := Lib.hid hB
          have HKb := Lib.hid hK
          have hlen70 : L.length ≤ 70 := by have := HN.out.few (by omega); omega
          clear hS hB hK HS HB HK Hk3
          go_wp2_with fail
          with_reducible refine (Hsp.out).mono ?_
          rintro e w5 ⟨A5, rfl, hr5, hk5⟩
          have hs5 := hr5.src (encP_one _)
          have Hs5 := Lib.hid hs5
          have HS5 := Lib.hid (HSb.out.no hk5)
          have HB5 := Lib.hid (hk5.whole HBb.out (fun h => h))
          have HK5 := Lib.hid (HKb.out.trans hk5)
          have hslt5 := HS5.out.lt
          have hblt5 := HB5.out.lt
          clear hr5 hs5 hk5 HSb HBb HKb Hsp hslt hblt hiw
          generalize hln : L.length = ln at *
          have Hln := Lib.hid hln
          clear hln
          go_wp2_with fail
          go_loopw [77] (fun vi wr => ∃ (i : Nat), i ≤ ln ∧ vi = .int .i64 i ∧ Kp (fun _ => False) w5 wr)
            (fun vi _ => ln - (intOf vi).toNat)
          case atStart => exact ⟨0, by omega, rfl, Kp.refl _ _⟩
          case round =>
            obtain ⟨i, hi, rfl, hkr⟩ := hrel
            by_cases hlt : i < ln
            · obtain ⟨sb, soff, sc, hsv, hsb, hscell⟩ := Src.wide Hs5.out (by omega) (by omega)
              cases hsv
              obtain ⟨r, hri⟩ : ∃ r, L[i]? = some r := ⟨_, List.getElem?_eq_getElem (by rw [Hln.out]; exact hlt)⟩
              have hrn := HN.out.run r (List.mem_of_getElem? hri)
              have e0 := hscell (i * 2) _ (pp0 hri)
              have e1 := hscell (i * 2 + 1) _ (pp1 hri)
              rw [← Nat.add_assoc] at e1
              rw [← hkr.cell (p := ⟨sb, _, none⟩) hsb (fun h => h)] at e0 e1
              have hsbr : sb < wr.heap.size := Nat.lt_of_lt_of_le hsb hkr.size
              have hX := Whole.new wr 35 #[.int .i64 r.1, .int .i64 r.2]
              have hk6 := hkr.alloc (.cells #[.int .i64 r.1, .int .i64 r.2] 35)
              obtain ⟨r1, r2⟩ := r
              dsimp only at hrn e0 e1 hX hk6
              have hr12 : r1 < r2 := hrn.2.1
              go_upto_region 30 with (fail)
              generalize wr.alloc (.cells #[.int .i64 r1, .int .i64 r2] 35) = w6 at *
              generalize wr.heap.size = bx at *
              have c0 := hX.cell 0
              have c1 := hX.cell 1
              have hxl := hX.lt
              simp at c0 c1
              have hsb6 : sb < w6.heap.size := Nat.lt_of_lt_of_le hsb hk6.size
              clear e0 e1 hX hkr
              have Hri := Lib.hid hri
              clear hri
              go_cut [101] (fun v101 w7 => v101 = .bool false ∧ Kp (fun _ => False) w5 w7)
              case first =>
                have d1 : decide (r2 ≤ r1) = false := by simp; omega
                by_cases hi0 : i = 0
                · subst hi0
                  have Hk6 := Lib.hid hk6
                  clear hk6
                  go_quiet (fail)
                  all_goals
                    go_wp2_with fail
                    go_meet
                    case rel => exact ⟨rfl, by first | exact Hk6.out.drewN _ | exact Hk6.out.drew⟩
                · obtain ⟨m, rfl⟩ : ∃ m, i = m + 1 := ⟨i - 1, by omega⟩
                  obtain ⟨p, hpi⟩ : ∃ p, L[m]? = some p := ⟨_, List.getElem?_eq_getElem (by rw [Hln.out]; omega)⟩
                  have hpn := norm_next HN.out hpi Hri.out
                  have g1 := hscell (m * 2 + 1) _ (pp1 hpi)
                  rw [← Nat.add_assoc, ← hk6.cell (p := ⟨sb, _, none⟩) hsb (fun h => h)] at g1
                  obtain ⟨p1, p2⟩ := p
                  dsimp only at hpn g1
                  have d2 : decide (r1 ≤ p2) = false := by simp; omega
                  have d3 : decide ((0 : Int) < ((m + 1 : Nat) : Int)) = true := decide_eq_true (by omega)
                  have d4 : IntKind.i64.wrap (((m + 1 : Nat) : Int) - 1) = (m : Int) := by rw [show ((m + 1 : Nat) : Int) - 1 = (m : Int) by omega]; exact IntWalk.i64_in _ (by omega)
                  have d5 : (m : Int) < (ln : Int) := by omega
                  have Hk6 := Lib.hid hk6
                  have Hpi := Lib.hid hpi
                  clear hk6 hpi hpn hscell
                  go_quiet (fail)
                  all_goals
                    go_wp2_with fail
                    go_meet
                    case rel => exact ⟨rfl, by first | exact Hk6.out.drewN _ | exact Hk6.out.drew⟩
              case rest =>
              obtain ⟨rfl, hk7⟩ := hcut
              have Hk7 := Lib.hid hk7
              clear hk7 hk6 hscell
              go_wp2_with fail
              go_roundw
              case rel => exact ⟨i + 1, by omega, by go_num, Hk7.out⟩
              case measure => simp [intOf]; omega
            · obtain rfl : i = ln := by omega
              clear Hs5
              generalize wr = wd at *
              have Hkr := Lib.hid hkr
              clear hkr
              go_upto_region 34 with (with_reducible refine (pick_nat _ _ _ (by omega) (by omega)).mono ?_; rintro e w' ⟨a, ha, rfl, rfl⟩)
              go_upto_region 35 with (with_reducible refine (pick_nat _ _ _ (by omega) (by omega)).mono ?_; rintro e w' ⟨b, hb, rfl, rfl⟩)
              have ha2 : a ≤ 69 := by omega
              have hb2 : b ≤ 69 := by omega
              have hSd := HS5.out.no Hkr.out
              obtain ⟨As, cs2, qs, ps⟩ := hSd.read
              have hT := HasSet.copy ps
              have hk8 : Kp (fun _ => False) wd (wd.alloc (.cells #[.slice As L.length cs2] 27)) := (Kp.refl _ wd).alloc _
              have hS8 := hSd.no hk8
              have hB8 := (HB5.out.alloc (.cells #[.slice As L.length cs2] 27)).lt
              have hB9 := hk8.whole (Hkr.out.whole HB5.out (fun h => h)) (fun h => h)
              have hK9 := (HK5.out.trans Hkr.out).trans hk8
              have hsd := hSd.lt
              have hbd := (Hkr.out.whole HB5.out (fun h => h)).lt
              have hWd : W.heap.size ≤ wd.heap.size := (HK5.out.trans Hkr.out).size
              have Hps := Lib.hid ps
              clear ps hSd hk8 hB8 HS5 HB5 HK5 Hkr hslt5 hblt5
              generalize hl2 : L.length = l2 at *
              have Hl2 := Lib.hid hl2
              have hl270 : l2 ≤ 70 := by have := Hln.out; omega
              clear hl2
              go_upto_region 36 with (fail)
              generalize wd.alloc (.cells #[.slice As l2 cs2] 27) = w8 at *
              generalize wd.heap.size = tb at *
              have hst : s ≠ tb := by omega
              have hbt : ib ≠ tb := by omega
              have HS8 := Lib.hid hS8
              have HT8 := Lib.hid hT
              have HB8 := Lib.hid hB9
              have HK8 := Lib.hid hK9
              clear hS8 hT hB9 hK9 qs Hps
              have hgc := f_gaps HS8.out (by rw [Hl2.out]; omega) (a : Int) (b : Int)
              rw [bringS_id (n := (a : Int)) (by omega) (by unfold EndS; omega), bringS_id (n := (b : Int)) (by omega) (by unfold EndS; omega)] at hgc
              obtain ⟨G, hG⟩ : ∃ G, G = gapL L (a : Int) (b : Int) := ⟨_, rfl⟩
              rw [← hG] at hgc
              obtain ⟨hgb, hgi⟩ := gap_in HN.out (a : Int) (b : Int)
              rw [← hG] at hgb hgi
              have Hgb := Lib.hid hgb
              have Hgi := Lib.hid hgi
              have Hgc := Lib.hid hgc
              clear hG hgb hgi hgc
              go_wp2_with fail
              with_reducible refine (Hgc.out).mono ?_
              rintro e w9 ⟨Ag, ng, hng, hng2, rfl, hr9, hk9⟩
              have Hng := Lib.hid hng
              have hs9 := hr9.src (encP_one _)
              have Hs9 := Lib.hid hs9
              have HS9 := Lib.hid (HS8.out.no hk9)
              have HT9 := Lib.hid (HT8.out.no hk9)
              have HB9 := Lib.hid (hk9.whole HB8.out (fun h => h))
              have HK9 := Lib.hid (HK8.out.trans hk9)
              have htlt := HT9.out.lt
              have hng3 : ng ≤ 100 := by have := Hl2.out; omega
              clear hng hng2 hr9 hs9 hk9 HS8 HT8 HB8 HK8 Hgc
              have Hfold := Lib.hid (fun j => addP_in (E := ((70 : Nat) : Int)) (by unfold EndS; omega) (by omega) (G.take j) L HN.out (fun x hx => by have := Hgb.out x (List.mem_of_mem_take hx); omega))
              go_wp2_with fail
              go_loopw [112] (fun vi wr => ∃ (j : Nat), j ≤ ng ∧ vi = .int .i64 j ∧ HasSet wr tb ((G.take j).foldl addP L) ∧ Kp (fun k => k = tb) w9 wr)
                (fun vi _ => ng - (intOf vi).toNat)
              case atStart => exact ⟨0, by omega, rfl, HT9.out, Kp.refl _ _⟩
              case round =>
                obtain ⟨j, hj, rfl, hTj, hkj⟩ := hrel
                by_cases hlt : j < ng
                · have hsj := src_tr (L := G) (by rw [← Hng.out]; exact Hs9.out) hkj (fun k e => .inl (by obtain rfl : k = tb := e; exact HT9.out.one))
                  rw [← Hng.out] at hsj
                  obtain ⟨sb, soff, sc, hsv, hsb, hscell⟩ := Src.wide hsj (by omega) (by omega)
                  cases hsv
                  obtain ⟨r, hri⟩ : ∃ r, G[j]? = some r := ⟨_, List.getElem?_eq_getElem (by rw [← Hng.out]; exact hlt)⟩
                  have hrb := Hgb.out r (List.mem_of_getElem? hri)
                  have e0 := hscell (j * 2) _ (pp0 hri)
                  have e1 := hscell (j * 2 + 1) _ (pp1 hri)
                  rw [← Nat.add_assoc] at e1
                  have hfl := (Hfold.out j).1.few (by omega)
                  have hX := Whole.new wr 35 #[.int .i64 r.1, .int .i64 r.2]
                  have hT6 := hTj.no ((Kp.refl _ wr).alloc (.cells #[.int .i64 r.1, .int .i64 r.2] 35))
                  have hk6 := hkj.alloc (.cells #[.int .i64 r.1, .int .i64 r.2] 35)
                  have Hnx : Hid ((G.take (j + 1)).foldl addP L = addS ((G.take j).foldl addP L) r.1 r.2) := Lib.hid (addP_snoc L hri)
                  obtain ⟨r1, r2⟩ := r
                  dsimp only at hrb e0 e1 hX hk6 hT6 Hnx
                  have d1 : decide (r1 < (a : Int)) = false := by simp; omega
                  have d2 : decide ((b : Int) < r2) = false := by simp; omega
                  clear hsj hscell hTj hkj hri
                  generalize (G.take j).foldl addP L = T at *
                  go_upto_region 39 with (fail)
                  generalize wr.alloc (.cells #[.int .i64 r1, .int .i64 r2] 35) = w6 at *
                  generalize wr.heap.size = bx at *
                  have c0 := hX.cell 0
                  have c1 := hX.cell 1
                  have hxl := hX.lt
                  simp at c0 c1
                  have Hadd := Lib.hid (f_add hT6 (by omega) r1 r2)
                  have Hk6 := Lib.hid hk6
                  clear hX hT6 hk6 e0 e1
                  go_wp2_with fail
                  with_reducible refine (Hadd.out).mono ?_
                  rintro e w7 ⟨rfl, hT7, hk7⟩
                  have HT7 := Lib.hid hT7
                  have Hk7 := Lib.hid (Hk6.out.trans hk7)
                  clear hT7 hk7 Hadd
                  go_wp2_with fail
                  go_roundw
                  case rel => exact ⟨j + 1, by omega, by go_num, by rw [Hnx.out]; exact HT7.out, Hk7.out⟩
                  case measure => simp [intOf]; omega
                · obtain rfl : j = ng := by omega
                  rw [List.take_of_length_le (by rw [← Hng.out]; omega)] at hTj
                  obtain ⟨hNT, hIT⟩ := Hfold.out G.length
                  rw [List.take_of_length_le (Nat.le_refl _)] at hNT hIT
                  have HSe := Lib.hid (HS9.out.other HT9.out hkj hst)
                  have HBe := Lib.hid (hkj.whole HB9.out hbt)
                  have HTe := Lib.hid hTj
                  have HKe := Lib.hid ((HK9.out.no.trans hkj).mono (S' := fun _ => False) (fun k hk e => by omega))
                  clear hTj hkj HS9 HT9 HB9 HK9 Hs9 Hfold htlt
                  generalize G.foldl addP L = T at *
                  obtain ⟨d, hd, hda⟩ := fill_law hNT HI.out (a := a) (b := b) (by omega) (fun n => by rw [hIT, Hgi.out])
                  have hc := count_law HN.out HI.out
                  rw [Hin.out] at hc hda
                  have hall := gap_all hNT (f := (a : Int)) (t := (b : Int)) (fun n h1 h2 => by
                    rw [hIT, Hgi.out]
                    by_cases hn : InL L n
                    · exact .inl hn
                    · exact .inr ⟨h1, h2, hn⟩)
                  generalize wr = we at *
                  have hNu := HN.out.up (F := EndS) (by unfold EndS; omega)
                  have hTu := hNT.up (F := EndS) (by unfold EndS; omega)
                  have hTf := hNT.few (by omega)
                  have hcs := fun (w' : World) (h : Kp (fun _ => False) we w') => f_count (HSe.out.no h) hNu (by rw [Hl2.out]; omega)
                  have hct := fun (w' : World) (h : Kp (fun _ => False) we w') => f_count (HTe.out.no h) hTu (by omega)
                  have hal := fun (w' : World) (h : Kp (fun _ => False) we w') => f_all (HTe.out.no h) (by omega) (a : Int) (b : Int)
                  rw [bringS_id (n := (a : Int)) (by omega) (by unfold EndS; omega), bringS_id (n := (b : Int)) (by omega) (by unfold EndS; omega), hall] at hal
                  rw [hc] at hcs
                  rw [hd] at hct
                  have Hcs := Lib.hid hcs
                  have Hct := Lib.hid hct
                  have Hall := Lib.hid hal
                  have hdm : d ≤ 70 := by
                    have := count_is T hNT
                    have h2 := cB_le (fun n => T.any (hasP (n : Int))) 70
                    omega
                  have hrg : we.rangeAt ib 0 (bs.map Value.bool) := fun j u hj => by
                    rw [Nat.zero_add, HBe.out.cell]
                    simpa [bools] using hj
                  have hie := HBe.out.lt
                  have hkd : Kp (fun _ => False) we we.drew := (Kp.refl _ we).drew
                  have hke := Kp.refl (fun _ => False) we
                  have hkR : ∀ w', Kp (fun _ => False) we w' → w'.rangeAt ib 0 (bs.map Value.bool) ∧ Kp (fun _ => False) we w' := fun w' h => ⟨fun j u hj => by rw [h.cell (p := ⟨ib, _, none⟩) hie (fun h => h)]; exact hrg j u hj, h⟩
                  have HkR := Lib.hid hkR
                  clear hkR hrg hal hct hcs hNu hTu hall hNT hIT hTf hc hd
                  go_upto_region 43 with (fail)
                  by_cases hab : a < b
                  · obtain ⟨m, hm⟩ : ∃ m, b = a + m := ⟨b - a, by omega⟩
                    have hda2 := hda hab
                    rw [show b - a = m by omega] at hda2
                    have hz := insN_le bs a m
                    have hins := fun (w' : World) => inside_c w' bs Hbl.out a b m (.inl hm) (by omega)
                    obtain ⟨z, hzz⟩ : ∃ z, insN bs a m = z := ⟨_, rfl⟩
                    rw [hzz] at hins hda2 hz
                    have Hins := Lib.hid hins
                    have g0 : decide ((b : Int) ≤ (a : Int)) = false := by simp; omega
                    have g1 : decide (b ≤ a) = false := by simp; omega
                    have q1 : IntKind.i64.wrap ((d : Int) - (c : Int)) = (d : Int) - (c : Int) := IntWalk.i64_in _ (by omega)
                    have q2 : IntKind.i64.wrap ((d : Int) - (c : Int) + (z : Int)) = (m : Int) := by rw [show (d : Int) - (c : Int) + (z : Int) = m by omega]; exact IntWalk.i64_in _ (by omega)
                    have q3 : IntKind.i64.wrap ((b : Int) - (a : Int)) = (m : Int) := by rw [show (b : Int) - (a : Int) = m by omega]; exact IntWalk.i64_in _ (by omega)
                    have hu := Try.underlying40
                    have hi : (Try.prog.info? 40).map (·.size) = some (bs.map Value.bool).length := by rw [List.length_map, Hbl.out]; kernel_rfl
                    clear hins hda hda2 hm hzz
                    go_region_held3 (fun w' => w'.rangeAt ib 0 (bs.map Value.bool) ∧ Kp (fun _ => False) we w') (exact HkR.out _ (by ((repeat (first | assumption | with_reducible apply Kp.drew)); done)))
                      (first
                        | (go_at_call 17; (with_reducible refine (known_c _).mono ?_); rintro e w' ⟨rfl, hkh⟩; have hkx : Kp (fun _ => False) we w' := Kp.trans (by ((repeat (first | assumption | with_reducible apply Kp.drew)); done)) hkh)
                        | (go_at_call 21; (with_reducible refine (Hcs.out _ (by ((repeat (first | assumption | with_reducible apply Kp.drew)); done))).mono ?_); rintro e w' ⟨rfl, hkh⟩; have hkx : Kp (fun _ => False) we w' := Kp.trans (by ((repeat (first | assumption | with_reducible apply Kp.drew)); done)) hkh)
                        | (go_at_call 21; (with_reducible refine (Hct.out _ (by ((repeat (first | assumption | with_reducible apply Kp.drew)); done))).mono ?_); rintro e w' ⟨rfl, hkh⟩; have hkx : Kp (fun _ => False) we w' := Kp.trans (by ((repeat (first | assumption | with_reducible apply Kp.drew)); done)) hkh)
                        | (go_at_call 22; (with_reducible refine (Hall.out _ (by ((repeat (first | assumption | with_reducible apply Kp.drew)); done))).mono ?_); rintro e w' ⟨rfl, hkh⟩; have hkx : Kp (fun _ => False) we w' := Kp.trans (by ((repeat (first | assumption | with_reducible apply Kp.drew)); done)) hkh)
                        | (go_at_call 23; (with_reducible refine (Hins.out _).mono ?_); rintro e w' ⟨rfl, hkh⟩; have hkx : Kp (fun _ => False) we w' := Kp.trans (by ((repeat (first | assumption | with_reducible apply Kp.drew)); done)) hkh))
                    all_goals
                      go_wp2_with fail
                      go_ret
                      exact ⟨rfl, (HKe.out.trans (by first | assumption | (with_reducible apply Kp.drew; assumption))).below (Nat.le_refl _) (fun _ h => h.elim)⟩
                  · have g0 : decide ((b : Int) ≤ (a : Int)) = true := decide_eq_true (by omega)
                    have g1 : decide (b ≤ a) = true := decide_eq_true (by omega)
                    clear hda
                    refine wp_region_held_drew (S := fun w' => Kp (fun _ => False) we w') (by kernel_rfl) hkd (fun hHeld => ?_)

                    refine wpAnyH_ready (rs := [0]) (by kernel_rfl) (by simp) (AllReadyH.cons (o := { dst := some 132, op := Op.call { callee := Callee.value (Operand.func 17), args := #[], argTypes := #[] }, type := _, pos := _, after := _, guard := _ }) rfl (fun K hK => ?_) AllReadyH.nil)
                    go_simp
                    with_reducible refine (known_c _).mono ?_
                    rintro e w' ⟨rfl, hkh⟩
                    go_wp2_with fail
                    have hkx := Kp.trans hHeld hkh
                    refine hK.out _ _ hkx (fun _ => ?_)
                    clear hK hHeld hkh
                    have hHeld := hkx
                    clear hkx
                    try simp only [Act.put, List.setIfInBounds_toArray, List.set_cons_zero, List.set_cons_succ]
                    refine wpAnyH_take (i := 1) (oi := { dst := some 133, op := Op.move (.tmp 132), type := _, pos := _, after := _, guard := _ }) (v := ?_) rfl (by kernel_rfl) (by kernel_rfl) (by kernel_rfl) (fun _ _ _ h => h) (Or.inl ⟨by rfl, ?_⟩) hHeld ?_
                    rotate_left
                    · intro w9 hSw
                      first | (go_simp; done) | (go_simp; with_reducible rfl)
                    try simp only [Act.put, List.setIfInBounds_toArray, List.set_cons_zero, List.set_cons_succ]
                    refine wpAnyH_take (i := 3) (oi := { dst := some 135, op := Op.move (.tmp 15), type := _, pos := _, after := _, guard := _ }) (v := ?_) rfl (by kernel_rfl) (by kernel_rfl) (by kernel_rfl) (fun _ _ _ h => h) (Or.inl ⟨by rfl, ?_⟩) hHeld ?_
                    rotate_left
                    · intro w9 hSw
                      first | (go_simp; done) | (go_simp; with_reducible rfl)
                    try simp only [Act.put, List.setIfInBounds_toArray, List.set_cons_zero, List.set_cons_succ]
                    refine wpAnyH_ready (rs := [2]) (by kernel_rfl) (by simp) (AllReadyH.cons (o := { dst := some 134, op := Op.call { callee := Callee.value (Operand.func 21), args := #[.tmp 7], argTypes := #[27] }, type := _, pos := _, after := _, guard := _ }) rfl (fun K hK => ?_) AllReadyH.nil)
                    go_simp
                    with_reducible refine (Hcs.out _ hHeld).mono ?_
                    rintro e w' ⟨rfl, hkh⟩
                    go_wp2_with fail
                    have hkx := Kp.trans hHeld hkh
                    refine hK.out _ _ hkx (fun _ => ?_)
                    clear hK hHeld hkh
                    have hHeld := hkx
                    clear hkx
                    try simp only [Act.put, List.setIfInBounds_toArray, List.set_cons_zero, List.set_cons_succ]
                    refine wpAnyH_take (i := 4) (oi := { dst := some 136, op := Op.binOp BinOp.eql 3 (.tmp 134) (.tmp 135) 3, type := _, pos := _, after := _, guard := _ }) (v := ?_) rfl (by kernel_rfl) (by kernel_rfl) (by kernel_rfl) (fun _ _ _ h => h) (Or.inl ⟨by rfl, ?_⟩) hHeld ?_
                    rotate_left
                    · intro w9 hSw
                      first | (go_simp; done) | (go_simp; with_reducible rfl)
                    try simp only [Act.put, List.setIfInBounds_toArray, List.set_cons_zero, List.set_cons_succ]
                    refine wpAnyH_take (i := 5) (oi := { dst := some 137, op := Op.pick (.tmp 133) (.tmp 136) (.const (.bool false)), type := _, pos := _, after := _, guard := _ }) (v := ?_) rfl (by kernel_rfl) (by kernel_rfl) (by kernel_rfl) (fun _ _ _ h => h) (Or.inl ⟨by rfl, ?_⟩) hHeld ?_
                    rotate_left
                    · intro w9 hSw
                      first | (go_simp; done) | (go_simp; with_reducible rfl)
                    try simp only [Act.put, List.setIfInBounds_toArray, List.set_cons_zero, List.set_cons_succ]
                    refine wpAnyH_take (i := 6) (oi := { dst := some 138, op := Op.move (.tmp 137), type := _, pos := _, after := _, guard := _ }) (v := ?_) rfl (by kernel_rfl) (by kernel_rfl) (by kernel_rfl) (fun _ _ _ h => h) (Or.inl ⟨by rfl, ?_⟩) hHeld ?_
                    rotate_left
                    · intro w9 hSw
                      first | (go_simp; done) | (go_simp; with_reducible rfl)
                    try simp only [Act.put, List.setIfInBounds_toArray, List.set_cons_zero, List.set_cons_succ]
                    refine wpAnyH_take (i := 7) (oi := { dst := some 139, op := Op.move (.tmp 20), type := _, pos := _, after := _, guard := _ }) (v := ?_) rfl (by kernel_rfl) (by kernel_rfl) (by kernel_rfl) (fun _ _ _ h => h) (Or.inl ⟨by rfl, ?_⟩) hHeld ?_
                    rotate_left
                    · intro w9 hSw
                      first | (go_simp; done) | (go_simp; with_reducible rfl)
                    try simp only [Act.put, List.setIfInBounds_toArray, List.set_cons_zero, List.set_cons_succ]
                    refine wpAnyH_take (i := 8) (oi := { dst := some 140, op := Op.move (.tmp 21), type := _, pos := _, after := _, guard := _ }) (v := ?_) rfl (by kernel_rfl) (by kernel_rfl) (by kernel_rfl) (fun _ _ _ h => h) (Or.inl ⟨by rfl, ?_⟩) hHeld ?_
                    rotate_left
                    · intro w9 hSw
                      first | (go_simp; done) | (go_simp; with_reducible rfl)
                    try simp only [Act.put, List.setIfInBounds_toArray, List.set_cons_zero, List.set_cons_succ]
                    refine wpAnyH_ready (rs := [9]) (by kernel_rfl) (by simp) (AllReadyH.cons (o := { dst := some 141, op := Op.call { callee := Callee.value (Operand.func 22), args := #[.tmp 22, .tmp 139, .tmp 140], argTypes := #[27, 3, 3] }, type := _, pos := _, after := _, guard := _ }) rfl (fun K hK => ?_) AllReadyH.nil)
                    go_simp
                    with_reducible refine (Hall.out _ hHeld).mono ?_
                    rintro e w' ⟨rfl, hkh⟩
                    go_wp2_with fail
                    have hkx := Kp.trans hHeld hkh
                    refine hK.out _ _ hkx (fun _ => ?_)
                    clear hK hHeld hkh
                    have hHeld := hkx
                    clear hkx
                    try simp only [Act.put, List.setIfInBounds_toArray, List.set_cons_zero, List.set_cons_succ]
                    refine wpAnyH_take (i := 10) (oi := { dst := some 142, op := Op.pick (.tmp 138) (.tmp 141) (.const (.bool false)), type := _, pos := _, after := _, guard := _ }) (v := ?_) rfl (by kernel_rfl) (by kernel_rfl) (by kernel_rfl) (fun _ _ _ h => h) (Or.inl ⟨by rfl, ?_⟩) hHeld ?_
                    rotate_left
                    · intro w9 hSw
                      first | (go_simp; done) | (go_simp; with_reducible rfl)
                    try simp only [Act.put, List.setIfInBounds_toArray, List.set_cons_zero, List.set_cons_succ]
                    refine wpAnyH_take (i := 11) (oi := { dst := some 143, op := Op.move (.tmp 142), type := _, pos := _, after := _, guard := _ }) (v := ?_) rfl (by kernel_rfl) (by kernel_rfl) (by kernel_rfl) (fun _ _ _ h => h) (Or.inl ⟨by rfl, ?_⟩) hHeld ?_
                    rotate_left
                    · intro w9 hSw
                      first | (go_simp; done) | (go_simp; with_reducible rfl)
                    try simp only [Act.put, List.setIfInBounds_toArray, List.set_cons_zero, List.set_cons_succ]
                    refine wpAnyH_take (i := 12) (oi := { dst := some 144, op := Op.move (.tmp 20), type := _, pos := _, after := _, guard := _ }) (v := ?_) rfl (by kernel_rfl) (by kernel_rfl) (by kernel_rfl) (fun _ _ _ h => h) (Or.inl ⟨by rfl, ?_⟩) hHeld ?_
                    rotate_left
                    · intro w9 hSw
                      first | (go_simp; done) | (go_simp; with_reducible rfl)
                    try simp only [Act.put, List.setIfInBounds_toArray, List.set_cons_zero, List.set_cons_succ]
                    refine wpAnyH_take (i := 13) (oi := { dst := some 145, op := Op.move (.tmp 21), type := _, pos := _, after := _, guard := _ }) (v := ?_) rfl (by kernel_rfl) (by kernel_rfl) (by kernel_rfl) (fun _ _ _ h => h) (Or.inl ⟨by rfl, ?_⟩) hHeld ?_
                    rotate_left
                    · intro w9 hSw
                      first | (go_simp; done) | (go_simp; with_reducible rfl)
                    try simp only [Act.put, List.setIfInBounds_toArray, List.set_cons_zero, List.set_cons_succ]
                    refine wpAnyH_take (i := 14) (oi := { dst := some 146, op := Op.binOp BinOp.geq 3 (.tmp 144) (.tmp 145) 3, type := _, pos := _, after := _, guard := _ }) (v := ?_) rfl (by kernel_rfl) (by kernel_rfl) (by kernel_rfl) (fun _ _ _ h => h) (Or.inl ⟨by rfl, ?_⟩) hHeld ?_
                    rotate_left
                    · intro w9 hSw
                      first | (go_simp; done) | (go_simp; with_reducible rfl)
                    try simp only [Act.put, List.setIfInBounds_toArray, List.set_cons_zero, List.set_cons_succ]
                    refine wpAnyH_take (i := 15) (oi := { dst := some 147, op := Op.move (.tmp 146), type := _, pos := _, after := _, guard := _ }) (v := ?_) rfl (by kernel_rfl) (by kernel_rfl) (by kernel_rfl) (fun _ _ _ h => h) (Or.inl ⟨by rfl, ?_⟩) hHeld ?_
                    rotate_left
                    · intro w9 hSw
                      first | (go_simp; done) | (go_simp; with_reducible rfl)
                    try simp only [Act.put, List.setIfInBounds_toArray, List.set_cons_zero, List.set_cons_succ]
                    refine wpAnyH_take (i := 19) (oi := { dst := some 151, op := Op.load 40 (.tmp 8), type := _, pos := _, after := _, guard := _ }) (v := undef) rfl (by kernel_rfl) (by kernel_rfl) (by kernel_rfl) (fun _ _ _ h => h) (Or.inr ⟨by rfl, rfl⟩) hHeld ?_
                    try simp only [Act.put, List.setIfInBounds_toArray, List.set_cons_zero, List.set_cons_succ]
                    refine wpAnyH_take (i := 20) (oi := { dst := some 152, op := Op.move (.tmp 20), type := _, pos := _, after := _, guard := _ }) (v := undef) rfl (by kernel_rfl) (by kernel_rfl) (by kernel_rfl) (fun _ _ _ h => h) (Or.inr ⟨by rfl, rfl⟩) hHeld ?_
                    try simp only [Act.put, List.setIfInBounds_toArray, List.set_cons_zero, List.set_cons_succ]
                    refine wpAnyH_take (i := 21) (oi := { dst := some 153, op := Op.move (.tmp 21), type := _, pos := _, after := _, guard := _ }) (v := undef) rfl (by kernel_rfl) (by kernel_rfl) (by kernel_rfl) (fun _ _ _ h => h) (Or.inr ⟨by rfl, rfl⟩) hHeld ?_
                    try simp only [Act.put, List.setIfInBounds_toArray, List.set_cons_zero, List.set_cons_succ]
                    refine wpAnyH_take (i := 24) (oi := { dst := some 156, op := Op.move (.tmp 21), type := _, pos := _, after := _, guard := _ }) (v := undef) rfl (by kernel_rfl) (by kernel_rfl) (by kernel_rfl) (fun _ _ _ h => h) (Or.inr ⟨by rfl, rfl⟩) hHeld ?_
                    try simp only [Act.put, List.setIfInBounds_toArray, List.set_cons_zero, List.set_cons_succ]
                    refine wpAnyH_take (i := 25) (oi := { dst := some 157, op := Op.move (.tmp 20), type := _, pos := _, after := _, guard := _ }) (v := undef) rfl (by kernel_rfl) (by kernel_rfl) (by kernel_rfl) (fun _ _ _ h => h) (Or.inr ⟨by rfl, rfl⟩) hHeld ?_
                    try simp only [Act.put, List.setIfInBounds_toArray, List.set_cons_zero, List.set_cons_succ]
                    refine wpAnyH_take (i := 26) (oi := { dst := some 158, op := Op.binOp BinOp.sub 3 (.tmp 156) (.tmp 157) 3, type := _, pos := _, after := _, guard := _ }) (v := undef) rfl (by kernel_rfl) (by kernel_rfl) (by kernel_rfl) (fun _ _ _ h => h) (Or.inr ⟨by rfl, rfl⟩) hHeld ?_
                    try simp only [Act.put, List.setIfInBounds_toArray, List.set_cons_zero, List.set_cons_succ]
                    refine wpAnyH_ready (rs := [16]) (by kernel_rfl) (by simp) (AllReadyH.cons (o := { dst := some 148, op := Op.call { callee := Callee.value (Operand.func 21), args := #[.tmp 22], argTypes := #[27] }, type := _, pos := _, after := _, guard := _ }) rfl (fun K hK => ?_) AllReadyH.nil)
                    go_simp
                    refine hK.out _ _ hHeld (fun _ => ?_)
                    clear hK
                    try simp only [Act.put, List.setIfInBounds_toArray, List.set_cons_zero, List.set_cons_succ]
                    refine wpAnyH_ready (rs := [17]) (by kernel_rfl) (by simp) (AllReadyH.cons (o := { dst := some 149, op := Op.call { callee := Callee.value (Operand.func 21), args := #[.tmp 7], argTypes := #[27] }, type := _, pos := _, after := _, guard := _ }) rfl (fun K hK => ?_) AllReadyH.nil)
                    go_simp
                    refine hK.out _ _ hHeld (fun _ => ?_)
                    clear hK
                    try simp only [Act.put, List.setIfInBounds_toArray, List.set_cons_zero, List.set_cons_succ]
                    refine wpAnyH_take (i := 18) (oi := { dst := some 150, op := Op.binOp BinOp.sub 3 (.tmp 148) (.tmp 149) 3, type := _, pos := _, after := _, guard := _ }) (v := undef) rfl (by kernel_rfl) (by kernel_rfl) (by kernel_rfl) (fun _ _ _ h => h) (Or.inr ⟨by rfl, rfl⟩) hHeld ?_
                    try simp only [Act.put, List.setIfInBounds_toArray, List.set_cons_zero, List.set_cons_succ]
                    refine wpAnyH_ready (rs := [22]) (by kernel_rfl) (by simp) (AllReadyH.cons (o := { dst := some 154, op := Op.call { callee := Callee.value (Operand.func 23), args := #[.tmp 151, .tmp 152, .tmp 153], argTypes := #[40, 3, 3] }, type := _, pos := _, after := _, guard := _ }) rfl (fun K hK => ?_) AllReadyH.nil)
                    go_simp
                    refine hK.out _ _ hHeld (fun _ => ?_)
                    clear hK
                    try simp only [Act.put, List.setIfInBounds_toArray, List.set_cons_zero, List.set_cons_succ]
                    refine wpAnyH_take (i := 23) (oi := { dst := some 155, op := Op.binOp BinOp.add 3 (.tmp 150) (.tmp 154) 3, type := _, pos := _, after := _, guard := _ }) (v := undef) rfl (by kernel_rfl) (by kernel_rfl) (by kernel_rfl) (fun _ _ _ h => h) (Or.inr ⟨by rfl, rfl⟩) hHeld ?_
                    try simp only [Act.put, List.setIfInBounds_toArray, List.set_cons_zero, List.set_cons_succ]
                    refine wpAnyH_take (i := 27) (oi := { dst := some 159, op := Op.binOp BinOp.eql 3 (.tmp 155) (.tmp 158) 3, type := _, pos := _, after := _, guard := _ }) (v := undef) rfl (by kernel_rfl) (by kernel_rfl) (by kernel_rfl) (fun _ _ _ h => h) (Or.inr ⟨by rfl, rfl⟩) hHeld ?_
                    try simp only [Act.put, List.setIfInBounds_toArray, List.set_cons_zero, List.set_cons_succ]
                    refine wpAnyH_take (i := 28) (oi := { dst := some 160, op := Op.pick (.tmp 147) (.const (.bool true)) (.tmp 159), type := _, pos := _, after := _, guard := _ }) (v := ?_) rfl (by kernel_rfl) (by kernel_rfl) (by kernel_rfl) (fun _ _ _ h => h) (Or.inl ⟨by rfl, ?_⟩) hHeld ?_
                    rotate_left
                    · intro w9 hSw
                      first | (go_simp; done) | (go_simp; with_reducible rfl)
                    try simp only [Act.put, List.setIfInBounds_toArray, List.set_cons_zero, List.set_cons_succ]
                    refine wpAnyH_take (i := 29) (oi := { dst := some 161, op := Op.pick (.tmp 143) (.tmp 160) (.const (.bool false)), type := _, pos := _, after := _, guard := _ }) (v := ?_) rfl (by kernel_rfl) (by kernel_rfl) (by kernel_rfl) (fun _ _ _ h => h) (Or.inl ⟨by rfl, ?_⟩) hHeld ?_
                    rotate_left
                    · intro w9 hSw
                      first | (go_simp; done) | (go_simp; with_reducible rfl)
                    try simp only [Act.put, List.setIfInBounds_toArray, List.set_cons_zero, List.set_cons_succ]
                    refine wpAnyH_take (i := 30) (oi := { dst := some 6, op := Op.assign (.tmp 161), type := _, pos := _, after := _, guard := _ }) (v := ?_) rfl (by kernel_rfl) (by kernel_rfl) (by kernel_rfl) (fun _ _ _ h => h) (Or.inl ⟨by rfl, ?_⟩) hHeld ?_
                    rotate_left
                    · intro w9 hSw
                      first | (go_simp; done) | (go_simp; with_reducible rfl)
                    try simp only [Act.put, List.setIfInBounds_toArray, List.set_cons_zero, List.set_cons_succ]
                    refine wpAnyH_done (by kernel_rfl) ?_ _
                    all_goals
                      go_wp2_with fail
                      go_ret
                      exact ⟨rfl, (HKe.out.trans (by first | assumption | (with_reducible apply Kp.drew; assumption))).below (Nat.le_refl _) (fun _ h => h.elim)⟩
end Go.Proofs.Ytdcbgjbhoejpnaa

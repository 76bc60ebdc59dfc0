/-
  The walk of 'NetKeeps'.
-/
import Derived.Test.YtelhnhnbfjamhaaNetOff
import Derived.Deep.CutBlock
import Derived.RegionTactic
namespace Go.Proofs.Ytelhnhnbfjamhaa
open Go.RowKit

theorem texts_rd {W : World} {v : Value} (h : SlArg 26 W v) : RdSl W 16 [RdSr] v := by
  have hS : Try.prog.bytesOf 9 = 16 := by kernel_rfl
  rw [← hS]
  exact h.rd Try.underlying26 fun H enc => fieldSl1 Try.underlying26 (by kernel_rfl) (fieldSr Try.underlying9)

/-- Packets that the law makes: none without bytes. -/
def Full (ps : List Pk) : Prop := ∀ p ∈ ps, 0 < p.2.size ∧ p.2.size ≤ 1152921504606846976

theorem set_back (ps : List Pk) (k : Nat) (p : Pk) (hk : ps[k]? = some p) (a : Nat) (z : UInt8) : (ps.set k (p.1, turnS p.2 a z)).set k (p.1, turnS (turnS p.2 a z) a z) = ps := by
  rw [turnS_twice, List.set_set]
  apply List.ext_getElem?
  intro i
  rw [List.getElem?_set]
  split
  · rename_i hi
    subst hi
    split
    · exact hk.symm
    · rename_i hx; rw [List.getElem?_eq_none (by omega)]
  · rfl

theorem swap_at {ps : List Pk} {k j : Nat} {p q : Pk} (hk : ps[k]? = some p) (hj : ps[j]? = some q) : (swapL ps k j p q)[j]? = some p ∧ (swapL ps k j p q)[k]? = some q ∧ swapL (swapL ps k j p q) j k p q = ps := by
  have hkl := (List.getElem?_eq_some_iff.1 hk).1
  have hjl := (List.getElem?_eq_some_iff.1 hj).1
  unfold swapL
  refine ⟨by rw [List.getElem?_set]; simp [hjl], ?_, ?_⟩
  · rw [List.getElem?_set]
    split
    · rename_i e
      subst e
      rw [hk] at hj
      simp [hjl, hj]
    · simp [hkl]
  · apply List.ext_getElem?
    intro i
    simp only [List.getElem?_set, List.length_set]
    by_cases e1 : k = i
    · subst e1
      have h := (List.getElem?_eq_some_iff.1 hk).2
      simp [hkl, h]
    · by_cases e2 : j = i
      · subst e2
        have h := (List.getElem?_eq_some_iff.1 hj).2
        simp [e1, hjl, h]
      · simp [e1, e2]

set_option maxHeartbeats 2000000 in
set_option maxRecDepth 100000 in
theorem NetKeeps_any (v : Value) (W : World) (hv : SlArg 26 W v) (x0 : Int) (_l0 : -9223372036854775808 ≤ x0) (_h0 : x0 ≤ 9223372036854775807) (x1 : Int) (_l1 : -9223372036854775808 ≤ x1) (_h1 : x1 ≤ 9223372036854775807)
    (x2 : Int) (_l2 : -9223372036854775808 ≤ x2) (_h2 : x2 ≤ 9223372036854775807) (x3 : Int) (_l3 : 0 ≤ x3) (_h3 : x3 ≤ 255) :
    Calls Try.prog 6 #[v, .int .i64 x0, .int .i64 x1, .int .i64 x2, .int .u8 x3] W fun e w' => e = .returned (.bool true) ∧ Below W.heap.size W w' := by
  obtain ⟨A, len, cap, rfl, hlc, hcm, hreach, hcells⟩ := texts_rd hv
  unfold maxLen at hcm
  unfold reachBytes at hreach
  have Hc := Lib.hid hcells
  clear hcells hv
  obtain ⟨z, hz⟩ := byte_of x3 _l3 _h3
  subst hz
  obtain ⟨i0, hii, hz0, hz1, hz2⟩ := info_parts infoPk
  have Hi := Lib.hid hii
  have Hz0 := Lib.hid hz0
  have Hz1 := Lib.hid hz1
  have Hz2 := Lib.hid hz2
  clear hii hz0 hz1 hz2
  have H0 := Lib.hid (NetOff.of (net_new_in W) (L := fun _ => False) (fun _ h => h))
  go_enter Try.func6, Try.ntmps6
  go_wp2_with fail
  obtain ⟨g, hg⟩ : ∃ g, g = W.heap.size := ⟨_, rfl⟩
  have hgw : g < (W.alloc (.cells #[.slice none 0 0] 25)).heap.size := by simp only [World.size_alloc]; omega
  rw [← hg]
  rw [← hg] at H0
  generalize W.alloc (.cells #[.slice none 0 0] 25) = wz at H0 hgw ⊢
  have hWz := H0.out.below.size
  have Hg := Lib.hid hg
  clear hg
  go_loopw [12, 13] (fun vl vi wr => ∃ (j : Nat) (ps : List Pk), j ≤ 63 ∧ j ≤ len ∧ vi = .int .i64 j ∧ ps.length = j ∧ Full ps ∧ wr.ownsRow wz.heap.size 31 2 vl j (encs encPk ps) ∧ Kp (fun _ => False) wz wr)
    (fun _ vi _ => 63 - (intOf vi).toNat)
  case atStart => exact ⟨0, [], by omega, by omega, rfl, rfl, (fun p hp => by cases hp), World.ownsRow_nil _ _ _ _, Kp.refl _ _⟩
  case round =>
    obtain ⟨j, ps, hj, hjl, rfl, hpl, hfull, ho, hkp⟩ := hrel
    have Hpl := Lib.hid hpl
    have Hfull := Lib.hid hfull
    have Ho := Lib.hid ho
    have Hk := Lib.hid hkp
    clear hpl hfull ho hkp
    by_cases hlt : j < len
    · by_cases h63 : j < 63
      · rcases Hc.out with h0 | ⟨b, off, rfl, hbl, hcell⟩
        · omega
        · obtain ⟨u0, hu0, s, rfl, hs⟩ := hcell j hlt 0 _ rfl
          have hbel : Below W.heap.size W wr := H0.out.below.trans (Hk.out.below0 hWz)
          rw [← hbel.cell (p := ⟨b, _, none⟩) hbl] at hu0
          simp only [List.length_cons, List.length_nil, Nat.zero_add, Nat.add_zero, Nat.mul_one] at hu0
          unfold reachBytes at hs
          clear hcell hbel
          have HO := Lib.hid (Ho.out.alloc (.cells #[.int .i64 ((j : Int) % 2), .string (s ++ ⟨#[46]⟩)] 31))
          have HX := Lib.hid (src_one wr ((j : Int) % 2, s ++ ⟨#[46]⟩))
          go_wp2_with (at_builtin; refine wpList_app rfl (.tmp 34) (.tmp 43) 23 rfl wz.heap.size 31 i0 _ 2 24 Try.underlying23 Hi.out Hz0.out Hz1.out Hz2.out rfl (by decide) _ j _ rfl HO.out _ 1 _ rfl HX.out (by unfold maxLen; omega) (by omega) (by have := Hk.out.size; simp only [World.size_alloc]; omega) ?_; intro v' w1 hown1 hg1 hn1; have Hown1 := Lib.hid hown1; have Hg1 := Lib.hid hg1; clear hown1 hg1 hn1)
          go_roundw
          case rel =>
            refine ⟨j + 1, ps ++ [((j : Int) % 2, s ++ ⟨#[46]⟩)], by omega, by omega, by go_num, by simp [Hpl.out], ?_, ?_, ?_⟩
            · intro p hp
              rcases List.mem_append.1 hp with hp | hp
              · exact Hfull.out p hp
              · simp only [List.mem_singleton] at hp
                subst hp
                have e : (s ++ ⟨#[46]⟩ : ByteArray).size = s.size + 1 := by rw [ByteArray.size_append]; rfl
                dsimp only
                omega
            · rw [encs_append]; exact Hown1.out
            · refine (Hk.out.alloc _).grown Hg1.out (fun i hi hlt => ?_)
              exact absurd (Ho.out.lt i hi).1 (by omega)
          case measure => simp [intOf]; omega
      · obtain ⟨A5, c5, rfl⟩ := own_form Ho.out
        have hn0 : NetOff W wr g [] (fun k => A5.map (·.block) = some k) := (H0.out.add Hk.out (P := fun k => A5.map (·.block) = some k) (fun k hk => Ho.out.lt k (own_map.trans hk))).sub (fun k hk => .inr hk)
        have hsl := Hk.out.size
        have Hn0 := Lib.hid hn0
        have hS := ownsRow_src Ho.out (encs_one (fun x _ => encPk_one x))
        have hP := put_off hn0 A5 c5 ps (by rw [Hpl.out]; exact hS) (own_addr Ho.out) (own_nil Ho.out) (by rw [Hpl.out]; exact own_le Ho.out) (own_max Ho.out)
        have e1 : ps.take (64 - ([] : List Pk).length) = ps := List.take_of_length_le (by rw [Hpl.out]; simp; omega)
        rw [e1, Hpl.out, List.nil_append] at hP
        have HP := Lib.hid hP
        clear hn0 hS hP e1
        go_wp2_with fail
        with_reducible refine (HP.out).mono ?_
        rintro e w1 ⟨rfl, hn1, hk1⟩
        have Hn1 := Lib.hid hn1
        have Ho1 := Lib.hid (hk1.own Ho.out (fun k hk h => h (own_map.symm.trans hk)))
        clear hn1 hk1
        by_cases hj0 : j = 0
        · subst hj0
          go_wp2_with fail
          with_reducible refine (known_net _).mono ?_
          rintro e wk ⟨rfl, h1⟩
          have Hk1 := Lib.hid h1
          clear h1
          go_wp2_with fail
          go_ret
          exact ⟨rfl, Hn1.out.below.trans (Hk1.out.mono Hn1.out.below.size)⟩
        · have hj1 : 0 < j := by omega
          obtain ⟨b5, rfl, hc5⟩ := own_some Ho1.out hj1
          have Hc5 := Lib.hid hc5
          have hjne : ((j : Int) == 0) = false := by simp; omega
          clear hc5 hj0
          go_wp2_with fail
          with_reducible refine (pick_nat _ _ _ (by omega) (by omega)).mono ?_
          rintro e w2 ⟨k, _, hk, rfl, rfl⟩
          go_wp2_with fail
          with_reducible refine (pick_nat _ _ _ (by omega) (by omega)).mono ?_
          rintro e w2 ⟨q, _, hq, rfl, rfl⟩
          obtain ⟨pk, hpk⟩ : ∃ p, ps[k]? = some p := ⟨_, List.getElem?_eq_getElem (by rw [Hpl.out]; omega)⟩
          obtain ⟨pq, hpq⟩ : ∃ p, ps[q]? = some p := ⟨_, List.getElem?_eq_getElem (by rw [Hpl.out]; omega)⟩
          have hf1 := Hfull.out pk (List.mem_of_getElem? hpk)
          have hcx := Hc5.out (k * 2 + 1) _ (pk1 hpk)
          have Hpk := Lib.hid hpk
          have Hpq := Lib.hid hpq
          clear hpk hpq
          have hf2 : (pk.2.size : Int) ≤ 1152921504606846976 := by omega
          have hf3 : (1 : Int) ≤ (pk.2.size : Int) := by omega
          go_wp2_with fail
          with_reducible refine (pick_nat _ _ _ (by omega) (by omega)).mono ?_
          rintro e w2 ⟨pa, _, hpa, rfl, rfl⟩
          have hpa' : pa < pk.2.size := by omega
          clear hpa hf2 hf3 hcx
          have hB := bag_off Hn1.out
          rw [Hpl.out] at hB
          have HB := Lib.hid hB
          clear hB
          go_wp2_with fail
          with_reducible refine (HB.out).mono ?_
          rintro e w2 ⟨A6, c6, rfl, ho6, hn2, hk2⟩
          obtain ⟨b6, rfl, _⟩ := own_some ho6 hj1
          have hb6 := own_cap ho6
          have hb5 := own_cap Ho1.out
          have Ho6 := Lib.hid ho6
          have Hn2 := Lib.hid hn2
          have Ho2 := Lib.hid (hk2.own Ho1.out (fun k hk h => h (own_map.symm.trans hk)))
          clear ho6 hn2 hk2
          have hb56 : b5 < b6 := by omega
          go_wp2_with fail
          go_loopw [73, 18] (fun vi vj wr => ∃ (i : Nat) (xs : List Value), i ≤ j ∧ vi = .int .i64 i ∧ wr.ownsRow w1.heap.size 31 2 (.slice (some ⟨b6, 0, none⟩) j c6) j xs ∧ Kp (fun k => k = b6) w2 wr)
            (fun vi _ _ => j - (intOf vi).toNat)
          case atStart => exact ⟨0, _, by omega, rfl, Ho6.out, Kp.refl _ _⟩
          case round =>
            obtain ⟨i, xs, hij, rfl, ho7, hk7⟩ := hrel
            have Ho7 := Lib.hid ho7
            have Hk7 := Lib.hid hk7
            clear ho7 hk7
            by_cases hi : i < j
            · obtain ⟨y0, q0⟩ := own_cell Ho7.out (i * 2) (by omega)
              obtain ⟨y1, q1⟩ := own_cell Ho7.out (i * 2 + 1) (by omega)
              have q2 := own_free Ho7.out (i * 2)
              have q3 := own_free Ho7.out (i * 2 + 1)
              go_wp2_with fail
              go_roundw
              case rel => exact ⟨i + 1, _, by omega, by go_num, ownsRow_set (ownsRow_set Ho7.out (i * 2) _) (i * 2 + 1) _, (Hk7.out.set (p := ⟨b6, i * 2, none⟩) (.inl rfl) _).set (p := ⟨b6, i * 2 + 1, none⟩) (.inl rfl) _⟩
              case measure => simp [intOf]; omega
            · have hn3 := Hn2.out.kp (Hk7.out.mono (fun k _ e => .inr (by rw [e]; rfl))) (fun k hk => by have := H0.out.below.size; rcases hk with hk | hk <;> (have := Option.some.inj hk; dsimp only at this; omega))
              have hkl : k < j := by omega
              have Ho3 := Lib.hid (Hk7.out.own Ho2.out (fun k hk e => by have := Option.some.inj hk; dsimp only at this; omega))
              have hT1 := turn_off hn3 k pk Hpk.out (by unfold maxLen; have := hf1.2; omega) pa z hpa'
              have HT1 := Lib.hid hT1
              clear hT1 hn3
              go_wp2_with fail
              with_reducible refine (HT1.out).mono ?_
              rintro e w3 ⟨rfl, hn3, hk3⟩
              have Ho4 := Lib.hid (hk3.own Ho3.out (fun k hk h => h (.inl hk)))
              have hT2 := turn_off hn3 k (pk.1, turnS pk.2 pa z) (by rw [List.getElem?_set_self (by rw [Hpl.out]; exact hkl)]) (by dsimp only; rw [turnS_size]; unfold maxLen; have := hf1.2; omega) pa z (by dsimp only; rw [turnS_size]; exact hpa')
              dsimp only at hT2
              rw [set_back ps k pk Hpk.out] at hT2
              have HT2 := Lib.hid hT2
              clear hT2 hn3 hk3
              go_wp2_with fail
              with_reducible refine (HT2.out).mono ?_
              rintro e w4 ⟨rfl, hn4, hk4⟩
              have Ho5 := Lib.hid (hk4.own Ho4.out (fun k hk h => h (.inl hk)))
              have hT3 := swap_off hn4 k q pk pq Hpk.out Hpq.out
              have HT3 := Lib.hid hT3
              clear hT3 hn4 hk4
              go_wp2_with fail
              with_reducible refine (HT3.out).mono ?_
              rintro e w5 ⟨rfl, hn5, hk5⟩
              have Ho6' := Lib.hid (hk5.own Ho5.out (fun k hk h => h (.inl hk)))
              obtain ⟨sw1, sw2, sw3⟩ := swap_at Hpk.out Hpq.out
              have hT4 := swap_off hn5 q k pk pq sw1 sw2
              rw [sw3] at hT4
              have HT4 := Lib.hid hT4
              clear hT4 hn5 hk5 sw1 sw2 sw3
              go_wp2_with fail
              with_reducible refine (HT4.out).mono ?_
              rintro e w6 ⟨rfl, hn6, hk6⟩
              have Ho8 := Lib.hid (hk6.own Ho6'.out (fun k hk h => h (.inl hk)))
              have hT5 := double_off hn6 k pk Hpk.out
              have e64 : decide (ps.length < 64) = true := by rw [Hpl.out]; simp; omega
              have e65 : [pk].take (64 - ps.length) = [pk] := by rw [Hpl.out]; exact List.take_of_length_le (by simp; omega)
              rw [e64, e65] at hT5
              have HT5 := Lib.hid hT5
              clear hT5 hn6 hk6 e64 e65
              go_wp2_with fail
              with_reducible refine (HT5.out).mono ?_
              rintro e w7 ⟨rfl, hn7, hk7⟩
              have Ho9 := Lib.hid (hk7.own Ho8.out (fun k hk h => h (.inl hk)))
              have hT6 := bag_off hn7
              rw [show (ps ++ [pk]).length = j + 1 by rw [List.length_append, Hpl.out]; rfl] at hT6
              have HT6 := Lib.hid hT6
              have Hs7 := Lib.hid (own_cap Ho9.out)
              clear hT6 hn7 hk7
              go_wp2_with fail
              with_reducible refine (HT6.out).mono ?_
              rintro e w8 ⟨A8, c8, rfl, ho8, hn8, hk8⟩
              obtain ⟨b8, rfl, _⟩ := own_some ho8 (by omega)
              have Hx8 := Lib.hid ho8
              have Hn8 := Lib.hid hn8
              have Ho10 := Lib.hid (hk8.own Ho9.out (fun k hk h => h (.inl hk)))
              clear ho8 hn8 hk8
              have hpa1 := (own_some Hx8.out (by omega)).choose_spec.2
              have ex0 : (encs encPk (ps ++ [pk]))[j * 2]? = some (.int .i64 pk.1) := pk0 (by rw [← Hpl.out]; simp)
              have ex1 : (encs encPk (ps ++ [pk]))[j * 2 + 1]? = some (.string pk.2) := pk1 (by rw [← Hpl.out]; simp)
              obtain ⟨_, hb8, hc8⟩ := own_some Hx8.out (by omega)
              cases hb8
              obtain ⟨_, hb10, hc10⟩ := own_some Ho10.out hj1
              cases hb10
              have d0 := hc8 _ _ ex0
              have d1 := hc8 _ _ ex1
              have d2 := hc10 _ _ (pk0 Hpk.out)
              have d3 := hc10 _ _ (pk1 Hpk.out)
              have Hc8 := Lib.hid hc8
              have Hc10 := Lib.hid hc10
              clear hc8 hc10 hpa1 ex0 ex1
              have hb8 := own_cap Hx8.out
              have hb10 := own_cap Ho10.out
              go_wp2_with fail
              go_region
              all_goals
                go_wp2_with fail
                have hn9 := (Hn8.out.drewN 1).sub (L' := fun k => k = b5 ∨ k = b8) (fun k hk => by rcases hk with rfl | rfl <;> simp)
                have Hn9 := Lib.hid hn9
                clear hn9 d0 d1 d2 d3
                go_loopw [131] (fun vi wr => ∃ i : Nat, i ≤ j ∧ vi = .int .i64 i ∧ NetOff W wr g ((ps ++ [pk]).drop i) (fun k => k = b5 ∨ k = b8) ∧ Kp (fun k => ¬ (k = b5 ∨ k = b8)) w8 wr)
                  (fun vi _ => j - (intOf vi).toNat)
                case atStart => exact ⟨0, by omega, rfl, Hn9.out, (Kp.refl _ _).drew⟩
                case round =>
                  obtain ⟨i, hij, rfl, hnr, hkr⟩ := hrel
                  by_cases hi : i < j
                  · obtain ⟨px, hpx⟩ : ∃ p, ps[i]? = some p := ⟨_, List.getElem?_eq_getElem (by rw [Hpl.out]; omega)⟩
                    have hpx2 : (ps ++ [pk])[i]? = some px := by rw [List.getElem?_append_left (by rw [Hpl.out]; omega)]; exact hpx
                    have hT := take_off hnr 0 px (by rw [List.getElem?_drop]; simpa using hpx2)
                    rw [show ((ps ++ [pk]).drop i).eraseIdx 0 = (ps ++ [pk]).drop (i + 1) by rw [List.eraseIdx_zero, List.tail_drop]] at hT
                    have HT := Lib.hid hT
                    have Hkr := Lib.hid hkr
                    have Hq8 := Lib.hid (And.intro (Hc8.out _ _ (pk0 hpx2)) (Hc8.out _ _ (pk1 hpx2)))
                    have Hq10 := Lib.hid (And.intro (Hc10.out _ _ (pk0 hpx)) (Hc10.out _ _ (pk1 hpx)))
                    clear hT hkr hnr hpx hpx2
                    go_wp2_with fail
                    refine (HT.out).mono ?_
                    rintro e wt ⟨rfl, hnt, hkt⟩
                    have hk2 := Hkr.out.trans hkt
                    obtain ⟨d0, d1⟩ := Hq8.out
                    obtain ⟨d2, d3⟩ := Hq10.out
                    rw [← hk2.cell (p := ⟨b8, _, none⟩) hb8.2.2.2 (fun h => h (.inr rfl))] at d0 d1
                    rw [← hk2.cell (p := ⟨b5, _, none⟩) hb10.2.2.2 (fun h => h (.inl rfl))] at d2 d3
                    have s1 : b5 < wt.heap.size := Nat.lt_of_lt_of_le hb10.2.2.2 hk2.size
                    have s2 : b8 < wt.heap.size := Nat.lt_of_lt_of_le hb8.2.2.2 hk2.size
                    have Hnt := Lib.hid hnt
                    have Hk2 := Lib.hid hk2
                    clear hnt hkt hk2
                    go_wp2_with fail
                    go_region
                    all_goals
                      go_wp2_with fail
                      go_roundw
                      case rel => exact ⟨i + 1, by omega, by go_num, (Hnt.out.alloc _).drewN 1, (Hk2.out.alloc _).drew⟩
                      case measure => simp [intOf]; omega
                  · have hij' : ¬ i < j := hi
                    have e1 : (ps ++ [pk]).drop i = [pk] := by
                      have : i = j := by omega
                      rw [this, ← Hpl.out, List.drop_left]
                    rw [e1] at hnr
                    have Hnr := Lib.hid hnr
                    clear hnr hkr e1
                    go_wp2_with fail
                    refine (known_net _).mono ?_
                    rintro e wk ⟨rfl, h1⟩
                    have hnk := Hnr.out.of_below h1
                    have hB2 := bag_off hnk
                    have HB2 := Lib.hid hB2
                    clear h1 hnk hB2
                    go_wp2_with fail
                    refine (HB2.out).mono ?_
                    rintro e wl ⟨A9, c9, rfl, _, hn9, _⟩
                    have Hn9' := Lib.hid hn9
                    clear hn9
                    go_wp2_with fail
                    go_ret
                    exact ⟨rfl, Hn9'.out.below⟩
    · obtain ⟨A5, c5, rfl⟩ := own_form Ho.out
      have hn0 : NetOff W wr g [] (fun k => A5.map (·.block) = some k) := (H0.out.add Hk.out (P := fun k => A5.map (·.block) = some k) (fun k hk => Ho.out.lt k (own_map.trans hk))).sub (fun k hk => .inr hk)
      have hsl := Hk.out.size
      have Hn0 := Lib.hid hn0
      have hS := ownsRow_src Ho.out (encs_one (fun x _ => encPk_one x))
      have hP := put_off hn0 A5 c5 ps (by rw [Hpl.out]; exact hS) (own_addr Ho.out) (own_nil Ho.out) (by rw [Hpl.out]; exact own_le Ho.out) (own_max Ho.out)
      have e1 : ps.take (64 - ([] : List Pk).length) = ps := List.take_of_length_le (by rw [Hpl.out]; simp; omega)
      rw [e1, Hpl.out, List.nil_append] at hP
      have HP := Lib.hid hP
      clear hn0 hS hP e1
      go_wp2_with fail
      with_reducible refine (HP.out).mono ?_
      rintro e w1 ⟨rfl, hn1, hk1⟩
      have Hn1 := Lib.hid hn1
      have Ho1 := Lib.hid (hk1.own Ho.out (fun k hk h => h (own_map.symm.trans hk)))
      clear hn1 hk1
      by_cases hj0 : j = 0
      · subst hj0
        go_wp2_with fail
        with_reducible refine (known_net _).mono ?_
        rintro e wk ⟨rfl, h1⟩
        have Hk1 := Lib.hid h1
        clear h1
        go_wp2_with fail
        go_ret
        exact ⟨rfl, Hn1.out.below.trans (Hk1.out.mono Hn1.out.below.size)⟩
      · have hj1 : 0 < j := by omega
        obtain ⟨b5, rfl, hc5⟩ := own_some Ho1.out hj1
        have Hc5 := Lib.hid hc5
        have hjne : ((j : Int) == 0) = false := by simp; omega
        clear hc5 hj0
        go_wp2_with fail
        with_reducible refine (pick_nat _ _ _ (by omega) (by omega)).mono ?_
        rintro e w2 ⟨k, _, hk, rfl, rfl⟩
        go_wp2_with fail
        with_reducible refine (pick_nat _ _ _ (by omega) (by omega)).mono ?_
        rintro e w2 ⟨q, _, hq, rfl, rfl⟩
        obtain ⟨pk, hpk⟩ : ∃ p, ps[k]? = some p := ⟨_, List.getElem?_eq_getElem (by rw [Hpl.out]; omega)⟩
        obtain ⟨pq, hpq⟩ : ∃ p, ps[q]? = some p := ⟨_, List.getElem?_eq_getElem (by rw [Hpl.out]; omega)⟩
        have hf1 := Hfull.out pk (List.mem_of_getElem? hpk)
        have hcx := Hc5.out (k * 2 + 1) _ (pk1 hpk)
        have Hpk := Lib.hid hpk
        have Hpq := Lib.hid hpq
        clear hpk hpq
        have hf2 : (pk.2.size : Int) ≤ 1152921504606846976 := by omega
        have hf3 : (1 : Int) ≤ (pk.2.size : Int) := by omega
        go_wp2_with fail
        with_reducible refine (pick_nat _ _ _ (by omega) (by omega)).mono ?_
        rintro e w2 ⟨pa, _, hpa, rfl, rfl⟩
        have hpa' : pa < pk.2.size := by omega
        clear hpa hf2 hf3 hcx
        have hB := bag_off Hn1.out
        rw [Hpl.out] at hB
        have HB := Lib.hid hB
        clear hB
        go_wp2_with fail
        with_reducible refine (HB.out).mono ?_
        rintro e w2 ⟨A6, c6, rfl, ho6, hn2, hk2⟩
        obtain ⟨b6, rfl, _⟩ := own_some ho6 hj1
        have hb6 := own_cap ho6
        have hb5 := own_cap Ho1.out
        have Ho6 := Lib.hid ho6
        have Hn2 := Lib.hid hn2
        have Ho2 := Lib.hid (hk2.own Ho1.out (fun k hk h => h (own_map.symm.trans hk)))
        clear ho6 hn2 hk2
        have hb56 : b5 < b6 := by omega
        go_wp2_with fail
        go_loopw [73, 18] (fun vi vj wr => ∃ (i : Nat) (xs : List Value), i ≤ j ∧ vi = .int .i64 i ∧ wr.ownsRow w1.heap.size 31 2 (.slice (some ⟨b6, 0, none⟩) j c6) j xs ∧ Kp (fun k => k = b6) w2 wr)
          (fun vi _ _ => j - (intOf vi).toNat)
        case atStart => exact ⟨0, _, by omega, rfl, Ho6.out, Kp.refl _ _⟩
        case round =>
          obtain ⟨i, xs, hij, rfl, ho7, hk7⟩ := hrel
          have Ho7 := Lib.hid ho7
          have Hk7 := Lib.hid hk7
          clear ho7 hk7
          by_cases hi : i < j
          · obtain ⟨y0, q0⟩ := own_cell Ho7.out (i * 2) (by omega)
            obtain ⟨y1, q1⟩ := own_cell Ho7.out (i * 2 + 1) (by omega)
            have q2 := own_free Ho7.out (i * 2)
            have q3 := own_free Ho7.out (i * 2 + 1)
            go_wp2_with fail
            go_roundw
            case rel => exact ⟨i + 1, _, by omega, by go_num, ownsRow_set (ownsRow_set Ho7.out (i * 2) _) (i * 2 + 1) _, (Hk7.out.set (p := ⟨b6, i * 2, none⟩) (.inl rfl) _).set (p := ⟨b6, i * 2 + 1, none⟩) (.inl rfl) _⟩
            case measure => simp [intOf]; omega
          · have hn3 := Hn2.out.kp (Hk7.out.mono (fun k _ e => .inr (by rw [e]; rfl))) (fun k hk => by have := H0.out.below.size; rcases hk with hk | hk <;> (have := Option.some.inj hk; dsimp only at this; omega))
            have hkl : k < j := by omega
            have Ho3 := Lib.hid (Hk7.out.own Ho2.out (fun k hk e => by have := Option.some.inj hk; dsimp only at this; omega))
            have hT1 := turn_off hn3 k pk Hpk.out (by unfold maxLen; have := hf1.2; omega) pa z hpa'
            have HT1 := Lib.hid hT1
            clear hT1 hn3
            go_wp2_with fail
            with_reducible refine (HT1.out).mono ?_
            rintro e w3 ⟨rfl, hn3, hk3⟩
            have Ho4 := Lib.hid (hk3.own Ho3.out (fun k hk h => h (.inl hk)))
            have hT2 := turn_off hn3 k (pk.1, turnS pk.2 pa z) (by rw [List.getElem?_set_self (by rw [Hpl.out]; exact hkl)]) (by dsimp only; rw [turnS_size]; unfold maxLen; have := hf1.2; omega) pa z (by dsimp only; rw [turnS_size]; exact hpa')
            dsimp only at hT2
            rw [set_back ps k pk Hpk.out] at hT2
            have HT2 := Lib.hid hT2
            clear hT2 hn3 hk3
            go_wp2_with fail
            with_reducible refine (HT2.out).mono ?_
            rintro e w4 ⟨rfl, hn4, hk4⟩
            have Ho5 := Lib.hid (hk4.own Ho4.out (fun k hk h => h (.inl hk)))
            have hT3 := swap_off hn4 k q pk pq Hpk.out Hpq.out
            have HT3 := Lib.hid hT3
            clear hT3 hn4 hk4
            go_wp2_with fail
            with_reducible refine (HT3.out).mono ?_
            rintro e w5 ⟨rfl, hn5, hk5⟩
            have Ho6' := Lib.hid (hk5.own Ho5.out (fun k hk h => h (.inl hk)))
            obtain ⟨sw1, sw2, sw3⟩ := swap_at Hpk.out Hpq.out
            have hT4 := swap_off hn5 q k pk pq sw1 sw2
            rw [sw3] at hT4
            have HT4 := Lib.hid hT4
            clear hT4 hn5 hk5 sw1 sw2 sw3
            go_wp2_with fail
            with_reducible refine (HT4.out).mono ?_
            rintro e w6 ⟨rfl, hn6, hk6⟩
            have Ho8 := Lib.hid (hk6.own Ho6'.out (fun k hk h => h (.inl hk)))
            have hT5 := double_off hn6 k pk Hpk.out
            have e64 : decide (ps.length < 64) = true := by rw [Hpl.out]; simp; omega
            have e65 : [pk].take (64 - ps.length) = [pk] := by rw [Hpl.out]; exact List.take_of_length_le (by simp; omega)
            rw [e64, e65] at hT5
            have HT5 := Lib.hid hT5
            clear hT5 hn6 hk6 e64 e65
            go_wp2_with fail
            with_reducible refine (HT5.out).mono ?_
            rintro e w7 ⟨rfl, hn7, hk7⟩
            have Ho9 := Lib.hid (hk7.own Ho8.out (fun k hk h => h (.inl hk)))
            have hT6 := bag_off hn7
            rw [show (ps ++ [pk]).length = j + 1 by rw [List.length_append, Hpl.out]; rfl] at hT6
            have HT6 := Lib.hid hT6
            have Hs7 := Lib.hid (own_cap Ho9.out)
            clear hT6 hn7 hk7
            go_wp2_with fail
            with_reducible refine (HT6.out).mono ?_
            rintro e w8 ⟨A8, c8, rfl, ho8, hn8, hk8⟩
            obtain ⟨b8, rfl, _⟩ := own_some ho8 (by omega)
            have Hx8 := Lib.hid ho8
            have Hn8 := Lib.hid hn8
            have Ho10 := Lib.hid (hk8.own Ho9.out (fun k hk h => h (.inl hk)))
            clear ho8 hn8 hk8
            have hpa1 := (own_some Hx8.out (by omega)).choose_spec.2
            have ex0 : (encs encPk (ps ++ [pk]))[j * 2]? = some (.int .i64 pk.1) := pk0 (by rw [← Hpl.out]; simp)
            have ex1 : (encs encPk (ps ++ [pk]))[j * 2 + 1]? = some (.string pk.2) := pk1 (by rw [← Hpl.out]; simp)
            obtain ⟨_, hb8, hc8⟩ := own_some Hx8.out (by omega)
            cases hb8
            obtain ⟨_, hb10, hc10⟩ := own_some Ho10.out hj1
            cases hb10
            have d0 := hc8 _ _ ex0
            have d1 := hc8 _ _ ex1
            have d2 := hc10 _ _ (pk0 Hpk.out)
            have d3 := hc10 _ _ (pk1 Hpk.out)
            have Hc8 := Lib.hid hc8
            have Hc10 := Lib.hid hc10
            clear hc8 hc10 hpa1 ex0 ex1
            have hb8 := own_cap Hx8.out
            have hb10 := own_cap Ho10.out
            go_wp2_with fail
            go_region
            all_goals
              go_wp2_with fail
              have hn9 := (Hn8.out.drewN 1).sub (L' := fun k => k = b5 ∨ k = b8) (fun k hk => by rcases hk with rfl | rfl <;> simp)
              have Hn9 := Lib.hid hn9
              clear hn9 d0 d1 d2 d3
              go_loopw [131] (fun vi wr => ∃ i : Nat, i ≤ j ∧ vi = .int .i64 i ∧ NetOff W wr g ((ps ++ [pk]).drop i) (fun k => k = b5 ∨ k = b8) ∧ Kp (fun k => ¬ (k = b5 ∨ k = b8)) w8 wr)
                (fun vi _ => j - (intOf vi).toNat)
              case atStart => exact ⟨0, by omega, rfl, Hn9.out, (Kp.refl _ _).drew⟩
              case round =>
                obtain ⟨i, hij, rfl, hnr, hkr⟩ := hrel
                by_cases hi : i < j
                · obtain ⟨px, hpx⟩ : ∃ p, ps[i]? = some p := ⟨_, List.getElem?_eq_getElem (by rw [Hpl.out]; omega)⟩
                  have hpx2 : (ps ++ [pk])[i]? = some px := by rw [List.getElem?_append_left (by rw [Hpl.out]; omega)]; exact hpx
                  have hT := take_off hnr 0 px (by rw [List.getElem?_drop]; simpa using hpx2)
                  rw [show ((ps ++ [pk]).drop i).eraseIdx 0 = (ps ++ [pk]).drop (i + 1) by rw [List.eraseIdx_zero, List.tail_drop]] at hT
                  have HT := Lib.hid hT
                  have Hkr := Lib.hid hkr
                  have Hq8 := Lib.hid (And.intro (Hc8.out _ _ (pk0 hpx2)) (Hc8.out _ _ (pk1 hpx2)))
                  have Hq10 := Lib.hid (And.intro (Hc10.out _ _ (pk0 hpx)) (Hc10.out _ _ (pk1 hpx)))
                  clear hT hkr hnr hpx hpx2
                  go_wp2_with fail
                  refine (HT.out).mono ?_
                  rintro e wt ⟨rfl, hnt, hkt⟩
                  have hk2 := Hkr.out.trans hkt
                  obtain ⟨d0, d1⟩ := Hq8.out
                  obtain ⟨d2, d3⟩ := Hq10.out
                  rw [← hk2.cell (p := ⟨b8, _, none⟩) hb8.2.2.2 (fun h => h (.inr rfl))] at d0 d1
                  rw [← hk2.cell (p := ⟨b5, _, none⟩) hb10.2.2.2 (fun h => h (.inl rfl))] at d2 d3
                  have s1 : b5 < wt.heap.size := Nat.lt_of_lt_of_le hb10.2.2.2 hk2.size
                  have s2 : b8 < wt.heap.size := Nat.lt_of_lt_of_le hb8.2.2.2 hk2.size
                  have Hnt := Lib.hid hnt
                  have Hk2 := Lib.hid hk2
                  clear hnt hkt hk2
                  go_wp2_with fail
                  go_region
                  all_goals
                    go_wp2_with fail
                    go_roundw
                    case rel => exact ⟨i + 1, by omega, by go_num, (Hnt.out.alloc _).drewN 1, (Hk2.out.alloc _).drew⟩
                    case measure => simp [intOf]; omega
                · have hij' : ¬ i < j := hi
                  have e1 : (ps ++ [pk]).drop i = [pk] := by
                    have : i = j := by omega
                    rw [this, ← Hpl.out, List.drop_left]
                  rw [e1] at hnr
                  have Hnr := Lib.hid hnr
                  clear hnr hkr e1
                  go_wp2_with fail
                  refine (known_net _).mono ?_
                  rintro e wk ⟨rfl, h1⟩
                  have hnk := Hnr.out.of_below h1
                  have hB2 := bag_off hnk
                  have HB2 := Lib.hid hB2
                  clear h1 hnk hB2
                  go_wp2_with fail
                  refine (HB2.out).mono ?_
                  rintro e wl ⟨A9, c9, rfl, _, hn9, _⟩
                  have Hn9' := Lib.hid hn9
                  clear hn9
                  go_wp2_with fail
                  go_ret
                  exact ⟨rfl, Hn9'.out.below⟩
end Go.Proofs.Ytelhnhnbfjamhaa

/-
  The walk of 'NetTells' (the great form).
-/
import Derived.Test.YtelhnhnbfjamhaaTwo
import Derived.Test.YtelhnhnbfjamhaaNetRaw
import Derived.Test.YtelhnhnbfjamhaaWideN
import Derived.Deep.RegionHeld3
import Derived.RegionTactic
import Derived.Deep.CutBlock
namespace Go.Proofs.Ytelhnhnbfjamhaa
open Go.RowKit

theorem pick_int (n m : Int) (w : World) (hm : 1 ≤ m) (hm2 : m ≤ 1152921504606846976) :
    Calls Try.prog 13 #[.int .i64 n, .int .i64 m] w fun e w' => ∃ i : Int, 0 ≤ i ∧ i < m ∧ e = .returned (.int .i64 i) ∧ w = w' := by
  refine (pick_any n m w hm hm2).mono ?_
  rintro e w' ⟨rfl, rfl⟩
  exact ⟨pickF n m, pickF_lo n m hm, pickF_hi n m hm, rfl, rfl⟩

/-- Packets whose bytes are few. -/
def Small (ps : List Pk) : Prop := ∀ p ∈ ps, p.2.size ≤ maxLen

theorem two_new (W : World) : Two W ((W.alloc (.cells #[.slice none 0 0] 25)).alloc (.cells #[.slice none 0 0] 43)) W.heap.size (W.heap.size + 1) [] [] (fun _ => False) := by
  refine ⟨none, 0, ⟨whole_at _ _ rfl (by simp), World.ownsRow_nil _ _ _ _, by simp⟩, ⟨none, 0, (net_new _ _ _ (Whole.new _ _ _) (by omega)).alloc _, ((Below.refl _ W).alloc (Nat.le_refl _) _).alloc (by simp) _, Nat.le_refl _, fun k hk => ?_, fun k hk => ?_⟩, by omega, (fun k hk => by cases hk), (fun h => h), (fun k h => h.elim)⟩
  · rcases hk with rfl | hk
    · rintro (h | h | h)
      · exact h
      · omega
      · cases h
    · cases hk
  · rcases hk with h | rfl | h
    · exact h.elim
    · simp
    · cases h

section
variable {ps : List Pk}
theorem small_erase (h : Small ps) (i : Nat) : Small (ps.eraseIdx i) := fun p hp => h p (List.mem_of_mem_eraseIdx hp)
theorem small_app {qs : List Pk} (h : Small ps) (h2 : Small qs) : Small (ps ++ qs) := fun p hp => by
  rcases List.mem_append.1 hp with hp | hp
  · exact h p hp
  · exact h2 p hp
theorem small_take {qs : List Pk} (h : Small qs) (n : Nat) : Small (qs.take n) := fun p hp => h p (List.mem_of_mem_take hp)
theorem small_one {p : Pk} (h : p.2.size ≤ maxLen) : Small [p] := fun q hq => by simp only [List.mem_singleton] at hq; subst hq; exact h
theorem small_set {k : Nat} {p : Pk} (h : Small ps) (h2 : p.2.size ≤ maxLen) : Small (ps.set k p) := fun q hq => by
  rcases List.mem_or_eq_of_mem_set hq with hq | rfl
  · exact h q hq
  · exact h2
end
theorem put_snoc (ps ns : List Pk) (p : Pk) (hn : ps.length ≤ 64) : (ps ++ ns.take (64 - ps.length)) ++ [p].take (64 - (ps ++ ns.take (64 - ps.length)).length) = ps ++ (ns ++ [p]).take (64 - ps.length) := by
  rw [List.append_assoc, List.take_append]
  congr 2
  rw [List.length_append, List.length_take]
  by_cases h : ns.length < 64 - ps.length
  · rw [Nat.min_eq_right (by omega)]
    congr 1
    omega
  · rw [Nat.min_eq_left (by omega), show 64 - (ps.length + (64 - ps.length)) = 0 by omega, show 64 - ps.length - ns.length = 0 by omega]

/-- The row of packets that the law makes, beside the two nets. -/
def TellsIn (W w : World) (g r gx BL : Nat) (ps : List Pk) (j : Nat) (vl vc : Value) : Prop :=
  ∃ ns : List Pk, ns.length = j ∧ Small ns ∧ w.ownsRow BL 31 2 vl j (encs encPk ns) ∧ vc = .int .i64 ((min (64 - ps.length) j : Nat) : Int) ∧ Two W w g r ps (ps ++ ns.take (64 - ps.length)) (fun k => k = gx ∨ vl.ownBlock = some k)

theorem tells_app {W w w1 : World} {g r gx BL : Nat} {ps : List Pk} {vl v' : Value} {o : Obj} {qs : List Pk} (ht : Two W w g r ps qs (fun k => k = gx ∨ vl.ownBlock = some k)) {j : Nat} {xs : List Value}
    (ho : w1.ownsRow BL 31 2 v' j xs) (hg : (w.alloc o).grownBy w1 vl.ownBlock) (hn : Near (w.alloc o) vl v') : Two W w1 g r ps qs (fun k => k = gx ∨ v'.ownBlock = some k) := by
  have hk : Kp (fun k => k = gx ∨ vl.ownBlock = some k) w w1 := ((Kp.refl _ w).alloc o).grown hg (fun i hi _ => .inr hi)
  refine ht.move hk (fun k hk' => ?_)
  rcases hk' with rfl | hk'
  · exact ⟨.inl (.inl rfl), Nat.lt_of_lt_of_le (ht.flt _ (.inl rfl)) hk.size⟩
  · refine ⟨?_, (ho.lt k hk').2⟩
    rcases hn with hn | hn
    · exact .inl (.inr (hn ▸ hk'))
    · have := hn k hk'
      simp only [World.size_alloc] at this
      exact .inr (by omega)

theorem Two.drop {W w : World} {g r : Nat} {ps qs : List Pk} {F : Nat → Prop} (h : Two W w g r ps qs F) : Two W w g r ps qs (fun _ => False) := h.move (Kp.refl _ w) (fun _ h => h.elim)
theorem Two.drew {W w : World} {g r : Nat} {ps qs : List Pk} {F : Nat → Prop} (h : Two W w g r ps qs F) : Two W w.drew g r ps qs F := h.drewN 1

set_option maxHeartbeats 2000000 in
set_option maxRecDepth 100000 in
theorem NetTells_any (v : Value) (W : World) (hv : SlArg 22 W v) :
    Calls Try.prog 5 #[v] W fun e w' => e = .returned (.bool true) ∧ Below W.heap.size W w' := by
  obtain ⟨A, len, cap, rfl, hlc, hcm, hlen, hcells⟩ := rawN_rd hv
  unfold reachBytes at hlen
  unfold maxLen at hcm
  have Hc := Lib.hid hcells
  clear hcells hv
  have H0 := Lib.hid (two_new W)
  go_enter Try.func5, Try.ntmps5
  go_wp2_with fail
  obtain ⟨g, hg⟩ : ∃ g, g = W.heap.size := ⟨_, rfl⟩
  obtain ⟨r, hr⟩ : ∃ r, r = W.heap.size + 1 := ⟨_, rfl⟩
  rw [← hr, ← hg]
  rw [← hr, ← hg] at H0
  clear hg hr
  generalize (W.alloc (.cells #[.slice none 0 0] 25)).alloc (.cells #[.slice none 0 0] 43) = wz at H0 ⊢
  go_loopw [24] (fun vi wr => ∃ (k : Nat) (ps : List Pk), k ≤ len ∧ vi = .int .i64 k ∧ Small ps ∧ Two W wr g r ps ps (fun _ => False))
    (fun vi _ => len - (intOf vi).toNat)
  case atStart => exact ⟨0, [], Nat.zero_le _, rfl, (fun p hp => by cases hp), H0.out⟩
  case round =>
    obtain ⟨k, ps, hk, rfl, hsm, htwo⟩ := hrel
    have Hsm := Lib.hid hsm
    have Htwo := Lib.hid htwo
    clear hsm
    by_cases hlt : k < len
    · rcases Hc.out with h0 | ⟨b, off, rfl, hbl, hcell⟩
      · omega
      · obtain ⟨u0, hu0, y0, rfl, l0, g0⟩ := hcell k hlt 0 RdI rfl
        obtain ⟨u1, hu1, y1, rfl, l1, g1⟩ := hcell k hlt 1 RdI rfl
        obtain ⟨u2, hu2, y2, rfl, l2, g2⟩ := hcell k hlt 2 RdI rfl
        obtain ⟨u3, hu3, y3, rfl, l3, g3⟩ := hcell k hlt 3 RdU8 rfl
        obtain ⟨u4, hu4, A4, len4, cap4, rfl, hlc4, hcm4, hl4, hc4⟩ := hcell k hlt 4 _ rfl
        unfold reachBytes at hl4
        unfold maxLen at hcm4
        clear hcell
        have hb := htwo.below
        rw [← hb.cell (p := ⟨b, _, none⟩) hbl] at hu0 hu1 hu2 hu3 hu4
        simp only [List.length_cons, List.length_nil, Nat.zero_add, Nat.add_zero, Nat.reduceAdd] at hu0 hu1 hu2 hu3 hu4
        obtain ⟨z, hz⟩ := byte_of y3 l3 g3
        subst hz
        have hf := htwo.few.1
        have ex : Whole (wr.alloc (.cells #[.int .i64 y0, .int .i64 y1, .int .i64 y2, .int .u8 (z.toNat : Int), .slice A4 len4 cap4] 28)) wr.heap.size 28 #[.int .i64 y0, .int .i64 y1, .int .i64 y2, .int .u8 (z.toNat : Int), .slice A4 len4 cap4] := whole_at _ _ rfl rfl
        have et : Two W (wr.alloc (.cells #[.int .i64 y0, .int .i64 y1, .int .i64 y2, .int .u8 (z.toNat : Int), .slice A4 len4 cap4] 28)) g r ps ps (fun k => k = wr.heap.size) :=
          htwo.move ((Kp.refl _ wr).alloc _) (fun k e => ⟨.inr (by omega), by subst e; simp⟩)
        obtain ⟨AL, cL, c0, _⟩ := htwo.cell
        have hgr := htwo.glt.2
        have Ex := Lib.hid ex
        have Et := Lib.hid et
        clear ex et hb htwo
        have Hc4 := Lib.hid hc4
        clear hc4
        go_wp2_with fail
        with_reducible refine (pick_int _ _ _ (by omega) (by omega)).mono ?_
        rintro e w' ⟨m1, m1l, m1h, rfl, rfl⟩
        go_wp2_with fail
        with_reducible refine (pick_int _ _ _ (by omega) (by omega)).mono ?_
        rintro e w' ⟨m2, m2l, m2h, rfl, rfl⟩
        go_wp2_with fail
        with_reducible refine (pick_int _ _ _ (by omega) (by omega)).mono ?_
        rintro e w' ⟨wh, whl, whh, rfl, rfl⟩
        go_upto_block 2 with (fail)
        clear c0
        have ex := Ex.out
        have et := Et.out
        generalize wr.alloc (.cells #[.int .i64 y0, .int .i64 y1, .int .i64 y2, .int .u8 (z.toNat : Int), .slice A4 len4 cap4] 28) = wx at Ex Et ex et ⊢
        generalize wr.heap.size = gx at Ex Et ex et ⊢
        clear hu0 hu1 hu2 hu3 hu4 Htwo
        have hxl := ex.lt
        have x2 := ex.cell 2
        have x3 := ex.cell 3
        have x4 := ex.cell 4
        simp at x2 x3 x4
        clear ex et
        have hsz : ∀ p ∈ ps, p.2.size ≤ maxLen := Hsm.out
        have Hsz := Lib.hid hsz
        clear hsz
        go_cut [7, 8] (fun _ _ wx => ∃ ps', Small ps' ∧ Two W wx g r ps' ps' (fun _ => False))
        case first =>
          by_cases hw0 : wh = 0
          · subst hw0
            by_cases hkn : 0 ≤ m1 - 1 ∧ m1 - 1 < ps.length
            · obtain ⟨i, rfl⟩ : ∃ i : Nat, m1 = i + 1 := ⟨(m1 - 1).toNat, by omega⟩
              have hil : i < ps.length := by omega
              obtain ⟨p, hp⟩ : ∃ p, ps[i]? = some p := ⟨_, List.getElem?_eq_getElem hil⟩
              have Hp := Lib.hid hp
              have Hmem := Lib.hid (List.mem_of_getElem? hp)
              clear hkn hp
              obtain ⟨P1, P2⟩ := p
              go_wp2_with fail
              with_reducible refine (two_take Et.out i (P1, P2) Hp.out).mono ?_
              rintro e w1 ⟨rfl, h1, k1⟩
              have h2 := h1.move ((Kp.refl (fun k => k = gx) w1).alloc (.cells #[.int .i64 P1, .string P2] 31)) (F' := fun k => k = w1.heap.size) (fun k e => ⟨.inr (by omega), by subst e; simp⟩)
              have hp1 : Whole (w1.alloc (.cells #[.int .i64 P1, .string P2] 31)) w1.heap.size 31 #[.int .i64 P1, .string P2] := whole_at _ _ rfl rfl
              have H2 := Lib.hid h2
              have Hp1 := Lib.hid hp1
              clear h1 k1 h2 hp1
              go_wp2_with fail
              with_reducible refine (rtwo_take H2.out i (P1, P2) Hp.out).mono ?_
              rintro e w2 ⟨rfl, h3, k3⟩
              have q0 := (k3.whole Hp1.out (fun h => h rfl)).cell 0
              have q1 := (k3.whole Hp1.out (fun h => h rfl)).cell 1
              have q2 := (k3.whole Hp1.out (fun h => h rfl)).lt
              simp at q0 q1
              have H3 := Lib.hid h3
              clear h3 k3
              go_wp2_with fail
              go_meet
              exact ⟨ps.eraseIdx i, small_erase Hsm.out i, (H3.out.alloc _).drop⟩
            · clear x2 x3 x4
              go_wp2_with fail
              with_reducible refine (two_take_none Et.out (m1 - 1) hkn).mono ?_
              rintro e w1 ⟨rfl, h1, k1⟩
              have h2 := h1.move ((Kp.refl (fun k => k = gx) w1).alloc (.cells #[.int .i64 0, .string ⟨#[]⟩] 31)) (F' := fun k => k = w1.heap.size) (fun k e => ⟨.inr (by omega), by subst e; simp⟩)
              have hp1 : Whole (w1.alloc (.cells #[.int .i64 0, .string ⟨#[]⟩] 31)) w1.heap.size 31 #[.int .i64 0, .string ⟨#[]⟩] := whole_at _ _ rfl rfl
              have H2 := Lib.hid h2
              have Hp1 := Lib.hid hp1
              clear h1 k1 h2 hp1
              go_wp2_with fail
              with_reducible refine (rtwo_take_none H2.out (m1 - 1) hkn).mono ?_
              rintro e w2 ⟨rfl, h3, k3⟩
              have q0 := (k3.whole Hp1.out (fun h => h rfl)).cell 0
              have q1 := (k3.whole Hp1.out (fun h => h rfl)).cell 1
              have q2 := (k3.whole Hp1.out (fun h => h rfl)).lt
              simp at q0 q1
              have H3 := Lib.hid h3
              clear h3 k3
              go_wp2_with fail
              go_meet
              exact ⟨ps, Hsm.out, (H3.out.alloc _).drop⟩
          · by_cases hw1 : wh = 1
            · subst hw1
              by_cases hkn : 0 ≤ m1 - 1 ∧ m1 - 1 < ps.length
              · obtain ⟨i, rfl⟩ : ∃ i : Nat, m1 = i + 1 := ⟨(m1 - 1).toNat, by omega⟩
                have hil : i < ps.length := by omega
                obtain ⟨p, hp⟩ : ∃ p, ps[i]? = some p := ⟨_, List.getElem?_eq_getElem hil⟩
                have Hp := Lib.hid hp
                have Hmem := Lib.hid (List.mem_of_getElem? hp)
                clear hkn hp
                obtain ⟨P1, P2⟩ := p
                go_wp2_with fail
                with_reducible refine (two_double Et.out i (P1, P2) Hp.out).mono ?_
                rintro e w1 ⟨rfl, h1, k1⟩
                have H1 := Lib.hid h1
                clear h1 k1
                go_wp2_with fail
                with_reducible refine (rtwo_double H1.out i (P1, P2) Hp.out).mono ?_
                rintro e w2 ⟨rfl, h2, k2⟩
                have H2 := Lib.hid h2
                clear h2 k2
                go_wp2_with fail
                go_meet
                exact ⟨_, small_app Hsm.out (small_take (small_one (Hsm.out _ Hmem.out)) _), H2.out.drop⟩
              · go_wp2_with fail
                with_reducible refine (two_double_none Et.out (m1 - 1) hkn).mono ?_
                rintro e w1 ⟨rfl, h1, k1⟩
                have H1 := Lib.hid h1
                clear h1 k1
                go_wp2_with fail
                with_reducible refine (rtwo_double_none H1.out (m1 - 1) hkn).mono ?_
                rintro e w2 ⟨rfl, h2, k2⟩
                have H2 := Lib.hid h2
                clear h2 k2
                go_wp2_with fail
                go_meet
                exact ⟨ps, Hsm.out, H2.out.drop⟩
            · by_cases hw2 : wh = 2
              · subst hw2
                by_cases hkn : 0 ≤ m1 - 1 ∧ m1 - 1 < ps.length
                · obtain ⟨i, rfl⟩ : ∃ i : Nat, m1 = i + 1 := ⟨(m1 - 1).toNat, by omega⟩
                  have hil : i < ps.length := by omega
                  obtain ⟨p, hp⟩ : ∃ p, ps[i]? = some p := ⟨_, List.getElem?_eq_getElem hil⟩
                  have Hp := Lib.hid hp
                  have Hmem := Lib.hid (List.mem_of_getElem? hp)
                  clear hkn hp
                  obtain ⟨P1, P2⟩ := p
                  go_wp2_with fail
                  with_reducible refine (pick_int _ _ _ (by omega) (by omega)).mono ?_
                  rintro e w' ⟨m3, m3l, m3h, rfl, rfl⟩
                  by_cases hat : 0 ≤ m3 - 1 ∧ m3 - 1 < P2.size
                  · obtain ⟨a, rfl⟩ : ∃ a : Nat, m3 = a + 1 := ⟨(m3 - 1).toNat, by omega⟩
                    have hal : a < P2.size := by omega
                    have Hal := Lib.hid hal
                    clear hat hal
                    go_wp2_with fail
                    go_region_held3 (fun w' => w'.cell? ⟨gx, 3, none⟩ = some (.int .u8 (z.toNat : Int))) (go_keep)
                      (first | (go_at_call 19; refine (two_turn Et.out.drew i (P1, P2) Hp.out (Hsz.out _ Hmem.out) a z Hal.out).mono ?_; rintro e w1 ⟨rfl, h1, k1⟩; have x3' := (k1.cell (p := ⟨gx, 3, none⟩) hxl (fun h => h rfl)).trans x3; have H1 := Lib.hid h1; have Hs1 := Lib.hid k1.size; clear h1 k1) | (go_at_call 23; refine (rtwo_turn H1.out i (P1, P2) Hp.out (Hsz.out _ Hmem.out) a z Hal.out).mono ?_; rintro e w2 ⟨rfl, h2, k2⟩; have x3'' := (k2.cell (p := ⟨gx, 3, none⟩) (Nat.lt_of_lt_of_le hxl (by exact Nat.le_trans Hs1.out (Nat.le_refl _))) (fun h => h rfl)).trans x3'; have H2 := Lib.hid h2; clear h2 k2))
                    all_goals
                      go_wp2_with fail
                      go_meet
                      exact ⟨_, small_set Hsm.out (by dsimp only; rw [turnS_size]; exact Hsm.out _ Hmem.out), H2.out.drop⟩
                  · have Hat := Lib.hid hat
                    clear hat
                    go_wp2_with fail
                    go_region_held3 (fun w' => w'.cell? ⟨gx, 3, none⟩ = some (.int .u8 (z.toNat : Int))) (go_keep)
                      (first | (go_at_call 19; refine (two_turn_out Et.out.drew i (P1, P2) Hp.out (Hsz.out _ Hmem.out) (m3 - 1) (z.toNat : Int) Hat.out).mono ?_; rintro e w1 ⟨rfl, h1, k1⟩; have x3' := (k1.cell (p := ⟨gx, 3, none⟩) hxl (fun h => h rfl)).trans x3; have H1 := Lib.hid h1; have Hs1 := Lib.hid k1.size; clear h1 k1) | (go_at_call 23; refine (rtwo_turn_out H1.out i (P1, P2) Hp.out (Hsz.out _ Hmem.out) (m3 - 1) (z.toNat : Int) Hat.out).mono ?_; rintro e w2 ⟨rfl, h2, k2⟩; have x3'' := (k2.cell (p := ⟨gx, 3, none⟩) (Nat.lt_of_lt_of_le hxl (by exact Nat.le_trans Hs1.out (Nat.le_refl _))) (fun h => h rfl)).trans x3'; have H2 := Lib.hid h2; clear h2 k2))
                    all_goals
                      go_wp2_with fail
                      go_meet
                      exact ⟨ps, Hsm.out, H2.out.drop⟩
                · go_wp2_with fail
                  with_reducible refine (pick_int _ _ _ (by omega) (by omega)).mono ?_
                  rintro e w' ⟨m3, m3l, m3h, rfl, rfl⟩
                  go_wp2_with fail
                  go_region_held3 (fun w' => w'.cell? ⟨gx, 3, none⟩ = some (.int .u8 (z.toNat : Int))) (go_keep)
                    (first | (go_at_call 19; refine (two_turn_none Et.out.drew (m1 - 1) (m3 - 1) (z.toNat : Int) hkn).mono ?_; rintro e w1 ⟨rfl, h1, k1⟩; have x3' := (k1.cell (p := ⟨gx, 3, none⟩) hxl (fun h => h rfl)).trans x3; have H1 := Lib.hid h1; have Hs1 := Lib.hid k1.size; clear h1 k1) | (go_at_call 23; refine (rtwo_turn_none H1.out (m1 - 1) (m3 - 1) (z.toNat : Int) hkn).mono ?_; rintro e w2 ⟨rfl, h2, k2⟩; have x3'' := (k2.cell (p := ⟨gx, 3, none⟩) (Nat.lt_of_lt_of_le hxl (by exact Nat.le_trans Hs1.out (Nat.le_refl _))) (fun h => h rfl)).trans x3'; have H2 := Lib.hid h2; clear h2 k2))
                  all_goals
                    go_wp2_with fail
                    go_meet
                    exact ⟨ps, Hsm.out, H2.out.drop⟩
              · by_cases hw3 : wh = 3
                · subst hw3
                  by_cases hkn : (0 ≤ m1 - 1 ∧ m1 - 1 < ps.length) ∧ (0 ≤ m2 - 1 ∧ m2 - 1 < ps.length)
                  · obtain ⟨⟨ka, kb⟩, ja, jb⟩ := hkn
                    obtain ⟨i, rfl⟩ : ∃ i : Nat, m1 = i + 1 := ⟨(m1 - 1).toNat, by omega⟩
                    obtain ⟨j, rfl⟩ : ∃ j : Nat, m2 = j + 1 := ⟨(m2 - 1).toNat, by omega⟩
                    obtain ⟨p, hp⟩ : ∃ p, ps[i]? = some p := ⟨_, List.getElem?_eq_getElem (by omega)⟩
                    obtain ⟨q, hq⟩ : ∃ q, ps[j]? = some q := ⟨_, List.getElem?_eq_getElem (by omega)⟩
                    have Hp := Lib.hid hp
                    have Hq := Lib.hid hq
                    clear ka kb ja jb hp hq
                    go_wp2_with fail
                    with_reducible refine (two_swap Et.out i j p q Hp.out Hq.out).mono ?_
                    rintro e w1 ⟨rfl, h1, k1⟩
                    have H1 := Lib.hid h1
                    clear h1 k1
                    go_wp2_with fail
                    with_reducible refine (rtwo_swap H1.out i j p q Hp.out Hq.out).mono ?_
                    rintro e w2 ⟨rfl, h2, k2⟩
                    have H2 := Lib.hid h2
                    clear h2 k2
                    go_wp2_with fail
                    go_meet
                    exact ⟨_, small_set (small_set Hsm.out (Hsm.out _ (List.mem_of_getElem? Hq.out))) (Hsm.out _ (List.mem_of_getElem? Hp.out)), H2.out.drop⟩
                  · go_wp2_with fail
                    with_reducible refine (two_swap_none Et.out (m1 - 1) (m2 - 1) hkn).mono ?_
                    rintro e w1 ⟨rfl, h1, k1⟩
                    have H1 := Lib.hid h1
                    clear h1 k1
                    go_wp2_with fail
                    with_reducible refine (rtwo_swap_none H1.out (m1 - 1) (m2 - 1) hkn).mono ?_
                    rintro e w2 ⟨rfl, h2, k2⟩
                    have H2 := Lib.hid h2
                    clear h2 k2
                    go_wp2_with fail
                    go_meet
                    exact ⟨ps, Hsm.out, H2.out.drop⟩
                · have b0 : (wh == 0) = false := by simpa using hw0
                  have b1 : (wh == 1) = false := by simpa using hw1
                  have b2 : (wh == 2) = false := by simpa using hw2
                  have b3 : (wh == 3) = false := by simpa using hw3
                  clear hw0 hw1 hw2 hw3
                  go_wp2_with fail
                  obtain ⟨i0, hii, hz0, hz1, hz2⟩ := info_parts infoPk
                  have Hi := Lib.hid hii
                  have Hz0 := Lib.hid hz0
                  have Hz1 := Lib.hid hz1
                  have Hz2 := Lib.hid hz2
                  clear hii hz0 hz1 hz2
                  have hwl : W.heap.size ≤ wx.heap.size := Et.out.below.size
                  have hT0 : TellsIn W wx g r gx wx.heap.size ps 0 (.slice none 0 0) (.int .i64 0) :=
                    ⟨[], rfl, (fun p hp => by cases hp), World.ownsRow_nil _ _ _ _, by simp, by
                      rw [List.take_nil, List.append_nil]
                      exact Et.out.move (Kp.refl _ _) (fun k hk => by
                        rcases hk with hk | hk
                        · exact ⟨.inl hk, by omega⟩
                        · cases hk)⟩
                  have HT0 := Lib.hid hT0
                  clear hT0 x2 x3
                  go_loopw [14, 15, 50] (fun vl vc vi wr => ∃ j : Nat, j ≤ len4 ∧ vi = .int .i64 j ∧ TellsIn W wr g r gx wx.heap.size ps j vl vc ∧ wx.heap.size ≤ wr.heap.size)
                    (fun _ _ vi _ => len4 - (intOf vi).toNat)
                  case atStart => exact ⟨0, by omega, rfl, HT0.out, Nat.le_refl _⟩
                  case round =>
                    obtain ⟨j, hj, rfl, ⟨ns, hnl, hns, ho, rfl, ht⟩, hwsz⟩ := hrel
                    have Hnl := Lib.hid hnl
                    have Hns := Lib.hid hns
                    have Ho := Lib.hid ho
                    have Ht := Lib.hid ht
                    clear hnl hns ho ht
                    by_cases hjl : j < len4
                    · rcases Hc4.out with h0 | ⟨b4, off4, rfl, hb4, hcell4⟩
                      · omega
                      · obtain ⟨u5, hu5, s, rfl, hs⟩ := hcell4 j hjl 0 _ rfl
                        rw [← Ht.out.below.cell (p := ⟨b4, _, none⟩) hb4] at hu5
                        simp only [List.length_cons, List.length_nil, Nat.zero_add, Nat.add_zero, Nat.mul_one] at hu5
                        clear hcell4
                        have HO := Lib.hid (Ho.out.alloc (.cells #[.int .i64 ((j : Int) % 2), .string s] 31))
                        have HX := Lib.hid (src_one wr ((j : Int) % 2, s))
                        have hql : (ps ++ ns.take (64 - ps.length)).length = ps.length + min (64 - ps.length) j := by rw [List.length_append, List.length_take, Hnl.out]
                        have Hql := Lib.hid hql
                        clear hql
                        by_cases hjm : j < 64 - ps.length
                        · have e1 : min (64 - ps.length) j = j := by omega
                          have e2 : min (64 - ps.length) (j + 1) = j + 1 := by omega
                          have E2 := Lib.hid e2
                          rw [e1] at Hql ⊢
                          clear e1 e2
                          have hd : decide (ps.length + j < 64) = true := by simp; omega
                          have Hd := Lib.hid hd
                          clear hd
                          go_wp2_with (at_builtin; refine wpList_app_wideN rfl (.tmp 55) (.tmp 60) 23 rfl wx.heap.size 31 i0 _ 2 24 Try.underlying23 Hi.out Hz0.out Hz1.out Hz2.out rfl (by decide) _ j _ rfl HO.out _ 1 _ rfl HX.out (by unfold maxLen; omega) (by omega) (by simp only [World.size_alloc]; omega) ?_; intro v' w1 hown1 hg1 hn1; have Htt := Lib.hid (tells_app Ht.out hown1 hg1 hn1); have Hown1 := Lib.hid hown1; have Hs1 := Lib.hid hg1.size; clear hown1 hg1 hn1)
                          have hR := rtwo_put Htt.out ((j : Int) % 2, s)
                          rw [Hql.out, Hd.out, ← Hql.out, put_snoc ps ns _ (by omega)] at hR
                          have HR := Lib.hid hR
                          clear hR
                          with_reducible refine (HR.out).mono ?_
                          rintro e w2 ⟨rfl, h2, k2⟩
                          have H2 := Lib.hid h2
                          have K2 := Lib.hid k2
                          clear h2 k2
                          go_wp2_with fail
                          go_roundw
                          case rel =>
                            refine ⟨j + 1, by omega, by go_num, ⟨ns ++ [((j : Int) % 2, s)], by simp [Hnl.out], small_app Hns.out (small_one hs), ?_, ?_, H2.out⟩, ?_⟩
                            · rw [encs_append]
                              exact K2.out.own Hown1.out (fun k hk h => h (.inr hk))
                            · rw [E2.out]; go_num
                            · have := Hs1.out; have := K2.out.size; simp only [World.size_alloc] at *; omega
                          case measure => simp [intOf]; omega
                        · have e1 : min (64 - ps.length) j = 64 - ps.length := by omega
                          have e2 : min (64 - ps.length) (j + 1) = 64 - ps.length := by omega
                          have E2 := Lib.hid e2
                          rw [e1] at Hql ⊢
                          clear e1 e2
                          have hd : decide (ps.length + (64 - ps.length) < 64) = false := by simp; omega
                          have Hd := Lib.hid hd
                          clear hd
                          go_wp2_with (at_builtin; refine wpList_app_wideN rfl (.tmp 55) (.tmp 60) 23 rfl wx.heap.size 31 i0 _ 2 24 Try.underlying23 Hi.out Hz0.out Hz1.out Hz2.out rfl (by decide) _ j _ rfl HO.out _ 1 _ rfl HX.out (by unfold maxLen; omega) (by omega) (by simp only [World.size_alloc]; omega) ?_; intro v' w1 hown1 hg1 hn1; have Htt := Lib.hid (tells_app Ht.out hown1 hg1 hn1); have Hown1 := Lib.hid hown1; have Hs1 := Lib.hid hg1.size; clear hown1 hg1 hn1)
                          have hR := rtwo_put Htt.out ((j : Int) % 2, s)
                          rw [Hql.out, Hd.out, ← Hql.out, put_snoc ps ns _ (by omega)] at hR
                          have HR := Lib.hid hR
                          clear hR
                          with_reducible refine (HR.out).mono ?_
                          rintro e w2 ⟨rfl, h2, k2⟩
                          have H2 := Lib.hid h2
                          have K2 := Lib.hid k2
                          clear h2 k2
                          go_wp2_with fail
                          go_roundw
                          case rel =>
                            refine ⟨j + 1, by omega, by go_num, ⟨ns ++ [((j : Int) % 2, s)], by simp [Hnl.out], small_app Hns.out (small_one hs), ?_, ?_, H2.out⟩, ?_⟩
                            · rw [encs_append]
                              exact K2.out.own Hown1.out (fun k hk h => h (.inr hk))
                            · rw [E2.out]
                            · have := Hs1.out; have := K2.out.size; simp only [World.size_alloc] at *; omega
                          case measure => simp [intOf]; omega
                    · obtain ⟨A5, c5, rfl⟩ := own_form Ho.out
                      have hP := two_put (ns := ns) Ht.out A5 c5 (by rw [Hnl.out]; exact ownsRow_src Ho.out (encs_one (fun x _ => encPk_one x))) (own_addr Ho.out) (own_nil Ho.out) (by rw [Hnl.out]; exact own_le Ho.out) (own_max Ho.out)
                      have htl : (ns.take (64 - ps.length)).length = min (64 - ps.length) j := by rw [List.length_take, Hnl.out]
                      rw [htl, Hnl.out] at hP
                      have HP := Lib.hid hP
                      clear hP htl
                      go_wp2_with fail
                      with_reducible refine (HP.out).mono ?_
                      rintro e w1 ⟨rfl, h1, k1⟩
                      have H1 := Lib.hid h1
                      clear h1 k1
                      go_wp2_with fail
                      go_meet
                      exact ⟨_, small_app Hsm.out (small_take Hns.out _), H1.out.drop⟩
        case rest =>
          obtain ⟨ps', hsm', ht'⟩ := hcut
          have Hsm' := Lib.hid hsm'
          have Ht' := Lib.hid ht'
          clear hsm' ht' hf x2 x3 x4 hxl
          go_wp2_with fail
          with_reducible refine (two_bag Ht'.out).mono ?_
          rintro e w1 ⟨A6, c6, rfl, ho6, ht6, _⟩
          obtain ⟨A7, c7, q0, o7⟩ := ht6.cell
          have hf6 := ht6.few.1
          have Ho6 := Lib.hid ho6
          have Ho7 := Lib.hid o7
          have Ht6 := Lib.hid ht6
          clear ho6 o7 ht6
          go_wp2_with fail
          go_loopw [136] (fun vi wr => ∃ i : Nat, i ≤ 64 ∧ vi = .int .i64 i ∧ Dr wr w1) (fun vi _ => ps'.length - (intOf vi).toNat)
          case atStart => exact ⟨0, by omega, rfl, Dr.refl _⟩
          case round =>
            obtain ⟨i, hi64, rfl, d, rfl⟩ := hrel
            by_cases hin : i < ps'.length
            · obtain ⟨b6, rfl, hc6⟩ := own_some Ho6.out (by omega)
              obtain ⟨b7, rfl, hc7⟩ := own_some Ho7.out (by omega)
              have e0 := hc6 (i * 2) _ (pk0 (List.getElem?_eq_getElem hin))
              have e1 := hc6 (i * 2 + 1) _ (pk1 (List.getElem?_eq_getElem hin))
              have d0 := hc7 (i * 2) _ (pk0 (List.getElem?_eq_getElem hin))
              have d1 := hc7 (i * 2 + 1) _ (pk1 (List.getElem?_eq_getElem hin))
              generalize ps'[i] = px at e0 e1 d0 d1
              obtain ⟨P1, P2⟩ := px
              clear hc6 hc7
              go_wp2_with fail
              go_region
              all_goals
                go_wp2_with fail
                go_roundw
                case rel => exact ⟨i + 1, by omega, by go_num, d + 1, rfl⟩
                case measure => simp [intOf]; omega
            · go_wp2_with fail
              go_roundw
              case rel => exact ⟨k + 1, ps', by omega, by go_num, Hsm'.out, Ht6.out.drewN _⟩
              case measure => simp [intOf]; omega
    · go_wp2_with (go_at_call 17; refine (known_net _).mono ?_; rintro e w1 ⟨rfl, hb1⟩; have Hb1 := Lib.hid hb1; clear hb1)
      go_ret
      exact ⟨rfl, (Htwo.out.of_below Hb1.out).below⟩
end Go.Proofs.Ytelhnhnbfjamhaa

/-
  The walk of 'RttSteady'.
-/
import Derived.Test.YtklcmaaoomfkiaaRttBounds
namespace Go.Proofs.Ytklcmaaoomfkiaa
open Go.RowKit

theorem steady_same {r : R4} {x : Int} (h1 : 1 ≤ x) (h2 : x ≤ 1000) (h : r.m = false ∨ r.m = true ∧ r.S = 8 * x) : (r.sample x).S = 8 * x := by
  have hc : R4.clamp x = x := by unfold R4.clamp; omega
  rcases h with h | ⟨h, hS⟩
  · unfold R4.sample; rw [if_neg (by rw [h]; simp), hc]
  · unfold R4.sample; rw [if_pos h, hc]; dsimp only; omega

theorem steady_between {r : R4} {n low high : Int} (h1 : 1 ≤ n) (h2 : n ≤ 1000) (h : r.m = false ∨ r.m = true ∧ 8 * low - 7 ≤ r.S ∧ r.S ≤ 8 * high) :
    8 * min low n - 7 ≤ (r.sample n).S ∧ (r.sample n).S ≤ 8 * max high n := by
  have hc : R4.clamp n = n := by unfold R4.clamp; omega
  rcases h with h | ⟨h, hS⟩
  · unfold R4.sample; rw [if_neg (by rw [h]; simp), hc]; dsimp only; omega
  · unfold R4.sample; rw [if_pos h, hc]; dsimp only; omega

theorem times_succ {B : Int} (h0 : 0 ≤ B) (h1 : B ≤ 10) : R4.times (B + 1) = R4.times B + 1 ∧ B < 10 ∨ R4.times (B + 1) = R4.times B ∧ B = 10 := by
  unfold R4.times; omega

theorem wait_next {r : R4} (h : r.Inv) {B : Int} (h0 : 0 ≤ B) (h1 : B ≤ 10) :
    1 ≤ R4.wait { r with B := B } ∧ R4.wait { r with B := B } ≤ R4.wait { r with B := B + 1 } ∧ R4.wait { r with B := B + 1 } ≤ 2 * R4.wait { r with B := B } ∧ R4.wait { r with B := B + 1 } ≤ 32 ∧
      (B < 10 → R4.wait { r with B := B + 1 } = min (2 * R4.wait { r with B := B }) 32) := by
  have hb := R4.base_bounds h
  have e1 : R4.base { r with B := B } = r.base := rfl
  have e2 : R4.base { r with B := B + 1 } = r.base := rfl
  have hd := R4.dbl_bounds (R4.times B) r.base (by omega) hb.2
  unfold R4.wait
  rw [e1, e2]
  dsimp only
  rcases times_succ h0 h1 with ⟨ht, hB⟩ | ⟨ht, hB⟩
  · rw [ht, R4.dbl_succ]; omega
  · rw [ht]; omega

set_option maxHeartbeats 8000000 in
set_option maxRecDepth 100000 in
theorem RttSteady_any (v : Value) (W : World) (hv : SlArg 52 W v) (x0 : Int) (_l0 : -9223372036854775808 ≤ x0) (_h0 : x0 ≤ 9223372036854775807) (x1 : Int) (_l1 : -9223372036854775808 ≤ x1) (_h1 : x1 ≤ 9223372036854775807) :
    Calls Try.prog 12 #[v, .int .i64 x0, .int .i64 x1] W fun e w' => e = .returned (.bool true) ∧ Below W.heap.size W w' := by
  obtain ⟨A, len, cap, rfl, hlc, hcm, _, hcells⟩ := ints_rd hv
  unfold maxLen at hcm
  have Hc := Lib.hid hcells
  clear hcells hv
  have pl := pickF_lo x0 20 (by omega)
  have ph := pickF_hi x0 20 (by omega)
  go_enter Try.func12, Try.ntmps12
  go_wp2_with (go_at_call 20; refine (pick_any _ _ _ (by omega) (by omega)).mono ?_; rintro e w' ⟨rfl, rfl⟩)
  obtain ⟨g, hg⟩ : ∃ g, g = W.heap.size := ⟨_, rfl⟩
  obtain ⟨c, hc⟩ : ∃ c, c = W.heap.size + 1 := ⟨_, rfl⟩
  rw [← hc, ← hg]
  have hne : g ≠ c := by omega
  have hne' : c ≠ g := by omega
  have hgW : W.heap.size ≤ g := by omega
  have hcW : W.heap.size ≤ c := by omega
  have Hg := Lib.hid hg
  have Hcc := Lib.hid hc
  clear hg hc
  have hx1 : 1 ≤ 1 + pickF x0 20 := by omega
  have hx2 : 1 + pickF x0 20 ≤ 20 := by omega
  clear pl ph
  generalize 1 + pickF x0 20 = x at hx1 hx2 ⊢
  go_loopw [9, 10, 23] (fun vl vh vi wr => ∃ (k : Nat) (low high : Int) (s r : R4), k ≤ len ∧ vi = .int .i64 k ∧ vl = .int .i64 low ∧ vh = .int .i64 high ∧ 1 ≤ low ∧ low ≤ 1000 ∧ 0 ≤ high ∧ high ≤ 40 ∧ s.Inv ∧ r.Inv ∧
      (s.m = false ∨ s.m = true ∧ s.S = 8 * x) ∧ (r.m = false ∨ r.m = true ∧ 8 * low - 7 ≤ r.S ∧ r.S ≤ 8 * high) ∧ WR wr g s ∧ WR wr c r ∧ Below W.heap.size W wr)
    (fun _ _ vi _ => len - (intOf vi).toNat)
  case atStart =>
    refine ⟨0, 1000, 0, ⟨0, 0, 0, false⟩, ⟨0, 0, 0, false⟩, by omega, rfl, rfl, rfl, by omega, by omega, by omega, by omega, zero_inv, zero_inv, .inl rfl, .inl rfl, ?_, ?_, ?_⟩
    · rw [Hg.out]
      have h0 : WR (knownR W) W.heap.size ⟨0, 0, 0, false⟩ := Whole.new _ _ _
      exact h0.alloc _
    · rw [Hcc.out]
      exact whole_at _ _ rfl (by simp)
    · exact ((Below.refl _ _).alloc (Nat.le_refl _) _).alloc (by simp) _
  case round =>
    obtain ⟨k, low, high, s, r, hk, rfl, rfl, rfl, i0, i1, i2, i3, his, hir, hs, hr, hws, hwr, hb⟩ := hrel
    by_cases hlt : k < len
    · rcases Hc.out with h0 | ⟨b, off, rfl, hbl, hcell⟩
      · omega
      · obtain ⟨u0, hu0, y0, rfl, l0, g0⟩ := hcell k hlt 0 RdI rfl
        clear hcell
        rw [← hb.cell (p := ⟨b, _, none⟩) hbl] at hu0
        simp only [List.length_cons, List.length_nil, Nat.zero_add, Nat.add_zero, Nat.mul_one] at hu0
        have p1 := pickF_lo y0 40 (by omega)
        have p1' := pickF_hi y0 40 (by omega)
        go_wp2_with fail
        refine (sample_let hws his x).mono ?_
        rintro e w1 ⟨rfl, hw1, k1⟩
        have hb1 := below_kept hb k1 hb.size hgW
        have hr1 := hwr.grown k1 (fun e => hne' (Option.some.inj e))
        obtain ⟨his1, hms⟩ := R4.sample_inv his x
        have hsS := steady_same (r := s) hx1 (by omega) hs
        generalize s.sample x = s1 at hw1 his1 hms hsS
        clear hu0 l0 g0 hws his hs k1 hb hwr
        go_wp2_with fail
        refine (pick_any _ _ _ (by omega) (by omega)).mono ?_
        rintro e w' ⟨rfl, rfl⟩
        generalize pickF y0 40 = n0 at p1 p1' ⊢
        have n1 : 1 ≤ 1 + n0 := by omega
        have n2 : 1 + n0 ≤ 40 := by omega
        have hbt := steady_between (r := r) (n := 1 + n0) (low := low) (high := high) (by omega) (by omega) hr
        have hlo : min low (1 + n0) = low ∧ ¬ 1 + n0 < low ∨ min low (1 + n0) = 1 + n0 ∧ 1 + n0 < low := by omega
        have hhi : max high (1 + n0) = high ∧ ¬ high < 1 + n0 ∨ max high (1 + n0) = 1 + n0 ∧ high < 1 + n0 := by omega
        clear hr p1 p1'
        have w01 : 1 ≤ (1 + n0) := n1
        have Hwr1 := Lib.hid hr1
        have Hw1 := Lib.hid hw1
        have Hb1 := Lib.hid hb1
        have Hbt := Lib.hid hbt
        have HsS := Lib.hid hsS
        have Hir := Lib.hid hir
        have His1 := Lib.hid his1
        have Hms := Lib.hid hms
        clear hr1 hw1 hb1 hbt hsS hir his1 hms
        rcases hlo with ⟨hl, hl2⟩ | ⟨hl, hl2⟩ <;> rcases hhi with ⟨hh, hh2⟩ | ⟨hh, hh2⟩
        all_goals
          have Hl := Lib.hid hl
          have Hh := Lib.hid hh
          clear hl hh
          go_wp2_with fail
          refine (sample_let Hwr1.out Hir.out _).mono ?_
          rintro e w2 ⟨rfl, hr2, k2⟩
          have hw2 := Hw1.out.grown k2 (fun e => hne (Option.some.inj e))
          have hb2 := below_kept Hb1.out k2 Hb1.out.size hcW
          obtain ⟨hir2, hmr⟩ := R4.sample_inv Hir.out (1 + n0)
          have hbt := Hbt.out
          generalize R4.sample r (1 + n0) = r2 at hr2 hir2 hmr hbt
          have hrs : s1.round = x := by unfold R4.round; rw [if_pos Hms.out, HsS.out]; omega
          have q8 := hir2.2.2.2.2 hmr
          have hrr : r2.round = r2.S / 8 := by unfold R4.round; rw [if_pos hmr]; omega
          have qV : 0 ≤ r2.V := hir2.2.2.1
          have c1 := Whole.cell hr2 1
          simp at c1
          have q1 : 1 ≤ r2.S / 8 := by omega
          have ql : min low (1 + n0) - 1 ≤ r2.S / 8 := by omega
          have qh : r2.S / 8 ≤ max high (1 + n0) := by omega
          have q9 : r2.S / 8 ≤ 1000 := by have := hir2.2.1; omega
          rw [Hl.out] at ql hbt
          rw [Hh.out] at qh hbt
          generalize r2.S / 8 = q at hrr q1 ql qh q9
          have Hrr := Lib.hid hrr
          have Hrs := Lib.hid hrs
          have Hbt2 := Lib.hid hbt
          have Hir2 := Lib.hid hir2
          have Hmr := Lib.hid hmr
          have Hr2 := Lib.hid hr2
          have Hw2 := Lib.hid hw2
          have Hb2 := Lib.hid hb2
          clear hrr hrs hbt hir2 hmr hr2 hw2 hb2 q8 k2
          go_wp2_with fail
          refine (round_let Hw2.out His1.out Hrs.out).mono ?_
          rintro e w' ⟨rfl, rfl⟩
          go_wp2_with fail
          refine (round_let Hr2.out Hir2.out Hrr.out).mono ?_
          rintro e w' ⟨rfl, rfl⟩
          go_wp2_with (go_at_call 36; refine (round_let Hr2.out Hir2.out Hrr.out).mono ?_; rintro e w' ⟨rfl, rfl⟩)
          all_goals
            go_roundw
            case rel => exact ⟨k + 1, _, _, s1, r2, by omega, by go_num, rfl, rfl, by omega, by omega, by omega, by omega, His1.out, Hir2.out, .inr ⟨Hms.out, HsS.out⟩, .inr ⟨Hmr.out, Hbt2.out⟩, Hw2.out, Hr2.out, Hb2.out⟩
            case measure => simp [intOf]; omega
    · have pb := pickF_lo x1 11 (by omega)
      have pb' := pickF_hi x1 11 (by omega)
      have f2 := Whole.frozen hwr 2
      have c2 := Whole.cell hwr 2
      have hcl := hwr.lt
      simp at c2
      have hw1 := WR.back hwr (pickF x1 11)
      have hw2 := WR.back hw1 (pickF x1 11 + 1)
      obtain ⟨n1, n2, n3, n4, _⟩ := wait_next hir pb (by omega)
      have hi1 := inv_back hir (pickF x1 11)
      have hi2 := inv_back hir (pickF x1 11 + 1)
      have hrb := R4.round_bounds hi2
      have hlg := late_gt hi2
      dsimp only at hw2
      generalize hone : R4.wait { r with B := pickF x1 11 } = one at n1 n2 n3
      generalize htwo : R4.wait { r with B := pickF x1 11 + 1 } = two at n2 n3 n4
      generalize hrd : R4.round { r with B := pickF x1 11 + 1 } = rd at hrb hlg
      generalize hla : R4.late { r with B := pickF x1 11 + 1 } = la at hlg
      obtain ⟨rb1, rb2⟩ := hrb
      have Hone := Lib.hid hone
      have Htwo := Lib.hid htwo
      have Hrd := Lib.hid hrd
      have Hla := Lib.hid hla
      have Hw1 := Lib.hid hw1
      have Hw2 := Lib.hid hw2
      have Hi1 := Lib.hid hi1
      have Hi2 := Lib.hid hi2
      have Hb := Lib.hid hb
      have Hwr := Lib.hid hwr
      clear hone htwo hrd hla hw1 hw2 hi1 hi2 hb hwr hs hr his hir hws
      go_wp2_with fail
      refine (pick_any _ _ _ (by omega) (by omega)).mono ?_
      rintro e w' ⟨rfl, rfl⟩
      go_wp2_with fail
      refine (wait_let Hw1.out Hi1.out Hone.out).mono ?_
      rintro e w' ⟨rfl, d, rfl⟩
      go_wp2_with fail
      refine (wait_let (WR.drewN Hw2.out d) Hi2.out Htwo.out).mono ?_
      rintro e w' ⟨rfl, d, rfl⟩
      go_wp2_with fail
      refine (rknown_any _).mono ?_
      rintro e w' ⟨rfl, d, rfl⟩
      unfold knownR
      go_wp2_with fail
      refine (late_let (by first | exact WR.drewN (WR.alloc Hw2.out _) _ | exact WR.drewN (WR.alloc (WR.drewN Hw2.out _) _) _) Hi2.out Hla.out).mono ?_
      rintro e w' ⟨rfl, rfl⟩
      go_wp2_with fail
      refine (round_let (by first | exact WR.drewN (WR.alloc Hw2.out _) _ | exact WR.drewN (WR.alloc (WR.drewN Hw2.out _) _) _) Hi2.out Hrd.out).mono ?_
      rintro e w' ⟨rfl, rfl⟩
      go_wp2_with fail
      go_ret
      refine ⟨rfl, ?_⟩
      refine Below.drewN' ?_ _
      refine Below.alloc ?_ (by simp only [World.size_setCell]; exact Hb.out.size) _
      exact (Hb.out.setCell (p := ⟨c, 2, none⟩) hcW _).setCell (p := ⟨c, 2, none⟩) hcW _
end Go.Proofs.Ytklcmaaoomfkiaa

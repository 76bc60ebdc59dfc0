/-
  The walk of 'RttBounds'; what 'Num' answers is a number.
-/
import Derived.Test.YtklcmaaoomfkiaaRttLaw
namespace Go.Proofs.Ytklcmaaoomfkiaa
open Go.RowKit

def SomeI (w : World) (e : Ending) (w' : World) : Prop := ∃ v : Int, e = .returned (.int .i64 v) ∧ -9223372036854775808 ≤ v ∧ v ≤ 9223372036854775807 ∧ w = w'

set_option maxHeartbeats 2000000 in
set_option maxRecDepth 100000 in
theorem num_any (n : Int) (l : -9223372036854775808 ≤ n) (h : n ≤ 9223372036854775807) (w : World) : Calls Try.prog 38 #[.int .i64 n] w (SomeI w) := by
  have p0 := pickF_lo (n.tdiv 9) 3 (by omega)
  have p0' := pickF_hi (n.tdiv 9) 3 (by omega)
  have p1 := pickF_lo n 9 (by omega)
  have p1' := pickF_hi n 9 (by omega)
  have p2 := pickF_lo (n.tdiv 9) 500 (by omega)
  have p2' := pickF_hi (n.tdiv 9) 500 (by omega)
  go_enter Try.func38, Try.ntmps38
  go_wp2_with (go_at_call 20; refine (pick_any _ _ _ (by omega) (by omega)).mono ?_; rintro e w' ⟨rfl, rfl⟩)
  all_goals go_ret
  all_goals exact ⟨_, rfl, by omega, by omega, rfl⟩

theorem dbl_two (n : Nat) (w : Int) (h : 2 ≤ w) : 2 ≤ R4.dbl n w := by
  induction n generalizing w with
  | zero => exact h
  | succ n ih => exact ih _ (by omega)

theorem wait_bounds {r : R4} (h : r.Inv) : 2 ≤ r.wait ∧ r.wait ≤ 32 := by
  have hb := R4.base_bounds h
  have := dbl_two (R4.times r.B) r.base hb.1
  unfold R4.wait
  omega

theorem late_gt {r : R4} (h : r.Inv) : r.round < r.late := by
  have hb := R4.round_bounds h
  unfold R4.late
  omega

theorem inv_back {r : R4} (h : r.Inv) (B : Int) : R4.Inv { r with B := B } := h

set_option maxHeartbeats 4000000 in
set_option maxRecDepth 100000 in
theorem RttBounds_any (v : Value) (W : World) (hv : SlArg 52 W v) (x0 : Int) (_l0 : -9223372036854775808 ≤ x0) (_h0 : x0 ≤ 9223372036854775807) :
    Calls Try.prog 14 #[v, .int .i64 x0] W fun e w' => e = .returned (.bool true) ∧ Below W.heap.size W w' := by
  obtain ⟨A, len, cap, rfl, hlc, hcm, _, hcells⟩ := ints_rd hv
  unfold maxLen at hcm
  have Hc := Lib.hid hcells
  clear hcells hv
  go_enter Try.func14, Try.ntmps14
  go_wp2_with fail
  obtain ⟨g, hg⟩ : ∃ g, g = W.heap.size := ⟨_, rfl⟩
  rw [← hg]
  have hgW : W.heap.size ≤ g := by omega
  have Hg := Lib.hid hg
  clear hg
  go_loopw [11] (fun vi wr => ∃ (k : Nat) (r : R4), k ≤ len ∧ vi = .int .i64 k ∧ r.Inv ∧ WR wr g r ∧ Below W.heap.size W wr) (fun vi _ => len - (intOf vi).toNat)
  case atStart =>
    refine ⟨0, ⟨0, 0, 0, false⟩, by omega, rfl, zero_inv, ?_, (Below.refl _ _).alloc (Nat.le_refl _) _⟩
    rw [Hg.out]
    exact Whole.new _ _ _
  case round =>
    obtain ⟨k, r, hk, rfl, hi, hw, hb⟩ := hrel
    by_cases hlt : k < len
    · rcases Hc.out with h0 | ⟨b, off, rfl, hbl, hcell⟩
      · omega
      · obtain ⟨u0, hu0, y0, rfl, l0, g0⟩ := hcell k hlt 0 RdI rfl
        clear hcell
        rw [← hb.cell (p := ⟨b, _, none⟩) hbl] at hu0
        simp only [List.length_cons, List.length_nil, Nat.zero_add, Nat.add_zero, Nat.mul_one] at hu0
        go_wp2_with fail
        refine (num_any y0 (by omega) (by omega) _).mono ?_
        rintro e w' ⟨n, rfl, n0, n1, rfl⟩
        go_wp2_with fail
        refine (sample_let hw hi n).mono ?_
        rintro e w1 ⟨rfl, hw1, k1⟩
        have hb1 := below_kept hb k1 hb.size hgW
        obtain ⟨hi1, hm1⟩ := R4.sample_inv hi n
        generalize r.sample n = r1 at hw1 hi1 hm1
        obtain ⟨S, V, B, m⟩ := r1
        dsimp only at hm1
        subst hm1
        clear hu0 l0 g0 hw hi k1 hb n0 n1
        have f2 := Whole.frozen hw1 2
        have c2 := Whole.cell hw1 2
        simp at c2
        have hw2 := WR.back hw1 x0
        have hb2 := hb1.setCell (p := ⟨g, 2, none⟩) hgW (.int .i64 x0)
        have hi2 := inv_back hi1 x0
        dsimp only at hw2 hi2
        have hwb := wait_bounds hi2
        have hrb := R4.round_bounds hi2
        have hlg := late_gt hi2
        generalize hr : R4.round ⟨S, V, x0, true⟩ = rd at hrb hlg
        generalize hwt : R4.wait ⟨S, V, x0, true⟩ = wt at hwb
        generalize hlt' : R4.late ⟨S, V, x0, true⟩ = lt at hlg
        have Hr := Lib.hid hr
        have Hwt := Lib.hid hwt
        have Hlt := Lib.hid hlt'
        have rb1 := hrb.1
        have rb2 := hrb.2
        have wb1 := hwb.1
        have wb2 := hwb.2
        clear hr hwt hlt' hrb hwb
        have Hw2 := Lib.hid hw2
        have Hi2 := Lib.hid hi2
        have Hb2 := Lib.hid hb2
        clear hw2 hi2 hb2 hb1 hi1
        go_upto_region 7 with fail
        generalize w1.setCell ⟨g, 2, none⟩ (.int .i64 x0) = w2 at Hw2 Hb2 ⊢
        have c3 := Whole.cell Hw2.out 3
        simp at c3
        clear f2 c2 hw1
        go_wp2_with (first
          | (go_at_call 36; refine (round_let (by first | exact Hw2.out | exact WR.drewN Hw2.out _) Hi2.out Hr.out).mono ?_; rintro e w' ⟨rfl, rfl⟩)
          | (go_at_call 33; refine (wait_let (by first | exact Hw2.out | exact WR.drewN Hw2.out _) Hi2.out Hwt.out).mono ?_; rintro e w' ⟨rfl, d, rfl⟩)
          | (go_at_call 37; refine (late_let (by first | exact Hw2.out | exact WR.drewN Hw2.out _) Hi2.out Hlt.out).mono ?_; rintro e w' ⟨rfl, rfl⟩))
        go_roundw
        case rel => exact ⟨k + 1, ⟨S, V, x0, true⟩, by omega, by go_num, Hi2.out, WR.drewN Hw2.out _, Below.drewN' Hb2.out _⟩
        case measure => simp [intOf]; omega
    · go_wp2_with fail
      refine (rknown_any _).mono ?_
      rintro e w' ⟨rfl, d, rfl⟩
      go_wp2
      go_ret
      exact ⟨rfl, hb.trans ((knownR_below _ _).mono hb.size)⟩
end Go.Proofs.Ytklcmaaoomfkiaa

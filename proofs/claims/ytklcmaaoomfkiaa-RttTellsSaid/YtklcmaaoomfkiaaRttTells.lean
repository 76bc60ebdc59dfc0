/-
  The walk of 'RttTells'.
-/
import Derived.Test.YtklcmaaoomfkiaaRttBounds
import Derived.Test.YtklcmaaoomfkiaaRttRef
namespace Go.Proofs.Ytklcmaaoomfkiaa
open Go.RowKit

/-- The document's struct, known whole, with r in it. -/
def WQ (w : World) (b : Nat) (r : R4) : Prop := Whole w b 53 #[.int .i64 r.S, .int .i64 r.V, .int .i64 r.B, .bool r.m]
theorem WQ.isR {w : World} {b : Nat} {r : R4} (h : WQ w b r) : IsR w b 0 r := isR_mk (S := r.S) (V := r.V) (B := r.B) (m := r.m) h
theorem WQ.drewN {w : World} {b : Nat} {r : R4} (h : WQ w b r) (n : Nat) : WQ (w.drewN n) b r := Whole.drewN h n
theorem WQ.far {w : World} {b : Nat} {r : R4} (h : WQ w b r) {p : Addr} (hp : b ≠ p.block) (u : Value) : WQ (w.setCell p u) b r := Whole.far h hp u
theorem WQ.grown {w w' : World} {b : Nat} {r : R4} {row : Option Nat} (h : WQ w b r) (hb : w.grownBy w' row) (hg : some b ≠ row) : WQ w' b r := Whole.grown h hb hg
theorem WQ.back {w : World} {b : Nat} {r : R4} (h : WQ w b r) (B : Int) : WQ (w.setCell ⟨b, 2, none⟩ (.int .i64 B)) b { r with B := B } := Whole.set h 2 (.int .i64 B)

def LeftQ (w : World) (b : Nat) (r : R4) (e : Ending) (w' : World) : Prop := e = .returned (.tuple #[]) ∧ WQ w' b r ∧ w.grownBy w' (some b)

theorem qsample_let {w : World} {b : Nat} {r : R4} (h : WQ w b r) (hi : r.Inv) (x : Int) :
    Calls Try.prog 39 #[.pointer (some ⟨b, 0, none⟩), .int .i64 x] w (LeftQ w b (r.sample x)) :=
  (rsample_any h.isR hi x).mono fun _ _ ⟨he, d, hw⟩ => ⟨he, by subst hw; exact Whole.drewN (setR_whole h _) _, by subst hw; exact kept_drewN (setR_kept _ _ _ _) _⟩

set_option maxHeartbeats 8000000 in
set_option maxRecDepth 100000 in
theorem RttTells_any (v : Value) (W : World) (hv : SlArg 52 W v) (x0 : Int) (_l0 : -9223372036854775808 ≤ x0) (_h0 : x0 ≤ 9223372036854775807) :
    Calls Try.prog 11 #[v, .int .i64 x0] W fun e w' => e = .returned (.bool true) ∧ Below W.heap.size W w' := by
  obtain ⟨A, len, cap, rfl, hlc, hcm, _, hcells⟩ := ints_rd hv
  unfold maxLen at hcm
  have Hc := Lib.hid hcells
  clear hcells hv
  go_enter Try.func11, Try.ntmps11
  go_wp2_with fail
  obtain ⟨g, hg⟩ : ∃ g, g = W.heap.size := ⟨_, rfl⟩
  obtain ⟨c, hc⟩ : ∃ c, c = W.heap.size + 1 := ⟨_, rfl⟩
  rw [← hc, ← hg]
  have hne : g ≠ c := by omega
  have hne' : c ≠ g := by omega
  have hgW : W.heap.size ≤ g := by omega
  have hcW : W.heap.size ≤ c := by omega
  have Hg := Lib.hid hg
  have Hcc := Lib.hid hc
  clear hg hc
  go_loopw [14] (fun vi wr => ∃ (k : Nat) (r : R4), k ≤ len ∧ vi = .int .i64 k ∧ r.Inv ∧ WR wr g r ∧ WQ wr c r ∧ Below W.heap.size W wr) (fun vi _ => len - (intOf vi).toNat)
  case atStart =>
    refine ⟨0, ⟨0, 0, 0, false⟩, by omega, rfl, zero_inv, ?_, ?_, ((Below.refl _ _).alloc (Nat.le_refl _) _).alloc (by simp) _⟩
    · rw [Hg.out]
      have h0 : WR (knownR W) W.heap.size ⟨0, 0, 0, false⟩ := Whole.new _ _ _
      exact h0.alloc _
    · rw [Hcc.out]
      exact whole_at _ _ rfl (by simp)
  case round =>
    obtain ⟨k, r, hk, rfl, hi, hw, hq, hb⟩ := hrel
    by_cases hlt : k < len
    · rcases Hc.out with h0 | ⟨b, off, rfl, hbl, hcell⟩
      · omega
      · obtain ⟨u0, hu0, y0, rfl, l0, g0⟩ := hcell k hlt 0 RdI rfl
        clear hcell
        rw [← hb.cell (p := ⟨b, _, none⟩) hbl] at hu0
        simp only [List.length_cons, List.length_nil, Nat.zero_add, Nat.add_zero, Nat.mul_one] at hu0
        have p1 := pickF_lo y0 60 (by omega)
        have p1' := pickF_hi y0 60 (by omega)
        have p2 := pickF_lo x0 14 (by omega)
        have p2' := pickF_hi x0 14 (by omega)
        go_upto_if 23 with (go_at_call 20; refine (pick_any _ _ _ (by omega) (by omega)).mono ?_; rintro e w' ⟨rfl, rfl⟩)
        go_cut [9] (fun s9 wx => ∃ n : Int, s9 = .int .i64 n ∧ wx = wr)
        case first =>
          by_cases h18 : pickF y0 19 = 18
          · have hb : (pickF y0 19 == 18) = true := by simp [h18]
            clear h18
            go_wp2_with fail
            refine (num_any y0 (by omega) (by omega) _).mono ?_
            rintro e w' ⟨n, rfl, n0, n1, rfl⟩
            go_wp2_with fail
            go_meet
            exact ⟨n, rfl, rfl⟩
          · have hb : (pickF y0 19 == 18) = false := by simp [h18]
            clear h18
            go_wp2_with fail
            go_meet
            exact ⟨_, rfl, rfl⟩
        case rest =>
          obtain ⟨n, rfl, rfl⟩ := hcut
          clear hu0 l0 g0 p1 p1'
          go_wp2_with fail
          refine (sample_let hw hi n).mono ?_
          rintro e w1 ⟨rfl, hw1, k1⟩
          have hb1 := below_kept hb k1 hb.size hgW
          have hq1 := hq.grown k1 (fun e => hne' (Option.some.inj e))
          go_wp2_with fail
          refine (qsample_let hq1 hi n).mono ?_
          rintro e w2 ⟨rfl, hq2, k2⟩
          have hb2 := below_kept hb1 k2 hb1.size hcW
          have hw2 := hw1.grown k2 (fun e => hne (Option.some.inj e))
          obtain ⟨hi1, hm1⟩ := R4.sample_inv hi n
          generalize r.sample n = r1 at hw2 hq2 hi1 hm1
          obtain ⟨S, V, B, m⟩ := r1
          dsimp only at hm1
          subst hm1
          clear hw hq hi k1 k2 hb hb1 hw1 hq1
          have f2 := Whole.frozen hw2 2
          have c2 := Whole.cell hw2 2
          have fq2 := Whole.frozen hq2 2
          have cq2 := Whole.cell hq2 2
          simp at c2 cq2
          have hw3 := (WR.back hw2 (pickF x0 14 - 2)).far (p := ⟨c, 2, none⟩) hne (.int .i64 (pickF x0 14 - 2))
          have hq3 := WQ.back (WQ.far hq2 (p := ⟨g, 2, none⟩) hne' (.int .i64 (pickF x0 14 - 2))) (pickF x0 14 - 2)
          have hb3 := (hb2.setCell (p := ⟨g, 2, none⟩) hgW (.int .i64 (pickF x0 14 - 2))).setCell (p := ⟨c, 2, none⟩) hcW (.int .i64 (pickF x0 14 - 2))
          have hi2 := inv_back hi1 (pickF x0 14 - 2)
          have Hw3 := Lib.hid hw3
          have Hq3 := Lib.hid hq3
          have Hb3 := Lib.hid hb3
          have Hi2 := Lib.hid hi2
          clear hw3 hq3 hb3 hi2 hi1 hw2 hq2 hb2
          go_upto_region 13 with (go_at_call 20; refine (pick_any _ _ _ (by omega) (by omega)).mono ?_; rintro e w' ⟨rfl, rfl⟩)
          generalize (w2.setCell ⟨g, 2, none⟩ (.int .i64 (pickF x0 14 - 2))).setCell ⟨c, 2, none⟩ (.int .i64 (pickF x0 14 - 2)) = w3 at Hw3 Hq3 Hb3 ⊢
          clear f2 c2 fq2 cq2
          have c0 := Whole.cell Hw3.out 0
          have c1 := Whole.cell Hw3.out 1
          have c3 := Whole.cell Hw3.out 3
          have d0 := Whole.cell Hq3.out 0
          have d1 := Whole.cell Hq3.out 1
          have d3 := Whole.cell Hq3.out 3
          simp at c0 c1 c3 d0 d1 d3
          go_wp2_with (first
            | (go_at_call 36; refine (round_let (by first | exact Hw3.out | exact WR.drewN Hw3.out _) Hi2.out rfl).mono ?_; rintro e w' ⟨rfl, rfl⟩)
            | (go_at_call 33; refine (wait_let (by first | exact Hw3.out | exact WR.drewN Hw3.out _) Hi2.out rfl).mono ?_; rintro e w' ⟨rfl, d, rfl⟩)
            | (go_at_call 37; refine (late_let (by first | exact Hw3.out | exact WR.drewN Hw3.out _) Hi2.out rfl).mono ?_; rintro e w' ⟨rfl, rfl⟩)
            | (go_at_call 40; refine (rround_any (r := ⟨S, V, pickF x0 14 - 2, true⟩) (by first | exact WQ.isR Hq3.out | exact WQ.isR (WQ.drewN Hq3.out _)) Hi2.out).mono ?_; rintro e w' ⟨rfl, rfl⟩)
            | (go_at_call 41; refine (rwait_any (r := ⟨S, V, pickF x0 14 - 2, true⟩) (by first | exact WQ.isR Hq3.out | exact WQ.isR (WQ.drewN Hq3.out _)) Hi2.out).mono ?_; rintro e w' ⟨rfl, d, rfl⟩)
            | (go_at_call 42; refine (rlate_any (r := ⟨S, V, pickF x0 14 - 2, true⟩) (by first | exact WQ.isR Hq3.out | exact WQ.isR (WQ.drewN Hq3.out _)) Hi2.out).mono ?_; rintro e w' ⟨rfl, rfl⟩))
          go_roundw
          case rel => exact ⟨k + 1, ⟨S, V, pickF x0 14 - 2, true⟩, by omega, by go_num, Hi2.out, WR.drewN Hw3.out _, WQ.drewN Hq3.out _, Below.drewN' Hb3.out _⟩
          case measure => simp [intOf]; omega
    · go_wp2_with fail
      refine (rknown_any _).mono ?_
      rintro e w' ⟨rfl, d, rfl⟩
      go_wp2
      go_ret
      exact ⟨rfl, hb.trans ((knownR_below _ _).mono hb.size)⟩
end Go.Proofs.Ytklcmaaoomfkiaa

/-
  The walk of 'RttGrows'.
-/
import Derived.Test.YtklcmaaoomfkiaaRttSteady
namespace Go.Proofs.Ytklcmaaoomfkiaa
open Go.RowKit

theorem grows_S {r : R4} (_h : r.Inv) {a c B : Int} (h1 : 1 ≤ a) (h2 : a ≤ c) (h3 : c ≤ 1000) : (r.sample a).S ≤ (R4.sample { r with B := B } c).S := by
  have e1 : R4.clamp a = a := by unfold R4.clamp; omega
  have e2 : R4.clamp c = c := by unfold R4.clamp; omega
  unfold R4.sample
  dsimp only
  rw [e1, e2]
  split <;> dsimp only <;> omega

theorem round_mono {r s : R4} (hr : r.m = true) (hs : s.m = true) (h : r.S ≤ s.S) : r.round ≤ s.round := by
  unfold R4.round
  rw [if_pos hr, if_pos hs]
  omega

set_option maxHeartbeats 8000000 in
set_option maxRecDepth 100000 in
theorem RttGrows_any (v : Value) (W : World) (hv : SlArg 52 W v) (x0 : Int) (_l0 : -9223372036854775808 ≤ x0) (_h0 : x0 ≤ 9223372036854775807) (x1 : Int) (_l1 : -9223372036854775808 ≤ x1) (_h1 : x1 ≤ 9223372036854775807) (x2 : Int) (_l2 : -9223372036854775808 ≤ x2) (_h2 : x2 ≤ 9223372036854775807) :
    Calls Try.prog 13 #[v, .int .i64 x0, .int .i64 x1, .int .i64 x2] W fun e w' => e = .returned (.bool true) ∧ Below W.heap.size W w' := by
  obtain ⟨A, len, cap, rfl, hlc, hcm, _, hcells⟩ := ints_rd hv
  unfold maxLen at hcm
  have Hc := Lib.hid hcells
  clear hcells hv
  go_enter Try.func13, Try.ntmps13
  go_wp2_with fail
  obtain ⟨g, hg⟩ : ∃ g, g = W.heap.size := ⟨_, rfl⟩
  rw [← hg]
  have hgW : W.heap.size ≤ g := by omega
  have Hg := Lib.hid hg
  clear hg
  go_loopw [19] (fun vi wr => ∃ (k : Nat) (r : R4), k ≤ len ∧ vi = .int .i64 k ∧ r.Inv ∧ WR wr g r ∧ Below W.heap.size W wr) (fun vi _ => len - (intOf vi).toNat)
  case atStart =>
    refine ⟨0, ⟨0, 0, 0, false⟩, by omega, rfl, zero_inv, ?_, (Below.refl _ _).alloc (Nat.le_refl _) _⟩
    rw [Hg.out]
    exact Whole.new _ _ _
  case round =>
    obtain ⟨k, r, hk, rfl, hi, hw, hb⟩ := hrel
    by_cases hlt : k < len
    · rcases Hc.out with h0 | ⟨b, off, rfl, hbl, hcell⟩
      · omega
      · obtain ⟨u0, hu0, y0, rfl, l0, g0⟩ := hcell k hlt 0 RdI rfl
        clear hcell
        rw [← hb.cell (p := ⟨b, _, none⟩) hbl] at hu0
        simp only [List.length_cons, List.length_nil, Nat.zero_add, Nat.add_zero, Nat.mul_one] at hu0
        have p1 := pickF_lo y0 50 (by omega)
        have p1' := pickF_hi y0 50 (by omega)
        go_wp2_with (go_at_call 20; refine (pick_any _ _ _ (by omega) (by omega)).mono ?_; rintro e w' ⟨rfl, rfl⟩)
        refine (sample_let hw hi _).mono ?_
        rintro e w1 ⟨rfl, hw1, k1⟩
        have hb1 := below_kept hb k1 hb.size hgW
        obtain ⟨hi1, _⟩ := R4.sample_inv hi (1 + pickF y0 50)
        go_wp2_with fail
        go_roundw
        case rel => exact ⟨k + 1, _, by omega, by go_num, hi1, hw1, hb1⟩
        case measure => simp [intOf]; omega
    · have pa := pickF_lo x0 50 (by omega)
      have pa' := pickF_hi x0 50 (by omega)
      have pm := pickF_lo x1 20 (by omega)
      have pm' := pickF_hi x1 20 (by omega)
      have pb := pickF_lo x2 9 (by omega)
      have pb' := pickF_hi x2 9 (by omega)
      obtain ⟨S, V, B, m⟩ := r
      have c0 := Whole.cell hw 0
      have c1 := Whole.cell hw 1
      have c2 := Whole.cell hw 2
      have c3 := Whole.cell hw 3
      have hgl := hw.lt
      simp at c0 c1 c2 c3
      go_wp2_with (go_at_call 20; refine (pick_any _ _ _ (by omega) (by omega)).mono ?_; rintro e w' ⟨rfl, rfl⟩)
      -- r.Sample(a)
      refine (sample_let (hw.alloc _) hi _).mono ?_
      rintro e w1 ⟨rfl, hr1, k1⟩
      obtain ⟨hir, hmr⟩ := R4.sample_inv hi (1 + pickF x0 50)
      have hgs := grows_S hi (a := 1 + pickF x0 50) (c := 1 + pickF x0 50 + pickF x1 20) (B := 5) (by omega) (by omega) (by omega)
      have hs0 : WR (wr.alloc (.cells #[.int .i64 S, .int .i64 V, .int .i64 B, .bool m] 51)) wr.heap.size ⟨S, V, B, m⟩ := Whole.new _ _ _
      have hne : g ≠ wr.heap.size := by omega
      have hs1 := hs0.grown k1 (fun e => hne (Option.some.inj e).symm)
      have hsz1 := k1.size
      simp only [World.size_alloc] at hsz1
      have hb1 := below_kept (hb.alloc hb.size (.cells #[.int .i64 S, .int .i64 V, .int .i64 B, .bool m] 51)) k1 (by simp only [World.size_alloc]; have := hb.size; omega) hgW
      have hgs0 := hb.size
      clear k1 hs0 c0 c1 c2 c3 hw hb
      generalize hgs' : wr.heap.size = gs at hne hs1 hsz1 hgs0 ⊢
      have hgsW : W.heap.size ≤ gs := hgs0
      clear hgs' hgs0
      have fs2 := Whole.frozen hs1 2
      have cs2 := Whole.cell hs1 2
      simp at cs2
      have hs2 := hs1.back 5
      have hr2 := hr1.far (p := ⟨gs, 2, none⟩) hne (.int .i64 5)
      have hb2 := hb1.setCell (p := ⟨gs, 2, none⟩) hgsW (.int .i64 5)
      go_wp2_with (go_at_call 20; refine (pick_any _ _ _ (by omega) (by omega)).mono ?_; rintro e w' ⟨rfl, rfl⟩)
      refine (sample_let hs2 hi _).mono ?_
      rintro e w2 ⟨rfl, hs3, k2⟩
      obtain ⟨his, hms⟩ := R4.sample_inv (inv_back hi 5) (1 + pickF x0 50 + pickF x1 20)
      have hsB := R4.sample_B ⟨S, V, 5, m⟩ (1 + pickF x0 50 + pickF x1 20)
      have hr3 := hr2.grown k2 (fun e => hne (Option.some.inj e))
      have hb3 := below_kept hb2 k2 hb2.size hgsW
      have hsz2 := k2.size
      simp only [World.size_setCell] at hsz2
      dsimp only at his hms hgs hs3 hsB
      generalize R4.sample ⟨S, V, 5, m⟩ (1 + pickF x0 50 + pickF x1 20) = s1 at hs3 his hms hgs hsB
      generalize R4.sample ⟨S, V, B, m⟩ (1 + pickF x0 50) = r1 at hr3 hir hmr hgs
      clear k2 hs1 hs2 hr1 hr2 hb1 hb2 fs2 cs2
      have hgl := hr3.lt
      have hsl := hs3.lt
      obtain ⟨q0, q1, q2, q3, q4, q5⟩ := le_steps hgl
      obtain ⟨t0, t1, t2, t3, t4, t5⟩ := le_steps hsl
      have c0 := Whole.cell hr3 0
      have c1 := Whole.cell hr3 1
      have c2 := Whole.cell hr3 2
      have c3 := Whole.cell hr3 3
      have d0 := Whole.cell hs3 0
      have d2 := Whole.cell hs3 2
      simp at c0 c1 c2 c3 d0 d2
      rw [hmr] at c3
      rw [hsB] at d2
      have hrd := round_mono hmr hms hgs
      have e1 := R4.round_bounds hir
      have e2 := R4.round_bounds his
      obtain ⟨n1, n2, n3, n4, n5⟩ := wait_next hir pb (by omega)
      have n6 := n5 (by omega)
      generalize hone : R4.wait { r1 with B := pickF x2 9 } = one at n1 n2 n3 n6
      generalize htwo : R4.wait { r1 with B := pickF x2 9 + 1 } = two at n2 n3 n4 n6
      generalize hrr : R4.round r1 = rd at hrd e1
      generalize hrs : R4.round s1 = sd at hrd e2
      have o1 : WR ((w2.alloc (.cells #[.int .i64 r1.S, .int .i64 r1.V, .int .i64 (pickF x2 9), .bool true] 51)).alloc (.cells #[.int .i64 r1.S, .int .i64 r1.V, .int .i64 (pickF x2 9 + 1), .bool true] 51)) w2.heap.size { r1 with B := pickF x2 9 } := by
        refine WR.alloc ?_ _
        have := whole_at (g := w2.heap.size) 51 #[.int .i64 r1.S, .int .i64 r1.V, .int .i64 (pickF x2 9), .bool true] (rfl : w2.alloc _ = w2.alloc _) rfl
        unfold WR
        rw [hmr]
        exact this
      have o2 : WR ((w2.alloc (.cells #[.int .i64 r1.S, .int .i64 r1.V, .int .i64 (pickF x2 9), .bool true] 51)).alloc (.cells #[.int .i64 r1.S, .int .i64 r1.V, .int .i64 (pickF x2 9 + 1), .bool true] 51)) (w2.heap.size + 1) { r1 with B := pickF x2 9 + 1 } := by
        unfold WR
        rw [hmr]
        exact whole_at _ _ rfl (by simp)
      have Hone := Lib.hid hone
      have Htwo := Lib.hid htwo
      have Hrr := Lib.hid hrr
      have Hrs := Lib.hid hrs
      have O1 := Lib.hid o1
      have O2 := Lib.hid o2
      have Hr3 := Lib.hid hr3
      have Hs3 := Lib.hid hs3
      have Hir := Lib.hid hir
      have His := Lib.hid his
      have Hb3 := Lib.hid hb3
      have N6 := Lib.hid n6
      have hmin : 32 < 2 * one ∧ two = 32 ∨ ¬ 32 < 2 * one ∧ two = 2 * one := by omega
      clear hone htwo hrr hrs o1 o2 hr3 hs3 hir his hb3 n5 n6 hmr hms hsB
      rcases hmin with ⟨hm, ht⟩ | ⟨hm, ht⟩
      all_goals
        have ht2 : (two == two) = true := by simp
        subst ht
        go_wp2_with fail
        refine (pick_any _ _ _ (by omega) (by omega)).mono ?_
        rintro e w' ⟨rfl, rfl⟩
        go_wp2_with fail
        refine (rknown_any _).mono ?_
        rintro e w' ⟨rfl, d, rfl⟩
        unfold knownR
        go_wp2_with fail
        refine (round_let (by first | exact WR.drewN (WR.alloc (WR.alloc (WR.alloc Hs3.out _) _) _) _ | exact WR.alloc (WR.drewN (WR.alloc (WR.alloc Hs3.out _) _) _) _ | exact WR.drewN (WR.alloc (WR.drewN (WR.alloc (WR.alloc Hs3.out _) _) _) _) _) His.out Hrs.out).mono ?_
        rintro e w' ⟨rfl, rfl⟩
        go_wp2_with fail
        refine (round_let (by first | exact WR.drewN (WR.alloc (WR.alloc (WR.alloc Hr3.out _) _) _) _ | exact WR.alloc (WR.drewN (WR.alloc (WR.alloc Hr3.out _) _) _) _ | exact WR.drewN (WR.alloc (WR.drewN (WR.alloc (WR.alloc Hr3.out _) _) _) _) _) Hir.out Hrr.out).mono ?_
        rintro e w' ⟨rfl, rfl⟩
        go_wp2_with fail
        refine (wait_let (by first | exact WR.drewN (WR.alloc O2.out _) _ | exact WR.alloc (WR.drewN O2.out _) _ | exact WR.drewN (WR.alloc (WR.drewN O2.out _) _) _) (inv_back Hir.out _) Htwo.out).mono ?_
        rintro e w' ⟨rfl, d, rfl⟩
        go_wp2_with fail
        refine (wait_let (by first | exact WR.drewN (WR.alloc O1.out _) _ | exact WR.alloc (WR.drewN O1.out _) _ | exact WR.drewN (WR.alloc (WR.drewN O1.out _) _) _) (inv_back Hir.out _) Hone.out).mono ?_
        rintro e w' ⟨rfl, d, rfl⟩
        go_wp2_with fail
        go_ret
        refine ⟨rfl, ?_⟩
        repeat (first | exact Hb3.out | refine Below.alloc ?_ (by first | exact Hb3.out.size | (simp only [World.size_alloc]; have := Hb3.out.size; omega)) _ | refine Below.drewN' ?_ _)
end Go.Proofs.Ytklcmaaoomfkiaa

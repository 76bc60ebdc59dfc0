/-
  The walk of 'CongClimbs'.
-/
import Derived.Test.YtklcmaaoomfkiaaCongKnown
import Derived.Test.YtklcmaaoomfkiaaArgs
namespace Go.Proofs.Ytklcmaaoomfkiaa
open Go.RowKit

attribute [local go_sem] setW

set_option maxHeartbeats 4000000 in
set_option maxRecDepth 100000 in
theorem CongClimbs_any (x0 : Int) (_l0 : -9223372036854775808 ≤ x0) (_h0 : x0 ≤ 9223372036854775807) (x1 : Int) (_l1 : -9223372036854775808 ≤ x1) (_h1 : x1 ≤ 9223372036854775807) (x2 : Int) (_l2 : -9223372036854775808 ≤ x2) (_h2 : x2 ≤ 9223372036854775807) (W : World) :
    Calls Try.prog 6 #[.int .i64 x0, .int .i64 x1, .int .i64 x2] W fun e w' => e = .returned (.bool true) ∧ Below W.heap.size W w' := by
  have p0 := pickF_lo x0 31 (by omega)
  have p0' := pickF_hi x0 31 (by omega)
  have p1 := pickF_lo x1 300 (by omega)
  have p1' := pickF_hi x1 300 (by omega)
  generalize hL : pickF x0 31 = l at p0 p0'
  generalize hN : pickF x1 300 = n at p1 p1'
  have p2 := pickF_lo x2 (n + 1) (by omega)
  have p2' := pickF_hi x2 (n + 1) (by omega)
  generalize hK : pickF x2 (n + 1) = c at p2 p2'
  have HL := Lib.hid hL
  have HN := Lib.hid hN
  have HK := Lib.hid hK
  clear hL hN hK
  have b1 := Lib.hid (show W4.bad ⟨4, 32, 0, 0⟩ 0 1 = ⟨2, 2, 0, 1⟩ from rfl)
  have hi0 : (W4.mk 2 (2 + l) 0 1).Inv := ⟨by dsimp only; omega, by dsimp only; omega, by dsimp only; omega, by dsimp only; omega, by dsimp only; omega, by dsimp only; omega⟩
  have hA := W4.good_inv hi0 n.toNat
  have hB := W4.good_inv hi0 c.toNat
  have hAL := W4.good_L n.toNat ⟨2, 2 + l, 0, 1⟩
  have hAT := W4.good_T n.toNat ⟨2, 2 + l, 0, 1⟩
  have hBL := W4.good_L c.toNat ⟨2, 2 + l, 0, 1⟩
  have hBT := W4.good_T c.toNat ⟨2, 2 + l, 0, 1⟩
  have hAB : W4.good (n - c).toNat (W4.good c.toNat ⟨2, 2 + l, 0, 1⟩) = W4.good n.toNat ⟨2, 2 + l, 0, 1⟩ := by
    rw [← W4.good_add]; congr 1; omega
  generalize hsA : W4.good n.toNat ⟨2, 2 + l, 0, 1⟩ = sA at *
  generalize hsB : W4.good c.toNat ⟨2, 2 + l, 0, 1⟩ = sB at *
  obtain ⟨AS, AL, AP, AT⟩ := sA
  obtain ⟨BS, BL, BP, BT⟩ := sB
  simp only at hAL hAT hBL hBT
  subst hAL hAT hBL hBT
  have HA := Lib.hid hsA
  have HB := Lib.hid hsB
  have HAB := Lib.hid hAB
  clear hsA hsB hAB
  have HhA := Lib.hid hA
  have HhB := Lib.hid hB
  clear hA hB
  go_enter Try.func6, Try.ntmps6
  go_wp2_with (go_at_call 15; refine (cnew_any _).mono ?_; rintro e w' ⟨rfl, rfl⟩)
  refine (bad_any _ 0 ⟨4, 32, 0, 0⟩ 0 1 _ (by constructor <;> simp [go_sem]) (by simp [W4.Inv])).mono ?_
  rw [b1.out]
  rintro e w' ⟨rfl, rfl⟩
  go_wp2_with fail
  refine (pick_any _ _ _ (by omega) (by omega)).mono ?_
  rw [HL.out]
  rintro e w' ⟨rfl, rfl⟩
  go_wp2_with fail
  refine (pick_any _ _ _ (by omega) (by omega)).mono ?_
  rw [HN.out]
  rintro e w' ⟨rfl, rfl⟩
  go_wp2_with fail
  refine (pick_any _ _ _ (by omega) (by omega)).mono ?_
  rw [HK.out]
  rintro e w' ⟨rfl, rfl⟩
  go_wp2_with fail
  refine (good_any _ 0 ⟨2, 2 + l, 0, 1⟩ _ _ (by constructor <;> simp [go_sem]) hi0 (by omega) (by omega)).mono ?_
  rw [HA.out]
  rintro e w' ⟨rfl, d, rfl⟩
  go_wp2_with fail
  refine (good_any _ 0 ⟨2, 2 + l, 0, 1⟩ _ _ (by constructor <;> simp [go_sem]) hi0 (by omega) (by omega)).mono ?_
  rw [HB.out]
  rintro e w' ⟨rfl, d2, rfl⟩
  go_wp2_with fail
  refine (good_any _ 0 ⟨BS, 2 + l, BP, 1⟩ _ _ (by constructor <;> simp [go_sem]) HhB.out (by omega) (by omega)).mono ?_
  rw [HAB.out]
  rintro e w' ⟨rfl, d3, rfl⟩
  go_wp2_with fail
  obtain ⟨g, hg⟩ : ∃ g, g = W.heap.size + 1 := ⟨_, rfl⟩
  obtain ⟨ga, hga⟩ : ∃ ga, ga = W.heap.size + 1 + 1 := ⟨_, rfl⟩
  obtain ⟨gb, hgb⟩ : ∃ gb, gb = W.heap.size + 1 + 1 + 1 := ⟨_, rfl⟩
  rw [← hgb, ← hga, ← hg]
  have hne1 : ga ≠ g := by omega
  have hne2 : gb ≠ g := by omega
  have hgW : W.heap.size ≤ g := by omega
  have Hg := Lib.hid hg
  have Hga := Lib.hid hga
  have Hgb := Lib.hid hgb
  clear hg hga hgb
  go_loopw [11] (fun vi wr => ∃ k : Nat, k ≤ n.toNat ∧ vi = .int .i64 k ∧ (∃ s : W4, Hid (s = W4.good k ⟨2, 2 + l, 0, 1⟩) ∧ Whole wr g 23 #[.int .i64 s.S, .int .i64 s.L, .int .i64 s.P, .int .i64 s.T]) ∧ Whole wr ga 23 #[.int .i64 AS, .int .i64 (2 + l), .int .i64 AP, .int .i64 1] ∧ Whole wr gb 23 #[.int .i64 AS, .int .i64 (2 + l), .int .i64 AP, .int .i64 1] ∧ Below W.heap.size W wr)
    (fun vi _ => n.toNat - (intOf vi).toNat)
  case atStart =>
    refine ⟨0, by omega, rfl, ⟨⟨2, 2 + l, 0, 1⟩, rfl, ?_⟩, ?_, ?_, ?_⟩
    · rw [Hg.out]
      refine Whole.drewN ?_ _
      refine Whole.alloc (Whole.alloc ?_ _) _
      have := Whole.new (W.alloc (.cells #[.int .i64 4, .int .i64 32, .int .i64 0, .int .i64 0] 23)) 23 #[.int .i64 2, .int .i64 (2 + l), .int .i64 0, .int .i64 1]
      rwa [World.size_alloc] at this
    · rw [Hga.out]
      refine Whole.drewN ?_ _
      refine Whole.alloc ?_ _
      have := Whole.new ((W.alloc (.cells #[.int .i64 4, .int .i64 32, .int .i64 0, .int .i64 0] 23)).alloc (.cells #[.int .i64 2, .int .i64 (2 + l), .int .i64 0, .int .i64 1] 23)) 23 #[.int .i64 AS, .int .i64 (2 + l), .int .i64 AP, .int .i64 1]
      rwa [World.size_alloc, World.size_alloc] at this
    · rw [Hgb.out]
      refine Whole.drewN ?_ _
      have := Whole.new (((W.alloc (.cells #[.int .i64 4, .int .i64 32, .int .i64 0, .int .i64 0] 23)).alloc (.cells #[.int .i64 2, .int .i64 (2 + l), .int .i64 0, .int .i64 1] 23)).alloc (.cells #[.int .i64 AS, .int .i64 (2 + l), .int .i64 AP, .int .i64 1] 23)) 23 #[.int .i64 AS, .int .i64 (2 + l), .int .i64 AP, .int .i64 1]
      rwa [World.size_alloc, World.size_alloc, World.size_alloc] at this
    · refine Below.drewN' ?_ _
      repeat (first | exact Below.refl _ _ | refine Below.alloc ?_ (by first | omega | (simp only [World.size_alloc]; omega)) _)
  case round =>
    obtain ⟨k, hk, rfl, ⟨s, hs, hw⟩, ha, hb, hB⟩ := hrel
    have hi : s.Inv := by rw [hs.out]; exact W4.good_inv hi0 k
    have hsL : s.L = 2 + l := by rw [hs.out]; exact W4.good_L _ _
    have hsT : s.T = 1 := by rw [hs.out]; exact W4.good_T _ _
    have hst : W4.good (k + 1) ⟨2, 2 + l, 0, 1⟩ = s.step := by rw [W4.good_succ, ← hs.out]
    obtain ⟨S, L, P, T⟩ := s
    simp only at hsL hsT hw
    subst hsL hsT
    obtain ⟨i0, i1, i2, i3, i4, i5⟩ := id hi
    simp only at i0 i1 i2 i3 i4 i5
    have Hst := Lib.hid hst
    clear hst
    have hW : IsW wr g 0 ⟨S, 2 + l, P, 1⟩ := isW_mk hw
    have c0 := hW.c0
    have c1 := hW.c1
    have c2 := hW.c2
    have c3 := hW.c3
    simp only [Nat.zero_add] at c0 c1 c2 c3
    have hgl := hw.lt
    obtain ⟨q0, q1, q2, q3, q4, q5⟩ := le_steps hgl
    by_cases hlt : (k : Int) < n
    · by_cases h1 : S < 2 + l
      · have H1 := Lib.hid (show W4.good 1 ⟨S, 2 + l, P, 1⟩ = ⟨S + 1, 2 + l, P, 1⟩ by rw [W4.good, W4.good, W4.step, if_pos h1])
        go_wp2_with fail
        refine (good_any _ 0 ⟨S, 2 + l, P, 1⟩ _ _ (hW.alloc _) hi (by omega) (by omega)).mono ?_
        rw [show (Int.toNat 1) = 1 from rfl, H1.out]
        rintro e w' ⟨rfl, d, rfl⟩
        go_wp2_with fail
        go_roundw
        case rel =>
          refine ⟨k + 1, by omega, by go_num, ⟨⟨S + 1, 2 + l, P, 1⟩, by rw [Hid, Hst.out]; exact H1.out.symm, ?_⟩, ?_, ?_, ?_⟩
          · exact ((setW_whole hw ⟨S + 1, 2 + l, P, 1⟩).alloc _).drewN _
          · exact (((((((ha.far hne1 _).far hne1 _).far hne1 _).far hne1 _).alloc _)).drewN _)
          · exact (((((((hb.far hne2 _).far hne2 _).far hne2 _).far hne2 _).alloc _)).drewN _)
          · repeat (first | exact hB | refine Below.alloc ?_ (by first | exact hB.size | (simp only [World.size_alloc, World.size_setCell, World.heap_drewN]; have := hB.size; omega)) _ | refine Below.setCell ?_ hgW _ | refine Below.drewN' ?_ _)
        case measure => simp [intOf]; omega
      · by_cases h2 : P + 1 = S
        · have h3 : ¬ P + 1 < S := by omega
          by_cases h4 : S = 32
          · have H1 := Lib.hid (show W4.good 1 ⟨S, 2 + l, P, 1⟩ = ⟨S, 2 + l, 0, 1⟩ by rw [W4.good, W4.good, W4.step, if_neg h1, if_pos h2, show min (S + 1) 32 = S by omega])
            clear h2 h4
            go_wp2_with fail
            refine (good_any _ 0 ⟨S, 2 + l, P, 1⟩ _ _ (hW.alloc _) hi (by omega) (by omega)).mono ?_
            rw [show (Int.toNat 1) = 1 from rfl, H1.out]
            rintro e w' ⟨rfl, d, rfl⟩
            go_wp2_with fail
            go_roundw
            case rel =>
              refine ⟨k + 1, by omega, by go_num, ⟨⟨S, 2 + l, 0, 1⟩, by rw [Hid, Hst.out]; exact H1.out.symm, ?_⟩, ?_, ?_, ?_⟩
              · exact ((setW_whole hw ⟨S, 2 + l, 0, 1⟩).alloc _).drewN _
              · exact (((((((ha.far hne1 _).far hne1 _).far hne1 _).far hne1 _).alloc _)).drewN _)
              · exact (((((((hb.far hne2 _).far hne2 _).far hne2 _).far hne2 _).alloc _)).drewN _)
              · repeat (first | exact hB | refine Below.alloc ?_ (by first | exact hB.size | (simp only [World.size_alloc, World.size_setCell, World.heap_drewN]; have := hB.size; omega)) _ | refine Below.setCell ?_ hgW _ | refine Below.drewN' ?_ _)
            case measure => simp [intOf]; omega
          · have H1 := Lib.hid (show W4.good 1 ⟨S, 2 + l, P, 1⟩ = ⟨S + 1, 2 + l, 0, 1⟩ by rw [W4.good, W4.good, W4.step, if_neg h1, if_pos h2, show min (S + 1) 32 = S + 1 by omega])
            clear h2 h4
            go_wp2_with fail
            refine (good_any _ 0 ⟨S, 2 + l, P, 1⟩ _ _ (hW.alloc _) hi (by omega) (by omega)).mono ?_
            rw [show (Int.toNat 1) = 1 from rfl, H1.out]
            rintro e w' ⟨rfl, d, rfl⟩
            go_wp2_with fail
            go_roundw
            case rel =>
              refine ⟨k + 1, by omega, by go_num, ⟨⟨S + 1, 2 + l, 0, 1⟩, by rw [Hid, Hst.out]; exact H1.out.symm, ?_⟩, ?_, ?_, ?_⟩
              · exact ((setW_whole hw ⟨S + 1, 2 + l, 0, 1⟩).alloc _).drewN _
              · exact (((((((ha.far hne1 _).far hne1 _).far hne1 _).far hne1 _).alloc _)).drewN _)
              · exact (((((((hb.far hne2 _).far hne2 _).far hne2 _).far hne2 _).alloc _)).drewN _)
              · repeat (first | exact hB | refine Below.alloc ?_ (by first | exact hB.size | (simp only [World.size_alloc, World.size_setCell, World.heap_drewN]; have := hB.size; omega)) _ | refine Below.setCell ?_ hgW _ | refine Below.drewN' ?_ _)
            case measure => simp [intOf]; omega
        · have h3 : P + 1 < S := by omega
          have H1 := Lib.hid (show W4.good 1 ⟨S, 2 + l, P, 1⟩ = ⟨S, 2 + l, P + 1, 1⟩ by rw [W4.good, W4.good, W4.step, if_neg h1, if_neg h2])
          clear h2
          go_wp2_with fail
          refine (good_any _ 0 ⟨S, 2 + l, P, 1⟩ _ _ (hW.alloc _) hi (by omega) (by omega)).mono ?_
          rw [show (Int.toNat 1) = 1 from rfl, H1.out]
          rintro e w' ⟨rfl, d, rfl⟩
          go_wp2_with fail
          go_roundw
          case rel =>
            refine ⟨k + 1, by omega, by go_num, ⟨⟨S, 2 + l, P + 1, 1⟩, by rw [Hid, Hst.out]; exact H1.out.symm, ?_⟩, ?_, ?_, ?_⟩
            · exact ((setW_whole hw ⟨S, 2 + l, P + 1, 1⟩).alloc _).drewN _
            · exact (((((((ha.far hne1 _).far hne1 _).far hne1 _).far hne1 _).alloc _)).drewN _)
            · exact (((((((hb.far hne2 _).far hne2 _).far hne2 _).far hne2 _).alloc _)).drewN _)
            · repeat (first | exact hB | refine Below.alloc ?_ (by first | exact hB.size | (simp only [World.size_alloc, World.size_setCell, World.heap_drewN]; have := hB.size; omega)) _ | refine Below.setCell ?_ hgW _ | refine Below.drewN' ?_ _)
          case measure => simp [intOf]; omega
    · obtain rfl : k = n.toNat := by omega
      have he : W4.mk S (2 + l) P 1 = ⟨AS, 2 + l, AP, 1⟩ := hs.out.trans HA.out
      simp only [W4.mk.injEq, true_and, and_true] at he
      obtain ⟨rfl, rfl⟩ := he
      have a0 := ha.cell 0
      have a1 := ha.cell 1
      have a2 := ha.cell 2
      have a3 := ha.cell 3
      have b0 := hb.cell 0
      have b1 := hb.cell 1
      have b2 := hb.cell 2
      have b3 := hb.cell 3
      simp at a0 a1 a2 a3 b0 b1 b2 b3
      have hal := ha.lt
      have hbl := hb.lt
      obtain ⟨r0, r1, r2, r3, r4, r5⟩ := le_steps hal
      obtain ⟨s0, s1, s2, s3, s4, s5⟩ := le_steps hbl
      go_wp2_with (go_at_call 18; refine (cknown_any _).mono ?_; rintro e w' ⟨rfl, rfl⟩; unfold knownW)
      go_ret
      refine ⟨rfl, ?_⟩
      repeat (first | exact hB | refine Below.alloc ?_ (by first | exact hB.size | (simp only [World.size_alloc]; have := hB.size; omega)) _)
end Go.Proofs.Ytklcmaaoomfkiaa

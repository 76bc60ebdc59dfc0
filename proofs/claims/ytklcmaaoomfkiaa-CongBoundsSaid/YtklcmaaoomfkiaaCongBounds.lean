/-
  The walk of 'CongBounds'.
-/
import Derived.Test.YtklcmaaoomfkiaaCongRaw
namespace Go.Proofs.Ytklcmaaoomfkiaa
open Go.RowKit

attribute [local go_sem] setW

set_option maxHeartbeats 8000000 in
set_option maxRecDepth 100000 in
theorem CongBounds_any (v : Value) (W : World) (hv : SlArg 28 W v) : Calls Try.prog 5 #[v] W fun e w' => e = .returned (.bool true) ∧ Below W.heap.size W w' := by
  obtain ⟨A, len, cap, rfl, hlc, hcm, _, hcells⟩ := rawC_rd hv
  unfold maxLen at hcm
  have Hc := Lib.hid hcells
  clear hcells hv
  go_enter Try.func5, Try.ntmps5
  go_wp2_with (go_at_call 15; refine (cnew_any _).mono ?_; rintro e w' ⟨rfl, rfl⟩)
  obtain ⟨g, hg⟩ : ∃ g, g = W.heap.size + 1 := ⟨_, rfl⟩
  rw [← hg]
  have Hg := Lib.hid hg
  have hgW : W.heap.size ≤ g := by omega
  clear hg
  go_loopw [12] (fun vi wr => ∃ (k : Nat) (s : W4), k ≤ len ∧ vi = .int .i64 k ∧ s.Inv ∧ 0 ≤ s.T ∧ s.T ≤ 100 ∧ Whole wr g 23 #[.int .i64 s.S, .int .i64 s.L, .int .i64 s.P, .int .i64 s.T] ∧ Below W.heap.size W wr)
    (fun vi _ => len - (intOf vi).toNat)
  case atStart =>
    refine ⟨0, ⟨4, 32, 0, 0⟩, by omega, rfl, by simp [W4.Inv], by simp, by simp, ?_, ?_⟩
    · rw [Hg.out]
      have := Whole.new (W.alloc (.cells #[.int .i64 4, .int .i64 32, .int .i64 0, .int .i64 0] 23)) 23 #[.int .i64 4, .int .i64 32, .int .i64 0, .int .i64 0]
      rwa [World.size_alloc] at this
    · exact ((Below.refl _ _).alloc (Nat.le_refl _) _).alloc (by simp) _
  case round =>
    obtain ⟨k, s, hk, rfl, hi, hT0, hT1, hw, hb⟩ := hrel
    by_cases hlt : k < len
    · rcases Hc.out with h0 | ⟨b, off, rfl, hbl, hcell⟩
      · omega
      · obtain ⟨u0, hu0, x0, rfl, l0, g0⟩ := hcell k hlt 0 RdI rfl
        obtain ⟨u1, hu1, x1, rfl, l1, g1⟩ := hcell k hlt 1 RdI rfl
        obtain ⟨u2, hu2, x2, rfl, l2, g2⟩ := hcell k hlt 2 RdI rfl
        clear hcell
        rw [← hb.cell (p := ⟨b, _, none⟩) hbl] at hu0 hu1 hu2
        simp only [List.length_cons, List.length_nil, Nat.zero_add, Nat.add_zero, Nat.reduceAdd] at hu0 hu1 hu2
        have p0 := pickF_lo x0 3 (by omega)
        have p0' := pickF_hi x0 3 (by omega)
        have p1 := pickF_lo x1 60 (by omega)
        have p1' := pickF_hi x1 60 (by omega)
        have p2 := pickF_lo x2 20 (by omega)
        have p2' := pickF_hi x2 20 (by omega)
        obtain ⟨S, L, P, T⟩ := s
        obtain ⟨i0, i1, i2, i3, i4, i5⟩ := id hi
        simp only at hT0 hT1 hw i0 i1 i2 i3 i4 i5
        have hW : IsW wr g 0 ⟨S, L, P, T⟩ := isW_mk hw
        have c0 := hW.c0
        have c1 := hW.c1
        have c2 := hW.c2
        have c3 := hW.c3
        have f0 := hW.f0
        have f1 := hW.f1
        have f2 := hW.f2
        have f3 := hW.f3
        simp only [Nat.zero_add] at c0 c1 c2 c3 f0 f1 f2 f3
        have hgl := hw.lt
        obtain ⟨q0, q1, q2, q3, q4, q5⟩ := le_steps hgl
        by_cases hp : pickF x0 3 = 0
        · have hpb : (pickF x0 3 == 0) = true := by simp [hp]
          clear hp
          by_cases hb1 : pickF x1 60 < T
          · have E1 := Lib.hid (show ∀ nx, W4.bad ⟨S, L, P, T⟩ (pickF x1 60) nx = ⟨S, L, P, T⟩ from fun nx => by unfold W4.bad; rw [if_pos hb1])
            have E2 := Lib.hid (show ∀ nx, W4.bad ⟨S, L, P, T⟩ (T - 1) nx = ⟨S, L, P, T⟩ from fun nx => by unfold W4.bad; rw [if_pos (by simp only; omega)])
            go_wp2_with (go_at_call 20; refine (pick_any _ _ _ (by omega) (by omega)).mono ?_; rintro e w' ⟨rfl, rfl⟩)
            refine (bad_any _ 0 ⟨S, L, P, T⟩ _ _ _ ((hW.alloc _).alloc _) hi).mono ?_
            rw [E1.out, setW_id ((hW.alloc _).alloc _)]
            rintro e w' ⟨rfl, rfl⟩
            go_wp2_with fail
            refine (bad_any _ 0 ⟨S, L, P, T⟩ _ _ _ (by constructor <;> simp [go_sem]) hi).mono ?_
            rw [E2.out, setW_id (by constructor <;> simp [go_sem])]
            rintro e w' ⟨rfl, rfl⟩
            go_wp2_with (go_at_call 23; refine (fits_any _ 0 (S) _ _ ?_).mono ?_; (focus (simp [go_sem, c0, hgl, q0, q1])); rintro e w' ⟨rfl, rfl⟩)
            go_roundw
            case rel =>
              refine ⟨k + 1, ⟨S, L, P, T⟩, by omega, by go_num, hi, by omega, by omega, ?_, ?_⟩
              · exact ((hw.alloc _).alloc _).alloc _
              · repeat (first | exact hb | refine Below.alloc ?_ (by first | exact hb.size | (simp only [World.size_alloc, World.size_setCell, World.heap_drewN]; have := hb.size; omega)) _ | refine Below.setCell ?_ hgW _ | refine Below.drewN' ?_ _)
            case measure => simp [intOf]; omega
          · have hinv := W4.bad_inv hi (pickF x1 60) (pickF x1 60 + 1 + pickF x2 20)
            have hbad : W4.bad ⟨S, L, P, T⟩ (pickF x1 60) (pickF x1 60 + 1 + pickF x2 20) = ⟨max 2 (S / 2), max 2 (S / 2), 0, pickF x1 60 + 1 + pickF x2 20⟩ := by unfold W4.bad; rw [if_neg hb1]
            rw [hbad] at hinv
            by_cases hm : 2 < S / 2
            · trace "hi1"
              have hmm : max 2 (S / 2) = S / 2 := by omega
              rw [hmm] at hinv hbad
              clear hmm
              have E1 := Lib.hid hbad
              clear hbad
              have E2 := Lib.hid (show ∀ nx, W4.bad ⟨S / 2, S / 2, 0, pickF x1 60 + 1 + pickF x2 20⟩ (pickF x1 60 + 1 + pickF x2 20 - 1) nx = ⟨S / 2, S / 2, 0, pickF x1 60 + 1 + pickF x2 20⟩ from fun nx => by unfold W4.bad; rw [if_pos (by simp only; omega)])
              go_wp2_with (go_at_call 20; refine (pick_any _ _ _ (by omega) (by omega)).mono ?_; rintro e w' ⟨rfl, rfl⟩)
              refine (bad_any _ 0 ⟨S, L, P, T⟩ _ _ _ ((hW.alloc _).alloc _) hi).mono ?_
              rw [E1.out]
              rintro e w' ⟨rfl, rfl⟩
              go_wp2_with fail
              refine (bad_any _ 0 ⟨S / 2, S / 2, 0, pickF x1 60 + 1 + pickF x2 20⟩ _ _ _ (by constructor <;> simp [go_sem]) hinv).mono ?_
              rw [E2.out, setW_id (by constructor <;> simp [go_sem])]
              rintro e w' ⟨rfl, rfl⟩
              go_wp2_with (go_at_call 23; refine (fits_any _ 0 (S / 2) _ _ ?_).mono ?_; (focus (simp [go_sem, c0, hgl, q0, q1])); rintro e w' ⟨rfl, rfl⟩)
              go_roundw
              case rel =>
                refine ⟨k + 1, ⟨S / 2, S / 2, 0, pickF x1 60 + 1 + pickF x2 20⟩, by omega, by go_num, hinv, by dsimp only; omega, by dsimp only; omega, ?_, ?_⟩
                · exact (((setW_whole hw ⟨S / 2, S / 2, 0, pickF x1 60 + 1 + pickF x2 20⟩).alloc _).alloc _).alloc _
                · repeat (first | exact hb | refine Below.alloc ?_ (by first | exact hb.size | (simp only [World.size_alloc, World.size_setCell, World.heap_drewN]; have := hb.size; omega)) _ | refine Below.setCell ?_ hgW _ | refine Below.drewN' ?_ _)
              case measure => simp [intOf]; omega
            · trace "hi2"
              have hmm : max 2 (S / 2) = 2 := by omega
              rw [hmm] at hinv hbad
              clear hmm
              have E1 := Lib.hid hbad
              clear hbad
              have E2 := Lib.hid (show ∀ nx, W4.bad ⟨2, 2, 0, pickF x1 60 + 1 + pickF x2 20⟩ (pickF x1 60 + 1 + pickF x2 20 - 1) nx = ⟨2, 2, 0, pickF x1 60 + 1 + pickF x2 20⟩ from fun nx => by unfold W4.bad; rw [if_pos (by simp only; omega)])
              go_wp2_with (go_at_call 20; refine (pick_any _ _ _ (by omega) (by omega)).mono ?_; rintro e w' ⟨rfl, rfl⟩)
              refine (bad_any _ 0 ⟨S, L, P, T⟩ _ _ _ ((hW.alloc _).alloc _) hi).mono ?_
              rw [E1.out]
              rintro e w' ⟨rfl, rfl⟩
              go_wp2_with fail
              refine (bad_any _ 0 ⟨2, 2, 0, pickF x1 60 + 1 + pickF x2 20⟩ _ _ _ (by constructor <;> simp [go_sem]) hinv).mono ?_
              rw [E2.out, setW_id (by constructor <;> simp [go_sem])]
              rintro e w' ⟨rfl, rfl⟩
              go_wp2_with (go_at_call 23; refine (fits_any _ 0 (2) _ _ ?_).mono ?_; (focus (simp [go_sem, c0, hgl, q0, q1])); rintro e w' ⟨rfl, rfl⟩)
              go_roundw
              case rel =>
                refine ⟨k + 1, ⟨2, 2, 0, pickF x1 60 + 1 + pickF x2 20⟩, by omega, by go_num, hinv, by dsimp only; omega, by dsimp only; omega, ?_, ?_⟩
                · exact (((setW_whole hw ⟨2, 2, 0, pickF x1 60 + 1 + pickF x2 20⟩).alloc _).alloc _).alloc _
                · repeat (first | exact hb | refine Below.alloc ?_ (by first | exact hb.size | (simp only [World.size_alloc, World.size_setCell, World.heap_drewN]; have := hb.size; omega)) _ | refine Below.setCell ?_ hgW _ | refine Below.drewN' ?_ _)
              case measure => simp [intOf]; omega
        · have hpb : (pickF x0 3 == 0) = false := by simp [hp]
          clear hp
          have hinv := W4.good_inv hi (pickF x1 60).toNat
          have hrise := W4.good_rise hi (pickF x1 60).toNat
          have hgL := W4.good_L (pickF x1 60).toNat ⟨S, L, P, T⟩
          have hgT := W4.good_T (pickF x1 60).toNat ⟨S, L, P, T⟩
          generalize hs' : W4.good (pickF x1 60).toNat ⟨S, L, P, T⟩ = s' at *
          obtain ⟨S', L', P', T'⟩ := s'
          simp only at hgL hgT hrise
          obtain rfl : L = L' := hgL.symm
          obtain rfl : T = T' := hgT.symm
          have hr1 := hrise.1
          have hr2 : S' ≤ S + pickF x1 60 := by have := hrise.2; omega
          have i0' : 2 ≤ S' := hinv.1
          have i1' : S' ≤ 32 := hinv.2.1
          have i4' : 0 ≤ P' := hinv.2.2.2.2.1
          have i5' : P' < S' := hinv.2.2.2.2.2
          have Hs' := Lib.hid hs'
          clear hs' hrise hgL hgT
          trace "good"
          go_wp2_with (go_at_call 20; refine (pick_any _ _ _ (by omega) (by omega)).mono ?_; rintro e w' ⟨rfl, rfl⟩)
          refine (good_any _ 0 ⟨S, L, P, T⟩ _ _ ((hW.alloc _).alloc _) hi (by omega) (by omega)).mono ?_
          rw [Hs'.out]
          rintro e w' ⟨rfl, d, rfl⟩
          go_wp2_with (go_at_call 23; refine (fits_any _ 0 (S') _ _ ?_).mono ?_; (focus (simp [go_sem, c0, hgl, q0, q1])); rintro e w' ⟨rfl, rfl⟩)
          go_roundw
          case rel =>
            refine ⟨k + 1, ⟨S', L, P', T⟩, by omega, by go_num, hinv, by dsimp only; omega, by dsimp only; omega, ?_, ?_⟩
            · exact (((setW_whole hw ⟨S', L, P', T⟩).alloc _).alloc _).drewN _
            · repeat (first | exact hb | refine Below.alloc ?_ (by first | exact hb.size | (simp only [World.size_alloc, World.size_setCell, World.heap_drewN]; have := hb.size; omega)) _ | refine Below.setCell ?_ hgW _ | refine Below.drewN' ?_ _)
          case measure => simp [intOf]; omega
    · go_wp2_with fail
      refine (cknown_any _).mono ?_
      rintro e w' ⟨rfl, rfl⟩
      go_wp2
      go_ret
      exact ⟨rfl, hb.trans ((knownW_below _).mono hb.size)⟩
end Go.Proofs.Ytklcmaaoomfkiaa

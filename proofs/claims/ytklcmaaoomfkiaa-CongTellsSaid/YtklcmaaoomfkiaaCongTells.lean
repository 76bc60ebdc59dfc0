/-
  The walk of 'CongTells'.
-/
import Derived.Test.YtklcmaaoomfkiaaCongRaw
namespace Go.Proofs.Ytklcmaaoomfkiaa
open Go.RowKit

attribute [local go_sem] setW

set_option maxHeartbeats 400000 in
theorem rnew_any (w : World) :
    Calls Try.prog 19 #[] w fun e w' => e = .returned (.agg #[.int .i64 4, .int .i64 32, .int .i64 0, .int .i64 0]) ∧ w' = w.alloc (.cells #[.int .i64 4, .int .i64 32, .int .i64 0, .int .i64 0] 29) := by
  go_enter Try.func19, Try.ntmps19
  go_wp2
  exact bodyPost_ret (v := .agg #[.int .i64 4, .int .i64 32, .int .i64 0, .int .i64 0]) (by simp [results, Try.results19, go_sem]) rfl ⟨rfl, rfl⟩

set_option maxHeartbeats 4000000 in
set_option maxRecDepth 100000 in
theorem CongTells_any (v : Value) (W : World) (hv : SlArg 28 W v) (x0 : Int) (_l0 : -9223372036854775808 ≤ x0) (_h0 : x0 ≤ 9223372036854775807) (x1 : Int) (_l1 : -9223372036854775808 ≤ x1) (_h1 : x1 ≤ 9223372036854775807) (x2 : Int) (_l2 : -9223372036854775808 ≤ x2) (_h2 : x2 ≤ 9223372036854775807) :
    Calls Try.prog 4 #[v, .int .i64 x0, .int .i64 x1, .int .i64 x2] W fun e w' => e = .returned (.bool true) ∧ Below W.heap.size W w' := by
  obtain ⟨A, len, cap, rfl, hlc, hcm, _, hcells⟩ := rawC_rd hv
  unfold maxLen at hcm
  have Hc := Lib.hid hcells
  clear hcells hv
  go_enter Try.func4, Try.ntmps4
  have hp3 := pickF_lo x0 3 (by omega)
  go_upto_if 18 with (first
    | (go_at_call 20; refine (pick_any _ _ _ (by omega) (by omega)).mono ?_; rintro e w' ⟨rfl, rfl⟩)
    | (go_at_call 15; refine (cnew_any _).mono ?_; rintro e w' ⟨rfl, rfl⟩)
    | (go_at_call 19; refine (rnew_any _).mono ?_; rintro e w' ⟨rfl, rfl⟩))
  go_cut [9, 10] (fun s9 s10 wx => s9 = .pointer (some ⟨W.heap.size + 1, 0, none⟩) ∧ s10 = .pointer (some ⟨W.heap.size + 1 + 1 + 1, 0, none⟩) ∧ Below W.heap.size W wx ∧
    ∃ s : W4, s.Inv ∧ s.T = 0 ∧ Whole wx (W.heap.size + 1) 23 #[.int .i64 s.S, .int .i64 s.L, .int .i64 s.P, .int .i64 s.T] ∧ Whole wx (W.heap.size + 1 + 1 + 1) 29 #[.int .i64 s.S, .int .i64 s.L, .int .i64 s.P, .int .i64 s.T])
  case first =>
    by_cases h2 : pickF x0 3 = 2
    · have h2b : (pickF x0 3 == 2) = true := by simp [h2]
      clear h2
      have p1 := pickF_lo (x0.tdiv 3) 31 (by omega)
      have p1' := pickF_hi (x0.tdiv 3) 31 (by omega)
      have p2 := pickF_lo x1 31 (by omega)
      have p2' := pickF_hi x1 31 (by omega)
      have p3 := pickF_lo x2 (2 + pickF (x0.tdiv 3) 31) (by omega)
      have p3' := pickF_hi x2 (2 + pickF (x0.tdiv 3) 31) (by omega)
      go_wp2_with (go_at_call 20; refine (pick_any _ _ _ (by omega) (by omega)).mono ?_; rintro e w' ⟨rfl, rfl⟩)
      go_meet
      refine ⟨rfl, rfl, ?_, ⟨2 + pickF (x0.tdiv 3) 31, 2 + pickF x1 31, pickF x2 (2 + pickF (x0.tdiv 3) 31), 0⟩, ⟨by dsimp only; omega, by dsimp only; omega, by dsimp only; omega, by dsimp only; omega, by dsimp only; omega, by dsimp only; omega⟩, rfl, ?_, ?_⟩
      · repeat (first | exact Below.refl _ _ | refine Below.alloc ?_ (by first | omega | (simp only [World.size_alloc]; omega)) _)
      · refine Whole.alloc (Whole.alloc ?_ _) _
        refine whole_new' _ _ _ rfl ?_
        simp
      · refine whole_new' _ _ _ rfl ?_
        simp
    · have h2b : (pickF x0 3 == 2) = false := by simp [h2]
      clear h2
      go_wp2_with fail
      go_meet
      refine ⟨rfl, rfl, ?_, ⟨4, 32, 0, 0⟩, by simp [W4.Inv], rfl, ?_, ?_⟩
      · repeat (first | exact Below.refl _ _ | refine Below.alloc ?_ (by first | omega | (simp only [World.size_alloc]; omega)) _)
      · refine Whole.alloc (Whole.alloc ?_ _) _
        refine whole_new' _ _ _ rfl ?_
        simp
      · refine whole_new' _ _ _ rfl ?_
        simp
  case rest =>
    obtain ⟨rfl, rfl, hbc, s0, hs0, hT0, hwg, hwa⟩ := hcut
    obtain ⟨g, hg⟩ : ∃ g, g = W.heap.size + 1 := ⟨_, rfl⟩
    obtain ⟨ga, hga⟩ : ∃ ga, ga = W.heap.size + 1 + 1 + 1 := ⟨_, rfl⟩
    rw [← hga] at hwa ⊢
    rw [← hg] at hwg ⊢
    have hne : ga ≠ g := by omega
    have hne' : g ≠ ga := by omega
    have hgW : W.heap.size ≤ g := by omega
    have hgaW : W.heap.size ≤ ga := by omega
    clear hg hga
    go_wp2_with fail
    go_loopw [41] (fun vi wr => ∃ (k : Nat) (s : W4), k ≤ len ∧ vi = .int .i64 k ∧ s.Inv ∧ -100 ≤ s.T ∧ s.T ≤ 100 ∧ Whole wr g 23 #[.int .i64 s.S, .int .i64 s.L, .int .i64 s.P, .int .i64 s.T] ∧ Whole wr ga 29 #[.int .i64 s.S, .int .i64 s.L, .int .i64 s.P, .int .i64 s.T] ∧ Below W.heap.size W wr)
      (fun vi _ => len - (intOf vi).toNat)
    case atStart => exact ⟨0, s0, by omega, rfl, hs0, by omega, by omega, hwg, hwa, hbc⟩
    case round =>
      clear hwg hwa hbc hT0 hs0
      obtain ⟨k, s, hk, rfl, hi, hT0, hT1, hw, ha, hb⟩ := hrel
      by_cases hlt : k < len
      · rcases Hc.out with h0 | ⟨b, off, rfl, hbl, hcell⟩
        · omega
        · obtain ⟨u0, hu0, y0, rfl, l0, g0⟩ := hcell k hlt 0 RdI rfl
          obtain ⟨u1, hu1, y1, rfl, l1, g1⟩ := hcell k hlt 1 RdI rfl
          obtain ⟨u2, hu2, y2, rfl, l2, g2⟩ := hcell k hlt 2 RdI rfl
          clear hcell
          rw [← hb.cell (p := ⟨b, _, none⟩) hbl] at hu0 hu1 hu2
          simp only [List.length_cons, List.length_nil, Nat.zero_add, Nat.add_zero, Nat.reduceAdd] at hu0 hu1 hu2
          have p0 := pickF_lo y0 4 (by omega)
          have p0' := pickF_hi y0 4 (by omega)
          have p1 := pickF_lo y1 50 (by omega)
          have p1' := pickF_hi y1 50 (by omega)
          have p2 := pickF_lo y2 20 (by omega)
          have p2' := pickF_hi y2 20 (by omega)
          have hgl := hw.lt
          have hal := ha.lt
          by_cases hp : pickF y0 4 = 0
          · have hpb : (pickF y0 4 == 0) = true := by simp [hp]
            clear hp
            have hinv := W4.bad_inv hi (pickF y1 50 - 3) (pickF y1 50 - 3 + pickF y2 20)
            have hT2 : -100 ≤ (W4.bad s (pickF y1 50 - 3) (pickF y1 50 - 3 + pickF y2 20)).T := by unfold W4.bad; split <;> (try dsimp only) <;> omega
            have hT3 : (W4.bad s (pickF y1 50 - 3) (pickF y1 50 - 3 + pickF y2 20)).T ≤ 100 := by unfold W4.bad; split <;> (try dsimp only) <;> omega
            generalize hs' : W4.bad s (pickF y1 50 - 3) (pickF y1 50 - 3 + pickF y2 20) = s' at hinv hT2 hT3
            obtain ⟨S', L', P', T'⟩ := s'
            dsimp only at hT2 hT3
            have Hs' := Lib.hid hs'
            clear hs'
            go_wp2_with (go_at_call 20; refine (pick_any _ _ _ (by omega) (by omega)).mono ?_; rintro e w' ⟨rfl, rfl⟩)
            refine (bad_let (hw.alloc _) hi _ _).mono ?_
            rintro e w1 ⟨rfl, hw1, k1⟩
            rw [Hs'.out] at hw1
            have ha1 := (ha.alloc (.cells #[.int .i64 y0, .int .i64 y1, .int .i64 y2] 33)).grown k1 (fun e => hne (Option.some.inj e))
            have hb1 := (hb.alloc hb.size (.cells #[.int .i64 y0, .int .i64 y1, .int .i64 y2] 33)).grown k1 (by simp only [World.size_alloc]; have := hb.size; omega) (fun q e => by obtain rfl := Option.some.inj e; exact hgW)
            have x0' : w1.cell? ⟨wr.heap.size, 2, none⟩ = some (.int .i64 y2) := by
              rw [World.cell?_of_block (k1.block wr.heap.size (by simp) (fun e => by have := Option.some.inj e; have := hw.lt; omega))]
              simp [go_sem]
            go_wp2_with (go_at_call 20; refine (pick_any _ _ _ (by omega) (by omega)).mono ?_; rintro e w' ⟨rfl, rfl⟩)
            refine (rbad_let ha1 hi _ _).mono ?_
            rintro e w2 ⟨rfl, ha2, k2⟩
            rw [Hs'.out] at ha2
            have hw2 := hw1.grown k2 (fun e => hne' (Option.some.inj e))
            have hb2 := hb1.grown k2 hb1.size (fun q e => by obtain rfl := Option.some.inj e; exact hgaW)
            clear hw1 ha1 hb1 k1 k2 hw ha hb hu0 hu1 hu2 l0 l1 l2 g0 g1 g2 p0 p0' p1 p1' p2 p2' hT0 hT1 hi hbl hpb
            dsimp only at hw2 ha2
            have c0 := hw2.cell 0
            have c1 := hw2.cell 1
            have c2 := hw2.cell 2
            have c3 := hw2.cell 3
            have d0 := ha2.cell 0
            have d1 := ha2.cell 1
            have d2 := ha2.cell 2
            have d3 := ha2.cell 3
            simp at c0 c1 c2 c3 d0 d1 d2 d3
            go_wp2_with (first
              | (go_at_call 23; refine (fits_any _ 0 S' _ _ c0).mono ?_; rintro e w' ⟨rfl, rfl⟩)
              | (go_at_call 24; refine (rfits_any _ 0 S' _ _ d0).mono ?_; rintro e w' ⟨rfl, rfl⟩))
            go_roundw
            case rel => exact ⟨k + 1, ⟨S', L', P', T'⟩, by omega, by go_num, hinv, hT2, hT3, hw2, ha2, hb2⟩
            case measure => simp [intOf]; omega
          · have hpb : (pickF y0 4 == 0) = false := by simp [hp]
            clear hp
            have hinv := W4.good_inv hi (pickF y1 50 - 3).toNat
            have hT2 : -100 ≤ (W4.good (pickF y1 50 - 3).toNat s).T := by rw [W4.good_T]; exact hT0
            have hT3 : (W4.good (pickF y1 50 - 3).toNat s).T ≤ 100 := by rw [W4.good_T]; exact hT1
            generalize hs' : W4.good (pickF y1 50 - 3).toNat s = s' at hinv hT2 hT3
            obtain ⟨S', L', P', T'⟩ := s'
            dsimp only at hT2 hT3
            have Hs' := Lib.hid hs'
            clear hs'
            go_wp2_with (go_at_call 20; refine (pick_any _ _ _ (by omega) (by omega)).mono ?_; rintro e w' ⟨rfl, rfl⟩)
            refine (good_let (hw.alloc _) hi _ (by omega) (by omega)).mono ?_
            rintro e w1 ⟨rfl, hw1, k1⟩
            rw [Hs'.out] at hw1
            have ha1 := (ha.alloc (.cells #[.int .i64 y0, .int .i64 y1, .int .i64 y2] 33)).grown k1 (fun e => hne (Option.some.inj e))
            have hb1 := (hb.alloc hb.size (.cells #[.int .i64 y0, .int .i64 y1, .int .i64 y2] 33)).grown k1 (by simp only [World.size_alloc]; have := hb.size; omega) (fun q e => by obtain rfl := Option.some.inj e; exact hgW)
            go_wp2_with fail
            refine (rgood_let ha1 hi _ (by omega) (by omega)).mono ?_
            rintro e w2 ⟨rfl, ha2, k2⟩
            rw [Hs'.out] at ha2
            have hw2 := hw1.grown k2 (fun e => hne' (Option.some.inj e))
            have hb2 := hb1.grown k2 hb1.size (fun q e => by obtain rfl := Option.some.inj e; exact hgaW)
            clear hw1 ha1 hb1 k1 k2 hw ha hb hu0 hu1 hu2 l0 l1 l2 g0 g1 g2 p0 p0' p1 p1' p2 p2' hT0 hT1 hi hbl hpb
            dsimp only at hw2 ha2
            have c0 := hw2.cell 0
            have c1 := hw2.cell 1
            have c2 := hw2.cell 2
            have c3 := hw2.cell 3
            have d0 := ha2.cell 0
            have d1 := ha2.cell 1
            have d2 := ha2.cell 2
            have d3 := ha2.cell 3
            simp at c0 c1 c2 c3 d0 d1 d2 d3
            go_wp2_with (first
              | (go_at_call 23; refine (fits_any _ 0 S' _ _ c0).mono ?_; rintro e w' ⟨rfl, rfl⟩)
              | (go_at_call 24; refine (rfits_any _ 0 S' _ _ d0).mono ?_; rintro e w' ⟨rfl, rfl⟩))
            go_roundw
            case rel => exact ⟨k + 1, ⟨S', L', P', T'⟩, by omega, by go_num, hinv, hT2, hT3, hw2, ha2, hb2⟩
            case measure => simp [intOf]; omega
      · go_wp2_with fail
        refine (cknown_any _).mono ?_
        rintro e w' ⟨rfl, rfl⟩
        go_wp2
        go_ret
        exact ⟨rfl, hb.trans ((knownW_below _).mono hb.size)⟩
end Go.Proofs.Ytklcmaaoomfkiaa

/-
  The walk of 'CreditKeeps'.
-/
import Derived.Test.YtklcmaaoomfkiaaCreditOnce
namespace Go.Proofs.Ytklcmaaoomfkiaa
open Go.RowKit

set_option maxHeartbeats 4000000 in
set_option maxRecDepth 100000 in
theorem CreditKeeps_any (x0 : Int) (_l0 : -9223372036854775808 ≤ x0) (_h0 : x0 ≤ 9223372036854775807) (v : Value) (W : World) (hv : SlArg 46 W v) :
    Calls Try.prog 8 #[.int .i64 x0, v] W fun e w' => e = .returned (.bool true) ∧ Below W.heap.size W w' := by
  obtain ⟨A, len, cap, rfl, hlc, hcm, hreach, hcells⟩ := rawG_rd hv
  unfold maxLen at hcm
  unfold reachBytes at hreach
  have Hc := Lib.hid hcells
  clear hcells hv
  have pl := pickF_lo x0 400 (by omega)
  have ph := pickF_hi x0 400 (by omega)
  obtain ⟨M, hM⟩ : ∃ M, M = 1 + pickF x0 400 := ⟨_, rfl⟩
  have hM1 : 1 ≤ M := by omega
  have hM2 : M ≤ 400 := by omega
  have HM := Lib.hid hM
  clear hM
  go_enter Try.func8, Try.ntmps8
  go_wp2_with (go_at_call 20; refine (pick_any _ _ _ (by omega) (by omega)).mono ?_; rintro e w' ⟨rfl, rfl⟩)
  rw [← HM.out]
  refine (newGrant_any _ _).mono ?_
  rw [show roomF M = M by unfold roomF; omega]
  rintro e w' ⟨rfl, rfl⟩
  clear pl ph
  go_wp2_with fail
  obtain ⟨g, hg⟩ : ∃ g, g = W.heap.size + 1 := ⟨_, rfl⟩
  obtain ⟨c, hc⟩ : ∃ c, c = W.heap.size + 1 + 1 := ⟨_, rfl⟩
  rw [← hc, ← hg]
  have hne : g ≠ c := by omega
  have hne' : c ≠ g := by omega
  have hgW : W.heap.size ≤ g := by omega
  have hcW : W.heap.size ≤ c := by omega
  have Hg := Lib.hid hg
  have Hcc := Lib.hid hc
  clear hg hc
  go_loopw [7, 24] (fun ve vi wr => ∃ (k : Nat) (U R T : Int), k ≤ len ∧ vi = .int .i64 k ∧ ve = .int .i64 R ∧ 0 ≤ R ∧ R ≤ U ∧ U ≤ T ∧ T ≤ R + M ∧ U ≤ 400 * (k : Int) ∧
      Whole wr c 39 #[.int .i64 T, .int .i64 U] ∧ Whole wr g 41 #[.int .i64 M, .int .i64 R, .int .i64 T] ∧ Below W.heap.size W wr)
    (fun _ vi _ => len - (intOf vi).toNat)
  case atStart =>
    refine ⟨0, 0, 0, M, by omega, rfl, rfl, by omega, by omega, by omega, by omega, by omega, ?_, ?_, ?_⟩
    · rw [Hcc.out]
      exact whole_at _ _ rfl (by simp)
    · rw [Hg.out]
      exact (whole_at _ _ rfl (by simp)).alloc _
    · repeat (first | exact Below.refl _ _ | refine Below.alloc ?_ (by first | omega | (simp only [World.size_alloc]; omega)) _)
  case round =>
    obtain ⟨k, U, R, T, hk, rfl, rfl, i0, i1, i2, i3, i4, hwc, hwg, hb⟩ := hrel
    by_cases hlt : k < len
    · rcases Hc.out with h0 | ⟨b, off, rfl, hbl, hcell⟩
      · omega
      · obtain ⟨u0, hu0, y0, rfl, l0, g0⟩ := hcell k hlt 0 RdI rfl
        obtain ⟨u1, hu1, y1, rfl, l1, g1⟩ := hcell k hlt 1 RdI rfl
        clear hcell
        rw [← hb.cell (p := ⟨b, _, none⟩) hbl] at hu0 hu1
        simp only [List.length_cons, List.length_nil, Nat.zero_add, Nat.add_zero, Nat.reduceAdd] at hu0 hu1
        have p0 := pickF_lo y0 3 (by omega)
        have p0' := pickF_hi y0 3 (by omega)
        go_upto_block 2 with (go_at_call 20; refine (pick_any _ _ _ (by omega) (by omega)).mono ?_; rintro e w' ⟨rfl, rfl⟩)
        generalize hp : pickF y0 3 = wh at p0 p0' ⊢
        clear hp hu0 hu1 l0 g0 hbl
        have ec := hwc.alloc (.cells #[.int .i64 y0, .int .i64 y1] 48)
        have eg := hwg.alloc (.cells #[.int .i64 y0, .int .i64 y1] 48)
        have eb := hb.alloc hb.size (.cells #[.int .i64 y0, .int .i64 y1] 48)
        have ex : Whole (wr.alloc (.cells #[.int .i64 y0, .int .i64 y1] 48)) wr.heap.size 48 #[.int .i64 y0, .int .i64 y1] := whole_at _ _ rfl rfl
        generalize wr.alloc (.cells #[.int .i64 y0, .int .i64 y1] 48) = wz at ec eg ex eb ⊢
        generalize wr.heap.size = gx at ex ⊢
        clear hwc hwg hb
        have x1 := ex.cell 1
        have c0 := ec.cell 0
        have c1 := ec.cell 1
        have d0 := eg.cell 0
        have d1 := eg.cell 1
        have d2 := eg.cell 2
        simp at x1 c0 c1 d0 d1 d2
        have fc0 := ec.frozen 0
        have fc1 := ec.frozen 1
        have fg1 := eg.frozen 1
        have fg2 := eg.frozen 2
        go_cut [7] (fun s7 wx => ∃ U' R' T' : Int, s7 = .int .i64 R' ∧ 0 ≤ R' ∧ R' ≤ U' ∧ U' ≤ T' ∧ T' ≤ R' + M ∧ U' ≤ 400 * (k : Int) + 400 ∧
          Whole wx c 39 #[.int .i64 T', .int .i64 U'] ∧ Whole wx g 41 #[.int .i64 M, .int .i64 R', .int .i64 T'] ∧ Below W.heap.size W wx)
        case first =>
          by_cases h0 : wh = 0
          · subst h0
            have p1 := pickF_lo y1 (M + 5) (by omega)
            have p1' := pickF_hi y1 (M + 5) (by omega)
            generalize hn : pickF y1 (M + 5) = n at p1 p1'
            have Hn := Lib.hid hn
            clear hn
            have hu2 : (if useB T U n = true then U + n else U) ≤ T ∧ U ≤ (if useB T U n = true then U + n else U) := by
              by_cases hb : useB T U n = true
              · rw [if_pos hb]; unfold useB leftF at hb; simp at hb; omega
              · rw [if_neg hb]; omega
            generalize hU' : (if useB T U n = true then U + n else U) = U' at hu2
            have HU := Lib.hid hU'
            clear hU'
            go_wp2_with fail
            refine (pick_any _ _ _ (by omega) (by omega)).mono ?_
            rw [Hn.out]
            rintro e w' ⟨rfl, rfl⟩
            go_wp2_with fail
            refine (use_any (L := T) (U := U) c0 c1 fc1 (by omega) (by omega) (by omega) (by omega) n).mono ?_
            rw [HU.out]
            rintro e w' ⟨rfl, d, rfl⟩
            go_wp2_with fail
            go_meet
            exact ⟨U', R, T, rfl, by omega, by omega, by omega, by omega, by omega, (ec.set 1 _).drewN _, (eg.far (p := ⟨c, 1, none⟩) hne _).drewN _, Below.drewN' (eb.setCell (p := ⟨c, 1, none⟩) hcW _) _⟩
          · by_cases h1 : wh = 1
            · subst h1
              have p1 := pickF_lo y1 (U - R + 1) (by omega)
              have p1' := pickF_hi y1 (U - R + 1) (by omega)
              generalize hn : pickF y1 (U - R + 1) = n at p1 p1'
              have Hn := Lib.hid hn
              clear hn
              have He := Lib.hid (show eatF n = n by unfold eatF; omega)
              go_wp2_with fail
              refine (pick_any _ _ _ (by omega) (by omega)).mono ?_
              rw [Hn.out]
              rintro e w' ⟨rfl, rfl⟩
              go_wp2_with fail
              refine (eat_any (R := R) d1 fg1 (by omega) (by omega) n).mono ?_
              rw [He.out]
              rintro e w' ⟨rfl, d, rfl⟩
              go_wp2_with fail
              go_meet
              exact ⟨U, R + n, T, rfl, by omega, by omega, by omega, by omega, by omega, (ec.far (p := ⟨g, 1, none⟩) hne' _).drewN _, (eg.set 1 _).drewN _, Below.drewN' (eb.setCell (p := ⟨g, 1, none⟩) hgW _) _⟩
            · have w0 : (wh == 0) = false := by simp; omega
              have w1 : (wh == 1) = false := by simp; omega
              have w2 : (wh == 2) = true := by simp; omega
              clear h0 h1
              by_cases hd : dueB M R T = true
              · have hd' : T < R + M := by unfold dueB at hd; simp at hd; omega
                have Hd := Lib.hid hd
                clear hd
                have Ht := Lib.hid (show tellF M R T = R + M by unfold tellF; omega)
                have Hr := Lib.hid (show raiseB T (R + M) = true by unfold raiseB; simp; omega)
                go_wp2_with fail
                refine (due_any (M := M) (R := R) (T := T) d0 d1 d2 (by omega) (by omega) (by omega) (by omega) (by omega) (by omega)).mono ?_
                rw [Hd.out]
                rintro e w' ⟨rfl, d, rfl⟩
                go_wp2_with fail
                refine (tell_any (M := M) (R := R) (T := T) (by simp [go_sem, d0]) (by simp [go_sem, d1]) (by simp [go_sem, d2]) (by simp [go_sem, fg2]) (by omega) (by omega) (by omega) (by omega) (by omega) (by omega)).mono ?_
                rw [Ht.out]
                rintro e w' ⟨rfl, d', rfl⟩
                go_wp2_with fail
                refine (raise_any (L := T) (by simp [go_sem, c0, hne]) (by simp [go_sem, fc0]) (R + M)).mono ?_
                rw [Hr.out, if_pos rfl]
                rintro e w' ⟨rfl, d'', rfl⟩
                go_wp2_with fail
                go_meet
                exact ⟨U, R, R + M, rfl, by omega, by omega, by omega, by omega, by omega, ((ec.far (p := ⟨g, 2, none⟩) hne' _).set 0 _).drewN _, ((eg.set 2 _).far (p := ⟨c, 0, none⟩) hne _).drewN _, Below.drewN' (Below.setCell (eb.setCell (p := ⟨g, 2, none⟩) hgW _) (p := ⟨c, 0, none⟩) hcW _) _⟩
              · have Hd := Lib.hid (show dueB M R T = false by simpa using hd)
                clear hd
                go_wp2_with fail
                refine (due_any (M := M) (R := R) (T := T) d0 d1 d2 (by omega) (by omega) (by omega) (by omega) (by omega) (by omega)).mono ?_
                rw [Hd.out]
                rintro e w' ⟨rfl, d, rfl⟩
                go_wp2_with fail
                go_meet
                exact ⟨U, R, T, rfl, by omega, by omega, by omega, by omega, by omega, ec.drewN _, eg.drewN _, Below.drewN' eb _⟩
        case rest =>
          obtain ⟨U', R', T', rfl, j0, j1, j2, j3, j4, fc, fg, fb⟩ := hcut
          clear x1 c0 c1 d0 d1 d2 fc0 fc1 fg1 fg2
          have c0 := fc.cell 0
          have c1 := fc.cell 1
          have d0 := fg.cell 0
          have d1 := fg.cell 1
          have d2 := fg.cell 2
          simp at c0 c1 d0 d1 d2
          have Hl := Lib.hid (show leftF T' U' = T' - U' by unfold leftF; omega)
          go_wp2_with (go_at_call 31; refine (left_val c0 c1 Hl.out (by omega) (by omega) (by omega) (by omega)).mono ?_; rintro e w' ⟨rfl, d, rfl⟩)
          go_roundw
          case rel => exact ⟨k + 1, U', R', T', by omega, by go_num, rfl, by omega, by omega, by omega, by omega, by omega, fc.drewN _, fg.drewN _, Below.drewN' fb _⟩
          case measure => simp [intOf]; omega
    · have c0 := hwc.cell 0
      have c1 := hwc.cell 1
      have d0 := hwg.cell 0
      have d1 := hwg.cell 1
      have d2 := hwg.cell 2
      simp at c0 c1 d0 d1 d2
      have fc0 := hwc.frozen 0
      have fg1 := hwg.frozen 1
      have fg2 := hwg.frozen 2
      have hcl := hwc.lt
      obtain ⟨q0, q1, q2, q3, q4, q5⟩ := le_steps hcl
      have He := Lib.hid (show R + eatF (U - R) = U by unfold eatF; omega)
      go_wp2_with fail
      refine (eat_any (R := R) d1 fg1 (by omega) (by omega) (U - R)).mono ?_
      rw [He.out]
      rintro e w' ⟨rfl, d, rfl⟩
      go_wp2_with fail
      refine (due_any (M := M) (R := U) (T := T) (by simp [go_sem, d0]) (by simp [go_sem, d1]) (by simp [go_sem, d2]) (by omega) (by omega) (by omega) (by omega) (by omega) (by omega)).mono ?_
      by_cases hd : dueB M U T = true
      · have hd' : T < U + M := by unfold dueB at hd; simp at hd; omega
        have Hd := Lib.hid hd
        clear hd
        have Ht := Lib.hid (show tellF M U T = U + M by unfold tellF; omega)
        have Hr := Lib.hid (show raiseB T (U + M) = true by unfold raiseB; simp; omega)
        rw [Hd.out]
        rintro e w' ⟨rfl, d, rfl⟩
        go_wp2_with fail
        refine (tell_any (M := M) (R := U) (T := T) (by simp [go_sem, d0]) (by simp [go_sem, d1]) (by simp [go_sem, d2]) (by simp [go_sem, fg2]) (by omega) (by omega) (by omega) (by omega) (by omega) (by omega)).mono ?_
        rw [Ht.out]
        rintro e w' ⟨rfl, d', rfl⟩
        go_wp2_with fail
        refine (raise_any (L := T) (by simp [go_sem, c0, hne]) (by simp [go_sem, fc0]) (U + M)).mono ?_
        rw [Hr.out, if_pos rfl]
        rintro e w' ⟨rfl, d'', rfl⟩
        have Hl := Lib.hid (show leftF (U + M) U = M by unfold leftF; omega)
        go_wp2_with (first
            | (go_at_call 30; refine (gknown_any _).mono ?_; rintro e w' ⟨rfl, dk, rfl⟩; unfold knownG)
            | (go_at_call 31; refine (left_val (L := U + M) (U := U) (by simp [go_sem, c0, hne, hcl, q0, q1]) (by simp [go_sem, c1, hne, hcl, q0, q1]) Hl.out (by omega) (by omega) (by omega) (by omega)).mono ?_; rintro e w' ⟨rfl, d, rfl⟩))
        go_ret
        refine ⟨rfl, ?_⟩
        repeat (first | exact hb | refine Below.alloc ?_ (by first | exact hb.size | (simp only [World.size_alloc, World.size_setCell]; have := hb.size; omega)) _ | refine Below.setCell ?_ hgW _ | refine Below.setCell ?_ hcW _ | refine Below.drewN' ?_ _)
      · have hd' : T - U + max 1 (M / 2) > M := by unfold dueB at hd; simp at hd; omega
        have Hd := Lib.hid (show dueB M U T = false by simpa using hd)
        clear hd
        rw [Hd.out]
        rintro e w' ⟨rfl, d, rfl⟩
        have Hl := Lib.hid (show leftF T U = T - U by unfold leftF; omega)
        have hl1 : 1 ≤ T - U := by omega
        have hl2 : M ≤ 2 * (T - U) := by omega
        clear hd'
        go_wp2_with (first
            | (go_at_call 30; refine (gknown_any _).mono ?_; rintro e w' ⟨rfl, dk, rfl⟩; unfold knownG)
            | (go_at_call 31; refine (left_val (L := T) (U := U) (by simp [go_sem, c0, hne, hcl, q0, q1]) (by simp [go_sem, c1, hne, hcl, q0, q1]) Hl.out (by omega) (by omega) (by omega) (by omega)).mono ?_; rintro e w' ⟨rfl, d, rfl⟩))
        go_ret
        refine ⟨rfl, ?_⟩
        repeat (first | exact hb | refine Below.alloc ?_ (by first | exact hb.size | (simp only [World.size_alloc, World.size_setCell]; have := hb.size; omega)) _ | refine Below.setCell ?_ hgW _ | refine Below.setCell ?_ hcW _ | refine Below.drewN' ?_ _)
end Go.Proofs.Ytklcmaaoomfkiaa

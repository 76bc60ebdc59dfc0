/-
  The walk of 'CreditOnce'.
-/
import Derived.Test.YtklcmaaoomfkiaaCreditKnown
import Derived.Test.YtklcmaaoomfkiaaArgs
import Derived.Test.YtklcmaaoomfkiaaPick
import Derived.Deep.CutBlock
namespace Go.Proofs.Ytklcmaaoomfkiaa
open Go.RowKit

theorem rawG_rd {W : World} {v : Value} (h : SlArg 46 W v) : RdSl W 16 [RdI, RdI] v := by
  have hB : Try.prog.bytesOf 48 = 16 := by kernel_rfl
  rw [← hB]
  refine h.rd Try.underlying46 fun H enc => fieldSlS Try.underlying46 Try.underlying48 (by kernel_rfl) (by kernel_rfl) (by decide) rfl ?_
  intro j f q hf hq
  match j with
  | 0 => simp at hf hq; subst hf hq; exact fieldI Try.underlying3
  | 1 => simp at hf hq; subst hf hq; exact fieldI Try.underlying3
  | j + 2 => simp at hf

theorem knownG_below (w : World) (d : Nat) : Below w.heap.size w ((knownG w).drewN d) := by
  unfold knownG
  repeat (first | exact Below.refl _ _ | refine Below.alloc ?_ (by first | omega | (simp only [World.size_alloc]; omega)) _ | refine Below.drewN' ?_ _)

theorem left_val {w : World} {b o : Nat} {L U v : Int} (c0 : w.cell? ⟨b, o, none⟩ = some (.int .i64 L)) (c1 : w.cell? ⟨b, o + 1, none⟩ = some (.int .i64 U)) (h : leftF L U = v)
    (l0 : -4611686018427387904 ≤ L) (l1 : L ≤ 4611686018427387903) (u0 : -4611686018427387904 ≤ U) (u1 : U ≤ 4611686018427387903) :
    Calls Try.prog 31 #[.pointer (some ⟨b, o, none⟩)] w fun e w' => e = .returned (.int .i64 v) ∧ ∃ m, w' = w.drewN m := by
  subst h
  exact left_any c0 c1 l0 l1 u0 u1

set_option maxHeartbeats 4000000 in
set_option maxRecDepth 100000 in
theorem CreditOnce_any (x0 : Int) (_l0 : -9223372036854775808 ≤ x0) (_h0 : x0 ≤ 9223372036854775807) (v : Value) (W : World) (hv : SlArg 46 W v) :
    Calls Try.prog 9 #[.int .i64 x0, v] W fun e w' => e = .returned (.bool true) ∧ Below W.heap.size W w' := by
  obtain ⟨A, len, cap, rfl, hlc, hcm, hreach, hcells⟩ := rawG_rd hv
  unfold maxLen at hcm
  unfold reachBytes at hreach
  have Hc := Lib.hid hcells
  clear hcells hv
  have pl := pickF_lo x0 300 (by omega)
  have ph := pickF_hi x0 300 (by omega)
  go_enter Try.func9, Try.ntmps9
  go_wp2_with (go_at_call 20; refine (pick_any _ _ _ (by omega) (by omega)).mono ?_; rintro e w' ⟨rfl, rfl⟩)
  refine (newGrant_any _ _).mono ?_
  rw [show roomF (1 + pickF x0 300) = 1 + pickF x0 300 by unfold roomF; omega]
  rintro e w' ⟨rfl, rfl⟩
  go_wp2_with fail
  obtain ⟨g, hg⟩ : ∃ g, g = W.heap.size + 1 + 1 := ⟨_, rfl⟩
  obtain ⟨c, hc⟩ : ∃ c, c = W.heap.size := ⟨_, rfl⟩
  rw [← hg, ← hc]
  have hne : g ≠ c := by omega
  have hne' : c ≠ g := by omega
  have hgW : W.heap.size ≤ g := by omega
  have hcW : W.heap.size ≤ c := by omega
  have Hg := Lib.hid hg
  have Hcc := Lib.hid hc
  clear hg hc
  generalize hl : pickF x0 300 = l0 at pl ph
  clear hl
  go_loopw [21] (fun vi wr => ∃ (k : Nat) (L U M R T : Int), k ≤ len ∧ vi = .int .i64 k ∧ 0 ≤ U ∧ U ≤ L ∧ L ≤ 400 ∧ 1 ≤ M ∧ M ≤ 300 ∧ 0 ≤ R ∧ R ≤ 400 * (k : Int) ∧ M ≤ T ∧ T ≤ R + M ∧
      Whole wr c 39 #[.int .i64 L, .int .i64 U] ∧ Whole wr g 41 #[.int .i64 M, .int .i64 R, .int .i64 T] ∧ Below W.heap.size W wr)
    (fun vi _ => len - (intOf vi).toNat)
  case atStart =>
    refine ⟨0, l0, 0, 1 + l0, 0, 1 + l0, by omega, rfl, by omega, by omega, by omega, by omega, by omega, by omega, by omega, by omega, by omega, ?_, ?_, ?_⟩
    · rw [Hcc.out]
      exact ((Whole.new _ _ _).alloc _).alloc _
    · rw [Hg.out]
      exact whole_at _ _ rfl (by simp)
    · repeat (first | exact Below.refl _ _ | refine Below.alloc ?_ (by first | omega | (simp only [World.size_alloc]; omega)) _)
  case round =>
    obtain ⟨k, L, U, M, R, T, hk, rfl, i0, i1, i2, i3, i4, i5, i6, i7, i8, hwc, hwg, hb⟩ := hrel
    by_cases hlt : k < len
    · rcases Hc.out with h0 | ⟨b, off, rfl, hbl, hcell⟩
      · omega
      · obtain ⟨u0, hu0, y0, rfl, l0, g0⟩ := hcell k hlt 0 RdI rfl
        obtain ⟨u1, hu1, y1, rfl, l1, g1⟩ := hcell k hlt 1 RdI rfl
        clear hcell
        rw [← hb.cell (p := ⟨b, _, none⟩) hbl] at hu0 hu1
        simp only [List.length_cons, List.length_nil, Nat.zero_add, Nat.add_zero, Nat.reduceAdd] at hu0 hu1
        have p0 := pickF_lo y0 3 (by omega)
        have p0' := pickF_hi y0 3 (by omega)
        have p1 := pickF_lo y1 400 (by omega)
        have p1' := pickF_hi y1 400 (by omega)
        have c0 := hwc.cell 0
        have c1 := hwc.cell 1
        have d0 := hwg.cell 0
        have d1 := hwg.cell 1
        have d2 := hwg.cell 2
        simp at c0 c1 d0 d1 d2
        have hcl := hwc.lt
        have hgl := hwg.lt
        obtain ⟨q0, q1, q2, q3, q4, q5⟩ := le_steps hcl
        obtain ⟨r0, r1, r2, r3, r4, r5⟩ := le_steps hgl
        have hR : R ≤ 4611686018427387000 := by omega
        go_upto_block 2 with (go_at_call 20; refine (pick_any _ _ _ (by omega) (by omega)).mono ?_; rintro e w' ⟨rfl, rfl⟩)
        generalize hp : pickF y0 3 = wh at p0 p0' ⊢
        generalize hn : pickF y1 400 = n at p1 p1' ⊢
        clear hp hn hu0 hu1 l0 l1 g0 g1 hbl
        have ec := (hwc.alloc (.cells #[.int .i64 y0, .int .i64 y1] 48)).alloc (.cells #[.int .i64 L, .int .i64 U] 39)
        have eg := (hwg.alloc (.cells #[.int .i64 y0, .int .i64 y1] 48)).alloc (.cells #[.int .i64 L, .int .i64 U] 39)
        have ew : Whole ((wr.alloc (.cells #[.int .i64 y0, .int .i64 y1] 48)).alloc (.cells #[.int .i64 L, .int .i64 U] 39)) (wr.heap.size + 1) 39 #[.int .i64 L, .int .i64 U] := whole_at _ _ rfl (by simp)
        have eb := (hb.alloc hb.size (.cells #[.int .i64 y0, .int .i64 y1] 48)).alloc (by simp only [World.size_alloc]; have := hb.size; omega) (.cells #[.int .i64 L, .int .i64 U] 39)
        generalize (wr.alloc (.cells #[.int .i64 y0, .int .i64 y1] 48)).alloc (.cells #[.int .i64 L, .int .i64 U] 39) = wz at ec eg ew eb ⊢
        generalize hgw : wr.heap.size + 1 = gw at ew ⊢
        have hn1 : gw ≠ c := by omega
        have hn2 : gw ≠ g := by omega
        have hn1' : c ≠ gw := by omega
        have hn2' : g ≠ gw := by omega
        clear hgw c0 c1 d0 d1 d2 hcl hgl q0 q1 q2 q3 q4 q5 r0 r1 r2 r3 r4 r5 hwc hwg hb
        go_cut [11] (fun s11 wx => s11 = .int .i64 T ∧ ∃ L' U' R' T' : Int, L ≤ L' ∧ 0 ≤ U' ∧ U' ≤ L' ∧ L' ≤ 400 ∧ R ≤ R' ∧ R' ≤ R + 400 ∧ T ≤ T' ∧ T' ≤ R' + M ∧
          Whole wx c 39 #[.int .i64 L', .int .i64 U'] ∧ Whole wx g 41 #[.int .i64 M, .int .i64 R', .int .i64 T'] ∧ Below W.heap.size W wx ∧ Whole wx gw 39 #[.int .i64 L, .int .i64 U])
        case first =>
          have c0 := ec.cell 0
          have c1 := ec.cell 1
          have d0 := eg.cell 0
          have d1 := eg.cell 1
          have d2 := eg.cell 2
          have b0 := ew.cell 0
          have b1 := ew.cell 1
          simp at c0 c1 d0 d1 d2 b0 b1
          have fc0 := ec.frozen 0
          have fc1 := ec.frozen 1
          have fg1 := eg.frozen 1
          have fg2 := eg.frozen 2
          by_cases h0 : wh = 0
          · subst h0
            have hwr : IntKind.i64.wrap (L - U) = L - U := IntWalk.i64_in _ (by omega)
            by_cases hnu : n ≤ L - U
            · skip
              have hu : useB L U n = true := by unfold useB leftF; simp; omega
              have Hu := Lib.hid hu
              clear hu
              go_wp2_with fail
              go_region_held3 (fun w' => w'.cell? ⟨gw, 0, none⟩ = some (.int .i64 L) ∧ w'.cell? ⟨gw, 1, none⟩ = some (.int .i64 U)) (go_keep)
                (first | (go_at_call 25; refine (use_any (w := wz.drew) (L := L) (U := U) c0 c1 fc1 (by omega) (by omega) (by omega) (by omega) n).mono ?_; rw [Hu.out, if_pos rfl]; rintro e w' ⟨rfl, d, rfl⟩))
              all_goals
                go_wp2_with fail
                go_meet
                refine ⟨rfl, L, U + n, R, T, by omega, by omega, by omega, by omega, by omega, by omega, by omega, by omega, ?_, ?_, ?_, ?_⟩
                · exact (ec.set 1 _).drewN _
                · exact (eg.far (p := ⟨c, 1, none⟩) hne _).drewN _
                · exact Below.drewN' (eb.setCell (p := ⟨c, 1, none⟩) hcW _) _
                · exact (ew.far (p := ⟨c, 1, none⟩) hn1 _).drewN _
            · skip
              have hu : useB L U n = false := by unfold useB leftF; simp; omega
              have Hu := Lib.hid hu
              clear hu
              go_wp2_with fail
              go_region_held3 (fun w' => w'.cell? ⟨gw, 0, none⟩ = some (.int .i64 L) ∧ w'.cell? ⟨gw, 1, none⟩ = some (.int .i64 U)) (go_keep)
                (first | (go_at_call 25; refine (use_any (w := wz.drew) (L := L) (U := U) c0 c1 fc1 (by omega) (by omega) (by omega) (by omega) n).mono ?_; rw [Hu.out, if_neg (by simp)]; rintro e w' ⟨rfl, d, rfl⟩))
              all_goals
                go_wp2_with fail
                go_meet
                refine ⟨rfl, L, U, R, T, by omega, by omega, by omega, by omega, by omega, by omega, by omega, by omega, ?_, ?_, ?_, ?_⟩
                · exact (ec.set 1 _).drewN _
                · exact (eg.far (p := ⟨c, 1, none⟩) hne _).drewN _
                · exact Below.drewN' (eb.setCell (p := ⟨c, 1, none⟩) hcW _) _
                · exact (ew.far (p := ⟨c, 1, none⟩) hn1 _).drewN _
          · by_cases h1 : wh = 1
            · subst h1
              by_cases hnl : L < n
              · skip
                have hu : raiseB L n = true := by unfold raiseB; simp; omega
                have Hu := Lib.hid hu
                clear hu
                go_wp2_with fail
                go_region_held3 (fun w' => w'.cell? ⟨gw, 0, none⟩ = some (.int .i64 L) ∧ w'.cell? ⟨gw, 1, none⟩ = some (.int .i64 U)) (go_keep)
                  (first | (go_at_call 26; refine (raise_any (w := wz.drew) (L := L) c0 fc0 n).mono ?_; rw [Hu.out, if_pos rfl]; rintro e w' ⟨rfl, d, rfl⟩))
                all_goals
                  go_wp2_with fail
                  go_meet
                  refine ⟨rfl, n, U, R, T, by omega, by omega, by omega, by omega, by omega, by omega, by omega, by omega, ?_, ?_, ?_, ?_⟩
                  · exact (ec.set 0 _).drewN _
                  · exact (eg.far (p := ⟨c, 0, none⟩) hne _).drewN _
                  · exact Below.drewN' (eb.setCell (p := ⟨c, 0, none⟩) hcW _) _
                  · exact (ew.far (p := ⟨c, 0, none⟩) hn1 _).drewN _
              · skip
                have hu : raiseB L n = false := by unfold raiseB; simp; omega
                have Hu := Lib.hid hu
                clear hu
                go_wp2_with fail
                go_region_held3 (fun w' => w'.cell? ⟨gw, 0, none⟩ = some (.int .i64 L) ∧ w'.cell? ⟨gw, 1, none⟩ = some (.int .i64 U)) (go_keep)
                  (first | (go_at_call 26; refine (raise_any (w := wz.drew) (L := L) c0 fc0 n).mono ?_; rw [Hu.out, if_neg (by simp)]; rintro e w' ⟨rfl, d, rfl⟩))
                all_goals
                  go_wp2_with fail
                  go_meet
                  refine ⟨rfl, L, U, R, T, by omega, by omega, by omega, by omega, by omega, by omega, by omega, by omega, ?_, ?_, ?_, ?_⟩
                  · exact (ec.set 0 _).drewN _
                  · exact (eg.far (p := ⟨c, 0, none⟩) hne _).drewN _
                  · exact Below.drewN' (eb.setCell (p := ⟨c, 0, none⟩) hcW _) _
                  · exact (ew.far (p := ⟨c, 0, none⟩) hn1 _).drewN _
            · skip
              have w0 : (wh == 0) = false := by simp; omega
              have w1 : (wh == 1) = false := by simp; omega
              have he : eatF n = n := by unfold eatF; omega
              have ht : tellF M (R + n) T = R + n + M := by unfold tellF; omega
              have He := Lib.hid he
              have Ht := Lib.hid ht
              clear he ht h0 h1
              go_wp2_with fail
              refine (eat_any (R := R) d1 fg1 (by omega) (by omega) n).mono ?_
              rw [He.out]
              rintro e w' ⟨rfl, d, rfl⟩
              go_wp2_with fail
              refine (tell_any (M := M) (R := R + n) (T := T) (by simp [go_sem, d0]) (by simp [go_sem, d1]) (by simp [go_sem, d2]) (by simp [go_sem, fg2]) (by omega) (by omega) (by omega) (by omega) (by omega) (by omega)).mono ?_
              rw [Ht.out]
              rintro e w' ⟨rfl, d', rfl⟩
              go_wp2_with fail
              go_meet
              refine ⟨rfl, L, U, R + n, R + n + M, by omega, by omega, by omega, by omega, by omega, by omega, by omega, by omega, ?_, ?_, ?_, ?_⟩
              · exact ((ec.far (p := ⟨g, 1, none⟩) hne' _).far (p := ⟨g, 2, none⟩) hne' _).drewN _
              · exact ((eg.set 1 _).set 2 _).drewN _
              · exact Below.drewN' (Below.setCell (eb.setCell (p := ⟨g, 1, none⟩) hgW _) (p := ⟨g, 2, none⟩) hgW _) _
              · exact ((ew.far (p := ⟨g, 1, none⟩) hn2 _).far (p := ⟨g, 2, none⟩) hn2 _).drewN _
        case rest =>
          obtain ⟨rfl, L', U', R', T', j0, j1, j2, j3, j4, j5, j6, j7, fc, fg, fb, fw⟩ := hcut
          have c0 := fc.cell 0
          have c1 := fc.cell 1
          have d0 := fg.cell 0
          have d1 := fg.cell 1
          have d2 := fg.cell 2
          have b0 := fw.cell 0
          have b1 := fw.cell 1
          simp at c0 c1 d0 d1 d2 b0 b1
          have hl : leftF L' U' = L' - U' := by unfold leftF; omega
          have Hl := Lib.hid hl
          clear hl
          have hwr : IntKind.i64.wrap (L' - U') = L' - U' := IntWalk.i64_in _ (by omega)
          have t1 : decide (L' < L) = false := by simp; omega
          have t2 : decide (L' < U') = false := by simp; omega
          have t3 : decide (T' < T) = false := by simp; omega
          have t4 : decide (4611686018427387903 < T') = false := by simp; omega
          go_wp2_with fail
          go_quiet ((go_at_call 31; exact Calls.quiet_of (left_val (w := World.drewN wc _) c0 c1 Hl.out (by omega) (by omega) (by omega) (by omega))))
          go_wp2_with fail
          go_roundw
          case rel => exact ⟨k + 1, L', U', M, R', T', by omega, by go_num, by omega, by omega, by omega, by omega, by omega, by omega, by omega, by omega, by omega, fc.drewN _, fg.drewN _, Below.drewN' fb _⟩
          case measure => simp [intOf]; omega
    · go_wp2_with fail
      refine (gknown_any _).mono ?_
      rintro e w' ⟨rfl, d, rfl⟩
      go_wp2
      go_ret
      exact ⟨rfl, hb.trans ((knownG_below _ _).mono hb.size)⟩
end Go.Proofs.Ytklcmaaoomfkiaa

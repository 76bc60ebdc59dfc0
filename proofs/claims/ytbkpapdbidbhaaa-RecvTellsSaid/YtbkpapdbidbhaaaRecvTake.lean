/-
  recv.Stream: Take.
-/
import Derived.Test.YtbkpapdbidbhaaaRecvTp
import Derived.BigQuiet
namespace Go.Proofs.Ytbkpapdbidbhaaa
open Go.RowKit

def codeN (s : RS) : Nat := if overN s = 2 then s.code else 0
theorem row_cut {w : World} {B n c : Nat} {A : Option Addr} {xs : List Value} (h : RowAt w B 1 (.slice A n c) n xs) (hn : 0 < n) : RowAt w B 1 (.slice A n n) n xs := by
  rcases h.2 with ⟨hv, h0⟩ | ⟨g, off, cap, hv, h1, h2, h3, h4, h5, h6, h7⟩
  · omega
  · cases hv
    exact ⟨h.1, .inr ⟨g, off, n, rfl, h1, h2, Nat.le_refl _, Nat.le_trans h3 h4, fun j hj => h5 j (by omega), h6, h7⟩⟩
theorem st_take {w w' : World} {g : Nat} {id : Int} {v bv : Value} {s : RS} (h : StAt w g id v bv s) (t : Nat) (ht : t ≤ s.d.length) (dd : Nat) (hw : w' = ((w.setCell ⟨g, 2, none⟩ (.int .i64 (t : Int))).drewN dd).setCell ⟨g, 5, none⟩ (.int .i64 (t : Int))) : StAt w' g id v bv (takeS s t) ∧ Kp (fun k => k = g) w w' := by
  subst hw
  have hk : Kp (fun k => k = g) w (((w.setCell ⟨g, 2, none⟩ (.int .i64 (t : Int))).drewN dd).setCell ⟨g, 5, none⟩ (.int .i64 (t : Int))) := Kp.set (S := fun k => k = g) (Kp.drewN (Kp.set (S := fun k => k = g) (Kp.refl _ w) (p := ⟨g, 2, none⟩) (.inl rfl) _) dd) (p := ⟨g, 5, none⟩) (.inl rfl) _
  have hc : Whole (((w.setCell ⟨g, 2, none⟩ (.int .i64 (t : Int))).drewN dd).setCell ⟨g, 5, none⟩ (.int .i64 (t : Int))) g 45 (stC v bv id (takeS s t)) := ((Whole.drewN (h.cell.set 2 (.int .i64 (t : Int))) dd).set 5 (.int .i64 (t : Int)))
  refine ⟨⟨hc, src_keep h.src hk (fun hn k hk' => (h.far1 hn k hk').2.1), ownsRow_kp h.row hk (fun k hk' => (h.far2 k hk').2), fun hn k hk' => ⟨Nat.lt_of_lt_of_le (h.far1 hn k hk').1 hk.size, (h.far1 hn k hk').2⟩, fun k hk' => ⟨Nat.lt_of_lt_of_le (h.far2 k hk').1 hk.size, (h.far2 k hk').2⟩, takeS_ok h.ok t ht⟩, hk⟩

set_option maxRecDepth 100000 in
set_option maxHeartbeats 4000000 in
theorem take_any {w : World} {g : Nat} {id : Int} {v bv : Value} {s : RS} (h : StAt w g id v bv s) (most : Int) (l0 : -9223372036854775808 ≤ most) (h0 : most ≤ 1048576) (t : Nat) (ht : t = toN s most) :
    Calls Try.prog 14 #[.pointer (some ⟨g, 0, none⟩), .int .i64 most] w fun e w' => ∃ vr, e = .returned (.tuple #[vr, .int .i64 (overN (takeS s t) : Int), .int .i64 (codeN (takeS s t) : Int)]) ∧
      RowAt w' w.heap.size 1 vr (t - s.taken) (encB ((s.d.drop s.taken).take (t - s.taken))) ∧ StAt w' g id v bv (takeS s t) ∧ Kp (fun k => k = g) w w' := by
  have htl := to_le h.ok most
  rw [← ht] at htl
  have ok := h.ok
  have a1 := ok.dl
  have a2 := ok.taken
  have a3 := ok.sure
  have hgl := h.cell.lt
  obtain ⟨f, hf⟩ : ∃ f : Nat, firstL s.L s.taken = (f : Int) := Int.eq_ofNat_of_zero_le (by have := (first_spec ok.norm (s.taken : Int)).1; omega)
  obtain ⟨ff, hff⟩ : ∃ ff, ff = farN s := ⟨_, rfl⟩
  have hfar := far_le ok
  rw [← hff] at hfar
  obtain ⟨mm, hmm⟩ : ∃ mm, mm = mostN most := ⟨_, rfl⟩
  have htm : t = min ff (s.taken + mm) := by rw [ht, hff, hmm]; rfl
  have hm3 : (mm = 0 ∧ most ≤ 0) ∨ (most = (mm : Int) ∧ 0 < most ∧ most ≤ 1048576) := by rw [hmm]; unfold mostN; omega
  have hffb : (s.broken = false → ff = f) ∧ (s.broken = true → ff = min f (max s.sure s.taken)) := by
    rw [hff]
    unfold farN
    rw [hf]
    constructor
    · intro hb; rw [if_neg (by rw [hb]; simp)]; simp
    · intro hb; rw [if_pos hb]; simp
  have HF := Lib.hid (fun (w' : World) (hk : Kp (fun _ => False) w w') => t_first (h.no hk).set (h.no hk).few (s.taken : Int) (s.taken : Int) (by omega))
  rw [hf] at HF
  have Htm := Lib.hid htm
  have Hm3 := Lib.hid hm3
  have Hffb := Lib.hid hffb
  have H := Lib.hid h
  have hmm1 : mm ≤ 1048576 := by omega
  have Hok := Lib.hid ok
  clear htm hm3 hffb hf hff ht hmm ok
  obtain ⟨_, _, c2, _, _, c5, _, c7, _, c9, _, _, c12⟩ := h.all
  clear h
  go_enter Try.func14, Try.ntmps14
  go_upto_region 1 with (fail)
  refine wp_region_held_drew (S := (fun w' => Kp (fun _ => False) w w')) (by kernel_rfl) (Kp.drew (Kp.refl _ w)) (fun hHeld => ?_)
  refine wpAnyH_take (i := 0) (oi := { dst := some 8, op := Op.move (.tmp 0), type := _, pos := _, after := _, guard := _ }) (v := ?_) rfl (by kernel_rfl) (by kernel_rfl) (by kernel_rfl) (fun _ _ _ h => h) (Or.inl ⟨by rfl, ?_⟩) hHeld ?_
  rotate_left
  · intro w99 hSw
    first | (go_simp; done) | (go_simp; with_reducible rfl)
  try simp only [Act.put, List.setIfInBounds_toArray, List.set_cons_zero, List.set_cons_succ]
  refine wpAnyH_take (i := 1) (oi := { dst := some 9, op := Op.nilCheck (.tmp 8), type := _, pos := _, after := _, guard := _ }) (v := ?_) rfl (by kernel_rfl) (by kernel_rfl) (by kernel_rfl) (fun _ _ _ h => h) (Or.inl ⟨by rfl, ?_⟩) hHeld ?_
  rotate_left
  · intro w99 hSw
    first | (go_simp; done) | (go_simp; with_reducible rfl)
  try simp only [Act.put, List.setIfInBounds_toArray, List.set_cons_zero, List.set_cons_succ]
  refine wpAnyH_take (i := 2) (oi := { dst := some 10, op := Op.fieldAddr 45 (.tmp 9) 0, type := _, pos := _, after := _, guard := _ }) (v := ?_) rfl (by kernel_rfl) (by kernel_rfl) (by kernel_rfl) (fun _ _ _ h => h) (Or.inl ⟨by rfl, ?_⟩) hHeld ?_
  rotate_left
  · intro w99 hSw
    first | (go_simp; done) | (go_simp; with_reducible rfl)
  try simp only [Act.put, List.setIfInBounds_toArray, List.set_cons_zero, List.set_cons_succ]
  refine wpAnyH_take (i := 3) (oi := { dst := some 11, op := Op.move (.tmp 0), type := _, pos := _, after := _, guard := _ }) (v := ?_) rfl (by kernel_rfl) (by kernel_rfl) (by kernel_rfl) (fun _ _ _ h => h) (Or.inl ⟨by rfl, ?_⟩) hHeld ?_
  rotate_left
  · intro w99 hSw
    first | (go_simp; done) | (go_simp; with_reducible rfl)
  try simp only [Act.put, List.setIfInBounds_toArray, List.set_cons_zero, List.set_cons_succ]
  refine wpAnyH_take (i := 4) (oi := { dst := some 12, op := Op.nilCheck (.tmp 11), type := _, pos := _, after := _, guard := _ }) (v := ?_) rfl (by kernel_rfl) (by kernel_rfl) (by kernel_rfl) (fun _ _ _ h => h) (Or.inl ⟨by rfl, ?_⟩) hHeld ?_
  rotate_left
  · intro w99 hSw
    first | (go_simp; done) | (go_simp; with_reducible rfl)
  try simp only [Act.put, List.setIfInBounds_toArray, List.set_cons_zero, List.set_cons_succ]
  refine wpAnyH_take (i := 5) (oi := { dst := some 13, op := Op.fieldAddr 45 (.tmp 12) 3, type := _, pos := _, after := _, guard := _ }) (v := ?_) rfl (by kernel_rfl) (by kernel_rfl) (by kernel_rfl) (fun _ _ _ h => h) (Or.inl ⟨by rfl, ?_⟩) hHeld ?_
  rotate_left
  · intro w99 hSw
    first | (go_simp; done) | (go_simp; with_reducible rfl)
  try simp only [Act.put, List.setIfInBounds_toArray, List.set_cons_zero, List.set_cons_succ]
  refine wpAnyH_take (i := 6) (oi := { dst := some 14, op := Op.load 3 (.tmp 13), type := _, pos := _, after := _, guard := _ }) (v := ?_) rfl (by kernel_rfl) (by kernel_rfl) (by kernel_rfl) (fun _ _ _ h => h) (Or.inl ⟨by rfl, ?_⟩) hHeld ?_
  rotate_left
  · intro w99 hSw
    obtain ⟨_, _, c2, _, _, c5, _, c7, _⟩ := (H.out.no hSw).all; first | (go_simp; done) | (go_simp; with_reducible rfl)
  try simp only [Act.put, List.setIfInBounds_toArray, List.set_cons_zero, List.set_cons_succ]
  refine wpAnyH_ready (rs := [7]) (by kernel_rfl) (by simp) (AllReadyH.cons (o := { dst := some 15, op := Op.call { callee := Callee.value (Operand.func 37), args := #[(.tmp 10), (.tmp 14)], argTypes := #[41, 3] }, type := _, pos := _, after := _, guard := _ }) rfl (fun K hK => ?_) AllReadyH.nil)
  go_simp
  with_reducible refine (HF.out _ hHeld).mono ?_
  rintro e w' ⟨rfl, hkh⟩
  go_wp2_with fail
  have hx9 := Kp.trans hHeld hkh
  refine hK.out _ _ hx9 (fun _ => ?_)
  clear hK hHeld
  have hHeld := hx9
  clear hx9
  clear hkh
  generalize w' = wd7 at *
  try simp only [Act.put, List.setIfInBounds_toArray, List.set_cons_zero, List.set_cons_succ]
  refine wpAnyH_take (i := 8) (oi := { dst := some 7, op := Op.assign (.tmp 15), type := _, pos := _, after := _, guard := _ }) (v := ?_) rfl (by kernel_rfl) (by kernel_rfl) (by kernel_rfl) (fun _ _ _ h => h) (Or.inl ⟨by rfl, ?_⟩) hHeld ?_
  rotate_left
  · intro w99 hSw
    first | (go_simp; done) | (go_simp; with_reducible rfl)
  try simp only [Act.put, List.setIfInBounds_toArray, List.set_cons_zero, List.set_cons_succ]
  refine wpAnyH_done (by kernel_rfl) ?_ _
  have Hh1 := Lib.hid hHeld
  clear hHeld c2 c5 c7 c9 c12
  go_upto_region 2 with (fail)
  generalize wd7 = w0 at *
  have H0 := Lib.hid (H.out.no Hh1.out)
  obtain ⟨_, _, c2, _, _, c5, _, c7, _, c9, _, _, c12⟩ := H0.out.all
  have hgl0 := H0.out.cell.lt
  go_upto_if 19 with (fail)
  go_cut [7] (fun v7 wx => v7 = .int .i64 (ff : Int) ∧ Hid (Kp (fun _ => False) w wx))
  case first =>
    have hb1 := Hffb.out.1
    have hb2 := Hffb.out.2
    clear Hffb
    cases hbk : s.broken with
    | false =>
      rw [hbk] at c9
      obtain rfl := hb1 hbk
      clear hb1 hb2
      go_wp2_with fail
      go_meet
      case rel => exact ⟨rfl, Lib.hid Hh1.out⟩
    | true =>
      rw [hbk] at c9
      have hb3 := hb2 hbk
      clear hb1 hb2
      by_cases e1 : s.taken < s.sure
      · have t1 : (s.taken : Int) < (s.sure : Int) := by omega
        have t1' : ¬ (s.sure : Int) ≤ (s.taken : Int) := by omega
        have t1'' : ¬ (s.sure : Int) < (s.taken : Int) := by omega
        by_cases e2 : f < s.sure
        · have t2 : (f : Int) < (s.sure : Int) := by omega
          have t2' : ¬ (s.sure : Int) ≤ (f : Int) := by omega
          have t2'' : ¬ (s.sure : Int) < (f : Int) := by omega
          obtain rfl : ff = f := by omega
          clear hb3
          go_wp2_with fail
          go_quiet (fail)
          go_wp2_with fail
          go_meet
          case rel => exact ⟨rfl, Lib.hid (Hh1.out.drewN _)⟩
        · have t2 : ¬ (f : Int) < (s.sure : Int) := by omega
          have t2' : (s.sure : Int) ≤ (f : Int) := by omega
          have hb4 : ff = s.sure := by omega
          have Hb4 := Lib.hid hb4
          clear hb3 hb4
          go_wp2_with fail
          go_quiet (fail)
          all_goals (try (go_wp2_with fail))
          all_goals go_meet
          all_goals exact ⟨by first | (rw [Hb4.out]; done) | (have := Hb4.out; simp; omega), Lib.hid (Hh1.out.drewN _)⟩
      · have t1 : ¬ (s.taken : Int) < (s.sure : Int) := by omega
        have t1' : (s.sure : Int) ≤ (s.taken : Int) := by omega
        by_cases e2 : f < s.taken
        · have hb4 : ff = f := by omega
          have : s.taken ≤ ff := hfar.1
          omega
        · have t2 : ¬ (f : Int) < (s.taken : Int) := by omega
          have t2' : (s.taken : Int) ≤ (f : Int) := by omega
          have hb4 : ff = s.taken := by omega
          have Hb4 := Lib.hid hb4
          clear hb3 hb4
          go_wp2_with fail
          go_quiet (fail)
          all_goals (try (go_wp2_with fail))
          all_goals go_meet
          all_goals exact ⟨by first | (rw [Hb4.out]; done) | (have := Hb4.out; simp; omega), Lib.hid (Hh1.out.drewN _)⟩
  case rest =>
    obtain ⟨rfl, Hk1⟩ := hcut
    clear H0 Hh1 c2 c5 c7 c9 c12 hgl0 Hffb
    generalize wc = w1 at *
    have H1 := Lib.hid (H.out.no Hk1.out)
    obtain ⟨_, _, c2, _, _, c5, _, c7, _, c9, _, c11, c12⟩ := H1.out.all
    have hgl1 := H1.out.cell.lt
    go_upto_region 4 with (fail)
    go_cut [7] (fun v7 wx => v7 = .int .i64 (t : Int) ∧ wx = w1)
    case first =>
      have hwr : IntKind.i64.wrap ((s.taken : Int) + (mm : Int)) = (s.taken : Int) + (mm : Int) := IntWalk.i64_in _ (by omega)
      have hsel : (ff < s.taken + mm ∧ t = ff) ∨ (s.taken + mm ≤ ff ∧ t = s.taken + mm) := by have := Htm.out; omega
      clear Htm
      have hm3 := Hm3.out
      rcases hm3 with ⟨rfl, b1⟩ | ⟨rfl, b1, b2⟩
      · have b3 : ¬ (0 : Int) < most := by omega
        have b4 : most < 1048576 := by omega
        rcases hsel with ⟨g1, rfl⟩ | ⟨g1, rfl⟩
        · have g2 : (t : Int) < (s.taken : Int) := by omega
          omega
        · have g2 : ¬ (ff : Int) < (s.taken : Int) := by omega
          go_wp2_with fail
          all_goals go_meet
          all_goals exact ⟨by first | rfl | (simp; done) | (simp; omega), rfl⟩
      · have b3 : (mm : Int) ≤ 1048576 := by omega
        have b5 : (0 : Int) < (mm : Int) := by omega
        rcases hsel with ⟨g1, rfl⟩ | ⟨g1, rfl⟩
        · have g2 : (t : Int) < (s.taken : Int) + (mm : Int) := by omega
          have g3 : ¬ (s.taken : Int) + (mm : Int) < (t : Int) := by omega
          go_wp2_with fail
          all_goals go_meet
          all_goals exact ⟨by first | rfl | (simp; done) | (simp; omega), rfl⟩
        · have g2 : ¬ (ff : Int) < (s.taken : Int) + (mm : Int) := by omega
          have g3 : (s.taken : Int) + (mm : Int) ≤ (ff : Int) := by omega
          go_wp2_with fail
          all_goals go_meet
          all_goals exact ⟨by first | rfl | (simp; done) | (simp; omega), rfl⟩
    case rest =>
      obtain ⟨rfl, rfl⟩ := hcut
      generalize wc = w1 at *
      obtain ⟨k, hk⟩ : ∃ k, k = t - s.taken := ⟨_, rfl⟩
      have Hk := Lib.hid hk
      clear hk
      go_upto_if 46 with (fail)
      go_cut [4] (fun v4 wx => RowAt wx w.heap.size 1 v4 (t - s.taken) (encB ((s.d.drop s.taken).take (t - s.taken))) ∧ StAt wx g id v bv (takeS s t) ∧ Kp (fun k => k = g) w wx)
      case first =>
        by_cases htk : s.taken < t
        · have q0 : (s.taken : Int) < (t : Int) := by omega
          obtain ⟨A1, cap1, hbv⟩ : ∃ A1 cap1, bv = .slice (some ⟨A1, 0, none⟩) s.d.length cap1 ∧ s.d.length ≤ cap1 ∧ cap1 ≤ maxLen := by
            rcases H1.out.row.2 with ⟨_, h0⟩ | ⟨q, cap, cur, hq, _, _, h1, h2, _⟩
            · omega
            · exact ⟨q, cap, hq, h1, h2⟩
          obtain ⟨hbv, hcp1, hcp2⟩ := hbv
          subst hbv
          have q1 : t ≤ cap1 := by omega
          have q2 : s.taken ≤ t := by omega
          have q3 : ¬ cap1 = s.taken := by omega
          have hrowv := (RowAt.of_own H1.out.row).src (encB_one _)
          obtain ⟨b', off', c', hv', hb', hcb'⟩ := Src.wide hrowv (by omega) (by omega)
          cases hv'
          have hlen : ((s.d.drop s.taken).take (t - s.taken)).length = t - s.taken := by rw [List.length_take, List.length_drop]; omega
          have hBs : Bs w1 (.slice (some ⟨A1, s.taken, none⟩) ((s.d.drop s.taken).take (t - s.taken)).length (cap1 - s.taken)) ((s.d.drop s.taken).take (t - s.taken)) := by
            rw [hlen]
            refine ⟨by rw [encB_len, hlen]; omega, encB_one _, .inr ⟨_, _, by rw [hlen], fun j u hj => ?_⟩⟩
            rw [Addr.add_lit]
            have h1 := hcb' (s.taken + j) u (by
              unfold encB at hj ⊢
              rw [List.map_take, List.map_drop, List.getElem?_take] at hj
              split at hj
              · rw [List.getElem?_drop] at hj
                exact hj
              · cases hj)
            rw [Nat.zero_add] at h1
            exact h1
          have HCl := Lib.hid (fun (w' : World) (hk : Kp (fun _ => False) w1 w') => clone_b (hBs.kp hk (fun _ _ h => h)) (by rw [hlen]; have := Htm.out; omega))
          rw [hlen] at HCl
          clear hBs hlen hcb' hrowv hb'
          go_upto_region 6 with (fail)
          refine wp_region_held_drew (S := (fun w' => Kp (fun _ => False) w1 w')) (by kernel_rfl) (Kp.drew (Kp.refl _ w1)) (fun hHeld => ?_)
          refine wpAnyH_take (i := 0) (oi := { dst := some 47, op := Op.move (.tmp 0), type := _, pos := _, after := _, guard := _ }) (v := ?_) rfl (by kernel_rfl) (by kernel_rfl) (by kernel_rfl) (fun _ _ _ h => h) (Or.inl ⟨by rfl, ?_⟩) hHeld ?_
          rotate_left
          · intro w99 hSw
            first | (go_simp; done) | (go_simp; with_reducible rfl)
          try simp only [Act.put, List.setIfInBounds_toArray, List.set_cons_zero, List.set_cons_succ]
          refine wpAnyH_take (i := 1) (oi := { dst := some 48, op := Op.nilCheck (.tmp 47), type := _, pos := _, after := _, guard := _ }) (v := ?_) rfl (by kernel_rfl) (by kernel_rfl) (by kernel_rfl) (fun _ _ _ h => h) (Or.inl ⟨by rfl, ?_⟩) hHeld ?_
          rotate_left
          · intro w99 hSw
            first | (go_simp; done) | (go_simp; with_reducible rfl)
          try simp only [Act.put, List.setIfInBounds_toArray, List.set_cons_zero, List.set_cons_succ]
          refine wpAnyH_take (i := 2) (oi := { dst := some 49, op := Op.fieldAddr 45 (.tmp 48) 5, type := _, pos := _, after := _, guard := _ }) (v := ?_) rfl (by kernel_rfl) (by kernel_rfl) (by kernel_rfl) (fun _ _ _ h => h) (Or.inl ⟨by rfl, ?_⟩) hHeld ?_
          rotate_left
          · intro w99 hSw
            first | (go_simp; done) | (go_simp; with_reducible rfl)
          try simp only [Act.put, List.setIfInBounds_toArray, List.set_cons_zero, List.set_cons_succ]
          refine wpAnyH_take (i := 3) (oi := { dst := some 50, op := Op.load 22 (.tmp 49), type := _, pos := _, after := _, guard := _ }) (v := ?_) rfl (by kernel_rfl) (by kernel_rfl) (by kernel_rfl) (fun _ _ _ h => h) (Or.inl ⟨by rfl, ?_⟩) hHeld ?_
          rotate_left
          · intro w99 hSw
            obtain ⟨_, _, c2, _, _, c5, _, c7, _⟩ := (H1.out.no hSw).all; first | (go_simp; done) | (go_simp; with_reducible rfl)
          try simp only [Act.put, List.setIfInBounds_toArray, List.set_cons_zero, List.set_cons_succ]
          refine wpAnyH_take (i := 4) (oi := { dst := some 51, op := Op.move (.tmp 0), type := _, pos := _, after := _, guard := _ }) (v := ?_) rfl (by kernel_rfl) (by kernel_rfl) (by kernel_rfl) (fun _ _ _ h => h) (Or.inl ⟨by rfl, ?_⟩) hHeld ?_
          rotate_left
          · intro w99 hSw
            first | (go_simp; done) | (go_simp; with_reducible rfl)
          try simp only [Act.put, List.setIfInBounds_toArray, List.set_cons_zero, List.set_cons_succ]
          refine wpAnyH_take (i := 5) (oi := { dst := some 52, op := Op.nilCheck (.tmp 51), type := _, pos := _, after := _, guard := _ }) (v := ?_) rfl (by kernel_rfl) (by kernel_rfl) (by kernel_rfl) (fun _ _ _ h => h) (Or.inl ⟨by rfl, ?_⟩) hHeld ?_
          rotate_left
          · intro w99 hSw
            first | (go_simp; done) | (go_simp; with_reducible rfl)
          try simp only [Act.put, List.setIfInBounds_toArray, List.set_cons_zero, List.set_cons_succ]
          refine wpAnyH_take (i := 6) (oi := { dst := some 53, op := Op.fieldAddr 45 (.tmp 52) 3, type := _, pos := _, after := _, guard := _ }) (v := ?_) rfl (by kernel_rfl) (by kernel_rfl) (by kernel_rfl) (fun _ _ _ h => h) (Or.inl ⟨by rfl, ?_⟩) hHeld ?_
          rotate_left
          · intro w99 hSw
            first | (go_simp; done) | (go_simp; with_reducible rfl)
          try simp only [Act.put, List.setIfInBounds_toArray, List.set_cons_zero, List.set_cons_succ]
          refine wpAnyH_take (i := 7) (oi := { dst := some 54, op := Op.load 3 (.tmp 53), type := _, pos := _, after := _, guard := _ }) (v := ?_) rfl (by kernel_rfl) (by kernel_rfl) (by kernel_rfl) (fun _ _ _ h => h) (Or.inl ⟨by rfl, ?_⟩) hHeld ?_
          rotate_left
          · intro w99 hSw
            obtain ⟨_, _, c2, _, _, c5, _, c7, _⟩ := (H1.out.no hSw).all; first | (go_simp; done) | (go_simp; with_reducible rfl)
          try simp only [Act.put, List.setIfInBounds_toArray, List.set_cons_zero, List.set_cons_succ]
          refine wpAnyH_take (i := 8) (oi := { dst := some 55, op := Op.move (.tmp 7), type := _, pos := _, after := _, guard := _ }) (v := ?_) rfl (by kernel_rfl) (by kernel_rfl) (by kernel_rfl) (fun _ _ _ h => h) (Or.inl ⟨by rfl, ?_⟩) hHeld ?_
          rotate_left
          · intro w99 hSw
            first | (go_simp; done) | (go_simp; with_reducible rfl)
          try simp only [Act.put, List.setIfInBounds_toArray, List.set_cons_zero, List.set_cons_succ]
          refine wpAnyH_take (i := 9) (oi := { dst := some 56, op := Op.slice 22 (.tmp 50) (some (.tmp 54)) (some (.tmp 55)) none, type := _, pos := _, after := _, guard := _ }) (v := ?_) rfl (by kernel_rfl) (by kernel_rfl) (by kernel_rfl) (fun _ _ _ h => h) (Or.inl ⟨by rfl, ?_⟩) hHeld ?_
          rotate_left
          · intro w99 hSw
            first | (go_simp; done) | (go_simp; with_reducible rfl)
          try simp only [Act.put, List.setIfInBounds_toArray, List.set_cons_zero, List.set_cons_succ]
          refine wpAnyH_ready (rs := [10]) (by kernel_rfl) (by simp) (AllReadyH.cons (o := { dst := some 57, op := Op.call { callee := Callee.value (Operand.func 39), args := #[(.tmp 56)], argTypes := #[22] }, type := _, pos := _, after := _, guard := _ }) rfl (fun K hK => ?_) AllReadyH.nil)
          go_simp
          with_reducible refine (HCl.out _ hHeld).mono ?_
          rintro e w' ⟨Ac, cc, rfl, hrc, hkh⟩
          go_wp2_with fail
          have hx9 := Kp.trans hHeld hkh
          refine hK.out _ _ hx9 (fun _ => ?_)
          clear hK hHeld
          have hHeld := hx9
          clear hx9
          have hs10 := hHeld.size
          clear hkh
          generalize w' = wd10 at *
          try simp only [Act.put, List.setIfInBounds_toArray, List.set_cons_zero, List.set_cons_succ]
          refine wpAnyH_ready (rs := [11]) (by kernel_rfl) (by simp) (AllReadyH.cons (o := { dst := some 58, op := Op.call { callee := Callee.value (Operand.func 38), args := #[(.tmp 57)], argTypes := #[22] }, type := _, pos := _, after := _, guard := _ }) rfl (fun K hK => ?_) AllReadyH.nil)
          go_simp
          with_reducible refine (clip_b (row_capL (RowAt.of_own hrc)).1 (row_add (RowAt.of_own hrc))).mono ?_
          rintro e w' ⟨rfl, rfl⟩
          go_wp2_with fail
          have hx9 := hHeld
          refine hK.out _ _ hx9 (fun _ => ?_)
          clear hK hHeld
          have hHeld := hx9
          clear hx9
          generalize w' = wd11 at *
          try simp only [Act.put, List.setIfInBounds_toArray, List.set_cons_zero, List.set_cons_succ]
          refine wpAnyH_take (i := 12) (oi := { dst := some 4, op := Op.assign (.tmp 58), type := _, pos := _, after := _, guard := _ }) (v := ?_) rfl (by kernel_rfl) (by kernel_rfl) (by kernel_rfl) (fun _ _ _ h => h) (Or.inl ⟨by rfl, ?_⟩) hHeld ?_
          rotate_left
          · intro w99 hSw
            first | (go_simp; done) | (go_simp; with_reducible rfl)
          try simp only [Act.put, List.setIfInBounds_toArray, List.set_cons_zero, List.set_cons_succ]
          refine wpAnyH_done (by kernel_rfl) ?_ _
          have hrv := row_cut ((RowAt.of_own hrc).base (show w.heap.size ≤ w1.drew.heap.size from Hk1.out.size)) (by omega)
          generalize wd10 = w2 at *
          have Hrv := Lib.hid hrv
          have H2 := Lib.hid (H1.out.no hHeld)
          have Hk2 := Lib.hid (Hk1.out.trans hHeld)
          clear hrv hrc hHeld HCl c2 c5 c7 c9 c11 c12 H1 Hk1
          obtain ⟨_, _, c2, _, _, c5, _, c7, _, c9, _, c11, c12⟩ := H2.out.all
          have hgl2 := H2.out.cell.lt
          have hea : (s.rd : Int) + eatF ((t : Int) - (s.taken : Int)) = (t : Int) := by
            have := Hok.out.rd
            have := Htm.out
            unfold eatF
            omega
          have HE := Lib.hid (eat_any (w := w2.drew) (b := g) (o := 1) (R := (s.rd : Int)) c2 (H2.out.cell.frozen 2) (by omega) (by have := Hok.out.rd; omega) ((t : Int) - (s.taken : Int)))
          rw [hea] at HE
          have hws : IntKind.i64.wrap ((t : Int) - (s.taken : Int)) = (t : Int) - (s.taken : Int) := IntWalk.i64_in _ (by omega)
          have Hc5 : Hid (∀ dd : Nat, ((w2.drew.setCell ⟨g, 2, none⟩ (.int .i64 (t : Int))).drewN dd).cell? ⟨g, 5, none⟩ = some (.int .i64 (s.taken : Int))) := Lib.hid (fun dd => by
            have h1 := (Whole.drewN ((Whole.drew H2.out.cell).set 2 (.int .i64 (t : Int))) dd).cell 5
            exact h1)
          have HF2 := Lib.hid (fun dd : Nat => st_take H2.out t htl.2 (1 + dd) rfl)
          clear hea
          go_upto_region 7 with (fail)
          refine wp_region_held_drew (S := (fun w' => w'.cell? ⟨g, 5, none⟩ = some (.int .i64 (s.taken : Int)))) (by kernel_rfl) c5 (fun hHeld => ?_)
          refine wpAnyH_take (i := 0) (oi := { dst := some 59, op := Op.move (.tmp 0), type := _, pos := _, after := _, guard := _ }) (v := ?_) rfl (by kernel_rfl) (by kernel_rfl) (by kernel_rfl) (fun _ _ _ h => h) (Or.inl ⟨by rfl, ?_⟩) hHeld ?_
          rotate_left
          · intro w99 hSw
            first | (go_simp; done) | (go_simp; with_reducible rfl)
          try simp only [Act.put, List.setIfInBounds_toArray, List.set_cons_zero, List.set_cons_succ]
          refine wpAnyH_take (i := 1) (oi := { dst := some 60, op := Op.nilCheck (.tmp 59), type := _, pos := _, after := _, guard := _ }) (v := ?_) rfl (by kernel_rfl) (by kernel_rfl) (by kernel_rfl) (fun _ _ _ h => h) (Or.inl ⟨by rfl, ?_⟩) hHeld ?_
          rotate_left
          · intro w99 hSw
            first | (go_simp; done) | (go_simp; with_reducible rfl)
          try simp only [Act.put, List.setIfInBounds_toArray, List.set_cons_zero, List.set_cons_succ]
          refine wpAnyH_take (i := 2) (oi := { dst := some 61, op := Op.fieldAddr 45 (.tmp 60) 1, type := _, pos := _, after := _, guard := _ }) (v := ?_) rfl (by kernel_rfl) (by kernel_rfl) (by kernel_rfl) (fun _ _ _ h => h) (Or.inl ⟨by rfl, ?_⟩) hHeld ?_
          rotate_left
          · intro w99 hSw
            first | (go_simp; done) | (go_simp; with_reducible rfl)
          try simp only [Act.put, List.setIfInBounds_toArray, List.set_cons_zero, List.set_cons_succ]
          refine wpAnyH_take (i := 3) (oi := { dst := some 62, op := Op.move (.tmp 7), type := _, pos := _, after := _, guard := _ }) (v := ?_) rfl (by kernel_rfl) (by kernel_rfl) (by kernel_rfl) (fun _ _ _ h => h) (Or.inl ⟨by rfl, ?_⟩) hHeld ?_
          rotate_left
          · intro w99 hSw
            first | (go_simp; done) | (go_simp; with_reducible rfl)
          try simp only [Act.put, List.setIfInBounds_toArray, List.set_cons_zero, List.set_cons_succ]
          refine wpAnyH_take (i := 4) (oi := { dst := some 63, op := Op.move (.tmp 0), type := _, pos := _, after := _, guard := _ }) (v := ?_) rfl (by kernel_rfl) (by kernel_rfl) (by kernel_rfl) (fun _ _ _ h => h) (Or.inl ⟨by rfl, ?_⟩) hHeld ?_
          rotate_left
          · intro w99 hSw
            first | (go_simp; done) | (go_simp; with_reducible rfl)
          try simp only [Act.put, List.setIfInBounds_toArray, List.set_cons_zero, List.set_cons_succ]
          refine wpAnyH_take (i := 5) (oi := { dst := some 64, op := Op.nilCheck (.tmp 63), type := _, pos := _, after := _, guard := _ }) (v := ?_) rfl (by kernel_rfl) (by kernel_rfl) (by kernel_rfl) (fun _ _ _ h => h) (Or.inl ⟨by rfl, ?_⟩) hHeld ?_
          rotate_left
          · intro w99 hSw
            first | (go_simp; done) | (go_simp; with_reducible rfl)
          try simp only [Act.put, List.setIfInBounds_toArray, List.set_cons_zero, List.set_cons_succ]
          refine wpAnyH_take (i := 6) (oi := { dst := some 65, op := Op.fieldAddr 45 (.tmp 64) 3, type := _, pos := _, after := _, guard := _ }) (v := ?_) rfl (by kernel_rfl) (by kernel_rfl) (by kernel_rfl) (fun _ _ _ h => h) (Or.inl ⟨by rfl, ?_⟩) hHeld ?_
          rotate_left
          · intro w99 hSw
            first | (go_simp; done) | (go_simp; with_reducible rfl)
          try simp only [Act.put, List.setIfInBounds_toArray, List.set_cons_zero, List.set_cons_succ]
          refine wpAnyH_take (i := 7) (oi := { dst := some 66, op := Op.load 3 (.tmp 65), type := _, pos := _, after := _, guard := _ }) (v := ?_) rfl (by kernel_rfl) (by kernel_rfl) (by kernel_rfl) (fun _ _ _ h => h) (Or.inl ⟨by rfl, ?_⟩) hHeld ?_
          rotate_left
          · intro w99 hSw
            have c5 := hSw; first | (go_simp; done) | (go_simp; with_reducible rfl)
          try simp only [Act.put, List.setIfInBounds_toArray, List.set_cons_zero, List.set_cons_succ]
          refine wpAnyH_take (i := 8) (oi := { dst := some 67, op := Op.binOp BinOp.sub 3 (.tmp 62) (.tmp 66) 3, type := _, pos := _, after := _, guard := _ }) (v := ?_) rfl (by kernel_rfl) (by kernel_rfl) (by kernel_rfl) (fun _ _ _ h => h) (Or.inl ⟨by rfl, ?_⟩) hHeld ?_
          rotate_left
          · intro w99 hSw
            first | (go_simp; done) | (go_simp; with_reducible rfl)
          try simp only [Act.put, List.setIfInBounds_toArray, List.set_cons_zero, List.set_cons_succ]
          refine wpAnyH_ready (rs := [9]) (by kernel_rfl) (by simp) (AllReadyH.cons (o := { dst := some 68, op := Op.call { callee := Callee.value (Operand.func 40), args := #[(.tmp 61), (.tmp 67)], argTypes := #[43, 3] }, type := _, pos := _, after := _, guard := _ }) rfl (fun K hK => ?_) AllReadyH.nil)
          go_simp
          with_reducible refine (HE.out).mono ?_
          rintro e w' ⟨rfl, dd, rfl⟩
          go_wp2_with fail
          refine hK.out _ _ (Hc5.out dd) (fun _ => ?_)
          clear hK hHeld
          try simp only [Act.put, List.setIfInBounds_toArray, List.set_cons_zero, List.set_cons_succ]
          refine wpAnyH_done (by kernel_rfl) ?_ _
          obtain ⟨hst, hk3⟩ := HF2.out dd
          have Hst := Lib.hid hst
          have Hk3 := Lib.hid (Hk2.out.no.trans hk3)
          have Hrv3 := Lib.hid (Hrv.out.kp hk3 (fun k hk' e => by have := (Hrv.out.lt k hk').1; omega))
          have x5 := Hc5.out dd
          have g5 := (Whole.drewN ((Whole.drew H2.out.cell).set 2 (.int .i64 (t : Int))) dd).lt
          have f5 := H2.out.cell.frozen 5
          have x55 := H2.out.all.2.2.2.2.2.1
          clear hst hk3 c5
          go_wp2_with fail
          go_meet
          case rel => exact ⟨Hrv3.out, Hst.out, Hk3.out⟩
        · have q0 : ¬ (s.taken : Int) < (t : Int) := by omega
          have ht0 : t = s.taken := by omega
          have e0 : takeS s t = s := by
            have := Hok.out.rd
            rw [ht0]
            cases s
            simp only at this
            subst this
            rfl
          have e1 : t - s.taken = 0 := by omega
          have e0 := Lib.hid e0
          have e1 := Lib.hid e1
          clear ht0 htk
          go_wp2_with fail
          go_meet
          case rel =>
            rw [e0.out, e1.out, List.take_zero]
            exact ⟨RowAt.nil _ _ _, H1.out, Hk1.out.no⟩
      case rest =>
        obtain ⟨hrow, hst, hk⟩ := hcut
        generalize wc = w2 at *
        have Hrow := Lib.hid hrow
        have Hst := Lib.hid hst
        have Hk := Lib.hid hk
        have HO := Lib.hid (over_any hst)
        have hcode := hst.all.2.2.2.2.2.2.2.2.2.2.2.1
        have hgl3 := hst.cell.lt
        clear hrow hst hk H1 Hk1 c2 c5 c7 c9 c11 c12
        obtain ⟨ov, hov⟩ : ∃ ov, ov = overN (takeS s t) := ⟨_, rfl⟩
        rw [← hov] at HO
        have Hov := Lib.hid hov
        clear hov
        obtain ⟨Ar, cr, rfl⟩ := Hrow.out.form
        go_wp2_with fail
        with_reducible refine (HO.out).mono ?_
        rintro e w3 ⟨rfl, hk3⟩
        have hc3 := (hk3.cell (p := ⟨g, 11, none⟩) hgl3 (fun h => h)).trans hcode
        have hgl4 := Nat.lt_of_lt_of_le hgl3 hk3.size
        have Hst3 := Lib.hid (Hst.out.no hk3)
        have Hrow3 := Lib.hid (Hrow.out.kp hk3 (fun _ _ h => h))
        have Hk3 := Lib.hid (Hk.out.trans hk3.no)
        clear hk3 hcode
        by_cases h2 : ov = 2
        · have t0 : ((ov : Int) == 2) = true := by simp; omega
          have H2' := Lib.hid h2
          clear h2
          go_wp2_with fail
          go_ret3
          exact ⟨_, by unfold codeN; rw [← Hov.out]; simp [H2'.out, takeS], Hrow3.out, Hst3.out, Hk3.out⟩
        · have t0 : ((ov : Int) == 2) = false := by simp; omega
          have H2' := Lib.hid h2
          clear h2
          go_wp2_with fail
          go_ret3
          exact ⟨_, by unfold codeN; rw [← Hov.out]; simp [H2'.out], Hrow3.out, Hst3.out, Hk3.out⟩
end Go.Proofs.Ytbkpapdbidbhaaa

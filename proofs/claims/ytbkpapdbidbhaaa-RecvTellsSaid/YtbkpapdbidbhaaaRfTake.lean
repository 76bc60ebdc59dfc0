/-
  argosyref7.Recv: Take. (printed by src/gen_XRfTake.py)
-/
import Derived.Test.YtbkpapdbidbhaaaRfLay
import Derived.Test.YtbkpapdbidbhaaaRecvS
namespace Go.Proofs.Ytbkpapdbidbhaaa
open Go.RowKit

/-- The number in a cell. -/
def cellInt (w : World) (p : Addr) : Nat := match w.cell? p with
  | some (.int _ n) => n.toNat
  | _ => 0
theorem cellInt_of {w : World} {p : Addr} {n : Nat} (h : w.cell? p = some (.int .i64 (n : Int))) : cellInt w p = n := by unfold cellInt; rw [h]; simp
theorem take_next {d : List UInt8} {a k : Nat} {x : UInt8} (hk : a ≤ k) (hx : d[k]? = some x) : encB ((d.drop a).take (k + 1 - a)) = encB ((d.drop a).take (k - a)) ++ encB [x] := by
  have e : (d.drop a).take (k + 1 - a) = (d.drop a).take (k - a) ++ [x] := by
    rw [show k + 1 - a = (k - a) + 1 by omega, List.take_add_one, List.getElem?_drop, show a + (k - a) = k by omega, hx]
    rfl
  rw [e]
  exact List.map_append
set_option maxRecDepth 100000 in
set_option maxHeartbeats 4000000 in
theorem q_take {w : World} {g : Nat} {v bv : Value} {s : RS} {ov : Nat} {B : List UInt8} (h : RfAt w g v bv s ov B) (hok : s.Ok) (hG : ∀ j : Nat, InL s.L (j : Int) → B[j]? = s.d[j]?) (most : Nat) (h0 : most ≤ 1048576) (t : Nat) (ht : t = toN s (most : Int)) :
    Calls Try.prog 24 #[.pointer (some ⟨g, 0, none⟩), .int .i64 (most : Int)] w fun e w' => ∃ vr, e = .returned (.tuple #[vr, .int .i64 (overN (takeS s t) : Int), .int .i64 (codeN (takeS s t) : Int)]) ∧
      RowAt w' w.heap.size 1 vr (t - s.taken) (encB ((s.d.drop s.taken).take (t - s.taken))) ∧ RfAt w' g v bv (takeS s t) (overN (takeS s t)) B ∧ Kp (fun k => k = g) w w' := by
  have htl := to_le hok (most : Int)
  rw [← ht] at htl
  have a1 := hok.dl
  have a2 := hok.taken
  have a3 := hok.sure
  have a4 := hok.rd
  have hgl := h.cell.lt
  have hfew : s.L.length ≤ 1073741824 := by have := hok.lf; omega
  obtain ⟨f, hf⟩ : ∃ f : Nat, firstL s.L s.taken = (f : Int) := Int.eq_ofNat_of_zero_le (by have := (first_spec hok.norm (s.taken : Int)).1; omega)
  obtain ⟨ff, hff⟩ : ∃ ff, ff = farN s := ⟨_, rfl⟩
  have hfar := far_le hok
  have hfin := fun j => far_in hok j
  rw [← hff] at hfar hfin
  have hmm : mostN (most : Int) = most := by unfold mostN; omega
  have htm : t = min ff (s.taken + most) := by rw [ht, hff]; unfold toN; rw [hmm]
  have hffb : (s.broken = false → ff = f) ∧ (s.broken = true → ff = min f (max s.sure s.taken)) := by
    rw [hff]
    unfold farN
    rw [hf]
    constructor
    · intro hb; rw [if_neg (by rw [hb]; simp)]; simp
    · intro hb; rw [if_pos hb]; simp
  -- the bytes that are taken
  have hby : ∀ j : Nat, s.taken ≤ j → j < t → ∃ x, s.d[j]? = some x ∧ B[j]? = some x := fun j h1 h2 => by
    have hi := hfin j h1 (by omega)
    obtain ⟨x, hx⟩ : ∃ x, s.d[j]? = some x := ⟨_, List.getElem?_eq_getElem (by omega)⟩
    exact ⟨x, hx, (hG j hi).trans hx⟩
  have HF := Lib.hid (fun (w' : World) (hk : Kp (fun _ => False) w w') => q_first (h.no hk).inn hfew (s.taken : Int) (by omega))
  rw [hf] at HF
  have Htm := Lib.hid htm
  have Hffb := Lib.hid hffb
  have Hby := Lib.hid hby
  have H := Lib.hid h
  have Hok := Lib.hid hok
  clear htm hffb hf hff ht hmm hok hG hfin hby
  go_enter Try.func24, Try.ntmps24
  go_upto_region 1 with (fail)
  refine wp_region_held_drew (S := (fun w' => Kp (fun _ => False) w w')) (by kernel_rfl) (Kp.drew (Kp.refl _ w)) (fun hHeld => ?_)
  refine wpAnyH_take (i := 0) (oi := { dst := some 9, op := Op.move (.tmp 0), type := _, pos := _, after := _, guard := _ }) (v := ?_) rfl (by kernel_rfl) (by kernel_rfl) (by kernel_rfl) (fun _ _ _ h => h) (Or.inl ⟨by rfl, ?_⟩) hHeld ?_
  rotate_left
  · intro w99 hSw
    first | (go_simp; done) | (go_simp; with_reducible rfl)
  try simp only [Act.put, List.setIfInBounds_toArray, List.set_cons_zero, List.set_cons_succ]
  refine wpAnyH_take (i := 1) (oi := { dst := some 10, op := Op.nilCheck (.tmp 9), type := _, pos := _, after := _, guard := _ }) (v := ?_) rfl (by kernel_rfl) (by kernel_rfl) (by kernel_rfl) (fun _ _ _ h => h) (Or.inl ⟨by rfl, ?_⟩) hHeld ?_
  rotate_left
  · intro w99 hSw
    first | (go_simp; done) | (go_simp; with_reducible rfl)
  try simp only [Act.put, List.setIfInBounds_toArray, List.set_cons_zero, List.set_cons_succ]
  refine wpAnyH_take (i := 2) (oi := { dst := some 11, op := Op.fieldAddr 58 (.tmp 10) 0, type := _, pos := _, after := _, guard := _ }) (v := ?_) rfl (by kernel_rfl) (by kernel_rfl) (by kernel_rfl) (fun _ _ _ h => h) (Or.inl ⟨by rfl, ?_⟩) hHeld ?_
  rotate_left
  · intro w99 hSw
    first | (go_simp; done) | (go_simp; with_reducible rfl)
  try simp only [Act.put, List.setIfInBounds_toArray, List.set_cons_zero, List.set_cons_succ]
  refine wpAnyH_take (i := 3) (oi := { dst := some 12, op := Op.move (.tmp 0), type := _, pos := _, after := _, guard := _ }) (v := ?_) rfl (by kernel_rfl) (by kernel_rfl) (by kernel_rfl) (fun _ _ _ h => h) (Or.inl ⟨by rfl, ?_⟩) hHeld ?_
  rotate_left
  · intro w99 hSw
    first | (go_simp; done) | (go_simp; with_reducible rfl)
  try simp only [Act.put, List.setIfInBounds_toArray, List.set_cons_zero, List.set_cons_succ]
  refine wpAnyH_take (i := 4) (oi := { dst := some 13, op := Op.nilCheck (.tmp 12), type := _, pos := _, after := _, guard := _ }) (v := ?_) rfl (by kernel_rfl) (by kernel_rfl) (by kernel_rfl) (fun _ _ _ h => h) (Or.inl ⟨by rfl, ?_⟩) hHeld ?_
  rotate_left
  · intro w99 hSw
    first | (go_simp; done) | (go_simp; with_reducible rfl)
  try simp only [Act.put, List.setIfInBounds_toArray, List.set_cons_zero, List.set_cons_succ]
  refine wpAnyH_take (i := 5) (oi := { dst := some 14, op := Op.fieldAddr 58 (.tmp 13) 8, type := _, pos := _, after := _, guard := _ }) (v := ?_) rfl (by kernel_rfl) (by kernel_rfl) (by kernel_rfl) (fun _ _ _ h => h) (Or.inl ⟨by rfl, ?_⟩) hHeld ?_
  rotate_left
  · intro w99 hSw
    first | (go_simp; done) | (go_simp; with_reducible rfl)
  try simp only [Act.put, List.setIfInBounds_toArray, List.set_cons_zero, List.set_cons_succ]
  refine wpAnyH_take (i := 6) (oi := { dst := some 15, op := Op.load 3 (.tmp 14), type := _, pos := _, after := _, guard := _ }) (v := ?_) rfl (by kernel_rfl) (by kernel_rfl) (by kernel_rfl) (fun _ _ _ h => h) (Or.inl ⟨by rfl, ?_⟩) hHeld ?_
  rotate_left
  · intro w99 hSw
    have c10 := (H.out.no hSw).all.2.2.2.2.2.2.2.2.2.2.1; first | (go_simp; done) | (go_simp; with_reducible rfl)
  try simp only [Act.put, List.setIfInBounds_toArray, List.set_cons_zero, List.set_cons_succ]
  refine wpAnyH_ready (rs := [7]) (by kernel_rfl) (by simp) (AllReadyH.cons (o := { dst := some 16, op := Op.call { callee := Callee.value (Operand.func 44), args := #[(.tmp 11), (.tmp 15)], argTypes := #[55, 3] }, type := _, pos := _, after := _, guard := _ }) rfl (fun K hK => ?_) AllReadyH.nil)
  go_simp
  with_reducible refine (HF.out _ hHeld).mono ?_
  rintro e w' ⟨rfl, hkw⟩
  go_wp2_with fail
  have hx9 := hkw ▸ hHeld
  refine hK.out _ _ hx9 (fun _ => ?_)
  clear hK hHeld
  have hHeld := hx9
  clear hx9
  generalize w' = wd7 at *
  try simp only [Act.put, List.setIfInBounds_toArray, List.set_cons_zero, List.set_cons_succ]
  refine wpAnyH_take (i := 8) (oi := { dst := some 7, op := Op.assign (.tmp 16), type := _, pos := _, after := _, guard := _ }) (v := ?_) rfl (by kernel_rfl) (by kernel_rfl) (by kernel_rfl) (fun _ _ _ h => h) (Or.inl ⟨by rfl, ?_⟩) hHeld ?_
  rotate_left
  · intro w99 hSw
    first | (go_simp; done) | (go_simp; with_reducible rfl)
  try simp only [Act.put, List.setIfInBounds_toArray, List.set_cons_zero, List.set_cons_succ]
  refine wpAnyH_done (by kernel_rfl) ?_ _
  have Hh1 := Lib.hid hHeld
  clear hHeld
  go_upto_region 2 with (fail)
  generalize wd7 = w0 at *
  have H0 := Lib.hid (H.out.no Hh1.out)
  obtain ⟨_, _, _, _, _, _, _, _, c8, c9, c10, _⟩ := H0.out.all
  have hgl0 := H0.out.cell.lt
  go_upto_if 20 with (fail)
  go_cut [7] (fun v7 wx => v7 = .int .i64 (ff : Int) ∧ Hid (Kp (fun _ => False) w wx))
  case first =>
    as_aux_lemma =>
      have hb1 := Hffb.out.1
      have hb2 := Hffb.out.2
      clear Hffb
      cases hbk : s.broken with
      | false =>
        rw [hbk] at c9
        obtain rfl := hb1 hbk
        clear hb1 hb2
        go_wp2_with fail
        go_meet
        case rel => exact ⟨rfl, Lib.hid Hh1.out⟩
      | true =>
        rw [hbk] at c9
        have hb3 := hb2 hbk
        clear hb1 hb2
        by_cases e1 : s.taken < s.sure
        · have t1 : (s.taken : Int) < (s.sure : Int) := by omega
          have t1' : ¬ (s.sure : Int) ≤ (s.taken : Int) := by omega
          have t1'' : ¬ (s.sure : Int) < (s.taken : Int) := by omega
          have t1n : ¬ s.sure < s.taken := by omega
          by_cases e2 : f < s.sure
          · have t2 : (f : Int) < (s.sure : Int) := by omega
            have t2' : ¬ (s.sure : Int) ≤ (f : Int) := by omega
            have t2'' : ¬ (s.sure : Int) < (f : Int) := by omega
            have t2n : ¬ s.sure < f := by omega
            obtain rfl : ff = f := by omega
            clear hb3
            go_wp2_with fail
            go_quiet (fail)
            go_wp2_with fail
            go_meet
            case rel => exact ⟨rfl, Lib.hid (Hh1.out.drewN _)⟩
          · have t2 : ¬ (f : Int) < (s.sure : Int) := by omega
            have t2' : (s.sure : Int) ≤ (f : Int) := by omega
            have hb4 : ff = s.sure := by omega
            have Hb4 := Lib.hid hb4
            clear hb3 hb4
            go_wp2_with fail
            go_quiet (fail)
            all_goals (try (go_wp2_with fail))
            all_goals go_meet
            all_goals exact ⟨by first | (rw [Hb4.out]; done) | (have := Hb4.out; simp; omega), Lib.hid (Hh1.out.drewN _)⟩
        · have t1 : ¬ (s.taken : Int) < (s.sure : Int) := by omega
          have t1' : (s.sure : Int) ≤ (s.taken : Int) := by omega
          by_cases e2 : f < s.taken
          · have hb4 : ff = f := by omega
            have : s.taken ≤ ff := hfar.1
            omega
          · have t2 : ¬ (f : Int) < (s.taken : Int) := by omega
            have t2' : (s.taken : Int) ≤ (f : Int) := by omega
            have hb4 : ff = s.taken := by omega
            have Hb4 := Lib.hid hb4
            clear hb3 hb4
            go_wp2_with fail
            go_quiet (fail)
            all_goals (try (go_wp2_with fail))
            all_goals go_meet
            all_goals exact ⟨by first | (rw [Hb4.out]; done) | (have := Hb4.out; simp; omega), Lib.hid (Hh1.out.drewN _)⟩
  case rest =>
  obtain ⟨rfl, Hk1⟩ := hcut
  clear H0 Hh1 c8 c9 c10 hgl0 Hffb
  generalize wc = w1 at *
  have H1 := Lib.hid (H.out.no Hk1.out)
  have HW := Lib.hid (fun w' => within_any (most : Int) 0 1048576 w')
  rw [show max (0 : Int) (min 1048576 (most : Int)) = (most : Int) by omega] at HW
  have hwr : IntKind.i64.wrap ((s.taken : Int) + (most : Int)) = (s.taken : Int) + (most : Int) := IntWalk.i64_in _ (by omega)
  have hmin : (if (s.taken : Int) + (most : Int) < (ff : Int) then (s.taken : Int) + (most : Int) else (ff : Int)) = (t : Int) := by have := Htm.out; split <;> omega
  go_upto_region 4 with (fail)
  refine wp_region_held_drew (S := (fun w' => Kp (fun _ => False) w1 w')) (by kernel_rfl) (Kp.drew (Kp.refl _ w1)) (fun hHeld => ?_)
  refine wpAnyH_take (i := 0) (oi := { dst := some 32, op := Op.move (.tmp 7), type := _, pos := _, after := _, guard := _ }) (v := ?_) rfl (by kernel_rfl) (by kernel_rfl) (by kernel_rfl) (fun _ _ _ h => h) (Or.inl ⟨by rfl, ?_⟩) hHeld ?_
  rotate_left
  · intro w99 hSw
    first | (go_simp; done) | (go_simp; with_reducible rfl)
  try simp only [Act.put, List.setIfInBounds_toArray, List.set_cons_zero, List.set_cons_succ]
  refine wpAnyH_take (i := 1) (oi := { dst := some 33, op := Op.move (.tmp 0), type := _, pos := _, after := _, guard := _ }) (v := ?_) rfl (by kernel_rfl) (by kernel_rfl) (by kernel_rfl) (fun _ _ _ h => h) (Or.inl ⟨by rfl, ?_⟩) hHeld ?_
  rotate_left
  · intro w99 hSw
    first | (go_simp; done) | (go_simp; with_reducible rfl)
  try simp only [Act.put, List.setIfInBounds_toArray, List.set_cons_zero, List.set_cons_succ]
  refine wpAnyH_take (i := 2) (oi := { dst := some 34, op := Op.nilCheck (.tmp 33), type := _, pos := _, after := _, guard := _ }) (v := ?_) rfl (by kernel_rfl) (by kernel_rfl) (by kernel_rfl) (fun _ _ _ h => h) (Or.inl ⟨by rfl, ?_⟩) hHeld ?_
  rotate_left
  · intro w99 hSw
    first | (go_simp; done) | (go_simp; with_reducible rfl)
  try simp only [Act.put, List.setIfInBounds_toArray, List.set_cons_zero, List.set_cons_succ]
  refine wpAnyH_take (i := 3) (oi := { dst := some 35, op := Op.fieldAddr 58 (.tmp 34) 8, type := _, pos := _, after := _, guard := _ }) (v := ?_) rfl (by kernel_rfl) (by kernel_rfl) (by kernel_rfl) (fun _ _ _ h => h) (Or.inl ⟨by rfl, ?_⟩) hHeld ?_
  rotate_left
  · intro w99 hSw
    first | (go_simp; done) | (go_simp; with_reducible rfl)
  try simp only [Act.put, List.setIfInBounds_toArray, List.set_cons_zero, List.set_cons_succ]
  refine wpAnyH_take (i := 4) (oi := { dst := some 36, op := Op.load 3 (.tmp 35), type := _, pos := _, after := _, guard := _ }) (v := ?_) rfl (by kernel_rfl) (by kernel_rfl) (by kernel_rfl) (fun _ _ _ h => h) (Or.inl ⟨by rfl, ?_⟩) hHeld ?_
  rotate_left
  · intro w99 hSw
    have c10 := (H1.out.no hSw).all.2.2.2.2.2.2.2.2.2.2.1; first | (go_simp; done) | (go_simp; with_reducible rfl)
  try simp only [Act.put, List.setIfInBounds_toArray, List.set_cons_zero, List.set_cons_succ]
  refine wpAnyH_take (i := 5) (oi := { dst := some 37, op := Op.move (.tmp 1), type := _, pos := _, after := _, guard := _ }) (v := ?_) rfl (by kernel_rfl) (by kernel_rfl) (by kernel_rfl) (fun _ _ _ h => h) (Or.inl ⟨by rfl, ?_⟩) hHeld ?_
  rotate_left
  · intro w99 hSw
    first | (go_simp; done) | (go_simp; with_reducible rfl)
  try simp only [Act.put, List.setIfInBounds_toArray, List.set_cons_zero, List.set_cons_succ]
  refine wpAnyH_ready (rs := [6]) (by kernel_rfl) (by simp) (AllReadyH.cons (o := { dst := some 38, op := Op.call { callee := Callee.value (Operand.func 45), args := #[(.tmp 37), (.const (.int .i64 0)), (.const (.int .i64 1048576))], argTypes := #[3, 3, 3] }, type := _, pos := _, after := _, guard := _ }) rfl (fun K hK => ?_) AllReadyH.nil)
  go_simp
  with_reducible refine (HW.out _).mono ?_
  rintro e w' ⟨rfl, hkw⟩
  go_wp2_with fail
  have hx9 := hkw ▸ hHeld
  refine hK.out _ _ hx9 (fun _ => ?_)
  clear hK hHeld
  have hHeld := hx9
  clear hx9
  generalize w' = wd6 at *
  try simp only [Act.put, List.setIfInBounds_toArray, List.set_cons_zero, List.set_cons_succ]
  refine wpAnyH_take (i := 7) (oi := { dst := some 39, op := Op.binOp BinOp.add 3 (.tmp 36) (.tmp 38) 3, type := _, pos := _, after := _, guard := _ }) (v := ?_) rfl (by kernel_rfl) (by kernel_rfl) (by kernel_rfl) (fun _ _ _ h => h) (Or.inl ⟨by rfl, ?_⟩) hHeld ?_
  rotate_left
  · intro w99 hSw
    first | (go_simp; done) | (go_simp; with_reducible rfl)
  try simp only [Act.put, List.setIfInBounds_toArray, List.set_cons_zero, List.set_cons_succ]
  refine wpAnyH_take (i := 8) (oi := { dst := some 40, op := Op.call { callee := Callee.builtin Builtin.min, args := #[(.tmp 32), (.tmp 39)], argTypes := #[3, 3] }, type := _, pos := _, after := _, guard := _ }) (v := ?_) rfl (by kernel_rfl) (by kernel_rfl) (by kernel_rfl) (fun _ _ _ h => h) (Or.inl ⟨by rfl, ?_⟩) hHeld ?_
  rotate_left
  · intro w99 hSw
    have hmn := hmin; first | (go_simp; done) | (go_simp; with_reducible rfl)
  try simp only [Act.put, List.setIfInBounds_toArray, List.set_cons_zero, List.set_cons_succ]
  refine wpAnyH_take (i := 9) (oi := { dst := some 7, op := Op.assign (.tmp 40), type := _, pos := _, after := _, guard := _ }) (v := ?_) rfl (by kernel_rfl) (by kernel_rfl) (by kernel_rfl) (fun _ _ _ h => h) (Or.inl ⟨by rfl, ?_⟩) hHeld ?_
  rotate_left
  · intro w99 hSw
    first | (go_simp; done) | (go_simp; with_reducible rfl)
  try simp only [Act.put, List.setIfInBounds_toArray, List.set_cons_zero, List.set_cons_succ]
  refine wpAnyH_done (by kernel_rfl) ?_ _
  have Hk2 := Lib.hid (Hk1.out.trans hHeld)
  have H2 := Lib.hid (H1.out.no hHeld)
  generalize wd6 = w2 at *
  clear H1 Hk1 hHeld HW hwr hmin
  go_wp2_with fail
  go_loopw [8] (fun vo wr => ∃ (k : Nat), s.taken ≤ k ∧ k ≤ t ∧ Hid (RowAt wr w.heap.size 1 vo (k - s.taken) (encB ((s.d.drop s.taken).take (k - s.taken)))) ∧ Hid (RfAt wr g v bv { s with taken := k } ov B) ∧ Hid (Kp (fun k => k = g) w wr))
    (fun _ wx => t - cellInt wx ⟨g, 10, none⟩)
  case atStart => exact ⟨s.taken, Nat.le_refl _, htl.1, Lib.hid (by rw [Nat.sub_self]; exact RowAt.nil _ _ _), Lib.hid ⟨H2.out.cell, H2.out.src, H2.out.row, H2.out.far1, H2.out.far2⟩, Lib.hid Hk2.out.no⟩
  case round =>
  obtain ⟨k, hk1, hk2, Hr, HR, Hk⟩ := hrel
  obtain ⟨Ao, co, rfl⟩ := Hr.out.form
  obtain ⟨_, _, c2, _, c4, _, _, c7, _, _, c10, _⟩ := HR.out.all
  dsimp only at c2 c7 c10
  have hgr := HR.out.cell.lt
  have f10 := HR.out.cell.frozen 10
  have Hci := Lib.hid (cellInt_of c10)
  by_cases hlt : k < t
  · have t0 : (k : Int) < (t : Int) := by omega
    as_aux_lemma =>
      obtain ⟨x, hx, hxB⟩ := Hby.out k hk1 hlt
      obtain ⟨gb, off, cb, hbv, hgbl, hgb⟩ := HR.out.row.full (by
        rcases Nat.lt_or_ge k B.length with h | h
        · omega
        · rw [List.getElem?_eq_none h] at hxB; cases hxB)
      have hkB : k < B.length := by
        rcases Nat.lt_or_ge k B.length with h | h
        · exact h
        · rw [List.getElem?_eq_none h] at hxB; cases hxB
      obtain ⟨hgb1, hgb2, hgb3, hgb4, hgb5⟩ := hgb
      subst hbv
      have y0 := hgb5 k (.int .u8 (x.toNat : Int)) (by unfold encB; rw [List.getElem?_map, hxB]; rfl)
      have t1 : (k : Int) < (B.length : Int) := by omega
      have hgb6 : gb < w.heap.size := (H.out.far2 gb rfl).1
      have hog : ¬ (Value.slice Ao (k - s.taken) co).ownBlock = some g := fun e => by have := (Hr.out.lt g e).1; omega
      have hogb : ¬ (Value.slice Ao (k - s.taken) co).ownBlock = some gb := fun e => by have := (Hr.out.lt gb e).1; omega
      obtain ⟨j0, hjj, hy0, hy1, hy2⟩ := info_parts infoB
      have Hj := Lib.hid hjj
      have Hy0 := Lib.hid hy0
      have Hy1 := Lib.hid hy1
      have Hy2 := Lib.hid hy2
      have Hx := Lib.hid hx
      have hxn := x.toNat_lt
      have hw0 := Hk.out.size
      clear hjj hy0 hy1 hy2 hx hxB hgb5 hgb4
      generalize hko : k - s.taken = ko at *
      have Hko := Lib.hid hko
      have hko5 : ko ≤ 225000000000000 := by omega
      clear hko
      generalize B.length = bl at *
      go_upto_region 7 with (fail)
      refine wp_region_held_drew (S := (fun w' => Kp (fun j => (Value.slice Ao ko co).ownBlock = some j) wr w')) (by kernel_rfl) (Kp.drew (Kp.refl _ wr)) (fun hHeld => ?_)
      refine wpAnyH_take (i := 0) (oi := { dst := some 47, op := Op.move (.tmp 8), type := _, pos := _, after := _, guard := _ }) (v := ?_) rfl (by kernel_rfl) (by kernel_rfl) (by kernel_rfl) (fun _ _ _ h => h) (Or.inl ⟨by rfl, ?_⟩) hHeld ?_
      rotate_left
      · intro w99 hSw
        first | (go_simp; done) | (go_simp; with_reducible rfl)
      try simp only [Act.put, List.setIfInBounds_toArray, List.set_cons_zero, List.set_cons_succ]
      refine wpAnyH_take (i := 1) (oi := { dst := some 48, op := Op.move (.tmp 0), type := _, pos := _, after := _, guard := _ }) (v := ?_) rfl (by kernel_rfl) (by kernel_rfl) (by kernel_rfl) (fun _ _ _ h => h) (Or.inl ⟨by rfl, ?_⟩) hHeld ?_
      rotate_left
      · intro w99 hSw
        first | (go_simp; done) | (go_simp; with_reducible rfl)
      try simp only [Act.put, List.setIfInBounds_toArray, List.set_cons_zero, List.set_cons_succ]
      refine wpAnyH_take (i := 2) (oi := { dst := some 49, op := Op.nilCheck (.tmp 48), type := _, pos := _, after := _, guard := _ }) (v := ?_) rfl (by kernel_rfl) (by kernel_rfl) (by kernel_rfl) (fun _ _ _ h => h) (Or.inl ⟨by rfl, ?_⟩) hHeld ?_
      rotate_left
      · intro w99 hSw
        first | (go_simp; done) | (go_simp; with_reducible rfl)
      try simp only [Act.put, List.setIfInBounds_toArray, List.set_cons_zero, List.set_cons_succ]
      refine wpAnyH_take (i := 3) (oi := { dst := some 50, op := Op.fieldAddr 58 (.tmp 49) 2, type := _, pos := _, after := _, guard := _ }) (v := ?_) rfl (by kernel_rfl) (by kernel_rfl) (by kernel_rfl) (fun _ _ _ h => h) (Or.inl ⟨by rfl, ?_⟩) hHeld ?_
      rotate_left
      · intro w99 hSw
        first | (go_simp; done) | (go_simp; with_reducible rfl)
      try simp only [Act.put, List.setIfInBounds_toArray, List.set_cons_zero, List.set_cons_succ]
      refine wpAnyH_take (i := 4) (oi := { dst := some 51, op := Op.load 22 (.tmp 50), type := _, pos := _, after := _, guard := _ }) (v := ?_) rfl (by kernel_rfl) (by kernel_rfl) (by kernel_rfl) (fun _ _ _ h => h) (Or.inl ⟨by rfl, ?_⟩) hHeld ?_
      rotate_left
      · intro w99 hSw
        have c49 := (hSw.cell (p := ⟨g, 4, none⟩) hgr hog).trans c4; first | (go_simp; done) | (go_simp; with_reducible rfl)
      try simp only [Act.put, List.setIfInBounds_toArray, List.set_cons_zero, List.set_cons_succ]
      refine wpAnyH_take (i := 5) (oi := { dst := some 52, op := Op.move (.tmp 0), type := _, pos := _, after := _, guard := _ }) (v := ?_) rfl (by kernel_rfl) (by kernel_rfl) (by kernel_rfl) (fun _ _ _ h => h) (Or.inl ⟨by rfl, ?_⟩) hHeld ?_
      rotate_left
      · intro w99 hSw
        first | (go_simp; done) | (go_simp; with_reducible rfl)
      try simp only [Act.put, List.setIfInBounds_toArray, List.set_cons_zero, List.set_cons_succ]
      refine wpAnyH_take (i := 6) (oi := { dst := some 53, op := Op.nilCheck (.tmp 52), type := _, pos := _, after := _, guard := _ }) (v := ?_) rfl (by kernel_rfl) (by kernel_rfl) (by kernel_rfl) (fun _ _ _ h => h) (Or.inl ⟨by rfl, ?_⟩) hHeld ?_
      rotate_left
      · intro w99 hSw
        first | (go_simp; done) | (go_simp; with_reducible rfl)
      try simp only [Act.put, List.setIfInBounds_toArray, List.set_cons_zero, List.set_cons_succ]
      refine wpAnyH_take (i := 7) (oi := { dst := some 54, op := Op.fieldAddr 58 (.tmp 53) 8, type := _, pos := _, after := _, guard := _ }) (v := ?_) rfl (by kernel_rfl) (by kernel_rfl) (by kernel_rfl) (fun _ _ _ h => h) (Or.inl ⟨by rfl, ?_⟩) hHeld ?_
      rotate_left
      · intro w99 hSw
        first | (go_simp; done) | (go_simp; with_reducible rfl)
      try simp only [Act.put, List.setIfInBounds_toArray, List.set_cons_zero, List.set_cons_succ]
      refine wpAnyH_take (i := 8) (oi := { dst := some 55, op := Op.load 3 (.tmp 54), type := _, pos := _, after := _, guard := _ }) (v := ?_) rfl (by kernel_rfl) (by kernel_rfl) (by kernel_rfl) (fun _ _ _ h => h) (Or.inl ⟨by rfl, ?_⟩) hHeld ?_
      rotate_left
      · intro w99 hSw
        have c10' := (hSw.cell (p := ⟨g, 10, none⟩) hgr hog).trans c10; first | (go_simp; done) | (go_simp; with_reducible rfl)
      try simp only [Act.put, List.setIfInBounds_toArray, List.set_cons_zero, List.set_cons_succ]
      refine wpAnyH_take (i := 9) (oi := { dst := some 56, op := Op.indexAddr 22 (.tmp 51) (.tmp 55), type := _, pos := _, after := _, guard := _ }) (v := ?_) rfl (by kernel_rfl) (by kernel_rfl) (by kernel_rfl) (fun _ _ _ h => h) (Or.inl ⟨by rfl, ?_⟩) hHeld ?_
      rotate_left
      · intro w99 hSw
        first | (go_simp; done) | (go_simp; with_reducible rfl)
      try simp only [Act.put, List.setIfInBounds_toArray, List.set_cons_zero, List.set_cons_succ]
      refine wpAnyH_take (i := 10) (oi := { dst := some 57, op := Op.load 5 (.tmp 56), type := _, pos := _, after := _, guard := _ }) (v := ?_) rfl (by kernel_rfl) (by kernel_rfl) (by kernel_rfl) (fun _ _ _ h => h) (Or.inl ⟨by rfl, ?_⟩) hHeld ?_
      rotate_left
      · intro w99 hSw
        have y09 := (hSw.cell (p := ⟨gb, off + k, none⟩) hgb1 hogb).trans y0; first | (go_simp; done) | (go_simp; with_reducible rfl)
      try simp only [Act.put, List.setIfInBounds_toArray, List.set_cons_zero, List.set_cons_succ]
      refine wpAnyH_ready (rs := [11]) (by kernel_rfl) (by simp) (AllReadyH.cons (o := { dst := some 58, op := Op.buildSlice 22 1 #[(0, (.tmp 57))], type := _, pos := _, after := _, guard := _ }) rfl (fun K hK => ?_) AllReadyH.nil)
      go_simp
      have hx9 := Kp.alloc hHeld (.cells #[.int .u8 (x.toNat : Int)] 5)
      refine hK.out _ _ hx9 (fun _ => ?_)
      clear hK hHeld
      have hHeld := hx9
      clear hx9
      try simp only [Act.put, List.setIfInBounds_toArray, List.set_cons_zero, List.set_cons_succ]
      have HO := Lib.hid (Hr.out.kp (((Kp.refl (fun _ => False) wr).drew).alloc (.cells #[.int .u8 (x.toNat : Int)] 5)) (fun _ _ h => h))
      have HX : Hid (Src (wr.drew.alloc (.cells #[.int .u8 (x.toNat : Int)] 5)) 1 (.slice (some ⟨wr.drew.heap.size, 0, none⟩) 1 1) 1 (encB [x])) := Lib.hid (src_lit [x] (Whole.new _ _ _) rfl)
      refine wpAnyH_ready (rs := [12]) (by kernel_rfl) (by simp) (AllReadyH.cons (o := { dst := some 59, op := Op.call { callee := Callee.builtin Builtin.append, args := #[(.tmp 47), (.tmp 58)], argTypes := #[22, 22] }, type := _, pos := _, after := _, guard := _ }) rfl (fun K hK => ?_) AllReadyH.nil)
      refine step_row_wide rfl (.tmp 47) (.tmp 58) 22 rfl w.heap.size 5 j0 _ 1 1 Try.underlying22 Hj.out Hy0.out Hy1.out Hy2.out rfl (by decide) _ ko _ rfl HO.out _ 1 _ rfl HX.out (by unfold maxLen; omega) (by omega) (by simp; omega) ?_
      intro v4 w4 hr4 hg4 hn4
      obtain ⟨A4, c44, rfl⟩ := hr4.form
      have hx9 := hHeld.grown hg4 (fun i hi _ => hi)
      refine hK.out _ _ hx9 (fun _ => ?_)
      clear hK hHeld
      have hHeld := hx9
      clear hx9 hg4 hn4
      try simp only [Act.put, List.setIfInBounds_toArray, List.set_cons_zero, List.set_cons_succ]
      refine wpAnyH_take (i := 13) (oi := { dst := some 8, op := Op.assign (.tmp 59), type := _, pos := _, after := _, guard := _ }) (v := ?_) rfl (by kernel_rfl) (by kernel_rfl) (by kernel_rfl) (fun _ _ _ h => h) (Or.inl ⟨by rfl, ?_⟩) hHeld ?_
      rotate_left
      · intro w99 hSw
        first | (go_simp; done) | (go_simp; with_reducible rfl)
      try simp only [Act.put, List.setIfInBounds_toArray, List.set_cons_zero, List.set_cons_succ]
      refine wpAnyH_done (by kernel_rfl) ?_ _
      have Hr4 := Lib.hid hr4
      have HR4 := Lib.hid (HR.out.kp hHeld hog (fun hL k hk' e => by have := (Hr.out.lt k e).1; have := (H.out.far1 hL k hk').1; omega) (fun k hk' e => by have := (Hr.out.lt k e).1; have := (H.out.far2 k hk').1; omega))
      have Hk4 := Lib.hid (Hk.out.more hHeld (fun k hk e => by have := (Hr.out.lt k e).1; omega))
      have hg4 := HR4.out.cell.lt
      have d10 := HR4.out.all.2.2.2.2.2.2.2.2.2.2.1
      dsimp only at d10
      have f10' := HR4.out.cell.frozen 10
      have hwk : IntKind.i64.wrap ((k : Int) + 1) = ((k + 1 : Nat) : Int) := by rw [IntWalk.i64_in _ (by omega)]; omega
      have h10 := HR4.out.put 10 (.int .i64 ((k + 1 : Nat) : Int)) (s' := { s with taken := k + 1 }) (ov' := ov) rfl rfl
      have H10 := Lib.hid h10
      have hkk : k + 1 - s.taken = ko + 1 := by
        have := Hko.out
        omega
      have hn4 : RowAt (w4.setCell ⟨g, 10, none⟩ (.int .i64 ((k + 1 : Nat) : Int))) w.heap.size 1 (.slice A4 (ko + 1) c44) (k + 1 - s.taken) (encB ((s.d.drop s.taken).take (k + 1 - s.taken))) := by
        rw [take_next hk1 Hx.out, hkk, Hko.out]
        exact hr4.kp (S := fun j => j = g) h10.2 (fun j hj e => by have := (hr4.lt j hj).1; omega)
      have HN := Lib.hid hn4
      clear h10 hHeld hr4 hn4 c2 c4 c7 c10 y0
      go_wp2_with fail
      go_roundw
      case rel => exact ⟨k + 1, by omega, by omega, HN, Lib.hid H10.out.1, Lib.hid (Hk4.out.trans H10.out.2)⟩
      case measure =>
        have h1 := cellInt_of (H10.out.1.all.2.2.2.2.2.2.2.2.2.2.1)
        have h2 := Hci.out
        have h3 : ((k + 1 : Nat) : Int) = (k : Int) + 1 := by omega
        dsimp only at h1
        rw [h3] at h1
        omega
  · have t0 : ¬ (k : Int) < (t : Int) := by omega
    obtain rfl : k = t := by omega
    have f2 := HR.out.cell.frozen 2
    have hkn : ((k - s.taken : Nat) : Int) = (k : Int) - (s.taken : Int) := by omega
    have HE := Lib.hid (q_eat (w := wr) (b := g) (o := 1) (R := (s.rd : Int)) c2 f2 (by omega) (by omega) ((k - s.taken : Nat) : Int) (by omega) (by have := Htm.out; omega))
    rw [show (s.rd : Int) + ((k - s.taken : Nat) : Int) = (k : Int) by omega] at HE
    have hE2 := fun dd : Nat => HR.out.put 2 (.int .i64 (k : Int)) (s' := takeS s k) (ov' := ov) rfl rfl
    have HE2 := Lib.hid hE2
    clear hE2 hkn
    go_wp2_with fail
    refine (HE.out).mono ?_
    rintro e w3 ⟨rfl, dd, rfl⟩
    have H3 := Lib.hid ((HE2.out dd).1.no ((Kp.refl (fun _ => False) _).drewN dd))
    have Hk3 := Lib.hid (Hk.out.trans ((HE2.out dd).2.drewN dd))
    have Hr3 := Lib.hid (Hr.out.kp ((HE2.out dd).2.drewN dd) (fun j hj e => by have := (Hr.out.lt j hj).1; omega))
    generalize (wr.setCell ⟨g, 1 + 1, none⟩ (.int .i64 (k : Int))).drewN dd = w3 at *
    have HO := Lib.hid (q_over H3.out)
    clear HE HE2 Hr HR Hk c2 c4 c7 c10 f10 f2
    go_wp2_with fail
    refine (HO.out).mono ?_
    rintro e w4 ⟨rfl, hk4⟩
    have H4 := Lib.hid (H3.out.no hk4)
    have Hk4 := Lib.hid (Hk3.out.trans hk4.no)
    have Hr4 := Lib.hid (Hr3.out.kp hk4 (fun _ _ h => h))
    have h5 := H4.out.put 11 (.int .i64 (overN (takeS s k) : Int)) (s' := takeS s k) (ov' := overN (takeS s k)) rfl rfl
    have hg4 := H4.out.cell.lt
    have d11 := H4.out.all.2.2.2.2.2.2.2.2.2.2.2
    have f11 := H4.out.cell.frozen 11
    have H5 := Lib.hid h5.1
    have Hk5 := Lib.hid (Hk4.out.trans h5.2)
    have Hr5 := Lib.hid (Hr4.out.kp h5.2 (fun j hj e => by have := (Hr4.out.lt j hj).1; omega))
    obtain ⟨_, _, _, _, _, _, _, d7, _⟩ := H4.out.all
    have hcd : codeN (takeS s k) = if overN (takeS s k) = 2 then s.code else 0 := rfl
    have d7' : w4.cell? ⟨g, 7, none⟩ = some (.int .i64 (s.code : Int)) := d7
    have Hcd := Lib.hid hcd
    clear h5 hk4 H3 Hk3 Hr3 HO hcd d7
    generalize hov2 : overN (takeS s k) = ov2 at *
    have Hov2 := Lib.hid hov2
    clear hov2
    by_cases ho2 : ov2 = 2
    · have o2 : ((ov2 : Int) == 2) = true := by simp; omega
      have He1 : Hid (codeN (takeS s k) = s.code) := Lib.hid (by rw [Hcd.out, if_pos ho2])
      have Ho2 := Lib.hid ho2
      clear ho2
      go_wp2_with fail
      go_quiet (fail)
      go_wp2_with fail
      go_ret3
      refine ⟨.slice Ao (k - s.taken) co, ?_, ?_, ?_, ?_⟩
      · rw [He1.out, Hov2.out, Ho2.out]; rfl
      · exact Hr5.out.kp ((Kp.refl (fun _ => False) _).drewN _) (fun _ _ h => h)
      · rw [Hov2.out]
        exact H5.out.no ((Kp.refl (fun _ => False) _).drewN _)
      · exact Hk5.out.drewN _
    · have o2 : ((ov2 : Int) == 2) = false := by simp; omega
      have He1 : Hid (codeN (takeS s k) = 0) := Lib.hid (by rw [Hcd.out, if_neg ho2])
      clear ho2
      go_wp2_with fail
      go_quiet (fail)
      go_wp2_with fail
      go_ret3
      refine ⟨.slice Ao (k - s.taken) co, ?_, ?_, ?_, ?_⟩
      · rw [He1.out, Hov2.out]; rfl
      · exact Hr5.out.kp ((Kp.refl (fun _ => False) _).drewN _) (fun _ _ h => h)
      · rw [Hov2.out]
        exact H5.out.no ((Kp.refl (fun _ => False) _).drewN _)
      · exact Hk5.out.drewN _
end Go.Proofs.Ytbkpapdbidbhaaa

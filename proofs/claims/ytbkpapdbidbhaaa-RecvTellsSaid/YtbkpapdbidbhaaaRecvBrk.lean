/-
  recv.Stream: Break. (printed by src/gen_XRecvBrk.py)
-/
import Derived.Test.YtbkpapdbidbhaaaRecvPut
namespace Go.Proofs.Ytbkpapdbidbhaaa
open Go.RowKit

/-- What Break tells to be wrong: nothing (0), the argument (1), the limit (7), the end (8). -/
def brkErr (s : RS) (code en sure : Int) : Nat :=
  if mayN code = false ∨ mayN en = false ∨ mayN sure = false ∨ en < sure then 1 else if (s.told : Int) < en then 7 else
  if (s.ended = true ∧ en ≠ s.en) ∨ en < s.top then 8 else 0
def allB (s : RS) (en : Nat) : Bool := (gapL s.L (bringS 0) (bringS (en : Int))).isEmpty
def brkS (s : RS) (code en sure : Nat) : RS :=
  if s.ended = true ∧ allB s en = true ∧ s.broken = false then { s with ended := true, en := en, top := max s.top en }
  else if s.broken = true then { s with ended := true, en := en, top := max s.top en, sure := min s.sure sure }
  else { s with ended := true, en := en, top := max s.top en, broken := true, code := code, sure := sure }

set_option maxRecDepth 100000 in
set_option maxHeartbeats 2000000 in
theorem brk_err {w : World} {g : Nat} {id : Int} {v bv : Value} {s : RS} (h : StAt w g id v bv s) (code en sure : Int) (er : Nat) (he : brkErr s code en sure = er) (hne : er ≠ 0) :
    Calls Try.prog 19 #[.pointer (some ⟨g, 0, none⟩), .int .i64 code, .int .i64 en, .int .i64 sure] w fun e w' => e = .returned (.tuple #[.int .i64 0, .int .i64 (er : Int)]) ∧ w = w' := by
  obtain ⟨_, _, _, c3, _, _, c6, _, c8, _, c10, _, _⟩ := h.all
  have hl := h.cell.lt
  unfold brkErr at he
  generalize s.told = told at *
  generalize s.top = top at *
  generalize s.en = sen at *
  generalize s.ended = ended at *
  clear h
  cases hm1 : mayN code with
  | false =>
    rw [if_pos (.inl hm1)] at he
    subst he
    go_enter Try.func19, Try.ntmps19
    go_wp2_with (go_at_call 41; refine (may_any _ _).mono ?_; rintro e w' ⟨rfl, rfl⟩)
    all_goals go_ret2
    all_goals exact ⟨rfl, rfl⟩
  | true =>
  cases hm2 : mayN en with
  | false =>
    rw [if_pos (.inr (.inl hm2))] at he
    subst he
    go_enter Try.func19, Try.ntmps19
    go_wp2_with (go_at_call 41; refine (may_any _ _).mono ?_; rintro e w' ⟨rfl, rfl⟩)
    all_goals go_ret2
    all_goals exact ⟨rfl, rfl⟩
  | true =>
  cases hm3 : mayN sure with
  | false =>
    rw [if_pos (.inr (.inr (.inl hm3)))] at he
    subst he
    go_enter Try.func19, Try.ntmps19
    go_wp2_with (go_at_call 41; refine (may_any _ _).mono ?_; rintro e w' ⟨rfl, rfl⟩)
    all_goals go_ret2
    all_goals exact ⟨rfl, rfl⟩
  | true =>
  by_cases e1 : en < sure
  · rw [if_pos (.inr (.inr (.inr e1)))] at he
    subst he
    go_enter Try.func19, Try.ntmps19
    go_wp2_with (go_at_call 41; refine (may_any _ _).mono ?_; rintro e w' ⟨rfl, rfl⟩)
    all_goals go_ret2
    all_goals exact ⟨rfl, rfl⟩
  rw [if_neg (fun h => by rcases h with h | h | h | h; · rw [hm1] at h; cases h
                          · rw [hm2] at h; cases h
                          · rw [hm3] at h; cases h
                          · exact e1 h)] at he
  by_cases e2 : (told : Int) < en
  · rw [if_pos e2] at he
    subst he
    go_enter Try.func19, Try.ntmps19
    go_wp2_with (go_at_call 41; refine (may_any _ _).mono ?_; rintro e w' ⟨rfl, rfl⟩)
    all_goals go_ret2
    all_goals exact ⟨rfl, rfl⟩
  rw [if_neg e2] at he
  by_cases e3 : (ended = true ∧ en ≠ sen) ∨ en < top
  · rw [if_pos e3] at he
    subst he
    cases ended with
    | true =>
      by_cases a1 : en = sen
      · have b1 : (en != (sen : Int)) = false := by simp [a1]
        have b2 : en < (top : Int) := by simp at e3; omega
        clear a1
        go_enter Try.func19, Try.ntmps19
        go_wp2_with (go_at_call 41; refine (may_any _ _).mono ?_; rintro e w' ⟨rfl, rfl⟩)
        all_goals go_ret2
        all_goals exact ⟨rfl, rfl⟩
      · have b1 : (en != (sen : Int)) = true := by simp [a1]
        go_enter Try.func19, Try.ntmps19
        go_wp2_with (go_at_call 41; refine (may_any _ _).mono ?_; rintro e w' ⟨rfl, rfl⟩)
        all_goals go_ret2
        all_goals exact ⟨rfl, rfl⟩
    | false =>
      have b2 : en < (top : Int) := by simp at e3; omega
      go_enter Try.func19, Try.ntmps19
      go_wp2_with (go_at_call 41; refine (may_any _ _).mono ?_; rintro e w' ⟨rfl, rfl⟩)
      all_goals go_ret2
      all_goals exact ⟨rfl, rfl⟩
  · rw [if_neg e3] at he
    omega

set_option maxRecDepth 100000 in
set_option maxHeartbeats 4000000 in
theorem brk_ok {w : World} {g : Nat} {id : Int} {v bv : Value} {s : RS} (h : StAt w g id v bv s) (code en sure : Nat) (he : brkErr s code en sure = 0) :
    Calls Try.prog 19 #[.pointer (some ⟨g, 0, none⟩), .int .i64 (code : Int), .int .i64 (en : Int), .int .i64 (sure : Int)] w fun e w' => e = .returned (.tuple #[.int .i64 ((brkS s code en sure).top - s.top : Int), .int .i64 0]) ∧ StAt w' g id v bv (brkS s code en sure) ∧ Kp (fun k => k = g) w w' := by
  obtain ⟨_, _, _, c3, _, _, c6, _, c8, c9, c10, _, c12⟩ := h.all
  have hl := h.cell.lt
  have ok := h.ok
  unfold brkErr at he
  have e0 : ¬ (mayN code = false ∨ mayN en = false ∨ mayN sure = false ∨ (en : Int) < sure) := fun hh => by rw [if_pos hh] at he; cases he
  rw [if_neg e0] at he
  have e1 : ¬ ((s.told : Int) < en) := fun hh => by rw [if_pos hh] at he; cases he
  rw [if_neg e1] at he
  have e2 : ¬ ((s.ended = true ∧ (en : Int) ≠ s.en) ∨ (en : Int) < s.top) := fun hh => by rw [if_pos hh] at he; cases he
  have hm1 : mayN code = true := by cases hx : mayN code with | true => rfl | false => exact absurd (.inl hx) e0
  have hm2 : mayN en = true := by cases hx : mayN en with | true => rfl | false => exact absurd (.inr (.inl hx)) e0
  have hm3 : mayN sure = true := by cases hx : mayN sure with | true => rfl | false => exact absurd (.inr (.inr (.inl hx))) e0
  have hse : ¬ ((en : Int) < (sure : Int)) := fun hh => e0 (.inr (.inr (.inr hh)))
  have hcd : code ≤ 4611686018427387903 := by unfold mayN at hm1; simp at hm1; omega
  have htop : ¬ ((en : Int) < (s.top : Int)) := fun hh => e2 (.inr hh)
  have hen6 : en ≤ 225000000000000 := by have := ok.told; omega
  have hHA := t_all h.set h.few 0 (en : Int)
  obtain ⟨ab, hab⟩ : ∃ ab, ab = allB s en := ⟨_, rfl⟩
  rw [show (gapL s.L (bringS 0) (bringS (en : Int))).isEmpty = ab from hab.symm] at hHA
  have HA := Lib.hid hHA
  have Hab := Lib.hid hab
  have H := Lib.hid h
  have He2 := Lib.hid e2
  have hsu : sure ≤ 225000000000000 := by omega
  clear hHA hab he e0 e2 ok h
  cases hen : s.ended with
  | false =>
    rw [hen] at c8
    clear He2
    cases hbk : s.broken with
    | false =>
      rw [hbk] at c9
      have He1 : Hid (brkS s code en sure = riseS { s with ended := true, en := en, broken := true, code := code, sure := sure } en) := Lib.hid (by unfold brkS riseS; simp [hen, hbk])
      go_enter Try.func19, Try.ntmps19
      have HkA := Lib.hid (Kp.refl (fun _ => False) w)
      clear hen hbk
      go_upto_region 8 with (go_at_call 41; refine (may_any _ _).mono ?_; rintro e w' ⟨rfl, rfl⟩)
      have hk5 : Kp (fun k => k = g) w (((((w.setCell ⟨g, 8, none⟩ (.bool true)).setCell ⟨g, 10, none⟩ (.int .i64 (en : Int))).setCell ⟨g, 9, none⟩ (.bool true)).setCell ⟨g, 11, none⟩ (.int .i64 (code : Int))).setCell ⟨g, 12, none⟩ (.int .i64 (sure : Int))) := Kp.set (S := fun k => k = g) (Kp.set (S := fun k => k = g) (Kp.set (S := fun k => k = g) (Kp.set (S := fun k => k = g) (Kp.set (S := fun k => k = g) (Kp.refl _ w) (p := ⟨g, 8, none⟩) (.inl rfl) _) (p := ⟨g, 10, none⟩) (.inl rfl) _) (p := ⟨g, 9, none⟩) (.inl rfl) _) (p := ⟨g, 11, none⟩) (.inl rfl) _) (p := ⟨g, 12, none⟩) (.inl rfl) _
      have hst5 : StAt (((((w.setCell ⟨g, 8, none⟩ (.bool true)).setCell ⟨g, 10, none⟩ (.int .i64 (en : Int))).setCell ⟨g, 9, none⟩ (.bool true)).setCell ⟨g, 11, none⟩ (.int .i64 (code : Int))).setCell ⟨g, 12, none⟩ (.int .i64 (sure : Int))) g id v bv { s with ended := true, en := en, broken := true, code := code, sure := sure } := StAt.mk2 (((((H.out.cell.set 8 (.bool true)).set 10 (.int .i64 (en : Int))).set 9 (.bool true)).set 11 (.int .i64 (code : Int))).set 12 (.int .i64 (sure : Int))) H.out hk5 rfl rfl rfl rfl ⟨H.out.ok.norm, H.out.ok.dl, H.out.ok.rd, H.out.ok.told, H.out.ok.taken, H.out.ok.top, hen6, hcd, hsu, H.out.ok.cov, H.out.ok.lf⟩
      have HR := Lib.hid (rise_any hst5 en hen6)
      have Hk5 := Lib.hid (HkA.out.no.trans hk5)
      have f8 := H.out.cell.frozen 8
      have f9 := H.out.cell.frozen 9
      have f10 := H.out.cell.frozen 10
      have f11 := H.out.cell.frozen 11
      have f12 := H.out.cell.frozen 12
      have z11 := H.out.all.2.2.2.2.2.2.2.2.2.2.2.1
      clear hk5 hst5
      go_wp2_with fail
      with_reducible refine (HR.out).mono ?_
      rintro e w8 ⟨rfl, hS8, hk8⟩
      have HS8 := Lib.hid hS8
      have Hk8 := Lib.hid (Hk5.out.trans hk8)
      clear hS8 hk8
      go_wp2_with fail
      go_ret2
      rw [He1.out]
      exact ⟨rfl, HS8.out, Hk8.out⟩
    | true =>
      rw [hbk] at c9
      have he1 : ∀ q, q = min s.sure sure → brkS s code en sure = riseS { s with ended := true, en := en, sure := q } en := fun q hq => by unfold brkS riseS; rw [hq]; simp [hen, hbk]
      go_enter Try.func19, Try.ntmps19
      have HkA := Lib.hid (Kp.refl (fun _ => False) w)
      clear hen hbk
      go_upto_region 8 with (go_at_call 41; refine (may_any _ _).mono ?_; rintro e w' ⟨rfl, rfl⟩)
      rcases Nat.lt_trichotomy s.sure sure with hm3w | hm3w | hm3w
      · have hmn : s.sure < sure := by omega
        have m0 : (s.sure : Int) < (sure : Int) := by omega
        have m1 : (s.sure : Int) ≤ (sure : Int) := by omega
        have m2 : ¬ (sure : Int) < (s.sure : Int) := by omega
        have m3 : ¬ (sure : Int) ≤ (s.sure : Int) := by omega
        have hmin : min s.sure sure = s.sure := by omega
        have He1 := Lib.hid (he1 (min s.sure sure) rfl)
        rw [hmin] at He1
        clear hmin he1 hmn hm3w
        have hk5 : Kp (fun k => k = g) w (((w.setCell ⟨g, 8, none⟩ (.bool true)).setCell ⟨g, 10, none⟩ (.int .i64 (en : Int))).setCell ⟨g, 12, none⟩ (.int .i64 ((s.sure : Nat) : Int))) := Kp.set (S := fun k => k = g) (Kp.set (S := fun k => k = g) (Kp.set (S := fun k => k = g) (Kp.refl _ w) (p := ⟨g, 8, none⟩) (.inl rfl) _) (p := ⟨g, 10, none⟩) (.inl rfl) _) (p := ⟨g, 12, none⟩) (.inl rfl) _
        have hst5 : StAt (((w.setCell ⟨g, 8, none⟩ (.bool true)).setCell ⟨g, 10, none⟩ (.int .i64 (en : Int))).setCell ⟨g, 12, none⟩ (.int .i64 ((s.sure : Nat) : Int))) g id v bv { s with ended := true, en := en, sure := s.sure } := StAt.mk2 (((H.out.cell.set 8 (.bool true)).set 10 (.int .i64 (en : Int))).set 12 (.int .i64 ((s.sure : Nat) : Int))) H.out hk5 rfl rfl rfl rfl ⟨H.out.ok.norm, H.out.ok.dl, H.out.ok.rd, H.out.ok.told, H.out.ok.taken, H.out.ok.top, hen6, H.out.ok.code, by have := H.out.ok.sure; show s.sure ≤ 225000000000000; omega, H.out.ok.cov, H.out.ok.lf⟩
        have HR := Lib.hid (rise_any hst5 en hen6)
        have Hk5 := Lib.hid (HkA.out.no.trans hk5)
        have f8 := H.out.cell.frozen 8
        have f9 := H.out.cell.frozen 9
        have f10 := H.out.cell.frozen 10
        have f11 := H.out.cell.frozen 11
        have f12 := H.out.cell.frozen 12
        have z11 := H.out.all.2.2.2.2.2.2.2.2.2.2.2.1
        clear hk5 hst5
        go_wp2_with fail
        with_reducible refine (HR.out).mono ?_
        rintro e w8 ⟨rfl, hS8, hk8⟩
        have HS8 := Lib.hid hS8
        have Hk8 := Lib.hid (Hk5.out.trans hk8)
        clear hS8 hk8
        go_wp2_with fail
        go_ret2
        rw [He1.out]
        exact ⟨rfl, HS8.out, Hk8.out⟩
      · have hmn : s.sure = sure := by omega
        rw [hmn] at c12
        have hmin : min s.sure sure = sure := by omega
        have He1 := Lib.hid (he1 (min s.sure sure) rfl)
        rw [hmin] at He1
        clear hmin he1 hmn hm3w
        have hk5 : Kp (fun k => k = g) w (((w.setCell ⟨g, 8, none⟩ (.bool true)).setCell ⟨g, 10, none⟩ (.int .i64 (en : Int))).setCell ⟨g, 12, none⟩ (.int .i64 ((sure : Nat) : Int))) := Kp.set (S := fun k => k = g) (Kp.set (S := fun k => k = g) (Kp.set (S := fun k => k = g) (Kp.refl _ w) (p := ⟨g, 8, none⟩) (.inl rfl) _) (p := ⟨g, 10, none⟩) (.inl rfl) _) (p := ⟨g, 12, none⟩) (.inl rfl) _
        have hst5 : StAt (((w.setCell ⟨g, 8, none⟩ (.bool true)).setCell ⟨g, 10, none⟩ (.int .i64 (en : Int))).setCell ⟨g, 12, none⟩ (.int .i64 ((sure : Nat) : Int))) g id v bv { s with ended := true, en := en, sure := sure } := StAt.mk2 (((H.out.cell.set 8 (.bool true)).set 10 (.int .i64 (en : Int))).set 12 (.int .i64 ((sure : Nat) : Int))) H.out hk5 rfl rfl rfl rfl ⟨H.out.ok.norm, H.out.ok.dl, H.out.ok.rd, H.out.ok.told, H.out.ok.taken, H.out.ok.top, hen6, H.out.ok.code, by have := H.out.ok.sure; show sure ≤ 225000000000000; omega, H.out.ok.cov, H.out.ok.lf⟩
        have HR := Lib.hid (rise_any hst5 en hen6)
        have Hk5 := Lib.hid (HkA.out.no.trans hk5)
        have f8 := H.out.cell.frozen 8
        have f9 := H.out.cell.frozen 9
        have f10 := H.out.cell.frozen 10
        have f11 := H.out.cell.frozen 11
        have f12 := H.out.cell.frozen 12
        have z11 := H.out.all.2.2.2.2.2.2.2.2.2.2.2.1
        clear hk5 hst5
        go_wp2_with fail
        with_reducible refine (HR.out).mono ?_
        rintro e w8 ⟨rfl, hS8, hk8⟩
        have HS8 := Lib.hid hS8
        have Hk8 := Lib.hid (Hk5.out.trans hk8)
        clear hS8 hk8
        go_wp2_with fail
        go_ret2
        rw [He1.out]
        exact ⟨rfl, HS8.out, Hk8.out⟩
      · have hmn : sure < s.sure := by omega
        have m0 : (sure : Int) < (s.sure : Int) := by omega
        have m1 : (sure : Int) ≤ (s.sure : Int) := by omega
        have m2 : ¬ (s.sure : Int) < (sure : Int) := by omega
        have m3 : ¬ (s.sure : Int) ≤ (sure : Int) := by omega
        have hmin : min s.sure sure = sure := by omega
        have He1 := Lib.hid (he1 (min s.sure sure) rfl)
        rw [hmin] at He1
        clear hmin he1 hmn hm3w
        have hk5 : Kp (fun k => k = g) w (((w.setCell ⟨g, 8, none⟩ (.bool true)).setCell ⟨g, 10, none⟩ (.int .i64 (en : Int))).setCell ⟨g, 12, none⟩ (.int .i64 ((sure : Nat) : Int))) := Kp.set (S := fun k => k = g) (Kp.set (S := fun k => k = g) (Kp.set (S := fun k => k = g) (Kp.refl _ w) (p := ⟨g, 8, none⟩) (.inl rfl) _) (p := ⟨g, 10, none⟩) (.inl rfl) _) (p := ⟨g, 12, none⟩) (.inl rfl) _
        have hst5 : StAt (((w.setCell ⟨g, 8, none⟩ (.bool true)).setCell ⟨g, 10, none⟩ (.int .i64 (en : Int))).setCell ⟨g, 12, none⟩ (.int .i64 ((sure : Nat) : Int))) g id v bv { s with ended := true, en := en, sure := sure } := StAt.mk2 (((H.out.cell.set 8 (.bool true)).set 10 (.int .i64 (en : Int))).set 12 (.int .i64 ((sure : Nat) : Int))) H.out hk5 rfl rfl rfl rfl ⟨H.out.ok.norm, H.out.ok.dl, H.out.ok.rd, H.out.ok.told, H.out.ok.taken, H.out.ok.top, hen6, H.out.ok.code, by have := H.out.ok.sure; show sure ≤ 225000000000000; omega, H.out.ok.cov, H.out.ok.lf⟩
        have HR := Lib.hid (rise_any hst5 en hen6)
        have Hk5 := Lib.hid (HkA.out.no.trans hk5)
        have f8 := H.out.cell.frozen 8
        have f9 := H.out.cell.frozen 9
        have f10 := H.out.cell.frozen 10
        have f11 := H.out.cell.frozen 11
        have f12 := H.out.cell.frozen 12
        have z11 := H.out.all.2.2.2.2.2.2.2.2.2.2.2.1
        clear hk5 hst5
        go_wp2_with fail
        with_reducible refine (HR.out).mono ?_
        rintro e w8 ⟨rfl, hS8, hk8⟩
        have HS8 := Lib.hid hS8
        have Hk8 := Lib.hid (Hk5.out.trans hk8)
        clear hS8 hk8
        go_wp2_with fail
        go_ret2
        rw [He1.out]
        exact ⟨rfl, HS8.out, Hk8.out⟩
  | true =>
    rw [hen] at c8
    have b1 : ((en : Int) != (s.en : Int)) = false := by
      by_cases a1 : (en : Int) = s.en
      · simp [a1]
      · exact absurd (.inl ⟨hen, a1⟩) He2.out
    clear He2
    cases hbk : s.broken with
    | false =>
      rw [hbk] at c9
      cases hav : ab with
      | true =>
        rw [hav] at HA
        have He1 : Hid (brkS s code en sure = riseS { s with ended := true, en := en } en) := Lib.hid (by unfold brkS riseS; simp [hen, hbk, ← Hab.out, hav])
        go_enter Try.func19, Try.ntmps19
        go_wp2_with (go_at_call 41; refine (may_any _ _).mono ?_; rintro e w' ⟨rfl, rfl⟩)
        with_reducible refine (HA.out).mono ?_
        rintro e w1 ⟨rfl, hk1⟩
        have H1 := Lib.hid (H.out.no hk1)
        have HkA := Lib.hid hk1
        clear hk1
        obtain ⟨_, _, _, c3, _, _, c6, _, c8, c9, c10, _, c12⟩ := H1.out.all
        rw [hen] at c8
        rw [hbk] at c9
        have hl1 := H1.out.cell.lt
        clear hen hbk
        have hk5 : Kp (fun k => k = g) w1 ((w1.setCell ⟨g, 8, none⟩ (.bool true)).setCell ⟨g, 10, none⟩ (.int .i64 (en : Int))) := Kp.set (S := fun k => k = g) (Kp.set (S := fun k => k = g) (Kp.refl _ w1) (p := ⟨g, 8, none⟩) (.inl rfl) _) (p := ⟨g, 10, none⟩) (.inl rfl) _
        have hst5 : StAt ((w1.setCell ⟨g, 8, none⟩ (.bool true)).setCell ⟨g, 10, none⟩ (.int .i64 (en : Int))) g id v bv { s with ended := true, en := en } := StAt.mk2 ((H1.out.cell.set 8 (.bool true)).set 10 (.int .i64 (en : Int))) H1.out hk5 rfl rfl rfl rfl ⟨H1.out.ok.norm, H1.out.ok.dl, H1.out.ok.rd, H1.out.ok.told, H1.out.ok.taken, H1.out.ok.top, hen6, H1.out.ok.code, H1.out.ok.sure, H1.out.ok.cov, H1.out.ok.lf⟩
        have HR := Lib.hid (rise_any hst5 en hen6)
        have Hk5 := Lib.hid (HkA.out.no.trans hk5)
        have f8 := H1.out.cell.frozen 8
        have f9 := H1.out.cell.frozen 9
        have f10 := H1.out.cell.frozen 10
        have f11 := H1.out.cell.frozen 11
        have f12 := H1.out.cell.frozen 12
        have z11 := H1.out.all.2.2.2.2.2.2.2.2.2.2.2.1
        clear hk5 hst5
        go_wp2_with fail
        with_reducible refine (HR.out).mono ?_
        rintro e w8 ⟨rfl, hS8, hk8⟩
        have HS8 := Lib.hid hS8
        have Hk8 := Lib.hid (Hk5.out.trans hk8)
        clear hS8 hk8
        go_wp2_with fail
        go_ret2
        rw [He1.out]
        exact ⟨rfl, HS8.out, Hk8.out⟩
      | false =>
        rw [hav] at HA
        have He1 : Hid (brkS s code en sure = riseS { s with ended := true, en := en, broken := true, code := code, sure := sure } en) := Lib.hid (by unfold brkS riseS; simp [hen, hbk, ← Hab.out, hav])
        go_enter Try.func19, Try.ntmps19
        go_wp2_with (go_at_call 41; refine (may_any _ _).mono ?_; rintro e w' ⟨rfl, rfl⟩)
        with_reducible refine (HA.out).mono ?_
        rintro e w1 ⟨rfl, hk1⟩
        have H1 := Lib.hid (H.out.no hk1)
        have HkA := Lib.hid hk1
        clear hk1
        obtain ⟨_, _, _, c3, _, _, c6, _, c8, c9, c10, _, c12⟩ := H1.out.all
        rw [hen] at c8
        rw [hbk] at c9
        have hl1 := H1.out.cell.lt
        clear hen hbk
        have hk5 : Kp (fun k => k = g) w1 (((((w1.setCell ⟨g, 8, none⟩ (.bool true)).setCell ⟨g, 10, none⟩ (.int .i64 (en : Int))).setCell ⟨g, 9, none⟩ (.bool true)).setCell ⟨g, 11, none⟩ (.int .i64 (code : Int))).setCell ⟨g, 12, none⟩ (.int .i64 (sure : Int))) := Kp.set (S := fun k => k = g) (Kp.set (S := fun k => k = g) (Kp.set (S := fun k => k = g) (Kp.set (S := fun k => k = g) (Kp.set (S := fun k => k = g) (Kp.refl _ w1) (p := ⟨g, 8, none⟩) (.inl rfl) _) (p := ⟨g, 10, none⟩) (.inl rfl) _) (p := ⟨g, 9, none⟩) (.inl rfl) _) (p := ⟨g, 11, none⟩) (.inl rfl) _) (p := ⟨g, 12, none⟩) (.inl rfl) _
        have hst5 : StAt (((((w1.setCell ⟨g, 8, none⟩ (.bool true)).setCell ⟨g, 10, none⟩ (.int .i64 (en : Int))).setCell ⟨g, 9, none⟩ (.bool true)).setCell ⟨g, 11, none⟩ (.int .i64 (code : Int))).setCell ⟨g, 12, none⟩ (.int .i64 (sure : Int))) g id v bv { s with ended := true, en := en, broken := true, code := code, sure := sure } := StAt.mk2 (((((H1.out.cell.set 8 (.bool true)).set 10 (.int .i64 (en : Int))).set 9 (.bool true)).set 11 (.int .i64 (code : Int))).set 12 (.int .i64 (sure : Int))) H1.out hk5 rfl rfl rfl rfl ⟨H1.out.ok.norm, H1.out.ok.dl, H1.out.ok.rd, H1.out.ok.told, H1.out.ok.taken, H1.out.ok.top, hen6, hcd, hsu, H1.out.ok.cov, H1.out.ok.lf⟩
        have HR := Lib.hid (rise_any hst5 en hen6)
        have Hk5 := Lib.hid (HkA.out.no.trans hk5)
        have f8 := H1.out.cell.frozen 8
        have f9 := H1.out.cell.frozen 9
        have f10 := H1.out.cell.frozen 10
        have f11 := H1.out.cell.frozen 11
        have f12 := H1.out.cell.frozen 12
        have z11 := H1.out.all.2.2.2.2.2.2.2.2.2.2.2.1
        clear hk5 hst5
        go_wp2_with fail
        with_reducible refine (HR.out).mono ?_
        rintro e w8 ⟨rfl, hS8, hk8⟩
        have HS8 := Lib.hid hS8
        have Hk8 := Lib.hid (Hk5.out.trans hk8)
        clear hS8 hk8
        go_wp2_with fail
        go_ret2
        rw [He1.out]
        exact ⟨rfl, HS8.out, Hk8.out⟩
    | true =>
      rw [hbk] at c9
      cases hav : ab with
      | true =>
        rw [hav] at HA
        have he1 : ∀ q, q = min s.sure sure → brkS s code en sure = riseS { s with ended := true, en := en, sure := q } en := fun q hq => by unfold brkS riseS; rw [hq]; simp [hen, hbk, ← Hab.out, hav]
        go_enter Try.func19, Try.ntmps19
        go_wp2_with (go_at_call 41; refine (may_any _ _).mono ?_; rintro e w' ⟨rfl, rfl⟩)
        with_reducible refine (HA.out).mono ?_
        rintro e w1 ⟨rfl, hk1⟩
        have H1 := Lib.hid (H.out.no hk1)
        have HkA := Lib.hid hk1
        clear hk1
        obtain ⟨_, _, _, c3, _, _, c6, _, c8, c9, c10, _, c12⟩ := H1.out.all
        rw [hen] at c8
        rw [hbk] at c9
        have hl1 := H1.out.cell.lt
        clear hen hbk
        rcases Nat.lt_trichotomy s.sure sure with hm3w | hm3w | hm3w
        · have hmn : s.sure < sure := by omega
          have m0 : (s.sure : Int) < (sure : Int) := by omega
          have m1 : (s.sure : Int) ≤ (sure : Int) := by omega
          have m2 : ¬ (sure : Int) < (s.sure : Int) := by omega
          have m3 : ¬ (sure : Int) ≤ (s.sure : Int) := by omega
          have hmin : min s.sure sure = s.sure := by omega
          have He1 := Lib.hid (he1 (min s.sure sure) rfl)
          rw [hmin] at He1
          clear hmin he1 hmn hm3w
          have hk5 : Kp (fun k => k = g) w1 (((w1.setCell ⟨g, 8, none⟩ (.bool true)).setCell ⟨g, 10, none⟩ (.int .i64 (en : Int))).setCell ⟨g, 12, none⟩ (.int .i64 ((s.sure : Nat) : Int))) := Kp.set (S := fun k => k = g) (Kp.set (S := fun k => k = g) (Kp.set (S := fun k => k = g) (Kp.refl _ w1) (p := ⟨g, 8, none⟩) (.inl rfl) _) (p := ⟨g, 10, none⟩) (.inl rfl) _) (p := ⟨g, 12, none⟩) (.inl rfl) _
          have hst5 : StAt (((w1.setCell ⟨g, 8, none⟩ (.bool true)).setCell ⟨g, 10, none⟩ (.int .i64 (en : Int))).setCell ⟨g, 12, none⟩ (.int .i64 ((s.sure : Nat) : Int))) g id v bv { s with ended := true, en := en, sure := s.sure } := StAt.mk2 (((H1.out.cell.set 8 (.bool true)).set 10 (.int .i64 (en : Int))).set 12 (.int .i64 ((s.sure : Nat) : Int))) H1.out hk5 rfl rfl rfl rfl ⟨H1.out.ok.norm, H1.out.ok.dl, H1.out.ok.rd, H1.out.ok.told, H1.out.ok.taken, H1.out.ok.top, hen6, H1.out.ok.code, by have := H1.out.ok.sure; show s.sure ≤ 225000000000000; omega, H1.out.ok.cov, H1.out.ok.lf⟩
          have HR := Lib.hid (rise_any hst5 en hen6)
          have Hk5 := Lib.hid (HkA.out.no.trans hk5)
          have f8 := H1.out.cell.frozen 8
          have f9 := H1.out.cell.frozen 9
          have f10 := H1.out.cell.frozen 10
          have f11 := H1.out.cell.frozen 11
          have f12 := H1.out.cell.frozen 12
          have z11 := H1.out.all.2.2.2.2.2.2.2.2.2.2.2.1
          clear hk5 hst5
          go_wp2_with fail
          with_reducible refine (HR.out).mono ?_
          rintro e w8 ⟨rfl, hS8, hk8⟩
          have HS8 := Lib.hid hS8
          have Hk8 := Lib.hid (Hk5.out.trans hk8)
          clear hS8 hk8
          go_wp2_with fail
          go_ret2
          rw [He1.out]
          exact ⟨rfl, HS8.out, Hk8.out⟩
        · have hmn : s.sure = sure := by omega
          rw [hmn] at c12
          have hmin : min s.sure sure = sure := by omega
          have He1 := Lib.hid (he1 (min s.sure sure) rfl)
          rw [hmin] at He1
          clear hmin he1 hmn hm3w
          have hk5 : Kp (fun k => k = g) w1 (((w1.setCell ⟨g, 8, none⟩ (.bool true)).setCell ⟨g, 10, none⟩ (.int .i64 (en : Int))).setCell ⟨g, 12, none⟩ (.int .i64 ((sure : Nat) : Int))) := Kp.set (S := fun k => k = g) (Kp.set (S := fun k => k = g) (Kp.set (S := fun k => k = g) (Kp.refl _ w1) (p := ⟨g, 8, none⟩) (.inl rfl) _) (p := ⟨g, 10, none⟩) (.inl rfl) _) (p := ⟨g, 12, none⟩) (.inl rfl) _
          have hst5 : StAt (((w1.setCell ⟨g, 8, none⟩ (.bool true)).setCell ⟨g, 10, none⟩ (.int .i64 (en : Int))).setCell ⟨g, 12, none⟩ (.int .i64 ((sure : Nat) : Int))) g id v bv { s with ended := true, en := en, sure := sure } := StAt.mk2 (((H1.out.cell.set 8 (.bool true)).set 10 (.int .i64 (en : Int))).set 12 (.int .i64 ((sure : Nat) : Int))) H1.out hk5 rfl rfl rfl rfl ⟨H1.out.ok.norm, H1.out.ok.dl, H1.out.ok.rd, H1.out.ok.told, H1.out.ok.taken, H1.out.ok.top, hen6, H1.out.ok.code, by have := H1.out.ok.sure; show sure ≤ 225000000000000; omega, H1.out.ok.cov, H1.out.ok.lf⟩
          have HR := Lib.hid (rise_any hst5 en hen6)
          have Hk5 := Lib.hid (HkA.out.no.trans hk5)
          have f8 := H1.out.cell.frozen 8
          have f9 := H1.out.cell.frozen 9
          have f10 := H1.out.cell.frozen 10
          have f11 := H1.out.cell.frozen 11
          have f12 := H1.out.cell.frozen 12
          have z11 := H1.out.all.2.2.2.2.2.2.2.2.2.2.2.1
          clear hk5 hst5
          go_wp2_with fail
          with_reducible refine (HR.out).mono ?_
          rintro e w8 ⟨rfl, hS8, hk8⟩
          have HS8 := Lib.hid hS8
          have Hk8 := Lib.hid (Hk5.out.trans hk8)
          clear hS8 hk8
          go_wp2_with fail
          go_ret2
          rw [He1.out]
          exact ⟨rfl, HS8.out, Hk8.out⟩
        · have hmn : sure < s.sure := by omega
          have m0 : (sure : Int) < (s.sure : Int) := by omega
          have m1 : (sure : Int) ≤ (s.sure : Int) := by omega
          have m2 : ¬ (s.sure : Int) < (sure : Int) := by omega
          have m3 : ¬ (s.sure : Int) ≤ (sure : Int) := by omega
          have hmin : min s.sure sure = sure := by omega
          have He1 := Lib.hid (he1 (min s.sure sure) rfl)
          rw [hmin] at He1
          clear hmin he1 hmn hm3w
          have hk5 : Kp (fun k => k = g) w1 (((w1.setCell ⟨g, 8, none⟩ (.bool true)).setCell ⟨g, 10, none⟩ (.int .i64 (en : Int))).setCell ⟨g, 12, none⟩ (.int .i64 ((sure : Nat) : Int))) := Kp.set (S := fun k => k = g) (Kp.set (S := fun k => k = g) (Kp.set (S := fun k => k = g) (Kp.refl _ w1) (p := ⟨g, 8, none⟩) (.inl rfl) _) (p := ⟨g, 10, none⟩) (.inl rfl) _) (p := ⟨g, 12, none⟩) (.inl rfl) _
          have hst5 : StAt (((w1.setCell ⟨g, 8, none⟩ (.bool true)).setCell ⟨g, 10, none⟩ (.int .i64 (en : Int))).setCell ⟨g, 12, none⟩ (.int .i64 ((sure : Nat) : Int))) g id v bv { s with ended := true, en := en, sure := sure } := StAt.mk2 (((H1.out.cell.set 8 (.bool true)).set 10 (.int .i64 (en : Int))).set 12 (.int .i64 ((sure : Nat) : Int))) H1.out hk5 rfl rfl rfl rfl ⟨H1.out.ok.norm, H1.out.ok.dl, H1.out.ok.rd, H1.out.ok.told, H1.out.ok.taken, H1.out.ok.top, hen6, H1.out.ok.code, by have := H1.out.ok.sure; show sure ≤ 225000000000000; omega, H1.out.ok.cov, H1.out.ok.lf⟩
          have HR := Lib.hid (rise_any hst5 en hen6)
          have Hk5 := Lib.hid (HkA.out.no.trans hk5)
          have f8 := H1.out.cell.frozen 8
          have f9 := H1.out.cell.frozen 9
          have f10 := H1.out.cell.frozen 10
          have f11 := H1.out.cell.frozen 11
          have f12 := H1.out.cell.frozen 12
          have z11 := H1.out.all.2.2.2.2.2.2.2.2.2.2.2.1
          clear hk5 hst5
          go_wp2_with fail
          with_reducible refine (HR.out).mono ?_
          rintro e w8 ⟨rfl, hS8, hk8⟩
          have HS8 := Lib.hid hS8
          have Hk8 := Lib.hid (Hk5.out.trans hk8)
          clear hS8 hk8
          go_wp2_with fail
          go_ret2
          rw [He1.out]
          exact ⟨rfl, HS8.out, Hk8.out⟩
      | false =>
        rw [hav] at HA
        have he1 : ∀ q, q = min s.sure sure → brkS s code en sure = riseS { s with ended := true, en := en, sure := q } en := fun q hq => by unfold brkS riseS; rw [hq]; simp [hen, hbk, ← Hab.out, hav]
        go_enter Try.func19, Try.ntmps19
        go_wp2_with (go_at_call 41; refine (may_any _ _).mono ?_; rintro e w' ⟨rfl, rfl⟩)
        with_reducible refine (HA.out).mono ?_
        rintro e w1 ⟨rfl, hk1⟩
        have H1 := Lib.hid (H.out.no hk1)
        have HkA := Lib.hid hk1
        clear hk1
        obtain ⟨_, _, _, c3, _, _, c6, _, c8, c9, c10, _, c12⟩ := H1.out.all
        rw [hen] at c8
        rw [hbk] at c9
        have hl1 := H1.out.cell.lt
        clear hen hbk
        rcases Nat.lt_trichotomy s.sure sure with hm3w | hm3w | hm3w
        · have hmn : s.sure < sure := by omega
          have m0 : (s.sure : Int) < (sure : Int) := by omega
          have m1 : (s.sure : Int) ≤ (sure : Int) := by omega
          have m2 : ¬ (sure : Int) < (s.sure : Int) := by omega
          have m3 : ¬ (sure : Int) ≤ (s.sure : Int) := by omega
          have hmin : min s.sure sure = s.sure := by omega
          have He1 := Lib.hid (he1 (min s.sure sure) rfl)
          rw [hmin] at He1
          clear hmin he1 hmn hm3w
          have hk5 : Kp (fun k => k = g) w1 (((w1.setCell ⟨g, 8, none⟩ (.bool true)).setCell ⟨g, 10, none⟩ (.int .i64 (en : Int))).setCell ⟨g, 12, none⟩ (.int .i64 ((s.sure : Nat) : Int))) := Kp.set (S := fun k => k = g) (Kp.set (S := fun k => k = g) (Kp.set (S := fun k => k = g) (Kp.refl _ w1) (p := ⟨g, 8, none⟩) (.inl rfl) _) (p := ⟨g, 10, none⟩) (.inl rfl) _) (p := ⟨g, 12, none⟩) (.inl rfl) _
          have hst5 : StAt (((w1.setCell ⟨g, 8, none⟩ (.bool true)).setCell ⟨g, 10, none⟩ (.int .i64 (en : Int))).setCell ⟨g, 12, none⟩ (.int .i64 ((s.sure : Nat) : Int))) g id v bv { s with ended := true, en := en, sure := s.sure } := StAt.mk2 (((H1.out.cell.set 8 (.bool true)).set 10 (.int .i64 (en : Int))).set 12 (.int .i64 ((s.sure : Nat) : Int))) H1.out hk5 rfl rfl rfl rfl ⟨H1.out.ok.norm, H1.out.ok.dl, H1.out.ok.rd, H1.out.ok.told, H1.out.ok.taken, H1.out.ok.top, hen6, H1.out.ok.code, by have := H1.out.ok.sure; show s.sure ≤ 225000000000000; omega, H1.out.ok.cov, H1.out.ok.lf⟩
          have HR := Lib.hid (rise_any hst5 en hen6)
          have Hk5 := Lib.hid (HkA.out.no.trans hk5)
          have f8 := H1.out.cell.frozen 8
          have f9 := H1.out.cell.frozen 9
          have f10 := H1.out.cell.frozen 10
          have f11 := H1.out.cell.frozen 11
          have f12 := H1.out.cell.frozen 12
          have z11 := H1.out.all.2.2.2.2.2.2.2.2.2.2.2.1
          clear hk5 hst5
          go_wp2_with fail
          with_reducible refine (HR.out).mono ?_
          rintro e w8 ⟨rfl, hS8, hk8⟩
          have HS8 := Lib.hid hS8
          have Hk8 := Lib.hid (Hk5.out.trans hk8)
          clear hS8 hk8
          go_wp2_with fail
          go_ret2
          rw [He1.out]
          exact ⟨rfl, HS8.out, Hk8.out⟩
        · have hmn : s.sure = sure := by omega
          rw [hmn] at c12
          have hmin : min s.sure sure = sure := by omega
          have He1 := Lib.hid (he1 (min s.sure sure) rfl)
          rw [hmin] at He1
          clear hmin he1 hmn hm3w
          have hk5 : Kp (fun k => k = g) w1 (((w1.setCell ⟨g, 8, none⟩ (.bool true)).setCell ⟨g, 10, none⟩ (.int .i64 (en : Int))).setCell ⟨g, 12, none⟩ (.int .i64 ((sure : Nat) : Int))) := Kp.set (S := fun k => k = g) (Kp.set (S := fun k => k = g) (Kp.set (S := fun k => k = g) (Kp.refl _ w1) (p := ⟨g, 8, none⟩) (.inl rfl) _) (p := ⟨g, 10, none⟩) (.inl rfl) _) (p := ⟨g, 12, none⟩) (.inl rfl) _
          have hst5 : StAt (((w1.setCell ⟨g, 8, none⟩ (.bool true)).setCell ⟨g, 10, none⟩ (.int .i64 (en : Int))).setCell ⟨g, 12, none⟩ (.int .i64 ((sure : Nat) : Int))) g id v bv { s with ended := true, en := en, sure := sure } := StAt.mk2 (((H1.out.cell.set 8 (.bool true)).set 10 (.int .i64 (en : Int))).set 12 (.int .i64 ((sure : Nat) : Int))) H1.out hk5 rfl rfl rfl rfl ⟨H1.out.ok.norm, H1.out.ok.dl, H1.out.ok.rd, H1.out.ok.told, H1.out.ok.taken, H1.out.ok.top, hen6, H1.out.ok.code, by have := H1.out.ok.sure; show sure ≤ 225000000000000; omega, H1.out.ok.cov, H1.out.ok.lf⟩
          have HR := Lib.hid (rise_any hst5 en hen6)
          have Hk5 := Lib.hid (HkA.out.no.trans hk5)
          have f8 := H1.out.cell.frozen 8
          have f9 := H1.out.cell.frozen 9
          have f10 := H1.out.cell.frozen 10
          have f11 := H1.out.cell.frozen 11
          have f12 := H1.out.cell.frozen 12
          have z11 := H1.out.all.2.2.2.2.2.2.2.2.2.2.2.1
          clear hk5 hst5
          go_wp2_with fail
          with_reducible refine (HR.out).mono ?_
          rintro e w8 ⟨rfl, hS8, hk8⟩
          have HS8 := Lib.hid hS8
          have Hk8 := Lib.hid (Hk5.out.trans hk8)
          clear hS8 hk8
          go_wp2_with fail
          go_ret2
          rw [He1.out]
          exact ⟨rfl, HS8.out, Hk8.out⟩
        · have hmn : sure < s.sure := by omega
          have m0 : (sure : Int) < (s.sure : Int) := by omega
          have m1 : (sure : Int) ≤ (s.sure : Int) := by omega
          have m2 : ¬ (s.sure : Int) < (sure : Int) := by omega
          have m3 : ¬ (s.sure : Int) ≤ (sure : Int) := by omega
          have hmin : min s.sure sure = sure := by omega
          have He1 := Lib.hid (he1 (min s.sure sure) rfl)
          rw [hmin] at He1
          clear hmin he1 hmn hm3w
          have hk5 : Kp (fun k => k = g) w1 (((w1.setCell ⟨g, 8, none⟩ (.bool true)).setCell ⟨g, 10, none⟩ (.int .i64 (en : Int))).setCell ⟨g, 12, none⟩ (.int .i64 ((sure : Nat) : Int))) := Kp.set (S := fun k => k = g) (Kp.set (S := fun k => k = g) (Kp.set (S := fun k => k = g) (Kp.refl _ w1) (p := ⟨g, 8, none⟩) (.inl rfl) _) (p := ⟨g, 10, none⟩) (.inl rfl) _) (p := ⟨g, 12, none⟩) (.inl rfl) _
          have hst5 : StAt (((w1.setCell ⟨g, 8, none⟩ (.bool true)).setCell ⟨g, 10, none⟩ (.int .i64 (en : Int))).setCell ⟨g, 12, none⟩ (.int .i64 ((sure : Nat) : Int))) g id v bv { s with ended := true, en := en, sure := sure } := StAt.mk2 (((H1.out.cell.set 8 (.bool true)).set 10 (.int .i64 (en : Int))).set 12 (.int .i64 ((sure : Nat) : Int))) H1.out hk5 rfl rfl rfl rfl ⟨H1.out.ok.norm, H1.out.ok.dl, H1.out.ok.rd, H1.out.ok.told, H1.out.ok.taken, H1.out.ok.top, hen6, H1.out.ok.code, by have := H1.out.ok.sure; show sure ≤ 225000000000000; omega, H1.out.ok.cov, H1.out.ok.lf⟩
          have HR := Lib.hid (rise_any hst5 en hen6)
          have Hk5 := Lib.hid (HkA.out.no.trans hk5)
          have f8 := H1.out.cell.frozen 8
          have f9 := H1.out.cell.frozen 9
          have f10 := H1.out.cell.frozen 10
          have f11 := H1.out.cell.frozen 11
          have f12 := H1.out.cell.frozen 12
          have z11 := H1.out.all.2.2.2.2.2.2.2.2.2.2.2.1
          clear hk5 hst5
          go_wp2_with fail
          with_reducible refine (HR.out).mono ?_
          rintro e w8 ⟨rfl, hS8, hk8⟩
          have HS8 := Lib.hid hS8
          have Hk8 := Lib.hid (Hk5.out.trans hk8)
          clear hS8 hk8
          go_wp2_with fail
          go_ret2
          rw [He1.out]
          exact ⟨rfl, HS8.out, Hk8.out⟩
end Go.Proofs.Ytbkpapdbidbhaaa

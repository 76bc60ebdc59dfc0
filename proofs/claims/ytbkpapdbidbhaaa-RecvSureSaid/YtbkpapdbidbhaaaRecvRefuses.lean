/-
  argosylaw14.RecvRefuses: the walk.
-/
import Derived.Test.YtbkpapdbidbhaaaRecvQ
import Derived.Deep.CutBlock
import Derived.Test.YtbkpapdbidbhaaaByArg
namespace Go.Proofs.Ytbkpapdbidbhaaa
open Go.RowKit

theorem row_pre {w : World} {B : Nat} {A : Option Addr} {n c : Nat} {d : List UInt8} (h : RowAt w B 1 (.slice A n c) n (encB d)) (i : Nat) (hi : i ≤ n) : RowAt w B 1 (.slice A i c) i (encB (d.take i)) := by
  have hl := h.1
  rw [encB_len, Nat.mul_one] at hl
  cases A with
  | none =>
    rcases h.2 with ⟨hv, h0⟩ | ⟨g, off, cap, hv, _⟩
    · cases hv
      have : i = 0 := by omega
      subst this
      exact ⟨by simp [encB], .inl ⟨rfl, rfl⟩⟩
    · cases hv
  | some a =>
    have := h.take rfl i hi
    rw [Nat.mul_one] at this
    unfold encB at this ⊢
    rw [List.map_take]
    exact this
set_option maxRecDepth 100000 in
set_option maxHeartbeats 4000000 in
theorem RecvRefuses_any (W : World) (v0 : Value) (hv0 : SlArg 22 W v0) (x1 : Int) (_l1 : -9223372036854775808 ≤ x1) (_h1 : x1 ≤ 9223372036854775807) (x2 : Int) (_l2 : -9223372036854775808 ≤ x2) (_h2 : x2 ≤ 9223372036854775807) (x3 : Int) (_l3 : -9223372036854775808 ≤ x3) (_h3 : x3 ≤ 9223372036854775807)
    (x4 : Int) (l4 : -9223372036854775808 ≤ x4) (h4 : x4 ≤ 9223372036854775807) (fin : Bool) :
    Calls Try.prog 5 #[v0, .int .i64 x1, .int .i64 x2, .int .i64 x3, .int .i64 x4, .bool fin] W fun e w' => e = .returned (.bool true) ∧ Below W.heap.size W w' := by
  obtain ⟨A, pd, cap, rfl, hbs, hlc, hcm, hA0, hAb, hreach⟩ := bytes_rd hv0
  have HFe := Lib.hid (few_any hbs hlc hcm (fun h0 a ha => by obtain ⟨b, off, hx, _⟩ := hAb h0; rw [hx] at ha; cases ha; rw [Addr.add_lit, Nat.add_zero]) hA0 200 (by omega))
  clear hv0 hbs hlc hcm hA0 hAb hreach
  generalize hal : pd.take 200 = al at *
  have hal2 : al.length ≤ 200 := by rw [← hal, List.length_take]; omega
  clear hal
  generalize pd.length = pl at *
  generalize hn : al.length = n at *
  have Hn := Lib.hid hn
  clear hn
  go_enter Try.func5, Try.ntmps5
  go_wp2_with fail
  refine (HFe.out).mono ?_
  rintro e w1 ⟨v1, rfl, hrow, hk1⟩
  obtain ⟨Av, cv, rfl⟩ := (RowAt.of_own hrow).form
  have Hrow := Lib.hid (RowAt.of_own hrow)
  have hcv := row_capL Hrow.out
  have Hk1 := Lib.hid hk1
  clear hrow hk1 HFe
  have HN := Lib.hid (h_new 3 w1 (fun k => k < w1.heap.size) (fun k h => h))
  go_wp2_with fail
  with_reducible refine (HN.out).mono ?_
  rintro e w2 ⟨g, rfl, hs2, hg2, hk2⟩
  have HS2 := Lib.hid hs2
  have Hk2 := Lib.hid hk2
  have HK := Lib.hid (known14 w2)
  clear hs2 hk2 HN
  go_wp2_with fail
  with_reducible refine (HK.out).mono ?_
  rintro e w3 ⟨rfl, hk3⟩
  have HS3 := Lib.hid (HS2.out.no hk3)
  have Hk3 := Lib.hid (Hk2.out.trans hk3)
  clear hk3 HS2 Hk2 HK
  obtain ⟨en, hen⟩ := Int.eq_ofNat_of_zero_le (pickF_lo x1 ((n : Int) + 1) (by omega))
  have hen2 := pickF_hi x1 ((n : Int) + 1) (by omega)
  have HP1 := Lib.hid (fun w => pick_any x1 ((n : Int) + 1) w (by omega) (by omega))
  rw [hen] at HP1 hen2
  have hen3 : en ≤ n := by omega
  clear hen hen2
  go_wp2_with fail
  with_reducible refine (HP1.out _).mono ?_
  rintro e w' ⟨rfl, rfl⟩
  have q1 : en ≤ cv := by omega
  have hal1 : al.length = n := Hn.out
  have hsrc1 := Hrow.out.src (encB_one _)
  have hp3 := src_pre ((Hk3.out).src hsrc1 (fun _ _ h => h)) en hen3
  have hown : ∀ k, (Value.slice Av en cv).ownBlock = some k → k < w1.heap.size := fun k hk => (Hrow.out.lt k (by cases Av with | none => cases hk | some a => exact hk)).2
  have hpl3 : (al.take en).length = en := by rw [List.length_take]; omega
  have HPut := Lib.hid (h_put HS3.out 0 true hp3 (by omega) hcv.2 hown (show putErr rs0 ((0 : Nat) : Int) true en = 0 by
    unfold putErr
    rw [if_neg (by omega), if_neg (by show ¬ ((400 : Nat) : Int) < _; omega), if_neg]
    rintro (⟨h, _⟩ | ⟨_, h, _⟩ | ⟨_, h⟩)
    · cases h
    · cases h
    · have : (rs0.top : Int) = 0 := rfl
      omega))
  have Hsrc1 := Lib.hid hsrc1
  have Hown := Lib.hid hown
  clear hp3 hsrc1 hown HP1
  go_wp2_with fail
  refine (HPut.out).mono ?_
  rintro e w4 ⟨rfl, hs4, hk4⟩
  have hw4 := whole_start (all := al) (en := en) (by omega) (by omega) hs4.ok
  have htop4 := hw4.top
  rw [htop4]
  generalize putS rs0 0 true (al.take en) = s4 at *
  have HS4 := Lib.hid hs4
  have HW4 := Lib.hid hw4
  have Hk4 := Lib.hid hk4
  clear hs4 hw4 hk4 htop4 HPut HS3
  obtain ⟨o, ho⟩ := Int.eq_ofNat_of_zero_le (pickF_lo x2 500 (by omega))
  have ho2 := pickF_hi x2 500 (by omega)
  have HP2 := Lib.hid (fun w => pick_any x2 500 w (by omega) (by omega))
  rw [ho] at HP2 ho2
  have ho3 : o < 500 := by omega
  obtain ⟨m, hm⟩ := Int.eq_ofNat_of_zero_le (pickF_lo x3 90 (by omega))
  have hm2 := pickF_hi x3 90 (by omega)
  have HP3 := Lib.hid (fun w => pick_any x3 90 w (by omega) (by omega))
  rw [hm] at HP3 hm2
  have hm3 : m < 90 := by omega
  clear ho ho2 hm hm2
  go_wp2_with fail
  with_reducible refine (HP2.out _).mono ?_
  rintro e w' ⟨rfl, rfl⟩
  go_wp2_with fail
  with_reducible refine (HP3.out _).mono ?_
  rintro e w' ⟨rfl, rfl⟩
  have hmk := fun w => make_by m (by omega) w
  have hka : Kp (fun k => k < w1.heap.size) w4 (w4.alloc (.cells (encB (zeros m)).toArray 5)) := (Kp.refl _ w4).alloc _
  have hs5 := HS4.out.turn hka
  have hp5 := src_lit (zeros m) (n := m) (Whole.new w4 5 (encB (zeros m)).toArray) (by simp [zeros])
  obtain ⟨er, her⟩ : ∃ er, er = putErr s4 (o : Int) fin m := ⟨_, rfl⟩
  have HPut := Lib.hid (w_put hs5 HW4.out (by omega) o (by omega) fin hp5 (Nat.le_refl _) (by unfold maxLen; omega) (fun k hk => .inr (by have : w4.heap.size = k := Option.some.inj hk; simp only [World.size_alloc]; omega)) (by omega) er her.symm)
  rw [w_err HW4.out o m (by omega) (by omega) fin] at her
  have Her := Lib.hid her
  have hl14 := Hk4.out.size
  clear hka hs5 hp5 her HP2 HP3
  go_wp2_with fail
  refine (HPut.out).mono ?_
  rintro e w5 ⟨fr, s5, rfl, hs5, hw5, hk5⟩
  have hs5' := hs5.sub (F' := fun k => k < w1.heap.size) (fun k h => .inl h)
  have HS5 := Lib.hid hs5'
  have HW5 := Lib.hid hw5
  have Hk5 := Lib.hid (Kp.trans (Hk4.out.alloc (.cells (encB (zeros m)).toArray 5)) (hk5.mono (S' := fun k => ¬ k < w1.heap.size) (fun k _ e h => e (.inl h))))
  clear hs5 hs5' hw5 hk5 HPut HS4 HW4 hmk hl14
  have hwr : IntKind.i64.wrap ((o : Int) + (m : Int)) = (o : Int) + (m : Int) := IntWalk.i64_in _ (by omega)
  go_upto_block 0 with fail
  go_cut [19] (fun v19 wx => v19 = .int .i64 (er : Int) ∧ wx = w5)
  case first =>
    have her := Her.out
    clear Her
    by_cases e1 : 400 < o + m
    · rw [if_pos e1] at her
      have t1 : (400 : Int) < (o : Int) + (m : Int) := by omega
      clear e1
      subst her
      go_wp2_with fail
      go_meet
      case rel => exact ⟨rfl, rfl⟩
    · rw [if_neg e1] at her
      have t1 : ¬ (400 : Int) < (o : Int) + (m : Int) := by omega
      clear e1
      by_cases e2 : en < o + m
      · rw [if_pos (.inl e2)] at her
        have t2 : (en : Int) < (o : Int) + (m : Int) := by omega
        clear e2
        subst her
        go_wp2_with fail
        go_meet
        case rel => exact ⟨rfl, rfl⟩
      · have t2 : ¬ (en : Int) < (o : Int) + (m : Int) := by omega
        cases fin with
        | true =>
          by_cases e3 : o + m = en
          · rw [if_neg (fun h => h.elim e2 (fun h => h.2 e3))] at her
            have t3 : ((o : Int) + (m : Int) != (en : Int)) = false := by simp; omega
            clear e2 e3
            subst her
            go_wp2_with fail
            go_meet
            case rel => exact ⟨rfl, rfl⟩
          · rw [if_pos (.inr ⟨rfl, e3⟩)] at her
            have t3 : ((o : Int) + (m : Int) != (en : Int)) = true := by simp; omega
            clear e2 e3
            subst her
            go_wp2_with fail
            go_meet
            case rel => exact ⟨rfl, rfl⟩
        | false =>
          rw [if_neg (fun h => h.elim e2 (fun h => by cases h.1))] at her
          clear e2
          subst her
          go_wp2_with fail
          go_meet
          case rel => exact ⟨rfl, rfl⟩
  case rest =>
    obtain ⟨rfl, rfl⟩ := hcut
    generalize wc = w5 at *
    obtain ⟨eb, heb⟩ : ∃ eb, eb = brkErr s5 x4 (o : Int) 0 := ⟨_, rfl⟩
    have HB := Lib.hid (w_brk HS5.out HW5.out x4 o eb heb.symm)
    rw [w_berr HW5.out (by omega) x4 o (by omega)] at heb
    have Heb := Lib.hid heb
    clear heb Her
    go_wp2_with fail
    refine (HB.out).mono ?_
    rintro e w6 ⟨fr6, s6, rfl, hs6, hw6, hk6⟩
    have HS6 := Lib.hid hs6
    have HW6 := Lib.hid hw6
    have Hk6 := Lib.hid (Hk5.out.trans hk6)
    clear hs6 hw6 hk6 HB HS5 HW5
    go_upto_block 1 with fail
    go_cut [22] (fun v22 wx => v22 = .int .i64 (eb : Int) ∧ wx = w6)
    case first =>
      have heb := Heb.out
      clear Heb
      by_cases e1 : x4 < 0
      · rw [if_pos (.inl e1)] at heb
        subst heb
        go_wp2_with fail
        go_meet
        case rel => exact ⟨rfl, rfl⟩
      · by_cases e2 : 4611686018427387903 < x4
        · rw [if_pos (.inr e2)] at heb
          subst heb
          go_wp2_with fail
          go_meet
          case rel => exact ⟨rfl, rfl⟩
        · rw [if_neg (fun h => h.elim e1 e2)] at heb
          by_cases e3 : 400 < o
          · rw [if_pos e3] at heb
            have t3 : (400 : Int) < (o : Int) := by omega
            clear e3
            subst heb
            go_wp2_with fail
            go_meet
            case rel => exact ⟨rfl, rfl⟩
          · rw [if_neg e3] at heb
            have t3 : ¬ (400 : Int) < (o : Int) := by omega
            clear e3
            by_cases e4 : o ≠ en
            · rw [if_pos e4] at heb
              have t4 : ((o : Int) != (en : Int)) = true := by simp; omega
              clear e4
              subst heb
              go_wp2_with fail
              go_meet
              case rel => exact ⟨rfl, rfl⟩
            · rw [if_neg e4] at heb
              have t4 : ((o : Int) != (en : Int)) = false := by simp; omega
              clear e4
              subst heb
              go_wp2_with fail
              go_meet
              case rel => exact ⟨rfl, rfl⟩
    case rest =>
      obtain ⟨rfl, rfl⟩ := hcut
      generalize wc = w6 at *
      obtain ⟨g1, g2, g3, g4⟩ := whole_take HW6.out (by omega)
      have HT := Lib.hid (h_take HS6.out 999 (by omega) (by omega) en g1.symm)
      have htk := HW6.out.taken
      rw [g2, g3] at HT
      rw [htk, Nat.sub_zero] at HT
      have Hcn := Lib.hid g4
      clear g1 g2 g3 g4 htk Heb
      go_wp2_with fail
      refine (HT.out).mono ?_
      rintro e w8 ⟨vr, rfl, hrv, hs8, hk8⟩
      obtain ⟨Ax, cx, rfl⟩ := hrv.form
      have Hx := Lib.hid hrv
      have HS8 := Lib.hid hs8
      have Hk8 := Lib.hid (Hk6.out.trans hk8)
      have Hall := Lib.hid (row_pre ((Hrow.out.kp (Hk3.out) (fun _ _ h => h)).kp Hk8.out (fun k hk e => e (Hown.out k (by cases Av with | none => cases hk | some a => exact hk)))) en hen3)
      have Hxl : Hid (en = (al.take en).length) := Lib.hid hpl3.symm
      obtain ⟨sB, hsB⟩ : ∃ sB : ByteArray, (⟨(al.take en).toArray⟩ : ByteArray) = sB := ⟨_, rfl⟩
      have HsB := Lib.hid hsB
      clear hrv hs8 hk8 hsB HT HS6 HW6 Hk6 hpl3
      go_upto_region 26 with (fail)
      refine wp_region_held_drew (S := (fun w' => Kp (fun _ => False) w8 w')) (by kernel_rfl) (Kp.drew (Kp.refl _ w8)) (fun hHeld => ?_)
      refine wpAnyH_take (i := 0) (oi := { dst := some 111, op := Op.move (.tmp 18), type := _, pos := _, after := _, guard := _ }) (v := ?_) rfl (by kernel_rfl) (by kernel_rfl) (by kernel_rfl) (fun _ _ _ h => h) (Or.inl ⟨by rfl, ?_⟩) hHeld ?_
      rotate_left
      · intro w99 hSw
        first | (go_simp; done) | (go_simp; with_reducible rfl)
      try simp only [Act.put, List.setIfInBounds_toArray, List.set_cons_zero, List.set_cons_succ]
      refine wpAnyH_take (i := 1) (oi := { dst := some 112, op := Op.move (.tmp 19), type := _, pos := _, after := _, guard := _ }) (v := ?_) rfl (by kernel_rfl) (by kernel_rfl) (by kernel_rfl) (fun _ _ _ h => h) (Or.inl ⟨by rfl, ?_⟩) hHeld ?_
      rotate_left
      · intro w99 hSw
        first | (go_simp; done) | (go_simp; with_reducible rfl)
      try simp only [Act.put, List.setIfInBounds_toArray, List.set_cons_zero, List.set_cons_succ]
      refine wpAnyH_take (i := 2) (oi := { dst := some 113, op := Op.binOp BinOp.eql 32 (.tmp 111) (.tmp 112) 32, type := _, pos := _, after := _, guard := _ }) (v := ?_) rfl (by kernel_rfl) (by kernel_rfl) (by kernel_rfl) (fun _ _ _ h => h) (Or.inl ⟨by rfl, ?_⟩) hHeld ?_
      rotate_left
      · intro w99 hSw
        first | (go_simp; done) | (go_simp; with_reducible rfl)
      try simp only [Act.put, List.setIfInBounds_toArray, List.set_cons_zero, List.set_cons_succ]
      refine wpAnyH_take (i := 3) (oi := { dst := some 114, op := Op.move (.tmp 113), type := _, pos := _, after := _, guard := _ }) (v := ?_) rfl (by kernel_rfl) (by kernel_rfl) (by kernel_rfl) (fun _ _ _ h => h) (Or.inl ⟨by rfl, ?_⟩) hHeld ?_
      rotate_left
      · intro w99 hSw
        first | (go_simp; done) | (go_simp; with_reducible rfl)
      try simp only [Act.put, List.setIfInBounds_toArray, List.set_cons_zero, List.set_cons_succ]
      refine wpAnyH_take (i := 4) (oi := { dst := some 115, op := Op.move (.tmp 21), type := _, pos := _, after := _, guard := _ }) (v := ?_) rfl (by kernel_rfl) (by kernel_rfl) (by kernel_rfl) (fun _ _ _ h => h) (Or.inl ⟨by rfl, ?_⟩) hHeld ?_
      rotate_left
      · intro w99 hSw
        first | (go_simp; done) | (go_simp; with_reducible rfl)
      try simp only [Act.put, List.setIfInBounds_toArray, List.set_cons_zero, List.set_cons_succ]
      refine wpAnyH_take (i := 5) (oi := { dst := some 116, op := Op.move (.tmp 22), type := _, pos := _, after := _, guard := _ }) (v := ?_) rfl (by kernel_rfl) (by kernel_rfl) (by kernel_rfl) (fun _ _ _ h => h) (Or.inl ⟨by rfl, ?_⟩) hHeld ?_
      rotate_left
      · intro w99 hSw
        first | (go_simp; done) | (go_simp; with_reducible rfl)
      try simp only [Act.put, List.setIfInBounds_toArray, List.set_cons_zero, List.set_cons_succ]
      refine wpAnyH_take (i := 6) (oi := { dst := some 117, op := Op.binOp BinOp.eql 32 (.tmp 115) (.tmp 116) 32, type := _, pos := _, after := _, guard := _ }) (v := ?_) rfl (by kernel_rfl) (by kernel_rfl) (by kernel_rfl) (fun _ _ _ h => h) (Or.inl ⟨by rfl, ?_⟩) hHeld ?_
      rotate_left
      · intro w99 hSw
        first | (go_simp; done) | (go_simp; with_reducible rfl)
      try simp only [Act.put, List.setIfInBounds_toArray, List.set_cons_zero, List.set_cons_succ]
      refine wpAnyH_take (i := 7) (oi := { dst := some 118, op := Op.pick (.tmp 114) (.tmp 117) (.const (Value.bool false)), type := _, pos := _, after := _, guard := _ }) (v := ?_) rfl (by kernel_rfl) (by kernel_rfl) (by kernel_rfl) (fun _ _ _ h => h) (Or.inl ⟨by rfl, ?_⟩) hHeld ?_
      rotate_left
      · intro w99 hSw
        first | (go_simp; done) | (go_simp; with_reducible rfl)
      try simp only [Act.put, List.setIfInBounds_toArray, List.set_cons_zero, List.set_cons_succ]
      refine wpAnyH_take (i := 8) (oi := { dst := some 119, op := Op.move (.tmp 118), type := _, pos := _, after := _, guard := _ }) (v := ?_) rfl (by kernel_rfl) (by kernel_rfl) (by kernel_rfl) (fun _ _ _ h => h) (Or.inl ⟨by rfl, ?_⟩) hHeld ?_
      rotate_left
      · intro w99 hSw
        first | (go_simp; done) | (go_simp; with_reducible rfl)
      try simp only [Act.put, List.setIfInBounds_toArray, List.set_cons_zero, List.set_cons_succ]
      refine wpAnyH_take (i := 9) (oi := { dst := some 120, op := Op.move (.tmp 23), type := _, pos := _, after := _, guard := _ }) (v := ?_) rfl (by kernel_rfl) (by kernel_rfl) (by kernel_rfl) (fun _ _ _ h => h) (Or.inl ⟨by rfl, ?_⟩) hHeld ?_
      rotate_left
      · intro w99 hSw
        first | (go_simp; done) | (go_simp; with_reducible rfl)
      try simp only [Act.put, List.setIfInBounds_toArray, List.set_cons_zero, List.set_cons_succ]
      refine wpAnyH_take (i := 10) (oi := { dst := some 121, op := Op.convert 22 9 (.tmp 120), type := _, pos := _, after := _, guard := _ }) (v := ?_) rfl (by kernel_rfl) (by kernel_rfl) (by kernel_rfl) (fun _ _ _ h => h) (Or.inl ⟨by rfl, ?_⟩) hHeld ?_
      rotate_left
      · intro w99 hSw
        have cv1 := conv_any Hxl.out (Hx.out.kp hSw (fun _ _ h => h)); rw [HsB.out] at cv1; first | (go_simp; done) | (go_simp; with_reducible rfl)
      try simp only [Act.put, List.setIfInBounds_toArray, List.set_cons_zero, List.set_cons_succ]
      refine wpAnyH_take (i := 11) (oi := { dst := some 122, op := Op.move (.tmp 13), type := _, pos := _, after := _, guard := _ }) (v := ?_) rfl (by kernel_rfl) (by kernel_rfl) (by kernel_rfl) (fun _ _ _ h => h) (Or.inl ⟨by rfl, ?_⟩) hHeld ?_
      rotate_left
      · intro w99 hSw
        first | (go_simp; done) | (go_simp; with_reducible rfl)
      try simp only [Act.put, List.setIfInBounds_toArray, List.set_cons_zero, List.set_cons_succ]
      refine wpAnyH_take (i := 12) (oi := { dst := some 123, op := Op.move (.tmp 1), type := _, pos := _, after := _, guard := _ }) (v := ?_) rfl (by kernel_rfl) (by kernel_rfl) (by kernel_rfl) (fun _ _ _ h => h) (Or.inl ⟨by rfl, ?_⟩) hHeld ?_
      rotate_left
      · intro w99 hSw
        first | (go_simp; done) | (go_simp; with_reducible rfl)
      try simp only [Act.put, List.setIfInBounds_toArray, List.set_cons_zero, List.set_cons_succ]
      refine wpAnyH_take (i := 13) (oi := { dst := some 124, op := Op.slice 22 (.tmp 122) none (some (.tmp 123)) none, type := _, pos := _, after := _, guard := _ }) (v := ?_) rfl (by kernel_rfl) (by kernel_rfl) (by kernel_rfl) (fun _ _ _ h => h) (Or.inl ⟨by rfl, ?_⟩) hHeld ?_
      rotate_left
      · intro w99 hSw
        first | (go_simp; done) | (go_simp; with_reducible rfl)
      try simp only [Act.put, List.setIfInBounds_toArray, List.set_cons_zero, List.set_cons_succ]
      refine wpAnyH_take (i := 14) (oi := { dst := some 125, op := Op.convert 22 9 (.tmp 124), type := _, pos := _, after := _, guard := _ }) (v := ?_) rfl (by kernel_rfl) (by kernel_rfl) (by kernel_rfl) (fun _ _ _ h => h) (Or.inl ⟨by rfl, ?_⟩) hHeld ?_
      rotate_left
      · intro w99 hSw
        have cv2 := conv_any Hxl.out (Hall.out.kp hSw (fun _ _ h => h)); rw [HsB.out] at cv2; first | (go_simp; done) | (go_simp; with_reducible rfl)
      try simp only [Act.put, List.setIfInBounds_toArray, List.set_cons_zero, List.set_cons_succ]
      refine wpAnyH_take (i := 15) (oi := { dst := some 126, op := Op.binOp BinOp.eql 9 (.tmp 121) (.tmp 125) 9, type := _, pos := _, after := _, guard := _ }) (v := ?_) rfl (by kernel_rfl) (by kernel_rfl) (by kernel_rfl) (fun _ _ _ h => h) (Or.inl ⟨by rfl, ?_⟩) hHeld ?_
      rotate_left
      · intro w99 hSw
        first | (go_simp; done) | (go_simp; with_reducible rfl)
      try simp only [Act.put, List.setIfInBounds_toArray, List.set_cons_zero, List.set_cons_succ]
      refine wpAnyH_take (i := 16) (oi := { dst := some 127, op := Op.pick (.tmp 119) (.tmp 126) (.const (Value.bool false)), type := _, pos := _, after := _, guard := _ }) (v := ?_) rfl (by kernel_rfl) (by kernel_rfl) (by kernel_rfl) (fun _ _ _ h => h) (Or.inl ⟨by rfl, ?_⟩) hHeld ?_
      rotate_left
      · intro w99 hSw
        first | (go_simp; done) | (go_simp; with_reducible rfl)
      try simp only [Act.put, List.setIfInBounds_toArray, List.set_cons_zero, List.set_cons_succ]
      refine wpAnyH_take (i := 17) (oi := { dst := some 128, op := Op.move (.tmp 127), type := _, pos := _, after := _, guard := _ }) (v := ?_) rfl (by kernel_rfl) (by kernel_rfl) (by kernel_rfl) (fun _ _ _ h => h) (Or.inl ⟨by rfl, ?_⟩) hHeld ?_
      rotate_left
      · intro w99 hSw
        first | (go_simp; done) | (go_simp; with_reducible rfl)
      try simp only [Act.put, List.setIfInBounds_toArray, List.set_cons_zero, List.set_cons_succ]
      refine wpAnyH_take (i := 18) (oi := { dst := some 129, op := Op.move (.tmp 24), type := _, pos := _, after := _, guard := _ }) (v := ?_) rfl (by kernel_rfl) (by kernel_rfl) (by kernel_rfl) (fun _ _ _ h => h) (Or.inl ⟨by rfl, ?_⟩) hHeld ?_
      rotate_left
      · intro w99 hSw
        first | (go_simp; done) | (go_simp; with_reducible rfl)
      try simp only [Act.put, List.setIfInBounds_toArray, List.set_cons_zero, List.set_cons_succ]
      refine wpAnyH_take (i := 19) (oi := { dst := some 130, op := Op.binOp BinOp.eql 3 (.tmp 129) (.const (.int .i64 1)) 3, type := _, pos := _, after := _, guard := _ }) (v := ?_) rfl (by kernel_rfl) (by kernel_rfl) (by kernel_rfl) (fun _ _ _ h => h) (Or.inl ⟨by rfl, ?_⟩) hHeld ?_
      rotate_left
      · intro w99 hSw
        first | (go_simp; done) | (go_simp; with_reducible rfl)
      try simp only [Act.put, List.setIfInBounds_toArray, List.set_cons_zero, List.set_cons_succ]
      refine wpAnyH_take (i := 20) (oi := { dst := some 131, op := Op.pick (.tmp 128) (.tmp 130) (.const (Value.bool false)), type := _, pos := _, after := _, guard := _ }) (v := ?_) rfl (by kernel_rfl) (by kernel_rfl) (by kernel_rfl) (fun _ _ _ h => h) (Or.inl ⟨by rfl, ?_⟩) hHeld ?_
      rotate_left
      · intro w99 hSw
        first | (go_simp; done) | (go_simp; with_reducible rfl)
      try simp only [Act.put, List.setIfInBounds_toArray, List.set_cons_zero, List.set_cons_succ]
      refine wpAnyH_take (i := 21) (oi := { dst := some 132, op := Op.move (.tmp 131), type := _, pos := _, after := _, guard := _ }) (v := ?_) rfl (by kernel_rfl) (by kernel_rfl) (by kernel_rfl) (fun _ _ _ h => h) (Or.inl ⟨by rfl, ?_⟩) hHeld ?_
      rotate_left
      · intro w99 hSw
        first | (go_simp; done) | (go_simp; with_reducible rfl)
      try simp only [Act.put, List.setIfInBounds_toArray, List.set_cons_zero, List.set_cons_succ]
      refine wpAnyH_take (i := 22) (oi := { dst := some 133, op := Op.move (.tmp 14), type := _, pos := _, after := _, guard := _ }) (v := ?_) rfl (by kernel_rfl) (by kernel_rfl) (by kernel_rfl) (fun _ _ _ h => h) (Or.inl ⟨by rfl, ?_⟩) hHeld ?_
      rotate_left
      · intro w99 hSw
        first | (go_simp; done) | (go_simp; with_reducible rfl)
      try simp only [Act.put, List.setIfInBounds_toArray, List.set_cons_zero, List.set_cons_succ]
      refine wpAnyH_take (i := 23) (oi := { dst := some 134, op := Op.nilCheck (.tmp 133), type := _, pos := _, after := _, guard := _ }) (v := ?_) rfl (by kernel_rfl) (by kernel_rfl) (by kernel_rfl) (fun _ _ _ h => h) (Or.inl ⟨by rfl, ?_⟩) hHeld ?_
      rotate_left
      · intro w99 hSw
        first | (go_simp; done) | (go_simp; with_reducible rfl)
      try simp only [Act.put, List.setIfInBounds_toArray, List.set_cons_zero, List.set_cons_succ]
      refine wpAnyH_take (i := 24) (oi := { dst := some 135, op := Op.fieldAddr 45 (.tmp 134) 0, type := _, pos := _, after := _, guard := _ }) (v := ?_) rfl (by kernel_rfl) (by kernel_rfl) (by kernel_rfl) (fun _ _ _ h => h) (Or.inl ⟨by rfl, ?_⟩) hHeld ?_
      rotate_left
      · intro w99 hSw
        first | (go_simp; done) | (go_simp; with_reducible rfl)
      try simp only [Act.put, List.setIfInBounds_toArray, List.set_cons_zero, List.set_cons_succ]
      refine wpAnyH_take (i := 26) (oi := { dst := some 137, op := Op.move (.tmp 1), type := _, pos := _, after := _, guard := _ }) (v := ?_) rfl (by kernel_rfl) (by kernel_rfl) (by kernel_rfl) (fun _ _ _ h => h) (Or.inl ⟨by rfl, ?_⟩) hHeld ?_
      rotate_left
      · intro w99 hSw
        first | (go_simp; done) | (go_simp; with_reducible rfl)
      try simp only [Act.put, List.setIfInBounds_toArray, List.set_cons_zero, List.set_cons_succ]
      refine wpAnyH_ready (rs := [25]) (by kernel_rfl) (by simp) (AllReadyH.cons (o := { dst := some 136, op := Op.call { callee := Callee.value (Operand.func 20), args := #[(.tmp 135)], argTypes := #[41] }, type := _, pos := _, after := _, guard := _ }) rfl (fun K hK => ?_) AllReadyH.nil)
      go_simp
      with_reducible refine (h_count (HS8.out.no hHeld) (en : Int) Hcn.out).mono ?_
      rintro e w' ⟨rfl, hkh⟩
      go_wp2_with fail
      have hx9 := Kp.trans hHeld hkh
      refine hK.out _ _ hx9 (fun _ => ?_)
      clear hK hHeld
      have hHeld := hx9
      clear hx9
      clear hkh
      generalize w' = wd25 at *
      try simp only [Act.put, List.setIfInBounds_toArray, List.set_cons_zero, List.set_cons_succ]
      refine wpAnyH_take (i := 27) (oi := { dst := some 138, op := Op.binOp BinOp.eql 3 (.tmp 136) (.tmp 137) 3, type := _, pos := _, after := _, guard := _ }) (v := ?_) rfl (by kernel_rfl) (by kernel_rfl) (by kernel_rfl) (fun _ _ _ h => h) (Or.inl ⟨by rfl, ?_⟩) hHeld ?_
      rotate_left
      · intro w99 hSw
        first | (go_simp; done) | (go_simp; with_reducible rfl)
      try simp only [Act.put, List.setIfInBounds_toArray, List.set_cons_zero, List.set_cons_succ]
      refine wpAnyH_take (i := 28) (oi := { dst := some 139, op := Op.pick (.tmp 132) (.tmp 138) (.const (Value.bool false)), type := _, pos := _, after := _, guard := _ }) (v := ?_) rfl (by kernel_rfl) (by kernel_rfl) (by kernel_rfl) (fun _ _ _ h => h) (Or.inl ⟨by rfl, ?_⟩) hHeld ?_
      rotate_left
      · intro w99 hSw
        first | (go_simp; done) | (go_simp; with_reducible rfl)
      try simp only [Act.put, List.setIfInBounds_toArray, List.set_cons_zero, List.set_cons_succ]
      refine wpAnyH_take (i := 29) (oi := { dst := some 12, op := Op.assign (.tmp 139), type := _, pos := _, after := _, guard := _ }) (v := ?_) rfl (by kernel_rfl) (by kernel_rfl) (by kernel_rfl) (fun _ _ _ h => h) (Or.inl ⟨by rfl, ?_⟩) hHeld ?_
      rotate_left
      · intro w99 hSw
        first | (go_simp; done) | (go_simp; with_reducible rfl)
      try simp only [Act.put, List.setIfInBounds_toArray, List.set_cons_zero, List.set_cons_succ]
      refine wpAnyH_done (by kernel_rfl) ?_ _
      have Hkf := Lib.hid (Hk8.out.trans (hHeld.no (S := fun k => ¬ k < w1.heap.size)))
      have Hkw := Lib.hid ((Hk1.out.trans Hk3.out).no (S := fun k => W.heap.size ≤ k))
      have hw1 := Hk1.out.size
      clear hHeld
      go_wp2_with fail
      go_ret
      refine ⟨rfl, ?_⟩
      exact (Kp.trans Hkw.out (Hkf.out.mono (S' := fun k => W.heap.size ≤ k) (fun k _ e => by omega))).below (Nat.le_refl _) (fun k h => h)
end Go.Proofs.Ytbkpapdbidbhaaa

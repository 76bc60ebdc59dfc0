/-
  The walk of 'QueueRoom'.
-/
import Derived.Test.YtelhnhnbfjamhaaQueueKn
import Derived.Test.YtelhnhnbfjamhaaArgs
namespace Go.Proofs.Ytelhnhnbfjamhaa
open Go.RowKit

theorem rawQ_rd {W : World} {v : Value} (h : SlArg 61 W v) : RdSl W 56 [RdI, RdSl W 8 [RdI], RdSl W 1 [RdU8]] v := by
  have hB : Try.prog.bytesOf 66 = 56 := by kernel_rfl
  have h8 : Try.prog.bytesOf 3 = 8 := by kernel_rfl
  have h1 : Try.prog.bytesOf 5 = 1 := by kernel_rfl
  rw [← hB, ← h8, ← h1]
  refine h.rd Try.underlying61 fun H enc => fieldSlS Try.underlying61 Try.underlying66 (by kernel_rfl) (by kernel_rfl) (by decide) rfl ?_
  intro j f q hf hq
  match j with
  | 0 => simp at hf hq; subst hf hq; exact fieldI Try.underlying3
  | 1 => simp at hf hq; subst hf hq; exact fieldSl1 Try.underlying58 (by kernel_rfl) (fieldI Try.underlying3)
  | 2 => simp at hf hq; subst hf hq; exact fieldSl1 Try.underlying53 (by kernel_rfl) (fieldU8 Try.underlying5)
  | j + 3 => simp at hf

theorem pick_int (n m : Int) (w : World) (hm : 1 ≤ m) (hm2 : m ≤ 1152921504606846976) :
    Calls Try.prog 13 #[.int .i64 n, .int .i64 m] w fun e w' => ∃ i : Int, 0 ≤ i ∧ i < m ∧ e = .returned (.int .i64 i) ∧ w = w' := by
  refine (pick_any n m w hm hm2).mono ?_
  rintro e w' ⟨rfl, rfl⟩
  exact ⟨pickF n m, pickF_lo n m hm, pickF_hi n m hm, rfl, rfl⟩

/-- Items of one byte. -/
def Ones (ys : List Zt) : Prop := ∀ y ∈ ys, y.2.2 = [1]
theorem ones_ok {ys : List Zt} (h : Ones ys) : ∀ y ∈ its ys, okI y = true := fun y hy => by
  obtain ⟨z, hz, rfl⟩ := List.mem_map.1 hy
  simp [okI, h z hz]

set_option maxHeartbeats 2000000 in
set_option maxRecDepth 100000 in
theorem QueueRoom_any (v : Value) (W : World) (hv : SlArg 61 W v) :
    Calls Try.prog 10 #[v] W fun e w' => e = .returned (.bool true) ∧ Below W.heap.size W w' := by
  obtain ⟨A, len, cap, rfl, hlc, hcm, hreach, hcells⟩ := rawQ_rd hv
  unfold maxLen at hcm
  unfold reachBytes at hreach
  have Hc := Lib.hid hcells
  clear hcells hv
  have H0 := Lib.hid (q_new W)
  go_enter Try.func10, Try.ntmps10
  go_wp2_with fail
  obtain ⟨q, hq⟩ : ∃ q, q = W.heap.size := ⟨_, rfl⟩
  rw [← hq]
  rw [← hq] at H0
  clear hq
  generalize W.alloc (.cells #[.slice none 0 0] 51) = wz at H0 ⊢
  go_loopw [4, 15] (fun vc vi wr => ∃ (k : Nat) (l : List It), k ≤ len ∧ vi = .int .i64 k ∧ vc = .int .i64 l.length ∧ QOff W wr q l (fun _ => False))
    (fun _ vi _ => len - (intOf vi).toNat)
  case atStart => exact ⟨0, [], Nat.zero_le _, rfl, rfl, H0.out⟩
  case round =>
    obtain ⟨k, l, hk, rfl, rfl, ho⟩ := hrel
    have Ho := Lib.hid ho
    by_cases hlt : k < len
    · rcases Hc.out with h0 | ⟨b, off, rfl, hbl, hcell⟩
      · omega
      · obtain ⟨u0, hu0, y0, rfl, l0, g0⟩ := hcell k hlt 0 RdI rfl
        obtain ⟨u1, hu1, A4, len4, cap4, rfl, hlc4, hcm4, hl4, _⟩ := hcell k hlt 1 _ rfl
        obtain ⟨u2, hu2, A5, len5, cap5, rfl, _, _, _, _⟩ := hcell k hlt 2 _ rfl
        clear hcell
        have hb := ho.below
        rw [← hb.cell (p := ⟨b, _, none⟩) hbl] at hu0 hu1 hu2
        simp only [List.length_cons, List.length_nil, Nat.zero_add, Nat.add_zero, Nat.reduceAdd] at hu0 hu1 hu2
        unfold maxLen at hcm4
        have hf := ho.few
        clear hb ho
        go_upto_if 22 with (with_reducible refine (pick_int _ _ _ (by omega) (by omega)).mono ?_; rintro e w' ⟨wh, whl, whh, rfl, rfl⟩)
        have ex : Whole (wr.alloc (.cells #[.int .i64 y0, .slice A4 len4 cap4, .slice A5 len5 cap5] 66)) wr.heap.size 66 #[.int .i64 y0, .slice A4 len4 cap4, .slice A5 len5 cap5] := whole_at _ _ rfl rfl
        have et := Ho.out.alloc (.cells #[.int .i64 y0, .slice A4 len4 cap4, .slice A5 len5 cap5] 66)
        generalize wr.alloc (.cells #[.int .i64 y0, .slice A4 len4 cap4, .slice A5 len5 cap5] 66) = wx at ex et ⊢
        generalize wr.heap.size = gx at ex et ⊢
        clear hu0 hu1 hu2
        have x1 := ex.cell 1
        have hxl := ex.lt
        simp at x1
        have Et := Lib.hid et
        go_cut [4] (fun s4 wx => ∃ l', s4 = .int .i64 (l'.length : Nat) ∧ QOff W wx q l' (fun _ => False))
        case first =>
          by_cases hw : wh = 0
          · have hwb : (wh == 0) = true := by simp [hw]
            clear hw et
            cases l with
            | nil =>
              go_wp2_with fail
              with_reducible refine (qo_pop_none Et.out).mono ?_
              rintro e w1 ⟨rfl, h1, _⟩
              have H1 := Lib.hid h1
              clear h1
              go_wp2_with fail
              go_meet
              exact ⟨[], rfl, H1.out.alloc _⟩
            | cons x l =>
              have hpos : 0 < (x :: l).length := by simp
              have hlen : (x :: l).length = l.length + 1 := rfl
              have hP := qo_pop Et.out
              have HP := Lib.hid hP
              rw [hlen] at hpos hf ⊢
              clear hP hlen
              go_wp2_with fail
              with_reducible refine (HP.out).mono ?_
              rintro e w1 ⟨v', rfl, hn, h1, _⟩
              obtain ⟨A', c', rfl⟩ := hn.form
              have H1 := Lib.hid h1
              clear h1 hn
              go_wp2_with fail
              go_meet
              exact ⟨l, by go_num, H1.out.alloc _⟩
          · have hwb : (wh == 0) = false := by simp [hw]
            rw [hwb]
            clear hw hwb
            obtain ⟨i0, hii, hz0, hz1, hz2⟩ := info_parts infoI
            have Hi := Lib.hid hii
            have Hz0 := Lib.hid hz0
            have Hz1 := Lib.hid hz1
            have Hz2 := Lib.hid hz2
            clear hii hz0 hz1 hz2 et
            go_wp2_with fail
            go_loopw [9, 10] (fun vl vi wr => ∃ (j : Nat) (ys : List Zt), j ≤ len4 ∧ j ≤ 12 ∧ vi = .int .i64 j ∧ Hid (ys.length = j) ∧ Hid (Ones ys) ∧ LRow wr wx.heap.size vl ys ∧ Kp (fun _ => False) wx wr)
              (fun _ vi _ => 12 - (intOf vi).toNat)
            case atStart => exact ⟨0, [], by omega, by omega, rfl, Lib.hid rfl, Lib.hid (fun y hy => by cases hy), LRow.nil _ _, Kp.refl _ _⟩
            case round =>
              obtain ⟨j, ys, hj4, hj12, rfl, Hyl, Hones, hlr, hkp⟩ := hrel
              have et := Et.out
              rw [← hkp.cell (p := ⟨gx, _, none⟩) hxl (fun h => h)] at x1
              by_cases h4 : j < len4
              · by_cases h12 : j < 12
                · have hr := hlr.1
                  rw [Hyl.out] at hr
                  have hkb : Kp (fun _ => False) wr ((wr.alloc (.cells #[.int .u8 1] 5)).alloc (.cells #[.int .i64 j, .slice (some ⟨wr.heap.size, 0, none⟩) 1 1] 55)) := ((Kp.refl _ wr).alloc _).alloc _
                  have hb1 : Whole ((wr.alloc (.cells #[.int .u8 1] 5)).alloc (.cells #[.int .i64 j, .slice (some ⟨wr.heap.size, 0, none⟩) 1 1] 55)) wr.heap.size 5 #[.int .u8 ((1 : UInt8).toNat : Int)] := (whole_at _ _ rfl rfl).alloc _
                  have hb2 : Whole ((wr.alloc (.cells #[.int .u8 1] 5)).alloc (.cells #[.int .i64 j, .slice (some ⟨wr.heap.size, 0, none⟩) 1 1] 55)) (wr.heap.size + 1) 55 #[.int .i64 (((j : Int), (.slice (some ⟨wr.heap.size, 0, none⟩) 1 1 : Value), ([1] : List UInt8)) : Zt).1, (((j : Int), (.slice (some ⟨wr.heap.size, 0, none⟩) 1 1 : Value), ([1] : List UInt8)) : Zt).2.1] := whole_at _ _ rfl (by simp)
                  have HO := Lib.hid (hr.kp hkb (fun _ _ h => h))
                  have HX := Lib.hid (src_z _ rfl hb2)
                  have HB := Lib.hid (newb_one (B := wr.heap.size) 1 hb1 (Nat.le_refl _))
                  have Hkb := Lib.hid hkb
                  have Hlr := Lib.hid hlr
                  have Hkp := Lib.hid hkp
                  clear hlr hkp et hr hkb hb1 hb2
                  go_wp2_with (at_builtin; refine wpList_row rfl (.tmp 45) (.tmp 49) 49 rfl wx.heap.size 55 i0 _ 2 32 Try.underlying49 Hi.out Hz0.out Hz1.out Hz2.out rfl (by decide) _ j _ rfl HO.out _ 1 _ rfl HX.out (by unfold maxLen; omega) (by omega) (by have := Hkp.out.size; simp only [World.size_alloc]; omega) ?_; intro v' w1 hr1 hg1 hn1; have hla := lrow_app (z := ((j : Int), (.slice (some ⟨wr.heap.size, 0, none⟩) 1 1 : Value), ([1] : List UInt8))) Hlr.out Hkp.out.size Hkb.out HB.out (by rw [Hyl.out]; exact hr1) hg1 hn1; have hkp1 := (Hkp.out.trans Hkb.out).grown hg1 (fun i hi hlt => absurd (Hlr.out.1.lt i hi).1 (by omega)); have Hla := Lib.hid hla; have Hkp1 := Lib.hid hkp1; clear hr1 hg1 hn1 hla hkp1)
                  go_roundw
                  case rel => exact ⟨j + 1, ys ++ [((j : Int), (.slice (some ⟨wr.heap.size, 0, none⟩) 1 1 : Value), ([1] : List UInt8))], by omega, by omega, by go_num, Lib.hid (by rw [List.length_append, Hyl.out]; rfl), Lib.hid (fun y hy => by
                    rcases List.mem_append.1 hy with hy | hy
                    · exact Hones.out y hy
                    · simp only [List.mem_singleton] at hy; subst hy; rfl), Hla.out, Hkp1.out⟩
                  case measure => simp [intOf]; omega
                · obtain ⟨A6, c6, rfl⟩ := hlr.1.form
                  have hys2 : ys.length = j := Hyl.out
                  rw [hys2]
                  have h1 := et.free hkp
                  have hP := qo_put h1 (.slice A6 ys.length c6) ys (hlr.1.src hlr.one) (fun y hy => ⟨(hlr.2 y hy).1.1, by rw [Hones.out y hy]; simp⟩) (fun k hk => .inl (hlr.1.lt k hk)) (fun y hy k hk => .inl ((hlr.2 y hy).1.2.1 k hk)) (by omega)
                  rw [accept_all _ _ (ones_ok Hones.out), List.length_take, show (its ys).length = j by rw [its, List.length_map]; exact hys2, hys2] at hP
                  have HP := Lib.hid hP
                  have Htl : Hid ((l ++ (its ys).take (32 - l.length)).length = l.length + min (32 - l.length) j) := Lib.hid (by rw [List.length_append, List.length_take, show (its ys).length = j by rw [its, List.length_map]; exact hys2])
                  clear h1 hP hys2 hlr hkp
                  by_cases hmin : j ≤ 32 - l.length
                  · rw [Nat.min_eq_right hmin] at HP Htl
                    have hmin1 : (j : Int) ≤ 32 - l.length := by omega
                    go_wp2_with fail
                    with_reducible refine (HP.out).mono ?_
                    rintro e w1 ⟨rfl, h1, _⟩
                    have H1 := Lib.hid (h1.sub (L' := fun _ => False) (fun _ h => h.elim))
                    clear h1
                    go_wp2_with fail
                    go_meet
                    exact ⟨_, by rw [Htl.out]; go_num, H1.out⟩
                  · have hmin1 : ¬ (j : Int) ≤ 32 - l.length := by omega
                    rw [Nat.min_eq_left (by omega)] at HP Htl
                    go_wp2_with fail
                    with_reducible refine (HP.out).mono ?_
                    rintro e w1 ⟨rfl, h1, _⟩
                    have H1 := Lib.hid (h1.sub (L' := fun _ => False) (fun _ h => h.elim))
                    clear h1
                    go_wp2_with fail
                    go_meet
                    exact ⟨_, by rw [Htl.out]; congr 1, H1.out⟩
              · obtain ⟨A6, c6, rfl⟩ := hlr.1.form
                have hys2 : ys.length = j := Hyl.out
                rw [hys2]
                have h1 := et.free hkp
                have hP := qo_put h1 (.slice A6 ys.length c6) ys (hlr.1.src hlr.one) (fun y hy => ⟨(hlr.2 y hy).1.1, by rw [Hones.out y hy]; simp⟩) (fun k hk => .inl (hlr.1.lt k hk)) (fun y hy k hk => .inl ((hlr.2 y hy).1.2.1 k hk)) (by omega)
                rw [accept_all _ _ (ones_ok Hones.out), List.length_take, show (its ys).length = j by rw [its, List.length_map]; exact hys2, hys2] at hP
                have HP := Lib.hid hP
                have Htl : Hid ((l ++ (its ys).take (32 - l.length)).length = l.length + min (32 - l.length) j) := Lib.hid (by rw [List.length_append, List.length_take, show (its ys).length = j by rw [its, List.length_map]; exact hys2])
                clear h1 hP hys2 hlr hkp
                by_cases hmin : j ≤ 32 - l.length
                · rw [Nat.min_eq_right hmin] at HP Htl
                  have hmin1 : (j : Int) ≤ 32 - l.length := by omega
                  go_wp2_with fail
                  with_reducible refine (HP.out).mono ?_
                  rintro e w1 ⟨rfl, h1, _⟩
                  have H1 := Lib.hid (h1.sub (L' := fun _ => False) (fun _ h => h.elim))
                  clear h1
                  go_wp2_with fail
                  go_meet
                  exact ⟨_, by rw [Htl.out]; go_num, H1.out⟩
                · have hmin1 : ¬ (j : Int) ≤ 32 - l.length := by omega
                  rw [Nat.min_eq_left (by omega)] at HP Htl
                  go_wp2_with fail
                  with_reducible refine (HP.out).mono ?_
                  rintro e w1 ⟨rfl, h1, _⟩
                  have H1 := Lib.hid (h1.sub (L' := fun _ => False) (fun _ h => h.elim))
                  clear h1
                  go_wp2_with fail
                  go_meet
                  exact ⟨_, by rw [Htl.out]; congr 1, H1.out⟩
        case rest =>
          obtain ⟨l', rfl, ho'⟩ := hcut
          have hf' := ho'.few
          have Ho' := Lib.hid ho'
          clear ho' hf x1 hxl ex et
          go_wp2_with fail
          with_reducible refine (qo_len Ho'.out).mono ?_
          rintro e w1 ⟨rfl, rfl⟩
          go_wp2_with fail
          go_roundw
          case rel => exact ⟨k + 1, l', by omega, by go_num, rfl, Ho'.out⟩
          case measure => simp [intOf]; omega
    · go_wp2_with (go_at_call 31; refine (known_q _).mono ?_; rintro e w1 ⟨rfl, hb1⟩; have Hb1 := Lib.hid hb1; clear hb1)
      go_ret
      exact ⟨rfl, (Ho.out.of_below Hb1.out).below⟩
end Go.Proofs.Ytelhnhnbfjamhaa

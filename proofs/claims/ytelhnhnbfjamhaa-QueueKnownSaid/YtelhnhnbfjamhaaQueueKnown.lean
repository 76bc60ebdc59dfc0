/-
  The walk of 'QueueKnown'.
-/
import Derived.Test.YtelhnhnbfjamhaaQueueOff2
import Derived.Deep.RegionWith
namespace Go.Proofs.Ytelhnhnbfjamhaa
open Go.RowKit

def zB (n : Nat) : Array Value := Builtin.zeroCells #[.int .u8 0] n
theorem zB_list (n : Nat) : (zB n).toList = encB (List.replicate n 0) := by
  apply List.ext_getElem?
  intro i
  rw [Array.getElem?_toList]
  simp only [zB, Builtin.zeroCells, encB, List.map_replicate, List.getElem?_replicate]
  by_cases h : i < n <;> simp [h, Nat.mod_one]

theorem newb_zero {w : World} {b B n : Nat} (h : Whole w b 5 (zB n)) (hB : B ≤ b) : NewB w B (.slice (some ⟨b, 0, none⟩) n n) (List.replicate n 0) := by
  refine ⟨⟨by rw [encB_len, Nat.mul_one], encB_one _, .inr ⟨⟨b, 0, none⟩, n, by rw [List.length_replicate], fun j u hj => ?_⟩⟩, fun k hk => ?_, rfl⟩
  · rw [Addr.add_lit, Nat.zero_add, h.cell, ← hj, ← zB_list, Array.getElem?_toList]
  · have : b = k := Option.some.inj hk
    subst this
    exact ⟨hB, h.lt⟩

/-- The law's first Put: of three items the last one fits. -/
theorem kn_put3 {W w : World} {q b1 b2 b3 : Nat} (h : QOff W w q [] (fun _ => False)) {w' : World} (hk : Kp (fun _ => False) w w') (n1 : w.heap.size ≤ b1) (n2 : w.heap.size ≤ b2) (n3 : w.heap.size ≤ b3)
    (h1 : Whole w' b1 5 (zB 117)) (h2 : Whole w' b2 5 (zB 116)) (h3 : Whole w' b3 55 #[.int .i64 0, .slice none 0 0, .int .i64 1, .slice (some ⟨b1, 0, none⟩) 117 117, .int .i64 2, .slice (some ⟨b2, 0, none⟩) 116 116]) :
    Calls Try.prog 26 #[.pointer (some ⟨q, 0, none⟩), .slice (some ⟨b3, 0, none⟩) 3 3] w' fun e w'' => e = .returned (.int .i64 1) ∧ QOff W w'' q [(2, List.replicate 116 0)] (fun _ => False) := by
  have hq := h.free hk
  have d1 := newb_zero h1 n1
  have d2 := newb_zero h2 n2
  refine (qo_put hq _ [(0, .slice none 0 0, []), (1, .slice (some ⟨b1, 0, none⟩) 117 117, List.replicate 117 0), (2, .slice (some ⟨b2, 0, none⟩) 116 116, List.replicate 116 0)] (src_row _ h3 rfl ?_) ?_ ?_ ?_ (by simp)).mono ?_
  · intro u hu
    simp [encs, encZ] at hu
    rcases hu with rfl | rfl | rfl | rfl | rfl | rfl <;> rfl
  · intro y hy
    simp only [List.mem_cons, List.not_mem_nil, or_false] at hy
    rcases hy with rfl | rfl | rfl
    · exact ⟨Bs.nil _, by simp⟩
    · exact ⟨d1.1, by simp⟩
    · exact ⟨d2.1, by simp⟩
  · intro k hk'
    have : b3 = k := Option.some.inj hk'
    subst this
    exact .inl ⟨n3, h3.lt⟩
  · intro y hy k hk'
    simp only [List.mem_cons, List.not_mem_nil, or_false] at hy
    rcases hy with rfl | rfl | rfl
    · cases hk'
    · exact .inl (d1.2.1 k hk')
    · exact .inl (d2.2.1 k hk')
  · rintro e w'' ⟨rfl, hq', _⟩
    have e : accept ([] : List It).length (its [(0, (.slice none 0 0 : Value), ([] : List UInt8)), (1, .slice (some ⟨b1, 0, none⟩) 117 117, List.replicate 117 0), (2, .slice (some ⟨b2, 0, none⟩) 116 116, List.replicate 116 0)]) = [(2, List.replicate 116 0)] := by
      kernel_rfl
    rw [e] at hq' ⊢
    exact ⟨rfl, hq'.sub (fun _ h => h.elim)⟩

/-- The items that the law puts next. -/
def kItems (j : Nat) : List It := (List.range j).map fun i => ((2 + (i % 3 : Nat) : Int), [UInt8.ofNat i])

def L1 : List It := [(2, List.replicate 116 0)]
def L32 : List It := L1 ++ (kItems 40).take 31
def L10 : List It := keepI [2, 3, 9] L32
def L9 : List It := L10.tail
theorem L10_cons : L10 = (4, [2]) :: L9 := by kernel_rfl

theorem kn_put40 {W w wr : World} {q : Nat} {A : Option Addr} {c : Nat} {ys : List Zt} (h : QOff W w q L1 (fun _ => False)) (hk : Kp (fun _ => False) w wr) (hl : LRow wr w.heap.size (.slice A ys.length c) ys) (hi : its ys = kItems 40) :
    Calls Try.prog 26 #[.pointer (some ⟨q, 0, none⟩), .slice A ys.length c] wr fun e w' => e = .returned (.int .i64 31) ∧ QOff W w' q L32 (fun k => w.heap.size ≤ k ∧ k < wr.heap.size) ∧ KeptL (fun k => w.heap.size ≤ k ∧ k < wr.heap.size) wr w' := by
  have hyl : ys.length = 40 := by
    have := congrArg List.length hi
    simpa [its, kItems] using this
  have hd : ∀ y ∈ ys, y.2.2.length = 1 := fun y hy => by
    have : (y.1, y.2.2) ∈ its ys := List.mem_map.2 ⟨y, hy, rfl⟩
    rw [hi] at this
    obtain ⟨i, _, e⟩ := List.mem_map.1 this
    have := congrArg (fun x : It => x.2.length) e
    simpa using this.symm
  refine (qo_put (h.free hk) _ ys (hl.1.src hl.one) (fun y hy => ⟨(hl.2 y hy).1.1, by rw [hd y hy]; simp⟩) (fun k hk => .inl (hl.1.lt k hk)) (fun y hy k hk => .inl ((hl.2 y hy).1.2.1 k hk)) (by omega)).mono ?_
  rintro e w' ⟨rfl, hq, hk'⟩
  have ea : accept L1.length (its ys) = (kItems 40).take 31 := by
    rw [hi, accept_all _ _ (fun y hy => by obtain ⟨i, _, rfl⟩ := List.mem_map.1 hy; rfl)]
    rfl
  rw [ea] at hq ⊢
  exact ⟨by rw [show ((kItems 40).take 31).length = 31 by kernel_rfl]; rfl, hq, hk'⟩

theorem kn_more {W w : World} {q : Nat} {L : Nat → Prop} (h : QOff W w q L32 L) (y : Zt) (hb : Bs w y.2.1 y.2.2) (hy : y.2.2.length ≤ 116) (h1 : y.2.1.oneCell' = true) (hL : ∀ k, y.2.1.ownBlock = some k → L k) :
    Calls Try.prog 26 #[.pointer (some ⟨q, 0, none⟩), .slice (some ⟨w.heap.size, 0, none⟩) 1 1] (w.alloc (.cells #[.int .i64 y.1, y.2.1] 55)) fun e w' => e = .returned (.int .i64 0) ∧ QOff W w' q L32 (fun _ => False) := by
  have hk : Kp (fun _ => False) w (w.alloc (.cells #[.int .i64 y.1, y.2.1] 55)) := (Kp.refl _ w).alloc _
  have h2 : QOff W (w.alloc (.cells #[.int .i64 y.1, y.2.1] 55)) q L32 (fun k => L k ∨ k = w.heap.size) := h.move hk.no (fun k hk' => by
    rcases hk' with hk' | rfl
    · exact ⟨.inl hk', by have := (h.llt k hk').2; simp only [World.size_alloc]; omega⟩
    · exact ⟨.inr (Nat.le_refl _), by simp⟩)
  refine (qo_put h2 _ [y] (src_z y h1 (Whole.new _ _ _)) (fun x hx => ?_) (fun k hk' => .inl (.inr (by have := Option.some.inj hk'; exact this.symm))) (fun x hx k hk' => ?_) (by simp)).mono ?_
  · simp only [List.mem_singleton] at hx
    subst hx
    exact ⟨hb.kp hk (fun _ _ h => h), by omega⟩
  · simp only [List.mem_singleton] at hx
    subst hx
    exact .inl (.inl (hL k hk'))
  · rintro e w' ⟨rfl, hq, _⟩
    have ea : accept L32.length (its [y]) = [] := by
      have e32 : L32.length = 32 := by kernel_rfl
      rw [e32]
      simp only [its, List.map_cons, List.map_nil, accept]
      rw [show Nat.blt 32 32 = false from rfl, Bool.and_false]
      rfl
    rw [ea, List.append_nil] at hq
    rw [ea]
    exact ⟨rfl, hq.sub (fun _ h => h.elim)⟩

theorem kn_drop3 {W w : World} {q : Nat} (h : QOff W w q L32 (fun _ => False)) :
    Calls Try.prog 28 #[.pointer (some ⟨q, 0, none⟩), .slice (some ⟨w.heap.size, 0, none⟩) 3 3] (w.alloc (.cells #[.int .i64 2, .int .i64 3, .int .i64 9] 3)) fun e w' => e = .returned (.int .i64 22) ∧ QOff W w' q L10 (fun _ => False) := by
  have h1 := h.free ((Kp.refl (fun _ => False) w).alloc (.cells #[.int .i64 2, .int .i64 3, .int .i64 9] 3))
  refine (qo_drop h1 (some ⟨w.heap.size, 0, none⟩) 3 [2, 3, 9] (src_row (encN [2, 3, 9]) (Whole.new _ _ _) rfl (fun u hu => by simp [encN] at hu; rcases hu with rfl | rfl | rfl <;> rfl)) (by simp) (fun k hk => ?_)).mono ?_
  · have : w.heap.size = k := Option.some.inj hk
    exact .inl ⟨by omega, by simp only [World.size_alloc]; omega⟩
  · rintro e w' ⟨rfl, hq, _⟩
    have e22 : L32.length - (keepI [2, 3, 9] L32).length = 22 := by kernel_rfl
    exact ⟨by rw [e22]; rfl, hq.sub (fun _ h => h.elim)⟩

theorem kn_drop0 {W w : World} {q : Nat} (h : QOff W w q L10 (fun _ => False)) :
    Calls Try.prog 28 #[.pointer (some ⟨q, 0, none⟩), .slice none 0 0] w fun e w' => e = .returned (.int .i64 0) ∧ QOff W w' q L10 (fun _ => False) := by
  refine (qo_drop h none 0 [] ⟨rfl, (fun u hu => by cases hu), .inl ⟨rfl, rfl⟩⟩ (by simp) (fun k hk => by cases hk)).mono ?_
  rintro e w' ⟨rfl, hq, _⟩
  have e0 : keepI [] L10 = L10 := List.filter_eq_self.2 (fun y hy => by simp)
  rw [e0] at hq ⊢
  exact ⟨by rw [Nat.sub_self]; rfl, hq⟩

theorem kn_put0 {W w : World} {q : Nat} {l : List It} {L : Nat → Prop} (h : QOff W w q l L) :
    Calls Try.prog 26 #[.pointer (some ⟨q, 0, none⟩), .slice none 0 0] w fun e w' => e = .returned (.int .i64 0) ∧ QOff W w' q l L ∧ KeptL L w w' := by
  refine (qo_put h (.slice none 0 0) [] ⟨rfl, (fun u hu => by cases hu), .inl ⟨rfl, rfl⟩⟩ (fun y hy => by cases hy) (fun k hk => by cases hk) (fun y hy => by cases hy) (by simp)).mono ?_
  rintro e w' ⟨rfl, hq, hk⟩
  exact ⟨rfl, by simpa [its, accept] using hq, hk⟩

set_option maxRecDepth 100000 in
set_option maxHeartbeats 2000000 in
theorem QueueKnown_any (W : World) : Calls Try.prog 7 #[] W fun e w' => e = .returned (.bool true) ∧ Below W.heap.size W w' := by
  have H0 := Lib.hid (q_new W)
  have hm1 : ∀ w, (Instr.makeSlice 53 (.int .i64 117) (.int .i64 117)).run Try.prog w = .ok (.slice (some ⟨w.heap.size, 0, none⟩) 117 117) (w.alloc (.cells (zB 117) 5)) := fun _ => by kernel_rfl
  have hm2 : ∀ w, (Instr.makeSlice 53 (.int .i64 116) (.int .i64 116)).run Try.prog w = .ok (.slice (some ⟨w.heap.size, 0, none⟩) 116 116) (w.alloc (.cells (zB 116) 5)) := fun _ => by kernel_rfl
  go_enter Try.func7, Try.ntmps7
  go_wp2_with fail
  go_region_with (first | (go_at_call 26; refine (kn_put3 (b1 := W.heap.size + 1) (b2 := W.heap.size + 1 + 1) H0.out ((((Kp.refl _ _).alloc _).alloc _).alloc _).drew (by simp) (by simp; try omega) (by simp; try omega) (Whole.drew (Whole.alloc (Whole.alloc (whole_at _ _ rfl (by simp)) _) _)) (Whole.drew (Whole.alloc (whole_at _ _ rfl (by simp)) _)) (Whole.drew (whole_at _ _ rfl (by simp)))).mono ?_; rintro e w1 ⟨rfl, h1⟩; have H1 := Lib.hid h1; clear h1) | (go_at_call 26; refine (kn_put3 (b1 := W.heap.size + 1 + 1) (b2 := W.heap.size + 1) H0.out ((((Kp.refl _ _).alloc _).alloc _).alloc _).drew (by simp) (by simp; try omega) (by simp; try omega) (Whole.drew (Whole.alloc (whole_at _ _ rfl (by simp)) _)) (Whole.drew (Whole.alloc (Whole.alloc (whole_at _ _ rfl (by simp)) _) _)) (Whole.drew (whole_at _ _ rfl (by simp)))).mono ?_; rintro e w1 ⟨rfl, h1⟩; have H1 := Lib.hid h1; clear h1))
  all_goals
    obtain ⟨i0, hii, hz0, hz1, hz2⟩ := info_parts infoI
    have Hi := Lib.hid hii
    have Hz0 := Lib.hid hz0
    have Hz1 := Lib.hid hz1
    have Hz2 := Lib.hid hz2
    clear hii hz0 hz1 hz2 H0 hm1 hm2
    go_wp2_with fail
    go_loopw [3, 4] (fun vl vi wr => ∃ (j : Nat) (ys : List Zt), j ≤ 40 ∧ vi = .int .i64 j ∧ Hid (its ys = kItems j) ∧ LRow wr w1.heap.size vl ys ∧ Kp (fun _ => False) w1 wr)
      (fun _ vi _ => 40 - (intOf vi).toNat)
    case atStart => exact ⟨0, [], by omega, rfl, Lib.hid rfl, LRow.nil _ _, Kp.refl _ _⟩
    case round =>
      obtain ⟨j, ys, hj, rfl, Hits, hlr, hkp⟩ := hrel
      have hyl : ys.length = j := by
        have := congrArg List.length Hits.out
        simpa [its, kItems] using this
      have Hyl := Lib.hid hyl
      clear hyl
      by_cases hlt : j < 40
      · have hr := hlr.1
        rw [Hyl.out] at hr
        have hu8 : ((UInt8.ofNat j).toNat : Int) = (j : Int) := by rw [UInt8.toNat_ofNat', Nat.mod_eq_of_lt (by omega)]
        have hkb : Kp (fun _ => False) wr ((wr.alloc (.cells #[.int .u8 (j : Int)] 5)).alloc (.cells #[.int .i64 (2 + (j : Int) % 3), .slice (some ⟨wr.heap.size, 0, none⟩) 1 1] 55)) := ((Kp.refl _ wr).alloc _).alloc _
        have hb1 : Whole ((wr.alloc (.cells #[.int .u8 (j : Int)] 5)).alloc (.cells #[.int .i64 (2 + (j : Int) % 3), .slice (some ⟨wr.heap.size, 0, none⟩) 1 1] 55)) wr.heap.size 5 #[.int .u8 ((UInt8.ofNat j).toNat : Int)] := by rw [hu8]; exact (whole_at _ _ rfl rfl).alloc _
        have hb2 : Whole ((wr.alloc (.cells #[.int .u8 (j : Int)] 5)).alloc (.cells #[.int .i64 (2 + (j : Int) % 3), .slice (some ⟨wr.heap.size, 0, none⟩) 1 1] 55)) (wr.heap.size + 1) 55 #[.int .i64 (((2 + (j : Int) % 3), (.slice (some ⟨wr.heap.size, 0, none⟩) 1 1 : Value), ([UInt8.ofNat j] : List UInt8)) : Zt).1, (((2 + (j : Int) % 3), (.slice (some ⟨wr.heap.size, 0, none⟩) 1 1 : Value), ([UInt8.ofNat j] : List UInt8)) : Zt).2.1] := whole_at _ _ rfl (by simp)
        have HO := Lib.hid (hr.kp hkb (fun _ _ h => h))
        have HX := Lib.hid (src_z _ rfl hb2)
        have HB := Lib.hid (newb_one (B := wr.heap.size) (UInt8.ofNat j) hb1 (Nat.le_refl _))
        have Hkb := Lib.hid hkb
        have Hlr := Lib.hid hlr
        have Hkp := Lib.hid hkp
        clear hlr hkp hr hkb hb1 hb2 hu8
        go_wp2_with (at_builtin; refine wpList_row rfl (.tmp 30) (.tmp 38) 49 rfl w1.heap.size 55 i0 _ 2 32 Try.underlying49 Hi.out Hz0.out Hz1.out Hz2.out rfl (by decide) _ j _ rfl HO.out _ 1 _ rfl HX.out (by unfold maxLen; omega) (by omega) (by have := Hkp.out.size; simp only [World.size_alloc]; omega) ?_; intro v' w2 hr1 hg1 hn1; have hla := lrow_app (z := ((2 + (j : Int) % 3), (.slice (some ⟨wr.heap.size, 0, none⟩) 1 1 : Value), ([UInt8.ofNat j] : List UInt8))) Hlr.out Hkp.out.size Hkb.out HB.out (by rw [Hyl.out]; exact hr1) hg1 hn1; have hkp1 := (Hkp.out.trans Hkb.out).grown hg1 (fun i hi hlt => absurd (Hlr.out.1.lt i hi).1 (by omega)); have Hla := Lib.hid hla; have Hkp1 := Lib.hid hkp1; clear hr1 hg1 hn1 hla hkp1)
        go_roundw
        case rel => exact ⟨j + 1, ys ++ [((2 + (j : Int) % 3), (.slice (some ⟨wr.heap.size, 0, none⟩) 1 1 : Value), ([UInt8.ofNat j] : List UInt8))], by omega, by go_num, Lib.hid (by
          rw [its, List.map_append, show ys.map (fun z => (z.1, z.2.2)) = its ys from rfl, Hits.out, kItems, kItems, List.range_succ, List.map_append]
          rfl), Hla.out, Hkp1.out⟩
        case measure => simp [intOf]; omega
      · obtain rfl : j = 40 := by omega
        obtain ⟨A6, c6, rfl⟩ := hlr.1.form
        obtain ⟨y0, hy0⟩ : ∃ y, ys[0]? = some y := ⟨_, List.getElem?_eq_getElem (by rw [Hyl.out]; omega)⟩
        have hym := List.mem_of_getElem? hy0
        obtain ⟨b6, o6, c7, hv6, _, hb6, _, _, _, hc6⟩ := hlr.1.full (by rw [Hyl.out]; omega)
        cases hv6
        have e0 : wr.cell? ⟨b6, o6, none⟩ = some (.int .i64 y0.1) := hc6 (0 * 2) _ (zt0 hy0)
        have e1 : wr.cell? ⟨b6, o6 + 1, none⟩ = some y0.2.1 := hc6 (0 * 2 + 1) _ (zt1 hy0)
        have hnb := (hlr.2 y0 hym).1
        have hblr := hlr.1.lt b6 rfl
        have hP := kn_put40 H1.out hkp hlr Hits.out
        have hyd : y0.2.2.length = 1 := by
          have : (y0.1, y0.2.2) ∈ its ys := List.mem_map.2 ⟨y0, hym, rfl⟩
          rw [Hits.out] at this
          obtain ⟨i, _, e⟩ := List.mem_map.1 this
          have := congrArg (fun x : It => x.2.length) e
          simpa using this.symm
        have HP := Lib.hid hP
        have Hnb := Lib.hid hnb
        have Hyd := Lib.hid hyd
        rw [Hyl.out] at HP ⊢
        clear hlr hkp hP hc6 hnb hyd hym hy0
        go_wp2_with fail
        with_reducible refine (HP.out).mono ?_
        rintro e w2 ⟨rfl, h1, hk1⟩
        rw [← hk1.cell (p := ⟨b6, _, none⟩) hb6 (fun h => h hblr)] at e0 e1
        have hb2 : b6 < w2.heap.size := Nat.lt_of_lt_of_le hb6 hk1.size
        have Hnb2 := Lib.hid (Hnb.out.1.kp hk1 (fun k hk h => h (Hnb.out.2.1 k hk)))
        obtain ⟨Ay, cy, hay⟩ := Hnb.out.form
        have H2 := Lib.hid h1
        clear h1 hk1
        have hN := kn_more H2.out y0 Hnb2.out (by rw [Hyd.out]; omega) Hnb.out.2.2 (fun k hk => Hnb.out.2.1 k hk)
        rw [hay] at hN e1
        have HN := Lib.hid hN
        clear hN hay
        go_wp2_with fail
        with_reducible refine (qo_len H2.out).mono ?_
        rw [show L32.length = 32 by kernel_rfl]
        rintro e w3 ⟨rfl, rfl⟩
        go_wp2_with fail
        with_reducible refine (HN.out).mono ?_
        rintro e w3 ⟨rfl, h1⟩
        have H3 := Lib.hid h1
        clear h1 e0 e1
        go_wp2_with fail
        with_reducible refine (kn_drop3 H3.out).mono ?_
        rintro e w4 ⟨rfl, h1⟩
        have H4 := Lib.hid h1
        clear h1
        go_wp2_with fail
        with_reducible refine (kn_drop0 H4.out).mono ?_
        rintro e w5 ⟨rfl, h1⟩
        rw [L10_cons] at h1
        have hP5 := qo_pop2 h1
        have HP5 := Lib.hid hP5
        clear h1 hP5
        go_wp2_with fail
        with_reducible refine (HP5.out).mono ?_
        rintro e w6 ⟨v6, rfl, hn6, h6, _⟩
        obtain ⟨bx, ox, cx, rfl, hbx, hcx⟩ := hn6.1.cell (by simp)
        have x0 := hcx 0 (by simp)
        rw [Nat.add_zero] at x0
        have h6b : QOff W (w6.alloc (.cells #[.int .i64 4, .slice (some ⟨bx, ox, none⟩) 1 cx] 55)) W.heap.size L9 (fun k => k = bx ∨ k = w6.heap.size) := h6.move ((Kp.refl _ w6).alloc _) (fun k hk => by
          rcases hk with rfl | rfl
          · exact ⟨.inl (.inr rfl), by simp only [World.size_alloc]; omega⟩
          · exact ⟨.inr (Nat.le_refl _), by simp⟩)
        have hP6 := kn_put0 h6b
        have HP6 := Lib.hid hP6
        have hw6 : Whole (w6.alloc (.cells #[.int .i64 4, .slice (some ⟨bx, ox, none⟩) 1 cx] 55)) w6.heap.size 55 #[.int .i64 4, .slice (some ⟨bx, ox, none⟩) 1 cx] := Whole.new _ _ _
        have Hw6 := Lib.hid hw6
        have hbx6 : bx < w6.heap.size + 1 := by omega
        have hx6 : (w6.alloc (.cells #[.int .i64 4, .slice (some ⟨bx, ox, none⟩) 1 cx] 55)).cell? ⟨bx, ox, none⟩ = some (.int .u8 2) := by
          rw [World.cell?_of_block (a := ⟨bx, ox, none⟩) (Below.heap_alloc _ _ _ hbx), x0]; rfl
        have Hx6 := Lib.hid hx6
        clear hn6 h6 hP6 hcx h6b hw6 hx6 x0
        go_wp2_with fail
        with_reducible refine (HP6.out).mono ?_
        rintro e w7 ⟨rfl, h7, k7⟩
        have x0 := Hx6.out
        rw [← k7.cell (p := ⟨bx, ox, none⟩) (by simpa using hbx6) (fun h => h (.inl rfl))] at x0
        have hbw7 : bx < w7.heap.size := by have := k7.size; simp at this; omega
        have hw7 := k7.whole Hw6.out (fun h => h (.inr rfl))
        have y0 := hw7.cell 0
        have y1 := hw7.cell 1
        have y2 := hw7.lt
        simp at y0 y1
        have H7 := Lib.hid h7
        have Hz := Lib.hid (q_new w7)
        have Hxy := Lib.hid (And.intro x0 (And.intro y0 y1))
        clear h7 k7 hw7 hbx hbx6 x0 y0 y1
        go_wp2_with fail
        with_reducible refine (qo_first_none Hz.out).mono ?_
        rintro e w8 ⟨rfl, h8, _⟩
        have H8 := Lib.hid (h8.alloc (.cells #[.int .i64 0, .slice none 0 0] 55))
        clear h8
        go_wp2_with fail
        with_reducible refine (qo_pop_none H8.out).mono ?_
        rintro e w9 ⟨rfl, h9, _⟩
        have H9 := Lib.hid (h9.alloc (.cells #[.int .i64 0, .slice none 0 0] 55))
        clear h9
        go_wp2_with fail
        with_reducible refine (known_q _).mono ?_
        rintro e wk ⟨rfl, hk⟩
        have hb7 : Below w7.heap.size w7 wk := H9.out.below.trans (hk.mono H9.out.below.size)
        obtain ⟨x0, y0, y1⟩ := Hxy.out
        rw [← hb7.cell (p := ⟨bx, ox, none⟩) hbw7] at x0
        rw [← hb7.cell (p := ⟨w6.heap.size, _, none⟩) y2] at y0 y1
        have Hk := Lib.hid (H7.out.of_below hb7)
        clear hk hb7
        go_wp2_with fail
        with_reducible refine (qo_len Hk.out).mono ?_
        rw [show L9.length = 9 by kernel_rfl]
        rintro e wl ⟨rfl, rfl⟩
        go_wp2_with fail
        go_ret
        exact ⟨rfl, Hk.out.below⟩
end Go.Proofs.Ytelhnhnbfjamhaa

/-
  argosyhand.Frame of a raw frame without bends. (printed by src/gen_XSprB.py)
-/
import Derived.Test.YtoiakdddghbdnaaSprA
namespace Go.Proofs.Ytoiakdddghbdnaa
open Go.RowKit

/-- What the frame is, once its kind's fields are laid: in the box b3. -/
def FrLeft (wa : World) (b3 : Nat) (wx : World) : Prop :=
  ∃ f : Fr, Whole wx b3 31 (encF f).toArray ∧ Reads wx (fun k => wa.heap.size ≤ k ∧ k < wx.heap.size) f ∧ f.d.length ≤ 120 ∧ f.s.length ≤ 8 ∧ (∀ a, f.dA = some a → a.spot = none) ∧ Kp (fun j => j = b3) wa wx
theorem left_bare {wa wx : World} {b3 : Nat} (h : Hd) (hk : Kp (fun j => j = b3) wa wx) {cs : Array Value} (hz : Whole wx b3 31 cs) (hc : cs = (encF ⟨h, none, 0, none, 0, [], []⟩).toArray) : FrLeft wa b3 wx :=
  ⟨⟨h, none, 0, none, 0, [], []⟩, hc ▸ hz, reads_bare _, by simp, by simp, fun a e => (by cases e), hk⟩
theorem row_spot {w : World} {B sz n c m : Nat} {A : Option Addr} {xs : List Value} (h : RowAt w B sz (.slice A m c) n xs) : ∀ a, A = some a → a.spot = none := by
  intro a ha
  rcases h.2 with ⟨hv, _⟩ | ⟨g, off, cap, hv, _⟩
  · cases hv; cases ha
  · cases hv; cases ha; rfl
/-- A number cut to a byte. -/
theorem byteOf (a : Int) : ∃ q : UInt8, IntKind.u8.wrap a = ((q.toNat : Nat) : Int) := by
  have h : 0 ≤ IntKind.u8.wrap a ∧ IntKind.u8.wrap a < 256 := by
    simp only [IntKind.wrap, show IntKind.u8.bits = 8 from rfl, show IntKind.u8.signed = false from rfl]
    simp
    omega
  refine ⟨UInt8.ofNat (IntKind.u8.wrap a).toNat, ?_⟩
  rw [UInt8.toNat_ofNat', Nat.mod_eq_of_lt (by omega), Int.toNat_of_nonneg h.1]
theorem left_few {wa w5 : World} {b3 : Nat} (h : Hd) (hB : Kp (fun j => j = b3) wa w5) {cs : Array Value} (hz : Whole w5 b3 31 cs) {A' : Option Addr} {m' c' : Nat} {dt : List UInt8} (hrow : RowAt w5 wa.heap.size 1 (.slice A' m' c') m' (encB dt)) (hb : b3 < wa.heap.size) (hm : m' = dt.length) (h120 : m' ≤ 120)
    (hc : cs.setIfInBounds 7 (.slice A' m' c') = (encF ⟨h, A', c', none, 0, dt, []⟩).toArray) : FrLeft wa b3 (w5.setCell ⟨b3, 7, none⟩ (.slice A' m' c')) := by
  subst hm
  have hk := kp_one w5 b3 7 (.slice A' dt.length c')
  have hfar : ∀ k, (Value.slice A' dt.length c').ownBlock = some k → k ≠ b3 := fun k hk => by have := (hrow.lt k hk).1; omega
  have hrow2 := hrow.kp hk hfar
  refine ⟨⟨h, A', c', none, 0, dt, []⟩, hc ▸ hz.set 7 _, ⟨?_, ⟨rfl, (fun u hu => by cases hu), .inl ⟨rfl, rfl⟩⟩, fun k hk' => ?_, fun k hk' => (by cases hk')⟩, h120, by simp, row_spot hrow, hB.trans hk⟩
  · exact hrow2.src (encB_one _)
  · exact hrow2.lt k hk'
theorem left_runs {wa w5 : World} {b3 : Nat} (h : Hd) (hB : Kp (fun j => j = b3) wa w5) {cs : Array Value} (hz : Whole w5 b3 31 cs) {A' : Option Addr} {m' c' : Nat} {L : List Pr} (hrow : RowAt w5 wa.heap.size 2 (.slice A' m' c') m' (encs encP L)) (hb : b3 < wa.heap.size) (hm : m' = L.length) (h8 : m' ≤ 8)
    (hc : cs.setIfInBounds 8 (.slice A' m' c') = (encF ⟨h, none, 0, A', c', [], L⟩).toArray) : FrLeft wa b3 (w5.setCell ⟨b3, 8, none⟩ (.slice A' m' c')) := by
  subst hm
  have hk := kp_one w5 b3 8 (.slice A' L.length c')
  have hfar : ∀ k, (Value.slice A' L.length c').ownBlock = some k → k ≠ b3 := fun k hk => by have := (hrow.lt k hk).1; omega
  have hrow2 := hrow.kp hk hfar
  refine ⟨⟨h, none, 0, A', c', [], L⟩, hc ▸ hz.set 8 _, ⟨Bs.nil _, ?_, fun k hk' => (by cases hk'), fun k hk' => ?_⟩, by simp, h8, fun a e => (by cases e), hB.trans hk⟩
  · exact hrow2.src (encP_one _)
  · exact hrow2.lt k hk'

set_option maxRecDepth 100000 in
set_option maxHeartbeats 16000000 in
theorem frame_any {w : World} (k i o a b : Int) (il : -9223372036854775808 ≤ i) (ih : i ≤ 9223372036854775807) (ol : -9223372036854775808 ≤ o) (oh : o ≤ 9223372036854775807) (al : -9223372036854775808 ≤ a) (ah : a ≤ 9223372036854775807) (fin : Bool)
    {A : Option Addr} {cap : Nat} {d : List UInt8} (hd : Bs w (.slice A d.length cap) d) (hdc : d.length ≤ cap) (hdm : cap ≤ maxLen) (hdA : 0 < d.length → ∀ a, A = some a → a.add 0 = a) (hdA0 : A = none → cap = 0)
    {As : Option Addr} {ns cs : Nat} (hs : IntsOk w As ns) (hns : ns ≤ 17592186044416) :
    Calls Try.prog 21 #[.agg #[.int .i64 k, .int .i64 i, .int .i64 o, .int .i64 a, .int .i64 b, .int .i64 0, .bool fin, .slice A d.length cap, .slice As ns cs]] w fun e w' =>
      ∃ f, e = .returned (aggF f) ∧ Reads w' (fun q => w.heap.size ≤ q ∧ q < w'.heap.size) f ∧ f.d.length ≤ 120 ∧ f.s.length ≤ 8 ∧ (∀ a, f.dA = some a → a.spot = none) ∧ Kp (fun _ => False) w w' := by
  obtain ⟨i0, hii, hz0, hz1, hz2⟩ := info_parts infoB
  have Hi := Lib.hid hii
  have Hz0 := Lib.hid hz0
  have Hz1 := Lib.hid hz1
  have Hz2 := Lib.hid hz2
  clear hii hz0 hz1 hz2
  have Hd := Lib.hid hd
  have Hs := Lib.hid hs
  have HdA := Lib.hid hdA
  have HdA0 := Lib.hid hdA0
  clear hd hs hdA hdA0
  generalize hdl : d.length = dl at *
  have Hdl := Lib.hid hdl
  clear hdl
  go_enter Try.func21, Try.ntmps21
  go_wp2_with fail
  with_reducible refine (pick_natR _ _ _ (by omega) (by omega)).mono ?_
  rintro e w' ⟨pk, hpk, rfl, rfl⟩
  go_upto_block 0 with (fail)
  have h1 : Whole (((w.alloc (.cells #[.int .i64 k, .int .i64 i, .int .i64 o, .int .i64 a, .int .i64 b, .int .i64 0, .bool fin, .slice A dl cap, .slice As ns cs] 61)).alloc (.cells (bareC 0) 31)).alloc (.cells (bareC (1 + (pk : Int))) 31)) w.heap.size 61 #[.int .i64 k, .int .i64 i, .int .i64 o, .int .i64 a, .int .i64 b, .int .i64 0, .bool fin, .slice A dl cap, .slice As ns cs] := ((whole_at _ _ rfl rfl).alloc _).alloc _
  have h2 : Whole (((w.alloc (.cells #[.int .i64 k, .int .i64 i, .int .i64 o, .int .i64 a, .int .i64 b, .int .i64 0, .bool fin, .slice A dl cap, .slice As ns cs] 61)).alloc (.cells (bareC 0) 31)).alloc (.cells (bareC (1 + (pk : Int))) 31)) (w.heap.size + 1) 31 (bareC 0) := (whole_at _ _ rfl (by simp)).alloc _
  have h3 : Whole (((w.alloc (.cells #[.int .i64 k, .int .i64 i, .int .i64 o, .int .i64 a, .int .i64 b, .int .i64 0, .bool fin, .slice A dl cap, .slice As ns cs] 61)).alloc (.cells (bareC 0) 31)).alloc (.cells (bareC (1 + (pk : Int))) 31)) (w.heap.size + 1 + 1) 31 (bareC (1 + (pk : Int))) := whole_at _ _ rfl (by simp)
  have hka : Kp (fun _ => False) w (((w.alloc (.cells #[.int .i64 k, .int .i64 i, .int .i64 o, .int .i64 a, .int .i64 b, .int .i64 0, .bool fin, .slice A dl cap, .slice As ns cs] 61)).alloc (.cells (bareC 0) 31)).alloc (.cells (bareC (1 + (pk : Int))) 31)) := (((Kp.refl _ w).alloc _).alloc _).alloc _
  generalize ((w.alloc (.cells #[.int .i64 k, .int .i64 i, .int .i64 o, .int .i64 a, .int .i64 b, .int .i64 0, .bool fin, .slice A dl cap, .slice As ns cs] 61)).alloc (.cells (bareC 0) 31)).alloc (.cells (bareC (1 + (pk : Int))) 31) = wa at *
  have h31 : w.heap.size + 1 + 1 ≠ w.heap.size := by omega
  have h21 : w.heap.size + 1 ≠ w.heap.size := by omega
  have h32 : w.heap.size + 1 + 1 ≠ w.heap.size + 1 := by omega
  have hb3 := h3.lt
  have HFw : Hid (∀ w', Kp (fun j => j = w.heap.size + 1 + 1) wa w' → ∀ n : Nat, n ≤ 120 → Calls Try.prog 37 #[.slice A dl cap, .int .i64 n] w' fun e w2 => ∃ A' c' dt m', e = .returned (.slice A' m' c') ∧ Hid (m' = dt.length) ∧ m' ≤ n ∧ RowAt w2 w'.heap.size 1 (.slice A' m' c') m' (encB dt) ∧ Kp (fun _ => False) w' w2) := Lib.hid (fun w' hk n hn => by
    have hd' : Bs w (.slice A d.length cap) d := by rw [Hdl.out]; exact Hd.out
    have hb : Bs w' (.slice A d.length cap) d := by
      refine hd'.kp ((hka.no.trans hk).mono (S' := fun _ => False) (fun j hj e => by omega)) (fun _ _ h => h)
    have := few_any hb (by rw [Hdl.out]; exact hdc) hdm (by rw [Hdl.out]; exact HdA.out) HdA0.out n (by omega)
    rw [Hdl.out] at this
    refine this.mono ?_
    rintro e w2 ⟨v', rfl, ho, hk2⟩
    obtain ⟨A', c', rfl⟩ := own_form ho
    exact ⟨A', c', d.take n, _, rfl, Lib.hid rfl, by rw [List.length_take]; omega, RowAt.of_own ho, hk2⟩)
  have HF120 : Hid (∀ w', Kp (fun j => j = w.heap.size + 1 + 1) wa w' → Calls Try.prog 37 #[.slice A dl cap, .int .i64 120] w' fun e w2 => ∃ A' c' dt m', e = .returned (.slice A' m' c') ∧ Hid (m' = dt.length) ∧ m' ≤ 120 ∧ RowAt w2 w'.heap.size 1 (.slice A' m' c') m' (encB dt) ∧ Kp (fun _ => False) w' w2) := Lib.hid (fun w' hk => HFw.out w' hk 120 (by omega))
  have HF119 : Hid (∀ w', Kp (fun j => j = w.heap.size + 1 + 1) wa w' → Calls Try.prog 37 #[.slice A dl cap, .int .i64 119] w' fun e w2 => ∃ A' c' dt m', e = .returned (.slice A' m' c') ∧ Hid (m' = dt.length) ∧ m' ≤ 119 ∧ RowAt w2 w'.heap.size 1 (.slice A' m' c') m' (encB dt) ∧ Kp (fun _ => False) w' w2) := Lib.hid (fun w' hk => HFw.out w' hk 119 (by omega))
  have HRn := Lib.hid (runs_any (c := cs) (Hs.out.kp hka) hns)
  have HMi := Lib.hid (may_any i il ih)
  have HMa := Lib.hid (may_any a al ah)
  have HMo := Lib.hid (may_any o ol oh)
  have y0 := h1.cell 0
  have y1 := h1.cell 1
  have y2 := h1.cell 2
  have y3 := h1.cell 3
  have y4 := h1.cell 4
  have y5 := h1.cell 5
  have y6 := h1.cell 6
  have y7 := h1.cell 7
  have y8 := h1.cell 8
  have k0 := h3.cell 0
  simp at y0 y1 y2 y3 y4 y5 y6 y7 y8 k0
  have hb1 := h1.lt
  have H1 := Lib.hid h1
  have H2 := Lib.hid h2
  have H3 := Lib.hid h3
  have Hka := Lib.hid hka
  clear h1 h2 h3 hka
  go_cut [] (fun wx => FrLeft wa (w.heap.size + 1 + 1) wx)
  case first =>
    have hk12 : pk = 0 ∨ pk = 1 ∨ pk = 2 ∨ pk = 3 ∨ pk = 4 ∨ pk = 5 ∨ pk = 6 ∨ pk = 7 ∨ pk = 8 ∨ pk = 9 ∨ pk = 10 ∨ pk = 11 := by omega
    generalize w.heap.size + 1 + 1 = b3 at *
    generalize w.heap.size = b1 at *
    rcases hk12 with rfl | rfl | rfl | rfl | rfl | rfl | rfl | rfl | rfl | rfl | rfl | rfl
    · -- kind 1
      have h3 := H3.out
      have c1 := h3.cell 1
      have c2 := h3.cell 2
      have c3 := h3.cell 3
      have c4 := h3.cell 4
      have c6 := h3.cell 6
      have c7 := h3.cell 7
      have c8 := h3.cell 8
      have f1 := h3.frozen 1
      have f2 := h3.frozen 2
      have f3 := h3.frozen 3
      have f4 := h3.frozen 4
      have f6 := h3.frozen 6
      have f7 := h3.frozen 7
      have f8 := h3.frozen 8
      simp at c1 c2 c3 c4 c6 c7 c8
      clear h3
      go_wp2_with fail
      go_meet
      case rel => exact left_bare ⟨1, 0, 0, 0, 0, 0, false⟩ (Kp.refl (fun j => j = b3) wa) (H3.out) (by simp [encF])
    · -- kind 2
      have h3 := H3.out
      have c1 := h3.cell 1
      have c2 := h3.cell 2
      have c3 := h3.cell 3
      have c4 := h3.cell 4
      have c6 := h3.cell 6
      have c7 := h3.cell 7
      have c8 := h3.cell 8
      have f1 := h3.frozen 1
      have f2 := h3.frozen 2
      have f3 := h3.frozen 3
      have f4 := h3.frozen 4
      have f6 := h3.frozen 6
      have f7 := h3.frozen 7
      have f8 := h3.frozen 8
      simp at c1 c2 c3 c4 c6 c7 c8
      clear h3
      go_wp2_with fail
      with_reducible refine (HRn.out).mono ?_
      rintro e w5 ⟨Av, cv, L, rfl, hrow', hL8, hk'⟩
      obtain ⟨m', hm'⟩ : ∃ m', m' = L.length := ⟨_, rfl⟩
      rw [← hm'] at hrow' hL8 ⊢
      have hz5 := hk'.whole H3.out (fun h => h)
      have z8 := hz5.cell 8
      have g8 := hz5.frozen 8
      simp at z8
      have HZ := Lib.hid hz5
      have HB : Hid (Kp (fun j => j = b3) wa w5) := Lib.hid hk'.no
      have Hrow := Lib.hid hrow'
      have Hm' := Lib.hid hm'
      have hsz := hk'.size
      have hlt5 := hz5.lt
      clear hz5 hrow' hk' hm'
      go_wp2_with fail
      go_meet
      case rel => exact left_runs ⟨2, 0, 0, 0, 0, 0, false⟩ HB.out HZ.out (Hrow.out.base (by simp)) hb3 Hm'.out hL8 (by simp [encF, Hm'.out])
    · -- kind 3
      have h3 := H3.out
      have c1 := h3.cell 1
      have c2 := h3.cell 2
      have c3 := h3.cell 3
      have c4 := h3.cell 4
      have c6 := h3.cell 6
      have c7 := h3.cell 7
      have c8 := h3.cell 8
      have f1 := h3.frozen 1
      have f2 := h3.frozen 2
      have f3 := h3.frozen 3
      have f4 := h3.frozen 4
      have f6 := h3.frozen 6
      have f7 := h3.frozen 7
      have f8 := h3.frozen 8
      simp at c1 c2 c3 c4 c6 c7 c8
      clear h3
      go_wp2_with fail
      with_reducible refine (HMi.out _).mono ?_
      rintro e w' ⟨v1, rfl, v1l, v1h, rfl⟩
      go_wp2_with fail
      with_reducible refine (pick_natR _ _ _ (by omega) (by omega)).mono ?_
      rintro e w' ⟨v2, v2h, rfl, rfl⟩
      go_wp2_with fail
      have hkb : Kp (fun j => j = b3) wa (((wa.setCell ⟨b3, 1, none⟩ (.int .i64 v1)).setCell ⟨b3, 2, none⟩ (.int .i64 (v2 : Int))).setCell ⟨b3, 6, none⟩ (.bool fin)) := (Kp.set (S := fun j => j = b3) (Kp.set (S := fun j => j = b3) (Kp.set (S := fun j => j = b3) (Kp.refl (fun j => j = b3) wa) (p := ⟨b3, 1, none⟩) (.inl rfl) (.int .i64 v1)) (p := ⟨b3, 2, none⟩) (.inl rfl) (.int .i64 (v2 : Int))) (p := ⟨b3, 6, none⟩) (.inl rfl) (.bool fin))
      have hzb := (((H3.out.set 1 (.int .i64 v1)).set 2 (.int .i64 (v2 : Int))).set 6 (.bool fin))
      with_reducible refine (HF120.out _ hkb).mono ?_
      rintro e w5 ⟨A', c', dt, m', rfl, hm', hm120, hrow', hk'⟩
      have hz5 := hk'.whole hzb (fun h => h)
      have z7 := hz5.cell 7
      have g7 := hz5.frozen 7
      simp at z7
      have HZ := Lib.hid hz5
      have HB := Lib.hid (hkb.trans hk'.no)
      have Hrow := Lib.hid hrow'
      have Hm' := hm'
      have hsz := hk'.size
      have hlt5 := hz5.lt
      clear hkb hzb hz5 hrow' hk' hm'
      go_wp2_with fail
      go_meet
      case rel => exact left_few ⟨3, v1, (v2 : Int), 0, 0, 0, fin⟩ HB.out HZ.out (Hrow.out.base (by simp)) hb3 Hm'.out hm120 (by simp [encF, Hm'.out])
    · -- kind 4
      have h3 := H3.out
      have c1 := h3.cell 1
      have c2 := h3.cell 2
      have c3 := h3.cell 3
      have c4 := h3.cell 4
      have c6 := h3.cell 6
      have c7 := h3.cell 7
      have c8 := h3.cell 8
      have f1 := h3.frozen 1
      have f2 := h3.frozen 2
      have f3 := h3.frozen 3
      have f4 := h3.frozen 4
      have f6 := h3.frozen 6
      have f7 := h3.frozen 7
      have f8 := h3.frozen 8
      simp at c1 c2 c3 c4 c6 c7 c8
      clear h3
      go_wp2_with fail
      with_reducible refine (HMi.out _).mono ?_
      rintro e w' ⟨v1, rfl, v1l, v1h, rfl⟩
      go_wp2_with fail
      with_reducible refine (HMa.out _).mono ?_
      rintro e w' ⟨v2, rfl, v2l, v2h, rfl⟩
      go_wp2_with fail
      with_reducible refine (HMo.out _).mono ?_
      rintro e w' ⟨v3, rfl, v3l, v3h, rfl⟩
      go_wp2_with fail
      with_reducible refine (pick_natBig _ _ _ (by omega) (by omega)).mono ?_
      rintro e w' ⟨v4, v4h, rfl, rfl⟩
      go_wp2_with fail
      go_meet
      case rel => exact left_bare ⟨4, v1, v3, v2, (v4 : Int), 0, false⟩ (Kp.set (S := fun j => j = b3) (Kp.set (S := fun j => j = b3) (Kp.set (S := fun j => j = b3) (Kp.set (S := fun j => j = b3) (Kp.refl (fun j => j = b3) wa) (p := ⟨b3, 1, none⟩) (.inl rfl) (.int .i64 v1)) (p := ⟨b3, 3, none⟩) (.inl rfl) (.int .i64 v2)) (p := ⟨b3, 2, none⟩) (.inl rfl) (.int .i64 v3)) (p := ⟨b3, 4, none⟩) (.inl rfl) (.int .i64 (v4 : Int))) (((((H3.out.set 1 (.int .i64 v1)).set 3 (.int .i64 v2)).set 2 (.int .i64 v3)).set 4 (.int .i64 (v4 : Int)))) (by simp [encF])
    · -- kind 5
      have h3 := H3.out
      have c1 := h3.cell 1
      have c2 := h3.cell 2
      have c3 := h3.cell 3
      have c4 := h3.cell 4
      have c6 := h3.cell 6
      have c7 := h3.cell 7
      have c8 := h3.cell 8
      have f1 := h3.frozen 1
      have f2 := h3.frozen 2
      have f3 := h3.frozen 3
      have f4 := h3.frozen 4
      have f6 := h3.frozen 6
      have f7 := h3.frozen 7
      have f8 := h3.frozen 8
      simp at c1 c2 c3 c4 c6 c7 c8
      clear h3
      go_wp2_with fail
      with_reducible refine (HMi.out _).mono ?_
      rintro e w' ⟨v1, rfl, v1l, v1h, rfl⟩
      go_wp2_with fail
      with_reducible refine (HMa.out _).mono ?_
      rintro e w' ⟨v2, rfl, v2l, v2h, rfl⟩
      go_wp2_with fail
      go_meet
      case rel => exact left_bare ⟨5, v1, 0, v2, 0, 0, false⟩ (Kp.set (S := fun j => j = b3) (Kp.set (S := fun j => j = b3) (Kp.refl (fun j => j = b3) wa) (p := ⟨b3, 1, none⟩) (.inl rfl) (.int .i64 v1)) (p := ⟨b3, 3, none⟩) (.inl rfl) (.int .i64 v2)) (((H3.out.set 1 (.int .i64 v1)).set 3 (.int .i64 v2))) (by simp [encF])
    · -- kind 6
      have h3 := H3.out
      have c1 := h3.cell 1
      have c2 := h3.cell 2
      have c3 := h3.cell 3
      have c4 := h3.cell 4
      have c6 := h3.cell 6
      have c7 := h3.cell 7
      have c8 := h3.cell 8
      have f1 := h3.frozen 1
      have f2 := h3.frozen 2
      have f3 := h3.frozen 3
      have f4 := h3.frozen 4
      have f6 := h3.frozen 6
      have f7 := h3.frozen 7
      have f8 := h3.frozen 8
      simp at c1 c2 c3 c4 c6 c7 c8
      clear h3
      go_wp2_with fail
      with_reducible refine (HMa.out _).mono ?_
      rintro e w' ⟨v1, rfl, v1l, v1h, rfl⟩
      go_wp2_with fail
      go_meet
      case rel => exact left_bare ⟨6, 0, 0, v1, 0, 0, false⟩ (Kp.set (S := fun j => j = b3) (Kp.refl (fun j => j = b3) wa) (p := ⟨b3, 3, none⟩) (.inl rfl) (.int .i64 v1)) ((H3.out.set 3 (.int .i64 v1))) (by simp [encF])
    · -- kind 7
      have h3 := H3.out
      have c1 := h3.cell 1
      have c2 := h3.cell 2
      have c3 := h3.cell 3
      have c4 := h3.cell 4
      have c6 := h3.cell 6
      have c7 := h3.cell 7
      have c8 := h3.cell 8
      have f1 := h3.frozen 1
      have f2 := h3.frozen 2
      have f3 := h3.frozen 3
      have f4 := h3.frozen 4
      have f6 := h3.frozen 6
      have f7 := h3.frozen 7
      have f8 := h3.frozen 8
      simp at c1 c2 c3 c4 c6 c7 c8
      clear h3
      go_wp2_with fail
      with_reducible refine (HMi.out _).mono ?_
      rintro e w' ⟨v1, rfl, v1l, v1h, rfl⟩
      go_wp2_with fail
      with_reducible refine (HMa.out _).mono ?_
      rintro e w' ⟨v2, rfl, v2l, v2h, rfl⟩
      go_wp2_with fail
      go_meet
      case rel => exact left_bare ⟨7, v1, 0, v2, 0, 0, false⟩ (Kp.set (S := fun j => j = b3) (Kp.set (S := fun j => j = b3) (Kp.refl (fun j => j = b3) wa) (p := ⟨b3, 1, none⟩) (.inl rfl) (.int .i64 v1)) (p := ⟨b3, 3, none⟩) (.inl rfl) (.int .i64 v2)) (((H3.out.set 1 (.int .i64 v1)).set 3 (.int .i64 v2))) (by simp [encF])
    · -- kind 8
      have h3 := H3.out
      have c1 := h3.cell 1
      have c2 := h3.cell 2
      have c3 := h3.cell 3
      have c4 := h3.cell 4
      have c6 := h3.cell 6
      have c7 := h3.cell 7
      have c8 := h3.cell 8
      have f1 := h3.frozen 1
      have f2 := h3.frozen 2
      have f3 := h3.frozen 3
      have f4 := h3.frozen 4
      have f6 := h3.frozen 6
      have f7 := h3.frozen 7
      have f8 := h3.frozen 8
      simp at c1 c2 c3 c4 c6 c7 c8
      clear h3
      go_wp2_with fail
      with_reducible refine (HMa.out _).mono ?_
      rintro e w' ⟨v1, rfl, v1l, v1h, rfl⟩
      go_wp2_with fail
      go_meet
      case rel => exact left_bare ⟨8, 0, 0, v1, 0, 0, fin⟩ (Kp.set (S := fun j => j = b3) (Kp.set (S := fun j => j = b3) (Kp.refl (fun j => j = b3) wa) (p := ⟨b3, 3, none⟩) (.inl rfl) (.int .i64 v1)) (p := ⟨b3, 6, none⟩) (.inl rfl) (.bool fin)) (((H3.out.set 3 (.int .i64 v1)).set 6 (.bool fin))) (by simp [encF])
    · -- kind 9
      have h3 := H3.out
      have c1 := h3.cell 1
      have c2 := h3.cell 2
      have c3 := h3.cell 3
      have c4 := h3.cell 4
      have c6 := h3.cell 6
      have c7 := h3.cell 7
      have c8 := h3.cell 8
      have f1 := h3.frozen 1
      have f2 := h3.frozen 2
      have f3 := h3.frozen 3
      have f4 := h3.frozen 4
      have f6 := h3.frozen 6
      have f7 := h3.frozen 7
      have f8 := h3.frozen 8
      simp at c1 c2 c3 c4 c6 c7 c8
      clear h3
      go_wp2_with fail
      refine wp_region_held_drew (S := (fun w' => w'.cell? ⟨b1, 7, none⟩ = some (.slice A dl cap) ∧ w'.cell? ⟨b1, 3, none⟩ = some (.int .i64 a))) (by kernel_rfl) ⟨y7, y3⟩ (fun hHeld => ?_)
      refine wpAnyH_take (i := 0) (oi := { dst := some 85, op := Op.fieldAddr 61 (.tmp 1) 7, type := _, pos := _, after := _, guard := _ }) (v := ?_) rfl (by kernel_rfl) (by kernel_rfl) (by kernel_rfl) (fun _ _ _ h => h) (Or.inl ⟨by rfl, ?_⟩) hHeld ?_
      rotate_left
      · intro w99 hSw
        first | (go_simp; done) | (go_simp; with_reducible rfl)
      try simp only [Act.put, List.setIfInBounds_toArray, List.set_cons_zero, List.set_cons_succ]
      refine wpAnyH_take (i := 1) (oi := { dst := some 86, op := Op.load 28 (.tmp 85), type := _, pos := _, after := _, guard := _ }) (v := ?_) rfl (by kernel_rfl) (by kernel_rfl) (by kernel_rfl) (fun _ _ _ h => h) (Or.inl ⟨by rfl, ?_⟩) hHeld ?_
      rotate_left
      · intro w99 hSw
        have y7 := hSw.1; first | (go_simp; done) | (go_simp; with_reducible rfl)
      try simp only [Act.put, List.setIfInBounds_toArray, List.set_cons_zero, List.set_cons_succ]
      refine wpAnyH_take (i := 3) (oi := { dst := some 88, op := Op.fieldAddr 61 (.tmp 1) 3, type := _, pos := _, after := _, guard := _ }) (v := ?_) rfl (by kernel_rfl) (by kernel_rfl) (by kernel_rfl) (fun _ _ _ h => h) (Or.inl ⟨by rfl, ?_⟩) hHeld ?_
      rotate_left
      · intro w99 hSw
        first | (go_simp; done) | (go_simp; with_reducible rfl)
      try simp only [Act.put, List.setIfInBounds_toArray, List.set_cons_zero, List.set_cons_succ]
      refine wpAnyH_take (i := 4) (oi := { dst := some 89, op := Op.load 3 (.tmp 88), type := _, pos := _, after := _, guard := _ }) (v := ?_) rfl (by kernel_rfl) (by kernel_rfl) (by kernel_rfl) (fun _ _ _ h => h) (Or.inl ⟨by rfl, ?_⟩) hHeld ?_
      rotate_left
      · intro w99 hSw
        have y3 := hSw.2; first | (go_simp; done) | (go_simp; with_reducible rfl)
      try simp only [Act.put, List.setIfInBounds_toArray, List.set_cons_zero, List.set_cons_succ]
      refine wpAnyH_take (i := 5) (oi := { dst := some 90, op := Op.convert 3 5 (.tmp 89), type := _, pos := _, after := _, guard := _ }) (v := ?_) rfl (by kernel_rfl) (by kernel_rfl) (by kernel_rfl) (fun _ _ _ h => h) (Or.inl ⟨by rfl, ?_⟩) hHeld ?_
      rotate_left
      · intro w99 hSw
        first | (go_simp; done) | (go_simp; with_reducible rfl)
      try simp only [Act.put, List.setIfInBounds_toArray, List.set_cons_zero, List.set_cons_succ]
      refine wpAnyH_ready (rs := [2, 6]) (by kernel_rfl) (by simp) (AllReadyH.cons (o := { dst := some 87, op := Op.call { callee := Callee.value (Operand.func 37), args := #[(.tmp 86), (.const (.int .i64 119))], argTypes := #[28, 3] }, type := _, pos := _, after := _, guard := _ }) rfl (fun K hK => ?_) (AllReadyH.cons (o := { dst := some 91, op := Op.buildSlice 28 1 #[(0, (.tmp 90))], type := _, pos := _, after := _, guard := _ }) rfl (fun K hK => ?_) AllReadyH.nil))
      · go_simp
        with_reducible refine (HF119.out _ ((Kp.refl (fun j => j = b3) wa).drew)).mono ?_
        rintro e w' ⟨A', c', dt, m', rfl, hm', hm119, hrow', hk'⟩
        go_wp2_with fail
        have hx9 := And.intro ((hk'.cell (p := ⟨b1, 7, none⟩) hb1 (fun h => h)).trans y7) ((hk'.cell (p := ⟨b1, 3, none⟩) hb1 (fun h => h)).trans y3)
        refine hK.out _ _ hx9 (fun _ => ?_)
        clear hK hHeld
        have hHeld := hx9
        clear hx9
        generalize w' = wd2 at *
        try simp only [Act.put, List.setIfInBounds_toArray, List.set_cons_zero, List.set_cons_succ]
        refine wpAnyH_ready (rs := [6]) (by kernel_rfl) (by simp) (AllReadyH.cons (o := { dst := some 91, op := Op.buildSlice 28 1 #[(0, (.tmp 90))], type := _, pos := _, after := _, guard := _ }) rfl (fun K hK => ?_) AllReadyH.nil)
        go_simp
        have hx9 := (And.intro (((Kp.refl (fun _ => False) wd2).alloc (.cells #[.int .u8 (IntKind.u8.wrap a)] 5)).cell (p := ⟨b1, 7, none⟩) (Nat.lt_of_lt_of_le hb1 hk'.size) (fun h => h) |>.trans hHeld.1) ((((Kp.refl (fun _ => False) wd2).alloc (.cells #[.int .u8 (IntKind.u8.wrap a)] 5)).cell (p := ⟨b1, 3, none⟩) (Nat.lt_of_lt_of_le hb1 hk'.size) (fun h => h)).trans hHeld.2))
        refine hK.out _ _ hx9 (fun _ => ?_)
        clear hK hHeld
        have hHeld := hx9
        clear hx9
        try simp only [Act.put, List.setIfInBounds_toArray, List.set_cons_zero, List.set_cons_succ]
        obtain ⟨q8, hq8⟩ := byteOf a
        have hkA : Kp (fun _ => False) wa (wd2.alloc (.cells #[.int .u8 (IntKind.u8.wrap a)] 5)) := ((Kp.refl (fun _ => False) wa).drew.trans hk').alloc _
        have HRow := Lib.hid (hrow'.kp ((Kp.refl (fun _ => False) wd2).alloc (.cells #[.int .u8 (IntKind.u8.wrap a)] 5)) (fun _ _ h => h))
        obtain ⟨gb, hgb⟩ : ∃ gb, gb = wd2.heap.size := ⟨_, rfl⟩
        have HSrc : Hid (Src (wd2.alloc (.cells #[.int .u8 (IntKind.u8.wrap a)] 5)) 1 (.slice (some ⟨gb, 0, none⟩) 1 1) 1 (encB [q8])) := Lib.hid (by rw [hgb]; exact srcW _ (by have := Whole.new wd2 5 #[.int .u8 (IntKind.u8.wrap a)]; rw [hq8] at this ⊢; exact this) rfl (encB_one _))
        have hsz : wa.heap.size ≤ (wd2.alloc (.cells #[.int .u8 (IntKind.u8.wrap a)] 5)).heap.size := hkA.size
        rw [← hgb]
        clear hgb hq8
        refine wpAnyH_ready (rs := [7]) (by kernel_rfl) (by simp) (AllReadyH.cons (o := { dst := some 92, op := Op.call { callee := Callee.builtin Builtin.append, args := #[(.tmp 87), (.tmp 91)], argTypes := #[28, 28] }, type := _, pos := _, after := _, guard := _ }) rfl (fun K hK => ?_) AllReadyH.nil)
        refine step_row rfl (.tmp 87) (.tmp 91) 28 rfl wa.heap.size 5 i0 _ 1 1 Try.underlying28 Hi.out Hz0.out Hz1.out Hz2.out rfl (by decide) (.slice A' m' c') m' (encB dt) (by simp [Act.eval]; done) HRow.out (.slice (some ⟨gb, 0, none⟩) 1 1) 1 (encB [q8]) (by simp [Act.eval]; done) HSrc.out (by unfold maxLen; omega) (by omega) hsz ?_
        intro v7 w7 hr7 hg7 hn7
        have hk7 : Kp (fun j => (Value.slice A' m' c').ownBlock = some j) _ w7 := Kp.of_grown hg7 (fun i hi _ => hi)
        have hx9 := (And.intro ((hk7.cell (p := ⟨b1, 7, none⟩) (Nat.lt_of_lt_of_le hb1 hsz) (fun e => by have := (HRow.out.lt b1 e).1; have h9 : wa.heap.size ≤ b1 := this; omega)).trans hHeld.1) ((hk7.cell (p := ⟨b1, 3, none⟩) (Nat.lt_of_lt_of_le hb1 hsz) (fun e => by have := (HRow.out.lt b1 e).1; have h9 : wa.heap.size ≤ b1 := this; omega)).trans hHeld.2))
        refine hK.out _ _ hx9 (fun _ => ?_)
        clear hK hHeld
        have hHeld := hx9
        clear hx9
        try simp only [Act.put, List.setIfInBounds_toArray, List.set_cons_zero, List.set_cons_succ]
        have hB7 : Hid (Kp (fun j => j = b3) wa w7 ∧ Whole w7 b3 31 (bareC 9)) := Lib.hid (by
          have hkk : Kp (fun _ => False) wa w7 := (hkA.no.trans hk7).mono (fun j hj e => by have := (HRow.out.lt j e).1; have h9 : wa.heap.size ≤ j := this; omega)
          exact ⟨hkk.no, hkk.whole H3.out (fun h => h)⟩)
        have hb17 := Nat.lt_of_lt_of_le (Nat.lt_of_lt_of_le hb1 hsz) hk7.size
        clear hkA hk7 hk' hrow' HRow HSrc
        refine wpAnyH_take (i := 8) (oi := { dst := some 93, op := Op.fieldAddr 31 (.tmp 3) 7, type := _, pos := _, after := _, guard := _ }) (v := ?_) rfl (by kernel_rfl) (by kernel_rfl) (by kernel_rfl) (fun _ _ _ h => h) (Or.inl ⟨by rfl, ?_⟩) hHeld ?_
        rotate_left
        · intro w99 hSw
          first | (go_simp; done) | (go_simp; with_reducible rfl)
        try simp only [Act.put, List.setIfInBounds_toArray, List.set_cons_zero, List.set_cons_succ]
        obtain ⟨A7, c7, rfl⟩ := hr7.form
        have hz7 := hB7.out.2
        have z7 := hz7.cell 7
        have g7 := hz7.frozen 7
        have hlt7 := hz7.lt
        simp at z7
        refine wpAnyH_ready (rs := [9]) (by kernel_rfl) (by simp) (AllReadyH.cons (o := { dst := none, op := Op.store 28 (.tmp 93) (.tmp 92), type := _, pos := _, after := _, guard := _ }) rfl (fun K hK => ?_) AllReadyH.nil)
        go_simp
        refine hK.out _ _ (And.intro ((kp_one w7 b3 7 (.slice A7 (m' + 1) c7)).cell (p := ⟨b1, 7, none⟩) hb17 (fun e => h31 e.symm) |>.trans hHeld.1) (((kp_one w7 b3 7 (.slice A7 (m' + 1) c7)).cell (p := ⟨b1, 3, none⟩) hb17 (fun e => h31 e.symm)).trans hHeld.2)) (fun _ => ?_)
        clear hK
        try simp only [Act.put, List.setIfInBounds_toArray, List.set_cons_zero, List.set_cons_succ]
        refine wpAnyH_done (by kernel_rfl) ?_ _
        have Hr7 := Lib.hid hr7
        clear hHeld hr7 hg7 hn7 z7 g7 hz7
        go_wp2_with fail
        go_meet
        case rel => exact left_few ⟨9, 0, 0, 0, 0, 0, false⟩ hB7.out.1 hB7.out.2 (dt := dt ++ [q8]) (by rw [show encB (dt ++ [q8]) = encB dt ++ encB [q8] by simp [encB]]; exact Hr7.out) hb3 (by rw [List.length_append, hm'.out]; rfl) (by omega) (by rw [hm'.out]; simp [encF])
      · go_simp
        have hx9 : (fun w' => w'.cell? ⟨b1, 7, none⟩ = some (.slice A dl cap) ∧ w'.cell? ⟨b1, 3, none⟩ = some (.int .i64 a)) (wa.alloc (.cells #[.int .u8 (IntKind.u8.wrap a)] 5)).drew := And.intro (((((Kp.refl (fun _ => False) wa).alloc (.cells #[.int .u8 (IntKind.u8.wrap a)] 5)).drew).cell (p := ⟨b1, 7, none⟩) hb1 (fun h => h)).trans y7) (((((Kp.refl (fun _ => False) wa).alloc (.cells #[.int .u8 (IntKind.u8.wrap a)] 5)).drew).cell (p := ⟨b1, 3, none⟩) hb1 (fun h => h)).trans y3)
        refine hK.out _ _ hx9 (fun _ => ?_)
        clear hK hHeld
        have hHeld := hx9
        clear hx9
        try simp only [Act.put, List.setIfInBounds_toArray, List.set_cons_zero, List.set_cons_succ]
        refine wpAnyH_ready (rs := [2]) (by kernel_rfl) (by simp) (AllReadyH.cons (o := { dst := some 87, op := Op.call { callee := Callee.value (Operand.func 37), args := #[(.tmp 86), (.const (.int .i64 119))], argTypes := #[28, 3] }, type := _, pos := _, after := _, guard := _ }) rfl (fun K hK => ?_) AllReadyH.nil)
        go_simp
        with_reducible refine (HF119.out _ (((Kp.refl (fun j => j = b3) wa).alloc (.cells #[.int .u8 (IntKind.u8.wrap a)] 5)).drew)).mono ?_
        rintro e w' ⟨A', c', dt, m', rfl, hm', hm119, hrow', hk'⟩
        go_wp2_with fail
        have hx9 := And.intro ((hk'.cell (p := ⟨b1, 7, none⟩) (show b1 < (wa.alloc (.cells #[.int .u8 (IntKind.u8.wrap a)] 5)).heap.size by simp only [World.size_alloc]; exact Nat.lt_succ_of_lt hb1) (fun h => h)).trans hHeld.1) ((hk'.cell (p := ⟨b1, 3, none⟩) (show b1 < (wa.alloc (.cells #[.int .u8 (IntKind.u8.wrap a)] 5)).heap.size by simp only [World.size_alloc]; exact Nat.lt_succ_of_lt hb1) (fun h => h)).trans hHeld.2)
        refine hK.out _ _ hx9 (fun _ => ?_)
        clear hK hHeld
        have hHeld := hx9
        clear hx9
        generalize w' = wd2 at *
        try simp only [Act.put, List.setIfInBounds_toArray, List.set_cons_zero, List.set_cons_succ]
        obtain ⟨q8, hq8⟩ := byteOf a
        have hkA : Kp (fun _ => False) wa wd2 := (((Kp.refl (fun _ => False) wa).alloc (.cells #[.int .u8 (IntKind.u8.wrap a)] 5)).drew).trans hk'
        have HRow : Hid (RowAt wd2 wa.heap.size 1 (.slice A' m' c') m' (encB dt)) := Lib.hid (hrow'.base (show wa.heap.size ≤ (wa.alloc (.cells #[.int .u8 (IntKind.u8.wrap a)] 5)).heap.size by simp only [World.size_alloc]; exact Nat.le_succ _))
        obtain ⟨gb, hgb⟩ : ∃ gb, gb = wa.heap.size := ⟨_, rfl⟩
        have HSrc : Hid (Src wd2 1 (.slice (some ⟨gb, 0, none⟩) 1 1) 1 (encB [q8])) := Lib.hid (by rw [hgb]; exact srcW (e := 5) _ (hk'.whole (by have := (Whole.new wa 5 #[.int .u8 (IntKind.u8.wrap a)]).drew; rw [hq8] at this; rw [hq8]; exact this) (fun h => h)) rfl (encB_one _))
        have hsz : wa.heap.size ≤ wd2.heap.size := hkA.size
        rw [← hgb]
        clear hgb hq8
        refine wpAnyH_ready (rs := [7]) (by kernel_rfl) (by simp) (AllReadyH.cons (o := { dst := some 92, op := Op.call { callee := Callee.builtin Builtin.append, args := #[(.tmp 87), (.tmp 91)], argTypes := #[28, 28] }, type := _, pos := _, after := _, guard := _ }) rfl (fun K hK => ?_) AllReadyH.nil)
        refine step_row rfl (.tmp 87) (.tmp 91) 28 rfl wa.heap.size 5 i0 _ 1 1 Try.underlying28 Hi.out Hz0.out Hz1.out Hz2.out rfl (by decide) (.slice A' m' c') m' (encB dt) (by simp [Act.eval]; done) HRow.out (.slice (some ⟨gb, 0, none⟩) 1 1) 1 (encB [q8]) (by simp [Act.eval]; done) HSrc.out (by unfold maxLen; omega) (by omega) hsz ?_
        intro v7 w7 hr7 hg7 hn7
        have hk7 : Kp (fun j => (Value.slice A' m' c').ownBlock = some j) _ w7 := Kp.of_grown hg7 (fun i hi _ => hi)
        have hx9 := (And.intro ((hk7.cell (p := ⟨b1, 7, none⟩) (Nat.lt_of_lt_of_le hb1 hsz) (fun e => by have := (HRow.out.lt b1 e).1; omega)).trans hHeld.1) ((hk7.cell (p := ⟨b1, 3, none⟩) (Nat.lt_of_lt_of_le hb1 hsz) (fun e => by have := (HRow.out.lt b1 e).1; omega)).trans hHeld.2))
        refine hK.out _ _ hx9 (fun _ => ?_)
        clear hK hHeld
        have hHeld := hx9
        clear hx9
        try simp only [Act.put, List.setIfInBounds_toArray, List.set_cons_zero, List.set_cons_succ]
        have hB7 : Hid (Kp (fun j => j = b3) wa w7 ∧ Whole w7 b3 31 (bareC 9)) := Lib.hid (by
          have hkk : Kp (fun _ => False) wa w7 := (hkA.no.trans hk7).mono (fun j hj e => by have := (HRow.out.lt j e).1; omega)
          exact ⟨hkk.no, hkk.whole H3.out (fun h => h)⟩)
        have hb17 := Nat.lt_of_lt_of_le (Nat.lt_of_lt_of_le hb1 hsz) hk7.size
        clear hkA hk7 hk' hrow' HRow HSrc
        refine wpAnyH_take (i := 8) (oi := { dst := some 93, op := Op.fieldAddr 31 (.tmp 3) 7, type := _, pos := _, after := _, guard := _ }) (v := ?_) rfl (by kernel_rfl) (by kernel_rfl) (by kernel_rfl) (fun _ _ _ h => h) (Or.inl ⟨by rfl, ?_⟩) hHeld ?_
        rotate_left
        · intro w99 hSw
          first | (go_simp; done) | (go_simp; with_reducible rfl)
        try simp only [Act.put, List.setIfInBounds_toArray, List.set_cons_zero, List.set_cons_succ]
        obtain ⟨A7, c7, rfl⟩ := hr7.form
        have hz7 := hB7.out.2
        have z7 := hz7.cell 7
        have g7 := hz7.frozen 7
        have hlt7 := hz7.lt
        simp at z7
        refine wpAnyH_ready (rs := [9]) (by kernel_rfl) (by simp) (AllReadyH.cons (o := { dst := none, op := Op.store 28 (.tmp 93) (.tmp 92), type := _, pos := _, after := _, guard := _ }) rfl (fun K hK => ?_) AllReadyH.nil)
        go_simp
        refine hK.out _ _ (And.intro ((kp_one w7 b3 7 (.slice A7 (m' + 1) c7)).cell (p := ⟨b1, 7, none⟩) hb17 (fun e => h31 e.symm) |>.trans hHeld.1) (((kp_one w7 b3 7 (.slice A7 (m' + 1) c7)).cell (p := ⟨b1, 3, none⟩) hb17 (fun e => h31 e.symm)).trans hHeld.2)) (fun _ => ?_)
        clear hK
        try simp only [Act.put, List.setIfInBounds_toArray, List.set_cons_zero, List.set_cons_succ]
        refine wpAnyH_done (by kernel_rfl) ?_ _
        have Hr7 := Lib.hid hr7
        clear hHeld hr7 hg7 hn7 z7 g7 hz7
        go_wp2_with fail
        go_meet
        case rel => exact left_few ⟨9, 0, 0, 0, 0, 0, false⟩ hB7.out.1 hB7.out.2 (dt := dt ++ [q8]) (by rw [show encB (dt ++ [q8]) = encB dt ++ encB [q8] by simp [encB]]; exact Hr7.out) hb3 (by rw [List.length_append, hm'.out]; rfl) (by omega) (by rw [hm'.out]; simp [encF])
    · -- kind 10
      have h3 := H3.out
      have c1 := h3.cell 1
      have c2 := h3.cell 2
      have c3 := h3.cell 3
      have c4 := h3.cell 4
      have c6 := h3.cell 6
      have c7 := h3.cell 7
      have c8 := h3.cell 8
      have f1 := h3.frozen 1
      have f2 := h3.frozen 2
      have f3 := h3.frozen 3
      have f4 := h3.frozen 4
      have f6 := h3.frozen 6
      have f7 := h3.frozen 7
      have f8 := h3.frozen 8
      simp at c1 c2 c3 c4 c6 c7 c8
      clear h3
      go_wp2_with fail
      with_reducible refine (HMi.out _).mono ?_
      rintro e w' ⟨v1, rfl, v1l, v1h, rfl⟩
      go_wp2_with fail
      go_meet
      case rel => exact left_bare ⟨10, v1, 0, 0, 0, 0, false⟩ (Kp.set (S := fun j => j = b3) (Kp.refl (fun j => j = b3) wa) (p := ⟨b3, 1, none⟩) (.inl rfl) (.int .i64 v1)) ((H3.out.set 1 (.int .i64 v1))) (by simp [encF])
    · -- kind 11
      have h3 := H3.out
      have c1 := h3.cell 1
      have c2 := h3.cell 2
      have c3 := h3.cell 3
      have c4 := h3.cell 4
      have c6 := h3.cell 6
      have c7 := h3.cell 7
      have c8 := h3.cell 8
      have f1 := h3.frozen 1
      have f2 := h3.frozen 2
      have f3 := h3.frozen 3
      have f4 := h3.frozen 4
      have f6 := h3.frozen 6
      have f7 := h3.frozen 7
      have f8 := h3.frozen 8
      simp at c1 c2 c3 c4 c6 c7 c8
      clear h3
      go_wp2_with fail
      with_reducible refine (HMi.out _).mono ?_
      rintro e w' ⟨v1, rfl, v1l, v1h, rfl⟩
      go_wp2_with fail
      go_meet
      case rel => exact left_bare ⟨11, v1, 0, 0, 0, 0, false⟩ (Kp.set (S := fun j => j = b3) (Kp.refl (fun j => j = b3) wa) (p := ⟨b3, 1, none⟩) (.inl rfl) (.int .i64 v1)) ((H3.out.set 1 (.int .i64 v1))) (by simp [encF])
    · -- kind 12
      have h3 := H3.out
      have c1 := h3.cell 1
      have c2 := h3.cell 2
      have c3 := h3.cell 3
      have c4 := h3.cell 4
      have c6 := h3.cell 6
      have c7 := h3.cell 7
      have c8 := h3.cell 8
      have f1 := h3.frozen 1
      have f2 := h3.frozen 2
      have f3 := h3.frozen 3
      have f4 := h3.frozen 4
      have f6 := h3.frozen 6
      have f7 := h3.frozen 7
      have f8 := h3.frozen 8
      simp at c1 c2 c3 c4 c6 c7 c8
      clear h3
      go_wp2_with fail
      with_reducible refine (HMa.out _).mono ?_
      rintro e w' ⟨v1, rfl, v1l, v1h, rfl⟩
      go_wp2_with fail
      go_meet
      case rel => exact left_bare ⟨12, 0, 0, v1, 0, 0, false⟩ (Kp.set (S := fun j => j = b3) (Kp.refl (fun j => j = b3) wa) (p := ⟨b3, 3, none⟩) (.inl rfl) (.int .i64 v1)) ((H3.out.set 3 (.int .i64 v1))) (by simp [encF])
  case rest =>
    obtain ⟨f, hz, hr, hd120, hs8, hsp, hk⟩ := hcut
    generalize wc = w5 at *
    have hzc := hz
    have y5' := (hk.cell (p := ⟨w.heap.size, 5, none⟩) hb1 (fun e => h31 e.symm)).trans y5
    have h2' := hk.whole H2.out (fun e => h32 e.symm)
    obtain ⟨⟨fk, fi, fo, fa, fb, fn, ff⟩, dA, dc, sA, sc, fd, fs⟩ := f
    have e0 := hzc.cell 0
    have e1 := hzc.cell 1
    have e2 := hzc.cell 2
    have e3 := hzc.cell 3
    have e4 := hzc.cell 4
    have e5 := hzc.cell 5
    have e6 := hzc.cell 6
    have e7 := hzc.cell 7
    have e8 := hzc.cell 8
    have g0 := h2'.cell 0
    have g1 := h2'.cell 1
    have g2 := h2'.cell 2
    have g3 := h2'.cell 3
    have g4 := h2'.cell 4
    have g5 := h2'.cell 5
    have g6 := h2'.cell 6
    have g7 := h2'.cell 7
    have g8 := h2'.cell 8
    have f0 := h2'.frozen 0
    have f1 := h2'.frozen 1
    have f2 := h2'.frozen 2
    have f3 := h2'.frozen 3
    have f4 := h2'.frozen 4
    have f5 := h2'.frozen 5
    have f6 := h2'.frozen 6
    have f7 := h2'.frozen 7
    have f8 := h2'.frozen 8
    simp [encF] at e0 e1 e2 e3 e4 e5 e6 e7 e8
    simp at g0 g1 g2 g3 g4 g5 g6 g7 g8
    have hb15 := Nat.lt_of_lt_of_le hb1 hk.size
    have hb25 := h2'.lt
    have hb35 := hzc.lt
    have HP0 : Hid (∀ w', Calls Try.prog 9 #[.int .i64 0, .int .i64 20] w' fun e w2 => e = .returned (.int .i64 0) ∧ w' = w2) := Lib.hid (fun w' => pick_any 0 20 w' (by omega) (by omega))
    have z := ((((((((h2'.set 0 (.int .i64 fk)).set 1 (.int .i64 fi)).set 2 (.int .i64 fo)).set 3 (.int .i64 fa)).set 4 (.int .i64 fb)).set 5 (.int .i64 fn)).set 6 (.bool ff)).set 7 (.slice dA fd.length dc)).set 8 (.slice sA fs.length sc)
    have hkz := (((((((((Kp.refl (fun j => j = w.heap.size + 1) w5).set (p := ⟨w.heap.size + 1, 0, none⟩) (.inl rfl) (.int .i64 fk)).set (p := ⟨w.heap.size + 1, 1, none⟩) (.inl rfl) (.int .i64 fi)).set (p := ⟨w.heap.size + 1, 2, none⟩) (.inl rfl) (.int .i64 fo)).set (p := ⟨w.heap.size + 1, 3, none⟩) (.inl rfl) (.int .i64 fa)).set (p := ⟨w.heap.size + 1, 4, none⟩) (.inl rfl) (.int .i64 fb)).set (p := ⟨w.heap.size + 1, 5, none⟩) (.inl rfl) (.int .i64 fn)).set (p := ⟨w.heap.size + 1, 6, none⟩) (.inl rfl) (.bool ff)).set (p := ⟨w.heap.size + 1, 7, none⟩) (.inl rfl) (.slice dA fd.length dc)).set (p := ⟨w.heap.size + 1, 8, none⟩) (.inl rfl) (.slice sA fs.length sc)
    have Z := Lib.hid z
    have Hkz := Lib.hid hkz
    have Hr := Lib.hid hr
    have Hk := Lib.hid hk
    clear hz hzc h2' z hkz hr hk
    go_wp2_with fail
    with_reducible refine (HP0.out _).mono ?_
    rintro e w6 ⟨rfl, rfl⟩
    go_wp2_with fail
    have z := Z.out
    have hkz := Hkz.out
    have q0 := z.cell 0
    have q1 := z.cell 1
    have q2 := z.cell 2
    have q3 := z.cell 3
    have q4 := z.cell 4
    have q5 := z.cell 5
    have q6 := z.cell 6
    have q7 := z.cell 7
    have q8 := z.cell 8
    simp at q0 q1 q2 q3 q4 q5 q6 q7 q8
    have hwa := Hka.out.size
    have hend : Reads ((((((((((w5.setCell ⟨w.heap.size + 1, 0, none⟩ (.int .i64 fk)).setCell ⟨w.heap.size + 1, 1, none⟩ (.int .i64 fi)).setCell ⟨w.heap.size + 1, 2, none⟩ (.int .i64 fo)).setCell ⟨w.heap.size + 1, 3, none⟩ (.int .i64 fa)).setCell ⟨w.heap.size + 1, 4, none⟩ (.int .i64 fb)).setCell ⟨w.heap.size + 1, 5, none⟩ (.int .i64 fn)).setCell ⟨w.heap.size + 1, 6, none⟩ (.bool ff)).setCell ⟨w.heap.size + 1, 7, none⟩ (.slice dA fd.length dc)).setCell ⟨w.heap.size + 1, 8, none⟩ (.slice sA fs.length sc))) (fun k => w.heap.size ≤ k ∧ k < w5.heap.size) ⟨⟨fk, fi, fo, fa, fb, fn, ff⟩, dA, dc, sA, sc, fd, fs⟩ :=
      (Hr.out.kp hkz (fun k e h => by omega)).sup (fun k e => ⟨by omega, e.2⟩)
    generalize ((((((((((w5.setCell ⟨w.heap.size + 1, 0, none⟩ (.int .i64 fk)).setCell ⟨w.heap.size + 1, 1, none⟩ (.int .i64 fi)).setCell ⟨w.heap.size + 1, 2, none⟩ (.int .i64 fo)).setCell ⟨w.heap.size + 1, 3, none⟩ (.int .i64 fa)).setCell ⟨w.heap.size + 1, 4, none⟩ (.int .i64 fb)).setCell ⟨w.heap.size + 1, 5, none⟩ (.int .i64 fn)).setCell ⟨w.heap.size + 1, 6, none⟩ (.bool ff)).setCell ⟨w.heap.size + 1, 7, none⟩ (.slice dA fd.length dc)).setCell ⟨w.heap.size + 1, 8, none⟩ (.slice sA fs.length sc))) = wf at z hkz hend q0 q1 q2 q3 q4 q5 q6 q7 q8 ⊢
    have hkw : Kp (fun _ => False) w wf := (((Hka.out.no.trans Hk.out).mono (S' := fun j => w.heap.size ≤ j) (fun j hj e => by omega)).trans (hkz.mono (S' := fun j => w.heap.size ≤ j) (fun j _ e => by omega))).new _
    exact bodyPost_ret (v := .agg #[.int .i64 fk, .int .i64 fi, .int .i64 fo, .int .i64 fa, .int .i64 fb, .int .i64 fn, .bool ff, .slice dA fd.length dc, .slice sA fs.length sc]) (by simp [results, Try.results21, go_sem, q0, q1, q2, q3, q4, q5, q6, q7, q8]) rfl ⟨⟨⟨fk, fi, fo, fa, fb, fn, ff⟩, dA, dc, sA, sc, fd, fs⟩, rfl, hend.sup (fun k e => ⟨e.1, Nat.lt_of_lt_of_le e.2 hkz.size⟩), hd120, hs8, hsp, hkw⟩
end Go.Proofs.Ytoiakdddghbdnaa

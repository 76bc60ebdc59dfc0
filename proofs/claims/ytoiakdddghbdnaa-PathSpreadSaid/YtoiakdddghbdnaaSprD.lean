/-
  argosyref1.SameFrame: two frames that are alike.
-/
import Derived.Test.YtoiakdddghbdnaaSprC
import Derived.Deep.CutBlock
namespace Go.Proofs.Ytoiakdddghbdnaa
open Go.RowKit

theorem eq_pr (w : World) (d : Nat) (a b c e : Int) : (Op.equalIn (d + 1 + 1) 37 (.agg #[.int .i64 a, .int .i64 b]) (.agg #[.int .i64 c, .int .i64 e])).run Try.prog w = .ok (a == c && b == e) w := by
  obtain ⟨ii, hii⟩ : ∃ ii, Try.prog.info? 3 = some ii := by
    have : (Try.prog.info? 3).isSome = true := by kernel_rfl
    exact Option.isSome_iff_exists.1 this
  rw [run_equalIn_array (P := Try.prog) w (d + 1) _ _ Try.underlying37 hii]
  have hc : Try.prog.cellsOf 3 = 1 := by kernel_rfl
  have hr : List.range 2 = [0, 1] := by decide
  rw [hc, hr]
  simp only [Op.eqItems, Sem.run_bind]
  go_simp
  by_cases h1 : a = c
  · by_cases h2 : b = e
    · simp [h1, h2]
    · simp [h1, h2]
  · simp [h1]
theorem neq_pr (w : World) (a b c e : Int) : (binOp .neq 37 (.agg #[.int .i64 a, .int .i64 b]) (.agg #[.int .i64 c, .int .i64 e])).run Try.prog w = .ok (.bool (!(a == c && b == e))) w := by
  rw [run_neq_struct, eq_pr]
  rfl

/-- Alike, but for their notes. -/
def Alike (f g : Fr) : Prop := f.h.k = g.h.k ∧ f.h.i = g.h.i ∧ f.h.o = g.h.o ∧ f.h.a = g.h.a ∧ f.h.b = g.h.b ∧ f.h.fin = g.h.fin ∧ f.d = g.d ∧ f.s = g.s

set_option maxRecDepth 100000 in
set_option maxHeartbeats 4000000 in
theorem same_yes {w : World} {F G : Nat → Prop} {f g : Fr} (hf : Reads w F f) (hg : Reads w G g) (h : Alike f g) (hsl : f.s.length ≤ 8) :
    Calls Try.prog 14 #[aggF f, aggF g] w fun e w' => e = .returned (.bool true) ∧ Kp (fun _ => False) w w' := by
  obtain ⟨⟨fk, fi, fo, fa, fb, fn, ff⟩, dA, dc, sA, sc, d, s⟩ := f
  obtain ⟨⟨gk, gi, go, ga, gb, gn, gf⟩, eA, ec, tA, tc, d2, s2⟩ := g
  obtain ⟨h1, h2, h3, h4, h5, h6, h7, h8⟩ := h
  dsimp only at h1 h2 h3 h4 h5 h6 h7 h8 hsl
  subst h1 h2 h3 h4 h5 h6 h7 h8
  show Calls Try.prog 14 #[.agg #[.int .i64 fk, .int .i64 fi, .int .i64 fo, .int .i64 fa, .int .i64 fb, .int .i64 fn, .bool ff, .slice dA d.length dc, .slice sA s.length sc], .agg #[.int .i64 fk, .int .i64 fi, .int .i64 fo, .int .i64 fa, .int .i64 fb, .int .i64 gn, .bool ff, .slice eA d.length ec, .slice tA s.length tc]] w _
  have hk0 : Kp (fun _ => False) w ((w.alloc (.cells #[.int .i64 fk, .int .i64 fi, .int .i64 fo, .int .i64 fa, .int .i64 fb, .int .i64 fn, .bool ff, .slice dA d.length dc, .slice sA s.length sc] 31)).alloc (.cells #[.int .i64 fk, .int .i64 fi, .int .i64 fo, .int .i64 fa, .int .i64 fb, .int .i64 gn, .bool ff, .slice eA d.length ec, .slice tA s.length tc] 31)) := ((Kp.refl _ w).alloc _).alloc _
  have HZ1 : Hid (Whole ((w.alloc (.cells #[.int .i64 fk, .int .i64 fi, .int .i64 fo, .int .i64 fa, .int .i64 fb, .int .i64 fn, .bool ff, .slice dA d.length dc, .slice sA s.length sc] 31)).alloc (.cells #[.int .i64 fk, .int .i64 fi, .int .i64 fo, .int .i64 fa, .int .i64 fb, .int .i64 gn, .bool ff, .slice eA d.length ec, .slice tA s.length tc] 31)) w.heap.size 31 #[.int .i64 fk, .int .i64 fi, .int .i64 fo, .int .i64 fa, .int .i64 fb, .int .i64 fn, .bool ff, .slice dA d.length dc, .slice sA s.length sc]) := Lib.hid ((whole_at _ _ rfl rfl).alloc _)
  have HZ2 : Hid (Whole ((w.alloc (.cells #[.int .i64 fk, .int .i64 fi, .int .i64 fo, .int .i64 fa, .int .i64 fb, .int .i64 fn, .bool ff, .slice dA d.length dc, .slice sA s.length sc] 31)).alloc (.cells #[.int .i64 fk, .int .i64 fi, .int .i64 fo, .int .i64 fa, .int .i64 fb, .int .i64 gn, .bool ff, .slice eA d.length ec, .slice tA s.length tc] 31)) (w.heap.size + 1) 31 #[.int .i64 fk, .int .i64 fi, .int .i64 fo, .int .i64 fa, .int .i64 fb, .int .i64 gn, .bool ff, .slice eA d.length ec, .slice tA s.length tc]) := Lib.hid (whole_at _ _ rfl (by simp))
  have cv1 := conv_bs (hf.d.kp hk0 (fun _ _ h => h)) _ rfl
  have cv2 := conv_bs (hg.d.kp hk0 (fun _ _ h => h)) _ rfl
  have HS1 := Lib.hid (hk0.src hf.s (fun _ _ h => h))
  have HS2 := Lib.hid (hk0.src hg.s (fun _ _ h => h))
  have Hk0 := Lib.hid hk0
  dsimp only at cv1 cv2 HS1 HS2
  clear hf hg hk0
  generalize d.length = dl at *
  generalize hm : s.length = m at *
  have Hm : Hid (m = s.length) := Lib.hid hm.symm
  clear hm
  generalize (⟨d.toArray⟩ : ByteArray) = str at *
  have hne : ∀ (w : World) (a b : Int), (binOp .neq 37 (.agg #[.int .i64 a, .int .i64 b]) (.agg #[.int .i64 a, .int .i64 b])).run Try.prog w = .ok (.bool false) w := fun w a b => by rw [neq_pr]; simp
  go_enter Try.func14, Try.ntmps14
  go_wp2_with fail
  generalize (w.alloc (.cells #[.int .i64 fk, .int .i64 fi, .int .i64 fo, .int .i64 fa, .int .i64 fb, .int .i64 fn, .bool ff, .slice dA dl dc, .slice sA m sc] 31)).alloc (.cells #[.int .i64 fk, .int .i64 fi, .int .i64 fo, .int .i64 fa, .int .i64 fb, .int .i64 gn, .bool ff, .slice eA dl ec, .slice tA m tc] 31) = w2 at *
  clear cv1 cv2

  go_loopw [5] (fun vi wr => ∃ i : Nat, i ≤ m ∧ vi = .int .i64 i ∧ Hid (Kp (fun _ => False) w2 wr)) (fun vi _ => m - (intOf vi).toNat)
  case atStart => exact ⟨0, by omega, rfl, Lib.hid (Kp.refl _ _)⟩
  case round =>
    obtain ⟨i, him, rfl, HK⟩ := hrel
    have z1 := HK.out.whole HZ1.out (fun h => h)
    have z2 := HK.out.whole HZ2.out (fun h => h)
    have x8 := z1.cell 8
    have t8 := z2.cell 8
    have xl := z1.lt
    have tl := z2.lt
    simp at x8 t8
    clear z1 z2
    by_cases hlt : i < m
    · obtain ⟨b1, o1, c1, hv1, hb1, hc1⟩ := Src.wide HS1.out (by omega) (by omega)
      obtain ⟨b2, o2, c2, hv2, hb2, hc2⟩ := Src.wide HS2.out (by omega) (by omega)
      cases hv1
      cases hv2
      obtain ⟨r, hr⟩ : ∃ r, s[i]? = some r := ⟨_, List.getElem?_eq_getElem (by rw [← Hm.out]; exact hlt)⟩
      have e0 := (HK.out.cell (p := ⟨b1, _, none⟩) hb1 (fun h => h)).trans (hc1 (i * 2) _ (pp0 hr))
      have e1 := (HK.out.cell (p := ⟨b1, _, none⟩) hb1 (fun h => h)).trans (hc1 (i * 2 + 1) _ (pp1 hr))
      have d0 := (HK.out.cell (p := ⟨b2, _, none⟩) hb2 (fun h => h)).trans (hc2 (i * 2) _ (pp0 hr))
      have d1 := (HK.out.cell (p := ⟨b2, _, none⟩) hb2 (fun h => h)).trans (hc2 (i * 2 + 1) _ (pp1 hr))
      rw [← Nat.add_assoc] at e1 d1
      have hbw1 := Nat.lt_of_lt_of_le hb1 HK.out.size
      have hbw2 := Nat.lt_of_lt_of_le hb2 HK.out.size
      obtain ⟨r1, r2⟩ := r
      dsimp only at e0 e1 d0 d1
      have q1 : (i : Int) < (m : Int) := by omega
      have q3 : (0 : Int) ≤ (i : Int) := by omega
      clear hc1 hc2 hr
      go_wp2_with fail
      go_quiet (fail)
      go_wp2_with fail
      go_roundw
      case rel => exact ⟨i + 1, by omega, by go_num, Lib.hid (HK.out.drewN _)⟩
      case measure => simp [intOf]; omega
    · obtain rfl : i = m := by omega
      go_wp2_with fail
      go_ret
      exact ⟨rfl, Hk0.out.trans HK.out⟩
end Go.Proofs.Ytoiakdddghbdnaa

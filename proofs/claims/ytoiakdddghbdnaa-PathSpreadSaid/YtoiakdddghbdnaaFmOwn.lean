/-
  ledger.own: a packet's frames, their bytes and runs, in memory of their own. (printed by src/gen_XFmOwn.py)
-/
import Derived.Test.YtoiakdddghbdnaaFm
namespace Go.Proofs.Ytoiakdddghbdnaa
open Go.RowKit

/-- A frame, as it is told. -/
abbrev Fr.pu (f : Fr) : Hd × List UInt8 × List Pr := (f.h, f.d, f.s)

theorem encs_set {α : Type} {enc : α → List Value} {sz : Nat} (hk : ∀ x, (enc x).length = sz) (l : List α) (i j : Nat) (x x' : α) (u : Value) (hx : l[i]? = some x) (hj : j < sz) (he : enc x' = (enc x).set j u) :
    (encs enc l).set (i * sz + j) u = encs enc (l.set i x') := by
  induction l generalizing i with
  | nil => simp at hx
  | cons a l ih =>
    have e1 : encs enc (a :: l) = enc a ++ encs enc l := rfl
    cases i with
    | zero =>
      simp only [List.getElem?_cons_zero, Option.some.injEq] at hx
      subst hx
      have e2 : encs enc ((a :: l).set 0 x') = enc x' ++ encs enc l := rfl
      rw [e1, e2, he, Nat.zero_mul, Nat.zero_add, List.set_append_left _ _ (by rw [hk]; exact hj)]
    | succ i =>
      have e2 : encs enc ((a :: l).set (i + 1) x') = enc a ++ encs enc (l.set i x') := rfl
      rw [e1, e2, List.set_append_right _ _ (by rw [hk, Nat.add_mul]; omega), hk, show (i + 1) * sz + j - sz = i * sz + j by rw [Nat.add_mul]; omega, ih i (by simpa using hx)]

theorem kk2g {S : Nat → Prop} {w w' : World} {b o b' o' : Nat} {a a' : Value} (l : b < w.heap.size) (n : ¬ S b) (q : w.cell? ⟨b, o, none⟩ = some a) (l' : b' < w.heap.size) (n' : ¬ S b') (q' : w.cell? ⟨b', o', none⟩ = some a') (h : Kp S w w') :
    w'.cell? ⟨b, o, none⟩ = some a ∧ w'.cell? ⟨b', o', none⟩ = some a' ∧ Kp S w w' :=
  ⟨(h.cell (p := ⟨b, o, none⟩) l n).trans q, (h.cell (p := ⟨b', o', none⟩) l' n').trans q', h⟩

/-- What the loop has made of the frames so far: the first i of them own their memory (blocks from B on, but for the row's own). -/
structure Owned (w wr : World) (v : Value) (l fs : List Fr) (i : Nat) : Prop where
  row : RowAt wr (w.heap.size + 2) 9 v l.length (encs encF fs)
  pu : fs.map Fr.pu = l.map Fr.pu
  done : ∀ (j : Nat) (f : Fr), fs[j]? = some f → j < i → Reads wr (fun k => (w.heap.size + 2 ≤ k ∧ k < wr.heap.size) ∧ v.ownBlock ≠ some k) f
  todo : ∀ (j : Nat) (f : Fr), fs[j]? = some f → i ≤ j → l[j]? = some f
  kp : Kp (fun _ => False) w wr
theorem Owned.len {w wr : World} {v : Value} {l fs : List Fr} {i : Nat} (h : Owned w wr v l fs i) : fs.length = l.length := by
  have := congrArg List.length h.pu
  simpa using this
theorem Owned.kpr {w wr wr' : World} {v : Value} {l fs : List Fr} {i : Nat} (h : Owned w wr v l fs i) (hk : Kp (fun _ => False) wr wr') : Owned w wr' v l fs i :=
  ⟨h.row.kp hk (fun _ _ h => h), h.pu, fun j f hj hlt => ((h.done j f hj hlt).kp hk (fun _ _ h => h)).sup (fun _ e => ⟨⟨e.1.1, Nat.lt_of_lt_of_le e.1.2 hk.size⟩, e.2⟩), h.todo, h.kp.trans hk⟩
/-- The two stores of one round. -/
theorem Owned.step {w wr : World} {g off c m i : Nat} {l fs : List Fr} {f : Fr} (h : Owned w wr (.slice (some ⟨g, off, none⟩) m c) l fs i) (hm : l.length = m) (hi : fs[i]? = some f) {dA' sA' : Option Addr} {dc' sc' : Nat}
    {w1 w2 : World} (hk1 : Kp (fun _ => False) wr w1) (hd : Bs w1 (.slice dA' f.d.length dc') f.d) (hdb : ∀ k, (Value.slice dA' f.d.length dc').ownBlock = some k → wr.heap.size ≤ k ∧ k < w1.heap.size)
    (hk2 : Kp (fun _ => False) (w1.setCell ⟨g, off + i * 9 + 7, none⟩ (.slice dA' f.d.length dc')) w2) (hs : Src w2 2 (.slice sA' f.s.length sc') f.s.length (encs encP f.s)) (hsb : ∀ k, (Value.slice sA' f.s.length sc').ownBlock = some k → w1.heap.size ≤ k ∧ k < w2.heap.size) :
    ∃ fs', Owned w (w2.setCell ⟨g, off + i * 9 + 8, none⟩ (.slice sA' f.s.length sc')) (.slice (some ⟨g, off, none⟩) m c) l fs' (i + 1) := by
  subst hm
  have hg := h.row.lt g rfl
  have hil : i < l.length := by rw [← h.len]; exact (List.getElem?_eq_some_iff.1 hi).1
  have hs1 := hk1.size
  have hs2 : w1.heap.size ≤ w2.heap.size := by have := hk2.size; simpa using this
  have hW1 : Kp (fun k => k = g) w1 (w1.setCell ⟨g, off + i * 9 + 7, none⟩ (.slice dA' f.d.length dc')) := Kp.set (S := fun k => k = g) (Kp.refl _ w1) (p := ⟨g, _, none⟩) (.inl rfl) _
  have hW2 : Kp (fun k => k = g) w2 (w2.setCell ⟨g, off + i * 9 + 8, none⟩ (.slice sA' f.s.length sc')) := Kp.set (S := fun k => k = g) (Kp.refl _ w2) (p := ⟨g, _, none⟩) (.inl rfl) _
  have hW : Kp (fun k => k = g) w1 (w2.setCell ⟨g, off + i * 9 + 8, none⟩ (.slice sA' f.s.length sc')) := (hW1.trans hk2.no).trans hW2
  have hWr : Kp (fun k => k = g) wr (w2.setCell ⟨g, off + i * 9 + 8, none⟩ (.slice sA' f.s.length sc')) := hk1.no.trans hW
  have hsz : w2.heap.size = (w2.setCell ⟨g, off + i * 9 + 8, none⟩ (.slice sA' f.s.length sc')).heap.size := by simp
  have hm9 : i * 9 + 8 < l.length * 9 := by omega
  have r1 := (h.row.kp hk1 (fun _ _ h => h)).set (i * 9 + 7) (.slice dA' f.d.length dc') (by omega)
  rw [encs_set encF_len fs i 7 f { f with dA := dA', dc := dc' } _ hi (by omega) rfl, ← Nat.add_assoc] at r1
  have r2 := (r1.kp hk2 (fun _ _ h => h)).set (i * 9 + 8) (.slice sA' f.s.length sc') (by omega)
  have hlt : i < fs.length := by rw [h.len]; exact hil
  rw [encs_set encF_len (fs.set i { f with dA := dA', dc := dc' }) i 8 { f with dA := dA', dc := dc' } { f with dA := dA', dc := dc', sA := sA', sc := sc' } _ (by rw [List.getElem?_set_self hlt]) (by omega) rfl, ← Nat.add_assoc, List.set_set] at r2
  refine ⟨_, r2, ?_, fun j x hj hlt' => ?_, fun j x hj hle => ?_, (h.kp.no.trans hWr).mono (fun k _ e => by omega)⟩
  · rw [← h.pu]
    apply List.ext_getElem?
    intro j
    rw [List.getElem?_map, List.getElem?_map, List.getElem?_set]
    by_cases e : i = j
    · subst e
      rw [if_pos rfl, if_pos hlt, hi]
      rfl
    · rw [if_neg e]
  · rw [List.getElem?_set] at hj
    by_cases e : i = j
    · subst e
      rw [if_pos rfl, if_pos hlt] at hj
      cases hj
      have hfar1 : ∀ k, (Value.slice dA' f.d.length dc').ownBlock = some k → k ≠ g := fun k hk => by have := (hdb k hk).1; omega
      have hfar2 : ∀ k, (Value.slice sA' f.s.length sc').ownBlock = some k → k ≠ g := fun k hk => by have := (hsb k hk).1; omega
      exact ⟨hd.kp hW hfar1, hW2.src hs hfar2, fun k hk => ⟨by have := hdb k hk; have := h.kp.size; omega, fun e => hfar1 k hk (Option.some.inj e).symm⟩, fun k hk => ⟨by have := hsb k hk; have := h.kp.size; omega, fun e => hfar2 k hk (Option.some.inj e).symm⟩⟩
    · rw [if_neg e] at hj
      exact ((h.done j x hj (by omega)).kp hWr (fun k hk e => hk.2 (by rw [e]; rfl))).sup (fun k e => ⟨⟨e.1.1, by have := e.1.2; omega⟩, e.2⟩)
  · rw [List.getElem?_set] at hj
    rw [if_neg (by omega)] at hj
    exact h.todo j x hj (by omega)
set_option maxRecDepth 100000 in
set_option maxHeartbeats 4000000 in
theorem own_k {w : World} {F : Nat → Prop} (n a : Int) (el : Bool) (A : Option Addr) (c : Nat) (l : List Fr) (hz : FrsR w F (.slice A l.length c) l) (hF : ∀ k, F k → k < w.heap.size) (hn : l.length ≤ 1099511627776) (hd : ∀ f ∈ l, f.d.length ≤ 140737488355328 ∧ f.s.length ≤ 8796093022208) :
    Calls Try.prog 39 #[.agg #[.int .i64 n, .int .i64 a, .bool el, .slice A l.length c]] w fun e w' => ∃ A' fs, e = .returned (.agg #[.int .i64 n, .int .i64 a, .bool el, .slice A' l.length l.length]) ∧ fs.map Fr.pu = l.map Fr.pu ∧
      FrsR w' (fun k => w.heap.size ≤ k ∧ k < w'.heap.size) (.slice A' l.length l.length) fs ∧ Kp (fun _ => False) w w' := by
  have hk0 : Kp (fun _ => False) w ((w.alloc (.cells #[.int .i64 n, .int .i64 a, .bool el, .slice A l.length c] 66)).alloc (.cells #[.int .i64 0, .int .i64 0, .bool false, .slice none 0 0] 66)) := ((Kp.refl _ w).alloc _).alloc _
  have hb : Whole ((w.alloc (.cells #[.int .i64 n, .int .i64 a, .bool el, .slice A l.length c] 66)).alloc (.cells #[.int .i64 0, .int .i64 0, .bool false, .slice none 0 0] 66)) w.heap.size 66 #[.int .i64 n, .int .i64 a, .bool el, .slice A l.length c] := (whole_at _ _ rfl rfl).alloc _
  have hr : Whole ((w.alloc (.cells #[.int .i64 n, .int .i64 a, .bool el, .slice A l.length c] 66)).alloc (.cells #[.int .i64 0, .int .i64 0, .bool false, .slice none 0 0] 66)) (w.heap.size + 1) 66 #[.int .i64 0, .int .i64 0, .bool false, .slice none 0 0] := whole_at _ _ rfl (by simp)
  have HC := Lib.hid (clone_fm (hk0.src hz.row (fun _ _ h => h)) hn)
  have Hb := Lib.hid hb
  have Hr := Lib.hid hr
  have Hk0 := Lib.hid hk0
  have Hz := Lib.hid hz
  have HF := Lib.hid hF
  have Hd := Lib.hid hd
  clear hz hF hd hb hr hk0
  generalize hm : l.length = m at *
  have Hm := Lib.hid hm
  clear hm
  go_enter Try.func39, Try.ntmps39
  go_wp2_with fail
  with_reducible refine (HC.out).mono ?_
  rintro e w1 ⟨A1, c1, rfl, hr1, hk1⟩
  have hb1 := hk1.whole Hb.out (fun h => h)
  have hq1 := hk1.whole Hr.out (fun h => h)
  have b3 := hb1.cell 3
  have f3 := hb1.frozen 3
  have bl := hb1.lt
  simp at b3
  have hcap := (row_capL hr1).1
  have Hadd := Lib.hid (row_add hr1)
  have hbs := hb1.set 3 (.slice A1 m m)
  have hqs := hq1.far (p := ⟨w.heap.size, 3, none⟩) (show w.heap.size + 1 ≠ w.heap.size by omega) (.slice A1 m m)
  have hks : Kp (fun k => k = w.heap.size) w1 (w1.setCell ⟨w.heap.size, 3, none⟩ (.slice A1 m m)) := Kp.set (S := fun k => k = w.heap.size) (Kp.refl _ w1) (p := ⟨w.heap.size, 3, none⟩) (.inl rfl) _
  have hrs := (hr1.kp hks (fun k hk e => by have := (hr1.lt k hk).1; simp at this; omega)).clip
  have hkw : Kp (fun _ => False) w (w1.setCell ⟨w.heap.size, 3, none⟩ (.slice A1 m m)) := (Hk0.out.trans hk1).set (p := ⟨w.heap.size, 3, none⟩) (.inr (Nat.le_refl _)) _
  simp at hbs
  have Hbs := Lib.hid hbs
  have Hqs := Lib.hid hqs
  have Hrs := Lib.hid hrs
  have Hkw := Lib.hid hkw
  have Hr1 := Lib.hid hr1
  clear hr1 hk1 hb1 hq1 hbs hqs hks hrs hkw
  go_wp2_with fail
  with_reducible refine (clip_fm hcap Hadd.out).mono ?_
  rintro e w2 ⟨rfl, rfl⟩
  go_wp2_with fail
  have Hrow : Hid (RowAt (w1.setCell ⟨w.heap.size, 3, none⟩ (.slice A1 m m)) (w.heap.size + 2) 9 (.slice A1 m m) m (encs encF l)) := Lib.hid (by have := Hrs.out; simpa using this)
  clear Hrs Hr1
  generalize w1.setCell ⟨w.heap.size, 3, none⟩ (.slice A1 m m) = wL at *
  go_loopw [13] (fun vi wr => ∃ (i : Nat) (fs : List Fr), i ≤ m ∧ vi = .int .i64 i ∧ Hid (Owned w wr (.slice A1 m m) l fs i) ∧ Hid (Whole wr w.heap.size 66 #[.int .i64 n, .int .i64 a, .bool el, .slice A1 m m]) ∧ Hid (Whole wr (w.heap.size + 1) 66 #[.int .i64 0, .int .i64 0, .bool false, .slice none 0 0]))
    (fun vi _ => m - (intOf vi).toNat)
  case atStart => exact ⟨0, l, by omega, rfl, Lib.hid ⟨by rw [Hm.out]; exact Hrow.out, rfl, fun j f _ h => absurd h (by omega), fun j f h _ => h, Hkw.out⟩, Hbs, Hqs⟩
  case round =>
    obtain ⟨i, fs, him, rfl, HO, HB, HQ⟩ := hrel
    by_cases hlt : i < m
    · obtain ⟨g, off, c', hv, hg0, hg, _, _, hfz, hcell⟩ := HO.out.row.full (by rw [Hm.out]; omega)
      rw [Hm.out] at hv
      cases hv
      obtain ⟨f, hfi⟩ : ∃ f, fs[i]? = some f := ⟨_, List.getElem?_eq_getElem (by rw [HO.out.len, Hm.out]; exact hlt)⟩
      have hfl := HO.out.todo i f hfi (Nat.le_refl _)
      have hRd : Reads wr F f := (Hz.out.each f (List.mem_of_getElem? hfl)).kp HO.out.kp (fun _ _ h => h)
      have hdl := Hd.out f (List.mem_of_getElem? hfl)
      have e0 := hcell (i * 9) _ (ff0 hfi)
      have e1 := hcell (i * 9 + 1) _ (ff1 hfi)
      have e2 := hcell (i * 9 + 2) _ (ff2 hfi)
      have e3 := hcell (i * 9 + 3) _ (ff3 hfi)
      have e4 := hcell (i * 9 + 4) _ (ff4 hfi)
      have e5 := hcell (i * 9 + 5) _ (ff5 hfi)
      have e6 := hcell (i * 9 + 6) _ (ff6 hfi)
      have e7 := hcell (i * 9 + 7) _ (ff7 hfi)
      have e8 := hcell (i * 9 + 8) _ (ff8 hfi)
      rw [← Nat.add_assoc] at e1 e2 e3 e4 e5 e6 e7 e8
      have b3 := HB.out.cell 3
      simp at b3
      have hws := HO.out.kp.size
      have hbl := HB.out.lt
      have Hfi := Lib.hid hfi
      have hFw : ∀ k, F k → k < wr.heap.size := fun k e => Nat.lt_of_lt_of_le (HF.out k e) hws
      have hgw : w.heap.size ≤ g := by omega
      have hFg : ∀ k, F k → k ≠ g := fun k e => by have := HF.out k e; omega
      clear hcell hfi hfl
      obtain ⟨⟨fk, fid, fo, fa, fb, fn, ffin⟩, dA, dc, sA, sc, d, s⟩ := f
      dsimp only at e0 e1 e2 e3 e4 e5 e6 e7 e8 hdl hRd
      have HRd := Lib.hid hRd
      clear hRd
      obtain ⟨dn, hdn⟩ : ∃ dn, dn = d.length := ⟨_, rfl⟩
      obtain ⟨sn, hsn⟩ : ∃ sn, sn = s.length := ⟨_, rfl⟩
      rw [← hdn] at e7 hdl
      rw [← hsn] at e8 hdl
      have Hdn := Lib.hid hdn
      have Hsn := Lib.hid hsn
      clear hdn hsn
      go_upto_region 5 with (fail)
      have hx : Whole (wr.alloc (.cells #[.int .i64 fk, .int .i64 fid, .int .i64 fo, .int .i64 fa, .int .i64 fb, .int .i64 fn, .bool ffin, .slice dA dn dc, .slice sA sn sc] 31)) wr.heap.size 31 #[.int .i64 fk, .int .i64 fid, .int .i64 fo, .int .i64 fa, .int .i64 fb, .int .i64 fn, .bool ffin, .slice dA dn dc, .slice sA sn sc] := Whole.new _ _ _
      have hka : Kp (fun _ => False) wr (wr.alloc (.cells #[.int .i64 fk, .int .i64 fid, .int .i64 fo, .int .i64 fa, .int .i64 fb, .int .i64 fn, .bool ffin, .slice dA dn dc, .slice sA sn sc] 31)) := (Kp.refl _ wr).alloc _
      have HO3 := Lib.hid (HO.out.kpr hka)
      have HB3 := Lib.hid (hka.whole HB.out (fun h => h))
      have HQ3 := Lib.hid (hka.whole HQ.out (fun h => h))
      have hRd3 : Reads _ F _ := HRd.out.kp hka (fun _ _ h => h)
      have HCd : Hid (∀ w', Kp (fun k => k = g) (wr.alloc (.cells #[.int .i64 fk, .int .i64 fid, .int .i64 fo, .int .i64 fa, .int .i64 fb, .int .i64 fn, .bool ffin, .slice dA dn dc, .slice sA sn sc] 31)) w' → Calls Try.prog 53 #[.slice dA dn dc] w' fun e w2 => ∃ A' cap', e = .returned (.slice A' dn cap') ∧ RowAt w2 w'.heap.size 1 (.slice A' dn cap') dn (encB d) ∧ Kp (fun _ => False) w' w2) := Lib.hid (fun w' hk => by
        have := clone_b (hRd3.d.kp hk (fun k e => hFg k (hRd3.dF k e))) (by rw [← Hdn.out]; exact hdl.1)
        rw [← Hdn.out] at this
        refine this.mono ?_
        rintro e w2 ⟨A', c', rfl, ho, hk⟩
        exact ⟨A', c', rfl, RowAt.of_own ho, hk⟩)
      have HCs : Hid (∀ w', Kp (fun k => k = g) (wr.alloc (.cells #[.int .i64 fk, .int .i64 fid, .int .i64 fo, .int .i64 fa, .int .i64 fb, .int .i64 fn, .bool ffin, .slice dA dn dc, .slice sA sn sc] 31)) w' → Calls Try.prog 55 #[.slice sA sn sc] w' fun e w2 => ∃ A' cap', e = .returned (.slice A' sn cap') ∧ RowAt w2 w'.heap.size 2 (.slice A' sn cap') sn (encs encP s) ∧ Kp (fun _ => False) w' w2) := Lib.hid (fun w' hk => by
        have := clone_p (hk.src hRd3.s (fun k e => hFg k (hRd3.sF k e))) (by rw [← Hsn.out]; exact hdl.2)
        rw [← Hsn.out] at this
        exact this)
      have s7 := (hka.cell (p := ⟨g, off + i * 9 + 7, none⟩) hg (fun h => h)).trans e7
      have s8 := (hka.cell (p := ⟨g, off + i * 9 + 8, none⟩) hg (fun h => h)).trans e8
      clear HRd hRd3 HO HB HQ e0 e1 e2 e3 e4 e5 e6 e7 e8 b3
      have b3 := HB3.out.cell 3
      have hbl3 := HB3.out.lt
      have hxl := hx.lt
      have hbg : w.heap.size ≠ g := fun e => by
        have h1 := (HO3.out.row.lt g rfl).1
        omega
      have hxg : wr.heap.size ≠ g := by omega
      have hfz3 : ∀ j, World.frozen? (wr.alloc (.cells #[.int .i64 fk, .int .i64 fid, .int .i64 fo, .int .i64 fa, .int .i64 fb, .int .i64 fn, .bool ffin, .slice dA dn dc, .slice sA sn sc] 31)) ⟨g, j, none⟩ = false := fun j => (hka.frozen (p := ⟨g, j, none⟩) hg (fun h => h)).trans (hfz j)
      have hg3 := Nat.lt_of_lt_of_le hg hka.size
      simp at b3
      have Hx := Lib.hid hx
      clear hx hka hfz
      generalize hxe : wr.heap.size = xb at *
      generalize wr.alloc (.cells #[.int .i64 fk, .int .i64 fid, .int .i64 fo, .int .i64 fa, .int .i64 fb, .int .i64 fn, .bool ffin, .slice dA dn dc, .slice sA sn sc] 31) = w3 at *
      have x7 := Hx.out.cell 7
      have x8 := Hx.out.cell 8
      simp at x7 x8
      have tl0 : (0 : Int) ≤ (i : Int) := by omega
      have tl1 : (i : Int) < (m : Int) := by omega
      go_wp2_with fail
      refine wp_region_held_drew (S := (fun w' => w'.cell? ⟨w.heap.size, 3, none⟩ = some (.slice (some ⟨g, off, none⟩) m m) ∧ w'.cell? ⟨xb, 7, none⟩ = some (.slice dA dn dc) ∧ Kp (fun k => k = g) w3 w')) (by kernel_rfl) ⟨b3, x7, (Kp.refl _ _).drew⟩ (fun hHeld => ?_)
      refine wpAnyH_take (i := 0) (oi := { dst := some 18, op := Op.fieldAddr 66 (.tmp 1) 3, type := _, pos := _, after := _, guard := _ }) (v := ?_) rfl (by kernel_rfl) (by kernel_rfl) (by kernel_rfl) (fun _ _ _ h => h) (Or.inl ⟨by rfl, ?_⟩) hHeld ?_
      rotate_left
      · intro w99 hSw
        first | (go_simp; done) | (go_simp; with_reducible rfl)
      try simp only [Act.put, List.setIfInBounds_toArray, List.set_cons_zero, List.set_cons_succ]
      refine wpAnyH_take (i := 1) (oi := { dst := some 19, op := Op.load 26 (.tmp 18), type := _, pos := _, after := _, guard := _ }) (v := ?_) rfl (by kernel_rfl) (by kernel_rfl) (by kernel_rfl) (fun _ _ _ h => h) (Or.inl ⟨by rfl, ?_⟩) hHeld ?_
      rotate_left
      · intro w99 hSw
        have b3 := hSw.1; first | (go_simp; done) | (go_simp; with_reducible rfl)
      try simp only [Act.put, List.setIfInBounds_toArray, List.set_cons_zero, List.set_cons_succ]
      refine wpAnyH_take (i := 2) (oi := { dst := some 20, op := Op.move (.tmp 3), type := _, pos := _, after := _, guard := _ }) (v := ?_) rfl (by kernel_rfl) (by kernel_rfl) (by kernel_rfl) (fun _ _ _ h => h) (Or.inl ⟨by rfl, ?_⟩) hHeld ?_
      rotate_left
      · intro w99 hSw
        first | (go_simp; done) | (go_simp; with_reducible rfl)
      try simp only [Act.put, List.setIfInBounds_toArray, List.set_cons_zero, List.set_cons_succ]
      refine wpAnyH_take (i := 3) (oi := { dst := some 21, op := Op.fieldAddr 31 (.tmp 4) 7, type := _, pos := _, after := _, guard := _ }) (v := ?_) rfl (by kernel_rfl) (by kernel_rfl) (by kernel_rfl) (fun _ _ _ h => h) (Or.inl ⟨by rfl, ?_⟩) hHeld ?_
      rotate_left
      · intro w99 hSw
        first | (go_simp; done) | (go_simp; with_reducible rfl)
      try simp only [Act.put, List.setIfInBounds_toArray, List.set_cons_zero, List.set_cons_succ]
      refine wpAnyH_take (i := 4) (oi := { dst := some 22, op := Op.load 28 (.tmp 21), type := _, pos := _, after := _, guard := _ }) (v := ?_) rfl (by kernel_rfl) (by kernel_rfl) (by kernel_rfl) (fun _ _ _ h => h) (Or.inl ⟨by rfl, ?_⟩) hHeld ?_
      rotate_left
      · intro w99 hSw
        have x7 := hSw.2.1; first | (go_simp; done) | (go_simp; with_reducible rfl)
      try simp only [Act.put, List.setIfInBounds_toArray, List.set_cons_zero, List.set_cons_succ]
      refine wpAnyH_ready (rs := [5]) (by kernel_rfl) (by simp) (AllReadyH.cons (o := { dst := some 23, op := Op.call { callee := Callee.value (Operand.func 53), args := #[(.tmp 22)], argTypes := #[28] }, type := _, pos := _, after := _, guard := _ }) rfl (fun K hK => ?_) AllReadyH.nil)
      go_simp
      with_reducible refine (HCd.out _ hHeld.2.2).mono ?_
      rintro e w' ⟨Ad, cd, rfl, hrd, hkd⟩
      go_wp2_with fail
      have hx9 := kk2g hbl3 hbg b3 hxl hxg x7 (hHeld.2.2.trans hkd.no)
      refine hK.out _ _ hx9 (fun _ => ?_)
      clear hK hHeld
      have hHeld := hx9
      clear hx9
      have hk5 : Kp (fun _ => False) w3 w' := ((Kp.refl _ w3).drew).trans hkd
      clear hkd
      generalize w' = wd5 at *
      try simp only [Act.put, List.setIfInBounds_toArray, List.set_cons_zero, List.set_cons_succ]
      refine wpAnyH_ready (rs := [6]) (by kernel_rfl) (by simp) (AllReadyH.cons (o := { dst := some 24, op := Op.call { callee := Callee.value (Operand.func 52), args := #[(.tmp 23)], argTypes := #[28] }, type := _, pos := _, after := _, guard := _ }) rfl (fun K hK => ?_) AllReadyH.nil)
      go_simp
      with_reducible refine (clip_b (row_capL hrd).1 (row_add hrd)).mono ?_
      rintro e w' ⟨rfl, rfl⟩
      go_wp2_with fail
      refine hK.out _ _ hHeld (fun _ => ?_)
      clear hK
      try simp only [Act.put, List.setIfInBounds_toArray, List.set_cons_zero, List.set_cons_succ]
      refine wpAnyH_take (i := 7) (oi := { dst := some 25, op := Op.indexAddr 26 (.tmp 19) (.tmp 20), type := _, pos := _, after := _, guard := _ }) (v := ?_) rfl (by kernel_rfl) (by kernel_rfl) (by kernel_rfl) (fun _ _ _ h => h) (Or.inl ⟨by rfl, ?_⟩) hHeld ?_
      rotate_left
      · intro w99 hSw
        first | (go_simp; done) | (go_simp; with_reducible rfl)
      try simp only [Act.put, List.setIfInBounds_toArray, List.set_cons_zero, List.set_cons_succ]
      refine wpAnyH_take (i := 8) (oi := { dst := some 26, op := Op.fieldAddr 31 (.tmp 25) 7, type := _, pos := _, after := _, guard := _ }) (v := ?_) rfl (by kernel_rfl) (by kernel_rfl) (by kernel_rfl) (fun _ _ _ h => h) (Or.inl ⟨by rfl, ?_⟩) hHeld ?_
      rotate_left
      · intro w99 hSw
        first | (go_simp; done) | (go_simp; with_reducible rfl)
      try simp only [Act.put, List.setIfInBounds_toArray, List.set_cons_zero, List.set_cons_succ]
      have hcs7 : (wd5.cell? ⟨g, off + i * 9 + 7, none⟩).isSome = true := by
        rw [hk5.cell (p := ⟨g, _, none⟩) hg3 (fun h => h)]
        rw [s7]; rfl
      have hcs8 : (wd5.cell? ⟨g, off + i * 9 + 8, none⟩).isSome = true := by
        rw [hk5.cell (p := ⟨g, _, none⟩) hg3 (fun h => h)]
        rw [s8]; rfl
      have hfz5 : wd5.frozen? ⟨g, off + i * 9 + 7, none⟩ = false := (hk5.frozen (p := ⟨g, _, none⟩) hg3 (fun h => h)).trans (hfz3 _)
      obtain ⟨q7, hq7⟩ := Option.isSome_iff_exists.1 hcs7
      have hHeld2 := kk2g hbl3 hbg b3 hxl hxg x7 (Kp.set (S := fun k => k = g) hHeld.2.2 (p := ⟨g, off + i * 9 + 7, none⟩) (.inl rfl) (.slice Ad dn dn))
      refine wpAnyH_ready (rs := [9]) (by kernel_rfl) (by simp) (AllReadyH.cons (o := { dst := none, op := Op.store 28 (.tmp 26) (.tmp 24), type := _, pos := _, after := _, guard := _ }) rfl (fun K hK => ?_) AllReadyH.nil)
      go_simp
      refine hK.out _ _ hHeld2 (fun _ => ?_)
      clear hK
      try simp only [Act.put, List.setIfInBounds_toArray, List.set_cons_zero, List.set_cons_succ]
      refine wpAnyH_done (by kernel_rfl) ?_ _
      go_wp2_with fail
      clear hHeld
      have hHeld := hHeld2
      clear hHeld2
      have b3' := hHeld.1
      have x8' : World.cell? (wd5.setCell ⟨g, off + i * 9 + 7, none⟩ (.slice Ad dn dn)) ⟨xb, 8, none⟩ = some (.slice sA sn sc) := (hHeld.2.2.cell (p := ⟨xb, 8, none⟩) hxl hxg).trans x8
      have hk4 := hHeld.2.2
      have hzs := hk4.size
      have hbl4 := Nat.lt_of_lt_of_le hbl3 hzs
      have hxl4 := Nat.lt_of_lt_of_le hxl hzs
      have hg4 := Nat.lt_of_lt_of_le hg3 hzs
      have hfz4 : ∀ j, World.frozen? (wd5.setCell ⟨g, off + i * 9 + 7, none⟩ (.slice Ad dn dn)) ⟨g, j, none⟩ = false := fun j => by rw [World.frozen?_setCell]; exact (hk5.frozen (p := ⟨g, j, none⟩) hg3 (fun h => h)).trans (hfz3 j)
      have hc8 : (World.cell? (wd5.setCell ⟨g, off + i * 9 + 7, none⟩ (.slice Ad dn dn)) ⟨g, off + i * 9 + 8, none⟩).isSome = true := by
        rw [World.cell?_setCell_other _ _ _ _ (by intro e; have := congrArg Addr.off e; simp at this)]
        exact hcs8
      have Hk5 := Lib.hid hk5
      have Hrd := Lib.hid hrd
      have Hk4 := Lib.hid hk4
      clear hHeld hk5 hrd hk4 hcs8 hcs7 hfz3 b3 x7 x8
      generalize hw4 : wd5.setCell ⟨g, off + i * 9 + 7, none⟩ (.slice Ad dn dn) = w4 at *
      have Hw4 := Lib.hid hw4
      clear hw4
      refine wp_region_held_drew (S := (fun w' => w'.cell? ⟨w.heap.size, 3, none⟩ = some (.slice (some ⟨g, off, none⟩) m m) ∧ w'.cell? ⟨xb, 8, none⟩ = some (.slice sA sn sc) ∧ Kp (fun k => k = g) w4 w')) (by kernel_rfl) ⟨b3', x8', (Kp.refl _ _).drew⟩ (fun hHeld => ?_)
      refine wpAnyH_take (i := 0) (oi := { dst := some 27, op := Op.fieldAddr 66 (.tmp 1) 3, type := _, pos := _, after := _, guard := _ }) (v := ?_) rfl (by kernel_rfl) (by kernel_rfl) (by kernel_rfl) (fun _ _ _ h => h) (Or.inl ⟨by rfl, ?_⟩) hHeld ?_
      rotate_left
      · intro w99 hSw
        first | (go_simp; done) | (go_simp; with_reducible rfl)
      try simp only [Act.put, List.setIfInBounds_toArray, List.set_cons_zero, List.set_cons_succ]
      refine wpAnyH_take (i := 1) (oi := { dst := some 28, op := Op.load 26 (.tmp 27), type := _, pos := _, after := _, guard := _ }) (v := ?_) rfl (by kernel_rfl) (by kernel_rfl) (by kernel_rfl) (fun _ _ _ h => h) (Or.inl ⟨by rfl, ?_⟩) hHeld ?_
      rotate_left
      · intro w99 hSw
        have b3 := hSw.1; first | (go_simp; done) | (go_simp; with_reducible rfl)
      try simp only [Act.put, List.setIfInBounds_toArray, List.set_cons_zero, List.set_cons_succ]
      refine wpAnyH_take (i := 2) (oi := { dst := some 29, op := Op.move (.tmp 3), type := _, pos := _, after := _, guard := _ }) (v := ?_) rfl (by kernel_rfl) (by kernel_rfl) (by kernel_rfl) (fun _ _ _ h => h) (Or.inl ⟨by rfl, ?_⟩) hHeld ?_
      rotate_left
      · intro w99 hSw
        first | (go_simp; done) | (go_simp; with_reducible rfl)
      try simp only [Act.put, List.setIfInBounds_toArray, List.set_cons_zero, List.set_cons_succ]
      refine wpAnyH_take (i := 3) (oi := { dst := some 30, op := Op.fieldAddr 31 (.tmp 4) 8, type := _, pos := _, after := _, guard := _ }) (v := ?_) rfl (by kernel_rfl) (by kernel_rfl) (by kernel_rfl) (fun _ _ _ h => h) (Or.inl ⟨by rfl, ?_⟩) hHeld ?_
      rotate_left
      · intro w99 hSw
        first | (go_simp; done) | (go_simp; with_reducible rfl)
      try simp only [Act.put, List.setIfInBounds_toArray, List.set_cons_zero, List.set_cons_succ]
      refine wpAnyH_take (i := 4) (oi := { dst := some 31, op := Op.load 29 (.tmp 30), type := _, pos := _, after := _, guard := _ }) (v := ?_) rfl (by kernel_rfl) (by kernel_rfl) (by kernel_rfl) (fun _ _ _ h => h) (Or.inl ⟨by rfl, ?_⟩) hHeld ?_
      rotate_left
      · intro w99 hSw
        have x8 := hSw.2.1; first | (go_simp; done) | (go_simp; with_reducible rfl)
      try simp only [Act.put, List.setIfInBounds_toArray, List.set_cons_zero, List.set_cons_succ]
      refine wpAnyH_ready (rs := [5]) (by kernel_rfl) (by simp) (AllReadyH.cons (o := { dst := some 32, op := Op.call { callee := Callee.value (Operand.func 55), args := #[(.tmp 31)], argTypes := #[29] }, type := _, pos := _, after := _, guard := _ }) rfl (fun K hK => ?_) AllReadyH.nil)
      go_simp
      with_reducible refine (HCs.out _ (Hk4.out.trans hHeld.2.2)).mono ?_
      rintro e w' ⟨As, cs, rfl, hrs, hks⟩
      go_wp2_with fail
      have hx9 := kk2g hbl4 hbg b3' hxl4 hxg x8' (hHeld.2.2.trans hks.no)
      refine hK.out _ _ hx9 (fun _ => ?_)
      clear hK hHeld
      have hHeld := hx9
      clear hx9
      have hk6 : Kp (fun _ => False) w4 w' := ((Kp.refl _ w4).drew).trans hks
      clear hks
      generalize w' = wd6 at *
      try simp only [Act.put, List.setIfInBounds_toArray, List.set_cons_zero, List.set_cons_succ]
      refine wpAnyH_ready (rs := [6]) (by kernel_rfl) (by simp) (AllReadyH.cons (o := { dst := some 33, op := Op.call { callee := Callee.value (Operand.func 54), args := #[(.tmp 32)], argTypes := #[29] }, type := _, pos := _, after := _, guard := _ }) rfl (fun K hK => ?_) AllReadyH.nil)
      go_simp
      with_reducible refine (clip_p (row_capL hrs).1 (row_add hrs)).mono ?_
      rintro e w' ⟨rfl, rfl⟩
      go_wp2_with fail
      refine hK.out _ _ hHeld (fun _ => ?_)
      clear hK
      try simp only [Act.put, List.setIfInBounds_toArray, List.set_cons_zero, List.set_cons_succ]
      refine wpAnyH_take (i := 7) (oi := { dst := some 34, op := Op.indexAddr 26 (.tmp 28) (.tmp 29), type := _, pos := _, after := _, guard := _ }) (v := ?_) rfl (by kernel_rfl) (by kernel_rfl) (by kernel_rfl) (fun _ _ _ h => h) (Or.inl ⟨by rfl, ?_⟩) hHeld ?_
      rotate_left
      · intro w99 hSw
        first | (go_simp; done) | (go_simp; with_reducible rfl)
      try simp only [Act.put, List.setIfInBounds_toArray, List.set_cons_zero, List.set_cons_succ]
      refine wpAnyH_take (i := 8) (oi := { dst := some 35, op := Op.fieldAddr 31 (.tmp 34) 8, type := _, pos := _, after := _, guard := _ }) (v := ?_) rfl (by kernel_rfl) (by kernel_rfl) (by kernel_rfl) (fun _ _ _ h => h) (Or.inl ⟨by rfl, ?_⟩) hHeld ?_
      rotate_left
      · intro w99 hSw
        first | (go_simp; done) | (go_simp; with_reducible rfl)
      try simp only [Act.put, List.setIfInBounds_toArray, List.set_cons_zero, List.set_cons_succ]
      have hcs8 : (wd6.cell? ⟨g, off + i * 9 + 8, none⟩).isSome = true := by
        rw [hk6.cell (p := ⟨g, _, none⟩) hg4 (fun h => h)]
        exact hc8
      have hfz5 : wd6.frozen? ⟨g, off + i * 9 + 8, none⟩ = false := (hk6.frozen (p := ⟨g, _, none⟩) hg4 (fun h => h)).trans (hfz4 _)
      obtain ⟨q8, hq8⟩ := Option.isSome_iff_exists.1 hcs8
      have hHeld2 := kk2g hbl4 hbg b3' hxl4 hxg x8' (Kp.set (S := fun k => k = g) hHeld.2.2 (p := ⟨g, off + i * 9 + 8, none⟩) (.inl rfl) (.slice As sn sn))
      refine wpAnyH_ready (rs := [9]) (by kernel_rfl) (by simp) (AllReadyH.cons (o := { dst := none, op := Op.store 29 (.tmp 35) (.tmp 33), type := _, pos := _, after := _, guard := _ }) rfl (fun K hK => ?_) AllReadyH.nil)
      go_simp
      refine hK.out _ _ hHeld2 (fun _ => ?_)
      clear hK
      try simp only [Act.put, List.setIfInBounds_toArray, List.set_cons_zero, List.set_cons_succ]
      refine wpAnyH_done (by kernel_rfl) ?_ _
      clear hHeld
      go_wp2_with fail
      have hw45 : w4.heap.size = wd5.heap.size := by rw [← Hw4.out]; simp
      have hstep := Owned.step HO3.out Hm.out Hfi.out (dA' := Ad) (sA' := As) (dc' := dn) (sc' := sn) (w2 := wd6) Hk5.out (by have := Hrd.out.clip.src (encB_one _); dsimp only; rw [← Hdn.out]; unfold Bs; rw [← Hdn.out]; exact this) (by dsimp only; rw [← Hdn.out]; exact fun k hk => Hrd.out.clip.lt k hk) (by dsimp only; rw [← Hdn.out, Hw4.out]; exact hk6) (by dsimp only; rw [← Hsn.out]; exact hrs.clip.src (encP_one _)) (by dsimp only; rw [← Hsn.out]; exact fun k hk => ⟨by rw [← hw45]; exact (hrs.clip.lt k hk).1, (hrs.clip.lt k hk).2⟩)
      have Hstep := Lib.hid hstep
      have HBq : Hid (Whole (wd6.setCell ⟨g, off + i * 9 + 8, none⟩ (.slice As sn sn)) w.heap.size 66 #[.int .i64 n, .int .i64 a, .bool el, .slice (some ⟨g, off, none⟩) m m]) := Lib.hid ((Hk4.out.trans hHeld2.2.2).whole HB3.out hbg)
      have HQq : Hid (Whole (wd6.setCell ⟨g, off + i * 9 + 8, none⟩ (.slice As sn sn)) (w.heap.size + 1) 66 #[.int .i64 0, .int .i64 0, .bool false, .slice none 0 0]) := Lib.hid ((Hk4.out.trans hHeld2.2.2).whole HQ3.out (show ¬ w.heap.size + 1 = g by have := (HO3.out.row.lt g rfl).1; omega))
      clear hstep hHeld2 hk6 hrs
      go_roundw
      case rel =>
        obtain ⟨fs', hs⟩ := Hstep.out
        exact ⟨i + 1, fs', by omega, by go_num, Lib.hid (by have := hs; dsimp only at this; rw [← Hsn.out] at this; exact this), HBq, HQq⟩
      case measure => simp [intOf]; omega
    · obtain rfl : i = m := by omega
      have hB := HB.out
      have hQ := HQ.out
      have b0 := hB.cell 0
      have b1 := hB.cell 1
      have b2 := hB.cell 2
      have b3 := hB.cell 3
      have q0 := hQ.cell 0
      have q1 := hQ.cell 1
      have q2 := hQ.cell 2
      have q3 := hQ.cell 3
      have r0 := hQ.frozen 0
      have r1 := hQ.frozen 1
      have r2 := hQ.frozen 2
      have r3 := hQ.frozen 3
      have hbl := hB.lt
      have hql := hQ.lt
      simp at b0 b1 b2 b3 q0 q1 q2 q3
      have z := (((hQ.set 0 (.int .i64 n)).set 1 (.int .i64 a)).set 2 (.bool el)).set 3 (.slice A1 i i)
      have hkz := ((((Kp.refl (fun k => k = w.heap.size + 1) wr).set (p := ⟨w.heap.size + 1, 0, none⟩) (.inl rfl) (.int .i64 n)).set (p := ⟨w.heap.size + 1, 1, none⟩) (.inl rfl) (.int .i64 a)).set (p := ⟨w.heap.size + 1, 2, none⟩) (.inl rfl) (.bool el)).set (p := ⟨w.heap.size + 1, 3, none⟩) (.inl rfl) (.slice A1 i i)
      have Z := Lib.hid z
      have Hkz := Lib.hid hkz
      clear hB hQ z hkz
      go_wp2_with fail
      have z := Z.out
      have hkz := Hkz.out
      have y0 := z.cell 0
      have y1 := z.cell 1
      have y2 := z.cell 2
      have y3 := z.cell 3
      simp at y0 y1 y2 y3
      have hres : FrsR ((((wr.setCell ⟨w.heap.size + 1, 0, none⟩ (.int .i64 n)).setCell ⟨w.heap.size + 1, 1, none⟩ (.int .i64 a)).setCell ⟨w.heap.size + 1, 2, none⟩ (.bool el)).setCell ⟨w.heap.size + 1, 3, none⟩ (.slice A1 i i)) (fun k => w.heap.size ≤ k ∧ k < wr.heap.size) (.slice A1 i i) fs := by
        have hrow := HO.out.row
        have hl := HO.out.len
        rw [Hm.out] at hl hrow
        refine ⟨by rw [hl]; exact hkz.src (hrow.src (encF_one _)) (fun k hk e => by have := (hrow.lt k hk).1; omega), fun k hk => by have := hrow.lt k hk; omega, fun f hf => ?_⟩
        obtain ⟨j, hj⟩ := List.mem_iff_getElem?.1 hf
        have hjl := (List.getElem?_eq_some_iff.1 hj).1
        exact (((HO.out.done j f hj (by omega)).sup (fun k e => e.1)).kp hkz (fun k e h => by omega)).sup (fun k e => by omega)
      generalize (((wr.setCell ⟨w.heap.size + 1, 0, none⟩ (.int .i64 n)).setCell ⟨w.heap.size + 1, 1, none⟩ (.int .i64 a)).setCell ⟨w.heap.size + 1, 2, none⟩ (.bool el)).setCell ⟨w.heap.size + 1, 3, none⟩ (.slice A1 i i) = wf at z hkz hres y0 y1 y2 y3 ⊢
      exact bodyPost_ret (v := .agg #[.int .i64 n, .int .i64 a, .bool el, .slice A1 i i]) (by simp [results, Try.results39, go_sem, y0, y1, y2, y3]) rfl ⟨A1, fs, rfl, HO.out.pu, hres.sup (fun k e => ⟨e.1, Nat.lt_of_lt_of_le e.2 hkz.size⟩), (HO.out.kp.no.trans hkz).mono (fun k _ e => by omega)⟩
end Go.Proofs.Ytoiakdddghbdnaa

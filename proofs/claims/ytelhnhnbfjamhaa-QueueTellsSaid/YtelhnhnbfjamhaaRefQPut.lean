/-
  The reference's queue: Put.
-/
import Derived.Test.YtelhnhnbfjamhaaRefQ
import Derived.Test.YtelhnhnbfjamhaaOrd
import Derived.Test.YtelhnhnbfjamhaaBut
import Derived.Outline
namespace Go.Proofs.Ytelhnhnbfjamhaa
open Go.RowKit

theorem hl_at {w w' : World} {r m : Nat} {v : Value} {xs : List Value} (h : Src w 2 v m xs) (hk : Kp (fun k => k = r) w w') (hf : ∀ k, v.ownBlock = some k → k ≠ r) : Src w' 2 v m xs := hk.src h hf

theorem RowAt.made {w : World} {B sz k : Nat} {e : TypeId} (hk : k = w.heap.size) (h : B ≤ k) : RowAt (w.alloc (.cells #[] e)) B sz (.slice (some ⟨k, 0, none⟩) 0 0) 0 [] := by
  subst hk
  exact (RowAt.of_own (World.ownsRow_made (base := w.heap.size) (e := e) (size := sz) w #[] 0 (Nat.le_refl _) (Nat.zero_le _) (by simp))).base h
theorem RowAt.alloc {w : World} {B sz n : Nat} {v : Value} {xs : List Value} (h : RowAt w B sz v n xs) (o : Obj) : RowAt (w.alloc o) B sz v n xs := h.kp ((Kp.refl (fun _ => False) w).alloc o) (fun _ _ h => h)
theorem RowAt.drew {w : World} {B sz n : Nat} {v : Value} {xs : List Value} (h : RowAt w B sz v n xs) : RowAt w.drew B sz v n xs := h.kp ((Kp.refl (fun _ => False) w).drew) (fun _ _ h => h)

/-- What an append to an empty row in a block of its own leaves. -/
structure Aft (wr W W' : World) (kx : Nat) (v : Value) : Prop where
  kp : Kp (fun _ => False) wr W'
  one : Kp (fun k => k = kx) W W'
  own : ∀ k, v.ownBlock = some k → k = kx ∨ W.heap.size ≤ k
theorem aft {wr W W' : World} {kx : Nat} {v : Value} (hk : Kp (fun _ => False) wr W) (hx : wr.heap.size ≤ kx) (hg : W.grownBy W' (some kx)) (hn : Near W (.slice (some ⟨kx, 0, none⟩) 0 0) v) : Aft wr W W' kx v :=
  ⟨hk.grown hg (fun i hi hlt => by have := Option.some.inj hi; omega), Kp.of_grown hg (fun i hi _ => (Option.some.inj hi).symm), fun k hk' => by
    rcases hn with hn | hn
    · rw [hn] at hk'
      exact .inl (Option.some.inj hk').symm
    · exact .inr (hn k hk')⟩
/-- Another empty row, in the block kO, is as it was. -/
theorem Aft.row {wr W W' : World} {kx kO : Nat} {v : Value} {B sz : Nat} (h : Aft wr W W' kx v) (hr : RowAt W B sz (.slice (some ⟨kO, 0, none⟩) 0 0) 0 []) (hne : kO ≠ kx) :
    RowAt W' B sz (.slice (some ⟨kO, 0, none⟩) 0 0) 0 [] ∧ ∀ k, v.ownBlock = some k → k ≠ kO := by
  refine ⟨hr.kp h.one (fun k hk e => hne ((Option.some.inj hk).trans e)), fun k hk e => ?_⟩
  have := (hr.lt kO rfl).2
  rcases h.own k hk with h1 | h1
  · exact hne (e.symm.trans h1)
  · omega
/-- Another row, not in the block kx, is as it was, and apart. -/
theorem Aft.far {wr W W' : World} {kx : Nat} {v v2 : Value} {B sz n : Nat} {xs : List Value} (h : Aft wr W W' kx v) (hr : RowAt W B sz v2 n xs) (hne : ∀ k, v2.ownBlock = some k → k ≠ kx) :
    RowAt W' B sz v2 n xs ∧ ∀ k, v2.ownBlock = some k → v.ownBlock ≠ some k := by
  refine ⟨hr.kp h.one hne, fun k hk e => ?_⟩
  have := (hr.lt k hk).2
  rcases h.own k e with h1 | h1
  · exact hne k hk h1
  · omega
theorem RowAt.ne_new {w : World} {B sz n : Nat} {v : Value} {xs : List Value} (h : RowAt w B sz v n xs) {k0 : Nat} (h0 : w.heap.size ≤ k0) : ∀ k, v.ownBlock = some k → k ≠ k0 := fun k hk e => by have := (h.lt k hk).2; omega

/-- The reference's queue once a longer row is stored. -/
theorem rq_more {w w1 : World} {r B : Nat} {v v' : Value} {zs : List Zt} {z : Zt} {n : Nat} (h : RAt w r B v zs) (hB : B ≤ w.heap.size) (hk : Kp (fun _ => False) w w1) (hn : zs.length = n) (hr : RowAt w1 w.heap.size 2 v' (n + 1) (encs encZ zs ++ encZ z)) (hd : NewB w1 w.heap.size z.2.1 z.2.2) (hf : n < 32) :
    RAt (w1.setCell ⟨r, 0, none⟩ v') r B v' (zs ++ [z]) ∧ Kp (fun k => k = r) w (w1.setCell ⟨r, 0, none⟩ v') ∧ (∀ k, v'.ownBlock = some k → w.heap.size ≤ k) := by
  subst hn
  have h1 := h.kp hk (fun _ _ h => h)
  have hkr : Kp (fun k => k = r) w1 (w1.setCell ⟨r, 0, none⟩ v') := kp_set1 _ _ _ (Kp.refl _ w1)
  have hrl := h.cell.lt
  have hfar : ∀ k, v'.ownBlock = some k → k ≠ r := fun k hk' e => by have := (hr.lt k hk').1; omega
  refine ⟨⟨h1.cell.set 0 _, by rw [List.length_append, encs_append, show encs encZ [z] = encZ z by simp [encs]]; exact (hr.kp hkr hfar).base hB, fun y hy => ?_, hfar, by rw [List.length_append]; exact hf⟩, hk.no.trans hkr, fun k hk' => (hr.lt k hk').1⟩
  rcases List.mem_append.1 hy with hy | hy
  · exact ⟨⟨(h1.data y hy).1.1.kp hkr (h1.data y hy).2, fun k hk' => by have := (h1.data y hy).1.2.1 k hk'; simpa using this, (h1.data y hy).1.2.2⟩, (h1.data y hy).2⟩
  · simp only [List.mem_singleton] at hy
    subst hy
    have hne : ∀ k, y.2.1.ownBlock = some k → k ≠ r := fun k hk' e => by have := (hd.2.1 k hk').1; omega
    exact ⟨⟨hd.1.kp hkr hne, fun k hk' => by have := hd.2.1 k hk'; simp only [World.size_setCell]; omega, hd.2.2⟩, hne⟩

set_option maxRecDepth 100000 in
set_option maxHeartbeats 8000000 in
theorem rq_put {w : World} {r B : Nat} {v : Value} {zs : List Zt} (h : RAt w r B v zs) (hB : B ≤ w.heap.size) (lv : Value) (ys : List Zt) (hl : Src w 2 lv ys.length (encs encZ ys)) (hy : ∀ y ∈ ys, Bs w y.2.1 y.2.2 ∧ y.2.2.length ≤ 140737488355328)
    (hf1 : ∀ k, lv.ownBlock = some k → k ≠ r) (hf2 : ∀ y ∈ ys, ∀ k, y.2.1.ownBlock = some k → k ≠ r) (hlen : ys.length ≤ 4398046511104) :
    Calls Try.prog 34 #[.pointer (some ⟨r, 0, none⟩), lv] w fun e w' => e = .returned (.int .i64 (accept zs.length (its ys)).length) ∧ ∃ v' ns, its ns = accept zs.length (its ys) ∧ RAt w' r B v' (zs ++ ns) ∧ Kp (fun k => k = r) w w' ∧
      (v' = v ∨ ∀ k, v'.ownBlock = some k → w.heap.size ≤ k) ∧ ∀ z ∈ ns, ∀ k, z.2.1.ownBlock = some k → w.heap.size ≤ k := by
  obtain ⟨i0, hii, hz0, hz1, hz2⟩ := info_parts infoRI
  have Hi := Lib.hid hii
  have Hz0 := Lib.hid hz0
  have Hz1 := Lib.hid hz1
  have Hz2 := Lib.hid hz2
  obtain ⟨j0, hjj, hy0, hy1, hy2⟩ := info_parts infoB
  have Hj := Lib.hid hjj
  have Hy0 := Lib.hid hy0
  have Hy1 := Lib.hid hy1
  have Hy2 := Lib.hid hy2
  clear hii hz0 hz1 hz2 hjj hy0 hy1 hy2
  have Hl := Lib.hid hl
  have Hy := Lib.hid hy
  have hlv : ∃ A c, lv = .slice A ys.length c := by
    rcases hl.2.2 with ⟨h1, h2⟩ | ⟨a, c, h1, _⟩
    · exact ⟨none, 0, by rw [h1, h2]⟩
    · exact ⟨some a, c, h1⟩
  obtain ⟨Al, cl, rfl⟩ := hlv
  clear hl hy
  generalize hml : ys.length = m at *
  have Hml := Lib.hid hml
  clear hml
  go_enter Try.func34, Try.ntmps34
  go_wp2_with fail
  go_loopw [5, 6] (fun vn vi wr => ∃ (i : Nat) (v' : Value) (ns : List Zt), i ≤ m ∧ vi = .int .i64 i ∧ vn = .int .i64 ns.length ∧ Hid (its ns = accept zs.length (its (ys.take i))) ∧ RAt wr r B v' (zs ++ ns) ∧ Kp (fun k => k = r) w wr ∧ (v' = v ∨ ∀ k, v'.ownBlock = some k → w.heap.size ≤ k) ∧ ∀ z ∈ ns, ∀ k, z.2.1.ownBlock = some k → w.heap.size ≤ k)
    (fun _ vi _ => m - (intOf vi).toNat)
  case atStart => exact ⟨0, v, [], by omega, rfl, rfl, Lib.hid (by simp [its, accept]), by rw [List.append_nil]; exact h, Kp.refl _ _, .inl rfl, fun z hz => by cases hz⟩
  case round =>
    obtain ⟨i, v', ns, him, rfl, rfl, Hns, hr, hk, hv', hfr⟩ := hrel
    have Hr := Lib.hid hr
    have Hk := Lib.hid hk
    have Hv' := Lib.hid hv'
    have Hfr := Lib.hid hfr
    clear hr hk hv' hfr
    by_cases hlt : i < m
    · obtain ⟨y, hyi⟩ : ∃ y, ys[i]? = some y := ⟨_, List.getElem?_eq_getElem (by rw [Hml.out]; exact hlt)⟩
      have hym := List.mem_of_getElem? hyi
      have hs := hl_at Hl.out Hk.out hf1
      obtain ⟨b, off, c', hv, hb, hc⟩ := hs.full (by omega) (by omega)
      cases hv
      have e0 := hc _ _ (zt0 hyi)
      have e1 := hc _ _ (zt1 hyi)
      rw [← Nat.add_assoc] at e1
      have hyb := (Hy.out y hym).1.kp Hk.out (fun k hk' => hf2 y hym k hk')
      have hyl := (Hy.out y hym).2
      obtain ⟨Ay, cy, hyv⟩ := hyb.form
      have hrl := Hr.out.cell.lt
      have c1 := Hr.out.cell.cell 0
      have c2 := Hr.out.cell.frozen 0
      obtain ⟨Av, cv, rfl⟩ := Hr.out.row.form
      have hlf := Hr.out.few
      simp only [List.getElem?_toArray, List.getElem?_cons_zero] at c1
      obtain ⟨y1, yv, yd⟩ := y
      dsimp only at hyv e0 e1 hyb hyl
      subst hyv
      have Hyb := Lib.hid hyb
      have Hyi := Lib.hid hyi
      clear hyb hyi hym hs hc
      generalize hdl : yd.length = dl at *
      have Hdl := Lib.hid hdl
      clear hdl
      generalize hnl : (zs ++ ns).length = nl at *
      have Hnl := Lib.hid hnl
      clear hnl
      by_cases hok : 0 < dl ∧ dl ≤ 116
      · have Hf : Hid (∀ w', Calls Try.prog 55 #[.slice Ay dl cy] w' fun e w'' => e = .returned (.bool true) ∧ w' = w'') := Lib.hid (fun w' => by have := @fits_any w' Ay dl cy (by omega); rw [decide_eq_true hok] at this; exact this)
        by_cases hroom : nl < 32
        · go_wp2_with fail
          with_reducible refine (Hf.out _).mono ?_
          rintro e w2 ⟨rfl, rfl⟩
          have E0 := Lib.hid e0
          have E1 := Lib.hid e1
          have C1 := Lib.hid c1
          have C2 := Lib.hid c2
          have HV : Hid (∀ W, Kp (fun _ => False) wr W → Src W 2 (.slice Av nl cv) nl (encs encZ (zs ++ ns))) := Lib.hid (fun W hk => by have := hk.src (Hr.out.row.src Hr.out.one) (fun _ _ h => h); rw [Hnl.out] at this; exact this)
          have HD : Hid (∀ W, Kp (fun _ => False) wr W → Src W 1 (.slice Ay dl cy) dl (encB yd)) := Lib.hid (fun W hk => by have := hk.src Hyb.out (fun _ _ h => h); rw [Hdl.out] at this; exact this)
          go_upto_region 6 with (fail)
          go_cut [] (fun wx => ∃ (v' zv : Value), RAt wx r B v' (zs ++ ns ++ [(y1, zv, yd)]) ∧ Kp (fun k => k = r) wr wx ∧ (∀ k, v'.ownBlock = some k → wr.heap.size ≤ k) ∧ ∀ k, zv.ownBlock = some k → wr.heap.size ≤ k)
          case first =>
            go_wp2_with fail
            have hHeld : (fun w9 : World => w9.cell? ⟨r, 0, none⟩ = some (.slice Av nl cv) ∧ w9.cell? ⟨b, off + i * 2, none⟩ = some (.int .i64 y1) ∧ w9.cell? ⟨b, off + i * 2 + 1, none⟩ = some (.slice Ay dl cy)) wr.drew := ⟨c1, e0, e1⟩
            refine but_start (S := fun w9 => w9.cell? ⟨r, 0, none⟩ = some (.slice Av nl cv) ∧ w9.cell? ⟨b, off + i * 2, none⟩ = some (.int .i64 y1) ∧ w9.cell? ⟨b, off + i * 2 + 1, none⟩ = some (.slice Ay dl cy)) (n := 24) (by kernel_rfl) ?_
            refine but_take (i := 0) (oi := { dst := some 27, op := Op.move (.tmp 0), type := _, pos := _, after := _, guard := _ }) (v := ?_) rfl (by kernel_rfl) (by kernel_rfl) (by kernel_rfl) (by kernel_rfl) (fun _ _ _ h => h) hHeld (Or.inl ⟨by rfl, ?_⟩) ?_
            rotate_left
            · intro w9 hSw
              obtain ⟨s1, s2, s3⟩ := hSw
              first | (go_simp; done) | (go_simp; with_reducible rfl)
            try simp only [Act.put, List.setIfInBounds_toArray, List.set_cons_zero, List.set_cons_succ]
            refine but_take (i := 2) (oi := { dst := some 29, op := Op.move (.tmp 0), type := _, pos := _, after := _, guard := _ }) (v := ?_) rfl (by kernel_rfl) (by kernel_rfl) (by kernel_rfl) (by kernel_rfl) (fun _ _ _ h => h) hHeld (Or.inl ⟨by rfl, ?_⟩) ?_
            rotate_left
            · intro w9 hSw
              obtain ⟨s1, s2, s3⟩ := hSw
              first | (go_simp; done) | (go_simp; with_reducible rfl)
            try simp only [Act.put, List.setIfInBounds_toArray, List.set_cons_zero, List.set_cons_succ]
            refine but_take (i := 3) (oi := { dst := some 30, op := Op.nilCheck (.tmp 29), type := _, pos := _, after := _, guard := _ }) (v := ?_) rfl (by kernel_rfl) (by kernel_rfl) (by kernel_rfl) (by kernel_rfl) (fun _ _ _ h => h) hHeld (Or.inl ⟨by rfl, ?_⟩) ?_
            rotate_left
            · intro w9 hSw
              obtain ⟨s1, s2, s3⟩ := hSw
              first | (go_simp; done) | (go_simp; with_reducible rfl)
            try simp only [Act.put, List.setIfInBounds_toArray, List.set_cons_zero, List.set_cons_succ]
            refine but_take (i := 4) (oi := { dst := some 31, op := Op.fieldAddr 64 (.tmp 30) 0, type := _, pos := _, after := _, guard := _ }) (v := ?_) rfl (by kernel_rfl) (by kernel_rfl) (by kernel_rfl) (by kernel_rfl) (fun _ _ _ h => h) hHeld (Or.inl ⟨by rfl, ?_⟩) ?_
            rotate_left
            · intro w9 hSw
              obtain ⟨s1, s2, s3⟩ := hSw
              first | (go_simp; done) | (go_simp; with_reducible rfl)
            try simp only [Act.put, List.setIfInBounds_toArray, List.set_cons_zero, List.set_cons_succ]
            refine but_take (i := 5) (oi := { dst := some 32, op := Op.load 62 (.tmp 31), type := _, pos := _, after := _, guard := _ }) (v := ?_) rfl (by kernel_rfl) (by kernel_rfl) (by kernel_rfl) (by kernel_rfl) (fun _ _ _ h => h) hHeld (Or.inl ⟨by rfl, ?_⟩) ?_
            rotate_left
            · intro w9 hSw
              obtain ⟨s1, s2, s3⟩ := hSw
              first | (go_simp; done) | (go_simp; with_reducible rfl)
            try simp only [Act.put, List.setIfInBounds_toArray, List.set_cons_zero, List.set_cons_succ]
            refine but_take (i := 7) (oi := { dst := some 34, op := Op.move (.tmp 1), type := _, pos := _, after := _, guard := _ }) (v := ?_) rfl (by kernel_rfl) (by kernel_rfl) (by kernel_rfl) (by kernel_rfl) (fun _ _ _ h => h) hHeld (Or.inl ⟨by rfl, ?_⟩) ?_
            rotate_left
            · intro w9 hSw
              obtain ⟨s1, s2, s3⟩ := hSw
              first | (go_simp; done) | (go_simp; with_reducible rfl)
            try simp only [Act.put, List.setIfInBounds_toArray, List.set_cons_zero, List.set_cons_succ]
            refine but_take (i := 8) (oi := { dst := some 35, op := Op.move (.tmp 6), type := _, pos := _, after := _, guard := _ }) (v := ?_) rfl (by kernel_rfl) (by kernel_rfl) (by kernel_rfl) (by kernel_rfl) (fun _ _ _ h => h) hHeld (Or.inl ⟨by rfl, ?_⟩) ?_
            rotate_left
            · intro w9 hSw
              obtain ⟨s1, s2, s3⟩ := hSw
              first | (go_simp; done) | (go_simp; with_reducible rfl)
            try simp only [Act.put, List.setIfInBounds_toArray, List.set_cons_zero, List.set_cons_succ]
            refine but_take (i := 9) (oi := { dst := some 36, op := Op.indexAddr 62 (.tmp 34) (.tmp 35), type := _, pos := _, after := _, guard := _ }) (v := ?_) rfl (by kernel_rfl) (by kernel_rfl) (by kernel_rfl) (by kernel_rfl) (fun _ _ _ h => h) hHeld (Or.inl ⟨by rfl, ?_⟩) ?_
            rotate_left
            · intro w9 hSw
              obtain ⟨s1, s2, s3⟩ := hSw
              first | (go_simp; done) | (go_simp; with_reducible rfl)
            try simp only [Act.put, List.setIfInBounds_toArray, List.set_cons_zero, List.set_cons_succ]
            refine but_take (i := 10) (oi := { dst := some 37, op := Op.fieldAddr 68 (.tmp 36) 0, type := _, pos := _, after := _, guard := _ }) (v := ?_) rfl (by kernel_rfl) (by kernel_rfl) (by kernel_rfl) (by kernel_rfl) (fun _ _ _ h => h) hHeld (Or.inl ⟨by rfl, ?_⟩) ?_
            rotate_left
            · intro w9 hSw
              obtain ⟨s1, s2, s3⟩ := hSw
              first | (go_simp; done) | (go_simp; with_reducible rfl)
            try simp only [Act.put, List.setIfInBounds_toArray, List.set_cons_zero, List.set_cons_succ]
            refine but_take (i := 11) (oi := { dst := some 38, op := Op.load 3 (.tmp 37), type := _, pos := _, after := _, guard := _ }) (v := ?_) rfl (by kernel_rfl) (by kernel_rfl) (by kernel_rfl) (by kernel_rfl) (fun _ _ _ h => h) hHeld (Or.inl ⟨by rfl, ?_⟩) ?_
            rotate_left
            · intro w9 hSw
              obtain ⟨s1, s2, s3⟩ := hSw
              first | (go_simp; done) | (go_simp; with_reducible rfl)
            try simp only [Act.put, List.setIfInBounds_toArray, List.set_cons_zero, List.set_cons_succ]
            refine but_take (i := 13) (oi := { dst := some 40, op := Op.move (.tmp 1), type := _, pos := _, after := _, guard := _ }) (v := ?_) rfl (by kernel_rfl) (by kernel_rfl) (by kernel_rfl) (by kernel_rfl) (fun _ _ _ h => h) hHeld (Or.inl ⟨by rfl, ?_⟩) ?_
            rotate_left
            · intro w9 hSw
              obtain ⟨s1, s2, s3⟩ := hSw
              first | (go_simp; done) | (go_simp; with_reducible rfl)
            try simp only [Act.put, List.setIfInBounds_toArray, List.set_cons_zero, List.set_cons_succ]
            refine but_take (i := 14) (oi := { dst := some 41, op := Op.move (.tmp 6), type := _, pos := _, after := _, guard := _ }) (v := ?_) rfl (by kernel_rfl) (by kernel_rfl) (by kernel_rfl) (by kernel_rfl) (fun _ _ _ h => h) hHeld (Or.inl ⟨by rfl, ?_⟩) ?_
            rotate_left
            · intro w9 hSw
              obtain ⟨s1, s2, s3⟩ := hSw
              first | (go_simp; done) | (go_simp; with_reducible rfl)
            try simp only [Act.put, List.setIfInBounds_toArray, List.set_cons_zero, List.set_cons_succ]
            refine but_take (i := 15) (oi := { dst := some 42, op := Op.indexAddr 62 (.tmp 40) (.tmp 41), type := _, pos := _, after := _, guard := _ }) (v := ?_) rfl (by kernel_rfl) (by kernel_rfl) (by kernel_rfl) (by kernel_rfl) (fun _ _ _ h => h) hHeld (Or.inl ⟨by rfl, ?_⟩) ?_
            rotate_left
            · intro w9 hSw
              obtain ⟨s1, s2, s3⟩ := hSw
              first | (go_simp; done) | (go_simp; with_reducible rfl)
            try simp only [Act.put, List.setIfInBounds_toArray, List.set_cons_zero, List.set_cons_succ]
            refine but_take (i := 16) (oi := { dst := some 43, op := Op.fieldAddr 68 (.tmp 42) 1, type := _, pos := _, after := _, guard := _ }) (v := ?_) rfl (by kernel_rfl) (by kernel_rfl) (by kernel_rfl) (by kernel_rfl) (fun _ _ _ h => h) hHeld (Or.inl ⟨by rfl, ?_⟩) ?_
            rotate_left
            · intro w9 hSw
              obtain ⟨s1, s2, s3⟩ := hSw
              first | (go_simp; done) | (go_simp; with_reducible rfl)
            try simp only [Act.put, List.setIfInBounds_toArray, List.set_cons_zero, List.set_cons_succ]
            refine but_take (i := 17) (oi := { dst := some 44, op := Op.load 53 (.tmp 43), type := _, pos := _, after := _, guard := _ }) (v := ?_) rfl (by kernel_rfl) (by kernel_rfl) (by kernel_rfl) (by kernel_rfl) (fun _ _ _ h => h) hHeld (Or.inl ⟨by rfl, ?_⟩) ?_
            rotate_left
            · intro w9 hSw
              obtain ⟨s1, s2, s3⟩ := hSw
              first | (go_simp; done) | (go_simp; with_reducible rfl)
            try simp only [Act.put, List.setIfInBounds_toArray, List.set_cons_zero, List.set_cons_succ]
            clear hHeld
            refine but_two (i := 1) (j := 12) (o := { dst := some 28, op := Op.buildSlice 62 0 #[], type := _, pos := _, after := _, guard := _ }) (o2 := { dst := some 39, op := Op.buildSlice 53 0 #[], type := _, pos := _, after := _, guard := _ }) (by kernel_rfl) rfl rfl (fun K hK => ?_) (fun K hK => ?_)
            · go_simp
              refine hK.out _ _ (fun _ => (by go_keep)) ?_
              clear hK K
              try simp only [Act.put, List.setIfInBounds_toArray, List.set_cons_zero, List.set_cons_succ]
              refine but_two (i := 6) (j := 12) (o := { dst := some 33, op := Op.call { callee := Callee.builtin Builtin.append, args := #[.tmp 28, .tmp 32], argTypes := #[62, 62] }, type := _, pos := _, after := _, guard := _ }) (o2 := { dst := some 39, op := Op.buildSlice 53 0 #[], type := _, pos := _, after := _, guard := _ }) (by kernel_rfl) rfl rfl (fun K hK => ?_) (fun K hK => ?_)
              · (refine step_row rfl (.tmp 28) (.tmp 32) 62 rfl wr.heap.size 68 i0 _ 2 32 Try.underlying62 Hi.out Hz0.out Hz1.out Hz2.out rfl (by decide) (.slice (some ⟨wr.heap.size, 0, none⟩) 0 0) 0 [] (by simp [Act.eval]; done) (RowAt.made (e := 68) rfl (Nat.le_refl _)).drew (.slice Av nl cv) nl (encs encZ (zs ++ ns)) (by simp [Act.eval]; done) (HV.out _ (((Kp.refl _ wr).alloc _).drew)) (by unfold maxLen; omega) (by omega) (by first | omega | (simp only [World.size_alloc]; omega) | (simp; try omega)) ?_; intro v1 w1 hr1 hg1 hn1; rw [Nat.zero_add, List.nil_append] at hr1; have ha := aft (((Kp.refl _ wr).alloc _).drew) (Nat.le_refl _) hg1 hn1; have Hk1 := Lib.hid ha.kp; have H1 := Lib.hid hr1; have HU := Lib.hid True.intro; have e0w1 := (ha.kp.cell (p := ⟨b, off + i * 2, none⟩) hb (fun h => h)).trans E0.out; have e1w1 := (ha.kp.cell (p := ⟨b, off + i * 2 + 1, none⟩) hb (fun h => h)).trans E1.out; have c1w1 := (ha.kp.cell (p := ⟨r, 0, none⟩) hrl (fun h => h)).trans C1.out; have c2w1 := (ha.kp.frozen (p := ⟨r, 0, none⟩) hrl (fun h => h)).trans C2.out; have hbw1 := Nat.lt_of_lt_of_le hb ha.kp.size; have hrw1 := Nat.lt_of_lt_of_le hrl ha.kp.size; have hsw1 := ha.kp.size; clear hr1 hg1 hn1 ha)
                refine hK.out _ _ (fun _ => ⟨c1w1, e0w1, e1w1⟩) ?_
                clear hK K
                try simp only [Act.put, List.setIfInBounds_toArray, List.set_cons_zero, List.set_cons_succ]
                refine but_one (i := 12) (o := { dst := some 39, op := Op.buildSlice 53 0 #[], type := _, pos := _, after := _, guard := _ }) (by kernel_rfl) rfl (fun K hK => ?_)
                go_simp
                refine hK.out _ _ (fun _ => (by go_keep)) ?_
                clear hK K
                try simp only [Act.put, List.setIfInBounds_toArray, List.set_cons_zero, List.set_cons_succ]
                refine but_one (i := 18) (o := { dst := some 45, op := Op.call { callee := Callee.builtin Builtin.append, args := #[.tmp 39, .tmp 44], argTypes := #[53, 53] }, type := _, pos := _, after := _, guard := _ }) (by kernel_rfl) rfl (fun K hK => ?_)
                (refine step_row rfl (.tmp 39) (.tmp 44) 53 rfl wr.heap.size 5 j0 _ 1 1 Try.underlying53 Hj.out Hy0.out Hy1.out Hy2.out rfl (by decide) (.slice (some ⟨w1.heap.size, 0, none⟩) 0 0) 0 [] (by simp [Act.eval]; done) (RowAt.made (e := 5) rfl (by omega)) (.slice Ay dl cy) dl (encB yd) (by simp [Act.eval]; done) (HD.out _ (Hk1.out.alloc _)) (by unfold maxLen; omega) (by omega) (by first | omega | (simp only [World.size_alloc]; omega) | (simp; try omega)) ?_; intro v2 wS hr2 hg2 hn2; rw [Nat.zero_add, List.nil_append] at hr2; obtain ⟨A2, c2, rfl⟩ := hr2.form; have ha := aft (Hk1.out.alloc _) (by omega) hg2 hn2; have hf := ha.far (H1.out.alloc _) (H1.out.ne_new (Nat.le_refl _)); have HkS := Lib.hid ha.kp; have H2S := Lib.hid hr2; have H1S := Lib.hid hf.1; have D12 := Lib.hid (fun k h2 h1 => hf.2 k h1 h2); have HKS := Lib.hid True.intro; have e0S := (ha.kp.cell (p := ⟨b, off + i * 2, none⟩) hb (fun h => h)).trans E0.out; have e1S := (ha.kp.cell (p := ⟨b, off + i * 2 + 1, none⟩) hb (fun h => h)).trans E1.out; have c1S := (ha.kp.cell (p := ⟨r, 0, none⟩) hrl (fun h => h)).trans C1.out; have c2S := (ha.kp.frozen (p := ⟨r, 0, none⟩) hrl (fun h => h)).trans C2.out; have hbS := Nat.lt_of_lt_of_le hb ha.kp.size; have hrS := Nat.lt_of_lt_of_le hrl ha.kp.size; have hsS := ha.kp.size; clear hr2 hg2 hn2 ha hf)
                refine hK.out _ _ (fun _ => ⟨c1S, e0S, e1S⟩) ?_
                clear hK K
                try simp only [Act.put, List.setIfInBounds_toArray, List.set_cons_zero, List.set_cons_succ]
                refine but_take (i := 19) (oi := { dst := some 46, op := Op.build 68 #[(0, .tmp 38), (1, .tmp 45)], type := _, pos := _, after := _, guard := _ }) (v := ?_) rfl (by kernel_rfl) (by kernel_rfl) (by kernel_rfl) (by kernel_rfl) (fun _ _ _ h => h) ⟨c1S, e0S, e1S⟩ (Or.inl ⟨by rfl, ?_⟩) ?_
                rotate_left
                · intro w9 hSw
                  obtain ⟨s1, s2, s3⟩ := hSw
                  first | (go_simp; done) | (go_simp; with_reducible rfl)
                try simp only [Act.put, List.setIfInBounds_toArray, List.set_cons_zero, List.set_cons_succ]
                refine but_one (i := 20) (o := { dst := some 47, op := Op.buildSlice 62 1 #[(0, .tmp 46)], type := _, pos := _, after := _, guard := _ }) (by kernel_rfl) rfl (fun K hK => ?_)
                go_simp
                refine hK.out _ _ (fun _ => (by go_keep)) ?_
                clear hK K
                try simp only [Act.put, List.setIfInBounds_toArray, List.set_cons_zero, List.set_cons_succ]
                refine but_one (i := 21) (o := { dst := some 48, op := Op.call { callee := Callee.builtin Builtin.append, args := #[.tmp 33, .tmp 47], argTypes := #[62, 62] }, type := _, pos := _, after := _, guard := _ }) (by kernel_rfl) rfl (fun K hK => ?_)
                (refine step_row rfl (.tmp 33) (.tmp 47) 62 rfl wr.heap.size 68 i0 _ 2 32 Try.underlying62 Hi.out Hz0.out Hz1.out Hz2.out rfl (by decide) v1 nl (encs encZ (zs ++ ns)) (by simp [Act.eval]; done) (H1S.out.alloc _) (.slice (some ⟨wS.heap.size, 0, none⟩) 1 1) 1 (encZ (y1, .slice A2 dl c2, yd)) (by simp [Act.eval]; done) (src_row _ (Whole.new _ _ _) rfl (fun u hu => by simp [encZ] at hu; rcases hu with rfl | rfl <;> rfl)) (by unfold maxLen; omega) (by omega) (by first | omega | (simp only [World.size_alloc]; omega) | (simp; try omega)) ?_; intro v3 w3 hr3 hg3 hn3; obtain ⟨A3, c3, rfl⟩ := hr3.form; have hk3 : Kp (fun _ => False) wr w3 := (HkS.out.alloc _).grown hg3 (fun i hi hlt => by have := (H1S.out.lt i hi).1; omega); have hkv : Kp (fun k => v1.ownBlock = some k) _ w3 := Kp.of_grown hg3 (fun i hi _ => hi); have h23 := (H2S.out.alloc _).kp hkv D12.out; have hfin := rq_more (z := (y1, .slice A2 dl c2, yd)) Hr.out (Nat.le_trans hB Hk.out.size) hk3 Hnl.out hr3 ⟨by unfold Bs; rw [Hdl.out]; exact h23.src (encB_one _), h23.lt, rfl⟩ hroom; have c13 := (hk3.cell (p := ⟨r, 0, none⟩) hrl (fun h => h)).trans C1.out; have c23 := (hk3.frozen (p := ⟨r, 0, none⟩) hrl (fun h => h)).trans C2.out; have e03 := (hk3.cell (p := ⟨b, off + i * 2, none⟩) hb (fun h => h)).trans E0.out; have e13 := (hk3.cell (p := ⟨b, off + i * 2 + 1, none⟩) hb (fun h => h)).trans E1.out; have hd3 := h23.lt; have Hfin := Lib.hid hfin; have Hd3 := Lib.hid hd3; clear hr3 hg3 hn3 hk3 hkv h23 hfin hd3)
                refine hK.out _ _ (fun _ => ⟨c13, e03, e13⟩) ?_
                clear hK K
                try simp only [Act.put, List.setIfInBounds_toArray, List.set_cons_zero, List.set_cons_succ]
                refine but_one (i := 22) (o := { dst := some 49, op := Op.nilCheck (.tmp 27), type := _, pos := _, after := _, guard := _ }) (by kernel_rfl) rfl (fun K hK => ?_)
                go_simp
                refine hK.out _ _ (fun _ => ⟨c13, e03, e13⟩) ?_
                clear hK K
                try simp only [Act.put, List.setIfInBounds_toArray, List.set_cons_zero, List.set_cons_succ]
                refine but_one (i := 23) (o := { dst := some 50, op := Op.fieldAddr 64 (.tmp 49) 0, type := _, pos := _, after := _, guard := _ }) (by kernel_rfl) rfl (fun K hK => ?_)
                go_simp
                refine hK.out _ _ (fun _ => ⟨c13, e03, e13⟩) ?_
                clear hK K
                try simp only [Act.put, List.setIfInBounds_toArray, List.set_cons_zero, List.set_cons_succ]
                refine but_one (i := 24) (o := { dst := none, op := Op.store 62 (.tmp 50) (.tmp 48), type := _, pos := _, after := _, guard := _ }) (by kernel_rfl) rfl (fun K hK => ?_)
                go_simp
                refine hK.out _ _ (fun h => absurd rfl h) ?_
                clear hK K
                refine but_done (by kernel_rfl) ?_ _
                go_wp2_with fail
                go_meet
                exact ⟨_, _, Hfin.out.1, Hfin.out.2.1, Hfin.out.2.2, fun k hk => (Hd3.out k hk).1⟩
              · go_simp
                refine hK.out _ _ (fun _ => (by go_keep)) ?_
                clear hK K
                try simp only [Act.put, List.setIfInBounds_toArray, List.set_cons_zero, List.set_cons_succ]
                refine but_one (i := 6) (o := { dst := some 33, op := Op.call { callee := Callee.builtin Builtin.append, args := #[.tmp 28, .tmp 32], argTypes := #[62, 62] }, type := _, pos := _, after := _, guard := _ }) (by kernel_rfl) rfl (fun K hK => ?_)
                (refine step_row rfl (.tmp 28) (.tmp 32) 62 rfl wr.heap.size 68 i0 _ 2 32 Try.underlying62 Hi.out Hz0.out Hz1.out Hz2.out rfl (by decide) (.slice (some ⟨wr.heap.size, 0, none⟩) 0 0) 0 [] (by simp [Act.eval]; done) ((RowAt.made (e := 68) rfl (Nat.le_refl _)).alloc _).drew (.slice Av nl cv) nl (encs encZ (zs ++ ns)) (by simp [Act.eval]; done) (HV.out _ ((((Kp.refl _ wr).alloc _).alloc _).drew)) (by unfold maxLen; omega) (by omega) (by first | omega | (simp only [World.size_alloc]; omega) | (simp; try omega)) ?_; intro v1 w1 hr1 hg1 hn1; rw [Nat.zero_add, List.nil_append] at hr1; have ha := aft ((((Kp.refl _ wr).alloc _).alloc _).drew) (Nat.le_refl _) hg1 hn1; have Hk1 := Lib.hid ha.kp; have H1 := Lib.hid hr1; have HU := Lib.hid (ha.row (B := wr.heap.size) (sz := 1) (kO := wr.heap.size + 1) (RowAt.made (e := 5) (by simp) (by omega)).drew (by omega)); have e0w1 := (ha.kp.cell (p := ⟨b, off + i * 2, none⟩) hb (fun h => h)).trans E0.out; have e1w1 := (ha.kp.cell (p := ⟨b, off + i * 2 + 1, none⟩) hb (fun h => h)).trans E1.out; have c1w1 := (ha.kp.cell (p := ⟨r, 0, none⟩) hrl (fun h => h)).trans C1.out; have c2w1 := (ha.kp.frozen (p := ⟨r, 0, none⟩) hrl (fun h => h)).trans C2.out; have hbw1 := Nat.lt_of_lt_of_le hb ha.kp.size; have hrw1 := Nat.lt_of_lt_of_le hrl ha.kp.size; have hsw1 := ha.kp.size; clear hr1 hg1 hn1 ha)
                refine hK.out _ _ (fun _ => ⟨c1w1, e0w1, e1w1⟩) ?_
                clear hK K
                try simp only [Act.put, List.setIfInBounds_toArray, List.set_cons_zero, List.set_cons_succ]
                refine but_one (i := 18) (o := { dst := some 45, op := Op.call { callee := Callee.builtin Builtin.append, args := #[.tmp 39, .tmp 44], argTypes := #[53, 53] }, type := _, pos := _, after := _, guard := _ }) (by kernel_rfl) rfl (fun K hK => ?_)
                (refine step_row rfl (.tmp 39) (.tmp 44) 53 rfl wr.heap.size 5 j0 _ 1 1 Try.underlying53 Hj.out Hy0.out Hy1.out Hy2.out rfl (by decide) _ 0 [] (by simp [Act.eval]; done) HU.out.1 (.slice Ay dl cy) dl (encB yd) (by simp [Act.eval]; done) (HD.out _ Hk1.out) (by unfold maxLen; omega) (by omega) (by first | omega | (simp only [World.size_alloc]; omega) | (simp; try omega)) ?_; intro v2 wS hr2 hg2 hn2; rw [Nat.zero_add, List.nil_append] at hr2; obtain ⟨A2, c2, rfl⟩ := hr2.form; have ha := aft Hk1.out (HU.out.1.lt _ rfl).1 hg2 hn2; have hf := ha.far H1.out HU.out.2; have HkS := Lib.hid ha.kp; have H2S := Lib.hid hr2; have H1S := Lib.hid hf.1; have D12 := Lib.hid (fun k h2 h1 => hf.2 k h1 h2); have HKS := Lib.hid True.intro; have e0S := (ha.kp.cell (p := ⟨b, off + i * 2, none⟩) hb (fun h => h)).trans E0.out; have e1S := (ha.kp.cell (p := ⟨b, off + i * 2 + 1, none⟩) hb (fun h => h)).trans E1.out; have c1S := (ha.kp.cell (p := ⟨r, 0, none⟩) hrl (fun h => h)).trans C1.out; have c2S := (ha.kp.frozen (p := ⟨r, 0, none⟩) hrl (fun h => h)).trans C2.out; have hbS := Nat.lt_of_lt_of_le hb ha.kp.size; have hrS := Nat.lt_of_lt_of_le hrl ha.kp.size; have hsS := ha.kp.size; clear hr2 hg2 hn2 ha hf)
                refine hK.out _ _ (fun _ => ⟨c1S, e0S, e1S⟩) ?_
                clear hK K
                try simp only [Act.put, List.setIfInBounds_toArray, List.set_cons_zero, List.set_cons_succ]
                refine but_take (i := 19) (oi := { dst := some 46, op := Op.build 68 #[(0, .tmp 38), (1, .tmp 45)], type := _, pos := _, after := _, guard := _ }) (v := ?_) rfl (by kernel_rfl) (by kernel_rfl) (by kernel_rfl) (by kernel_rfl) (fun _ _ _ h => h) ⟨c1S, e0S, e1S⟩ (Or.inl ⟨by rfl, ?_⟩) ?_
                rotate_left
                · intro w9 hSw
                  obtain ⟨s1, s2, s3⟩ := hSw
                  first | (go_simp; done) | (go_simp; with_reducible rfl)
                try simp only [Act.put, List.setIfInBounds_toArray, List.set_cons_zero, List.set_cons_succ]
                refine but_one (i := 20) (o := { dst := some 47, op := Op.buildSlice 62 1 #[(0, .tmp 46)], type := _, pos := _, after := _, guard := _ }) (by kernel_rfl) rfl (fun K hK => ?_)
                go_simp
                refine hK.out _ _ (fun _ => (by go_keep)) ?_
                clear hK K
                try simp only [Act.put, List.setIfInBounds_toArray, List.set_cons_zero, List.set_cons_succ]
                refine but_one (i := 21) (o := { dst := some 48, op := Op.call { callee := Callee.builtin Builtin.append, args := #[.tmp 33, .tmp 47], argTypes := #[62, 62] }, type := _, pos := _, after := _, guard := _ }) (by kernel_rfl) rfl (fun K hK => ?_)
                (refine step_row rfl (.tmp 33) (.tmp 47) 62 rfl wr.heap.size 68 i0 _ 2 32 Try.underlying62 Hi.out Hz0.out Hz1.out Hz2.out rfl (by decide) v1 nl (encs encZ (zs ++ ns)) (by simp [Act.eval]; done) (H1S.out.alloc _) (.slice (some ⟨wS.heap.size, 0, none⟩) 1 1) 1 (encZ (y1, .slice A2 dl c2, yd)) (by simp [Act.eval]; done) (src_row _ (Whole.new _ _ _) rfl (fun u hu => by simp [encZ] at hu; rcases hu with rfl | rfl <;> rfl)) (by unfold maxLen; omega) (by omega) (by first | omega | (simp only [World.size_alloc]; omega) | (simp; try omega)) ?_; intro v3 w3 hr3 hg3 hn3; obtain ⟨A3, c3, rfl⟩ := hr3.form; have hk3 : Kp (fun _ => False) wr w3 := (HkS.out.alloc _).grown hg3 (fun i hi hlt => by have := (H1S.out.lt i hi).1; omega); have hkv : Kp (fun k => v1.ownBlock = some k) _ w3 := Kp.of_grown hg3 (fun i hi _ => hi); have h23 := (H2S.out.alloc _).kp hkv D12.out; have hfin := rq_more (z := (y1, .slice A2 dl c2, yd)) Hr.out (Nat.le_trans hB Hk.out.size) hk3 Hnl.out hr3 ⟨by unfold Bs; rw [Hdl.out]; exact h23.src (encB_one _), h23.lt, rfl⟩ hroom; have c13 := (hk3.cell (p := ⟨r, 0, none⟩) hrl (fun h => h)).trans C1.out; have c23 := (hk3.frozen (p := ⟨r, 0, none⟩) hrl (fun h => h)).trans C2.out; have e03 := (hk3.cell (p := ⟨b, off + i * 2, none⟩) hb (fun h => h)).trans E0.out; have e13 := (hk3.cell (p := ⟨b, off + i * 2 + 1, none⟩) hb (fun h => h)).trans E1.out; have hd3 := h23.lt; have Hfin := Lib.hid hfin; have Hd3 := Lib.hid hd3; clear hr3 hg3 hn3 hk3 hkv h23 hfin hd3)
                refine hK.out _ _ (fun _ => ⟨c13, e03, e13⟩) ?_
                clear hK K
                try simp only [Act.put, List.setIfInBounds_toArray, List.set_cons_zero, List.set_cons_succ]
                refine but_one (i := 22) (o := { dst := some 49, op := Op.nilCheck (.tmp 27), type := _, pos := _, after := _, guard := _ }) (by kernel_rfl) rfl (fun K hK => ?_)
                go_simp
                refine hK.out _ _ (fun _ => ⟨c13, e03, e13⟩) ?_
                clear hK K
                try simp only [Act.put, List.setIfInBounds_toArray, List.set_cons_zero, List.set_cons_succ]
                refine but_one (i := 23) (o := { dst := some 50, op := Op.fieldAddr 64 (.tmp 49) 0, type := _, pos := _, after := _, guard := _ }) (by kernel_rfl) rfl (fun K hK => ?_)
                go_simp
                refine hK.out _ _ (fun _ => ⟨c13, e03, e13⟩) ?_
                clear hK K
                try simp only [Act.put, List.setIfInBounds_toArray, List.set_cons_zero, List.set_cons_succ]
                refine but_one (i := 24) (o := { dst := none, op := Op.store 62 (.tmp 50) (.tmp 48), type := _, pos := _, after := _, guard := _ }) (by kernel_rfl) rfl (fun K hK => ?_)
                go_simp
                refine hK.out _ _ (fun h => absurd rfl h) ?_
                clear hK K
                refine but_done (by kernel_rfl) ?_ _
                go_wp2_with fail
                go_meet
                exact ⟨_, _, Hfin.out.1, Hfin.out.2.1, Hfin.out.2.2, fun k hk => (Hd3.out k hk).1⟩
            · go_simp
              refine hK.out _ _ (fun _ => (by go_keep)) ?_
              clear hK K
              try simp only [Act.put, List.setIfInBounds_toArray, List.set_cons_zero, List.set_cons_succ]
              refine but_one (i := 1) (o := { dst := some 28, op := Op.buildSlice 62 0 #[], type := _, pos := _, after := _, guard := _ }) (by kernel_rfl) rfl (fun K hK => ?_)
              go_simp
              refine hK.out _ _ (fun _ => (by go_keep)) ?_
              clear hK K
              try simp only [Act.put, List.setIfInBounds_toArray, List.set_cons_zero, List.set_cons_succ]
              refine but_one (i := 6) (o := { dst := some 33, op := Op.call { callee := Callee.builtin Builtin.append, args := #[.tmp 28, .tmp 32], argTypes := #[62, 62] }, type := _, pos := _, after := _, guard := _ }) (by kernel_rfl) rfl (fun K hK => ?_)
              (refine step_row rfl (.tmp 28) (.tmp 32) 62 rfl wr.heap.size 68 i0 _ 2 32 Try.underlying62 Hi.out Hz0.out Hz1.out Hz2.out rfl (by decide) (.slice (some ⟨wr.heap.size + 1, 0, none⟩) 0 0) 0 [] (by simp [Act.eval]; done) (RowAt.made (e := 68) (by simp) (by omega)).drew (.slice Av nl cv) nl (encs encZ (zs ++ ns)) (by simp [Act.eval]; done) (HV.out _ ((((Kp.refl _ wr).alloc _).alloc _).drew)) (by unfold maxLen; omega) (by omega) (by first | omega | (simp only [World.size_alloc]; omega) | (simp; try omega)) ?_; intro v1 w1 hr1 hg1 hn1; rw [Nat.zero_add, List.nil_append] at hr1; have ha := aft ((((Kp.refl _ wr).alloc _).alloc _).drew) (Nat.le_succ _) hg1 hn1; have Hk1 := Lib.hid ha.kp; have H1 := Lib.hid hr1; have HU := Lib.hid (ha.row (B := wr.heap.size) (sz := 1) (kO := wr.heap.size) ((RowAt.made (e := 5) rfl (Nat.le_refl _)).alloc _).drew (by omega)); have e0w1 := (ha.kp.cell (p := ⟨b, off + i * 2, none⟩) hb (fun h => h)).trans E0.out; have e1w1 := (ha.kp.cell (p := ⟨b, off + i * 2 + 1, none⟩) hb (fun h => h)).trans E1.out; have c1w1 := (ha.kp.cell (p := ⟨r, 0, none⟩) hrl (fun h => h)).trans C1.out; have c2w1 := (ha.kp.frozen (p := ⟨r, 0, none⟩) hrl (fun h => h)).trans C2.out; have hbw1 := Nat.lt_of_lt_of_le hb ha.kp.size; have hrw1 := Nat.lt_of_lt_of_le hrl ha.kp.size; have hsw1 := ha.kp.size; clear hr1 hg1 hn1 ha)
              refine hK.out _ _ (fun _ => ⟨c1w1, e0w1, e1w1⟩) ?_
              clear hK K
              try simp only [Act.put, List.setIfInBounds_toArray, List.set_cons_zero, List.set_cons_succ]
              refine but_one (i := 18) (o := { dst := some 45, op := Op.call { callee := Callee.builtin Builtin.append, args := #[.tmp 39, .tmp 44], argTypes := #[53, 53] }, type := _, pos := _, after := _, guard := _ }) (by kernel_rfl) rfl (fun K hK => ?_)
              (refine step_row rfl (.tmp 39) (.tmp 44) 53 rfl wr.heap.size 5 j0 _ 1 1 Try.underlying53 Hj.out Hy0.out Hy1.out Hy2.out rfl (by decide) _ 0 [] (by simp [Act.eval]; done) HU.out.1 (.slice Ay dl cy) dl (encB yd) (by simp [Act.eval]; done) (HD.out _ Hk1.out) (by unfold maxLen; omega) (by omega) (by first | omega | (simp only [World.size_alloc]; omega) | (simp; try omega)) ?_; intro v2 wS hr2 hg2 hn2; rw [Nat.zero_add, List.nil_append] at hr2; obtain ⟨A2, c2, rfl⟩ := hr2.form; have ha := aft Hk1.out (HU.out.1.lt _ rfl).1 hg2 hn2; have hf := ha.far H1.out HU.out.2; have HkS := Lib.hid ha.kp; have H2S := Lib.hid hr2; have H1S := Lib.hid hf.1; have D12 := Lib.hid (fun k h2 h1 => hf.2 k h1 h2); have HKS := Lib.hid True.intro; have e0S := (ha.kp.cell (p := ⟨b, off + i * 2, none⟩) hb (fun h => h)).trans E0.out; have e1S := (ha.kp.cell (p := ⟨b, off + i * 2 + 1, none⟩) hb (fun h => h)).trans E1.out; have c1S := (ha.kp.cell (p := ⟨r, 0, none⟩) hrl (fun h => h)).trans C1.out; have c2S := (ha.kp.frozen (p := ⟨r, 0, none⟩) hrl (fun h => h)).trans C2.out; have hbS := Nat.lt_of_lt_of_le hb ha.kp.size; have hrS := Nat.lt_of_lt_of_le hrl ha.kp.size; have hsS := ha.kp.size; clear hr2 hg2 hn2 ha hf)
              refine hK.out _ _ (fun _ => ⟨c1S, e0S, e1S⟩) ?_
              clear hK K
              try simp only [Act.put, List.setIfInBounds_toArray, List.set_cons_zero, List.set_cons_succ]
              refine but_take (i := 19) (oi := { dst := some 46, op := Op.build 68 #[(0, .tmp 38), (1, .tmp 45)], type := _, pos := _, after := _, guard := _ }) (v := ?_) rfl (by kernel_rfl) (by kernel_rfl) (by kernel_rfl) (by kernel_rfl) (fun _ _ _ h => h) ⟨c1S, e0S, e1S⟩ (Or.inl ⟨by rfl, ?_⟩) ?_
              rotate_left
              · intro w9 hSw
                obtain ⟨s1, s2, s3⟩ := hSw
                first | (go_simp; done) | (go_simp; with_reducible rfl)
              try simp only [Act.put, List.setIfInBounds_toArray, List.set_cons_zero, List.set_cons_succ]
              refine but_one (i := 20) (o := { dst := some 47, op := Op.buildSlice 62 1 #[(0, .tmp 46)], type := _, pos := _, after := _, guard := _ }) (by kernel_rfl) rfl (fun K hK => ?_)
              go_simp
              refine hK.out _ _ (fun _ => (by go_keep)) ?_
              clear hK K
              try simp only [Act.put, List.setIfInBounds_toArray, List.set_cons_zero, List.set_cons_succ]
              refine but_one (i := 21) (o := { dst := some 48, op := Op.call { callee := Callee.builtin Builtin.append, args := #[.tmp 33, .tmp 47], argTypes := #[62, 62] }, type := _, pos := _, after := _, guard := _ }) (by kernel_rfl) rfl (fun K hK => ?_)
              (refine step_row rfl (.tmp 33) (.tmp 47) 62 rfl wr.heap.size 68 i0 _ 2 32 Try.underlying62 Hi.out Hz0.out Hz1.out Hz2.out rfl (by decide) v1 nl (encs encZ (zs ++ ns)) (by simp [Act.eval]; done) (H1S.out.alloc _) (.slice (some ⟨wS.heap.size, 0, none⟩) 1 1) 1 (encZ (y1, .slice A2 dl c2, yd)) (by simp [Act.eval]; done) (src_row _ (Whole.new _ _ _) rfl (fun u hu => by simp [encZ] at hu; rcases hu with rfl | rfl <;> rfl)) (by unfold maxLen; omega) (by omega) (by first | omega | (simp only [World.size_alloc]; omega) | (simp; try omega)) ?_; intro v3 w3 hr3 hg3 hn3; obtain ⟨A3, c3, rfl⟩ := hr3.form; have hk3 : Kp (fun _ => False) wr w3 := (HkS.out.alloc _).grown hg3 (fun i hi hlt => by have := (H1S.out.lt i hi).1; omega); have hkv : Kp (fun k => v1.ownBlock = some k) _ w3 := Kp.of_grown hg3 (fun i hi _ => hi); have h23 := (H2S.out.alloc _).kp hkv D12.out; have hfin := rq_more (z := (y1, .slice A2 dl c2, yd)) Hr.out (Nat.le_trans hB Hk.out.size) hk3 Hnl.out hr3 ⟨by unfold Bs; rw [Hdl.out]; exact h23.src (encB_one _), h23.lt, rfl⟩ hroom; have c13 := (hk3.cell (p := ⟨r, 0, none⟩) hrl (fun h => h)).trans C1.out; have c23 := (hk3.frozen (p := ⟨r, 0, none⟩) hrl (fun h => h)).trans C2.out; have e03 := (hk3.cell (p := ⟨b, off + i * 2, none⟩) hb (fun h => h)).trans E0.out; have e13 := (hk3.cell (p := ⟨b, off + i * 2 + 1, none⟩) hb (fun h => h)).trans E1.out; have hd3 := h23.lt; have Hfin := Lib.hid hfin; have Hd3 := Lib.hid hd3; clear hr3 hg3 hn3 hk3 hkv h23 hfin hd3)
              refine hK.out _ _ (fun _ => ⟨c13, e03, e13⟩) ?_
              clear hK K
              try simp only [Act.put, List.setIfInBounds_toArray, List.set_cons_zero, List.set_cons_succ]
              refine but_one (i := 22) (o := { dst := some 49, op := Op.nilCheck (.tmp 27), type := _, pos := _, after := _, guard := _ }) (by kernel_rfl) rfl (fun K hK => ?_)
              go_simp
              refine hK.out _ _ (fun _ => ⟨c13, e03, e13⟩) ?_
              clear hK K
              try simp only [Act.put, List.setIfInBounds_toArray, List.set_cons_zero, List.set_cons_succ]
              refine but_one (i := 23) (o := { dst := some 50, op := Op.fieldAddr 64 (.tmp 49) 0, type := _, pos := _, after := _, guard := _ }) (by kernel_rfl) rfl (fun K hK => ?_)
              go_simp
              refine hK.out _ _ (fun _ => ⟨c13, e03, e13⟩) ?_
              clear hK K
              try simp only [Act.put, List.setIfInBounds_toArray, List.set_cons_zero, List.set_cons_succ]
              refine but_one (i := 24) (o := { dst := none, op := Op.store 62 (.tmp 50) (.tmp 48), type := _, pos := _, after := _, guard := _ }) (by kernel_rfl) rfl (fun K hK => ?_)
              go_simp
              refine hK.out _ _ (fun h => absurd rfl h) ?_
              clear hK K
              refine but_done (by kernel_rfl) ?_ _
              go_wp2_with fail
              go_meet
              exact ⟨_, _, Hfin.out.1, Hfin.out.2.1, Hfin.out.2.2, fun k hk => (Hd3.out k hk).1⟩
          case rest =>
            obtain ⟨v3, zv, hr3, hk3, hv3, hz3⟩ := hcut
            have hnsl : ns.length ≤ 32 := by have := Hnl.out; rw [List.length_append] at this; omega
            go_wp2_with fail
            go_roundw
            case rel => exact ⟨i + 1, _, ns ++ [(y1, zv, yd)], by omega, by go_num, by rw [List.length_append, List.length_singleton]; go_num, Lib.hid (by rw [its_snoc Hyi.out, accept_snoc, ← Hns.out, its, List.map_append, show zs.length + (its ns).length = nl by rw [its, List.length_map, ← Hnl.out, List.length_append], show Nat.blt nl 32 = true by simpa using hroom, show okI (y1, yd) = true by rw [okI, Hdl.out]; exact decide_eq_true hok]; rfl), by rw [← List.append_assoc]; exact hr3, Hk.out.trans hk3, .inr (fun k hk => Nat.le_trans Hk.out.size (hv3 k hk)), fun z hz k hk => by
              rcases List.mem_append.1 hz with hz | hz
              · exact Hfr.out z hz k hk
              · simp only [List.mem_singleton] at hz
                subst hz
                exact Nat.le_trans Hk.out.size (hz3 k hk)⟩
            case measure => simp [intOf]; omega
        · have hno : Hid (its ns = accept zs.length (its (ys.take (i + 1)))) := Lib.hid (by
            rw [its_snoc Hyi.out, accept_snoc, ← Hns.out, show zs.length + (its ns).length = nl by rw [its, List.length_map, ← Hnl.out, List.length_append], show Nat.blt nl 32 = false from Bool.eq_false_iff.2 (by simpa using hroom), Bool.and_false, cond_false, List.append_nil])
          go_wp2_with fail
          with_reducible refine (Hf.out _).mono ?_
          rintro e w2 ⟨rfl, rfl⟩
          go_wp2_with fail
          go_roundw
          case rel => exact ⟨i + 1, _, ns, by omega, by go_num, rfl, hno, Hr.out, Hk.out, Hv'.out, Hfr.out⟩
          case measure => simp [intOf]; omega
      · have Hf : Hid (∀ w', Calls Try.prog 55 #[.slice Ay dl cy] w' fun e w'' => e = .returned (.bool false) ∧ w' = w'') := Lib.hid (fun w' => by have := @fits_any w' Ay dl cy (by omega); rw [decide_eq_false hok] at this; exact this)
        have hno : Hid (its ns = accept zs.length (its (ys.take (i + 1)))) := Lib.hid (by
          rw [its_snoc Hyi.out, accept_snoc, ← Hns.out, show okI (y1, yd) = false by rw [okI, Hdl.out]; exact decide_eq_false hok, Bool.false_and, cond_false, List.append_nil])
        go_wp2_with fail
        with_reducible refine (Hf.out _).mono ?_
        rintro e w2 ⟨rfl, rfl⟩
        go_wp2_with fail
        go_roundw
        case rel => exact ⟨i + 1, _, ns, by omega, by go_num, rfl, hno, Hr.out, Hk.out, Hv'.out, Hfr.out⟩
        case measure => simp [intOf]; omega
    · obtain rfl : i = m := by omega
      rw [List.take_of_length_le (by rw [Hml.out]; omega)] at Hns
      go_wp2_with fail
      go_ret
      exact ⟨by rw [← Hns.out, its, List.length_map]; rfl, v', ns, Hns.out, Hr.out, Hk.out, Hv'.out, Hfr.out⟩
end Go.Proofs.Ytelhnhnbfjamhaa

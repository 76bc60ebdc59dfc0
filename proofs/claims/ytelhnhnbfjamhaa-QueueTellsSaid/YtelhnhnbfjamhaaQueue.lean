/-
  The calls of package queue.
-/
import Derived.Test.YtelhnhnbfjamhaaBytes
import Derived.Deep.RegionHeld3
import Derived.Outline
namespace Go.Proofs.Ytelhnhnbfjamhaa
open Go.RowKit

theorem kp_set1 {w w' : World} (b i : Nat) (v : Value) (h : Kp (fun k => k = b) w w') : Kp (fun k => k = b) w (w'.setCell ⟨b, i, none⟩ v) := Kp.set (S := fun k => k = b) h (p := ⟨b, i, none⟩) (.inl rfl) v

/-- A value that is a slice of n bytes of its own, made behind B. -/
def NewB (w : World) (B : Nat) (v : Value) (d : List UInt8) : Prop := Bs w v d ∧ (∀ k, v.ownBlock = some k → B ≤ k ∧ k < w.heap.size) ∧ v.oneCell' = true

set_option maxRecDepth 100000 in
set_option maxHeartbeats 1000000 in
theorem item_own {w : World} {v : Value} {d : List UInt8} (note : Int) (hx : Bs w v d) (hn : d.length ≤ 140737488355328) :
    Calls Try.prog 51 #[.agg #[.int .i64 note, v]] w fun e w' => ∃ v', e = .returned (.agg #[.int .i64 note, v']) ∧ NewB w' w.heap.size v' d ∧ Kp (fun _ => False) w w' := by
  obtain ⟨A, cap, rfl⟩ := hx.form
  have hk0 : Kp (fun _ => False) w (((w.alloc (.cells #[.int .i64 note, .slice A d.length cap] 55)).alloc (.cells #[.int .i64 0, .slice none 0 0] 55)).drew) := (((Kp.refl _ w).alloc _).alloc _).drew
  have hC := clone_b (hx.kp hk0 (fun _ _ h => h)) hn
  have HC := Lib.hid hC
  have hb : Whole (((w.alloc (.cells #[.int .i64 note, .slice A d.length cap] 55)).alloc (.cells #[.int .i64 0, .slice none 0 0] 55)).drew) w.heap.size 55 #[.int .i64 note, .slice A d.length cap] := ((whole_at _ _ rfl rfl).alloc _).drew
  have hr : Whole (((w.alloc (.cells #[.int .i64 note, .slice A d.length cap] 55)).alloc (.cells #[.int .i64 0, .slice none 0 0] 55)).drew) (w.heap.size + 1) 55 #[.int .i64 0, .slice none 0 0] := (whole_at _ _ rfl (by simp)).drew
  have Hb := Lib.hid hb
  have Hr := Lib.hid hr
  have Hk0 := Lib.hid hk0
  clear hx hC hb hr hk0
  generalize hdl : d.length = n at *
  have Hdl := Lib.hid hdl
  clear hdl
  go_enter Try.func51, Try.ntmps51
  go_wp2_with fail
  go_region_held3 (fun w' => w'.cell? ⟨w.heap.size, 0, none⟩ = some (.int .i64 note) ∧ w'.cell? ⟨w.heap.size, 1, none⟩ = some (.slice A n cap)) (go_keep)
    (first | (go_at_call 65; refine (HC.out).mono ?_; rintro e w1 ⟨A', c', rfl, ho, hk⟩; have b0 := (hk.whole Hb.out (fun h => h)).cell 0; have b1 := (hk.whole Hb.out (fun h => h)).cell 1; have r0 := (hk.whole Hr.out (fun h => h)).cell 0; have r1 := (hk.whole Hr.out (fun h => h)).cell 1; have r2 := (hk.whole Hr.out (fun h => h)).frozen 0; have r3 := (hk.whole Hr.out (fun h => h)).frozen 1; have r4 := (hk.whole Hr.out (fun h => h)).lt; simp at b0 b1 r0 r1; have Hrr := Lib.hid (hk.whole Hr.out (fun h => h)); have Ho := Lib.hid ho; have Hk := Lib.hid hk; clear ho hk) | (go_at_call 64; refine (clip_b (own_le Ho.out) (own_addr Ho.out)).mono ?_; rintro e w2 ⟨rfl, rfl⟩))
  all_goals
    go_wp2_with fail
    have z := (Hrr.out.set 0 (.int .i64 note)).set 1 (.slice A' n n)
    have hk2 : Kp (fun _ => False) w ((w1.setCell ⟨w.heap.size + 1, 0, none⟩ (.int .i64 note)).setCell ⟨w.heap.size + 1, 1, none⟩ (.slice A' n n)) :=
      ((Hk0.out.trans Hk.out).set (p := ⟨w.heap.size + 1, 0, none⟩) (.inr (by simp)) _).set (p := ⟨w.heap.size + 1, 1, none⟩) (.inr (by simp)) _
    have hnb : NewB ((w1.setCell ⟨w.heap.size + 1, 0, none⟩ (.int .i64 note)).setCell ⟨w.heap.size + 1, 1, none⟩ (.slice A' n n)) w.heap.size (.slice A' n n) d := by
      have hlt := Ho.out.lt
      simp at hlt
      have hk3 : Kp (fun k => k = w.heap.size + 1) w1 ((w1.setCell ⟨w.heap.size + 1, 0, none⟩ (.int .i64 note)).setCell ⟨w.heap.size + 1, 1, none⟩ (.slice A' n n)) :=
        kp_set1 _ _ _ (kp_set1 _ _ _ (Kp.refl _ w1))
      refine ⟨?_, fun k hk => ?_, rfl⟩
      · refine Bs.kp ?_ hk3 (fun k hk e => ?_)
        · obtain ⟨h1, h2, h3⟩ := ownsRow_src Ho.out (encB_one d)
          refine ⟨encB_len d ▸ (Nat.mul_one _).symm, encB_one d, ?_⟩
          rw [Hdl.out]
          rcases h3 with ⟨h3, h4⟩ | ⟨a, c, h3, h4⟩
          · rw [h4] at h3 ⊢
            cases h3
            exact .inl ⟨rfl, rfl⟩
          · cases h3
            exact .inr ⟨a, n, rfl, h4⟩
        · have := (hlt k (own_map.trans (own_map.symm.trans hk))).1; omega
      · have := hlt k (own_map.trans (own_map.symm.trans hk))
        simp only [World.size_setCell]
        omega
    generalize (w1.setCell ⟨w.heap.size + 1, 0, none⟩ (.int .i64 note)).setCell ⟨w.heap.size + 1, 1, none⟩ (.slice A' n n) = wf at z hk2 hnb ⊢
    have y0 := z.cell 0
    have y1 := z.cell 1
    simp at y0 y1
    exact bodyPost_ret (v := .agg #[.int .i64 note, .slice A' n n]) (by simp [results, Try.results51, go_sem, y0, y1]) rfl ⟨_, rfl, hnb, hk2⟩

/-- An item: its note, the value that holds its bytes, the bytes. -/
abbrev Zt := Int × Value × List UInt8
def encZ (z : Zt) : List Value := [.int .i64 z.1, z.2.1]
theorem encZ_len (z : Zt) : (encZ z).length = 2 := rfl
/-- What the items are, as they are told. -/
def its (zs : List Zt) : List (Int × List UInt8) := zs.map fun z => (z.1, z.2.2)

theorem infoI : (Try.prog.info? 55).map (fun i => (i.zero, i.size, i.bytes)) = some (some (.agg #[.int .i64 0, .slice none 0 0]), 2, 32) := by kernel_rfl

/-- The queue q holds the items zs, in a row v behind B. -/
structure QAt (w : World) (q B : Nat) (v : Value) (zs : List Zt) : Prop where
  cell : Whole w q 51 #[v]
  row : RowAt w B 2 v zs.length (encs encZ zs)
  data : ∀ z ∈ zs, NewB w B z.2.1 z.2.2 ∧ ∀ k, z.2.1.ownBlock = some k → k ≠ q ∧ v.ownBlock ≠ some k
  far : ∀ k, v.ownBlock = some k → k ≠ q
  few : zs.length ≤ 32
  short : ∀ z ∈ zs, z.2.2.length ≤ 116

theorem QAt.one {w : World} {q B : Nat} {v : Value} {zs : List Zt} (h : QAt w q B v zs) : ∀ u ∈ encs encZ zs, u.oneCell' = true :=
  encs_one (fun z hz u hu => by
    simp only [encZ, List.mem_cons, List.not_mem_nil, or_false] at hu
    rcases hu with rfl | rfl
    · rfl
    · exact (h.data z hz).1.2.2)

theorem zt0 {zs : List Zt} {i : Nat} {z : Zt} (hi : zs[i]? = some z) : (encs encZ zs)[i * 2]? = some (.int .i64 z.1) := encs_get encZ_len zs i 0 z hi (by omega)
theorem zt1 {zs : List Zt} {i : Nat} {z : Zt} (hi : zs[i]? = some z) : (encs encZ zs)[i * 2 + 1]? = some z.2.1 := encs_get encZ_len zs i 1 z hi (by omega)

set_option maxHeartbeats 400000 in
theorem q_len {w : World} {q B : Nat} {v : Value} {zs : List Zt} (h : QAt w q B v zs) :
    Calls Try.prog 27 #[.pointer (some ⟨q, 0, none⟩)] w fun e w' => e = .returned (.int .i64 zs.length) ∧ w = w' := by
  obtain ⟨A, cap, rfl⟩ := h.row.form
  have c0 := h.cell.cell 0
  rw [show (#[Value.slice A zs.length cap] : Array Value)[0]? = some (.slice A zs.length cap) from rfl] at c0
  clear h
  generalize zs.length = n at *
  go_enter Try.func27, Try.ntmps27
  go_wp2_with fail
  go_ret
  exact ⟨rfl, rfl⟩

set_option maxRecDepth 100000 in
set_option maxHeartbeats 1000000 in
theorem q_first_none {w : World} {q B : Nat} {v : Value} (h : QAt w q B v []) :
    Calls Try.prog 30 #[.pointer (some ⟨q, 0, none⟩)] w fun e w' => e = .returned (.tuple #[.agg #[.int .i64 0, .slice none 0 0], .bool false]) ∧ Kp (fun _ => False) w w' := by
  obtain ⟨A, cap, rfl⟩ := h.row.form
  have c0 := h.cell.cell 0
  rw [show (#[Value.slice A ([] : List Zt).length cap] : Array Value)[0]? = some (.slice A 0 cap) from rfl] at c0
  have hq := h.cell.lt
  clear h
  go_enter Try.func30, Try.ntmps30
  go_wp2_with fail
  refine bodyPost_ret (v := .tuple #[.agg #[.int .i64 0, .slice none 0 0], .bool false]) (by simp [results, Try.results30, go_sem]) rfl ⟨rfl, (Kp.refl _ _).alloc _⟩

set_option maxRecDepth 100000 in
set_option maxHeartbeats 1000000 in
theorem q_first {w : World} {q B : Nat} {v : Value} {z : Zt} {zs : List Zt} (h : QAt w q B v (z :: zs)) :
    Calls Try.prog 30 #[.pointer (some ⟨q, 0, none⟩)] w fun e w' => ∃ v', e = .returned (.tuple #[.agg #[.int .i64 z.1, v'], .bool true]) ∧ NewB w' w.heap.size v' z.2.2 ∧ Kp (fun _ => False) w w' := by
  obtain ⟨g, off, cap, rfl, _, hg, hnc, hcm, _, hcells⟩ := h.row.full (by simp)
  have c0 := h.cell.cell 0
  rw [show (#[Value.slice (some ⟨g, off, none⟩) (z :: zs).length cap] : Array Value)[0]? = some (.slice (some ⟨g, off, none⟩) (z :: zs).length cap) from rfl] at c0
  have hq := h.cell.lt
  have e0 : w.cell? ⟨g, off, none⟩ = some (.int .i64 z.1) := hcells 0 _ rfl
  have e1 : w.cell? ⟨g, off + 1, none⟩ = some z.2.1 := hcells 1 _ rfl
  have hs := h.short z (by simp)
  have hO := item_own z.1 (((h.data z (by simp)).1.1).kp ((Kp.refl (fun _ => False) w).alloc (.cells #[.int .i64 0, .slice none 0 0] 55)) (fun _ _ h => h)) (by omega)
  have HO := Lib.hid hO
  have hf := h.few
  have hpos : 0 < (z :: zs).length := by simp
  clear h hcells hO
  obtain ⟨note, v, d⟩ := z
  dsimp only at *
  generalize (((note, v, d) : Zt) :: zs).length = n at *
  have hne : ((n : Int) == 0) = false := by simp; omega
  go_enter Try.func30, Try.ntmps30
  go_wp2_with fail
  refine (HO.out).mono ?_
  rintro e w1 ⟨v', rfl, hnb, hk⟩
  obtain ⟨A', c', rfl⟩ := hnb.1.form
  have hr := hk.whole (Whole.new w 55 #[.int .i64 0, .slice none 0 0]) (fun h => h)
  have r0 := hr.cell 0
  have r1 := hr.cell 1
  have r2 := hr.frozen 0
  have r3 := hr.frozen 1
  have r4 := hr.lt
  simp at r0 r1
  have Hr := Lib.hid hr
  have Hnb := Lib.hid hnb
  have Hk := Lib.hid hk
  clear hr hnb hk
  go_wp2_with fail
  have z := (Hr.out.set 0 (.int .i64 note)).set 1 (.slice A' d.length c')
  have hs1 : Kp (fun k => k = w.heap.size) w1 ((w1.setCell ⟨w.heap.size, 0, none⟩ (.int .i64 note)).setCell ⟨w.heap.size, 1, none⟩ (.slice A' d.length c')) := kp_set1 _ _ _ (kp_set1 _ _ _ (Kp.refl _ w1))
  have hk2 : Kp (fun _ => False) w ((w1.setCell ⟨w.heap.size, 0, none⟩ (.int .i64 note)).setCell ⟨w.heap.size, 1, none⟩ (.slice A' d.length c')) :=
    ((((Kp.refl _ w).alloc _).trans Hk.out).set (p := ⟨w.heap.size, 0, none⟩) (.inr (Nat.le_refl _)) _).set (p := ⟨w.heap.size, 1, none⟩) (.inr (Nat.le_refl _)) _
  have hnb2 : NewB ((w1.setCell ⟨w.heap.size, 0, none⟩ (.int .i64 note)).setCell ⟨w.heap.size, 1, none⟩ (.slice A' d.length c')) w.heap.size (.slice A' d.length c') d :=
    ⟨Hnb.out.1.kp hs1 (fun k hk e => by have := (Hnb.out.2.1 k hk).1; simp at this; omega), fun k hk => by have := Hnb.out.2.1 k hk; simp only [World.size_setCell, World.size_alloc] at *; omega, rfl⟩
  generalize (w1.setCell ⟨w.heap.size, 0, none⟩ (.int .i64 note)).setCell ⟨w.heap.size, 1, none⟩ (.slice A' d.length c') = wf at z hk2 hnb2 ⊢
  have y0 := z.cell 0
  have y1 := z.cell 1
  simp at y0 y1
  exact bodyPost_ret (v := .tuple #[.agg #[.int .i64 note, .slice A' d.length c'], .bool true]) (by simp [results, Try.results30, go_sem, y0, y1]) rfl ⟨_, rfl, hnb2, hk2⟩

theorem QAt.alloc {w : World} {q B : Nat} {v : Value} {zs : List Zt} (h : QAt w q B v zs) (o : Obj) : QAt (w.alloc o) q B v zs :=
  have hk : Kp (fun _ => False) w (w.alloc o) := (Kp.refl _ w).alloc o
  ⟨h.cell.alloc o, h.row.kp hk (fun _ _ h => h), fun z hz => ⟨⟨(h.data z hz).1.1.kp hk (fun _ _ h => h), fun k hk' => by have := (h.data z hz).1.2.1 k hk'; simp only [World.size_alloc]; omega, (h.data z hz).1.2.2⟩, (h.data z hz).2⟩, h.far, h.few, h.short⟩

/-- The blocks of a queue. -/
def QFoot (q : Nat) (v : Value) (zs : List Zt) (k : Nat) : Prop := k = q ∨ v.ownBlock = some k ∨ ∃ z ∈ zs, z.2.1.ownBlock = some k

theorem QAt.kp {S : Nat → Prop} {w w' : World} {q B : Nat} {v : Value} {zs : List Zt} (h : QAt w q B v zs) (hk : Kp S w w') (hS : ∀ k, QFoot q v zs k → ¬ S k) : QAt w' q B v zs :=
  ⟨hk.whole h.cell (hS q (.inl rfl)), h.row.kp hk (fun k hk' => hS k (.inr (.inl hk'))),
    fun z hz => ⟨⟨(h.data z hz).1.1.kp hk (fun k hk' => hS k (.inr (.inr ⟨z, hz, hk'⟩))), fun k hk' => by have := (h.data z hz).1.2.1 k hk'; have := hk.size; omega, (h.data z hz).1.2.2⟩, (h.data z hz).2⟩, h.far, h.few, h.short⟩

set_option maxRecDepth 100000 in
set_option maxHeartbeats 1000000 in
theorem q_pop_none {w : World} {q B : Nat} {v : Value} (h : QAt w q B v []) :
    Calls Try.prog 29 #[.pointer (some ⟨q, 0, none⟩)] w fun e w' => e = .returned (.tuple #[.agg #[.int .i64 0, .slice none 0 0], .bool false]) ∧ Kp (fun _ => False) w w' := by
  have hF := q_first_none (h.alloc (.cells #[.int .i64 0, .slice none 0 0] 55))
  have HF := Lib.hid hF
  clear h hF
  go_enter Try.func29, Try.ntmps29
  go_wp2_with fail
  refine (HF.out).mono ?_
  rintro e w1 ⟨rfl, hk⟩
  have hr := hk.whole (Whole.new w 55 #[.int .i64 0, .slice none 0 0]) (fun h => h)
  have r0 := hr.cell 0
  have r1 := hr.cell 1
  have r2 := hr.frozen 0
  have r3 := hr.frozen 1
  have r4 := hr.lt
  simp at r0 r1
  have Hr := Lib.hid hr
  have Hk := Lib.hid hk
  clear hr hk
  go_wp2_with fail
  have z := ((Hr.out.set 0 (.int .i64 0)).set 1 (.slice none 0 0)).alloc (.cells #[.int .i64 0, .slice none 0 0] 55)
  have hk2 : Kp (fun _ => False) w (((w1.setCell ⟨w.heap.size, 0, none⟩ (.int .i64 0)).setCell ⟨w.heap.size, 1, none⟩ (.slice none 0 0)).alloc (.cells #[.int .i64 0, .slice none 0 0] 55)) :=
    (((((Kp.refl _ w).alloc _).trans Hk.out).set (p := ⟨w.heap.size, 0, none⟩) (.inr (Nat.le_refl _)) _).set (p := ⟨w.heap.size, 1, none⟩) (.inr (Nat.le_refl _)) _).alloc _
  generalize ((w1.setCell ⟨w.heap.size, 0, none⟩ (.int .i64 0)).setCell ⟨w.heap.size, 1, none⟩ (.slice none 0 0)).alloc (.cells #[.int .i64 0, .slice none 0 0] 55) = wf at z hk2 ⊢
  have y0 := z.cell 0
  have y1 := z.cell 1
  simp at y0 y1
  exact bodyPost_ret (v := .tuple #[.agg #[.int .i64 0, .slice none 0 0], .bool false]) (by simp [results, Try.results29, go_sem, y0, y1]) rfl ⟨rfl, hk2⟩

theorem QAt.lt {w : World} {q B : Nat} {v : Value} {zs : List Zt} (h : QAt w q B v zs) {k : Nat} (hk : QFoot q v zs k) : k < w.heap.size := by
  rcases hk with rfl | hk | ⟨z, hz, hk⟩
  · exact h.cell.lt
  · exact (h.row.lt k hk).2
  · exact ((h.data z hz).1.2.1 k hk).2

theorem encZ_cons (z : Zt) (zs : List Zt) : encs encZ (z :: zs) = encZ z ++ encs encZ zs := rfl

/-- What a Pop leaves of the queue. -/
theorem pop_left {w w1 : World} {q B g off cap : Nat} {z : Zt} {zs : List Zt} (h : QAt w q B (.slice (some ⟨g, off, none⟩) (z :: zs).length cap) (z :: zs)) (hk : Kp (fun _ => False) w w1) :
    QAt (w1.setCell ⟨q, 0, none⟩ (.slice (some ⟨g, if cap = 1 then off else off + 2, none⟩) zs.length (cap - 1))) q B (.slice (some ⟨g, if cap = 1 then off else off + 2, none⟩) zs.length (cap - 1)) zs := by
  have h1 := h.kp hk (fun _ _ h => h)
  have hd := h1.row.drop 1 (by simp)
  rw [show (z :: zs).length - 1 = zs.length by simp, encZ_cons, show 1 * 2 = (encZ z).length from rfl, List.drop_left] at hd
  have hkq : Kp (fun k => k = q) w1 (w1.setCell ⟨q, 0, none⟩ (.slice (some ⟨g, if cap = 1 then off else off + 2, none⟩) zs.length (cap - 1))) := kp_set1 _ _ _ (Kp.refl _ w1)
  have hgq : g ≠ q := h.far g rfl
  refine ⟨h1.cell.set 0 _, hd.kp hkq (fun k hk' e => hgq (by have := Option.some.inj hk'; dsimp only at this; omega)), fun y hy => ?_, fun k hk' => ?_, by have := h.few; simp at this; omega, fun y hy => h.short y (by simp [hy])⟩
  · obtain ⟨⟨d1, d2, d3⟩, d4⟩ := h1.data y (by simp [hy])
    exact ⟨⟨d1.kp hkq (fun k hk' e => (d4 k hk').1 e), fun k hk' => by have := d2 k hk'; simpa using this, d3⟩, fun k hk' => ⟨(d4 k hk').1, fun e => (d4 k hk').2 e⟩⟩
  · exact h.far k hk'

set_option maxRecDepth 100000 in
set_option maxHeartbeats 1000000 in
theorem q_pop {w : World} {q B : Nat} {v : Value} {z : Zt} {zs : List Zt} (h : QAt w q B v (z :: zs)) :
    Calls Try.prog 29 #[.pointer (some ⟨q, 0, none⟩)] w fun e w' => ∃ v' vr, e = .returned (.tuple #[.agg #[.int .i64 z.1, v'], .bool true]) ∧ NewB w' w.heap.size v' z.2.2 ∧
      QAt w' q B vr zs ∧ (vr.ownBlock = v.ownBlock) ∧ Kp (fun k => k = q) w w' := by
  have hF := q_first (h.alloc (.cells #[.int .i64 0, .slice none 0 0] 55))
  have HF := Lib.hid hF
  obtain ⟨g, off, cap, rfl, hBg, hg, hnc, hcm, _, _⟩ := h.row.full (by simp)
  have hq := h.cell.lt
  have H := Lib.hid h
  have hqa := h.cell.alloc (.cells #[.int .i64 0, .slice none 0 0] 55)
  have Hqa := Lib.hid hqa
  have hpos : 1 ≤ (z :: zs).length := by simp
  have hlen : (z :: zs).length - 1 = zs.length := by simp
  have hf := h.few
  clear h hF hqa
  unfold maxLen at hcm
  generalize hn : (z :: zs).length = n at *
  have Hn := Lib.hid hn
  have hpos' : (1 : Int) ≤ n := by omega
  clear hn
  by_cases hc1 : cap = 1
  · subst hc1
    go_enter Try.func29, Try.ntmps29
    go_wp2_with fail
    refine (HF.out).mono ?_
    rintro e w1 ⟨v', rfl, hnb, hk⟩
    obtain ⟨A', c', rfl⟩ := hnb.1.form
    have hr := hk.whole (Whole.new w 55 #[.int .i64 0, .slice none 0 0]) (fun h => h)
    have r0 := hr.cell 0
    have r1 := hr.cell 1
    have r2 := hr.frozen 0
    have r3 := hr.frozen 1
    have r4 := hr.lt
    have s0 := (hk.whole Hqa.out (fun h => h)).cell 0
    have s1 := (hk.whole Hqa.out (fun h => h)).frozen 0
    have s2 := (hk.whole Hqa.out (fun h => h)).lt
    simp at r0 r1 s0
    have hqw : q ≠ w.heap.size := by omega
    have hqw2 : q ≠ w1.heap.size := by omega
    have Hr := Lib.hid hr
    have Hnb := Lib.hid hnb
    have Hk := Lib.hid hk
    clear hr hnb hk
    go_wp2_with fail
    have hk0 : Kp (fun _ => False) w w1 := ((Kp.refl _ w).alloc _).trans Hk.out
    have hl := pop_left (by rw [Hn.out]; exact H.out) hk0
    rw [if_pos rfl, Nat.sub_self] at hl
    have hz := (((Hr.out.far (p := ⟨q, 0, none⟩) (by simpa using hqw.symm) (.slice (some ⟨g, off, none⟩) zs.length 0)).set 0 (.int .i64 z.1)).set 1 (.slice A' z.2.2.length c')).alloc (.cells #[.int .i64 z.1, .slice A' z.2.2.length c'] 55)
    have hkA : Kp (fun k => k = q) w (w1.setCell ⟨q, 0, none⟩ (.slice (some ⟨g, off, none⟩) zs.length 0)) := kp_set1 _ _ _ hk0.no
    have hkB : Kp (fun k => k = w.heap.size) (w1.setCell ⟨q, 0, none⟩ (.slice (some ⟨g, off, none⟩) zs.length 0)) ((((w1.setCell ⟨q, 0, none⟩ (.slice (some ⟨g, off, none⟩) zs.length 0)).setCell ⟨w.heap.size, 0, none⟩ (.int .i64 z.1)).setCell ⟨w.heap.size, 1, none⟩ (.slice A' z.2.2.length c')).alloc (.cells #[.int .i64 z.1, .slice A' z.2.2.length c'] 55)) :=
      (kp_set1 _ _ _ (kp_set1 _ _ _ (Kp.refl _ _))).alloc _
    have hfoot : ∀ k, QFoot q (.slice (some ⟨g, off, none⟩) zs.length 0) zs k → k < w.heap.size := fun k hk => by
      refine H.out.lt ?_
      rcases hk with hk | hk | ⟨y, hy, hk⟩
      · exact .inl hk
      · exact .inr (.inl hk)
      · exact .inr (.inr ⟨y, by simp [hy], hk⟩)
    have hqf := hl.kp hkB (fun k hk e => by have := hfoot k hk; omega)
    have hkF : Kp (fun k => k = q) w ((((w1.setCell ⟨q, 0, none⟩ (.slice (some ⟨g, off, none⟩) zs.length 0)).setCell ⟨w.heap.size, 0, none⟩ (.int .i64 z.1)).setCell ⟨w.heap.size, 1, none⟩ (.slice A' z.2.2.length c')).alloc (.cells #[.int .i64 z.1, .slice A' z.2.2.length c'] 55)) :=
      ((hkA.set (p := ⟨w.heap.size, 0, none⟩) (.inr (Nat.le_refl _)) _).set (p := ⟨w.heap.size, 1, none⟩) (.inr (Nat.le_refl _)) _).alloc _
    have hkN : Kp (fun k => k = q ∨ k = w.heap.size) w1 ((((w1.setCell ⟨q, 0, none⟩ (.slice (some ⟨g, off, none⟩) zs.length 0)).setCell ⟨w.heap.size, 0, none⟩ (.int .i64 z.1)).setCell ⟨w.heap.size, 1, none⟩ (.slice A' z.2.2.length c')).alloc (.cells #[.int .i64 z.1, .slice A' z.2.2.length c'] 55)) :=
      (((Kp.set (Kp.refl (fun k => k = q ∨ k = w.heap.size) w1) (p := ⟨q, 0, none⟩) (.inl (.inl rfl)) (.slice (some ⟨g, off, none⟩) zs.length 0)).set (p := ⟨w.heap.size, 0, none⟩) (.inl (.inr rfl)) _).set (p := ⟨w.heap.size, 1, none⟩) (.inl (.inr rfl)) _).alloc _
    have hnbF : NewB ((((w1.setCell ⟨q, 0, none⟩ (.slice (some ⟨g, off, none⟩) zs.length 0)).setCell ⟨w.heap.size, 0, none⟩ (.int .i64 z.1)).setCell ⟨w.heap.size, 1, none⟩ (.slice A' z.2.2.length c')).alloc (.cells #[.int .i64 z.1, .slice A' z.2.2.length c'] 55)) w.heap.size (.slice A' z.2.2.length c') z.2.2 :=
      ⟨Hnb.out.1.kp hkN (fun k hk e => by have := (Hnb.out.2.1 k hk).1; simp at this; omega), fun k hk => by have := Hnb.out.2.1 k hk; have := hkN.size; simp only [World.size_alloc] at *; omega, rfl⟩
    generalize ((((w1.setCell ⟨q, 0, none⟩ (.slice (some ⟨g, off, none⟩) zs.length 0)).setCell ⟨w.heap.size, 0, none⟩ (.int .i64 z.1)).setCell ⟨w.heap.size, 1, none⟩ (.slice A' z.2.2.length c')).alloc (.cells #[.int .i64 z.1, .slice A' z.2.2.length c'] 55)) = wf at hz hqf hkF hnbF ⊢
    have y0 := hz.cell 0
    have y1 := hz.cell 1
    simp at y0 y1
    exact bodyPost_ret (v := .tuple #[.agg #[.int .i64 z.1, .slice A' z.2.2.length c'], .bool true]) (by simp [results, Try.results29, go_sem, y0, y1]) rfl ⟨_, _, rfl, hnbF, hqf, rfl, hkF⟩
  · skip
    go_enter Try.func29, Try.ntmps29
    go_wp2_with fail
    refine (HF.out).mono ?_
    rintro e w1 ⟨v', rfl, hnb, hk⟩
    obtain ⟨A', c', rfl⟩ := hnb.1.form
    have hr := hk.whole (Whole.new w 55 #[.int .i64 0, .slice none 0 0]) (fun h => h)
    have r0 := hr.cell 0
    have r1 := hr.cell 1
    have r2 := hr.frozen 0
    have r3 := hr.frozen 1
    have r4 := hr.lt
    have s0 := (hk.whole Hqa.out (fun h => h)).cell 0
    have s1 := (hk.whole Hqa.out (fun h => h)).frozen 0
    have s2 := (hk.whole Hqa.out (fun h => h)).lt
    simp at r0 r1 s0
    have hqw : q ≠ w.heap.size := by omega
    have hqw2 : q ≠ w1.heap.size := by omega
    have Hr := Lib.hid hr
    have Hnb := Lib.hid hnb
    have Hk := Lib.hid hk
    clear hr hnb hk
    go_wp2_with fail
    have hk0 : Kp (fun _ => False) w w1 := ((Kp.refl _ w).alloc _).trans Hk.out
    have hl := pop_left (by rw [Hn.out]; exact H.out) hk0
    rw [if_neg hc1] at hl
    have hz := (((Hr.out.far (p := ⟨q, 0, none⟩) (by simpa using hqw.symm) (.slice (some ⟨g, off + 2, none⟩) zs.length (cap - 1))).set 0 (.int .i64 z.1)).set 1 (.slice A' z.2.2.length c')).alloc (.cells #[.int .i64 z.1, .slice A' z.2.2.length c'] 55)
    have hkA : Kp (fun k => k = q) w (w1.setCell ⟨q, 0, none⟩ (.slice (some ⟨g, off + 2, none⟩) zs.length (cap - 1))) := kp_set1 _ _ _ hk0.no
    have hkB : Kp (fun k => k = w.heap.size) (w1.setCell ⟨q, 0, none⟩ (.slice (some ⟨g, off + 2, none⟩) zs.length (cap - 1))) ((((w1.setCell ⟨q, 0, none⟩ (.slice (some ⟨g, off + 2, none⟩) zs.length (cap - 1))).setCell ⟨w.heap.size, 0, none⟩ (.int .i64 z.1)).setCell ⟨w.heap.size, 1, none⟩ (.slice A' z.2.2.length c')).alloc (.cells #[.int .i64 z.1, .slice A' z.2.2.length c'] 55)) :=
      (kp_set1 _ _ _ (kp_set1 _ _ _ (Kp.refl _ _))).alloc _
    have hfoot : ∀ k, QFoot q (.slice (some ⟨g, off + 2, none⟩) zs.length (cap - 1)) zs k → k < w.heap.size := fun k hk => by
      refine H.out.lt ?_
      rcases hk with hk | hk | ⟨y, hy, hk⟩
      · exact .inl hk
      · exact .inr (.inl hk)
      · exact .inr (.inr ⟨y, by simp [hy], hk⟩)
    have hqf := hl.kp hkB (fun k hk e => by have := hfoot k hk; omega)
    have hkF : Kp (fun k => k = q) w ((((w1.setCell ⟨q, 0, none⟩ (.slice (some ⟨g, off + 2, none⟩) zs.length (cap - 1))).setCell ⟨w.heap.size, 0, none⟩ (.int .i64 z.1)).setCell ⟨w.heap.size, 1, none⟩ (.slice A' z.2.2.length c')).alloc (.cells #[.int .i64 z.1, .slice A' z.2.2.length c'] 55)) :=
      ((hkA.set (p := ⟨w.heap.size, 0, none⟩) (.inr (Nat.le_refl _)) _).set (p := ⟨w.heap.size, 1, none⟩) (.inr (Nat.le_refl _)) _).alloc _
    have hkN : Kp (fun k => k = q ∨ k = w.heap.size) w1 ((((w1.setCell ⟨q, 0, none⟩ (.slice (some ⟨g, off + 2, none⟩) zs.length (cap - 1))).setCell ⟨w.heap.size, 0, none⟩ (.int .i64 z.1)).setCell ⟨w.heap.size, 1, none⟩ (.slice A' z.2.2.length c')).alloc (.cells #[.int .i64 z.1, .slice A' z.2.2.length c'] 55)) :=
      (((Kp.set (Kp.refl (fun k => k = q ∨ k = w.heap.size) w1) (p := ⟨q, 0, none⟩) (.inl (.inl rfl)) (.slice (some ⟨g, off + 2, none⟩) zs.length (cap - 1))).set (p := ⟨w.heap.size, 0, none⟩) (.inl (.inr rfl)) _).set (p := ⟨w.heap.size, 1, none⟩) (.inl (.inr rfl)) _).alloc _
    have hnbF : NewB ((((w1.setCell ⟨q, 0, none⟩ (.slice (some ⟨g, off + 2, none⟩) zs.length (cap - 1))).setCell ⟨w.heap.size, 0, none⟩ (.int .i64 z.1)).setCell ⟨w.heap.size, 1, none⟩ (.slice A' z.2.2.length c')).alloc (.cells #[.int .i64 z.1, .slice A' z.2.2.length c'] 55)) w.heap.size (.slice A' z.2.2.length c') z.2.2 :=
      ⟨Hnb.out.1.kp hkN (fun k hk e => by have := (Hnb.out.2.1 k hk).1; simp at this; omega), fun k hk => by have := Hnb.out.2.1 k hk; have := hkN.size; simp only [World.size_alloc] at *; omega, rfl⟩
    generalize ((((w1.setCell ⟨q, 0, none⟩ (.slice (some ⟨g, off + 2, none⟩) zs.length (cap - 1))).setCell ⟨w.heap.size, 0, none⟩ (.int .i64 z.1)).setCell ⟨w.heap.size, 1, none⟩ (.slice A' z.2.2.length c')).alloc (.cells #[.int .i64 z.1, .slice A' z.2.2.length c'] 55)) = wf at hz hqf hkF hnbF ⊢
    have y0 := hz.cell 0
    have y1 := hz.cell 1
    simp at y0 y1
    exact bodyPost_ret (v := .tuple #[.agg #[.int .i64 z.1, .slice A' z.2.2.length c'], .bool true]) (by simp [results, Try.results29, go_sem, y0, y1]) rfl ⟨_, _, rfl, hnbF, hqf, rfl, hkF⟩
end Go.Proofs.Ytelhnhnbfjamhaa

/-
  Package ledger, in a path's block (cells 4, 5, 6), packets with frames: Put, Next, Acked.
-/
import Derived.Test.YtoiakdddghbdnaaFmOwn
import Derived.Test.YtoiakdddghbdnaaBut
namespace Go.Proofs.Ytoiakdddghbdnaa
open Go.RowKit

/-- The ledger that lies from cell 4 of block l on, which holds the cells cs. -/
structure LIn (w : World) (l : Nat) (tc : TypeId) (cs : Array Value) (v : Value) (zs : List Pk) (next top : Int) : Prop where
  cell : Whole w l tc cs
  at4 : cs[4]? = some v
  at5 : cs[5]? = some (.int .i64 next)
  at6 : cs[6]? = some (.int .i64 top)
  row : RowAt w 0 4 v zs.length (encs encK zs)
  far : ∀ k, v.ownBlock = some k → k ≠ l
/-- The cells that are not the ledger's are as they were. -/
def Agree (cs cs' : Array Value) : Prop := ∀ i, (i < 4 ∨ 7 ≤ i) → cs'[i]? = cs[i]?
theorem Agree.refl (cs : Array Value) : Agree cs cs := fun _ _ => rfl
theorem Agree.trans {a b c : Array Value} (h : Agree a b) (k : Agree b c) : Agree a c := fun i hi => (k i hi).trans (h i hi)
theorem Agree.set {a b : Array Value} (h : Agree a b) (j : Nat) (hj : 4 ≤ j ∧ j < 7) (u : Value) : Agree a (b.setIfInBounds j u) := fun i hi => by
  rw [Array.getElem?_setIfInBounds, if_neg (by omega)]; exact h i hi

section
variable {S : Nat → Prop} {w w' : World} {l : Nat} {tc : TypeId} {cs : Array Value} {v v2 : Value} {zs zs2 : List Pk} {next top : Int}
theorem LIn.kp (h : LIn w l tc cs v zs next top) (hk : Kp S w w') (h1 : ¬ S l) (h2 : ∀ k, v.ownBlock = some k → ¬ S k) : LIn w' l tc cs v zs next top :=
  ⟨hk.whole h.cell h1, h.at4, h.at5, h.at6, h.row.kp hk h2, h.far⟩
theorem LIn.no (h : LIn w l tc cs v zs next top) (hk : Kp (fun _ => False) w w') : LIn w' l tc cs v zs next top := h.kp hk (fun h => h) (fun _ _ h => h)
theorem LIn.c4 (h : LIn w l tc cs v zs next top) : w.cell? ⟨l, 4, none⟩ = some v := (h.cell.cell 4).trans h.at4
theorem LIn.c5 (h : LIn w l tc cs v zs next top) : w.cell? ⟨l, 5, none⟩ = some (.int .i64 next) := (h.cell.cell 5).trans h.at5
theorem LIn.c6 (h : LIn w l tc cs v zs next top) : w.cell? ⟨l, 6, none⟩ = some (.int .i64 top) := (h.cell.cell 6).trans h.at6
theorem LIn.s4 (h : LIn w l tc cs v zs next top) : 6 < cs.size := (Array.getElem?_eq_some_iff.1 h.at6).1
theorem kp_one (w : World) (l i : Nat) (u : Value) : Kp (fun k => k = l) w (w.setCell ⟨l, i, none⟩ u) := Kp.set (S := fun k => k = l) (Kp.refl _ w) (p := ⟨l, i, none⟩) (.inl rfl) _
theorem LIn.set5 (h : LIn w l tc cs v zs next top) (n : Int) : LIn (w.setCell ⟨l, 5, none⟩ (.int .i64 n)) l tc (cs.setIfInBounds 5 (.int .i64 n)) v zs n top := by
  have := h.s4
  refine ⟨h.cell.set 5 _, ?_, ?_, ?_, h.row.kp (kp_one w l 5 _) h.far, h.far⟩
  · rw [Array.getElem?_setIfInBounds, if_neg (by omega)]; exact h.at4
  · rw [Array.getElem?_setIfInBounds_self_of_lt (by omega)]
  · rw [Array.getElem?_setIfInBounds, if_neg (by omega)]; exact h.at6
theorem LIn.set6 (h : LIn w l tc cs v zs next top) (n : Int) : LIn (w.setCell ⟨l, 6, none⟩ (.int .i64 n)) l tc (cs.setIfInBounds 6 (.int .i64 n)) v zs next n := by
  have := h.s4
  refine ⟨h.cell.set 6 _, ?_, ?_, ?_, h.row.kp (kp_one w l 6 _) h.far, h.far⟩
  · rw [Array.getElem?_setIfInBounds, if_neg (by omega)]; exact h.at4
  · rw [Array.getElem?_setIfInBounds, if_neg (by omega)]; exact h.at5
  · rw [Array.getElem?_setIfInBounds_self_of_lt (by omega)]
/-- Another row is stored. -/
theorem LIn.set4 (h : LIn w l tc cs v zs next top) {w1 : World} (hc : Whole w1 l tc cs) (hr : RowAt w1 0 4 v2 zs2.length (encs encK zs2)) (hf : ∀ k, v2.ownBlock = some k → k ≠ l) : LIn (w1.setCell ⟨l, 4, none⟩ v2) l tc (cs.setIfInBounds 4 v2) v2 zs2 next top := by
  have := h.s4
  refine ⟨hc.set 4 _, ?_, ?_, ?_, hr.kp (kp_one w1 l 4 _) hf, hf⟩
  · rw [Array.getElem?_setIfInBounds_self_of_lt (by omega)]
  · rw [Array.getElem?_setIfInBounds, if_neg (by omega)]; exact h.at5
  · rw [Array.getElem?_setIfInBounds, if_neg (by omega)]; exact h.at6
end

theorem Kp.along {S S' : Nat → Prop} {w w' w'' : World} (h : Kp S w w') (k : Kp S' w' w'') (hS : ∀ i, i < w.heap.size → S' i → S i) : Kp S w w'' :=
  ⟨k.os.trans h.os, k.tape.trans h.tape, k.output.trans h.output, Nat.le_trans h.size k.size, fun i hi hn => (k.block i (Nat.lt_of_lt_of_le hi h.size) (fun hs => hn (hS i hi hs))).trans (h.block i hi hn)⟩

/-- What a step may turn: the ledger's block, or its row's. -/
def LS (l : Nat) (v : Value) (k : Nat) : Prop := k = l ∨ v.ownBlock = some k

theorem l_next {w : World} {l : Nat} {tc : TypeId} {cs : Array Value} {v : Value} {zs : List Pk} {next top : Int} (h : LIn w l tc cs v zs next top) :
    Calls Try.prog 18 #[.pointer (some ⟨l, 4, none⟩)] w fun e w' => e = .returned (.int .i64 next) ∧ w = w' := by
  have c := h.c5
  clear h
  go_enter Try.func18, Try.ntmps18
  go_wp2_with fail
  go_ret
  exact ⟨rfl, rfl⟩
theorem l_acked {w : World} {l : Nat} {tc : TypeId} {cs : Array Value} {v : Value} {zs : List Pk} {next top : Int} (h : LIn w l tc cs v zs next top) (h0 : 0 ≤ top) (h1 : top ≤ 4611686018427387904) :
    Calls Try.prog 17 #[.pointer (some ⟨l, 4, none⟩)] w fun e w' => e = .returned (.int .i64 (top - 1)) ∧ w = w' := by
  have c := h.c6
  clear h
  go_enter Try.func17, Try.ntmps17
  go_wp2_with fail
  go_ret
  exact ⟨rfl, rfl⟩

/-- What has become of the ledger behind the packet's append. -/
def PutRow (w wx : World) (l : Nat) (tc : TypeId) (cs : Array Value) (v : Value) (zs : List Pk) (next top a : Int) (el : Bool) (fl : List Fr) : Prop :=
  ∃ v' cs' z, LIn wx l tc cs' v' (zs ++ [z]) next top ∧ Agree cs cs' ∧ z.n = next ∧ z.a = a ∧ z.el = el ∧ z.l.map Fr.pu = fl.map Fr.pu ∧
    FrsR wx (fun k => (w.heap.size ≤ k ∧ k < wx.heap.size) ∧ v'.ownBlock ≠ some k) z.fv z.l ∧ Kp (LS l v) w wx ∧ Near w v v'

/-- What a Put of one packet leaves. -/
def PutLeft (w : World) (l : Nat) (tc : TypeId) (cs : Array Value) (v : Value) (zs : List Pk) (next top a : Int) (el : Bool) (fl : List Fr) (w' : World) : Prop :=
  ∃ v' cs' z, LIn w' l tc cs' v' (zs ++ [z]) (next + 1) top ∧ Agree cs cs' ∧ z.n = next ∧ z.a = a ∧ z.el = el ∧ z.l.map Fr.pu = fl.map Fr.pu ∧
    FrsR w' (fun k => (w.heap.size ≤ k ∧ k < w'.heap.size) ∧ v'.ownBlock ≠ some k) z.fv z.l ∧ Kp (LS l v) w w' ∧ Near w v v'

set_option maxRecDepth 100000 in
set_option maxHeartbeats 4000000 in
theorem l_put {w : World} {l : Nat} {tc : TypeId} {cs : Array Value} {v : Value} {zs : List Pk} {next top : Int} (h : LIn w l tc cs v zs next top) {F : Nat → Prop} (a : Int) (el : Bool) {A : Option Addr} {c : Nat} {fl : List Fr}
    (hy : FrsR w F (.slice A fl.length c) fl) (hF : ∀ k, F k → k < w.heap.size) (hfl : fl.length ≤ 1099511627776) (hfd : ∀ f ∈ fl, f.d.length ≤ 140737488355328 ∧ f.s.length ≤ 8796093022208)
    {b off cc : Nat} (y0 : w.cell? ⟨b, off, none⟩ = some (.int .i64 next)) (y1 : w.cell? ⟨b, off + 1, none⟩ = some (.int .i64 a)) (y2 : w.cell? ⟨b, off + 2, none⟩ = some (.bool el)) (y3 : w.cell? ⟨b, off + 3, none⟩ = some (.slice A fl.length c))
    (hn : next ≤ 4611686018427387903) (hn0 : 0 ≤ next) (hlen : zs.length ≤ 2199023255552) :
    Calls Try.prog 22 #[.pointer (some ⟨l, 4, none⟩), .slice (some ⟨b, off, none⟩) 1 cc] w fun e w' => e = .returned (.tuple #[]) ∧ PutLeft w l tc cs v zs next top a el fl w' := by
  obtain ⟨i0, hii, hz0, hz1, hz2⟩ := info_parts infoK
  have Hi := Lib.hid hii
  have Hz0 := Lib.hid hz0
  have Hz1 := Lib.hid hz1
  have Hz2 := Lib.hid hz2
  obtain ⟨Av, cv, rfl⟩ := h.row.form
  generalize hN : zs.length = N at *
  have HN := Lib.hid hN
  clear hN
  have H := Lib.hid h
  have hll := h.cell.lt
  have hbl := World.block_lt_of_cell? w _ y0
  dsimp only at hbl
  have Hy := Lib.hid hy
  have HF := Lib.hid hF
  have Hfd := Lib.hid hfd
  clear h hy hF hfd hii hz0 hz1 hz2
  generalize hm : fl.length = m at *
  have Hm := Lib.hid hm
  clear hm
  go_enter Try.func22, Try.ntmps22
  go_wp2_with fail
  go_loopw [8] (fun vi wr => ∃ i : Nat, i ≤ 1 ∧ vi = .int .i64 i ∧ Hid (i = 0 → wr = w) ∧ Hid (i = 1 → PutLeft w l tc cs (.slice Av N cv) zs next top a el fl wr)) (fun vi _ => 1 - (intOf vi).toNat)
  case atStart => exact ⟨0, by omega, rfl, Lib.hid (fun _ => rfl), Lib.hid (fun h => by omega)⟩
  case round =>
    obtain ⟨i, him, rfl, h0, h1⟩ := hrel
    by_cases hlt : i < 1
    · obtain rfl : i = 0 := by omega
      have := h0.out rfl
      subst this
      clear h0 h1
      have c5 := H.out.c5
      go_upto_region 3 with (fail)
      have hka : Kp (fun _ => False) wr (wr.alloc (.cells #[.int .i64 next, .int .i64 a, .bool el, .slice A m c] 66)) := (Kp.refl _ wr).alloc _
      have hxw : Whole (wr.alloc (.cells #[.int .i64 next, .int .i64 a, .bool el, .slice A m c] 66)) wr.heap.size 66 #[.int .i64 next, .int .i64 a, .bool el, .slice A m c] := Whole.new _ _ _
      generalize wr.alloc (.cells #[.int .i64 next, .int .i64 a, .bool el, .slice A m c] 66) = w3 at hka hxw ⊢
      rw [← hka.cell (p := ⟨l, _, none⟩) hll (fun h => h)] at c5
      have hl3 := Nat.lt_of_lt_of_le hll hka.size
      have x0 := hxw.cell 0
      simp at x0
      have hx3 : wr.heap.size < w3.heap.size := hxw.lt
      have Hxw := Lib.hid hxw
      have Hka := Lib.hid hka
      clear hxw hka y0 y1 y2 y3
      generalize hbx : wr.heap.size = bx at *
      have Hbx := Lib.hid hbx
      clear hbx
      go_wp2_with fail
      go_quiet (fail)
      go_upto_region 4 with (fail)
      have Hk4 := Lib.hid (Hka.out.drewN nq)
      have hx4 := ((Kp.refl (fun _ => False) w3).drewN nq).whole Hxw.out (fun h => h)
      generalize w3.drewN nq = w4 at *
      have hllr : l < wr.heap.size := by rw [Hbx.out]; exact hll
      have c4 := (Hk4.out.cell (p := ⟨l, 4, none⟩) hllr (fun h => h)).trans H.out.c4
      have hl4 := Nat.lt_of_lt_of_le hllr Hk4.out.size
      have hx4l := hx4.lt
      have x0 := hx4.cell 0
      have x1 := hx4.cell 1
      have x2 := hx4.cell 2
      have x3 := hx4.cell 3
      simp at x0 x1 x2 x3
      have HO : Hid (∀ w', Kp (fun _ => False) w4 w' → Calls Try.prog 39 #[.agg #[.int .i64 next, .int .i64 a, .bool el, .slice A m c]] w' fun e w2 => ∃ A' fs, e = .returned (.agg #[.int .i64 next, .int .i64 a, .bool el, .slice A' m m]) ∧ fs.map Fr.pu = fl.map Fr.pu ∧
          FrsR w2 (fun k => w'.heap.size ≤ k ∧ k < w2.heap.size) (.slice A' m m) fs ∧ Kp (fun _ => False) w' w2) := Lib.hid (fun w' hk => by
        have hf := Hy.out.kp (Hk4.out.trans hk) (fun _ _ h => h)
        rw [← Hm.out] at hf
        have := own_k next a el A c fl hf (fun k e => by have := HF.out k e; have := Hk4.out.size; have := hk.size; omega) (by rw [Hm.out]; omega) Hfd.out
        rw [Hm.out] at this
        exact this)
      clear hx4
      have hlv : ∀ k, (Value.slice Av N cv).ownBlock = some k → k ≠ l ∧ k < w4.heap.size := fun k hk => ⟨H.out.far k hk, by have := H.out.row.lt k hk; have := Hk4.out.size; omega⟩
      have hxv : ∀ k, (Value.slice Av N cv).ownBlock = some k → k ≠ bx := fun k hk => by have := H.out.row.lt k hk; have := Hbx.out; omega
      go_cut [] (fun wx => PutRow w4 wx l tc cs (.slice Av N cv) zs next top a el fl)
      case first =>
        go_wp2_with fail
        refine but_start (S := (fun w' => w'.cell? ⟨l, 4, none⟩ = some (.slice Av N cv) ∧ Kp (fun k => (Value.slice Av N cv).ownBlock = some k) w4 w')) (n := 11) (by kernel_rfl) ?_
        have hHeld := (show (fun w' => w'.cell? ⟨l, 4, none⟩ = some (.slice Av N cv) ∧ Kp (fun k => (Value.slice Av N cv).ownBlock = some k) w4 w') w4.drew from ⟨c4, (Kp.refl _ _).drew⟩)
        refine but_take (i := 0) (oi := { dst := some 24, op := Op.move (.tmp 0), type := _, pos := _, after := _, guard := _ }) (v := ?_) rfl (by kernel_rfl) (by kernel_rfl) (by kernel_rfl) (by kernel_rfl) (fun _ _ _ h => h) hHeld (Or.inl ⟨by rfl, ?_⟩) ?_
        rotate_left
        · intro w99 hSw
          first | (go_simp; done) | (go_simp; with_reducible rfl)
        try simp only [Act.put, List.setIfInBounds_toArray, List.set_cons_zero, List.set_cons_succ]
        refine but_take (i := 1) (oi := { dst := some 25, op := Op.move (.tmp 0), type := _, pos := _, after := _, guard := _ }) (v := ?_) rfl (by kernel_rfl) (by kernel_rfl) (by kernel_rfl) (by kernel_rfl) (fun _ _ _ h => h) hHeld (Or.inl ⟨by rfl, ?_⟩) ?_
        rotate_left
        · intro w99 hSw
          first | (go_simp; done) | (go_simp; with_reducible rfl)
        try simp only [Act.put, List.setIfInBounds_toArray, List.set_cons_zero, List.set_cons_succ]
        refine but_take (i := 2) (oi := { dst := some 26, op := Op.nilCheck (.tmp 25), type := _, pos := _, after := _, guard := _ }) (v := ?_) rfl (by kernel_rfl) (by kernel_rfl) (by kernel_rfl) (by kernel_rfl) (fun _ _ _ h => h) hHeld (Or.inl ⟨by rfl, ?_⟩) ?_
        rotate_left
        · intro w99 hSw
          first | (go_simp; done) | (go_simp; with_reducible rfl)
        try simp only [Act.put, List.setIfInBounds_toArray, List.set_cons_zero, List.set_cons_succ]
        refine but_take (i := 3) (oi := { dst := some 27, op := Op.fieldAddr 47 (.tmp 26) 0, type := _, pos := _, after := _, guard := _ }) (v := ?_) rfl (by kernel_rfl) (by kernel_rfl) (by kernel_rfl) (by kernel_rfl) (fun _ _ _ h => h) hHeld (Or.inl ⟨by rfl, ?_⟩) ?_
        rotate_left
        · intro w99 hSw
          first | (go_simp; done) | (go_simp; with_reducible rfl)
        try simp only [Act.put, List.setIfInBounds_toArray, List.set_cons_zero, List.set_cons_succ]
        refine but_take (i := 4) (oi := { dst := some 28, op := Op.load 45 (.tmp 27), type := _, pos := _, after := _, guard := _ }) (v := ?_) rfl (by kernel_rfl) (by kernel_rfl) (by kernel_rfl) (by kernel_rfl) (fun _ _ _ h => h) hHeld (Or.inl ⟨by rfl, ?_⟩) ?_
        rotate_left
        · intro w99 hSw
          have c4 := hSw.1; first | (go_simp; done) | (go_simp; with_reducible rfl)
        try simp only [Act.put, List.setIfInBounds_toArray, List.set_cons_zero, List.set_cons_succ]
        refine but_take (i := 5) (oi := { dst := some 29, op := Op.load 66 (.tmp 5), type := _, pos := _, after := _, guard := _ }) (v := ?_) rfl (by kernel_rfl) (by kernel_rfl) (by kernel_rfl) (by kernel_rfl) (fun _ _ _ h => h) hHeld (Or.inl ⟨by rfl, ?_⟩) ?_
        rotate_left
        · intro w99 hSw
          have x0 := (hSw.2.cell (p := ⟨bx, 0, none⟩) hx4l (fun e => hxv bx e rfl)).trans x0; have x1 := (hSw.2.cell (p := ⟨bx, 1, none⟩) hx4l (fun e => hxv bx e rfl)).trans x1; have x2 := (hSw.2.cell (p := ⟨bx, 2, none⟩) hx4l (fun e => hxv bx e rfl)).trans x2; have x3 := (hSw.2.cell (p := ⟨bx, 3, none⟩) hx4l (fun e => hxv bx e rfl)).trans x3; first | (go_simp; done) | (go_simp; with_reducible rfl)
        try simp only [Act.put, List.setIfInBounds_toArray, List.set_cons_zero, List.set_cons_succ]
        refine but_one (i := 6) (o := { dst := some 30, op := Op.call { callee := Callee.value (Operand.func 39), args := #[(.tmp 29)], argTypes := #[66] }, type := _, pos := _, after := _, guard := _ }) (by kernel_rfl) rfl (fun K hK => ?_)
        go_simp
        with_reducible refine (HO.out _ ((Kp.refl _ _).drew)).mono ?_
        rintro e w' ⟨A', fs, rfl, hfp, hfr, hk⟩
        go_wp2_with fail
        have hx9 := (And.intro ((hk.cell (p := ⟨l, 4, none⟩) hl4 (fun h => h)).trans c4) (((Kp.refl (fun k => (Value.slice Av N cv).ownBlock = some k) w4).drew).trans hk.no))
        refine hK.out _ _ (fun _ => hx9) ?_
        clear hK hHeld
        have hHeld := hx9
        clear hx9
        have hk6 : Kp (fun _ => False) w4 w' := ((Kp.refl _ w4).drew).trans hk
        clear hk
        generalize w' = wd6 at *
        try simp only [Act.put, List.setIfInBounds_toArray, List.set_cons_zero, List.set_cons_succ]
        refine but_one (i := 7) (o := { dst := some 31, op := Op.buildSlice 45 1 #[(0, (.tmp 30))], type := _, pos := _, after := _, guard := _ }) (by kernel_rfl) rfl (fun K hK => ?_)
        go_simp
        have hx9 := (And.intro (((Kp.refl (fun _ => False) wd6).alloc (.cells #[.int .i64 next, .int .i64 a, .bool el, .slice A' m m] 66)).cell (p := ⟨l, 4, none⟩) (Nat.lt_of_lt_of_le hl4 hk6.size) (fun h => h) |>.trans hHeld.1) (hHeld.2.alloc (.cells #[.int .i64 next, .int .i64 a, .bool el, .slice A' m m] 66)))
        refine hK.out _ _ (fun _ => hx9) ?_
        clear hK hHeld
        have hHeld := hx9
        clear hx9
        try simp only [Act.put, List.setIfInBounds_toArray, List.set_cons_zero, List.set_cons_succ]
        refine but_one (i := 8) (o := { dst := some 32, op := Op.call { callee := Callee.builtin Builtin.append, args := #[(.tmp 28), (.tmp 31)], argTypes := #[45, 45] }, type := _, pos := _, after := _, guard := _ }) (by kernel_rfl) rfl (fun K hK => ?_)
        refine step_row rfl (.tmp 28) (.tmp 31) 45 rfl 0 66 i0 _ 4 48 Try.underlying45 Hi.out Hz0.out Hz1.out Hz2.out rfl (by decide) (.slice Av N cv) N (encs encK zs) (by simp [Act.eval]; done) (by have := H.out.row.kp ((Hk4.out.trans hk6).alloc (.cells #[.int .i64 next, .int .i64 a, .bool el, .slice A' m m] 66)) (fun _ _ h => h); rw [HN.out] at this; exact this) (.slice (some ⟨wd6.heap.size, 0, none⟩) 1 1) 1 [.int .i64 next, .int .i64 a, .bool el, .slice A' m m] (by simp [Act.eval]; done) (srcW _ (Whole.new _ _ _) rfl (fun u hu => by simp at hu; rcases hu with rfl | rfl | rfl | rfl <;> rfl)) (by unfold maxLen; omega) (by omega) (Nat.zero_le _) ?_
        intro v2 w2 hr2 hg2 hn2
        have hk8 : Kp (fun k => (Value.slice Av N cv).ownBlock = some k) w4 w2 := hHeld.2.grown hg2 (fun i hi _ => hi)
        have c8 := (hk8.cell (p := ⟨l, 4, none⟩) hl4 (fun e => (hlv l e).1 rfl)).trans c4
        have hx9 := (And.intro c8 hk8)
        refine hK.out _ _ (fun _ => hx9) ?_
        clear hK hHeld
        have hHeld := hx9
        clear hx9
        try simp only [Act.put, List.setIfInBounds_toArray, List.set_cons_zero, List.set_cons_succ]
        refine but_one (i := 9) (o := { dst := some 33, op := Op.nilCheck (.tmp 24), type := _, pos := _, after := _, guard := _ }) (by kernel_rfl) rfl (fun K hK => ?_)
        go_simp
        have hx9 := hHeld
        refine hK.out _ _ (fun _ => hx9) ?_
        clear hK hHeld
        have hHeld := hx9
        clear hx9
        try simp only [Act.put, List.setIfInBounds_toArray, List.set_cons_zero, List.set_cons_succ]
        refine but_one (i := 10) (o := { dst := some 34, op := Op.fieldAddr 47 (.tmp 33) 0, type := _, pos := _, after := _, guard := _ }) (by kernel_rfl) rfl (fun K hK => ?_)
        go_simp
        have hx9 := hHeld
        refine hK.out _ _ (fun _ => hx9) ?_
        clear hK hHeld
        have hHeld := hx9
        clear hx9
        try simp only [Act.put, List.setIfInBounds_toArray, List.set_cons_zero, List.set_cons_succ]
        have hl8 := Nat.lt_of_lt_of_le hl4 hHeld.2.size
        have f8 : w2.frozen? ⟨l, 4, none⟩ = false := (hHeld.2.frozen (p := ⟨l, 4, none⟩) hl4 (fun e => (hlv l e).1 rfl)).trans ((Hk4.out.frozen (p := ⟨l, 4, none⟩) hllr (fun h => h)).trans (H.out.cell.frozen 4))
        have c8 := hHeld.1
        obtain ⟨A2, c2, rfl⟩ := hr2.form
        refine but_one (i := 11) (o := { dst := none, op := Op.store 45 (.tmp 34) (.tmp 32), type := _, pos := _, after := _, guard := _ }) (by kernel_rfl) rfl (fun K hK => ?_)
        go_simp
        refine hK.out _ _ (fun h => absurd rfl h) ?_
        clear hK
        refine but_done (by kernel_rfl) ?_ _
        clear hHeld
        go_wp2_with fail
        go_meet
        have hfm : fs.length = m := by have := congrArg List.length hfp; simpa [Hm.out] using this
        have hs6 := hk6.size
        have hn2' : ∀ k, (Value.slice A2 (N + 1) c2).ownBlock = some k → (Value.slice Av N cv).ownBlock = some k ∨ wd6.heap.size ≤ k := fun k hk => hn2.elim (fun e => .inl (e ▸ hk)) (fun e => .inr (by have := e k hk; simp only [World.size_alloc] at this; omega))
        have hkf : Kp (fun k => k = l ∨ (Value.slice Av N cv).ownBlock = some k) wd6 (w2.setCell ⟨l, 4, none⟩ (.slice A2 (N + 1) c2)) := ((((Kp.refl (fun k => k = l ∨ (Value.slice Av N cv).ownBlock = some k) wd6).alloc (.cells #[.int .i64 next, .int .i64 a, .bool el, .slice A' m m] 66)).grown hg2 (fun i hi _ => .inr hi))).set (p := ⟨l, 4, none⟩) (.inl (.inl rfl)) _
        have hwf := hkf.size
        refine ⟨_, _, ⟨next, a, el, A', m, fs⟩, LIn.set4 (zs2 := zs ++ [⟨next, a, el, A', m, fs⟩]) H.out (hk8.whole (Hk4.out.whole H.out.cell (fun h => h)) (fun e => (hlv l e).1 rfl)) ?_ ?_, (Agree.refl cs).set 4 ⟨by omega, by omega⟩ _, rfl, rfl, rfl, hfp, ?_, ?_, ?_⟩
        · rw [List.length_append, HN.out, encs_append, show encs encK [⟨next, a, el, A', m, fs⟩] = [.int .i64 next, .int .i64 a, .bool el, .slice A' m m] by simp [encs, encK, hfm]]
          exact hr2
        · intro k hk
          rcases hn2' k hk with h | h
          · exact (hlv k h).1
          · omega
        · have h1 := hfr.kp hkf (fun k e h => by
            have e1 : w4.heap.size ≤ k := e.1
            rcases h with h | h
            · omega
            · have := (hlv k h).2; omega)
          show FrsR _ _ (.slice A' fs.length m) fs
          rw [hfm]
          refine h1.sup (fun k e => ⟨⟨e.1, by have := e.2; omega⟩, fun h => ?_⟩)
          have e1 : w4.heap.size ≤ k := e.1
          rcases hn2' k h with h | h
          · have := (hlv k h).2; omega
          · have := e.2; omega
        · exact (hk6.no.trans hkf).mono (fun k _ h => h.elim .inl .inr)
        · exact hn2.elim .inl (fun e => .inr (fun k hk => by have := e k hk; simp only [World.size_alloc] at this; omega))
      case rest =>
        obtain ⟨v2, cs2, z, hl2, hag, hz1, hz2, hz3, hz4, hz5, hk2, hn2⟩ := hcut
        generalize wc = w5 at *
        have c5 := hl2.c5
        have f5 := hl2.cell.frozen 5
        have hl5 := hl2.cell.lt
        have Hl2 := Lib.hid hl2
        have Hk2 := Lib.hid hk2
        have Hn2 := Lib.hid hn2
        have Hz5 := Lib.hid hz5
        have Hz4 := Lib.hid hz4
        have Hag := Lib.hid hag
        clear hl2 hk2 hn2 hz5 hz4 hag
        have HZ := Lib.hid (And.intro hz1 (And.intro hz2 hz3))
        clear hz1 hz2 hz3
        go_wp2_with fail
        go_roundw
        case rel =>
          refine ⟨1, by omega, by go_num, Lib.hid (fun h => by omega), Lib.hid (fun _ => ?_)⟩
          have hs4 := Hk4.out.size
          have h1 := kp_one w5 l 5 (.int .i64 (next + 1))
          refine ⟨v2, _, z, Hl2.out.set5 _, Hag.out.set 5 ⟨by omega, by omega⟩ _, HZ.out.1, HZ.out.2.1, HZ.out.2.2, Hz4.out, (Hz5.out.kp h1 (fun k e => by have := e.1.1; omega)).sup (fun k e => ⟨⟨by have := e.1.1; omega, by have := e.1.2; simpa using this⟩, e.2⟩), ?_, ?_⟩
          · exact (Hk4.out.no.trans Hk2.out).along (h1.mono (fun k _ e => .inl e) : Kp (LS l (.slice Av N cv)) _ _) (fun i _ h => h)
          · exact Hn2.out.elim .inl (fun e => .inr (fun k hk => by have := e k hk; omega))
        case measure => simp [intOf]
    · obtain rfl : i = 1 := by omega
      go_wp2_with fail
      refine ⟨rfl, .tuple #[], results_none rfl _ _ _, rfl, h1.out (by first | rfl | trivial)⟩
end Go.Proofs.Ytoiakdddghbdnaa

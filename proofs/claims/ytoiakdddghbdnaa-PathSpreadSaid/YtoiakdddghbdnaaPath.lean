/-
  Package path: a path in memory; New, Send, Open. (region printed by src/gen_XPath.py)
-/
import Derived.Test.YtoiakdddghbdnaaPaF
import Derived.Test.YtoiakdddghbdnaaCong
import Derived.Test.YtoiakdddghbdnaaRtt
namespace Go.Proofs.Ytoiakdddghbdnaa
open Go.RowKit

/-- A path: its round trips, its window, its packets. -/
structure PS where
  r : R4
  q : W4
  zs : List Pk
  next : Int
  top : Int

/-- The path that lies from cell 0 of block p on, which holds the cells cs. -/
structure PIn (w : World) (p : Nat) (tc : TypeId) (cs : Array Value) (v : Value) (s : PS) : Prop where
  led : LIn w p tc cs v s.zs s.next s.top
  r0 : cs[0]? = some (.int .i64 s.r.S)
  r1 : cs[1]? = some (.int .i64 s.r.V)
  r2 : cs[2]? = some (.int .i64 s.r.B)
  r3 : cs[3]? = some (.bool s.r.m)
  q0 : cs[7]? = some (.int .i64 s.q.S)
  q1 : cs[8]? = some (.int .i64 s.q.L)
  q2 : cs[9]? = some (.int .i64 s.q.P)
  q3 : cs[10]? = some (.int .i64 s.q.T)
  rI : s.r.Inv
  qI : s.q.Inv

section
variable {S : Nat → Prop} {w w' : World} {p : Nat} {tc : TypeId} {cs cs' : Array Value} {v v' : Value} {s : PS}
theorem PIn.kp (h : PIn w p tc cs v s) (hk : Kp S w w') (h1 : ¬ S p) (h2 : ∀ k, v.ownBlock = some k → ¬ S k) : PIn w' p tc cs v s :=
  ⟨h.led.kp hk h1 h2, h.r0, h.r1, h.r2, h.r3, h.q0, h.q1, h.q2, h.q3, h.rI, h.qI⟩
theorem PIn.no (h : PIn w p tc cs v s) (hk : Kp (fun _ => False) w w') : PIn w' p tc cs v s := h.kp hk (fun h => h) (fun _ _ h => h)
theorem PIn.isR (h : PIn w p tc cs v s) : IsR w p 0 s.r :=
  ⟨(h.led.cell.cell 0).trans h.r0, (h.led.cell.cell 1).trans h.r1, (h.led.cell.cell 2).trans h.r2, (h.led.cell.cell 3).trans h.r3, h.led.cell.frozen 0, h.led.cell.frozen 1, h.led.cell.frozen 2, h.led.cell.frozen 3⟩
theorem PIn.isW (h : PIn w p tc cs v s) : IsW w p 7 s.q :=
  ⟨(h.led.cell.cell 7).trans h.q0, (h.led.cell.cell 8).trans h.q1, (h.led.cell.cell 9).trans h.q2, (h.led.cell.cell 10).trans h.q3, h.led.cell.frozen 7, h.led.cell.frozen 8, h.led.cell.frozen 9, h.led.cell.frozen 10⟩
theorem PIn.size (h : PIn w p tc cs v s) : 10 < cs.size := (Array.getElem?_eq_some_iff.1 h.q3).1
/-- The ledger turned alone. -/
theorem PIn.led' {zs : List Pk} {next top : Int} (h : PIn w p tc cs v s) (hl : LIn w' p tc cs' v' zs next top) (ha : Agree cs cs') : PIn w' p tc cs' v' { s with zs := zs, next := next, top := top } :=
  ⟨hl, (ha 0 (by omega)).trans h.r0, (ha 1 (by omega)).trans h.r1, (ha 2 (by omega)).trans h.r2, (ha 3 (by omega)).trans h.r3, (ha 7 (by omega)).trans h.q0, (ha 8 (by omega)).trans h.q1, (ha 9 (by omega)).trans h.q2, (ha 10 (by omega)).trans h.q3, h.rI, h.qI⟩
theorem setR_kp (w : World) (p : Nat) (r : R4) : Kp (fun k => k = p) w (setR w p 0 r) := by
  unfold setR
  exact ((((Kp.refl (fun k => k = p) w).set (p := ⟨p, 0, none⟩) (.inl rfl) _).set (p := ⟨p, 0 + 1, none⟩) (.inl rfl) _).set (p := ⟨p, 0 + 2, none⟩) (.inl rfl) _).set (p := ⟨p, 0 + 3, none⟩) (.inl rfl) _
theorem setW_kp (w : World) (p : Nat) (q : W4) : Kp (fun k => k = p) w (setW w p 7 q) := by
  unfold setW
  exact ((((Kp.refl (fun k => k = p) w).set (p := ⟨p, 7, none⟩) (.inl rfl) _).set (p := ⟨p, 7 + 1, none⟩) (.inl rfl) _).set (p := ⟨p, 7 + 2, none⟩) (.inl rfl) _).set (p := ⟨p, 7 + 3, none⟩) (.inl rfl) _
theorem set_get {a : Array Value} (j : Nat) (u : Value) (i : Nat) (hi : j ≠ i) : (a.setIfInBounds j u)[i]? = a[i]? := by rw [Array.getElem?_setIfInBounds, if_neg hi]
/-- The round trips turned alone. -/
theorem PIn.setR (h : PIn w p tc cs v s) (r : R4) (hi : r.Inv) : ∃ cs', PIn (setR w p 0 r) p tc cs' v { s with r := r } ∧ ∀ i, 11 ≤ i → cs'[i]? = cs[i]? := by
  have hs := h.size
  have hW := (((h.led.cell.set 0 (.int .i64 r.S)).set 1 (.int .i64 r.V)).set 2 (.int .i64 r.B)).set 3 (.bool r.m)
  refine ⟨_, ⟨⟨hW, ?_, ?_, ?_, h.led.row.kp (setR_kp w p r) h.led.far, h.led.far⟩, ?_, ?_, ?_, ?_, ?_, ?_, ?_, ?_, hi, h.qI⟩, fun i hi => ?_⟩
  · rw [set_get _ _ _ (by omega), set_get _ _ _ (by omega), set_get _ _ _ (by omega), set_get _ _ _ (by omega)]; exact h.led.at4
  · rw [set_get _ _ _ (by omega), set_get _ _ _ (by omega), set_get _ _ _ (by omega), set_get _ _ _ (by omega)]; exact h.led.at5
  · rw [set_get _ _ _ (by omega), set_get _ _ _ (by omega), set_get _ _ _ (by omega), set_get _ _ _ (by omega)]; exact h.led.at6
  · rw [set_get _ _ _ (by omega), set_get _ _ _ (by omega), set_get _ _ _ (by omega), Array.getElem?_setIfInBounds_self_of_lt (by omega)]
  · rw [set_get _ _ _ (by omega), set_get _ _ _ (by omega), Array.getElem?_setIfInBounds_self_of_lt (by simp; omega)]
  · rw [set_get _ _ _ (by omega), Array.getElem?_setIfInBounds_self_of_lt (by simp; omega)]
  · rw [Array.getElem?_setIfInBounds_self_of_lt (by simp; omega)]
  · rw [set_get _ _ _ (by omega), set_get _ _ _ (by omega), set_get _ _ _ (by omega), set_get _ _ _ (by omega)]; exact h.q0
  · rw [set_get _ _ _ (by omega), set_get _ _ _ (by omega), set_get _ _ _ (by omega), set_get _ _ _ (by omega)]; exact h.q1
  · rw [set_get _ _ _ (by omega), set_get _ _ _ (by omega), set_get _ _ _ (by omega), set_get _ _ _ (by omega)]; exact h.q2
  · rw [set_get _ _ _ (by omega), set_get _ _ _ (by omega), set_get _ _ _ (by omega), set_get _ _ _ (by omega)]; exact h.q3
  · rw [set_get _ _ _ (by omega), set_get _ _ _ (by omega), set_get _ _ _ (by omega), set_get _ _ _ (by omega)]
/-- The window turned alone. -/
theorem PIn.setW (h : PIn w p tc cs v s) (q : W4) (hi : q.Inv) : ∃ cs', PIn (setW w p 7 q) p tc cs' v { s with q := q } ∧ ∀ i, 11 ≤ i → cs'[i]? = cs[i]? := by
  have hs := h.size
  have hW := (((h.led.cell.set 7 (.int .i64 q.S)).set 8 (.int .i64 q.L)).set 9 (.int .i64 q.P)).set 10 (.int .i64 q.T)
  refine ⟨_, ⟨⟨hW, ?_, ?_, ?_, h.led.row.kp (setW_kp w p q) h.led.far, h.led.far⟩, ?_, ?_, ?_, ?_, ?_, ?_, ?_, ?_, h.rI, hi⟩, fun i hi => ?_⟩
  · rw [set_get _ _ _ (by omega), set_get _ _ _ (by omega), set_get _ _ _ (by omega), set_get _ _ _ (by omega)]; exact h.led.at4
  · rw [set_get _ _ _ (by omega), set_get _ _ _ (by omega), set_get _ _ _ (by omega), set_get _ _ _ (by omega)]; exact h.led.at5
  · rw [set_get _ _ _ (by omega), set_get _ _ _ (by omega), set_get _ _ _ (by omega), set_get _ _ _ (by omega)]; exact h.led.at6
  · rw [set_get _ _ _ (by omega), set_get _ _ _ (by omega), set_get _ _ _ (by omega), set_get _ _ _ (by omega)]; exact h.r0
  · rw [set_get _ _ _ (by omega), set_get _ _ _ (by omega), set_get _ _ _ (by omega), set_get _ _ _ (by omega)]; exact h.r1
  · rw [set_get _ _ _ (by omega), set_get _ _ _ (by omega), set_get _ _ _ (by omega), set_get _ _ _ (by omega)]; exact h.r2
  · rw [set_get _ _ _ (by omega), set_get _ _ _ (by omega), set_get _ _ _ (by omega), set_get _ _ _ (by omega)]; exact h.r3
  · rw [set_get _ _ _ (by omega), set_get _ _ _ (by omega), set_get _ _ _ (by omega), Array.getElem?_setIfInBounds_self_of_lt (by omega)]
  · rw [set_get _ _ _ (by omega), set_get _ _ _ (by omega), Array.getElem?_setIfInBounds_self_of_lt (by simp; omega)]
  · rw [set_get _ _ _ (by omega), Array.getElem?_setIfInBounds_self_of_lt (by simp; omega)]
  · rw [Array.getElem?_setIfInBounds_self_of_lt (by simp; omega)]
  · rw [set_get _ _ _ (by omega), set_get _ _ _ (by omega), set_get _ _ _ (by omega), set_get _ _ _ (by omega)]
theorem Dr.kp {w w' : World} (h : Dr w' w) : Kp (fun _ => False) w w' := by obtain ⟨n, rfl⟩ := h; exact (Kp.refl _ w).drewN n
end

/-- A path beside blocks F that nobody turns (its packets' frames lie in them) and blocks L that others turn. -/
structure HasP (w : World) (F L : Nat → Prop) (p : Nat) (tc : TypeId) (cs : Array Value) (v : Value) (s : PS) : Prop where
  inn : PIn w p tc cs v s
  pF : ¬ F p ∧ ¬ L p
  vF : ∀ k, v.ownBlock = some k → ¬ F k ∧ ¬ L k
  con : ∀ z ∈ s.zs, FrsR w F z.fv z.l
  old : ∀ k, F k ∨ L k → k < w.heap.size
  dis : ∀ k, F k → ¬ L k
/-- What one call does to a path. -/
structure Stp (w : World) (F : Nat → Prop) (p : Nat) (cs : Array Value) (v : Value) (w' : World) (F' : Nat → Prop) (cs' : Array Value) (v' : Value) : Prop where
  rest : ∀ i, 11 ≤ i → cs'[i]? = cs[i]?
  sup : ∀ k, F k → F' k
  new : ∀ k, F' k → F k ∨ w.heap.size ≤ k
  kp : Kp (LS p v) w w'
  near : Near w v v'
section
variable {w w' : World} {F L : Nat → Prop} {p : Nat} {tc : TypeId} {cs : Array Value} {v : Value} {s : PS}
theorem HasP.vlt (h : HasP w F L p tc cs v s) : ∀ k, v.ownBlock = some k → k < w.heap.size := fun k hk => (h.inn.led.row.lt k hk).2
/-- Others' blocks turned, or new ones came. -/
theorem HasP.turn {S : Nat → Prop} (h : HasP w F L p tc cs v s) (hk : Kp S w w') (hS : ∀ k, S k → L k) : HasP w' F L p tc cs v s :=
  ⟨h.inn.kp hk (fun e => h.pF.2 (hS _ e)) (fun k hk' e => (h.vF k hk').2 (hS _ e)), h.pF, h.vF, fun z hz => (h.con z hz).kp hk (fun k e e' => h.dis k e (hS k e')), fun k e => Nat.lt_of_lt_of_le (h.old k e) hk.size, h.dis⟩
theorem HasP.no (h : HasP w F L p tc cs v s) (hk : Kp (fun _ => False) w w') : HasP w' F L p tc cs v s := h.turn hk (fun _ e => e.elim)
/-- New blocks are laid to F or to L. -/
theorem HasP.more {F' L' : Nat → Prop} {w0 : World} (h : HasP w F L p tc cs v s) (hp : p < w0.heap.size) (hv : ∀ k, v.ownBlock = some k → k < w0.heap.size) (hF : ∀ k, F k → F' k) (hF' : ∀ k, F' k → F k ∨ (w0.heap.size ≤ k ∧ k < w.heap.size)) (hL' : ∀ k, L' k → L k ∨ (w0.heap.size ≤ k ∧ k < w.heap.size)) (hd : ∀ k, F' k → ¬ L' k) : HasP w F' L' p tc cs v s := by
  refine ⟨h.inn, ⟨fun e => ?_, fun e => ?_⟩, fun k hk => ⟨fun e => ?_, fun e => ?_⟩, fun z hz => (h.con z hz).sup hF, fun k e => ?_, hd⟩
  · rcases hF' _ e with e | e
    · exact h.pF.1 e
    · omega
  · rcases hL' _ e with e | e
    · exact h.pF.2 e
    · omega
  · rcases hF' _ e with e | e
    · exact (h.vF k hk).1 e
    · have := hv k hk; omega
  · rcases hL' _ e with e | e
    · exact (h.vF k hk).2 e
    · have := hv k hk; omega
  · rcases e with e | e
    · rcases hF' _ e with e | e
      · exact h.old k (.inl e)
      · exact e.2
    · rcases hL' _ e with e | e
      · exact h.old k (.inr e)
      · exact e.2
theorem Stp.out {F' : Nat → Prop} {cs' : Array Value} {v' : Value} (h : HasP w F L p tc cs v s) (k : Stp w F p cs v w' F' cs' v') : Kp (fun k => ¬ F k ∧ ¬ L k) w w' :=
  k.kp.mono (fun i _ e => e.elim (fun e => e ▸ h.pF) (fun e => h.vF i e))
end

/-- A new path. -/
def ps0 : PS := ⟨⟨0, 0, 0, false⟩, ⟨4, 32, 0, 0⟩, [], 0, 0⟩
abbrev cs0 : Array Value := #[.int .i64 0, .int .i64 0, .int .i64 0, .bool false, .slice none 0 0, .int .i64 0, .int .i64 0, .int .i64 4, .int .i64 32, .int .i64 0, .int .i64 0]
set_option maxHeartbeats 400000 in
theorem cnew_any (w : World) :
    Calls Try.prog 20 #[] w fun e w' => e = .returned (.agg #[.int .i64 4, .int .i64 32, .int .i64 0, .int .i64 0]) ∧ Kp (fun _ => False) w w' := by
  go_enter Try.func20, Try.ntmps20
  go_wp2
  exact bodyPost_ret (v := .agg #[.int .i64 4, .int .i64 32, .int .i64 0, .int .i64 0]) (by simp [results, Try.results20, go_sem]) rfl ⟨rfl, (Kp.refl _ _).alloc _⟩
theorem p_new (w : World) (F L : Nat → Prop) (ho : ∀ k, F k ∨ L k → k < w.heap.size) (hd : ∀ k, F k → ¬ L k) :
    Calls Try.prog 6 #[] w fun e w' => ∃ p, e = .returned (.pointer (some ⟨p, 0, none⟩)) ∧ HasP w' F L p 51 cs0 (.slice none 0 0) ps0 ∧ w.heap.size ≤ p ∧ Kp (fun _ => False) w w' := by
  have HC := Lib.hid (cnew_any w)
  go_enter Try.func6, Try.ntmps6
  go_wp2_with fail
  with_reducible refine (HC.out).mono ?_
  rintro e w1 ⟨rfl, hk⟩
  have Hk := Lib.hid hk
  clear hk
  go_wp2_with fail
  go_ret
  have hs := Hk.out.size
  refine ⟨w1.heap.size, rfl, ⟨⟨⟨Whole.new _ _ _, rfl, rfl, rfl, RowAt.nil _ _ _, fun k hk => (by cases hk)⟩, rfl, rfl, rfl, rfl, rfl, rfl, rfl, rfl, ⟨by decide, by decide, by decide, by decide, by decide⟩, ⟨by decide, by decide, by decide, by decide, by decide, by decide⟩⟩, ⟨fun e => ?_, fun e => ?_⟩, fun k hk => (by cases hk), fun z hz => (by cases hz), fun k e => ?_, hd⟩, hs, Hk.out.alloc _⟩
  · have := ho _ (.inl e); omega
  · have := ho _ (.inr e); omega
  · have := ho k e; simp only [World.size_alloc]; omega

section
variable {w : World} {p : Nat} {tc : TypeId} {cs : Array Value} {v : Value} {s : PS}
theorem p_open (h : PIn w p tc cs v s) (hlen : s.zs.length ≤ 2199023255552) :
    Calls Try.prog 16 #[.pointer (some ⟨p, 0, none⟩)] w fun e w' => e = .returned (.bool (decide ((cntK s.zs : Int) < s.q.S))) ∧ Kp (fun _ => False) w w' := by
  have HF : Hid (∀ w', Kp (fun _ => False) w w' → Calls Try.prog 19 #[.pointer (some ⟨p, 4, none⟩)] w' fun e w2 => e = .returned (.int .i64 (cntK s.zs : Nat)) ∧ Kp (fun _ => False) w' w2) := Lib.hid (fun w' hk => l_flight (h.no hk).led hlen)
  have HT : Hid (∀ w', Kp (fun _ => False) w w' → Calls Try.prog 34 #[.pointer (some ⟨p, 7, none⟩), .int .i64 (cntK s.zs : Nat)] w' fun e w2 => e = .returned (.bool (decide ((cntK s.zs : Int) < s.q.S))) ∧ Kp (fun _ => False) w' w2) := Lib.hid (fun w' hk => by
    refine (fits_any p 7 s.q.S _ w' (h.no hk).isW.c0).mono ?_
    rintro e w2 ⟨rfl, rfl⟩
    exact ⟨rfl, Kp.refl _ _⟩)
  have hpl := h.led.cell.lt
  clear h
  generalize cntK s.zs = N at *
  generalize s.q.S = S at *
  go_enter Try.func16, Try.ntmps16
  go_wp2_with fail
  refine wp_region_held_drew (S := (fun w' => Kp (fun _ => False) w w')) (by kernel_rfl) ((Kp.refl _ _).drew) (fun hHeld => ?_)
  refine wpAnyH_take (i := 0) (oi := { dst := some 3, op := Op.move (.tmp 0), type := _, pos := _, after := _, guard := _ }) (v := ?_) rfl (by kernel_rfl) (by kernel_rfl) (by kernel_rfl) (fun _ _ _ h => h) (Or.inl ⟨by rfl, ?_⟩) hHeld ?_
  rotate_left
  · intro w99 hSw
    first | (go_simp; done) | (go_simp; with_reducible rfl)
  try simp only [Act.put, List.setIfInBounds_toArray, List.set_cons_zero, List.set_cons_succ]
  refine wpAnyH_take (i := 1) (oi := { dst := some 4, op := Op.nilCheck (.tmp 3), type := _, pos := _, after := _, guard := _ }) (v := ?_) rfl (by kernel_rfl) (by kernel_rfl) (by kernel_rfl) (fun _ _ _ h => h) (Or.inl ⟨by rfl, ?_⟩) hHeld ?_
  rotate_left
  · intro w99 hSw
    first | (go_simp; done) | (go_simp; with_reducible rfl)
  try simp only [Act.put, List.setIfInBounds_toArray, List.set_cons_zero, List.set_cons_succ]
  refine wpAnyH_take (i := 2) (oi := { dst := some 5, op := Op.fieldAddr 51 (.tmp 4) 2, type := _, pos := _, after := _, guard := _ }) (v := ?_) rfl (by kernel_rfl) (by kernel_rfl) (by kernel_rfl) (fun _ _ _ h => h) (Or.inl ⟨by rfl, ?_⟩) hHeld ?_
  rotate_left
  · intro w99 hSw
    first | (go_simp; done) | (go_simp; with_reducible rfl)
  try simp only [Act.put, List.setIfInBounds_toArray, List.set_cons_zero, List.set_cons_succ]
  refine wpAnyH_take (i := 3) (oi := { dst := some 6, op := Op.move (.tmp 0), type := _, pos := _, after := _, guard := _ }) (v := ?_) rfl (by kernel_rfl) (by kernel_rfl) (by kernel_rfl) (fun _ _ _ h => h) (Or.inl ⟨by rfl, ?_⟩) hHeld ?_
  rotate_left
  · intro w99 hSw
    first | (go_simp; done) | (go_simp; with_reducible rfl)
  try simp only [Act.put, List.setIfInBounds_toArray, List.set_cons_zero, List.set_cons_succ]
  refine wpAnyH_take (i := 4) (oi := { dst := some 7, op := Op.nilCheck (.tmp 6), type := _, pos := _, after := _, guard := _ }) (v := ?_) rfl (by kernel_rfl) (by kernel_rfl) (by kernel_rfl) (fun _ _ _ h => h) (Or.inl ⟨by rfl, ?_⟩) hHeld ?_
  rotate_left
  · intro w99 hSw
    first | (go_simp; done) | (go_simp; with_reducible rfl)
  try simp only [Act.put, List.setIfInBounds_toArray, List.set_cons_zero, List.set_cons_succ]
  refine wpAnyH_take (i := 5) (oi := { dst := some 8, op := Op.fieldAddr 51 (.tmp 7) 1, type := _, pos := _, after := _, guard := _ }) (v := ?_) rfl (by kernel_rfl) (by kernel_rfl) (by kernel_rfl) (fun _ _ _ h => h) (Or.inl ⟨by rfl, ?_⟩) hHeld ?_
  rotate_left
  · intro w99 hSw
    first | (go_simp; done) | (go_simp; with_reducible rfl)
  try simp only [Act.put, List.setIfInBounds_toArray, List.set_cons_zero, List.set_cons_succ]
  refine wpAnyH_ready (rs := [6]) (by kernel_rfl) (by simp) (AllReadyH.cons (o := { dst := some 9, op := Op.call { callee := Callee.value (Operand.func 19), args := #[(.tmp 8)], argTypes := #[47] }, type := _, pos := _, after := _, guard := _ }) rfl (fun K hK => ?_) AllReadyH.nil)
  go_simp
  with_reducible refine (HF.out _ hHeld).mono ?_
  rintro e w' ⟨rfl, hkh⟩
  go_wp2_with fail
  have hx9 := (hHeld.trans hkh)
  refine hK.out _ _ hx9 (fun _ => ?_)
  clear hK hHeld
  have hHeld := hx9
  clear hx9
  clear hkh
  generalize w' = wd6 at *
  try simp only [Act.put, List.setIfInBounds_toArray, List.set_cons_zero, List.set_cons_succ]
  refine wpAnyH_ready (rs := [7]) (by kernel_rfl) (by simp) (AllReadyH.cons (o := { dst := some 10, op := Op.call { callee := Callee.value (Operand.func 34), args := #[(.tmp 5), (.tmp 9)], argTypes := #[49, 3] }, type := _, pos := _, after := _, guard := _ }) rfl (fun K hK => ?_) AllReadyH.nil)
  go_simp
  with_reducible refine (HT.out _ hHeld).mono ?_
  rintro e w' ⟨rfl, hkh⟩
  go_wp2_with fail
  have hx9 := (hHeld.trans hkh)
  refine hK.out _ _ hx9 (fun _ => ?_)
  clear hK hHeld
  have hHeld := hx9
  clear hx9
  clear hkh
  generalize w' = wd7 at *
  try simp only [Act.put, List.setIfInBounds_toArray, List.set_cons_zero, List.set_cons_succ]
  refine wpAnyH_take (i := 8) (oi := { dst := some 2, op := Op.assign (.tmp 10), type := _, pos := _, after := _, guard := _ }) (v := ?_) rfl (by kernel_rfl) (by kernel_rfl) (by kernel_rfl) (fun _ _ _ h => h) (Or.inl ⟨by rfl, ?_⟩) hHeld ?_
  rotate_left
  · intro w99 hSw
    first | (go_simp; done) | (go_simp; with_reducible rfl)
  try simp only [Act.put, List.setIfInBounds_toArray, List.set_cons_zero, List.set_cons_succ]
  refine wpAnyH_done (by kernel_rfl) ?_ _
  go_wp2_with fail
  go_ret
  exact ⟨rfl, hHeld⟩
end
end Go.Proofs.Ytoiakdddghbdnaa

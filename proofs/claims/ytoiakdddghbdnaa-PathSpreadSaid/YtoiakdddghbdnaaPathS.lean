/-
  Package path: Send. (region printed by src/gen_XPathS.py)
-/
import Derived.Test.YtoiakdddghbdnaaPath
namespace Go.Proofs.Ytoiakdddghbdnaa
open Go.RowKit

/-- What a Send leaves. -/
def SendLeft (w : World) (F L : Nat → Prop) (p : Nat) (tc : TypeId) (cs : Array Value) (v : Value) (s : PS) (now : Int) (fl : List Fr) (w' : World) : Prop :=
  ∃ F' cs' v' z, HasP w' F' L p tc cs' v' { s with zs := s.zs ++ [z], next := s.next + 1 } ∧ Stp w F p cs v w' F' cs' v' ∧ z.n = s.next ∧ z.a = now ∧ z.el = fl.any elF ∧ z.l.map Fr.pu = fl.map Fr.pu

theorem send_end {w w1 w' : World} {F L : Nat → Prop} {p : Nat} {tc : TypeId} {cs : Array Value} {v : Value} {s : PS} {now : Int} {fl : List Fr} (h : HasP w F L p tc cs v s) (hk : Kp (fun _ => False) w w1) (hp : PutLeft w1 p tc cs v s.zs s.next s.top now (fl.any elF) fl w') : SendLeft w F L p tc cs v s now fl w' := by
  obtain ⟨v', cs', z, hl, ha, h1, h2, h3, h4, h5, hkp, hn⟩ := hp
  have hs := hk.size
  have hs' := hkp.size
  have hpl := h.inn.led.cell.lt
  have hv' : ∀ k, v'.ownBlock = some k → v.ownBlock = some k ∨ w1.heap.size ≤ k := fun k hk => hn.elim (fun e => .inl (e ▸ hk)) (fun e => .inr (e k hk))
  have hkw : Kp (LS p v) w w' := hk.no.trans hkp
  refine ⟨fun k => F k ∨ ((w1.heap.size ≤ k ∧ k < w'.heap.size) ∧ v'.ownBlock ≠ some k), cs', v', z, ⟨h.inn.led' hl ha, ⟨fun e => ?_, h.pF.2⟩, fun k hk => ⟨fun e => ?_, fun e => ?_⟩, fun y hy => ?_, fun k e => ?_, fun k e e' => ?_⟩, ⟨fun i hi => ha i (by omega), fun k e => .inl e, fun k e => e.imp id (fun e => by omega), hkw, hn.elim .inl (fun e => .inr (fun k hk => Nat.le_trans hs (e k hk)))⟩, h1, h2, h3, h4⟩
  · rcases e with e | e
    · exact h.pF.1 e
    · omega
  · rcases e with e | e
    · rcases hv' k hk with e' | e'
      · exact (h.vF k e').1 e
      · have := h.old k (.inl e); omega
    · exact e.2 hk
  · rcases hv' k hk with e' | e'
    · exact (h.vF k e').2 e
    · have := h.old k (.inr e); omega
  · rcases List.mem_append.1 hy with hy | hy
    · exact ((h.con y hy).kp hkw (fun k e e' => e'.elim (fun e' => h.pF.1 (e' ▸ e)) (fun e' => (h.vF k e').1 e))).sup (fun k e => .inl e)
    · rw [List.mem_singleton.1 hy]
      exact h5.sup (fun k e => .inr e)
  · rcases e with (e | e) | e
    · have := h.old k (.inl e); omega
    · exact e.1.2
    · have := h.old k (.inr e); omega
  · rcases e with e | e
    · exact h.dis k e e'
    · have := h.old k (.inr e'); omega

set_option maxRecDepth 100000 in
set_option maxHeartbeats 1000000 in
theorem p_send {w : World} {F L : Nat → Prop} {p : Nat} {tc : TypeId} {cs : Array Value} {v : Value} {s : PS} (h : HasP w F L p tc cs v s) (now : Int) {G : Nat → Prop} {A : Option Addr} {c : Nat} {fl : List Fr}
    (hy : FrsR w G (.slice A fl.length c) fl) (hG : ∀ k, G k → k < w.heap.size) (hfl : fl.length ≤ 1099511627776) (hfd : ∀ f ∈ fl, f.d.length ≤ 140737488355328 ∧ f.s.length ≤ 8796093022208)
    (hn : s.next ≤ 4611686018427387903) (hn0 : 0 ≤ s.next) (hlen : s.zs.length ≤ 2199023255552) :
    Calls Try.prog 10 #[.pointer (some ⟨p, 0, none⟩), .int .i64 now, .slice A fl.length c] w fun e w' => e = .returned (.int .i64 s.next) ∧ SendLeft w F L p tc cs v s now fl w' := by
  have HN := Lib.hid (l_next h.inn.led)
  have HE : Hid (∀ w', Kp (fun _ => False) w w' → Calls Try.prog 23 #[.slice A fl.length c] w' fun e w2 => e = .returned (.bool (fl.any elF)) ∧ Kp (fun _ => False) w' w2) := Lib.hid (fun w' hk => elicits_any (hk.src hy.row (fun _ _ h => h)) (by omega))
  have HP : Hid (∀ w1, Kp (fun _ => False) w w1 → Calls Try.prog 22 #[.pointer (some ⟨p, 4, none⟩), .slice (some ⟨w1.heap.size, 0, none⟩) 1 1] (w1.alloc (.cells #[.int .i64 s.next, .int .i64 now, .bool (fl.any elF), .slice A fl.length c] 66)) fun e w2 => e = .returned (.tuple #[]) ∧ SendLeft w F L p tc cs v s now fl w2) := Lib.hid (fun w1 hk => by
    have hk2 : Kp (fun _ => False) w (w1.alloc (.cells #[.int .i64 s.next, .int .i64 now, .bool (fl.any elF), .slice A fl.length c] 66)) := hk.alloc _
    have hx : Whole (w1.alloc (.cells #[.int .i64 s.next, .int .i64 now, .bool (fl.any elF), .slice A fl.length c] 66)) w1.heap.size 66 #[.int .i64 s.next, .int .i64 now, .bool (fl.any elF), .slice A fl.length c] := Whole.new _ _ _
    refine (l_put (h.inn.no hk2).led now (fl.any elF) (hy.kp hk2 (fun _ _ h => h)) (fun k e => Nat.lt_of_lt_of_le (hG k e) hk2.size) hfl hfd (b := w1.heap.size) (off := 0) (hx.cell 0) (hx.cell 1) (hx.cell 2) (hx.cell 3) hn hn0 hlen).mono ?_
    rintro e w2 ⟨rfl, hp⟩
    exact ⟨rfl, send_end h hk2 hp⟩)
  have hpl := h.inn.led.cell.lt
  obtain ⟨el, hel⟩ : ∃ el, el = fl.any elF := ⟨_, rfl⟩
  rw [← hel] at HE HP
  obtain ⟨nx, hnx⟩ : ∃ nx, nx = s.next := ⟨_, rfl⟩
  rw [← hnx] at HN HP ⊢
  clear h hy hel hnx hn hn0
  obtain ⟨m, hm⟩ : ∃ m, m = fl.length := ⟨_, rfl⟩
  rw [← hm] at HE HP ⊢
  clear hm
  go_enter Try.func10, Try.ntmps10
  go_wp2_with fail
  with_reducible refine (HN.out).mono ?_
  rintro e w1 ⟨rfl, rfl⟩
  go_wp2_with fail
  refine wp_region_held_drew (S := (fun _ => True)) (by kernel_rfl) True.intro (fun hHeld => ?_)
  refine wpAnyH_take (i := 0) (oi := { dst := some 12, op := Op.move (.tmp 0), type := _, pos := _, after := _, guard := _ }) (v := ?_) rfl (by kernel_rfl) (by kernel_rfl) (by kernel_rfl) (fun _ _ _ h => h) (Or.inl ⟨by rfl, ?_⟩) hHeld ?_
  rotate_left
  · intro w99 hSw
    first | (go_simp; done) | (go_simp; with_reducible rfl)
  try simp only [Act.put, List.setIfInBounds_toArray, List.set_cons_zero, List.set_cons_succ]
  refine wpAnyH_take (i := 1) (oi := { dst := some 13, op := Op.nilCheck (.tmp 12), type := _, pos := _, after := _, guard := _ }) (v := ?_) rfl (by kernel_rfl) (by kernel_rfl) (by kernel_rfl) (fun _ _ _ h => h) (Or.inl ⟨by rfl, ?_⟩) hHeld ?_
  rotate_left
  · intro w99 hSw
    first | (go_simp; done) | (go_simp; with_reducible rfl)
  try simp only [Act.put, List.setIfInBounds_toArray, List.set_cons_zero, List.set_cons_succ]
  refine wpAnyH_take (i := 2) (oi := { dst := some 14, op := Op.fieldAddr 51 (.tmp 13) 1, type := _, pos := _, after := _, guard := _ }) (v := ?_) rfl (by kernel_rfl) (by kernel_rfl) (by kernel_rfl) (fun _ _ _ h => h) (Or.inl ⟨by rfl, ?_⟩) hHeld ?_
  rotate_left
  · intro w99 hSw
    first | (go_simp; done) | (go_simp; with_reducible rfl)
  try simp only [Act.put, List.setIfInBounds_toArray, List.set_cons_zero, List.set_cons_succ]
  refine wpAnyH_take (i := 3) (oi := { dst := some 15, op := Op.move (.tmp 7), type := _, pos := _, after := _, guard := _ }) (v := ?_) rfl (by kernel_rfl) (by kernel_rfl) (by kernel_rfl) (fun _ _ _ h => h) (Or.inl ⟨by rfl, ?_⟩) hHeld ?_
  rotate_left
  · intro w99 hSw
    first | (go_simp; done) | (go_simp; with_reducible rfl)
  try simp only [Act.put, List.setIfInBounds_toArray, List.set_cons_zero, List.set_cons_succ]
  refine wpAnyH_take (i := 4) (oi := { dst := some 16, op := Op.move (.tmp 1), type := _, pos := _, after := _, guard := _ }) (v := ?_) rfl (by kernel_rfl) (by kernel_rfl) (by kernel_rfl) (fun _ _ _ h => h) (Or.inl ⟨by rfl, ?_⟩) hHeld ?_
  rotate_left
  · intro w99 hSw
    first | (go_simp; done) | (go_simp; with_reducible rfl)
  try simp only [Act.put, List.setIfInBounds_toArray, List.set_cons_zero, List.set_cons_succ]
  refine wpAnyH_take (i := 5) (oi := { dst := some 17, op := Op.move (.tmp 2), type := _, pos := _, after := _, guard := _ }) (v := ?_) rfl (by kernel_rfl) (by kernel_rfl) (by kernel_rfl) (fun _ _ _ h => h) (Or.inl ⟨by rfl, ?_⟩) hHeld ?_
  rotate_left
  · intro w99 hSw
    first | (go_simp; done) | (go_simp; with_reducible rfl)
  try simp only [Act.put, List.setIfInBounds_toArray, List.set_cons_zero, List.set_cons_succ]
  refine wpAnyH_take (i := 7) (oi := { dst := some 19, op := Op.move (.tmp 2), type := _, pos := _, after := _, guard := _ }) (v := ?_) rfl (by kernel_rfl) (by kernel_rfl) (by kernel_rfl) (fun _ _ _ h => h) (Or.inl ⟨by rfl, ?_⟩) hHeld ?_
  rotate_left
  · intro w99 hSw
    first | (go_simp; done) | (go_simp; with_reducible rfl)
  try simp only [Act.put, List.setIfInBounds_toArray, List.set_cons_zero, List.set_cons_succ]
  refine wpAnyH_ready (rs := [6]) (by kernel_rfl) (by simp) (AllReadyH.cons (o := { dst := some 18, op := Op.call { callee := Callee.value (Operand.func 23), args := #[(.tmp 17)], argTypes := #[26] }, type := _, pos := _, after := _, guard := _ }) rfl (fun K hK => ?_) AllReadyH.nil)
  go_simp
  with_reducible refine (HE.out _ ((Kp.refl _ _).drew)).mono ?_
  rintro e w' ⟨rfl, hkh⟩
  go_wp2_with fail
  have hx9 := True.intro
  refine hK.out _ _ hx9 (fun _ => ?_)
  clear hK hHeld
  have hHeld := hx9
  clear hx9
  have hk6 : Kp (fun _ => False) w w' := ((Kp.refl (fun _ => False) w).drew).trans hkh
  clear hkh
  generalize w' = wd6 at *
  try simp only [Act.put, List.setIfInBounds_toArray, List.set_cons_zero, List.set_cons_succ]
  refine wpAnyH_take (i := 8) (oi := { dst := some 20, op := Op.build 66 #[(0, (.tmp 15)), (1, (.tmp 16)), (2, (.tmp 18)), (3, (.tmp 19))], type := _, pos := _, after := _, guard := _ }) (v := ?_) rfl (by kernel_rfl) (by kernel_rfl) (by kernel_rfl) (fun _ _ _ h => h) (Or.inl ⟨by rfl, ?_⟩) hHeld ?_
  rotate_left
  · intro w99 hSw
    first | (go_simp; done) | (go_simp; with_reducible rfl)
  try simp only [Act.put, List.setIfInBounds_toArray, List.set_cons_zero, List.set_cons_succ]
  refine wpAnyH_ready (rs := [9]) (by kernel_rfl) (by simp) (AllReadyH.cons (o := { dst := some 21, op := Op.buildSlice 45 1 #[(0, (.tmp 20))], type := _, pos := _, after := _, guard := _ }) rfl (fun K hK => ?_) AllReadyH.nil)
  go_simp
  refine hK.out _ _ True.intro (fun _ => ?_)
  clear hK
  try simp only [Act.put, List.setIfInBounds_toArray, List.set_cons_zero, List.set_cons_succ]
  refine wpAnyH_ready (rs := [10]) (by kernel_rfl) (by simp) (AllReadyH.cons (o := { dst := some 22, op := Op.call { callee := Callee.value (Operand.func 22), args := #[(.tmp 14), (.tmp 21)], argTypes := #[47, 45] }, type := _, pos := _, after := _, guard := _ }) rfl (fun K hK => ?_) AllReadyH.nil)
  go_simp
  with_reducible refine (HP.out wd6 hk6).mono ?_
  rintro e w' ⟨rfl, hq⟩
  go_wp2_with fail
  have hx9 := True.intro
  refine hK.out _ _ hx9 (fun _ => ?_)
  clear hK hHeld
  have hHeld := hx9
  clear hx9
  generalize w' = wd10 at *
  try simp only [Act.put, List.setIfInBounds_toArray, List.set_cons_zero, List.set_cons_succ]
  refine wpAnyH_done (by kernel_rfl) ?_ _
  have Hq := Lib.hid hq
  clear hq
  go_wp2_with fail
  go_ret
  exact ⟨rfl, Hq.out⟩
end Go.Proofs.Ytoiakdddghbdnaa

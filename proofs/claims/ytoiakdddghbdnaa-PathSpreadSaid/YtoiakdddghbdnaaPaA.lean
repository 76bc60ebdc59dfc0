/-
  A path in a law: its contracts, without its cells.
-/
import Derived.Test.YtoiakdddghbdnaaPaKn
namespace Go.Proofs.Ytoiakdddghbdnaa
open Go.RowKit

/-- A path p in state s, beside blocks F that nobody turns and blocks L that the law turns. -/
def HasA (w : World) (F L : Nat → Prop) (p : Nat) (s : PS) : Prop := ∃ cs v, HasP w F L p 51 cs v s
/-- What a call leaves beside the path. -/
structure Aft (w : World) (F L : Nat → Prop) (w' : World) (F' : Nat → Prop) : Prop where
  sup : ∀ k, F k → F' k
  new : ∀ k, F' k → F k ∨ w.heap.size ≤ k
  kp : Kp (fun k => ¬ F k ∧ ¬ L k) w w'
theorem Aft.refl (w : World) (F L : Nat → Prop) : Aft w F L w F := ⟨fun _ h => h, fun _ h => .inl h, Kp.refl _ _⟩
section
variable {w w' w'' : World} {F F' F'' L : Nat → Prop} {p : Nat} {s : PS}
theorem Aft.trans (h : Aft w F L w' F') (k : Aft w' F' L w'' F'') : Aft w F L w'' F'' :=
  ⟨fun i e => k.sup i (h.sup i e), fun i e => (k.new i e).elim (h.new i) (fun e => .inr (Nat.le_trans h.kp.size e)), h.kp.trans (k.kp.mono (fun i _ e => ⟨fun e' => e.1 (h.sup i e'), e.2⟩))⟩
theorem Aft.frs (h : Aft w F L w' F') {v : Value} {l : List Fr} (hr : FrsR w F v l) : FrsR w' F' v l := (hr.kp h.kp (fun _ e e' => e'.1 e)).sup h.sup
theorem Aft.whole (h : Aft w F L w' F') {g : Nat} {t : TypeId} {cs : Array Value} (hw : Whole w g t cs) (hg : F g ∨ L g) : Whole w' g t cs := h.kp.whole hw (fun e => hg.elim e.1 e.2)
theorem Aft.lay (h : Aft w F L w' F') (o : Obj) : Aft w F L (w'.alloc o) (fun k => F' k ∨ k = w'.heap.size) :=
  ⟨fun k e => .inl (h.sup k e), fun k e => e.elim (h.new k) (fun e => .inr (e ▸ h.kp.size)), h.kp.alloc o⟩
theorem Aft.no (h : Aft w F L w' F') (k : Kp (fun _ => False) w' w'') : Aft w F L w'' F' := ⟨h.sup, h.new, h.kp.trans k.no⟩

theorem HasA.inn (h : HasA w F L p s) : ∃ cs v, PIn w p 51 cs v s := by obtain ⟨cs, v, h⟩ := h; exact ⟨cs, v, h.inn⟩
theorem HasA.lt (h : HasA w F L p s) : p < w.heap.size ∧ ¬ F p ∧ ¬ L p := by obtain ⟨cs, v, h⟩ := h; exact ⟨h.inn.led.cell.lt, h.pF⟩
theorem HasA.old (h : HasA w F L p s) : ∀ k, F k ∨ L k → k < w.heap.size := by obtain ⟨cs, v, h⟩ := h; exact h.old
theorem HasA.dis (h : HasA w F L p s) : ∀ k, F k → ¬ L k := by obtain ⟨cs, v, h⟩ := h; exact h.dis
theorem HasA.rI (h : HasA w F L p s) : s.r.Inv := by obtain ⟨cs, v, h⟩ := h; exact h.inn.rI
theorem HasA.qI (h : HasA w F L p s) : s.q.Inv := by obtain ⟨cs, v, h⟩ := h; exact h.inn.qI
theorem HasA.no (h : HasA w F L p s) (k : Kp (fun _ => False) w w') : HasA w' F L p s := by obtain ⟨cs, v, h⟩ := h; exact ⟨cs, v, h.no k⟩
theorem HasA.turn {S : Nat → Prop} (h : HasA w F L p s) (hk : Kp S w w') (hS : ∀ k, S k → L k) : HasA w' F L p s := by obtain ⟨cs, v, h⟩ := h; exact ⟨cs, v, h.turn hk hS⟩
/-- A new block that nobody turns. -/
theorem HasA.lay (h : HasA w F L p s) (o : Obj) : HasA (w.alloc o) (fun k => F k ∨ k = w.heap.size) L p s := by
  have hlt := h.lt.1
  have hold := h.old
  have hdis := h.dis
  obtain ⟨cs, v, h⟩ := h
  refine ⟨cs, v, (h.no ((Kp.refl _ w).alloc o)).more (w0 := w) hlt h.vlt (fun k e => .inl e) (fun k e => e.imp id (fun e => by simp only [World.size_alloc]; omega)) (fun k e => .inl e) (fun k e e' => ?_)⟩
  rcases e with e | e
  · exact hdis k e e'
  · have := hold k (.inr e'); omega
/-- A new block that the law turns. -/
theorem HasA.layL (h : HasA w F L p s) (o : Obj) : HasA (w.alloc o) F (fun k => L k ∨ k = w.heap.size) p s := by
  have hlt := h.lt.1
  have hold := h.old
  have hdis := h.dis
  obtain ⟨cs, v, h⟩ := h
  refine ⟨cs, v, (h.no ((Kp.refl _ w).alloc o)).more (w0 := w) hlt h.vlt (fun k e => e) (fun k e => .inl e) (fun k e => e.imp id (fun e => by simp only [World.size_alloc]; omega)) (fun k e e' => ?_)⟩
  rcases e' with e' | e'
  · exact hdis k e e'
  · have := hold k (.inl e); omega

theorem a_new (w : World) (F L : Nat → Prop) (ho : ∀ k, F k ∨ L k → k < w.heap.size) (hd : ∀ k, F k → ¬ L k) :
    Calls Try.prog 6 #[] w fun e w' => ∃ p, e = .returned (.pointer (some ⟨p, 0, none⟩)) ∧ HasA w' F L p ps0 ∧ w.heap.size ≤ p ∧ Kp (fun _ => False) w w' := by
  refine (p_new w F L ho hd).mono ?_
  rintro e w' ⟨p, rfl, h, h1, h2⟩
  exact ⟨p, rfl, ⟨_, _, h⟩, h1, h2⟩
theorem Stp.aft {cs cs' : Array Value} {v v' : Value} {tc : TypeId} (h : HasP w F L p tc cs v s) (k : Stp w F p cs v w' F' cs' v') : Aft w F L w' F' := ⟨k.sup, k.new, Stp.out h k⟩

theorem a_send (h : HasA w F L p s) (now : Int) {A : Option Addr} {c : Nat} {fl : List Fr} (hy : FrsR w F (.slice A fl.length c) fl) (hfl : fl.length ≤ 1099511627776) (hfd : ∀ f ∈ fl, f.d.length ≤ 140737488355328 ∧ f.s.length ≤ 8796093022208)
    (hn : s.next ≤ 4611686018427387903) (hn0 : 0 ≤ s.next) (hlen : s.zs.length ≤ 2199023255552) :
    Calls Try.prog 10 #[.pointer (some ⟨p, 0, none⟩), .int .i64 now, .slice A fl.length c] w fun e w' => e = .returned (.int .i64 s.next) ∧
      ∃ F' z, HasA w' F' L p { s with zs := s.zs ++ [z], next := s.next + 1 } ∧ Aft w F L w' F' ∧ z.n = s.next ∧ z.a = now ∧ z.el = fl.any elF ∧ z.l.map Fr.pu = fl.map Fr.pu := by
  have ho := h.old
  obtain ⟨cs, v, h⟩ := h
  refine (p_send h now hy (fun k e => ho k (.inl e)) hfl hfd hn hn0 hlen).mono ?_
  rintro e w' ⟨rfl, F', cs', v', z, h1, h2, h3⟩
  exact ⟨rfl, F', z, ⟨cs', v', h1⟩, Stp.aft h h2, h3⟩

/-- The same, where the frames lie anywhere. -/
theorem a_sendG (h : HasA w F L p s) (now : Int) {G : Nat → Prop} {A : Option Addr} {c : Nat} {fl : List Fr} (hy : FrsR w G (.slice A fl.length c) fl) (hG : ∀ k, G k → k < w.heap.size) (hfl : fl.length ≤ 1099511627776) (hfd : ∀ f ∈ fl, f.d.length ≤ 140737488355328 ∧ f.s.length ≤ 8796093022208)
    (hn : s.next ≤ 4611686018427387903) (hn0 : 0 ≤ s.next) (hlen : s.zs.length ≤ 2199023255552) :
    Calls Try.prog 10 #[.pointer (some ⟨p, 0, none⟩), .int .i64 now, .slice A fl.length c] w fun e w' => e = .returned (.int .i64 s.next) ∧
      ∃ F' z, HasA w' F' L p { s with zs := s.zs ++ [z], next := s.next + 1 } ∧ Aft w F L w' F' ∧ z.n = s.next ∧ z.a = now ∧ z.el = fl.any elF ∧ z.l.map Fr.pu = fl.map Fr.pu := by
  obtain ⟨cs, v, h⟩ := h
  refine (p_send h now hy hG hfl hfd hn hn0 hlen).mono ?_
  rintro e w' ⟨rfl, F', cs', v', z, h1, h2, h3⟩
  exact ⟨rfl, F', z, ⟨cs', v', h1⟩, Stp.aft h h2, h3⟩

theorem a_heard_bad (h : HasA w F L p s) {A : Option Addr} {c : Nat} {rs : List Pr} (hx : Src w 2 (.slice A rs.length c) rs.length (encs encP rs)) (hlen : rs.length ≤ 2199023255552) (hbad : rs.any (overP s.next) = true) (now : Int) :
    Calls Try.prog 11 #[.pointer (some ⟨p, 0, none⟩), .slice A rs.length c, .int .i64 now] w fun e w' => e = .returned (.tuple #[.slice none 0 0, .int .i64 2]) ∧ Kp (fun _ => False) w w' := by
  obtain ⟨cs, v, h⟩ := h
  exact p_heard_bad h.inn hx hlen hbad now

theorem a_heard (h : HasA w F L p s) {A : Option Addr} {c : Nat} {rs : List Pr} (hx : Src w 2 (.slice A rs.length c) rs.length (encs encP rs)) (hf : ∀ k, (Value.slice A rs.length c).ownBlock = some k → F k)
    (hlen : rs.length ≤ 2199023255552) (hok : rs.any (overP s.next) = false) (now : Int) (hnow : 0 ≤ now ∧ now ≤ 4611686018427387904) (hat : ∀ z ∈ s.zs, 0 ≤ z.a ∧ z.a ≤ 4611686018427387904) (hn : s.next ≤ 4611686018427387904) (h0 : 0 ≤ s.top) (h1 : s.top ≤ s.next) (hzl : s.zs.length ≤ 2199023255552) (hfl : (frsK (s.zs.filter (hitK rs))).length ≤ 2165000000000) :
    Calls Try.prog 11 #[.pointer (some ⟨p, 0, none⟩), .slice A rs.length c, .int .i64 now] w fun e w' => ∃ A', e = .returned (.tuple #[.slice A' (frsK (s.zs.filter (hitK rs))).length (frsK (s.zs.filter (hitK rs))).length, .int .i64 0]) ∧
      ∃ F', HasA w' F' L p (heardS s rs now) ∧ Aft w F L w' F' ∧ FrsR w' F' (.slice A' (frsK (s.zs.filter (hitK rs))).length (frsK (s.zs.filter (hitK rs))).length) (frsK (s.zs.filter (hitK rs))) := by
  obtain ⟨cs, v, h⟩ := h
  refine (p_heard h hx (fun k hk e => h.pF.1 (e ▸ hf k hk)) hlen hok now hnow hat hn h0 h1 hzl hfl).mono ?_
  rintro e w' ⟨A', rfl, F', cs', v', h1, h2, h3⟩
  exact ⟨A', rfl, F', ⟨cs', v', h1⟩, Stp.aft h h2, h3⟩

theorem a_late (h : HasA w F L p s) (now : Int) (hnow : 0 ≤ now ∧ now ≤ 4611686018427380000) (h0 : 0 ≤ s.top) (h1 : s.top ≤ 4611686018427387904) (hzl : s.zs.length ≤ 2199023255552) (hfl : (frsK (s.zs.filter (lostK s.top now s.r.late))).length ≤ 2165000000000) :
    Calls Try.prog 12 #[.pointer (some ⟨p, 0, none⟩), .int .i64 now] w fun e w' => ∃ A', e = .returned (.slice A' (frsK (s.zs.filter (lostK s.top now s.r.late))).length (frsK (s.zs.filter (lostK s.top now s.r.late))).length) ∧
      ∃ F', HasA w' F' L p (lateS s now) ∧ Aft w F L w' F' ∧ FrsR w' F' (.slice A' (frsK (s.zs.filter (lostK s.top now s.r.late))).length (frsK (s.zs.filter (lostK s.top now s.r.late))).length) (frsK (s.zs.filter (lostK s.top now s.r.late))) := by
  obtain ⟨cs, v, h⟩ := h
  refine (p_late h now hnow h0 h1 hzl hfl).mono ?_
  rintro e w' ⟨A', rfl, F', cs', v', h1, h2, h3⟩
  exact ⟨A', rfl, F', ⟨cs', v', h1⟩, Stp.aft h h2, h3⟩

theorem a_probe_no (h : HasA w F L p s) (now : Int) (hnow : 0 ≤ now ∧ now ≤ 4611686018427380000) (hzl : s.zs.length ≤ 2199023255552) (hno : (oldK s.zs).2 = false ∨ now - s.r.wait < (oldK s.zs).1) :
    Calls Try.prog 13 #[.pointer (some ⟨p, 0, none⟩), .int .i64 now] w fun e w' => e = .returned (.tuple #[.slice none 0 0, .bool false]) ∧ Kp (fun _ => False) w w' := by
  obtain ⟨cs, v, h⟩ := h
  exact p_probe_no h.inn now hnow hzl hno
theorem a_probe (h : HasA w F L p s) (now : Int) (hnow : 0 ≤ now ∧ now ≤ 4611686018427380000)
    (hzl : s.zs.length ≤ 2199023255552) (hfl : (frsK s.zs).length ≤ 2165000000000) (hB : -4611686018427387904 ≤ s.r.B ∧ s.r.B ≤ 4611686018427387904) (hy1 : (oldK s.zs).2 = true) (hy2 : (oldK s.zs).1 ≤ now - s.r.wait) :
    Calls Try.prog 13 #[.pointer (some ⟨p, 0, none⟩), .int .i64 now] w fun e w' => ∃ A', e = .returned (.tuple #[.slice A' (frsK s.zs).length (frsK s.zs).length, .bool true]) ∧
      ∃ F', HasA w' F' L p (probeS s) ∧ Aft w F L w' F' ∧ FrsR w' F' (.slice A' (frsK s.zs).length (frsK s.zs).length) (frsK s.zs) := by
  obtain ⟨cs, v, h⟩ := h
  refine (p_probe h now hnow hzl hfl hB hy1 hy2).mono ?_
  rintro e w' ⟨A', rfl, F', cs', v', h1, h2, h3⟩
  exact ⟨A', rfl, F', ⟨cs', v', h1⟩, Stp.aft h h2, h3⟩
theorem a_open (h : HasA w F L p s) (hlen : s.zs.length ≤ 2199023255552) :
    Calls Try.prog 16 #[.pointer (some ⟨p, 0, none⟩)] w fun e w' => e = .returned (.bool (decide ((cntK s.zs : Int) < s.q.S))) ∧ Kp (fun _ => False) w w' := by
  obtain ⟨cs, v, h⟩ := h
  exact p_open h.inn hlen
theorem a_flight (h : HasA w F L p s) (hlen : s.zs.length ≤ 2199023255552) :
    Calls Try.prog 19 #[.pointer (some ⟨p, 4, none⟩)] w fun e w' => e = .returned (.int .i64 (cntK s.zs : Nat)) ∧ Kp (fun _ => False) w w' := by
  obtain ⟨cs, v, h⟩ := h
  exact l_flight h.inn.led hlen
theorem a_next (h : HasA w F L p s) : Calls Try.prog 18 #[.pointer (some ⟨p, 4, none⟩)] w fun e w' => e = .returned (.int .i64 s.next) ∧ w = w' := by
  obtain ⟨cs, v, h⟩ := h
  exact l_next h.inn.led
theorem a_acked (h : HasA w F L p s) (h0 : 0 ≤ s.top) (h1 : s.top ≤ 4611686018427387904) : Calls Try.prog 17 #[.pointer (some ⟨p, 4, none⟩)] w fun e w' => e = .returned (.int .i64 (s.top - 1)) ∧ w = w' := by
  obtain ⟨cs, v, h⟩ := h
  exact l_acked h.inn.led h0 h1
theorem a_round (h : HasA w F L p s) : Calls Try.prog 15 #[.pointer (some ⟨p, 0, none⟩)] w fun e w' => e = .returned (.int .i64 s.r.round) ∧ w = w' := by
  obtain ⟨cs, v, h⟩ := h
  exact round_any h.inn.isR h.inn.rI
theorem a_cells (h : HasA w F L p s) : w.cell? ⟨p, 0, none⟩ = some (.int .i64 s.r.S) ∧ w.cell? ⟨p, 3, none⟩ = some (.bool s.r.m) ∧ w.cell? ⟨p, 7, none⟩ = some (.int .i64 s.q.S) ∧ w.cell? ⟨p, 10, none⟩ = some (.int .i64 s.q.T) := by
  obtain ⟨cs, v, h⟩ := h
  exact ⟨h.inn.isR.c0, h.inn.isR.c3, h.inn.isW.c0, h.inn.isW.c3⟩
end
end Go.Proofs.Ytoiakdddghbdnaa

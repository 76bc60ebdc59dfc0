/-
  A law's queue beside memory of the law's own (the blocks L).
-/
import Derived.Test.YtelhnhnbfjamhaaQueueDrop
import Derived.Test.YtelhnhnbfjamhaaPick
namespace Go.Proofs.Ytelhnhnbfjamhaa
open Go.RowKit

abbrev It := Int × List UInt8

/-- The law's queue q, made behind all that was there in W, holds the items l; none of the blocks L is its own. -/
def QOff (W w : World) (q : Nat) (l : List It) (L : Nat → Prop) : Prop :=
  ∃ v zs, QAt w q W.heap.size v zs ∧ its zs = l ∧ Below W.heap.size W w ∧ W.heap.size ≤ q ∧ (∀ k, QFoot q v zs k → ¬ L k) ∧ (∀ k, L k → W.heap.size ≤ k ∧ k < w.heap.size)

/-- Nothing in the blocks L has turned. -/
abbrev KeptL (L : Nat → Prop) (w w' : World) : Prop := Kp (fun k => ¬ L k) w w'

section
variable {W w w' : World} {q : Nat} {l : List It} {L : Nat → Prop}

theorem QFoot.ge {B : Nat} {v : Value} {zs : List Zt} (h : QAt w q B v zs) (hq : B ≤ q) {k : Nat} (hk : QFoot q v zs k) : B ≤ k := by
  rcases hk with rfl | hk | ⟨z, hz, hk⟩
  · exact hq
  · exact (h.row.lt k hk).1
  · exact ((h.data z hz).1.2.1 k hk).1
theorem QOff.few (h : QOff W w q l L) : l.length ≤ 32 := by
  obtain ⟨v, zs, h1, rfl, _⟩ := h
  rw [its, List.length_map]; exact h1.few
theorem QOff.short (h : QOff W w q l L) : ∀ x ∈ l, x.2.length ≤ 116 := by
  obtain ⟨v, zs, h1, rfl, _⟩ := h
  intro x hx
  obtain ⟨z, hz, rfl⟩ := List.mem_map.1 hx
  exact h1.short z hz
theorem QOff.below (h : QOff W w q l L) : Below W.heap.size W w := by
  obtain ⟨v, zs, _, _, h3, _⟩ := h
  exact h3
theorem QOff.lt (h : QOff W w q l L) : q < w.heap.size := by
  obtain ⟨v, zs, h1, _⟩ := h
  exact h1.cell.lt
theorem QOff.llt (h : QOff W w q l L) : ∀ k, L k → W.heap.size ≤ k ∧ k < w.heap.size := by
  obtain ⟨v, zs, _, _, _, _, _, h6⟩ := h
  exact h6
theorem QOff.move {L' : Nat → Prop} (h : QOff W w q l L) (hk : Kp L w w') (hL : ∀ k, L' k → (L k ∨ w.heap.size ≤ k) ∧ k < w'.heap.size) : QOff W w' q l L' := by
  obtain ⟨v, zs, h1, h2, h3, h4, h5, h6⟩ := h
  refine ⟨v, zs, h1.kp hk h5, h2, h3.trans (hk.below h3.size (fun k hk => (h6 k hk).1)), h4, fun k hk' hl => ?_, fun k hl => ⟨?_, (hL k hl).2⟩⟩
  · rcases (hL k hl).1 with hl | hl
    · exact h5 k hk' hl
    · have := h1.lt hk'; omega
  · rcases (hL k hl).1 with hl | hl
    · exact (h6 k hl).1
    · have := h3.size; omega
theorem QOff.alloc (h : QOff W w q l L) (o : Obj) : QOff W (w.alloc o) q l L := h.move ((Kp.refl _ w).alloc o) (fun k hk => ⟨.inl hk, by have := (h.llt k hk).2; simp only [World.size_alloc]; omega⟩)
theorem QOff.drewN (h : QOff W w q l L) (n : Nat) : QOff W (w.drewN n) q l L := h.move ((Kp.refl _ w).drewN n) (fun k hk => ⟨.inl hk, (h.llt k hk).2⟩)
theorem QOff.sub {L' : Nat → Prop} (h : QOff W w q l L) (hL : ∀ k, L' k → L k) : QOff W w q l L' := h.move (Kp.refl _ w) (fun k hk => ⟨.inl (hL k hk), (h.llt k (hL k hk)).2⟩)
theorem QOff.same (h : QOff W w q l L) (hk : Kp (fun _ => False) w w') : QOff W w' q l L ∧ KeptL L w w' :=
  ⟨h.move hk.no (fun k hf => ⟨.inl hf, Nat.lt_of_lt_of_le (h.llt k hf).2 hk.size⟩), hk.no⟩
theorem QOff.of_below (h : QOff W w q l L) (hk : Below w.heap.size w w') : QOff W w' q l L :=
  (h.same ⟨hk.os, hk.tape, hk.output, hk.size, fun k hk' _ => hk.block k hk'⟩).1

theorem q_new (W : World) : QOff W (W.alloc (.cells #[.slice none 0 0] 51)) W.heap.size [] (fun _ => False) :=
  ⟨.slice none 0 0, [], ⟨Whole.new _ _ _, RowAt.nil _ _ _, (fun z hz => by cases hz), (fun k hk => by cases hk), by simp, (fun z hz => by cases hz)⟩, rfl, (Below.refl _ W).alloc (Nat.le_refl _) _, Nat.le_refl _, (fun k _ h => h), (fun k h => h.elim)⟩

theorem qo_len (h : QOff W w q l L) : Calls Try.prog 27 #[.pointer (some ⟨q, 0, none⟩)] w fun e w' => e = .returned (.int .i64 l.length) ∧ w = w' := by
  obtain ⟨v, zs, h1, rfl, _⟩ := h
  rw [show (its zs).length = zs.length by rw [its, List.length_map]]
  exact q_len h1

theorem qo_first_none (h : QOff W w q [] L) : Calls Try.prog 30 #[.pointer (some ⟨q, 0, none⟩)] w fun e w' => e = .returned (.tuple #[.agg #[.int .i64 0, .slice none 0 0], .bool false]) ∧ QOff W w' q [] L ∧ KeptL L w w' := by
  obtain ⟨v, zs, h1, h2, _⟩ := id h
  obtain rfl : zs = [] := List.map_eq_nil_iff.1 h2
  exact (q_first_none h1).mono fun _ _ ⟨he, hk⟩ => ⟨he, h.same hk⟩

theorem qo_first {x : It} (h : QOff W w q (x :: l) L) : Calls Try.prog 30 #[.pointer (some ⟨q, 0, none⟩)] w fun e w' => ∃ v', e = .returned (.tuple #[.agg #[.int .i64 x.1, v'], .bool true]) ∧ NewB w' w.heap.size v' x.2 ∧ QOff W w' q (x :: l) L ∧ KeptL L w w' := by
  obtain ⟨v, zs, h1, h2, _⟩ := id h
  cases zs with
  | nil => cases h2
  | cons z zs =>
    obtain ⟨rfl, rfl⟩ := List.cons.inj h2
    exact (q_first h1).mono fun _ _ ⟨v', he, hn, hk⟩ => ⟨v', he, hn, h.same hk⟩

theorem qo_pop_none (h : QOff W w q [] L) : Calls Try.prog 29 #[.pointer (some ⟨q, 0, none⟩)] w fun e w' => e = .returned (.tuple #[.agg #[.int .i64 0, .slice none 0 0], .bool false]) ∧ QOff W w' q [] L ∧ KeptL L w w' := by
  obtain ⟨v, zs, h1, h2, _⟩ := id h
  obtain rfl : zs = [] := List.map_eq_nil_iff.1 h2
  exact (q_pop_none h1).mono fun _ _ ⟨he, hk⟩ => ⟨he, h.same hk⟩

theorem off_left {S : Nat → Prop} {v v' : Value} {zs zs' : List Zt} {l' : List It} (h1 : QAt w q W.heap.size v zs) (h3 : Below W.heap.size W w) (h4 : W.heap.size ≤ q) (h5 : ∀ k, QFoot q v zs k → ¬ L k) (h6 : ∀ k, L k → W.heap.size ≤ k ∧ k < w.heap.size)
    (hq : QAt w' q W.heap.size v' zs') (hl : its zs' = l') (hk : Kp S w w') (hS : ∀ k, S k → QFoot q v zs k) (hF : ∀ k, QFoot q v' zs' k → QFoot q v zs k ∨ w.heap.size ≤ k) : QOff W w' q l' L ∧ KeptL L w w' := by
  refine ⟨⟨v', zs', hq, hl, h3.trans (hk.below h3.size (fun k hk => QFoot.ge h1 h4 (hS k hk))), h4, fun k hk' hl => ?_, fun k hl => ⟨(h6 k hl).1, Nat.lt_of_lt_of_le (h6 k hl).2 hk.size⟩⟩, hk.mono (fun k _ hs => h5 k (hS k hs))⟩
  rcases hF k hk' with h | h
  · exact h5 k h hl
  · have := (h6 k hl).2; omega

theorem qo_pop {x : It} (h : QOff W w q (x :: l) L) : Calls Try.prog 29 #[.pointer (some ⟨q, 0, none⟩)] w fun e w' => ∃ v', e = .returned (.tuple #[.agg #[.int .i64 x.1, v'], .bool true]) ∧ NewB w' w.heap.size v' x.2 ∧ QOff W w' q l L ∧ KeptL L w w' := by
  obtain ⟨v, zs, h1, h2, h3, h4, h5, h6⟩ := h
  cases zs with
  | nil => cases h2
  | cons z zs =>
    obtain ⟨rfl, rfl⟩ := List.cons.inj h2
    refine (q_pop h1).mono ?_
    rintro e w' ⟨v', vr, he, hn, hq, hv, hk⟩
    refine ⟨v', he, hn, off_left h1 h3 h4 h5 h6 hq rfl hk (fun k e => .inl e) (fun k hk' => .inl ?_)⟩
    rcases hk' with e | e | ⟨y, hy, e⟩
    · exact .inl e
    · exact .inr (.inl (hv ▸ e))
    · exact .inr (.inr ⟨y, by simp [hy], e⟩)

theorem qo_put (h : QOff W w q l L) (lv : Value) (ys : List Zt) (hl : Src w 2 lv ys.length (encs encZ ys)) (hy : ∀ y ∈ ys, Bs w y.2.1 y.2.2 ∧ y.2.2.length ≤ 140737488355328)
    (hf1 : ∀ k, lv.ownBlock = some k → L k ∨ k < W.heap.size) (hf2 : ∀ y ∈ ys, ∀ k, y.2.1.ownBlock = some k → L k ∨ k < W.heap.size) (hlen : ys.length ≤ 4398046511104) :
    Calls Try.prog 26 #[.pointer (some ⟨q, 0, none⟩), lv] w fun e w' => e = .returned (.int .i64 (accept l.length (its ys)).length) ∧ QOff W w' q (l ++ accept l.length (its ys)) L ∧ KeptL L w w' := by
  obtain ⟨v, zs, h1, rfl, h3, h4, h5, h6⟩ := h
  have hqs : ∀ k, QS q v k → QFoot q v zs k := fun k hk => by
    rcases hk with e | e
    · exact .inl e
    · exact .inr (.inl e)
  have hok : ∀ k, (L k ∨ k < W.heap.size) → ¬ QS q v k := fun k hk hs => by
    rcases hk with hk | hk
    · exact h5 k (hqs k hs) hk
    · have := QFoot.ge h1 h4 (hqs k hs); omega
  refine (q_put h1 h3.size lv ys hl hy (fun k hk => hok k (hf1 k hk)) (fun y hy' k hk => hok k (hf2 y hy' k hk)) hlen).mono ?_
  rintro e w' ⟨he, v', ns, hns, hq, hk, hnr, hfr⟩
  rw [show (its zs).length = zs.length by rw [its, List.length_map]]
  refine ⟨he, off_left h1 h3 h4 h5 h6 hq (by rw [its, List.map_append]; show its zs ++ its ns = _; rw [hns]) hk hqs (fun k hk' => ?_)⟩
  rcases hk' with e | e | ⟨y, hy', e⟩
  · exact .inl (.inl e)
  · rcases hnr with hn | hn
    · exact .inl (.inr (.inl (hn ▸ e)))
    · exact .inr (hn k e)
  · rcases List.mem_append.1 hy' with hy' | hy'
    · exact .inl (.inr (.inr ⟨y, hy', e⟩))
    · exact .inr (hfr y hy' k e)

/-- Those that a Drop leaves. -/
def keepI (ns : List Int) (l : List It) : List It := l.filter fun z => !decide (z.1 ∈ ns)
theorem keep_its (ns : List Int) (zs : List Zt) : its (keepZ ns zs) = keepI ns (its zs) := by
  induction zs with
  | nil => rfl
  | cons z zs ih =>
    simp only [keepZ, keepI, its, List.filter_cons, List.map_cons] at ih ⊢
    split <;> simp_all

theorem qo_drop (h : QOff W w q l L) (A0 : Option Addr) (c0 : Nat) (ns : List Int) (hx : Src w 1 (.slice A0 ns.length c0) ns.length (encN ns)) (hl : ns.length ≤ 4611686018427387904)
    (hf : ∀ k, A0.map (·.block) = some k → L k ∨ k < W.heap.size) :
    Calls Try.prog 28 #[.pointer (some ⟨q, 0, none⟩), .slice A0 ns.length c0] w fun e w' => e = .returned (.int .i64 ((l.length - (keepI ns l).length : Nat) : Int)) ∧ QOff W w' q (keepI ns l) L ∧ KeptL L w w' := by
  obtain ⟨v, zs, h1, rfl, h3, h4, h5, h6⟩ := h
  have hqs : ∀ k, QS q v k → QFoot q v zs k := fun k hk => by
    rcases hk with e | e
    · exact .inl e
    · exact .inr (.inl e)
  refine (q_drop h1 A0 c0 ns hx hl (fun k hk hs => ?_)).mono ?_
  · rcases hf k hk with hk' | hk'
    · exact h5 k (hqs k hs) hk'
    · have := QFoot.ge h1 h4 (hqs k hs); omega
  · rintro e w' ⟨he, v', hq, hv, hk⟩
    rw [← keep_its, show (its zs).length = zs.length by rw [its, List.length_map], show (its (keepZ ns zs)).length = (keepZ ns zs).length by rw [its, List.length_map]]
    refine ⟨he, off_left h1 h3 h4 h5 h6 hq rfl hk hqs (fun k hk' => .inl ?_)⟩
    rcases hk' with e | e | ⟨y, hy, e⟩
    · exact .inl e
    · exact .inr (.inl (hv ▸ e))
    · exact .inr (.inr ⟨y, (List.mem_filter.1 hy).1, e⟩)
end
end Go.Proofs.Ytelhnhnbfjamhaa

/-
  What a call may have turned: the blocks of a set; rows of elements that are laid out by 'enc'; a row behind a struct's field.
-/
import Derived.Test.YtbkpapdbidbhaaaRow
namespace Go.Proofs.Ytbkpapdbidbhaaa
open Go.RowKit

/-- w' is w, but for new blocks, draws, and what lies in the blocks S. -/
structure Kp (S : Nat → Prop) (w w' : World) : Prop where
  os : w'.os = w.os
  tape : w'.tape = w.tape
  output : w'.output = w.output
  size : w.heap.size ≤ w'.heap.size
  block : ∀ k, k < w.heap.size → ¬ S k → w'.heap[k]? = w.heap[k]?

section
variable {S S' : Nat → Prop} {w w' w'' : World}
theorem Kp.refl (S : Nat → Prop) (w : World) : Kp S w w := ⟨rfl, rfl, rfl, Nat.le_refl _, fun _ _ _ => rfl⟩
theorem Kp.mono (h : Kp S w w') (hs : ∀ k, k < w.heap.size → S k → S' k) : Kp S' w w' := ⟨h.os, h.tape, h.output, h.size, fun k hk hn => h.block k hk (fun x => hn (hs k hk x))⟩
theorem Kp.trans (h : Kp S w w') (k : Kp S w' w'') : Kp S w w'' :=
  ⟨k.os.trans h.os, k.tape.trans h.tape, k.output.trans h.output, Nat.le_trans h.size k.size, fun i hi hn => (k.block i (Nat.lt_of_lt_of_le hi h.size) hn).trans (h.block i hi hn)⟩
theorem Kp.drewN (h : Kp S w w') (n : Nat) : Kp S w (w'.drewN n) := ⟨h.os, h.tape, h.output, h.size, h.block⟩
theorem Kp.drew (h : Kp S w w') : Kp S w w'.drew := ⟨h.os, h.tape, h.output, h.size, h.block⟩
theorem Kp.alloc (h : Kp S w w') (o : Obj) : Kp S w (w'.alloc o) :=
  ⟨h.os, h.tape, h.output, by have := h.size; simp only [World.size_alloc]; omega, fun k hk hn => (Below.heap_alloc _ _ _ (by have := h.size; omega)).trans (h.block k hk hn)⟩
theorem Kp.set (h : Kp S w w') {p : Addr} (hp : S p.block ∨ w.heap.size ≤ p.block) (v : Value) : Kp S w (w'.setCell p v) := by
  refine ⟨h.os, h.tape, h.output, by simpa using h.size, fun k hk hn => ?_⟩
  rw [Below.heap_setCell _ _ _ _ (fun e => by
    rcases hp with hp | hp
    · exact hn (by rw [e]; exact hp)
    · omega)]
  exact h.block k hk hn
theorem Kp.grown {r : Option Nat} (h : Kp S w w') (k : w'.grownBy w'' r) (hr : ∀ i, r = some i → i < w.heap.size → S i) : Kp S w w'' :=
  ⟨k.os.trans h.os, k.tape.trans h.tape, k.output.trans h.output, Nat.le_trans h.size k.size,
    fun i hi hn => (k.block i (Nat.lt_of_lt_of_le hi h.size) (fun e => hn (hr i e.symm hi))).trans (h.block i hi hn)⟩
theorem Kp.of_grown {r : Option Nat} (k : w.grownBy w' r) (hr : ∀ i, r = some i → i < w.heap.size → S i) : Kp S w w' := (Kp.refl S w).grown k hr
theorem Kp.whole {g : Nat} {t : TypeId} {cs : Array Value} (h : Kp S w w') (hw : Whole w g t cs) (hg : ¬ S g) : Whole w' g t cs := (h.block g hw.lt hg).trans hw
theorem Kp.own {b : Nat} {e : TypeId} {size : Nat} {v : Value} {n : Nat} {xs : List Value} (h : Kp S w w') (hw : w.ownsRow b e size v n xs) (hg : ∀ k, v.ownBlock = some k → ¬ S k) : w'.ownsRow b e size v n xs := by
  refine ⟨hw.1, ?_⟩
  rcases id hw.2 with hn | ⟨g, cap, cur, rfl, hb, hgg, rest⟩
  · exact .inl hn
  · exact .inr ⟨g, cap, cur, rfl, hb, (h.block g (Array.getElem?_eq_some_iff.1 hgg).1 (hg g rfl)).trans hgg, rest⟩
theorem Kp.below {B : Nat} (h : Kp S w w') (hB : B ≤ w.heap.size) (hS : ∀ k, S k → B ≤ k) : Below B w w' :=
  ⟨h.os, h.tape, h.output, h.size, fun k hk => h.block k (by omega) (fun x => by have := hS k x; omega)⟩
theorem Kp.cell {p : Addr} (h : Kp S w w') (hp : p.block < w.heap.size) (hn : ¬ S p.block) : w'.cell? p = w.cell? p := World.cell?_of_block (h.block _ hp hn)
theorem Kp.src {sz : Nat} {v : Value} {m : Nat} {xs : List Value} (h : Kp S w w') (hx : Src w sz v m xs) (hn : ∀ k, v.ownBlock = some k → ¬ S k) : Src w' sz v m xs := by
  obtain ⟨hl, h1, h2⟩ := hx
  refine ⟨hl, h1, ?_⟩
  rcases h2 with h2 | ⟨a, c, rfl, hc⟩
  · exact .inl h2
  · refine .inr ⟨a, c, rfl, fun j u hj => ?_⟩
    have hcj := hc j u hj
    have hb : (a.add j).block = a.block := by unfold Addr.add; split <;> rfl
    rw [h.cell (by have := World.block_lt_of_cell? w _ hcj; exact this) (by rw [hb]; exact hn a.block rfl)]
    exact hcj
end

/-- Two rows in unlike blocks. -/
def Apart (v v' : Value) : Prop := ∀ k, v.ownBlock = some k → v'.ownBlock ≠ some k
theorem Apart.symm {v v' : Value} (h : Apart v v') : Apart v' v := fun k h1 h2 => h k h2 h1
theorem Apart.near {w : World} {v v' u : Value} (h : Apart v u) (hn : Near w v v') (hu : ∀ k, u.ownBlock = some k → k < w.heap.size) : Apart v' u := by
  intro k hk hk'
  rcases hn with hn | hn
  · exact h k (hn ▸ hk) hk'
  · have := hn k hk; have := hu k hk'; omega

/-! Elements laid out cell by cell. -/
def encs {α : Type} (enc : α → List Value) (l : List α) : List Value := l.flatMap enc
section
variable {α : Type} {enc : α → List Value} {sz : Nat}
theorem encs_len (hk : ∀ x, (enc x).length = sz) (l : List α) : (encs enc l).length = l.length * sz := by
  induction l with
  | nil => simp [encs]
  | cons a l ih => simp only [encs, List.flatMap_cons, List.length_append, hk, List.length_cons] at ih ⊢; rw [ih, Nat.add_mul]; omega
theorem encs_append (l m : List α) : encs enc (l ++ m) = encs enc l ++ encs enc m := by simp [encs]
theorem encs_take (hk : ∀ x, (enc x).length = sz) (l : List α) (i : Nat) : (encs enc l).take (i * sz) = encs enc (l.take i) := by
  induction l generalizing i with
  | nil => simp [encs]
  | cons a l ih =>
    cases i with
    | zero => simp [encs]
    | succ i =>
      have : (encs enc (a :: l)) = enc a ++ encs enc l := rfl
      rw [this, Nat.add_mul, Nat.one_mul, Nat.add_comm, List.take_append, hk, List.take_of_length_le (by rw [hk]; omega), show sz + i * sz - sz = i * sz by omega, ih]
      rfl
theorem encs_drop (hk : ∀ x, (enc x).length = sz) (l : List α) (i : Nat) : (encs enc l).drop (i * sz) = encs enc (l.drop i) := by
  induction l generalizing i with
  | nil => simp [encs]
  | cons a l ih =>
    cases i with
    | zero => simp [encs]
    | succ i =>
      have : (encs enc (a :: l)) = enc a ++ encs enc l := rfl
      rw [this, Nat.add_mul, Nat.one_mul, Nat.add_comm, List.drop_append, hk, List.drop_of_length_le (by rw [hk]; omega), show sz + i * sz - sz = i * sz by omega, ih]
      rfl
theorem encs_get (hk : ∀ x, (enc x).length = sz) (l : List α) (i j : Nat) (x : α) (hx : l[i]? = some x) (hj : j < sz) : (encs enc l)[i * sz + j]? = (enc x)[j]? := by
  induction l generalizing i with
  | nil => simp at hx
  | cons a l ih =>
    have : (encs enc (a :: l)) = enc a ++ encs enc l := rfl
    rw [this]
    cases i with
    | zero =>
      simp only [List.getElem?_cons_zero, Option.some.injEq] at hx
      subst hx
      rw [Nat.zero_mul, Nat.zero_add, List.getElem?_append_left (by rw [hk]; exact hj)]
    | succ i =>
      rw [List.getElem?_append_right (by rw [hk, Nat.add_mul]; omega), hk, show (i + 1) * sz + j - sz = i * sz + j by rw [Nat.add_mul]; omega]
      exact ih i (by simpa using hx)
theorem encs_one {l : List α} (h : ∀ x ∈ l, ∀ u ∈ enc x, u.oneCell' = true) : ∀ u ∈ encs enc l, u.oneCell' = true := by
  intro u hu
  obtain ⟨x, hx, hux⟩ := List.mem_flatMap.1 hu
  exact h x hx u hux
end
end Go.Proofs.Ytbkpapdbidbhaaa

/-
  Small words and laws on memory that the walks of this seat share: blocks that are known whole, worlds that are grown by new blocks alone.
-/
import Derived.Test.YtbkpapdbidbhaaaRows
import Derived.WalkKit
import Derived.WalkSpells
import Derived.WalkLawsBesides
import Derived.BigQuiet
import Derived.Deep.QuietTactic
import Derived.Deep.RegionHeld3
import Derived.Deep.DeepCutAuto
import Derived.Deep.DrawnRows
import Derived.Deep.DeepFit
import Derived.Lib.Hide
namespace Go.Proofs.Ytbkpapdbidbhaaa
open Go.RowKit

/-- Block g is known whole: its cells, none of them frozen. -/
def Whole (w : World) (g : Nat) (t : TypeId) (cs : Array Value) : Prop := w.heap[g]? = some (.cells cs t (0, 0))

section
variable {w w' : World} {g : Nat} {t : TypeId} {cs : Array Value}
theorem Whole.lt (h : Whole w g t cs) : g < w.heap.size := by
  rcases Nat.lt_or_ge g w.heap.size with hlt | hge
  · exact hlt
  · unfold Whole at h; rw [Array.getElem?_eq_none hge] at h; cases h
theorem Whole.cell (h : Whole w g t cs) (i : Nat) : w.cell? ⟨g, i, none⟩ = cs[i]? := by
  unfold Whole at h; simp [World.cell?, h]
theorem Whole.frozen (h : Whole w g t cs) (i : Nat) : w.frozen? ⟨g, i, none⟩ = false := by
  unfold Whole at h; simp [World.frozen?, h]
theorem Whole.new (w : World) (t : TypeId) (cs : Array Value) : Whole (w.alloc (.cells cs t)) w.heap.size t cs := by
  exact heap_alloc_new w _
theorem Whole.drew (h : Whole w g t cs) : Whole w.drew g t cs := h
theorem Whole.drewN (h : Whole w g t cs) (n : Nat) : Whole (w.drewN n) g t cs := h
theorem Whole.alloc (h : Whole w g t cs) (o : Obj) : Whole (w.alloc o) g t cs := (Below.heap_alloc w o g h.lt).trans h
theorem Whole.set (h : Whole w g t cs) (i : Nat) (u : Value) : Whole (w.setCell ⟨g, i, none⟩ u) g t (cs.setIfInBounds i u) := by
  unfold Whole at h ⊢
  simp [World.setCell, Array.getElem?_modify, h]
theorem Whole.far (h : Whole w g t cs) {p : Addr} (hp : g ≠ p.block) (u : Value) : Whole (w.setCell p u) g t cs := (Below.heap_setCell w p u g hp).trans h
theorem Whole.below {B : Nat} (h : Whole w g t cs) (hb : Below B w w') (hg : g < B) : Whole w' g t cs := (hb.block g hg).trans h
theorem Whole.grown {row : Option Nat} (h : Whole w g t cs) (hb : w.grownBy w' row) (hg : some g ≠ row) : Whole w' g t cs := (hb.block g h.lt hg).trans h
end

/-- A store of what is there already. -/
theorem setCell_id {w : World} {p : Addr} {v : Value} (h : w.cell? p = some v) (hs : p.spot = none) : w.setCell p v = w := by
  have hh : w.heap.modify p.block (fun x => match x with
      | .cells c elem frozen => .cells (if p.spot.isSome then c else c.setIfInBounds p.off v) elem frozen
      | o => o) = w.heap := by
    apply Array.ext_getElem?
    intro i
    rw [Array.getElem?_modify]
    split
    · rename_i hi
      subst hi
      unfold World.cell? at h
      cases ho : w.heap[p.block]? with
      | none => simp
      | some o =>
        rw [ho] at h
        cases o with
        | cells c e f =>
          simp only [hs, Option.isSome_none, Bool.false_eq_true, if_false] at h
          simp only [Option.map_some, hs, Option.isSome_none, Bool.false_eq_true, if_false]
          congr 2
          apply Array.ext_getElem?
          intro j
          rw [Array.getElem?_setIfInBounds]
          split
          · rename_i hj; subst hj
            split
            · exact h.symm
            · rename_i hx; rw [Array.getElem?_eq_none (by omega)]
          · rfl
        | _ => simp at h
    · rfl
  unfold World.setCell
  exact congrArg (fun x => { w with heap := x }) hh

theorem setCell_set (w : World) (b o : Nat) (u v : Value) : (w.setCell ⟨b, o, none⟩ u).setCell ⟨b, o, none⟩ v = w.setCell ⟨b, o, none⟩ v := by
  unfold World.setCell
  refine congrArg (fun x => ({ w with heap := x } : World)) ?_
  apply Array.ext_getElem?
  intro i
  simp only [Array.getElem?_modify]
  split
  · cases w.heap[i]? with
    | none => rfl
    | some x => cases x <;> simp [Array.setIfInBounds_setIfInBounds]
  · rfl

theorem setCell_comm (w : World) (b o p : Nat) (u v : Value) (h : o ≠ p) : (w.setCell ⟨b, o, none⟩ u).setCell ⟨b, p, none⟩ v = (w.setCell ⟨b, p, none⟩ v).setCell ⟨b, o, none⟩ u := by
  unfold World.setCell
  refine congrArg (fun x => ({ w with heap := x } : World)) ?_
  apply Array.ext_getElem?
  intro i
  simp only [Array.getElem?_modify]
  split
  · cases w.heap[i]? with
    | none => rfl
    | some x => cases x <;> simp [Array.setIfInBounds_comm _ _ h]
  · rfl

/-- A chain of stores into one block, brought into the order of its places ('simp (disch := omega) only [setCell_sort, setCell_set]'). -/
theorem setCell_sort (w : World) (b o p : Nat) (u v : Value) (h : p < o) : (w.setCell ⟨b, o, none⟩ u).setCell ⟨b, p, none⟩ v = (w.setCell ⟨b, p, none⟩ v).setCell ⟨b, o, none⟩ u :=
  setCell_comm w b o p u v (by omega)

theorem setCell_drewN (w : World) (a : Addr) (v : Value) (n : Nat) : (w.drewN n).setCell a v = (w.setCell a v).drewN n := rfl
theorem alloc_drewN (w : World) (o : Obj) (n : Nat) : (w.drewN n).alloc o = (w.alloc o).drewN n := rfl
attribute [go_sem] setCell_drewN alloc_drewN

/-- An old block's number, as a walk asks for it behind new blocks. -/
theorem le_steps {g n : Nat} (h : g < n) : g < n + 1 ∧ g < n + 1 + 1 ∧ g < n + 1 + 1 + 1 ∧ g < n + 1 + 1 + 1 + 1 ∧ g < n + 1 + 1 + 1 + 1 + 1 ∧ g < n + 1 + 1 + 1 + 1 + 1 + 1 := by omega

/-- w' is w, but for draws. -/
def Dr (w' w : World) : Prop := ∃ n, w' = w.drewN n
theorem Dr.refl (w : World) : Dr w w := ⟨0, rfl⟩
theorem Dr.below {B : Nat} {a w w' : World} (h : Dr w' w) (hb : Below B a w) : Below B a w' := by
  obtain ⟨n, rfl⟩ := h
  exact ⟨hb.os, hb.tape, hb.output, hb.size, hb.block⟩
theorem Dr.whole {w w' : World} {g : Nat} {t : TypeId} {cs : Array Value} (h : Dr w' w) (hb : Whole w g t cs) : Whole w' g t cs := by
  obtain ⟨n, rfl⟩ := h
  exact hb

theorem kept_drewN {w w' : World} {r : Option Nat} (h : w.grownBy w' r) (n : Nat) : w.grownBy (w'.drewN n) r := ⟨h.os, h.tape, h.output, h.size, h.block⟩
theorem kept_drew {w w' : World} {r : Option Nat} (h : w.grownBy w' r) : w.grownBy w'.drew r := ⟨h.os, h.tape, h.output, h.size, h.block⟩
theorem kept_refl (w : World) (r : Option Nat) : w.grownBy w r := ⟨rfl, rfl, rfl, Nat.le_refl _, fun _ _ _ => rfl⟩
theorem kept_set {w w' : World} {b : Nat} (h : w.grownBy w' (some b)) (i : Nat) (v : Value) : w.grownBy (w'.setCell ⟨b, i, none⟩ v) (some b) := by
  refine ⟨h.os, h.tape, h.output, by simpa using h.size, fun k hk hne => ?_⟩
  rw [Below.heap_setCell _ _ _ _ (fun e => hne (by rw [e]))]
  exact h.block k hk hne
theorem kept_alloc {w w' : World} {r : Option Nat} (h : w.grownBy w' r) (o : Obj) : w.grownBy (w'.alloc o) r :=
  ⟨h.os, h.tape, h.output, by have := h.size; simp only [World.size_alloc]; omega, fun k hk hne => (Below.heap_alloc _ _ _ (by have := h.size; omega)).trans (h.block k hk hne)⟩
theorem kept_trans {w w' w'' : World} {r : Option Nat} (h : w.grownBy w' r) (k : w'.grownBy w'' r) : w.grownBy w'' r :=
  ⟨k.os.trans h.os, k.tape.trans h.tape, k.output.trans h.output, Nat.le_trans h.size k.size, fun i hi hne => (k.block i (Nat.lt_of_lt_of_le hi h.size) hne).trans (h.block i hi hne)⟩
theorem kept_below {w w' : World} {b : Nat} (h : w.grownBy w' (some b)) {B : Nat} (hB : B ≤ w.heap.size) (hb : B ≤ b) : Below B w w' :=
  ⟨h.os, h.tape, h.output, h.size, fun k hk => h.block k (by omega) (fun e => by have := Option.some.inj e; omega)⟩
theorem below_kept {B : Nat} {a w w' : World} {b : Nat} (h : Below B a w) (k : w.grownBy w' (some b)) (hB : B ≤ w.heap.size) (hb : B ≤ b) : Below B a w' := h.trans (kept_below k hB hb)
theorem none_kept {w w' : World} (h : w.grownBy w' none) (r : Option Nat) : w.grownBy w' r := ⟨h.os, h.tape, h.output, h.size, fun k hk _ => h.block k hk (by simp)⟩
theorem below_none {w w' : World} (h : Below w.heap.size w w') (r : Option Nat) : w.grownBy w' r := ⟨h.os, h.tape, h.output, h.size, fun k hk _ => h.block k hk⟩
theorem cell_kept {w w' : World} {r : Option Nat} (h : w.grownBy w' r) {p : Addr} (hp : p.block < w.heap.size) (hne : some p.block ≠ r) : w'.cell? p = w.cell? p := World.cell?_of_block (h.block _ hp hne)
theorem frozen_kept {w w' : World} {r : Option Nat} (h : w.grownBy w' r) {p : Addr} (hp : p.block < w.heap.size) (hne : some p.block ≠ r) : w'.frozen? p = w.frozen? p := World.frozen?_of_block (h.block _ hp hne)

theorem set_same {cs : Array Value} {i : Nat} {v : Value} (h : cs[i]? = some v) : cs.setIfInBounds i v = cs := by
  apply Array.ext_getElem?
  intro j
  rw [Array.getElem?_setIfInBounds]
  split
  · rename_i hj; subst hj
    split
    · exact h.symm
    · rename_i hx; rw [Array.getElem?_eq_none (by omega)] at h; cases h
  · rfl

/-- What a call has left: its result v, block b whole with the cells cs; of what was there nothing else has turned. -/
def LeftB (v : Value) (w : World) (b : Nat) (t : TypeId) (cs : Array Value) (e : Ending) (w' : World) : Prop :=
  e = .returned v ∧ Whole w' b t cs ∧ w.grownBy w' (some b)

/-- What a call has left: its result v, one cell written, draws. -/
def LeftX (v : Value) (w : World) (b i : Nat) (u : Value) (e : Ending) (w' : World) : Prop :=
  e = .returned v ∧ ∃ d, w' = (w.setCell ⟨b, i, none⟩ u).drewN d
theorem LeftX.left {v : Value} {w : World} {b i : Nat} {u : Value} {e : Ending} {w' : World} {t : TypeId} {cs : Array Value} (hw : Whole w b t cs) (h : LeftX v w b i u e w') : LeftB v w b t (cs.setIfInBounds i u) e w' := by
  obtain ⟨he, d, rfl⟩ := h
  exact ⟨he, (hw.set _ _).drewN _, kept_drewN (kept_set (kept_refl _ _) _ _) _⟩
theorem LeftX.same {v : Value} {w : World} {b i : Nat} {u : Value} (h : w.cell? ⟨b, i, none⟩ = some u) (d : Nat) : LeftX v w b i u (.returned v) (w.drewN d) :=
  ⟨rfl, d, by rw [setCell_id h rfl]⟩

theorem whole_at {w w' : World} {g : Nat} (t : TypeId) (cs : Array Value) (he : w' = w.alloc (.cells cs t)) (h : g = w.heap.size) : Whole w' g t cs := by
  subst h he
  exact Whole.new _ _ _

theorem Below.drewN' {B : Nat} {a w : World} (h : Below B a w) (n : Nat) : Below B a (w.drewN n) := ⟨h.os, h.tape, h.output, h.size, h.block⟩

end Go.Proofs.Ytbkpapdbidbhaaa

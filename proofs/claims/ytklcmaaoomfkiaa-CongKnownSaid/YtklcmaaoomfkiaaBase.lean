/-
  Small words and laws on memory that the walks of this seat share: blocks that are known whole, worlds that are grown by new blocks alone.
-/
import Derived.Test.YtklcmaaoomfkiaaRows
import Derived.WalkKit
import Derived.WalkSpells
import Derived.WalkLawsBesides
import Derived.BigQuiet
import Derived.Deep.QuietTactic
import Derived.Deep.RegionHeld3
import Derived.Deep.DeepCutAuto
import Derived.Deep.DrawnRows
import Derived.Deep.DeepFit
import Derived.Lib.Hide
namespace Go.Proofs.Ytklcmaaoomfkiaa
open Go.RowKit

/-- Block g is known whole: its cells, none of them frozen. -/
def Whole (w : World) (g : Nat) (t : TypeId) (cs : Array Value) : Prop := w.heap[g]? = some (.cells cs t (0, 0))

section
variable {w w' : World} {g : Nat} {t : TypeId} {cs : Array Value}
theorem Whole.lt (h : Whole w g t cs) : g < w.heap.size := by
  rcases Nat.lt_or_ge g w.heap.size with hlt | hge
  · exact hlt
  · unfold Whole at h; rw [Array.getElem?_eq_none hge] at h; cases h
theorem Whole.cell (h : Whole w g t cs) (i : Nat) : w.cell? ⟨g, i, none⟩ = cs[i]? := by
  unfold Whole at h; simp [World.cell?, h]
theorem Whole.frozen (h : Whole w g t cs) (i : Nat) : w.frozen? ⟨g, i, none⟩ = false := by
  unfold Whole at h; simp [World.frozen?, h]
theorem Whole.new (w : World) (t : TypeId) (cs : Array Value) : Whole (w.alloc (.cells cs t)) w.heap.size t cs := by
  exact heap_alloc_new w _
theorem Whole.drew (h : Whole w g t cs) : Whole w.drew g t cs := h
theorem Whole.drewN (h : Whole w g t cs) (n : Nat) : Whole (w.drewN n) g t cs := h
theorem Whole.alloc (h : Whole w g t cs) (o : Obj) : Whole (w.alloc o) g t cs := (Below.heap_alloc w o g h.lt).trans h
theorem Whole.set (h : Whole w g t cs) (i : Nat) (u : Value) : Whole (w.setCell ⟨g, i, none⟩ u) g t (cs.setIfInBounds i u) := by
  unfold Whole at h ⊢
  simp [World.setCell, Array.getElem?_modify, h]
theorem Whole.far (h : Whole w g t cs) {p : Addr} (hp : g ≠ p.block) (u : Value) : Whole (w.setCell p u) g t cs := (Below.heap_setCell w p u g hp).trans h
theorem Whole.below {B : Nat} (h : Whole w g t cs) (hb : Below B w w') (hg : g < B) : Whole w' g t cs := (hb.block g hg).trans h
theorem Whole.grown {row : Option Nat} (h : Whole w g t cs) (hb : w.grownBy w' row) (hg : some g ≠ row) : Whole w' g t cs := (hb.block g h.lt hg).trans h
end

/-- A store of what is there already. -/
theorem setCell_id {w : World} {p : Addr} {v : Value} (h : w.cell? p = some v) (hs : p.spot = none) : w.setCell p v = w := by
  have hh : w.heap.modify p.block (fun x => match x with
      | .cells c elem frozen => .cells (if p.spot.isSome then c else c.setIfInBounds p.off v) elem frozen
      | o => o) = w.heap := by
    apply Array.ext_getElem?
    intro i
    rw [Array.getElem?_modify]
    split
    · rename_i hi
      subst hi
      unfold World.cell? at h
      cases ho : w.heap[p.block]? with
      | none => simp
      | some o =>
        rw [ho] at h
        cases o with
        | cells c e f =>
          simp only [hs, Option.isSome_none, Bool.false_eq_true, if_false] at h
          simp only [Option.map_some, hs, Option.isSome_none, Bool.false_eq_true, if_false]
          congr 2
          apply Array.ext_getElem?
          intro j
          rw [Array.getElem?_setIfInBounds]
          split
          · rename_i hj; subst hj
            split
            · exact h.symm
            · rename_i hx; rw [Array.getElem?_eq_none (by omega)]
          · rfl
        | _ => simp at h
    · rfl
  unfold World.setCell
  exact congrArg (fun x => { w with heap := x }) hh

theorem setCell_set (w : World) (b o : Nat) (u v : Value) : (w.setCell ⟨b, o, none⟩ u).setCell ⟨b, o, none⟩ v = w.setCell ⟨b, o, none⟩ v := by
  unfold World.setCell
  refine congrArg (fun x => ({ w with heap := x } : World)) ?_
  apply Array.ext_getElem?
  intro i
  simp only [Array.getElem?_modify]
  split
  · cases w.heap[i]? with
    | none => rfl
    | some x => cases x <;> simp [Array.setIfInBounds_setIfInBounds]
  · rfl

theorem setCell_comm (w : World) (b o p : Nat) (u v : Value) (h : o ≠ p) : (w.setCell ⟨b, o, none⟩ u).setCell ⟨b, p, none⟩ v = (w.setCell ⟨b, p, none⟩ v).setCell ⟨b, o, none⟩ u := by
  unfold World.setCell
  refine congrArg (fun x => ({ w with heap := x } : World)) ?_
  apply Array.ext_getElem?
  intro i
  simp only [Array.getElem?_modify]
  split
  · cases w.heap[i]? with
    | none => rfl
    | some x => cases x <;> simp [Array.setIfInBounds_comm _ _ h]
  · rfl

/-- A chain of stores into one block, brought into the order of its places ('simp (disch := omega) only [setCell_sort, setCell_set]'). -/
theorem setCell_sort (w : World) (b o p : Nat) (u v : Value) (h : p < o) : (w.setCell ⟨b, o, none⟩ u).setCell ⟨b, p, none⟩ v = (w.setCell ⟨b, p, none⟩ v).setCell ⟨b, o, none⟩ u :=
  setCell_comm w b o p u v (by omega)

theorem setCell_drewN (w : World) (a : Addr) (v : Value) (n : Nat) : (w.drewN n).setCell a v = (w.setCell a v).drewN n := rfl
theorem alloc_drewN (w : World) (o : Obj) (n : Nat) : (w.drewN n).alloc o = (w.alloc o).drewN n := rfl
attribute [go_sem] setCell_drewN alloc_drewN

/-- w' is w, but for draws. -/
def Dr (w' w : World) : Prop := ∃ n, w' = w.drewN n
theorem Dr.refl (w : World) : Dr w w := ⟨0, rfl⟩
theorem Dr.below {B : Nat} {a w w' : World} (h : Dr w' w) (hb : Below B a w) : Below B a w' := by
  obtain ⟨n, rfl⟩ := h
  exact ⟨hb.os, hb.tape, hb.output, hb.size, hb.block⟩
theorem Dr.whole {w w' : World} {g : Nat} {t : TypeId} {cs : Array Value} (h : Dr w' w) (hb : Whole w g t cs) : Whole w' g t cs := by
  obtain ⟨n, rfl⟩ := h
  exact hb

theorem Below.drewN' {B : Nat} {a w : World} (h : Below B a w) (n : Nat) : Below B a (w.drewN n) := ⟨h.os, h.tape, h.output, h.size, h.block⟩

end Go.Proofs.Ytklcmaaoomfkiaa

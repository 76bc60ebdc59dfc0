/-
  A row of bools.
-/
import Derived.Test.YtbkpapdbidbhaaaBytes
namespace Go.Proofs.Ytbkpapdbidbhaaa
open Go.RowKit

def boolA (bs : List Bool) : Array Value := (bs.map Value.bool).toArray
theorem boolA_get (bs : List Bool) (i : Nat) : (boolA bs)[i]? = (bs[i]?).map Value.bool := by simp [boolA]
theorem boolA_set (bs : List Bool) (i : Nat) (x : Bool) : (boolA bs).setIfInBounds i (.bool x) = boolA (bs.set i x) := by
  unfold boolA
  rw [List.map_set]
  simp
theorem infoBo : (Try.prog.info? 4).map (fun i => (i.zero, i.size, i.bytes)) = some (some (.bool false), 1, 1) := by kernel_rfl
theorem made_bo (n : Nat) : madeCells (Value.bool false).cells n = boolA (List.replicate n false) := by
  apply Array.ext_getElem?
  intro i
  simp only [madeCells, boolA, List.getElem?_toArray, List.getElem?_map, Array.getElem?_map]
  by_cases hi : i < n
  · simp [hi, Value.cells, Nat.mod_one]
  · simp [hi]
theorem make_bo (n : Nat) (hn : n ≤ 1000) (w : World) : (Instr.makeSlice 28 (.int .i64 (n : Int)) (.int .i64 (n : Int))).run Try.prog w = .ok (.slice (some ⟨w.heap.size, 0, none⟩) n n) (w.alloc (.cells (boolA (List.replicate n false)) 4)) := by
  obtain ⟨i0, hi, hz0, hz1, hz2⟩ := info_parts infoBo
  have hr := run_make (P := Try.prog) w 28 4 i0 _ Try.underlying28 hi hz0 .i64 .i64 n n (by omega) (by omega) (by rw [hz2]; omega) (by omega)
  rw [hz1] at hr
  simp only [Int.toNat_natCast, Nat.mul_one, made_bo] at hr
  exact hr
end Go.Proofs.Ytbkpapdbidbhaaa

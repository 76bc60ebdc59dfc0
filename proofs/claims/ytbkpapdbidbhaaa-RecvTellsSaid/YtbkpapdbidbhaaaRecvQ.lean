/-
  RecvRefuses: Put and Break of a stream that was put whole, refused or not.
-/
import Derived.Test.YtbkpapdbidbhaaaRecvP
namespace Go.Proofs.Ytbkpapdbidbhaaa
open Go.RowKit

theorem src_pre {w : World} {A : Option Addr} {n c : Nat} {d : List UInt8} (h : Src w 1 (.slice A n c) n (encB d)) (i : Nat) (hi : i ≤ n) : Src w 1 (.slice A i c) i (encB (d.take i)) := by
  have hl := h.1
  rw [encB_len, Nat.mul_one] at hl
  obtain ⟨_, _, ⟨hv, h0⟩ | ⟨a, c', hv, hc⟩⟩ := h
  · cases hv
    have : i = 0 := by omega
    subst this
    exact ⟨by simp [encB], encB_one _, .inl ⟨rfl, rfl⟩⟩
  · cases hv
    refine ⟨by rw [encB_len, List.length_take]; omega, encB_one _, .inr ⟨a, c, rfl, fun j u hj => hc j u ?_⟩⟩
    unfold encB at hj ⊢
    rw [List.map_take, List.getElem?_take] at hj
    split at hj
    · exact hj
    · cases hj
theorem made_by (n : Nat) : madeCells (Value.int .u8 0).cells n = (encB (zeros n)).toArray := by
  apply Array.ext_getElem?
  intro i
  simp only [madeCells, encB, zeros, List.getElem?_toArray, List.getElem?_map, Array.getElem?_map]
  by_cases hi : i < n
  · simp [hi, Value.cells, Nat.mod_one]
  · simp [hi]
theorem make_by (n : Nat) (hn : n ≤ 100000) (w : World) : (Instr.makeSlice 22 (.int .i64 (n : Int)) (.int .i64 (n : Int))).run Try.prog w = .ok (.slice (some ⟨w.heap.size, 0, none⟩) n n) (w.alloc (.cells (encB (zeros n)).toArray 5)) := by
  obtain ⟨i0, hi, hz0, hz1, hz2⟩ := info_parts infoB
  have hr := run_make (P := Try.prog) w 22 5 i0 _ Try.underlying22 hi hz0 .i64 .i64 n n (by omega) (by omega) (by rw [hz2]; omega) (by omega)
  rw [hz1] at hr
  simp only [Int.toNat_natCast, Nat.mul_one, made_by] at hr
  exact hr
end Go.Proofs.Ytbkpapdbidbhaaa

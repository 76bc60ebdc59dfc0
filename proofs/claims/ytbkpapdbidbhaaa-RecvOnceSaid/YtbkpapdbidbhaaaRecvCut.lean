/-
  Parts of a row of bytes: its first ones, some of its middle.
-/
import Derived.Test.YtbkpapdbidbhaaaRecvQ
namespace Go.Proofs.Ytbkpapdbidbhaaa
open Go.RowKit

theorem add_block (x : Addr) (a : Nat) : (x.add a).block = x.block := by unfold Addr.add; split <;> rfl
theorem src_cut0 {w : World} {B n cv a m : Nat} {Av : Option Addr} {al : List UInt8} (h : RowAt w B 1 (.slice Av n cv) n (encB al)) (hm : m = 0) : Src w 1 (.slice Av m 0) m (encB ((al.drop a).take m)) := by
  subst hm
  rw [List.take_zero]
  refine ⟨rfl, encB_one _, ?_⟩
  cases Av with
  | none => exact .inl ⟨rfl, rfl⟩
  | some x => exact .inr ⟨x, 0, rfl, fun j u hj => by simp [encB] at hj⟩
theorem src_cut {w : World} {B n cv a m : Nat} {Av : Option Addr} {al : List UInt8} (h : RowAt w B 1 (.slice Av n cv) n (encB al)) (ham : a + m ≤ n) (hca : ¬ cv = a) : Src w 1 (.slice (Av.map (fun x => x.add a)) m (cv - a)) m (encB ((al.drop a).take m)) := by
  have hl := h.1
  rw [encB_len, Nat.mul_one] at hl
  rcases h.2 with ⟨hv, h0⟩ | ⟨g, off, cap, hv, _, _, _, _, _, _, h7⟩
  · cases hv; omega
  · cases hv
    refine ⟨by rw [encB_len, List.length_take, List.length_drop]; omega, encB_one _, .inr ⟨⟨g, off + a, none⟩, cv - a, by simp [Addr.add_lit], fun j u hj => ?_⟩⟩
    rw [Addr.add_lit, Nat.add_assoc]
    refine h7 (a + j) u ?_
    unfold encB at hj ⊢
    rw [List.map_take, List.map_drop, List.getElem?_take] at hj
    split at hj
    · rw [List.getElem?_drop] at hj
      exact hj
    · cases hj
theorem row_pre {w : World} {B : Nat} {A : Option Addr} {n c : Nat} {d : List UInt8} (h : RowAt w B 1 (.slice A n c) n (encB d)) (i : Nat) (hi : i ≤ n) : RowAt w B 1 (.slice A i c) i (encB (d.take i)) := by
  have hl := h.1
  rw [encB_len, Nat.mul_one] at hl
  cases A with
  | none =>
    rcases h.2 with ⟨hv, h0⟩ | ⟨g, off, cap, hv, _⟩
    · cases hv
      have : i = 0 := by omega
      subst this
      exact ⟨by simp [encB], .inl ⟨rfl, rfl⟩⟩
    · cases hv
  | some a =>
    have := h.take rfl i hi
    rw [Nat.mul_one] at this
    unfold encB at this ⊢
    rw [List.map_take]
    exact this
end Go.Proofs.Ytbkpapdbidbhaaa

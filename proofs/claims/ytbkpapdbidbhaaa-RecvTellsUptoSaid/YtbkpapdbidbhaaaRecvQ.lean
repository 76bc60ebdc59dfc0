/-
  RecvRefuses: Put and Break of a stream that was put whole, refused or not.
-/
import Derived.Test.YtbkpapdbidbhaaaRecvP
namespace Go.Proofs.Ytbkpapdbidbhaaa
open Go.RowKit

theorem src_pre {w : World} {A : Option Addr} {n c : Nat} {d : List UInt8} (h : Src w 1 (.slice A n c) n (encB d)) (i : Nat) (hi : i ≤ n) : Src w 1 (.slice A i c) i (encB (d.take i)) := by
  have hl := h.1
  rw [encB_len, Nat.mul_one] at hl
  obtain ⟨_, _, ⟨hv, h0⟩ | ⟨a, c', hv, hc⟩⟩ := h
  · cases hv
    have : i = 0 := by omega
    subst this
    exact ⟨by simp [encB], encB_one _, .inl ⟨rfl, rfl⟩⟩
  · cases hv
    refine ⟨by rw [encB_len, List.length_take]; omega, encB_one _, .inr ⟨a, c, rfl, fun j u hj => hc j u ?_⟩⟩
    unfold encB at hj ⊢
    rw [List.map_take, List.getElem?_take] at hj
    split at hj
    · exact hj
    · cases hj
theorem made_by (n : Nat) : madeCells (Value.int .u8 0).cells n = (encB (zeros n)).toArray := by
  apply Array.ext_getElem?
  intro i
  simp only [madeCells, encB, zeros, List.getElem?_toArray, List.getElem?_map, Array.getElem?_map]
  by_cases hi : i < n
  · simp [hi, Value.cells, Nat.mod_one]
  · simp [hi]
theorem make_by (n : Nat) (hn : n ≤ 100000) (w : World) : (Instr.makeSlice 22 (.int .i64 (n : Int)) (.int .i64 (n : Int))).run Try.prog w = .ok (.slice (some ⟨w.heap.size, 0, none⟩) n n) (w.alloc (.cells (encB (zeros n)).toArray 5)) := by
  obtain ⟨i0, hi, hz0, hz1, hz2⟩ := info_parts infoB
  have hr := run_make (P := Try.prog) w 22 5 i0 _ Try.underlying22 hi hz0 .i64 .i64 n n (by omega) (by omega) (by rw [hz2]; omega) (by omega)
  rw [hz1] at hr
  simp only [Int.toNat_natCast, Nat.mul_one, made_by] at hr
  exact hr
section
variable {w : World} {F : Nat → Prop} {g : Nat} {s : RS} {all : List UInt8} {en : Nat}
theorem w_put (h : HasSt w F g s) (hw : Whole1 all en s) (h4 : en ≤ 400) (o : Nat) (ho : o ≤ 1000000000) (fin : Bool) {A : Option Addr} {m c : Nat} {p : List UInt8} (hp : Src w 1 (.slice A m c) m (encB p)) (hmc : m ≤ c) (hcm : c ≤ maxLen)
    (hown : ∀ k, (Value.slice A m c).ownBlock = some k → F k) (hm : m ≤ 1000000000) (er : Nat) (he : putErr s (o : Int) fin m = er) :
    Calls Try.prog 13 #[.pointer (some ⟨g, 0, none⟩), .int .i64 (o : Int), .bool fin, .slice A m c] w fun e w' =>
      ∃ (fr : Int) (s' : RS), e = .returned (.tuple #[.int .i64 fr, .int .i64 (er : Int)]) ∧ HasSt w' F g s' ∧ Whole1 all en s' ∧ Kp (fun k => ¬ F k) w w' := by
  have hpl : p.length = m := by have := hp.1; rw [encB_len] at this; omega
  by_cases h0 : er = 0
  · subst h0
    refine (h_put h o fin hp hmc hcm hown he).mono ?_
    rintro e w' ⟨rfl, hs, hk⟩
    exact ⟨_, _, rfl, hs, whole_put hw h4 (by rw [hpl]; exact he) hs.ok, hk⟩
  · refine (h_put_err h (o : Int) (by omega) (by omega) fin A m c (by omega) er he h0).mono ?_
    rintro e w' ⟨rfl, rfl⟩
    exact ⟨_, s, rfl, h, hw, Kp.refl _ _⟩
theorem w_brk (h : HasSt w F g s) (hw : Whole1 all en s) (code : Int) (off : Nat) (er : Nat) (he : brkErr s code (off : Int) 0 = er) :
    Calls Try.prog 19 #[.pointer (some ⟨g, 0, none⟩), .int .i64 code, .int .i64 (off : Int), .int .i64 0] w fun e w' =>
      ∃ (fr : Int) (s' : RS), e = .returned (.tuple #[.int .i64 fr, .int .i64 (er : Int)]) ∧ HasSt w' F g s' ∧ Whole1 all en s' ∧ Kp (fun k => ¬ F k) w w' := by
  by_cases h0 : er = 0
  · subst h0
    have hc : mayN code = true := by
      cases hx : mayN code with
      | true => rfl
      | false =>
        unfold brkErr at he
        rw [if_pos (.inl hx)] at he
        cases he
    obtain ⟨c, rfl⟩ : ∃ c : Nat, code = (c : Int) := ⟨code.toNat, by unfold mayN at hc; simp at hc; omega⟩
    have hoff : off = en := by
      unfold brkErr at he
      rw [hw.told, hw.ended, hw.end_, hw.top] at he
      by_cases e1 : mayN (c : Int) = false ∨ mayN (off : Int) = false ∨ mayN 0 = false ∨ (off : Int) < 0
      · rw [if_pos e1] at he; cases he
      · rw [if_neg e1] at he
        by_cases e2 : ((400 : Nat) : Int) < (off : Int)
        · rw [if_pos e2] at he; cases he
        · rw [if_neg e2] at he
          by_cases e3 : (true = true ∧ (off : Int) ≠ en) ∨ (off : Int) < en
          · rw [if_pos e3] at he; cases he
          · have : ¬ ((off : Int) ≠ en) := fun hh => e3 (.inl ⟨rfl, hh⟩)
            omega
    subst hoff
    refine (h_brk h c off 0 he).mono ?_
    rintro e w' ⟨rfl, hs, hk⟩
    exact ⟨_, _, rfl, hs, whole_brk hw c 0 hs.ok, hk⟩
  · refine (h_brk_err h code (off : Int) 0 er he h0).mono ?_
    rintro e w' ⟨rfl, rfl⟩
    exact ⟨_, s, rfl, h, hw, Kp.refl _ _⟩
theorem w_err (hw : Whole1 all en s) (o m : Nat) (ho : o ≤ 1000000000) (hm : m ≤ 1000000000) (fin : Bool) : putErr s (o : Int) fin m = if 400 < o + m then 7 else if en < o + m ∨ (fin = true ∧ o + m ≠ en) then 8 else 0 := by
  unfold putErr
  rw [hw.told, hw.ended, hw.end_, hw.top, if_neg (by omega)]
  by_cases e1 : 400 < o + m
  · rw [if_pos (by omega), if_pos e1]
  · rw [if_neg (by omega), if_neg e1]
    by_cases e2 : en < o + m ∨ (fin = true ∧ o + m ≠ en)
    · rw [if_pos e2, if_pos (by
        rcases e2 with e2 | ⟨e2, e3⟩
        · exact .inl ⟨rfl, by omega⟩
        · exact .inr (.inl ⟨e2, rfl, by omega⟩))]
    · rw [if_neg e2, if_neg (by
        rintro (⟨_, h⟩ | ⟨hf, _, h⟩ | ⟨hf, h⟩)
        · exact e2 (.inl (by omega))
        · exact e2 (.inr ⟨hf, by omega⟩)
        · exact e2 (.inr ⟨hf, by omega⟩))]
theorem w_berr (hw : Whole1 all en s) (_h4 : en ≤ 400) (code : Int) (off : Nat) (ho : off ≤ 1000000000) : brkErr s code (off : Int) 0 = if code < 0 ∨ 4611686018427387903 < code then 1 else if 400 < off then 7 else if off ≠ en then 8 else 0 := by
  have hm : mayN (off : Int) = true := by unfold mayN; simp; omega
  have hm0 : mayN 0 = true := by decide
  unfold brkErr
  rw [hw.told, hw.ended, hw.end_, hw.top]
  by_cases e0 : code < 0 ∨ 4611686018427387903 < code
  · rw [if_pos e0, if_pos (.inl (by unfold mayN; simp; omega))]
  · have hc : mayN code = true := by unfold mayN; simp; omega
    rw [if_neg e0, if_neg (by rw [hc, hm, hm0]; simp)]
    by_cases e1 : 400 < off
    · rw [if_pos (by omega), if_pos e1]
    · rw [if_neg (by omega), if_neg e1]
      by_cases e2 : off ≠ en
      · rw [if_pos e2, if_pos (.inl ⟨rfl, by omega⟩)]
      · rw [if_neg e2, if_neg (by rintro (⟨_, h⟩ | h) <;> omega)]
end
end Go.Proofs.Ytbkpapdbidbhaaa

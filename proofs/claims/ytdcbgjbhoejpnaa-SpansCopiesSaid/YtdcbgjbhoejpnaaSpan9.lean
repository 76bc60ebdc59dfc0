/-
  Sets in a law: contracts without the row's value.
-/
import Derived.Test.YtdcbgjbhoejpnaaSpan8
namespace Go.Proofs.Ytdcbgjbhoejpnaa
open Go.RowKit

/-- Cells that hold no two numbers one behind the other. -/
def NoPair (cs : Array Value) : Prop := ∀ (j : Nat) (a b : Int), cs[j]? = some (.int .i64 a) → cs[j + 1]? = some (.int .i64 b) → False
theorem noPair_one (u : Value) : NoPair #[u] := fun j a b _ h => by
  rw [Array.getElem?_eq_none (by simp)] at h
  cases h
theorem noPair_bools (bs : List Bool) : NoPair (bs.map Value.bool).toArray := fun j a b h _ => by
  simp only [List.getElem?_toArray, List.getElem?_map] at h
  cases hb : bs[j]? with
  | none => rw [hb] at h; cases h
  | some x => rw [hb] at h; cases h

theorem src_tr {S : Nat → Prop} {w w' : World} {v : Value} {L : List Pr} (h : Src w 2 v L.length (encs encP L)) (hk : Kp S w w') (hS : ∀ k, S k → (∃ t cs, Whole w k t cs ∧ NoPair cs) ∨ w.heap.size ≤ k) : Src w' 2 v L.length (encs encP L) := by
  cases L with
  | nil => exact ⟨h.1, h.2.1, h.2.2.imp id (fun ⟨a, c, h1, _⟩ => ⟨a, c, h1, fun j u hj => by simp [encs] at hj⟩)⟩
  | cons r L =>
    refine hk.src h (fun k hk' hs => ?_)
    obtain ⟨b, off, c, rfl, hb, hc⟩ := Src.wide h (by simp) (by omega)
    cases hk'
    rcases hS _ hs with ⟨t, cs, hw, hn⟩ | hle
    · have h0 := hc 0 (.int .i64 r.1) (by simp [encs, encP])
      have h1 := hc 1 (.int .i64 r.2) (by simp [encs, encP])
      rw [hw.cell] at h0 h1
      exact hn _ _ _ h0 h1
    · dsimp only at hle; omega

/-- The set s holds the runs L. -/
def HasSet (w : World) (s : Nat) (L : List Pr) : Prop := ∃ v, SetAt w s v L
theorem HasSet.lt {w : World} {s : Nat} {L : List Pr} (h : HasSet w s L) : s < w.heap.size := by obtain ⟨v, h⟩ := h; exact h.cell.lt
theorem HasSet.one {w : World} {s : Nat} {L : List Pr} (h : HasSet w s L) : ∃ t cs, Whole w s t cs ∧ NoPair cs := by obtain ⟨v, h⟩ := h; exact ⟨_, _, h.cell, noPair_one _⟩
theorem HasSet.tr {S : Nat → Prop} {w w' : World} {s : Nat} {L : List Pr} (h : HasSet w s L) (hk : Kp S w w') (hs : ¬ S s) (hS : ∀ k, S k → (∃ t cs, Whole w k t cs ∧ NoPair cs) ∨ w.heap.size ≤ k) : HasSet w' s L := by
  obtain ⟨v, h⟩ := h
  exact ⟨v, hk.whole h.cell hs, src_tr h.src hk hS⟩
theorem HasSet.no {w w' : World} {s : Nat} {L : List Pr} (h : HasSet w s L) (hk : Kp (fun _ => False) w w') : HasSet w' s L := h.tr hk (fun h => h) (fun _ h => h.elim)
/-- Another set was changed. -/
theorem HasSet.other {w w' : World} {s t : Nat} {L M : List Pr} (h : HasSet w s L) (ht : HasSet w t M) (hk : Kp (fun k => k = t) w w') (hst : s ≠ t) : HasSet w' s L :=
  h.tr hk hst (fun k e => .inl (by obtain rfl : k = t := e; exact ht.one))
theorem HasSet.new (w : World) : HasSet (w.alloc (.cells #[.slice none 0 0] 27)) w.heap.size [] := ⟨_, set_new (Whole.new _ _ _)⟩
/-- A value of a set, laid into a variable of its own. -/
theorem HasSet.copy {w : World} {v : Value} {L : List Pr} (h : Src w 2 v L.length (encs encP L)) : HasSet (w.alloc (.cells #[v] 27)) w.heap.size L := ⟨_, set_made h⟩

theorem f_add {w : World} {s : Nat} {L : List Pr} (h : HasSet w s L) (hlen : L.length ≤ 1048576) (f t : Int) :
    Calls Try.prog 15 #[.pointer (some ⟨s, 0, none⟩), .int .i64 f, .int .i64 t] w fun e w' => e = .returned (.tuple #[]) ∧ HasSet w' s (addS L f t) ∧ Kp (fun k => k = s) w w' := by
  obtain ⟨v, h⟩ := h
  refine (s_add h hlen f t).mono ?_
  rintro e w' ⟨rfl, v', h', hk, _⟩
  exact ⟨rfl, ⟨v', h'⟩, hk⟩
theorem f_drop {w : World} {s : Nat} {L : List Pr} (h : HasSet w s L) (hlen : L.length ≤ 1048576) (f t : Int) :
    Calls Try.prog 16 #[.pointer (some ⟨s, 0, none⟩), .int .i64 f, .int .i64 t] w fun e w' => e = .returned (.tuple #[]) ∧ HasSet w' s (dropS L f t) ∧ Kp (fun k => k = s) w w' := by
  obtain ⟨v, h⟩ := h
  refine (s_drop h hlen f t).mono ?_
  rintro e w' ⟨rfl, v', h', hk, _⟩
  exact ⟨rfl, ⟨v', h'⟩, hk⟩
theorem f_has {w : World} {s : Nat} {L : List Pr} (h : HasSet w s L) (hlen : L.length ≤ 1048576) (n : Int) :
    Calls Try.prog 19 #[.pointer (some ⟨s, 0, none⟩), .int .i64 n] w fun e w' => e = .returned (.bool (L.any (hasP n))) ∧ Kp (fun _ => False) w w' := by
  obtain ⟨v, h⟩ := h
  exact s_has h hlen n
theorem f_count {w : World} {s : Nat} {L : List Pr} (h : HasSet w s L) (hN : NormL EndS L) (hlen : L.length ≤ 1048576) :
    Calls Try.prog 21 #[.pointer (some ⟨s, 0, none⟩)] w fun e w' => e = .returned (.int .i64 (countL L)) ∧ Kp (fun _ => False) w w' := by
  obtain ⟨v, h⟩ := h
  exact s_count h hN hlen
theorem f_first {w : World} {s : Nat} {L : List Pr} (h : HasSet w s L) (hlen : L.length ≤ 1048576) (n0 n : Int) (hn0 : n = max 0 n0) :
    Calls Try.prog 24 #[.pointer (some ⟨s, 0, none⟩), .int .i64 n0] w fun e w' => e = .returned (.int .i64 (firstL L n)) ∧ Kp (fun _ => False) w w' := by
  obtain ⟨v, h⟩ := h
  exact s_first h hlen n0 n hn0
theorem f_all {w : World} {s : Nat} {L : List Pr} (h : HasSet w s L) (hlen : L.length ≤ 1048576) (f t : Int) :
    Calls Try.prog 22 #[.pointer (some ⟨s, 0, none⟩), .int .i64 f, .int .i64 t] w fun e w' => e = .returned (.bool ((gapL L (bringS f) (bringS t)).isEmpty)) ∧ Kp (fun _ => False) w w' := by
  obtain ⟨v, h⟩ := h
  exact s_all h hlen f t
theorem f_gaps {w : World} {s : Nat} {L : List Pr} (h : HasSet w s L) (hlen : L.length ≤ 1048576) (f t : Int) :
    Calls Try.prog 20 #[.pointer (some ⟨s, 0, none⟩), .int .i64 f, .int .i64 t] w fun e w' => ∃ A n, n = (gapL L (bringS f) (bringS t)).length ∧ n ≤ L.length + 1 ∧ e = .returned (.slice A n n) ∧ RowAt w' w.heap.size 2 (.slice A n n) n (encs encP (gapL L (bringS f) (bringS t))) ∧ Kp (fun _ => False) w w' := by
  obtain ⟨v, h⟩ := h
  exact s_gaps h hlen f t
theorem f_spans {w : World} {s : Nat} {L : List Pr} (h : HasSet w s L) (hlen : L.length ≤ 1048576) :
    Calls Try.prog 13 #[.pointer (some ⟨s, 0, none⟩)] w fun e w' => ∃ A, e = .returned (.slice A L.length L.length) ∧ RowAt w' w.heap.size 2 (.slice A L.length L.length) L.length (encs encP L) ∧ Kp (fun _ => False) w w' := by
  obtain ⟨v, h⟩ := h
  exact s_spans h hlen
/-- The value that the variable holds. -/
theorem HasSet.read {w : World} {s : Nat} {L : List Pr} (h : HasSet w s L) : ∃ A c, w.cell? ⟨s, 0, none⟩ = some (.slice A L.length c) ∧ Src w 2 (.slice A L.length c) L.length (encs encP L) := by
  obtain ⟨v, h⟩ := h
  obtain ⟨A, c, rfl⟩ := set_form h
  have c0 := h.cell.cell 0
  simp only [List.getElem?_toArray, List.getElem?_cons_zero] at c0
  exact ⟨A, c, c0, h.src⟩
end Go.Proofs.Ytdcbgjbhoejpnaa

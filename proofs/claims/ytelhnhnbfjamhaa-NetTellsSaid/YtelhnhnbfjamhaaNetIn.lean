/-
  A law's net: what each call leaves of it; nothing that was there ahead of the law turns.
-/
import Derived.Test.YtelhnhnbfjamhaaNetRaw
namespace Go.Proofs.Ytelhnhnbfjamhaa
open Go.RowKit

/-- The law's net: block g, made behind all that was there in W; it holds ps. -/
def NetIn (W w : World) (g : Nat) (ps : List Pk) : Prop := ∃ A cap, NetAt w g (g + 1) A cap ps ∧ Below W.heap.size W w ∧ W.heap.size ≤ g

section
variable {W w w' : World} {g : Nat} {ps : List Pk}

theorem NetIn.alloc (h : NetIn W w g ps) (o : Obj) : NetIn W (w.alloc o) g ps := by
  obtain ⟨A, cap, h1, h2, h3⟩ := h
  exact ⟨A, cap, h1.alloc o, h2.alloc h2.size o, h3⟩
theorem NetIn.drewN (h : NetIn W w g ps) (n : Nat) : NetIn W (w.drewN n) g ps := by
  obtain ⟨A, cap, h1, h2, h3⟩ := h
  exact ⟨A, cap, h1.drewN n, Below.drewN' h2 n, h3⟩
theorem NetIn.lt (h : NetIn W w g ps) : g < w.heap.size := by
  obtain ⟨A, cap, h1, h2, h3⟩ := h
  exact h1.cell.lt
theorem NetIn.few (h : NetIn W w g ps) : ps.length ≤ 64 := by
  obtain ⟨A, cap, h1, h2, h3⟩ := h
  exact h1.few
theorem NetIn.below (h : NetIn W w g ps) : Below W.heap.size W w := by
  obtain ⟨A, cap, h1, h2, h3⟩ := h
  exact h2
theorem NetIn.kp0 (h : NetIn W w g ps) (hk : Kp (fun _ => False) w w') : NetIn W w' g ps := by
  obtain ⟨A, cap, h1, h2, h3⟩ := h
  exact ⟨A, cap, h1.kp0 hk, h2.trans (hk.below0 h2.size), h3⟩
theorem NetIn.of_below (h : NetIn W w g ps) (hk : Below w.heap.size w w') : NetIn W w' g ps :=
  h.kp0 ⟨hk.os, hk.tape, hk.output, hk.size, fun k hk' _ => hk.block k hk'⟩

/-- What may turn at a call on the net: the net's own block, and its row's. -/
def OnlyNet (w : World) (g : Nat) (w' : World) : Prop := ∃ A, Kp (NetS g A) w w' ∧ ∃ n cap, w.cell? ⟨g, 0, none⟩ = some (.slice A n cap)

theorem NetAt.cell0 {B : Nat} {A : Option Addr} {cap : Nat} (h : NetAt w g B A cap ps) : w.cell? ⟨g, 0, none⟩ = some (.slice A ps.length cap) := by
  rw [h.cell.cell 0]; rfl

theorem net_new_in (W : World) : NetIn W (W.alloc (.cells #[.slice none 0 0] 25)) W.heap.size [] :=
  ⟨none, 0, net_new _ _ _ (Whole.new _ _ _) (by omega), (Below.refl _ W).alloc (Nat.le_refl _) _, Nat.le_refl _⟩

theorem take_none_in (h : NetIn W w g ps) (k : Int) (hk : ¬ (0 ≤ k ∧ k < ps.length)) :
    Calls Try.prog 14 #[.pointer (some ⟨g, 0, none⟩), .int .i64 k] w fun e w' => e = .returned (.tuple #[.agg #[.int .i64 0, .string ⟨#[]⟩], .bool false]) ∧ NetIn W w' g ps ∧ OnlyNet w g w' := by
  obtain ⟨A, cap, h1, h2, h3⟩ := h
  refine (net_take_none h1 k hk).mono ?_
  rintro e w' ⟨rfl, hk⟩
  exact ⟨rfl, ⟨A, cap, h1.kp0 hk, h2.trans (hk.below0 h2.size), h3⟩, A, hk.no, _, _, h1.cell0⟩

theorem take_in (h : NetIn W w g ps) (i : Nat) (p : Pk) (hi : ps[i]? = some p) :
    Calls Try.prog 14 #[.pointer (some ⟨g, 0, none⟩), .int .i64 i] w fun e w' => e = .returned (.tuple #[.agg #[.int .i64 p.1, .string p.2], .bool true]) ∧ NetIn W w' g (ps.eraseIdx i) ∧ OnlyNet w g w' := by
  obtain ⟨A, cap, h1, h2, h3⟩ := h
  refine (net_take h1 (by have := h1.cell.lt; omega) i p hi).mono ?_
  rintro e w' ⟨rfl, hk, hn⟩
  exact ⟨rfl, ⟨A, cap, hn, h1.below h2 hk h3, h3⟩, A, hk, _, _, h1.cell0⟩

theorem double_none_in (h : NetIn W w g ps) (k : Int) (hk : ¬ (0 ≤ k ∧ k < ps.length)) :
    Calls Try.prog 18 #[.pointer (some ⟨g, 0, none⟩), .int .i64 k] w fun e w' => e = .returned (.bool false) ∧ w = w' := by
  obtain ⟨A, cap, h1, h2, h3⟩ := h
  exact (net_double_none h1 k hk).mono fun _ _ ⟨a, b⟩ => ⟨a, b.symm⟩

theorem double_in (h : NetIn W w g ps) (i : Nat) (p : Pk) (hi : ps[i]? = some p) :
    Calls Try.prog 18 #[.pointer (some ⟨g, 0, none⟩), .int .i64 i] w fun e w' => e = .returned (.bool (decide (ps.length < 64))) ∧ NetIn W w' g (ps ++ [p].take (64 - ps.length)) ∧ OnlyNet w g w' := by
  obtain ⟨A, cap, h1, h2, h3⟩ := h
  refine (net_double h1 (by have := h1.cell.lt; omega) i p hi).mono ?_
  rintro e w' ⟨rfl, hk, A', cap', hn, _⟩
  exact ⟨rfl, ⟨A', cap', hn, h1.below h2 hk h3, h3⟩, A, hk, _, _, h1.cell0⟩

theorem put_in (h : NetIn W w g ps) (X : Option Addr) (c : Nat) (qs : List Pk) (hx : Src w 2 (.slice X qs.length c) qs.length (encs encPk qs))
    (hX : ∀ a, X = some a → a.add 0 = a) (hX0 : X = none → c = 0) (hmc : qs.length ≤ c) (hc : c ≤ maxLen) :
    Calls Try.prog 15 #[.pointer (some ⟨g, 0, none⟩), .slice X qs.length c] w fun e w' => e = .returned (.int .i64 (qs.take (64 - ps.length)).length) ∧ NetIn W w' g (ps ++ qs.take (64 - ps.length)) ∧ OnlyNet w g w' := by
  obtain ⟨A, cap, h1, h2, h3⟩ := h
  refine (net_put h1 (by have := h1.cell.lt; omega) X c qs hx hX hX0 hmc hc).mono ?_
  rintro e w' ⟨rfl, hk, A', cap', hn, _⟩
  exact ⟨rfl, ⟨A', cap', hn, h1.below h2 hk h3, h3⟩, A, hk, _, _, h1.cell0⟩

theorem turn_none_in (h : NetIn W w g ps) (k a y : Int) (hk : ¬ (0 ≤ k ∧ k < ps.length)) :
    Calls Try.prog 19 #[.pointer (some ⟨g, 0, none⟩), .int .i64 k, .int .i64 a, .int .u8 y] w fun e w' => e = .returned (.bool false) ∧ w = w' := by
  obtain ⟨A, cap, h1, h2, h3⟩ := h
  exact (net_turn_none h1 k a y hk).mono fun _ _ ⟨a, b⟩ => ⟨a, b.symm⟩

theorem turn_out_in (h : NetIn W w g ps) (k : Nat) (p : Pk) (hk : ps[k]? = some p) (hs : p.2.size ≤ maxLen) (a y : Int) (ha : ¬ (0 ≤ a ∧ a < p.2.size)) :
    Calls Try.prog 19 #[.pointer (some ⟨g, 0, none⟩), .int .i64 k, .int .i64 a, .int .u8 y] w fun e w' => e = .returned (.bool false) ∧ w = w' := by
  obtain ⟨A, cap, h1, h2, h3⟩ := h
  exact (net_turn_out h1 k p hk hs a y ha).mono fun _ _ ⟨a, b⟩ => ⟨a, b.symm⟩

theorem turn_in (h : NetIn W w g ps) (k : Nat) (p : Pk) (hk : ps[k]? = some p) (hs : p.2.size ≤ maxLen) (a : Nat) (z : UInt8) (ha : a < p.2.size) :
    Calls Try.prog 19 #[.pointer (some ⟨g, 0, none⟩), .int .i64 k, .int .i64 a, .int .u8 (z.toNat : Int)] w fun e w' => e = .returned (.bool true) ∧ NetIn W w' g (ps.set k (p.1, turnS p.2 a z)) ∧ OnlyNet w g w' := by
  obtain ⟨A, cap, h1, h2, h3⟩ := h
  refine (net_turn h1 k p hk hs a z ha).mono ?_
  rintro e w' ⟨rfl, hk, hn⟩
  exact ⟨rfl, ⟨A, cap, hn, h1.below h2 hk h3, h3⟩, A, hk, _, _, h1.cell0⟩

theorem swap_none_in (h : NetIn W w g ps) (k j : Int) (hk : ¬ ((0 ≤ k ∧ k < ps.length) ∧ (0 ≤ j ∧ j < ps.length))) :
    Calls Try.prog 20 #[.pointer (some ⟨g, 0, none⟩), .int .i64 k, .int .i64 j] w fun e w' => e = .returned (.bool false) ∧ w = w' := by
  obtain ⟨A, cap, h1, h2, h3⟩ := h
  exact (net_swap_none h1 k j hk).mono fun _ _ ⟨a, b⟩ => ⟨a, b.symm⟩

theorem swap_in (h : NetIn W w g ps) (k j : Nat) (p q : Pk) (hk : ps[k]? = some p) (hj : ps[j]? = some q) :
    Calls Try.prog 20 #[.pointer (some ⟨g, 0, none⟩), .int .i64 k, .int .i64 j] w fun e w' => e = .returned (.bool true) ∧ NetIn W w' g (swapL ps k j p q) ∧ OnlyNet w g w' := by
  obtain ⟨A, cap, h1, h2, h3⟩ := h
  refine (net_swap h1 k j p q hk hj).mono ?_
  rintro e w' ⟨rfl, hk, hn⟩
  exact ⟨rfl, ⟨A, cap, hn, h1.below h2 hk h3, h3⟩, A, hk, _, _, h1.cell0⟩

theorem bag_in (h : NetIn W w g ps) : Calls Try.prog 16 #[.pointer (some ⟨g, 0, none⟩)] w fun e w' => ∃ A' cap', e = .returned (.slice A' ps.length ps.length) ∧ w'.ownsRow w.heap.size 31 2 (.slice A' ps.length cap') ps.length (encs encPk ps) ∧ NetIn W w' g ps ∧ Kp (fun _ => False) w w' := by
  obtain ⟨A, cap, h1, h2, h3⟩ := h
  refine (net_bag h1).mono ?_
  rintro e w' ⟨A', cap', rfl, ho, hk⟩
  exact ⟨A', cap', rfl, ho, ⟨A, cap, h1.kp0 hk, h2.trans (hk.below0 h2.size), h3⟩, hk⟩
end
end Go.Proofs.Ytelhnhnbfjamhaa

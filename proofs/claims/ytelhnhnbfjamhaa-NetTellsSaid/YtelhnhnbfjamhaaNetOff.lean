/-
  A law's net beside memory of the law's own (the blocks L): what each call leaves; the blocks L stay as they were.
-/
import Derived.Test.YtelhnhnbfjamhaaNetIn
namespace Go.Proofs.Ytelhnhnbfjamhaa
open Go.RowKit

/-- The law's net: block g, made behind all that was there in W; it holds ps; none of the blocks L is its own. -/
def NetOff (W w : World) (g : Nat) (ps : List Pk) (L : Nat → Prop) : Prop :=
  ∃ A cap, NetAt w g (g + 1) A cap ps ∧ Below W.heap.size W w ∧ W.heap.size ≤ g ∧ (∀ k, NetS g A k → ¬ L k) ∧ (∀ k, L k → k < w.heap.size)

/-- Nothing in the blocks L has turned. -/
abbrev Kept (L : Nat → Prop) (w w' : World) : Prop := Kp (fun k => ¬ L k) w w'

theorem near_map {w : World} {A A' : Option Addr} {n n' c c' : Nat} (h : Near w (.slice A n c) (.slice A' n' c')) : A'.map (·.block) = A.map (·.block) ∨ ∀ k, A'.map (·.block) = some k → w.heap.size ≤ k := by
  unfold Near at h
  rwa [own_map, own_map] at h

section
variable {W w w' : World} {g : Nat} {ps : List Pk} {L : Nat → Prop}

theorem NetOff.of (h : NetIn W w g ps) (hL : ∀ k, ¬ L k) : NetOff W w g ps L := by
  obtain ⟨A, cap, h1, h2, h3⟩ := h
  exact ⟨A, cap, h1, h2, h3, fun k _ => hL k, fun k hk => absurd hk (hL k)⟩
theorem NetOff.in (h : NetOff W w g ps L) : NetIn W w g ps := by
  obtain ⟨A, cap, h1, h2, h3, _⟩ := h
  exact ⟨A, cap, h1, h2, h3⟩
theorem NetOff.alloc (h : NetOff W w g ps L) (o : Obj) : NetOff W (w.alloc o) g ps L := by
  obtain ⟨A, cap, h1, h2, h3, h4, h5⟩ := h
  exact ⟨A, cap, h1.alloc o, h2.alloc h2.size o, h3, h4, fun k hk => by have := h5 k hk; simp only [World.size_alloc]; omega⟩
theorem NetOff.drewN (h : NetOff W w g ps L) (n : Nat) : NetOff W (w.drewN n) g ps L := by
  obtain ⟨A, cap, h1, h2, h3, h4, h5⟩ := h
  exact ⟨A, cap, h1.drewN n, Below.drewN' h2 n, h3, h4, h5⟩
theorem NetOff.sub {L' : Nat → Prop} (h : NetOff W w g ps L) (hL : ∀ k, L' k → L k) : NetOff W w g ps L' := by
  obtain ⟨A, cap, h1, h2, h3, h4, h5⟩ := h
  exact ⟨A, cap, h1, h2, h3, fun k hk hl => h4 k hk (hL k hl), fun k hk => h5 k (hL k hk)⟩
/-- Something of the blocks L turns, or new blocks come: the net does not. -/
theorem NetOff.kp (h : NetOff W w g ps L) (hk : Kp L w w') (hL : ∀ k, L k → W.heap.size ≤ k) : NetOff W w' g ps L := by
  obtain ⟨A, cap, h1, h2, h3, h4, h5⟩ := h
  exact ⟨A, cap, h1.kp hk h4, h2.trans (hk.below h2.size hL), h3, h4, fun k hk' => Nat.lt_of_lt_of_le (h5 k hk') hk.size⟩
theorem NetOff.of_below (h : NetOff W w g ps L) (hk : Below w.heap.size w w') : NetOff W w' g ps L := by
  obtain ⟨A, cap, h1, h2, h3, h4, h5⟩ := h
  have hb : Kp (fun _ => False) w w' := ⟨hk.os, hk.tape, hk.output, hk.size, fun k hk' _ => hk.block k hk'⟩
  exact ⟨A, cap, h1.kp0 hb, h2.trans (hb.below0 h2.size), h3, h4, fun k hk' => Nat.lt_of_lt_of_le (h5 k hk') hk.size⟩
/-- A block more that is not the net's. -/
theorem NetOff.add {P : Nat → Prop} (h : NetOff W w g ps L) (hk : Kp (fun _ => False) w w') (hP : ∀ k, P k → w.heap.size ≤ k ∧ k < w'.heap.size) : NetOff W w' g ps (fun k => L k ∨ P k) := by
  obtain ⟨A, cap, h1, h2, h3, h4, h5⟩ := h
  refine ⟨A, cap, h1.kp0 hk, h2.trans (hk.below0 h2.size), h3, fun k hk' hl => ?_, fun k hl => ?_⟩
  · rcases hl with hl | hl
    · exact h4 k hk' hl
    · have := h1.lt hk'; have := (hP k hl).1; omega
  · rcases hl with hl | hl
    · exact Nat.lt_of_lt_of_le (h5 k hl) hk.size
    · exact (hP k hl).2
theorem NetOff.below (h : NetOff W w g ps L) : Below W.heap.size W w := h.in.below
theorem NetOff.lt (h : NetOff W w g ps L) : g < w.heap.size := h.in.lt
theorem NetOff.few (h : NetOff W w g ps L) : ps.length ≤ 64 := h.in.few

theorem off_same {A : Option Addr} {cap : Nat} {ps' : List Pk} (h1 : NetAt w g (g + 1) A cap ps) (h2 : Below W.heap.size W w) (h3 : W.heap.size ≤ g) (h4 : ∀ k, NetS g A k → ¬ L k) (h5 : ∀ k, L k → k < w.heap.size)
    (hk : Kp (NetS g A) w w') {A' : Option Addr} {cap' : Nat} (hn : NetAt w' g (g + 1) A' cap' ps') (hA : A'.map (·.block) = A.map (·.block) ∨ ∀ k, A'.map (·.block) = some k → w.heap.size ≤ k) : NetOff W w' g ps' L ∧ Kept L w w' := by
  refine ⟨⟨A', cap', hn, h1.below h2 hk h3, h3, fun k hk' hl => ?_, fun k hl => Nat.lt_of_lt_of_le (h5 k hl) hk.size⟩, hk.mono (fun k _ hk' => h4 k hk')⟩
  rcases hk' with rfl | hk'
  · exact h4 _ (.inl rfl) hl
  · rcases hA with hA | hA
    · exact h4 k (.inr (hA ▸ hk')) hl
    · have := hA k hk'; have := h5 k hl; omega

theorem take_none_off (h : NetOff W w g ps L) (k : Int) (hk : ¬ (0 ≤ k ∧ k < ps.length)) :
    Calls Try.prog 14 #[.pointer (some ⟨g, 0, none⟩), .int .i64 k] w fun e w' => e = .returned (.tuple #[.agg #[.int .i64 0, .string ⟨#[]⟩], .bool false]) ∧ NetOff W w' g ps L ∧ Kept L w w' := by
  obtain ⟨A, cap, h1, h2, h3, h4, h5⟩ := h
  refine (net_take_none h1 k hk).mono ?_
  rintro e w' ⟨rfl, hk⟩
  exact ⟨rfl, off_same h1 h2 h3 h4 h5 hk.no (h1.kp0 hk) (.inl rfl)⟩

theorem take_off (h : NetOff W w g ps L) (i : Nat) (p : Pk) (hi : ps[i]? = some p) :
    Calls Try.prog 14 #[.pointer (some ⟨g, 0, none⟩), .int .i64 i] w fun e w' => e = .returned (.tuple #[.agg #[.int .i64 p.1, .string p.2], .bool true]) ∧ NetOff W w' g (ps.eraseIdx i) L ∧ Kept L w w' := by
  obtain ⟨A, cap, h1, h2, h3, h4, h5⟩ := h
  refine (net_take h1 (by have := h1.cell.lt; omega) i p hi).mono ?_
  rintro e w' ⟨rfl, hk, hn⟩
  exact ⟨rfl, off_same h1 h2 h3 h4 h5 hk hn (.inl rfl)⟩

theorem double_off (h : NetOff W w g ps L) (i : Nat) (p : Pk) (hi : ps[i]? = some p) :
    Calls Try.prog 18 #[.pointer (some ⟨g, 0, none⟩), .int .i64 i] w fun e w' => e = .returned (.bool (decide (ps.length < 64))) ∧ NetOff W w' g (ps ++ [p].take (64 - ps.length)) L ∧ Kept L w w' := by
  obtain ⟨A, cap, h1, h2, h3, h4, h5⟩ := h
  refine (net_double h1 (by have := h1.cell.lt; omega) i p hi).mono ?_
  rintro e w' ⟨rfl, hk, A', cap', hn, hnr⟩
  exact ⟨rfl, off_same h1 h2 h3 h4 h5 hk hn (near_map hnr)⟩

theorem put_off (h : NetOff W w g ps L) (X : Option Addr) (c : Nat) (qs : List Pk) (hx : Src w 2 (.slice X qs.length c) qs.length (encs encPk qs))
    (hX : ∀ a, X = some a → a.add 0 = a) (hX0 : X = none → c = 0) (hmc : qs.length ≤ c) (hc : c ≤ maxLen) :
    Calls Try.prog 15 #[.pointer (some ⟨g, 0, none⟩), .slice X qs.length c] w fun e w' => e = .returned (.int .i64 (qs.take (64 - ps.length)).length) ∧ NetOff W w' g (ps ++ qs.take (64 - ps.length)) L ∧ Kept L w w' := by
  obtain ⟨A, cap, h1, h2, h3, h4, h5⟩ := h
  refine (net_put h1 (by have := h1.cell.lt; omega) X c qs hx hX hX0 hmc hc).mono ?_
  rintro e w' ⟨rfl, hk, A', cap', hn, hnr⟩
  exact ⟨rfl, off_same h1 h2 h3 h4 h5 hk hn (near_map hnr)⟩

theorem turn_off (h : NetOff W w g ps L) (k : Nat) (p : Pk) (hk : ps[k]? = some p) (hs : p.2.size ≤ maxLen) (a : Nat) (z : UInt8) (ha : a < p.2.size) :
    Calls Try.prog 19 #[.pointer (some ⟨g, 0, none⟩), .int .i64 k, .int .i64 a, .int .u8 (z.toNat : Int)] w fun e w' => e = .returned (.bool true) ∧ NetOff W w' g (ps.set k (p.1, turnS p.2 a z)) L ∧ Kept L w w' := by
  obtain ⟨A, cap, h1, h2, h3, h4, h5⟩ := h
  refine (net_turn h1 k p hk hs a z ha).mono ?_
  rintro e w' ⟨rfl, hk, hn⟩
  exact ⟨rfl, off_same h1 h2 h3 h4 h5 hk hn (.inl rfl)⟩

theorem swap_off (h : NetOff W w g ps L) (k j : Nat) (p q : Pk) (hk : ps[k]? = some p) (hj : ps[j]? = some q) :
    Calls Try.prog 20 #[.pointer (some ⟨g, 0, none⟩), .int .i64 k, .int .i64 j] w fun e w' => e = .returned (.bool true) ∧ NetOff W w' g (swapL ps k j p q) L ∧ Kept L w w' := by
  obtain ⟨A, cap, h1, h2, h3, h4, h5⟩ := h
  refine (net_swap h1 k j p q hk hj).mono ?_
  rintro e w' ⟨rfl, hk, hn⟩
  exact ⟨rfl, off_same h1 h2 h3 h4 h5 hk hn (.inl rfl)⟩

theorem bag_off (h : NetOff W w g ps L) : Calls Try.prog 16 #[.pointer (some ⟨g, 0, none⟩)] w fun e w' => ∃ A' cap', e = .returned (.slice A' ps.length ps.length) ∧ w'.ownsRow w.heap.size 31 2 (.slice A' ps.length cap') ps.length (encs encPk ps) ∧
    NetOff W w' g ps (fun k => L k ∨ A'.map (·.block) = some k) ∧ Kept L w w' := by
  refine (bag_in h.in).mono ?_
  rintro e w' ⟨A', cap', rfl, ho, _, hk⟩
  exact ⟨A', cap', rfl, ho, h.add hk (fun k hk' => ho.lt k (own_map.trans hk')), hk.no⟩
end
end Go.Proofs.Ytelhnhnbfjamhaa

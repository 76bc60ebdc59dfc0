/-
  The program's net and the reference's, side by side, beside memory of the law's own (the blocks F).
-/
import Derived.Test.YtelhnhnbfjamhaaRefTurn
namespace Go.Proofs.Ytelhnhnbfjamhaa
open Go.RowKit

/-- Net g holds ps, the reference's net r holds qs; both were made behind all that was there in W; none of the blocks F is theirs. -/
def Two (W w : World) (g r : Nat) (ps qs : List Pk) (F : Nat → Prop) : Prop :=
  ∃ A cap, RefAt w r A cap qs ∧ NetOff W w g ps (fun k => F k ∨ k = r ∨ A.map (·.block) = some k) ∧ W.heap.size ≤ r ∧ (∀ k, A.map (·.block) = some k → W.heap.size ≤ k ∧ ¬ F k ∧ k ≠ r) ∧ ¬ F r ∧ (∀ k, F k → W.heap.size ≤ k)

section
variable {W w w' : World} {g r : Nat} {ps qs : List Pk} {F : Nat → Prop}

theorem RefAt.kp {S : Nat → Prop} {A : Option Addr} {cap : Nat} (h : RefAt w r A cap qs) (hk : Kp S w w') (hr : ¬ S r) (hA : ∀ k, A.map (·.block) = some k → ¬ S k) : RefAt w' r A cap qs :=
  ⟨hk.whole h.cell hr, hk.own h.own (fun k hk' => hA k (own_map.symm.trans hk')), h.few⟩

theorem Two.net {ps' : List Pk} {A : Option Addr} {cap : Nat} (h1 : RefAt w r A cap qs) (h3 : W.heap.size ≤ r) (h4 : ∀ k, A.map (·.block) = some k → W.heap.size ≤ k ∧ ¬ F k ∧ k ≠ r) (h5 : ¬ F r) (h6 : ∀ k, F k → W.heap.size ≤ k)
    (hn : NetOff W w' g ps' (fun k => F k ∨ k = r ∨ A.map (·.block) = some k)) (hk : Kept (fun k => F k ∨ k = r ∨ A.map (·.block) = some k) w w') : Two W w' g r ps' qs F ∧ Kept F w w' :=
  ⟨⟨A, cap, h1.kp hk (fun h => h (.inr (.inl rfl))) (fun k hk' h => h (.inr (.inr hk'))), hn, h3, h4, h5, h6⟩, hk.mono (fun k _ h hf => h (.inl hf))⟩

/-- What is not theirs turns, or comes anew; F is another. -/
theorem Two.move {F' : Nat → Prop} (h : Two W w g r ps qs F) (hk : Kp F w w') (hF : ∀ k, F' k → (F k ∨ w.heap.size ≤ k) ∧ k < w'.heap.size) : Two W w' g r ps qs F' := by
  obtain ⟨A, cap, h1, h2, h3, h4, h5, h6⟩ := h
  have hr : r < w.heap.size := h1.cell.lt
  have hA : ∀ k, A.map (·.block) = some k → k < w.heap.size := fun k hk => (h1.own.lt k (own_map.trans hk)).2
  have hW := h2.below.size
  refine ⟨A, cap, h1.kp hk h5 (fun k hk' => (h4 k hk').2.1), ?_, h3, fun k hk' => ⟨(h4 k hk').1, fun hf => ?_, (h4 k hk').2.2⟩, fun hf => ?_, fun k hf => ?_⟩
  · obtain ⟨B, c, n1, n2, n3, n4, n5⟩ := h2
    refine ⟨B, c, n1.kp hk (fun k hk' hf => n4 k hk' (.inl hf)), n2.trans (hk.below n2.size h6), n3, fun k hk' hl => ?_, fun k hl => ?_⟩
    · rcases hl with hl | hl | hl
      · rcases (hF k hl).1 with hf | hf
        · exact n4 k hk' (.inl hf)
        · have := n1.lt hk'; omega
      · exact n4 k hk' (.inr (.inl hl))
      · exact n4 k hk' (.inr (.inr hl))
    · rcases hl with hl | hl | hl
      · exact (hF k hl).2
      · have := hk.size; omega
      · have := hk.size; have := hA k hl; omega
  · rcases (hF k hf).1 with hf | hf
    · exact (h4 k hk').2.1 hf
    · have := hA k hk'; omega
  · rcases (hF r hf).1 with hf | hf
    · exact h5 hf
    · omega
  · rcases (hF k hf).1 with hf | hf
    · exact h6 k hf
    · omega
theorem Two.flt (h : Two W w g r ps qs F) : ∀ k, F k → k < w.heap.size := by
  obtain ⟨A, cap, h1, ⟨B, c, n1, n2, n3, n4, n5⟩, h3, h4, h5, h6⟩ := h
  exact fun k hk => n5 k (.inl hk)
theorem Two.alloc (h : Two W w g r ps qs F) (o : Obj) : Two W (w.alloc o) g r ps qs F := h.move ((Kp.refl _ w).alloc o) (fun k hk => ⟨.inl hk, by have := h.flt k hk; simp only [World.size_alloc]; omega⟩)
theorem Two.drewN (h : Two W w g r ps qs F) (n : Nat) : Two W (w.drewN n) g r ps qs F := h.move ((Kp.refl _ w).drewN n) (fun k hk => ⟨.inl hk, h.flt k hk⟩)
theorem Two.below (h : Two W w g r ps qs F) : Below W.heap.size W w := by
  obtain ⟨A, cap, h1, h2, _⟩ := h
  exact h2.below
theorem Two.few (h : Two W w g r ps qs F) : ps.length ≤ 64 ∧ qs.length ≤ 64 := by
  obtain ⟨A, cap, h1, h2, _⟩ := h
  exact ⟨h2.few, h1.few⟩
theorem Two.glt (h : Two W w g r ps qs F) : g < w.heap.size ∧ r < w.heap.size := by
  obtain ⟨A, cap, h1, h2, _⟩ := h
  exact ⟨h2.lt, h1.cell.lt⟩
/-- The reference's field, as a law reads it. -/
theorem Two.cell (h : Two W w g r ps qs F) : ∃ A cap, w.cell? ⟨r, 0, none⟩ = some (.slice A qs.length cap) ∧ w.ownsRow 0 44 2 (.slice A qs.length cap) qs.length (encs encPk qs) := by
  obtain ⟨A, cap, h1, h2, _⟩ := h
  exact ⟨A, cap, by rw [h1.cell.cell 0]; rfl, h1.own⟩

theorem Two.ref {qs' : List Pk} (h : Two W w g r ps qs F) (hl : RefLeft w r qs' w') : Two W w' g r ps qs' F ∧ Kept F w w' := by
  obtain ⟨A, cap, h1, ⟨B, c, n1, n2, n3, n4, n5⟩, h3, h4, h5, h6⟩ := h
  obtain ⟨A', cap', l1, l2, l3⟩ := hl
  have hr : r < w.heap.size := h1.cell.lt
  have hF : ∀ k, F k → k < w.heap.size := fun k hk => n5 k (.inl hk)
  refine ⟨⟨A', cap', l1, ⟨B, c, n1.kp l3 (fun k hk e => n4 k hk (.inr (.inl e))), n2.trans (l3.below n2.size (fun k e => by omega)), n3, fun k hk hl => ?_, fun k hl => ?_⟩, h3, fun k hk => ?_, h5, h6⟩, l3.mono (fun k _ e hf => h5 (e ▸ hf))⟩
  · rcases hl with hl | hl | hl
    · exact n4 k hk (.inl hl)
    · exact n4 k hk (.inr (.inl hl))
    · have := l2 k hl; have := n1.lt hk; omega
  · have hs := l3.size
    rcases hl with hl | hl | hl
    · have := hF k hl; omega
    · omega
    · exact (l1.own.lt k (own_map.trans hl)).2
  · have := l2 k hk
    have hs := n2.size
    exact ⟨by omega, fun hf => by have := hF k hf; omega, by omega⟩
theorem Two.same (h : Two W w g r ps qs F) (hk : Kp (fun _ => False) w w') : Two W w' g r ps qs F ∧ Kept F w w' :=
  ⟨h.move hk.no (fun k hf => ⟨.inl hf, Nat.lt_of_lt_of_le (h.flt k hf) hk.size⟩), hk.no⟩
theorem Two.of_below (h : Two W w g r ps qs F) (hk : Below w.heap.size w w') : Two W w' g r ps qs F :=
  (h.same ⟨hk.os, hk.tape, hk.output, hk.size, fun k hk' _ => hk.block k hk'⟩).1

/-! The program's calls. -/
theorem two_take_none (h : Two W w g r ps qs F) (k : Int) (hk : ¬ (0 ≤ k ∧ k < ps.length)) :
    Calls Try.prog 14 #[.pointer (some ⟨g, 0, none⟩), .int .i64 k] w fun e w' => e = .returned (.tuple #[.agg #[.int .i64 0, .string ⟨#[]⟩], .bool false]) ∧ Two W w' g r ps qs F ∧ Kept F w w' := by
  obtain ⟨A, cap, h1, h2, h3, h4, h5, h6⟩ := h
  exact (take_none_off h2 k hk).mono fun _ _ ⟨he, hn, hk⟩ => ⟨he, Two.net h1 h3 h4 h5 h6 hn hk⟩
theorem two_take (h : Two W w g r ps qs F) (i : Nat) (p : Pk) (hi : ps[i]? = some p) :
    Calls Try.prog 14 #[.pointer (some ⟨g, 0, none⟩), .int .i64 i] w fun e w' => e = .returned (.tuple #[.agg #[.int .i64 p.1, .string p.2], .bool true]) ∧ Two W w' g r (ps.eraseIdx i) qs F ∧ Kept F w w' := by
  obtain ⟨A, cap, h1, h2, h3, h4, h5, h6⟩ := h
  exact (take_off h2 i p hi).mono fun _ _ ⟨he, hn, hk⟩ => ⟨he, Two.net h1 h3 h4 h5 h6 hn hk⟩
theorem two_double_none (h : Two W w g r ps qs F) (k : Int) (hk : ¬ (0 ≤ k ∧ k < ps.length)) :
    Calls Try.prog 18 #[.pointer (some ⟨g, 0, none⟩), .int .i64 k] w fun e w' => e = .returned (.bool false) ∧ Two W w' g r ps qs F ∧ Kept F w w' := by
  obtain ⟨A, cap, h1, h2, h3, h4, h5, h6⟩ := id h
  exact (double_none_in h2.in k hk).mono fun _ _ ⟨he, hw⟩ => ⟨he, hw ▸ h, hw ▸ Kp.refl _ _⟩
theorem two_double (h : Two W w g r ps qs F) (i : Nat) (p : Pk) (hi : ps[i]? = some p) :
    Calls Try.prog 18 #[.pointer (some ⟨g, 0, none⟩), .int .i64 i] w fun e w' => e = .returned (.bool (decide (ps.length < 64))) ∧ Two W w' g r (ps ++ [p].take (64 - ps.length)) qs F ∧ Kept F w w' := by
  obtain ⟨A, cap, h1, h2, h3, h4, h5, h6⟩ := h
  exact (double_off h2 i p hi).mono fun _ _ ⟨he, hn, hk⟩ => ⟨he, Two.net h1 h3 h4 h5 h6 hn hk⟩
theorem two_put (h : Two W w g r ps qs F) (X : Option Addr) (c : Nat) (ns : List Pk) (hx : Src w 2 (.slice X ns.length c) ns.length (encs encPk ns))
    (hX : ∀ a, X = some a → a.add 0 = a) (hX0 : X = none → c = 0) (hmc : ns.length ≤ c) (hc : c ≤ maxLen) :
    Calls Try.prog 15 #[.pointer (some ⟨g, 0, none⟩), .slice X ns.length c] w fun e w' => e = .returned (.int .i64 (ns.take (64 - ps.length)).length) ∧ Two W w' g r (ps ++ ns.take (64 - ps.length)) qs F ∧ Kept F w w' := by
  obtain ⟨A, cap, h1, h2, h3, h4, h5, h6⟩ := h
  exact (put_off h2 X c ns hx hX hX0 hmc hc).mono fun _ _ ⟨he, hn, hk⟩ => ⟨he, Two.net h1 h3 h4 h5 h6 hn hk⟩
theorem two_turn_none (h : Two W w g r ps qs F) (k a y : Int) (hk : ¬ (0 ≤ k ∧ k < ps.length)) :
    Calls Try.prog 19 #[.pointer (some ⟨g, 0, none⟩), .int .i64 k, .int .i64 a, .int .u8 y] w fun e w' => e = .returned (.bool false) ∧ Two W w' g r ps qs F ∧ Kept F w w' := by
  obtain ⟨A, cap, h1, h2, h3, h4, h5, h6⟩ := id h
  exact (turn_none_in h2.in k a y hk).mono fun _ _ ⟨he, hw⟩ => ⟨he, hw ▸ h, hw ▸ Kp.refl _ _⟩
theorem two_turn_out (h : Two W w g r ps qs F) (k : Nat) (p : Pk) (hk : ps[k]? = some p) (hs : p.2.size ≤ maxLen) (a y : Int) (ha : ¬ (0 ≤ a ∧ a < p.2.size)) :
    Calls Try.prog 19 #[.pointer (some ⟨g, 0, none⟩), .int .i64 k, .int .i64 a, .int .u8 y] w fun e w' => e = .returned (.bool false) ∧ Two W w' g r ps qs F ∧ Kept F w w' := by
  obtain ⟨A, cap, h1, h2, h3, h4, h5, h6⟩ := id h
  exact (turn_out_in h2.in k p hk hs a y ha).mono fun _ _ ⟨he, hw⟩ => ⟨he, hw ▸ h, hw ▸ Kp.refl _ _⟩
theorem two_turn (h : Two W w g r ps qs F) (k : Nat) (p : Pk) (hk : ps[k]? = some p) (hs : p.2.size ≤ maxLen) (a : Nat) (z : UInt8) (ha : a < p.2.size) :
    Calls Try.prog 19 #[.pointer (some ⟨g, 0, none⟩), .int .i64 k, .int .i64 a, .int .u8 (z.toNat : Int)] w fun e w' => e = .returned (.bool true) ∧ Two W w' g r (ps.set k (p.1, turnS p.2 a z)) qs F ∧ Kept F w w' := by
  obtain ⟨A, cap, h1, h2, h3, h4, h5, h6⟩ := h
  exact (turn_off h2 k p hk hs a z ha).mono fun _ _ ⟨he, hn, hk⟩ => ⟨he, Two.net h1 h3 h4 h5 h6 hn hk⟩
theorem two_swap_none (h : Two W w g r ps qs F) (k j : Int) (hk : ¬ ((0 ≤ k ∧ k < ps.length) ∧ (0 ≤ j ∧ j < ps.length))) :
    Calls Try.prog 20 #[.pointer (some ⟨g, 0, none⟩), .int .i64 k, .int .i64 j] w fun e w' => e = .returned (.bool false) ∧ Two W w' g r ps qs F ∧ Kept F w w' := by
  obtain ⟨A, cap, h1, h2, h3, h4, h5, h6⟩ := id h
  exact (swap_none_in h2.in k j hk).mono fun _ _ ⟨he, hw⟩ => ⟨he, hw ▸ h, hw ▸ Kp.refl _ _⟩
theorem two_swap (h : Two W w g r ps qs F) (k j : Nat) (p q : Pk) (hk : ps[k]? = some p) (hj : ps[j]? = some q) :
    Calls Try.prog 20 #[.pointer (some ⟨g, 0, none⟩), .int .i64 k, .int .i64 j] w fun e w' => e = .returned (.bool true) ∧ Two W w' g r (swapL ps k j p q) qs F ∧ Kept F w w' := by
  obtain ⟨A, cap, h1, h2, h3, h4, h5, h6⟩ := h
  exact (swap_off h2 k j p q hk hj).mono fun _ _ ⟨he, hn, hk⟩ => ⟨he, Two.net h1 h3 h4 h5 h6 hn hk⟩
theorem two_bag (h : Two W w g r ps qs F) : Calls Try.prog 16 #[.pointer (some ⟨g, 0, none⟩)] w fun e w' => ∃ A' cap', e = .returned (.slice A' ps.length ps.length) ∧ w'.ownsRow w.heap.size 31 2 (.slice A' ps.length cap') ps.length (encs encPk ps) ∧ Two W w' g r ps qs F ∧ Kept F w w' := by
  obtain ⟨A, cap, h1, h2, h3, h4, h5, h6⟩ := id h
  refine (bag_in h2.in).mono ?_
  rintro e w' ⟨A', cap', he, ho, _, hk⟩
  exact ⟨A', cap', he, ho, h.same hk⟩

/-! The reference's calls. -/
theorem rtwo_take_none (h : Two W w g r ps qs F) (k : Int) (hk : ¬ (0 ≤ k ∧ k < qs.length)) :
    Calls Try.prog 21 #[.pointer (some ⟨r, 0, none⟩), .int .i64 k] w fun e w' => e = .returned (.tuple #[.agg #[.int .i64 0, .string ⟨#[]⟩], .bool false]) ∧ Two W w' g r ps qs F ∧ Kept F w w' := by
  obtain ⟨A, cap, h1, h2, _⟩ := id h
  exact (ref_take_none h1 k hk).mono fun _ _ ⟨he, hk⟩ => ⟨he, h.same hk⟩
theorem rtwo_take (h : Two W w g r ps qs F) (i : Nat) (p : Pk) (hi : qs[i]? = some p) :
    Calls Try.prog 21 #[.pointer (some ⟨r, 0, none⟩), .int .i64 i] w fun e w' => e = .returned (.tuple #[.agg #[.int .i64 p.1, .string p.2], .bool true]) ∧ Two W w' g r ps (qs.eraseIdx i) F ∧ Kept F w w' := by
  obtain ⟨A, cap, h1, h2, _⟩ := id h
  exact (ref_take h1 i p hi).mono fun _ _ ⟨he, hk⟩ => ⟨he, h.ref hk⟩
theorem rtwo_double_none (h : Two W w g r ps qs F) (k : Int) (hk : ¬ (0 ≤ k ∧ k < qs.length)) :
    Calls Try.prog 22 #[.pointer (some ⟨r, 0, none⟩), .int .i64 k] w fun e w' => e = .returned (.bool false) ∧ Two W w' g r ps qs F ∧ Kept F w w' := by
  obtain ⟨A, cap, h1, h2, _⟩ := id h
  exact (ref_double_none h1 k hk).mono fun _ _ ⟨he, hk⟩ => ⟨he, h.same hk⟩
theorem rtwo_double (h : Two W w g r ps qs F) (i : Nat) (p : Pk) (hi : qs[i]? = some p) :
    Calls Try.prog 22 #[.pointer (some ⟨r, 0, none⟩), .int .i64 i] w fun e w' => e = .returned (.bool (decide (qs.length < 64))) ∧ Two W w' g r ps (qs ++ [p].take (64 - qs.length)) F ∧ Kept F w w' := by
  obtain ⟨A, cap, h1, h2, _⟩ := id h
  by_cases hf : qs.length < 64
  · rw [decide_eq_true hf, List.take_of_length_le (by simp; omega)]
    exact (ref_double h1 i p hi hf).mono fun _ _ ⟨he, hk⟩ => ⟨he, h.ref hk⟩
  · rw [decide_eq_false hf, show 64 - qs.length = 0 by omega, List.take_zero, List.append_nil]
    exact (ref_double_full h1 i p hi (by omega)).mono fun _ _ ⟨he, hk⟩ => ⟨he, h.same hk⟩
theorem rtwo_put (h : Two W w g r ps qs F) (p : Pk) :
    Calls Try.prog 25 #[.pointer (some ⟨r, 0, none⟩), .agg #[.int .i64 p.1, .string p.2]] w fun e w' => e = .returned (.bool (decide (qs.length < 64))) ∧ Two W w' g r ps (qs ++ [p].take (64 - qs.length)) F ∧ Kept F w w' := by
  obtain ⟨A, cap, h1, h2, _⟩ := id h
  by_cases hf : qs.length < 64
  · rw [decide_eq_true hf, List.take_of_length_le (by simp; omega)]
    exact (ref_put h1 p hf).mono fun _ _ ⟨he, hk⟩ => ⟨he, h.ref hk⟩
  · rw [decide_eq_false hf, show 64 - qs.length = 0 by omega, List.take_zero, List.append_nil]
    exact (ref_put_full h1 p (by omega)).mono fun _ _ ⟨he, hk⟩ => ⟨he, h.same hk⟩
theorem rtwo_turn_none (h : Two W w g r ps qs F) (k a y : Int) (hk : ¬ (0 ≤ k ∧ k < qs.length)) :
    Calls Try.prog 23 #[.pointer (some ⟨r, 0, none⟩), .int .i64 k, .int .i64 a, .int .u8 y] w fun e w' => e = .returned (.bool false) ∧ Two W w' g r ps qs F ∧ Kept F w w' := by
  obtain ⟨A, cap, h1, h2, _⟩ := id h
  exact (ref_turn_none h1 k a y hk).mono fun _ _ ⟨he, hk⟩ => ⟨he, h.same hk⟩
theorem rtwo_turn_out (h : Two W w g r ps qs F) (k : Nat) (p : Pk) (hk : qs[k]? = some p) (hs : p.2.size ≤ maxLen) (a y : Int) (ha : ¬ (0 ≤ a ∧ a < p.2.size)) :
    Calls Try.prog 23 #[.pointer (some ⟨r, 0, none⟩), .int .i64 k, .int .i64 a, .int .u8 y] w fun e w' => e = .returned (.bool false) ∧ Two W w' g r ps qs F ∧ Kept F w w' := by
  obtain ⟨A, cap, h1, h2, _⟩ := id h
  exact (ref_turn_out h1 k p hk hs a y ha).mono fun _ _ ⟨he, hk⟩ => ⟨he, h.same hk⟩
theorem rtwo_turn (h : Two W w g r ps qs F) (k : Nat) (p : Pk) (hk : qs[k]? = some p) (hs : p.2.size ≤ maxLen) (a : Nat) (z : UInt8) (ha : a < p.2.size) :
    Calls Try.prog 23 #[.pointer (some ⟨r, 0, none⟩), .int .i64 k, .int .i64 a, .int .u8 (z.toNat : Int)] w fun e w' => e = .returned (.bool true) ∧ Two W w' g r ps (qs.set k (p.1, turnS p.2 a z)) F ∧ Kept F w w' := by
  obtain ⟨A, cap, h1, h2, _⟩ := id h
  exact (ref_turn h1 k p hk hs a z ha).mono fun _ _ ⟨he, hk⟩ => ⟨he, h.ref hk⟩
theorem rtwo_swap_none (h : Two W w g r ps qs F) (k j : Int) (hk : ¬ ((0 ≤ k ∧ k < qs.length) ∧ (0 ≤ j ∧ j < qs.length))) :
    Calls Try.prog 24 #[.pointer (some ⟨r, 0, none⟩), .int .i64 k, .int .i64 j] w fun e w' => e = .returned (.bool false) ∧ Two W w' g r ps qs F ∧ Kept F w w' := by
  obtain ⟨A, cap, h1, h2, _⟩ := id h
  exact (ref_swap_none h1 k j hk).mono fun _ _ ⟨he, hk⟩ => ⟨he, h.same hk⟩
theorem rtwo_swap (h : Two W w g r ps qs F) (k j : Nat) (p q : Pk) (hk : qs[k]? = some p) (hj : qs[j]? = some q) :
    Calls Try.prog 24 #[.pointer (some ⟨r, 0, none⟩), .int .i64 k, .int .i64 j] w fun e w' => e = .returned (.bool true) ∧ Two W w' g r ps (swapL qs k j p q) F ∧ Kept F w w' := by
  obtain ⟨A, cap, h1, h2, _⟩ := id h
  exact (ref_swap h1 k j p q hk hj).mono fun _ _ ⟨he, hk⟩ => ⟨he, h.ref hk⟩
end
end Go.Proofs.Ytelhnhnbfjamhaa

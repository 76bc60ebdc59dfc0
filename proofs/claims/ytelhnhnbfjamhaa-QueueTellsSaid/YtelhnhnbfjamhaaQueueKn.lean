/-
  argosylaw16.known; rows of items that a law makes.
-/
import Derived.Test.YtelhnhnbfjamhaaQueueOff
namespace Go.Proofs.Ytelhnhnbfjamhaa
open Go.RowKit

/-- A row of items that the law made behind BL: none of their bytes lies in the row's block. -/
def LRow (w : World) (BL : Nat) (vl : Value) (ys : List Zt) : Prop :=
  RowAt w BL 2 vl ys.length (encs encZ ys) ∧ ∀ y ∈ ys, NewB w BL y.2.1 y.2.2 ∧ ∀ k, y.2.1.ownBlock = some k → vl.ownBlock ≠ some k

theorem LRow.one {w : World} {BL : Nat} {vl : Value} {ys : List Zt} (h : LRow w BL vl ys) : ∀ u ∈ encs encZ ys, u.oneCell' = true :=
  encs_one (fun z hz u hu => by
    simp only [encZ, List.mem_cons, List.not_mem_nil, or_false] at hu
    rcases hu with rfl | rfl
    · rfl
    · exact (h.2 z hz).1.2.2)
theorem LRow.nil (w : World) (BL : Nat) : LRow w BL (.slice none 0 0) [] := ⟨RowAt.nil _ _ _, fun y hy => by cases hy⟩
theorem LRow.kp {S : Nat → Prop} {w w' : World} {BL : Nat} {vl : Value} {ys : List Zt} (h : LRow w BL vl ys) (hk : Kp S w w') (hS : ∀ k, BL ≤ k → k < w.heap.size → ¬ S k) : LRow w' BL vl ys :=
  ⟨h.1.kp hk (fun k hk' => hS k (h.1.lt k hk').1 (h.1.lt k hk').2), fun y hy => ⟨⟨(h.2 y hy).1.1.kp hk (fun k hk' => hS k ((h.2 y hy).1.2.1 k hk').1 ((h.2 y hy).1.2.1 k hk').2), fun k hk' => by have := (h.2 y hy).1.2.1 k hk'; have := hk.size; omega, (h.2 y hy).1.2.2⟩, (h.2 y hy).2⟩⟩

theorem lrow_app {w w1 w2 : World} {BL : Nat} {vl v2 : Value} {ys : List Zt} {z : Zt} (h : LRow w BL vl ys) (hB : BL ≤ w.heap.size) (hk : Kp (fun _ => False) w w1) (hz : NewB w1 w.heap.size z.2.1 z.2.2)
    (hr : RowAt w2 BL 2 v2 (ys.length + 1) (encs encZ ys ++ encZ z)) (hg : w1.grownBy w2 vl.ownBlock) (hn : Near w1 vl v2) : LRow w2 BL v2 (ys ++ [z]) := by
  have hs := hk.size
  have hk12 : Kp (fun k => vl.ownBlock = some k) w1 w2 := Kp.of_grown hg (fun i hi _ => hi)
  have hkw2 : Kp (fun k => vl.ownBlock = some k) w w2 := hk.no.trans hk12
  have hvl : ∀ k, vl.ownBlock = some k → k < w.heap.size := fun k hk => (h.1.lt k hk).2
  refine ⟨by rw [List.length_append, encs_append]; exact hr, fun y hy => ?_⟩
  have hv2 : ∀ k, k < w1.heap.size → v2.ownBlock = some k → vl.ownBlock = some k := fun k hk' e => by
    rcases hn with hn | hn
    · exact hn ▸ e
    · have := hn k e; omega
  rcases List.mem_append.1 hy with hy | hy
  · obtain ⟨⟨d1, d2, d3⟩, d4⟩ := h.2 y hy
    refine ⟨⟨d1.kp hkw2 (fun k hk e => d4 k hk e), fun k hk' => by have := d2 k hk'; have := hkw2.size; omega, d3⟩, fun k hk' e => d4 k hk' (hv2 k (by have := d2 k hk'; omega) e)⟩
  · simp only [List.mem_singleton] at hy
    subst hy
    refine ⟨⟨hz.1.kp hk12 (fun k hk e => by have := (hz.2.1 k hk).1; have := hvl k e; omega), fun k hk' => by have := hz.2.1 k hk'; have := hk12.size; omega, hz.2.2⟩, fun k hk' e => ?_⟩
    have := hz.2.1 k hk'
    have := hvl k (hv2 k (by omega) e)
    omega

/-- One byte in a block of its own. -/
theorem newb_one {w : World} {b B : Nat} (c : UInt8) (h : Whole w b 5 #[.int .u8 (c.toNat : Int)]) (hB : B ≤ b) : NewB w B (.slice (some ⟨b, 0, none⟩) 1 1) [c] := by
  refine ⟨⟨rfl, encB_one _, .inr ⟨_, _, rfl, fun j u hj => ?_⟩⟩, fun k hk => ?_, rfl⟩
  · rw [Addr.add_lit, Nat.zero_add, h.cell]
    match j, hj with
    | 0, hj => simpa [encB] using hj
    | j + 1, hj => simp [encB] at hj
  · have : b = k := Option.some.inj hk
    subst this
    exact ⟨hB, h.lt⟩

theorem accept_all : ∀ (l : List It) (n : Nat), (∀ y ∈ l, okI y = true) → accept n l = l.take (32 - n) := by
  intro l
  induction l with
  | nil => intro n _; simp [accept]
  | cons y l ih =>
    intro n h
    have hy := h y (by simp)
    have ht := fun n => ih n (fun x hx => h x (by simp [hx]))
    simp only [accept, hy, Bool.true_and]
    by_cases hn : n < 32
    · rw [show Nat.blt n 32 = true by simpa using hn, cond_true, ht, show 32 - n = (32 - (n + 1)) + 1 by omega, List.take_succ_cons]
    · rw [show Nat.blt n 32 = false from Bool.eq_false_iff.2 (by simpa using hn), cond_false, ht, show 32 - n = 0 by omega, List.take_zero, List.take_zero]

theorem src_row {w : World} {b : Nat} {e : TypeId} {sz n c : Nat} (xs : List Value) (h : Whole w b e xs.toArray) (hl : xs.length = n * sz) (h1 : ∀ u ∈ xs, u.oneCell' = true) : Src w sz (.slice (some ⟨b, 0, none⟩) n c) n xs := by
  refine ⟨hl, h1, .inr ⟨_, _, rfl, fun j u hj => ?_⟩⟩
  rw [Addr.add_lit, Nat.zero_add, h.cell]
  simpa using hj

/-- The law's queue, whatever else the law has made. -/
theorem QOff.free {W w w' : World} {q : Nat} {l : List It} {L : Nat → Prop} (h : QOff W w q l L) (hk : Kp (fun _ => False) w w') : QOff W w' q l (fun k => w.heap.size ≤ k ∧ k < w'.heap.size) :=
  h.move hk.no (fun _ hk => ⟨.inr hk.1, hk.2⟩)

theorem kn_put {W : World} {q : Nat} (h : QOff W (W.alloc (.cells #[.slice none 0 0] 51)) q [] (fun _ => False)) :
    Calls Try.prog 26 #[.pointer (some ⟨q, 0, none⟩), .slice (some ⟨W.heap.size + 1 + 1 + 1, 0, none⟩) 2 2] ((((W.alloc (.cells #[.slice none 0 0] 51)).alloc (.cells #[.int .u8 1] 5)).alloc (.cells #[.int .u8 2] 5)).alloc
      (.cells #[.int .i64 4, .slice (some ⟨W.heap.size + 1, 0, none⟩) 1 1, .int .i64 5, .slice (some ⟨W.heap.size + 1 + 1, 0, none⟩) 1 1] 55)) fun e w' => e = .returned (.int .i64 2) ∧ QOff W w' q [(4, [1]), (5, [2])] (fun _ => False) := by
  have hk : Kp (fun _ => False) (W.alloc (.cells #[.slice none 0 0] 51)) ((((W.alloc (.cells #[.slice none 0 0] 51)).alloc (.cells #[.int .u8 1] 5)).alloc (.cells #[.int .u8 2] 5)).alloc
      (.cells #[.int .i64 4, .slice (some ⟨W.heap.size + 1, 0, none⟩) 1 1, .int .i64 5, .slice (some ⟨W.heap.size + 1 + 1, 0, none⟩) 1 1] 55)) := (((Kp.refl _ _).alloc _).alloc _).alloc _
  have h1 := h.free hk
  have w1 : Whole ((((W.alloc (.cells #[.slice none 0 0] 51)).alloc (.cells #[.int .u8 1] 5)).alloc (.cells #[.int .u8 2] 5)).alloc
      (.cells #[.int .i64 4, .slice (some ⟨W.heap.size + 1, 0, none⟩) 1 1, .int .i64 5, .slice (some ⟨W.heap.size + 1 + 1, 0, none⟩) 1 1] 55)) (W.heap.size + 1) 5 #[.int .u8 1] := ((whole_at _ _ rfl (by simp)).alloc _).alloc _
  have w2 : Whole ((((W.alloc (.cells #[.slice none 0 0] 51)).alloc (.cells #[.int .u8 1] 5)).alloc (.cells #[.int .u8 2] 5)).alloc
      (.cells #[.int .i64 4, .slice (some ⟨W.heap.size + 1, 0, none⟩) 1 1, .int .i64 5, .slice (some ⟨W.heap.size + 1 + 1, 0, none⟩) 1 1] 55)) (W.heap.size + 1 + 1) 5 #[.int .u8 2] := (whole_at _ _ rfl (by simp)).alloc _
  have w3 : Whole ((((W.alloc (.cells #[.slice none 0 0] 51)).alloc (.cells #[.int .u8 1] 5)).alloc (.cells #[.int .u8 2] 5)).alloc
      (.cells #[.int .i64 4, .slice (some ⟨W.heap.size + 1, 0, none⟩) 1 1, .int .i64 5, .slice (some ⟨W.heap.size + 1 + 1, 0, none⟩) 1 1] 55)) (W.heap.size + 1 + 1 + 1) 55 #[.int .i64 4, .slice (some ⟨W.heap.size + 1, 0, none⟩) 1 1, .int .i64 5, .slice (some ⟨W.heap.size + 1 + 1, 0, none⟩) 1 1] := whole_at _ _ rfl (by simp)
  have b1 := newb_one (B := W.heap.size + 1) 1 w1 (by omega)
  have b2 := newb_one (B := W.heap.size + 1) 2 w2 (by omega)
  refine (qo_put h1 _ [(4, .slice (some ⟨W.heap.size + 1, 0, none⟩) 1 1, [1]), (5, .slice (some ⟨W.heap.size + 1 + 1, 0, none⟩) 1 1, [2])] (src_row _ w3 rfl ?_) ?_ ?_ ?_ (by simp)).mono ?_
  · intro u hu
    simp [encs, encZ] at hu
    rcases hu with rfl | rfl | rfl | rfl <;> rfl
  · intro y hy
    simp only [List.mem_cons, List.not_mem_nil, or_false] at hy
    rcases hy with rfl | rfl
    · exact ⟨b1.1, by simp⟩
    · exact ⟨b2.1, by simp⟩
  · intro k hk'
    have : W.heap.size + 1 + 1 + 1 = k := Option.some.inj hk'
    exact .inl ⟨by first | omega | (simp only [World.size_alloc]; omega), by first | omega | (simp only [World.size_alloc]; omega)⟩
  · intro y hy k hk'
    simp only [List.mem_cons, List.not_mem_nil, or_false] at hy
    rcases hy with rfl | rfl
    · have : W.heap.size + 1 = k := Option.some.inj hk'
      exact .inl ⟨by simp only [World.size_alloc] at *; omega, by simp only [World.size_alloc] at *; omega⟩
    · have : W.heap.size + 1 + 1 = k := Option.some.inj hk'
      exact .inl ⟨by simp only [World.size_alloc] at *; omega, by simp only [World.size_alloc] at *; omega⟩
  · rintro e w' ⟨rfl, hq, _⟩
    exact ⟨rfl, hq.sub (fun _ h => h.elim)⟩

theorem kn_drop {W w : World} {q : Nat} (h : QOff W w q [(4, [1]), (5, [2])] (fun _ => False)) :
    Calls Try.prog 28 #[.pointer (some ⟨q, 0, none⟩), .slice (some ⟨w.heap.size, 0, none⟩) 1 1] (w.alloc (.cells #[.int .i64 4] 3)) fun e w' => e = .returned (.int .i64 1) ∧ QOff W w' q [(5, [2])] (fun _ => False) := by
  have h1 := h.free ((Kp.refl (fun _ => False) w).alloc (.cells #[.int .i64 4] 3))
  refine (qo_drop h1 (some ⟨w.heap.size, 0, none⟩) 1 [4] (src_row (encN [4]) (Whole.new _ _ _) rfl (fun u hu => by simp [encN] at hu; subst hu; rfl)) (by simp) (fun k hk => ?_)).mono ?_
  · have : w.heap.size = k := Option.some.inj hk
    exact .inl ⟨by first | omega | (simp only [World.size_alloc]; omega), by first | omega | (simp only [World.size_alloc]; omega)⟩
  · rintro e w' ⟨rfl, hq, _⟩
    exact ⟨rfl, hq.sub (fun _ h => h.elim)⟩

set_option maxRecDepth 100000 in
set_option maxHeartbeats 1000000 in
theorem known_q (W : World) : Calls Try.prog 31 #[] W fun e w' => e = .returned (.bool true) ∧ Below W.heap.size W w' := by
  have H0 := Lib.hid (q_new W)
  go_enter Try.func31, Try.ntmps31
  go_wp2_with fail
  with_reducible refine (kn_put H0.out).mono ?_
  rintro e w1 ⟨rfl, h1⟩
  have H1 := Lib.hid h1
  clear h1 H0
  go_wp2_with fail
  with_reducible refine (kn_drop H1.out).mono ?_
  rintro e w2 ⟨rfl, h1⟩
  have H2 := Lib.hid h1
  clear h1 H1
  go_wp2_with fail
  with_reducible refine (qo_first H2.out).mono ?_
  rintro e w3 ⟨v', rfl, hn, h1, _⟩
  obtain ⟨A', c', rfl⟩ := hn.form
  have H3 := Lib.hid h1
  clear h1 H2 hn
  go_wp2_with fail
  with_reducible refine (qo_len (H3.out.alloc _)).mono ?_
  rintro e w4 ⟨rfl, rfl⟩
  go_wp2_with fail
  go_ret
  exact ⟨by simp, (H3.out.alloc _).below⟩
end Go.Proofs.Ytelhnhnbfjamhaa

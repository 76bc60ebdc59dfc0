/-
  frags: Put of what does not fit; a whole among others; argosylaw19's example.
-/
import Derived.Test.YtdcbgjbhoejpnaaFrag3
import Derived.Test.YtdcbgjbhoejpnaaPart
namespace Go.Proofs.Ytdcbgjbhoejpnaa
open Go.RowKit

/-- A whole that holds the pieces L and the bytes d, beside foreign blocks F. -/
def HasFr (w : World) (F : List Nat) (g gb : Nat) (id dl ct : Int) (n : Nat) (L : List Pr) (d : List UInt8) : Prop :=
  ∃ v, FrAt w g gb id dl ct n v L d ∧ (∀ k, v.ownBlock = some k → k < w.heap.size ∧ k ∉ F) ∧ (∀ x ∈ F, x < w.heap.size ∧ x ≠ g ∧ x ≠ gb)
section
variable {w w' : World} {F : List Nat} {g gb : Nat} {id dl ct : Int} {n : Nat} {L : List Pr} {d : List UInt8}
/-- Foreign blocks turned. -/
theorem HasFr.beside (h : HasFr w F g gb id dl ct n L d) (hk : Kp (fun k => k ∈ F) w w') : HasFr w' F g gb id dl ct n L d := by
  obtain ⟨v, h, h1, h2⟩ := h
  exact ⟨v, h.kp hk (fun e => (h2 g e).2.1 rfl) (fun e => (h2 gb e).2.2 rfl) (fun k hk' e => (h1 k hk').2 e), fun k hk' => ⟨Nat.lt_of_lt_of_le (h1 k hk').1 hk.size, (h1 k hk').2⟩, fun x hx => ⟨Nat.lt_of_lt_of_le (h2 x hx).1 hk.size, (h2 x hx).2⟩⟩
theorem HasFr.no (h : HasFr w F g gb id dl ct n L d) (hk : Kp (fun _ => False) w w') : HasFr w' F g gb id dl ct n L d := h.beside hk.no
theorem HasFr.mono {F' : List Nat} (h : HasFr w F g gb id dl ct n L d) (hF : ∀ x ∈ F', x ∈ F) : HasFr w F' g gb id dl ct n L d := by
  obtain ⟨v, h, h1, h2⟩ := h
  exact ⟨v, h, fun k hk => ⟨(h1 k hk).1, fun hx => (h1 k hk).2 (hF k hx)⟩, fun x hx => h2 x (hF x hx)⟩
/-- A new block is foreign. -/
theorem HasFr.alloc (h : HasFr w F g gb id dl ct n L d) (o : Obj) : HasFr (w.alloc o) (w.heap.size :: F) g gb id dl ct n L d := by
  have h3 := h.no ((Kp.refl (fun _ => False) w).alloc o)
  obtain ⟨v0, g0, g1, g2⟩ := h
  refine ⟨v0, g0.no ((Kp.refl (fun _ => False) w).alloc o), fun k hk => ?_, fun x hx => ?_⟩
  · have := g1 k hk
    simp only [World.size_alloc, List.mem_cons, not_or]
    exact ⟨by omega, by omega, this.2⟩
  · rcases List.mem_cons.1 hx with rfl | hx
    · have a1 := g0.cell.lt
      have a2 := g0.body.lt
      simp only [World.size_alloc]
      omega
    · have := g2 x hx
      simp only [World.size_alloc]
      omega
/-- Blocks that came behind are foreign. -/
theorem HasFr.later (h : HasFr w F g gb id dl ct n L d) (hk : Kp (fun _ => False) w w') {x : Nat} (hx : w.heap.size ≤ x) (hx2 : x < w'.heap.size) : HasFr w' (x :: F) g gb id dl ct n L d := by
  obtain ⟨v0, g0, g1, g2⟩ := h
  refine ⟨v0, g0.no hk, fun k hk' => ?_, fun y hy => ?_⟩
  · have := g1 k hk'
    have := hk.size
    simp only [List.mem_cons, not_or]
    exact ⟨by omega, by omega, (g1 k hk').2⟩
  · have := hk.size
    rcases List.mem_cons.1 hy with rfl | hy
    · have a1 := g0.cell.lt
      have a2 := g0.body.lt
      omega
    · have := g2 y hy
      omega
theorem HasFr.right (h : HasFr w F g gb id dl ct n L d) : rightB id dl ct 0 (n : Int) = true := by obtain ⟨v, h, _⟩ := h; exact h.right
theorem HasFr.norm (h : HasFr w F g gb id dl ct n L d) : NormL 8 L := by obtain ⟨v, h, _⟩ := h; exact h.norm
theorem HasFr.len (h : HasFr w F g gb id dl ct n L d) : d.length = n := by obtain ⟨v, h, _⟩ := h; exact h.len
theorem HasFr.lt (h : HasFr w F g gb id dl ct n L d) : g < w.heap.size ∧ gb < w.heap.size ∧ g ≠ gb := by obtain ⟨v, h, _⟩ := h; exact ⟨h.cell.lt, h.body.lt, h.ne⟩
theorem HasFr.set (h : HasFr w F g gb id dl ct n L d) : ∃ v, SetIn w g 0 63 (frC v id dl ct n gb) v L := by obtain ⟨v, h, _⟩ := h; exact ⟨v, h.set⟩
end

/-- All pieces came? -/
theorem full_iff {L : List Pr} {ct : Int} (h : NormL 8 L) (h0 : 0 ≤ ct) (h8 : ct ≤ 8) : fullB L ct = true ↔ ∀ k : Nat, (k : Int) < ct → InL L k := by
  unfold fullB
  rw [bringS_id (n := 0) (by omega) (by unfold EndS; omega), bringS_id (n := ct) h0 (by unfold EndS; omega)]
  constructor
  · intro hf k hk
    rw [List.isEmpty_iff] at hf
    obtain ⟨_, g2⟩ := gap_in h 0 ct
    by_cases hn : InL L k
    · exact hn
    · have := (g2 k).2 ⟨by omega, hk, hn⟩
      rw [hf] at this
      exact absurd this (inl_nil _)
  · intro hf
    exact gap_all h (fun n h1 h2 => by
      obtain ⟨k, rfl⟩ := Int.eq_ofNat_of_zero_le h1
      exact hf k h2)

/-! Contracts without the row's value. -/
theorem r_new (F : List Nat) (id dl ct ix : Int) (n : Nat) (w : World) (hF : ∀ x ∈ F, x < w.heap.size) (hr : rightB id dl ct ix (n : Int) = true) :
    Calls Try.prog 26 #[.agg #[.int .i64 id, .int .i64 dl, .int .i64 ct, .int .i64 ix, .int .i64 (n : Int)]] w fun e w' => ∃ g gb, e = .returned (.pointer (some ⟨g, 0, none⟩)) ∧ HasFr w' F g gb id dl ct n [] (zeros n) ∧ w.heap.size ≤ g ∧ w.heap.size ≤ gb ∧ Kp (fun _ => False) w w' := by
  refine (new_any id dl ct ix n w hr).mono ?_
  rintro e w' ⟨g, gb, rfl, h, h1, h2, h3⟩
  exact ⟨g, gb, rfl, ⟨_, h, fun k hk => (by cases hk), fun x hx => by have := hF x hx; have := h3.size; omega⟩, h1, h2, h3⟩
theorem r_put {w : World} {F : List Nat} {g gb : Nat} {id dl ct : Int} {n : Nat} {L : List Pr} {d : List UInt8} (h : HasFr w F g gb id dl ct n L d) (k : Nat) (hk : (k : Int) < ct) {A : Option Addr} {m c : Nat} {p : List UInt8} (hp : Src w 1 (.slice A m c) m (encB p)) (hm : (m : Int) = min 80 ((n : Int) - 80 * k)) (hA : A ≠ none) :
    Calls Try.prog 28 #[.pointer (some ⟨g, 0, none⟩), .agg #[.int .i64 id, .int .i64 dl, .int .i64 ct, .int .i64 (k : Int), .int .i64 (n : Int)], .slice A m c] w fun e w' => e = .returned (.bool true) ∧
      ∃ L', HasFr w' F g gb id dl ct n L' (if L.any (hasP (k : Int)) = true then d else putD d (k * 80) p) ∧ (∀ j, InL L' j ↔ InL L j ∨ j = k) ∧ Kp (fun j => j = g ∨ j = gb) w w' := by
  obtain ⟨v, h, f1, f2⟩ := h
  refine (put_yes h k hk hp hm hA).mono ?_
  rintro e w' ⟨rfl, v', L', h1, h2, h4, h3⟩
  refine ⟨rfl, L', ⟨v', h1, fun j hj => ?_, fun x hx => by have := f2 x hx; have := h3.size; omega⟩, h2, h3⟩
  rcases h4 with rfl | h4
  · exact ⟨Nat.lt_of_lt_of_le (f1 j hj).1 h3.size, (f1 j hj).2⟩
  · have h5 := h4 j hj
    have hne : 0 < L'.length := by
      cases L' with
      | nil => exact absurd ((h2 k).2 (.inr rfl)) (inl_nil _)
      | cons r l => simp
    obtain ⟨b', off', c', hv, hb', _⟩ := Src.wide h1.src hne (by omega)
    rw [hv] at hj
    cases hj
    exact ⟨hb', fun hx => by have := (f2 b' hx).1; dsimp only at h5; omega⟩
theorem r_full {w : World} {F : List Nat} {g gb : Nat} {id dl ct : Int} {n : Nat} {L : List Pr} {d : List UInt8} (h : HasFr w F g gb id dl ct n L d) (b : Bool) (hb : fullB L ct = b) :
    Calls Try.prog 37 #[.pointer (some ⟨g, 0, none⟩)] w fun e w' => e = .returned (.bool b) ∧ Kp (fun _ => False) w w' := by
  obtain ⟨v, h, _⟩ := h
  subst hb
  exact full_any h
theorem r_bytesN {w : World} {F : List Nat} {g gb : Nat} {id dl ct : Int} {n : Nat} {L : List Pr} {d : List UInt8} (h : HasFr w F g gb id dl ct n L d) (hf : fullB L ct = false) :
    Calls Try.prog 29 #[.pointer (some ⟨g, 0, none⟩)] w fun e w' => e = .returned (.slice none 0 0) ∧ Kp (fun _ => False) w w' := by
  obtain ⟨v, h, _⟩ := h
  exact bytes_no h hf
theorem r_bytesY {w : World} {F : List Nat} {g gb : Nat} {id dl ct : Int} {n : Nat} {L : List Pr} {d : List UInt8} (h : HasFr w F g gb id dl ct n L d) (hf : fullB L ct = true) :
    Calls Try.prog 29 #[.pointer (some ⟨g, 0, none⟩)] w fun e w' => ∃ A, e = .returned (.slice A n n) ∧ RowAt w' w.heap.size 1 (.slice A n n) n (encB d) ∧ Kp (fun _ => False) w w' := by
  obtain ⟨v, h, _⟩ := h
  exact bytes_yes h hf
theorem r_head {w : World} {F : List Nat} {g gb : Nat} {id dl ct : Int} {n : Nat} {L : List Pr} {d : List UInt8} (h : HasFr w F g gb id dl ct n L d) :
    Calls Try.prog 30 #[.pointer (some ⟨g, 0, none⟩)] w fun e w' => e = .returned (.agg #[.int .i64 id, .int .i64 dl, .int .i64 ct, .int .i64 0, .int .i64 (n : Int)]) ∧ Kp (fun _ => False) w w' := by
  obtain ⟨v, h, _⟩ := h
  exact head_any h
theorem r_has {w : World} {F : List Nat} {g gb : Nat} {id dl ct : Int} {n : Nat} {L : List Pr} {d : List UInt8} (h : HasFr w F g gb id dl ct n L d) (x : Int) (b : Bool) (hb : InL L x ↔ b = true) :
    Calls Try.prog 19 #[.pointer (some ⟨g, 0, none⟩), .int .i64 x] w fun e w' => e = .returned (.bool b) ∧ Kp (fun _ => False) w w' := by
  have hl := h.norm.few (by omega)
  obtain ⟨v, h⟩ := h.set
  have e1 : L.any (hasP x) = b := by rw [Bool.eq_iff_iff, has_iff]; exact hb
  rw [← e1]
  exact t_has h (by omega) x
theorem r_count {w : World} {F : List Nat} {g gb : Nat} {id dl ct : Int} {n : Nat} {L : List Pr} {d : List UInt8} (h : HasFr w F g gb id dl ct n L d) :
    Calls Try.prog 21 #[.pointer (some ⟨g, 0, none⟩)] w fun e w' => e = .returned (.int .i64 (cB (fun k => L.any (hasP (k : Int))) 8 : Nat)) ∧ Kp (fun _ => False) w w' := by
  have hN := h.norm
  have hl := hN.few (by omega)
  obtain ⟨v, h⟩ := h.set
  have := t_count h (hN.up (by unfold EndS; omega)) (by omega)
  rw [count_is (E := 8) L hN] at this
  exact this
theorem r_all {w : World} {F : List Nat} {g gb : Nat} {id dl ct : Int} {n : Nat} {L : List Pr} {d : List UInt8} (h : HasFr w F g gb id dl ct n L d) (x : Int) (b : Bool) (hb : fullB L x = b) :
    Calls Try.prog 22 #[.pointer (some ⟨g, 0, none⟩), .int .i64 0, .int .i64 x] w fun e w' => e = .returned (.bool b) ∧ Kp (fun _ => False) w w' := by
  have hl := h.norm.few (by omega)
  obtain ⟨v, h⟩ := h.set
  subst hb
  exact t_all h (by omega) 0 x
end Go.Proofs.Ytdcbgjbhoejpnaa

/-
  How long a round takes, in plain numbers.
-/
namespace Go.Proofs.Ytoiakdddghbdnaa

structure R4 where
  S : Int
  V : Int
  B : Int
  m : Bool

namespace R4
def Inv (r : R4) : Prop := 0 ≤ r.S ∧ r.S ≤ 8000 ∧ 0 ≤ r.V ∧ r.V ≤ 8000 ∧ (r.m = true → 8 ≤ r.S)

def clamp (x : Int) : Int := max 1 (min x 1000)

theorem clamp_cases (x : Int) : clamp x = 1 ∧ x ≤ 1 ∨ clamp x = x ∧ 1 < x ∧ x ≤ 1000 ∨ clamp x = 1000 ∧ 1000 < x := by unfold clamp; omega

def sample (r : R4) (x : Int) : R4 :=
  if r.m = true then { S := r.S + (clamp x - r.S / 8), V := r.V + (max (clamp x - r.S / 8) (-(clamp x - r.S / 8)) - r.V / 4), B := 0, m := true }
  else { S := 8 * clamp x, V := 2 * clamp x, B := 0, m := true }

theorem sample_inv {r : R4} (h : r.Inv) (x : Int) : (r.sample x).Inv ∧ (r.sample x).m = true := by
  obtain ⟨a, b, c, d, e⟩ := h
  have hc : 1 ≤ clamp x ∧ clamp x ≤ 1000 := by unfold clamp; omega
  unfold sample
  split
  · rename_i hm
    have := e hm
    exact ⟨⟨by dsimp only; omega, by dsimp only; omega, by dsimp only; omega, by dsimp only; omega, fun _ => by dsimp only; omega⟩, rfl⟩
  · exact ⟨⟨by dsimp only; omega, by dsimp only; omega, by dsimp only; omega, by dsimp only; omega, fun _ => by dsimp only; omega⟩, rfl⟩

theorem sample_B (r : R4) (x : Int) : (r.sample x).B = 0 := by unfold sample; split <;> rfl

def round (r : R4) : Int := if r.m = true then max 1 (r.S / 8) else 4

theorem round_bounds {r : R4} (h : r.Inv) : 1 ≤ r.round ∧ r.round ≤ 1000 := by
  obtain ⟨a, b, c, d, e⟩ := h
  unfold round
  split <;> omega

def base (r : R4) : Int := if r.m = true then r.round + max 1 r.V else 8

theorem base_bounds {r : R4} (h : r.Inv) : 2 ≤ r.base ∧ r.base ≤ 9000 := by
  have hr := round_bounds h
  obtain ⟨a, b, c, d, e⟩ := h
  unfold base
  split <;> omega

/-- Doubled so many times, never beyond the most. -/
def dbl : Nat → Int → Int
  | 0, w => w
  | n + 1, w => dbl n (min (2 * w) 32)

theorem dbl_succ (n : Nat) (w : Int) : dbl (n + 1) w = min (2 * dbl n w) 32 := by
  induction n generalizing w with
  | zero => rfl
  | succ n ih => rw [dbl, ih]; rfl

theorem dbl_bounds (n : Nat) (w : Int) (h : 1 ≤ w) (h2 : w ≤ 9000) : 1 ≤ dbl n w ∧ dbl n w ≤ 9000 := by
  induction n generalizing w with
  | zero => exact ⟨h, h2⟩
  | succ n ih => exact ih _ (by omega) (by omega)

theorem dbl_mono (n : Nat) (w : Int) (h : 1 ≤ w) : min w 32 ≤ min (dbl n w) 32 := by
  induction n generalizing w with
  | zero => exact Int.le_refl _
  | succ n ih => have := ih (min (2 * w) 32) (by omega); rw [dbl]; omega

def times (B : Int) : Nat := (max 0 (min B 10)).toNat

def wait (r : R4) : Int := min (dbl (times r.B) r.base) 32

def late (r : R4) : Int := r.round + r.round / 8 + 1
end R4
end Go.Proofs.Ytoiakdddghbdnaa

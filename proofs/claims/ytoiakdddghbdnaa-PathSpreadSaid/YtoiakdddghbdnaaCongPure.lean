/-
  The congestion window in plain numbers: what one acknowledged packet does, what many do, what a lost one does.
-/
namespace Go.Proofs.Ytoiakdddghbdnaa

structure W4 where
  S : Int
  L : Int
  P : Int
  T : Int

namespace W4
def Inv (s : W4) : Prop := 2 ≤ s.S ∧ s.S ≤ 32 ∧ 2 ≤ s.L ∧ s.L ≤ 32 ∧ 0 ≤ s.P ∧ s.P < s.S

def step (s : W4) : W4 :=
  if s.S < s.L then { s with S := s.S + 1 }
  else if s.P + 1 = s.S then { s with S := min (s.S + 1) 32, P := 0 }
  else { s with P := s.P + 1 }

def good : Nat → W4 → W4
  | 0, s => s
  | n + 1, s => good n (step s)

theorem good_add (m n : Nat) (s : W4) : good (m + n) s = good n (good m s) := by
  induction m generalizing s with
  | zero => simp [good]
  | succ m ih => rw [Nat.succ_add]; simp only [good]; exact ih _

theorem good_succ (n : Nat) (s : W4) : good (n + 1) s = step (good n s) := by
  rw [good_add]; rfl

theorem step_inv {s : W4} (h : s.Inv) : (step s).Inv := by
  obtain ⟨a, b, c, d, e, f⟩ := h
  unfold step
  split
  · exact ⟨by simp; omega, by simp; omega, c, d, e, by simp; omega⟩
  · split
    · exact ⟨by simp; omega, by simp; omega, c, d, by simp, by simp; omega⟩
    · exact ⟨a, b, c, d, by simp; omega, by simp; omega⟩

theorem good_inv {s : W4} (h : s.Inv) (n : Nat) : (good n s).Inv := by
  induction n generalizing s with
  | zero => exact h
  | succ n ih => exact ih (step_inv h)

theorem step_L (s : W4) : (step s).L = s.L := by unfold step; split <;> (try split) <;> rfl
theorem step_T (s : W4) : (step s).T = s.T := by unfold step; split <;> (try split) <;> rfl
theorem good_L (n : Nat) (s : W4) : (good n s).L = s.L := by
  induction n generalizing s with
  | zero => rfl
  | succ n ih => rw [good, ih, step_L]
theorem good_T (n : Nat) (s : W4) : (good n s).T = s.T := by
  induction n generalizing s with
  | zero => rfl
  | succ n ih => rw [good, ih, step_T]

/-- A full window: its part goes round. -/
theorem good_full (n : Nat) (s : W4) (h : s.Inv) (hS : s.S = 32) : good n s = { s with P := (s.P + (n : Int)) % 32 } := by
  induction n generalizing s with
  | zero =>
    obtain ⟨a, b, c, d, e, f⟩ := h
    have : (s.P + ((0 : Nat) : Int)) % 32 = s.P := by omega
    rw [good, this]
  | succ n ih =>
    obtain ⟨a, b, c, d, e, f⟩ := h
    have hi := step_inv (s := s) ⟨a, b, c, d, e, f⟩
    have hst : step s = if s.P + 1 = 32 then { s with P := 0 } else { s with P := s.P + 1 } := by
      unfold step
      rw [if_neg (by omega), hS]
      split
      · simp; omega
      · rfl
    have hs2 : (step s).S = 32 := by rw [hst]; split <;> exact hS
    rw [good, ih _ hi hs2, hst]
    split
    · rename_i h1
      have : ((0 : Int) + (n : Int)) % 32 = (s.P + ((n + 1 : Nat) : Int)) % 32 := by omega
      simp only [this]
    · have : (s.P + 1 + (n : Int)) % 32 = (s.P + ((n + 1 : Nat) : Int)) % 32 := by omega
      simp only [this]

theorem step_rise {s : W4} (h : s.Inv) : s.S ≤ (step s).S ∧ (step s).S ≤ s.S + 1 := by
  obtain ⟨a, b, c, d, e, f⟩ := h
  unfold step
  split
  · simp; omega
  · split
    · simp; omega
    · simp; omega

theorem good_rise {s : W4} (h : s.Inv) (n : Nat) : s.S ≤ (good n s).S ∧ (good n s).S ≤ s.S + n := by
  induction n generalizing s with
  | zero => simp [good]
  | succ n ih =>
    have h1 := step_rise h
    have h2 := ih (step_inv h)
    rw [good]
    omega

def bad (s : W4) (num next : Int) : W4 :=
  if num < s.T then s else { S := max 2 (s.S / 2), L := max 2 (s.S / 2), P := 0, T := next }

theorem bad_inv {s : W4} (h : s.Inv) (num next : Int) : (bad s num next).Inv := by
  obtain ⟨a, b, c, d, e, f⟩ := h
  unfold bad
  split
  · exact ⟨a, b, c, d, e, f⟩
  · exact ⟨by simp; omega, by simp; omega, by simp; omega, by simp; omega, by simp, by simp; omega⟩
end W4
end Go.Proofs.Ytoiakdddghbdnaa

/-
  RecvTells: how far a stream goes in so many calls (plain).
-/
import Derived.Test.YtbkpapdbidbhaaaRecvS
namespace Go.Proofs.Ytbkpapdbidbhaaa

/-- What bytes that are there are worth. -/
def uP (a : Nat) : Nat := if a ≤ 100 then 0 else if a ≤ 249 then a - 100 else if a ≤ 349 then 149 else a - 200
/-- What room that was told is worth. -/
def vP (c : Nat) : Nat := if c ≤ 100 then 0 else if c ≤ 149 then c - 100 else if c ≤ 249 then 49 else if c ≤ 300 then c - 200 else 100
theorem uP_le {a : Nat} (h : a ≤ 400) : uP a ≤ 200 := by
  unfold uP
  repeat' split
  all_goals omega
theorem vP_le (c : Nat) : vP c ≤ 100 := by
  unfold vP
  repeat' split
  all_goals omega
set_option maxHeartbeats 4000000 in
theorem pot_take {a b : Nat} (ha : a ≤ 400) (hb : b ≤ a) (hb2 : b ≤ 249) : b + uP (a - b) ≤ uP a + 100 := by
  unfold uP
  repeat' split
  all_goals omega
set_option maxHeartbeats 4000000 in
theorem pot_put {a c d : Nat} (h : a + c ≤ 400) (hd : d ≤ c) : uP (a + d) + vP (c - d) ≤ uP a + vP c + 100 := by
  unfold uP vP
  repeat' split
  all_goals omega
theorem pot_tell {a c : Nat} (_h : a + c ≤ 400) : vP (400 - a) ≤ vP c + 100 := by have := vP_le (400 - a); omega

/-- A stream's numbers behind n calls. -/
structure Pot (n rd top told : Nat) : Prop where
  rt : rd ≤ top
  tt : top ≤ told
  win : told ≤ rd + 400
  pot : rd + uP (top - rd) + vP (told - top) ≤ 100 * (n + 2)
theorem Pot.start : Pot 0 0 0 400 := ⟨by omega, by omega, by omega, by decide⟩
theorem Pot.bound {n rd top told : Nat} (h : Pot n rd top told) : told ≤ 100 * n + 600 := by
  have := h.pot
  have := h.win
  omega
theorem Pot.more {n rd top told : Nat} (h : Pot n rd top told) : Pot (n + 1) rd top told := ⟨h.rt, h.tt, h.win, by have := h.pot; omega⟩
theorem Pot.take {n rd top told rd' : Nat} (h : Pot n rd top told) (h1 : rd ≤ rd') (h2 : rd' ≤ top) (h3 : rd' ≤ rd + 249) : Pot (n + 1) rd' top told := by
  have a1 := h.rt
  have a2 := h.tt
  have a3 := h.win
  have a4 := h.pot
  have h5 := pot_take (a := top - rd) (b := rd' - rd) (by omega) (by omega) (by omega)
  rw [show top - rd - (rd' - rd) = top - rd' by omega] at h5
  exact ⟨h2, a2, by omega, by omega⟩
theorem Pot.put {n rd top told top' : Nat} (h : Pot n rd top told) (h1 : top ≤ top') (h2 : top' ≤ told) : Pot (n + 1) rd top' told := by
  have a1 := h.rt
  have a2 := h.tt
  have a3 := h.win
  have a4 := h.pot
  have h5 := pot_put (a := top - rd) (c := told - top) (d := top' - top) (by omega) (by omega)
  rw [show top - rd + (top' - top) = top' - rd by omega, show told - top - (top' - top) = told - top' by omega] at h5
  exact ⟨by omega, h2, a3, by omega⟩
theorem Pot.tell {n rd top told : Nat} (h : Pot n rd top told) : Pot (n + 1) rd top (max told (rd + 400)) := by
  have a1 := h.rt
  have a2 := h.tt
  have a3 := h.win
  have a4 := h.pot
  have h5 := pot_tell (a := top - rd) (c := told - top) (by omega)
  rw [show max told (rd + 400) = rd + 400 by omega]
  rw [show 400 - (top - rd) = rd + 400 - top by omega] at h5
  exact ⟨a1, by omega, by omega, by omega⟩
end Go.Proofs.Ytbkpapdbidbhaaa

/-
  FragsTells: plain part.
-/
import Derived.Test.YtdcbgjbhoejpnaaRefFr8
namespace Go.Proofs.Ytdcbgjbhoejpnaa
open Go.RowKit

theorem putD_take {d p : List UInt8} {fr n : Nat} (h : fr + p.length ≤ n) (hn : n ≤ d.length) : (putD d fr p).take n = putD (d.take n) fr p := by
  have hl : (d.take n).length = n := by rw [List.length_take]; omega
  apply List.ext_getElem?
  intro j
  rw [List.getElem?_take, putD_get (by omega), putD_get (by rw [hl]; omega), List.getElem?_take]
  by_cases e1 : fr ≤ j ∧ j < fr + p.length
  · rw [if_pos e1, if_pos e1, if_pos (by omega)]
  · rw [if_neg e1, if_neg e1]
theorem rel_set {L L' : List Pr} {bs : List Bool} {k : Nat} (hl : bs.length = 8) (hk : k < 8) (hI : ∀ j : Nat, j < 8 → (InL L (j : Int) ↔ bs[j]? = some true)) (hL : ∀ j : Int, InL L' j ↔ InL L j ∨ j = (k : Int)) :
    ∀ j : Nat, j < 8 → (InL L' (j : Int) ↔ (bs.set k true)[j]? = some true) := by
  intro j hj
  rw [hL, hI j hj, List.getElem?_set]
  by_cases e : k = j
  · subst e
    rw [if_pos rfl, if_pos (by omega)]
    simp
  · rw [if_neg e]
    constructor
    · rintro (h | h)
      · exact h
      · omega
    · exact .inl
theorem full_alike {L : List Pr} {bs : List Bool} {ct : Nat} (hN : NormL 8 L) (hc : ct ≤ 8) (hl : bs.length = 8) (hI : ∀ j : Nat, j < 8 → (InL L (j : Int) ↔ bs[j]? = some true)) : fullB L (ct : Int) = rfullB bs ct := by
  have h1 := full_iff hN (ct := (ct : Int)) (by omega) (by omega)
  have h2 := rfull_iff (bs := bs) (ct := ct) (by omega)
  have h3 : (∀ k : Nat, (k : Int) < (ct : Int) → InL L k) ↔ ∀ k, k < ct → bs[k]? = some true :=
    ⟨fun h k hk => (hI k (by omega)).1 (h k (by omega)), fun h k hk => (hI k (by omega)).2 (h k (by omega))⟩
  rw [Bool.eq_iff_iff, h1, h2]
  exact h3
end Go.Proofs.Ytdcbgjbhoejpnaa

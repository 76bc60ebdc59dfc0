/-
  What a Drop makes has at most one run more.
-/
import Derived.Test.YtbkpapdbidbhaaaSpan5
import Derived.Test.YtbkpapdbidbhaaaSpan2
namespace Go.Proofs.Ytbkpapdbidbhaaa
open Go.RowKit

theorem dropR_far {f t : Int} {r : Pr} (h0 : f < t) (h1 : t < r.1) : (dropR f t r).length ≤ 1 := by
  unfold dropR
  rw [if_neg (by omega)]
  split <;> simp
theorem dropL_far {f t : Int} (h0 : f < t) : ∀ (L : List Pr), (∀ x ∈ L, t < x.1) → (dropL L f t).length ≤ L.length
  | [], _ => by simp [dropL]
  | r :: L, h => by
    have h1 := dropR_far h0 (h r (by simp))
    have h2 := dropL_far h0 L (fun x hx => h x (by simp [hx]))
    simp only [dropL, List.flatMap_cons, List.length_append, List.length_cons] at h2 ⊢
    omega
theorem dropL_len {E : Int} {f t : Int} (h0 : f < t) : ∀ (L : List Pr), NormL E L → (dropL L f t).length ≤ L.length + 1
  | [], _ => by simp [dropL]
  | r :: L, hN => by
    obtain ⟨c1, c2, c3, c4, c5⟩ := hN.cons
    by_cases hr : r.1 < min r.2 f ∧ max r.1 t < r.2
    · have h2 := dropL_far h0 L (fun x hx => by have := c2 x hx; omega)
      have h1 : (dropR f t r).length = 2 := by unfold dropR; rw [if_pos hr.1, if_pos hr.2]; rfl
      simp only [dropL, List.flatMap_cons, List.length_append, List.length_cons] at h2 ⊢
      omega
    · have h2 := dropL_len h0 L c1
      have h1 : (dropR f t r).length ≤ 1 := by
        unfold dropR
        by_cases e : r.1 < min r.2 f
        · rw [if_pos e, if_neg (fun h => hr ⟨e, h⟩)]; simp
        · rw [if_neg e]; split <;> simp
      simp only [dropL, List.flatMap_cons, List.length_append, List.length_cons] at h2 ⊢
      omega
theorem dropS_len {E : Int} {L : List Pr} (hN : NormL E L) (f t : Int) : (dropS L f t).length ≤ L.length + 1 := by
  unfold dropS
  split
  · rename_i h; exact dropL_len h L hN
  · omega
end Go.Proofs.Ytbkpapdbidbhaaa

/-
  What an Add makes has at most one run more.
-/
import Derived.Test.YtbkpapdbidbhaaaSpan5
namespace Go.Proofs.Ytbkpapdbidbhaaa
open Go.RowKit

theorem add_len : ∀ (L : List Pr) (s : AddS), (L.foldl addStep s).out.length + (if (L.foldl addStep s).done = true then 0 else 1) ≤ s.out.length + (if s.done = true then 0 else 1) + L.length := by
  intro L
  induction L with
  | nil => intro s; exact Nat.le_refl _
  | cons r L ih =>
    intro s
    have := ih (addStep s r)
    have h1 : (addStep s r).out.length + (if (addStep s r).done = true then 0 else 1) ≤ s.out.length + (if s.done = true then 0 else 1) + 1 := by
      unfold addStep
      split
      · simp; omega
      · split
        · cases hd : s.done <;> simp
        · simp
    rw [List.foldl_cons, List.length_cons]
    omega
theorem addS_len (L : List Pr) (f t : Int) : (addS L f t).length ≤ L.length + 1 := by
  unfold addS
  split
  · have := add_len L ⟨[], false, bringS f, bringS t⟩
    simp at this
    unfold addL addEnd
    cases hd : (L.foldl addStep ⟨[], false, bringS f, bringS t⟩).done
    · rw [hd] at this; simp at this; simp; omega
    · rw [hd] at this; simp at this; simp; omega
  · omega
end Go.Proofs.Ytbkpapdbidbhaaa

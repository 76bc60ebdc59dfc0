/-
  Package spans: Drop.
-/
import Derived.Test.YtbkpapdbidbhaaaSpan
namespace Go.Proofs.Ytbkpapdbidbhaaa
open Go.RowKit

/-- What Drop makes of the runs. -/
def dropS (L : List Pr) (f t : Int) : List Pr := if bringS f < bringS t then dropL L (bringS f) (bringS t) else L
theorem drop_snoc {L : List Pr} {i : Nat} {r : Pr} (f t : Int) (h : L[i]? = some r) : dropL (L.take (i + 1)) f t = dropL (L.take i) f t ++ dropR f t r := by
  rw [takeP h, dropL, List.flatMap_append, ← dropL]; simp


end Go.Proofs.Ytbkpapdbidbhaaa

/-
  No cell of these rows narrows 'for every input' (looked for: loops, veiled, ifaces, maps, wideKeys, modest, calm, conditions, laid).
  DERIVED. THE GIVEN ROWS OF THIS SEAT. 8 by the template 'for every input the law returns true; each argument reads behind the call as it read before'; 0 by the template 'total and deterministic' (their statements: YtdcbgjbhoejpnaaTotals.lean).
  GIVEN WITH THE SEED: the statements are not yours to turn. If you find one false, say at which input.
  Laid BY PROGRAM, IN A SANDBOX (cutbox-rows.mjs): the forced cells as the released guide's own fill.sh prints them over the translation 7ebcf494f80b384a… (all of the seat's roots in one cut). By AI agents, Wed Nov 11 2026. No macro, syntax, notation, axiom, sorry.
-/
import Derived.Test.YtdcbgjbhoejpnaaChecked
import GoSem.Claim
import GoSem.ClaimJoined
import GoSem.ClaimMapViews
import Derived.JoinedTies
import Derived.KernelRfl
namespace Go.Proofs.Ytdcbgjbhoejpnaa
/- THE CELL 'sum', in the pinned program and in every row, IS THE sha256 OF THE DUMP (.gsa) THAT YtdcbgjbhoejpnaaProg.lean LOADS. Nothing in Lean hashes anything: it is a label: what it is worth is what the hold of that sum in a sandbox is worth. -/
noncomputable def Try.pinned : Pinned := { name := "ytdcbgjbhoejpnaa", sum := "7ebcf494f80b384a4888b721e7a2d40d06f3388ff73e84c146d5506f0826d25e", checked := Try.checked }
namespace Rows
def none {H : Type} : Left H := { results := [], args := [] }

/-- 'argosylaw3.SpansCopies': WHATEVER THE INPUT: true; the input reads as it did. -/
def spansCopiesSpec : ChangeSpec := { name := "spansCopies", fn := fun _ => fun
  | [d1, d2] => { results := [.lit (.bool true)], args := [d1, d2] }
  | _ => none }
def spansCopiesRow : OpenClaim := { program := "ytdcbgjbhoejpnaa", sum := "7ebcf494f80b384a4888b721e7a2d40d06f3388ff73e84c146d5506f0826d25e", func := "argosy/argosylaw3.SpansCopies", spec := "spansCopies", unfollowed := true, recurses := true, apart := false }
def SpansCopiesSaid : Prop := spansCopiesRow.holds Try.pinned (OpenSpec.ofChange spansCopiesSpec)

/-- ITS FALSE NEIGHBOUR: 'it returns false'. Refute it at one input. -/
def spansCopiesWrong : ChangeSpec := { name := "spansCopies", fn := fun _ => fun
  | [d1, d2] => { results := [.lit (.bool false)], args := [d1, d2] }
  | _ => none }
def SpansCopiesWrongFalsely : Prop := spansCopiesRow.holds Try.pinned (OpenSpec.ofChange spansCopiesWrong)

/-- 'argosylaw3.SpansIsSet': WHATEVER THE INPUT: true; the input reads as it did. -/
def spansIsSetSpec : ChangeSpec := { name := "spansIsSet", fn := fun _ => fun
  | [d1, d2, d3] => { results := [.lit (.bool true)], args := [d1, d2, d3] }
  | _ => none }
def spansIsSetRow : OpenClaim := { program := "ytdcbgjbhoejpnaa", sum := "7ebcf494f80b384a4888b721e7a2d40d06f3388ff73e84c146d5506f0826d25e", func := "argosy/argosylaw3.SpansIsSet", spec := "spansIsSet", unfollowed := true, recurses := true, apart := false }
def SpansIsSetSaid : Prop := spansIsSetRow.holds Try.pinned (OpenSpec.ofChange spansIsSetSpec)

/-- ITS FALSE NEIGHBOUR: 'it returns false'. Refute it at one input. -/
def spansIsSetWrong : ChangeSpec := { name := "spansIsSet", fn := fun _ => fun
  | [d1, d2, d3] => { results := [.lit (.bool false)], args := [d1, d2, d3] }
  | _ => none }
def SpansIsSetWrongFalsely : Prop := spansIsSetRow.holds Try.pinned (OpenSpec.ofChange spansIsSetWrong)

/-- 'argosylaw3.SpansOrders': WHATEVER THE INPUT: true; the input reads as it did. -/
def spansOrdersSpec : ChangeSpec := { name := "spansOrders", fn := fun _ => fun
  | [d1, d2, d3, d4] => { results := [.lit (.bool true)], args := [d1, d2, d3, d4] }
  | _ => none }
def spansOrdersRow : OpenClaim := { program := "ytdcbgjbhoejpnaa", sum := "7ebcf494f80b384a4888b721e7a2d40d06f3388ff73e84c146d5506f0826d25e", func := "argosy/argosylaw3.SpansOrders", spec := "spansOrders", unfollowed := true, recurses := true, apart := false }
def SpansOrdersSaid : Prop := spansOrdersRow.holds Try.pinned (OpenSpec.ofChange spansOrdersSpec)

/-- ITS FALSE NEIGHBOUR: 'it returns false'. Refute it at one input. -/
def spansOrdersWrong : ChangeSpec := { name := "spansOrders", fn := fun _ => fun
  | [d1, d2, d3, d4] => { results := [.lit (.bool false)], args := [d1, d2, d3, d4] }
  | _ => none }
def SpansOrdersWrongFalsely : Prop := spansOrdersRow.holds Try.pinned (OpenSpec.ofChange spansOrdersWrong)

/-- 'argosylaw3.SpansKnown': WHATEVER THE INPUT: true; the input reads as it did. -/
def spansKnownSpec : ChangeSpec := { name := "spansKnown", fn := fun _ => fun
  | [] => { results := [.lit (.bool true)], args := [] }
  | _ => none }
def spansKnownRow : OpenClaim := { program := "ytdcbgjbhoejpnaa", sum := "7ebcf494f80b384a4888b721e7a2d40d06f3388ff73e84c146d5506f0826d25e", func := "argosy/argosylaw3.SpansKnown", spec := "spansKnown", unfollowed := true, recurses := true, apart := false }
def SpansKnownSaid : Prop := spansKnownRow.holds Try.pinned (OpenSpec.ofChange spansKnownSpec)

/-- ITS FALSE NEIGHBOUR: 'it returns false'. Refute it at one input. -/
def spansKnownWrong : ChangeSpec := { name := "spansKnown", fn := fun _ => fun
  | [] => { results := [.lit (.bool false)], args := [] }
  | _ => none }
def SpansKnownWrongFalsely : Prop := spansKnownRow.holds Try.pinned (OpenSpec.ofChange spansKnownWrong)

/-- 'argosylaw19.FragsKnown': WHATEVER THE INPUT: true; the input reads as it did. -/
def fragsKnownSpec : ChangeSpec := { name := "fragsKnown", fn := fun _ => fun
  | [] => { results := [.lit (.bool true)], args := [] }
  | _ => none }
def fragsKnownRow : OpenClaim := { program := "ytdcbgjbhoejpnaa", sum := "7ebcf494f80b384a4888b721e7a2d40d06f3388ff73e84c146d5506f0826d25e", func := "argosy/argosylaw19.FragsKnown", spec := "fragsKnown", unfollowed := true, recurses := true, apart := false }
def FragsKnownSaid : Prop := fragsKnownRow.holds Try.pinned (OpenSpec.ofChange fragsKnownSpec)

/-- ITS FALSE NEIGHBOUR: 'it returns false'. Refute it at one input. -/
def fragsKnownWrong : ChangeSpec := { name := "fragsKnown", fn := fun _ => fun
  | [] => { results := [.lit (.bool false)], args := [] }
  | _ => none }
def FragsKnownWrongFalsely : Prop := fragsKnownRow.holds Try.pinned (OpenSpec.ofChange fragsKnownWrong)

/-- 'argosylaw19.FragsTells': WHATEVER THE INPUT: true; the input reads as it did. -/
def fragsTellsSpec : ChangeSpec := { name := "fragsTells", fn := fun _ => fun
  | [d1, d2, d3, d4, d5, d6] => { results := [.lit (.bool true)], args := [d1, d2, d3, d4, d5, d6] }
  | _ => none }
def fragsTellsRow : OpenClaim := { program := "ytdcbgjbhoejpnaa", sum := "7ebcf494f80b384a4888b721e7a2d40d06f3388ff73e84c146d5506f0826d25e", func := "argosy/argosylaw19.FragsTells", spec := "fragsTells", unfollowed := true, recurses := true, apart := false }
def FragsTellsSaid : Prop := fragsTellsRow.holds Try.pinned (OpenSpec.ofChange fragsTellsSpec)

/-- ITS FALSE NEIGHBOUR: 'it returns false'. Refute it at one input. -/
def fragsTellsWrong : ChangeSpec := { name := "fragsTells", fn := fun _ => fun
  | [d1, d2, d3, d4, d5, d6] => { results := [.lit (.bool false)], args := [d1, d2, d3, d4, d5, d6] }
  | _ => none }
def FragsTellsWrongFalsely : Prop := fragsTellsRow.holds Try.pinned (OpenSpec.ofChange fragsTellsWrong)

/-- 'argosylaw19.FragsAll': WHATEVER THE INPUT: true; the input reads as it did. -/
def fragsAllSpec : ChangeSpec := { name := "fragsAll", fn := fun _ => fun
  | [d1, d2, d3, d4, d5] => { results := [.lit (.bool true)], args := [d1, d2, d3, d4, d5] }
  | _ => none }
def fragsAllRow : OpenClaim := { program := "ytdcbgjbhoejpnaa", sum := "7ebcf494f80b384a4888b721e7a2d40d06f3388ff73e84c146d5506f0826d25e", func := "argosy/argosylaw19.FragsAll", spec := "fragsAll", unfollowed := true, recurses := true, apart := false }
def FragsAllSaid : Prop := fragsAllRow.holds Try.pinned (OpenSpec.ofChange fragsAllSpec)

/-- ITS FALSE NEIGHBOUR: 'it returns false'. Refute it at one input. -/
def fragsAllWrong : ChangeSpec := { name := "fragsAll", fn := fun _ => fun
  | [d1, d2, d3, d4, d5] => { results := [.lit (.bool false)], args := [d1, d2, d3, d4, d5] }
  | _ => none }
def FragsAllWrongFalsely : Prop := fragsAllRow.holds Try.pinned (OpenSpec.ofChange fragsAllWrong)

/-- 'argosylaw19.FragsOwn': WHATEVER THE INPUT: true; the input reads as it did. -/
def fragsOwnSpec : ChangeSpec := { name := "fragsOwn", fn := fun _ => fun
  | [d1, d2, d3] => { results := [.lit (.bool true)], args := [d1, d2, d3] }
  | _ => none }
def fragsOwnRow : OpenClaim := { program := "ytdcbgjbhoejpnaa", sum := "7ebcf494f80b384a4888b721e7a2d40d06f3388ff73e84c146d5506f0826d25e", func := "argosy/argosylaw19.FragsOwn", spec := "fragsOwn", unfollowed := true, recurses := true, apart := false }
def FragsOwnSaid : Prop := fragsOwnRow.holds Try.pinned (OpenSpec.ofChange fragsOwnSpec)

/-- ITS FALSE NEIGHBOUR: 'it returns false'. Refute it at one input. -/
def fragsOwnWrong : ChangeSpec := { name := "fragsOwn", fn := fun _ => fun
  | [d1, d2, d3] => { results := [.lit (.bool false)], args := [d1, d2, d3] }
  | _ => none }
def FragsOwnWrongFalsely : Prop := fragsOwnRow.holds Try.pinned (OpenSpec.ofChange fragsOwnWrong)

/- THE SECOND FORM. 'bulk': how many values and letters a reading holds, each counted each time it is reached (what is shared counts as often as it is met; a slice's spare places count too). A statement '..UptoSaid' is the law's where the arguments, and the package variables that the reading takes, are together of bulk at most 1048576: NARROWER than '..Said'. Prove '..Said' where nothing that the law and all that it calls make is longer than what came in: it says more and counts as full. Else prove '..UptoSaid'. A law counts once. -/
mutual
def uptoBulk {H : Type} : DataW H → Nat
  | .lit (.string bytes) => bytes.length + 1
  | .lit _ => 1
  | .nil => 1
  | .ptr d => uptoBulk d + 1
  | .slice elems spare => uptoBulkAll elems + uptoBulkAll spare + 1
  | .agg parts => uptoBulkAll parts + 1
  | .iface _ d => uptoBulk d + 1
  | .map entries => uptoBulkEntries entries + 1
  | .held _ => 1
def uptoBulkAll {H : Type} : List (DataW H) → Nat
  | [] => 0
  | d :: r => uptoBulk d + uptoBulkAll r
def uptoBulkEntries {H : Type} : List (Lit × DataW H) → Nat
  | [] => 0
  | x :: r => uptoBulkEntry x + uptoBulkEntries r
def uptoBulkEntry {H : Type} : Lit × DataW H → Nat
  | (.string bytes, d) => bytes.length + uptoBulk d + 1
  | (_, d) => uptoBulk d + 1
 end
def uptoSmall : (H : Type) → List (DataW H) → Bool := fun _ ds => decide (uptoBulkAll ds ≤ 1048576)
def OpenSpec.upto (s : _root_.Go.ChangeSpec) : _root_.Go.OpenSpec := { _root_.Go.OpenSpec.ofChange s with cond := some uptoSmall }

/-- 'argosylaw3.SpansCopies', WHERE WHAT IT READS IS OF BULK AT MOST 1048576: true; the input reads as it did. -/
def spansCopiesUptoRow : OpenClaim := { program := "ytdcbgjbhoejpnaa", sum := "7ebcf494f80b384a4888b721e7a2d40d06f3388ff73e84c146d5506f0826d25e", func := "argosy/argosylaw3.SpansCopies", spec := "spansCopies", unfollowed := true, recurses := true, apart := false, narrowed := true }
def SpansCopiesUptoSaid : Prop := spansCopiesUptoRow.holds Try.pinned (OpenSpec.upto spansCopiesSpec)

/-- 'argosylaw3.SpansIsSet', WHERE WHAT IT READS IS OF BULK AT MOST 1048576: true; the input reads as it did. -/
def spansIsSetUptoRow : OpenClaim := { program := "ytdcbgjbhoejpnaa", sum := "7ebcf494f80b384a4888b721e7a2d40d06f3388ff73e84c146d5506f0826d25e", func := "argosy/argosylaw3.SpansIsSet", spec := "spansIsSet", unfollowed := true, recurses := true, apart := false, narrowed := true }
def SpansIsSetUptoSaid : Prop := spansIsSetUptoRow.holds Try.pinned (OpenSpec.upto spansIsSetSpec)

/-- 'argosylaw3.SpansOrders', WHERE WHAT IT READS IS OF BULK AT MOST 1048576: true; the input reads as it did. -/
def spansOrdersUptoRow : OpenClaim := { program := "ytdcbgjbhoejpnaa", sum := "7ebcf494f80b384a4888b721e7a2d40d06f3388ff73e84c146d5506f0826d25e", func := "argosy/argosylaw3.SpansOrders", spec := "spansOrders", unfollowed := true, recurses := true, apart := false, narrowed := true }
def SpansOrdersUptoSaid : Prop := spansOrdersUptoRow.holds Try.pinned (OpenSpec.upto spansOrdersSpec)

/-- 'argosylaw3.SpansKnown', WHERE WHAT IT READS IS OF BULK AT MOST 1048576: true; the input reads as it did. -/
def spansKnownUptoRow : OpenClaim := { program := "ytdcbgjbhoejpnaa", sum := "7ebcf494f80b384a4888b721e7a2d40d06f3388ff73e84c146d5506f0826d25e", func := "argosy/argosylaw3.SpansKnown", spec := "spansKnown", unfollowed := true, recurses := true, apart := false, narrowed := true }
def SpansKnownUptoSaid : Prop := spansKnownUptoRow.holds Try.pinned (OpenSpec.upto spansKnownSpec)

/-- 'argosylaw19.FragsKnown', WHERE WHAT IT READS IS OF BULK AT MOST 1048576: true; the input reads as it did. -/
def fragsKnownUptoRow : OpenClaim := { program := "ytdcbgjbhoejpnaa", sum := "7ebcf494f80b384a4888b721e7a2d40d06f3388ff73e84c146d5506f0826d25e", func := "argosy/argosylaw19.FragsKnown", spec := "fragsKnown", unfollowed := true, recurses := true, apart := false, narrowed := true }
def FragsKnownUptoSaid : Prop := fragsKnownUptoRow.holds Try.pinned (OpenSpec.upto fragsKnownSpec)

/-- 'argosylaw19.FragsTells', WHERE WHAT IT READS IS OF BULK AT MOST 1048576: true; the input reads as it did. -/
def fragsTellsUptoRow : OpenClaim := { program := "ytdcbgjbhoejpnaa", sum := "7ebcf494f80b384a4888b721e7a2d40d06f3388ff73e84c146d5506f0826d25e", func := "argosy/argosylaw19.FragsTells", spec := "fragsTells", unfollowed := true, recurses := true, apart := false, narrowed := true }
def FragsTellsUptoSaid : Prop := fragsTellsUptoRow.holds Try.pinned (OpenSpec.upto fragsTellsSpec)

/-- 'argosylaw19.FragsAll', WHERE WHAT IT READS IS OF BULK AT MOST 1048576: true; the input reads as it did. -/
def fragsAllUptoRow : OpenClaim := { program := "ytdcbgjbhoejpnaa", sum := "7ebcf494f80b384a4888b721e7a2d40d06f3388ff73e84c146d5506f0826d25e", func := "argosy/argosylaw19.FragsAll", spec := "fragsAll", unfollowed := true, recurses := true, apart := false, narrowed := true }
def FragsAllUptoSaid : Prop := fragsAllUptoRow.holds Try.pinned (OpenSpec.upto fragsAllSpec)

/-- 'argosylaw19.FragsOwn', WHERE WHAT IT READS IS OF BULK AT MOST 1048576: true; the input reads as it did. -/
def fragsOwnUptoRow : OpenClaim := { program := "ytdcbgjbhoejpnaa", sum := "7ebcf494f80b384a4888b721e7a2d40d06f3388ff73e84c146d5506f0826d25e", func := "argosy/argosylaw19.FragsOwn", spec := "fragsOwn", unfollowed := true, recurses := true, apart := false, narrowed := true }
def FragsOwnUptoSaid : Prop := fragsOwnUptoRow.holds Try.pinned (OpenSpec.upto fragsOwnSpec)

end Rows
end Go.Proofs.Ytdcbgjbhoejpnaa

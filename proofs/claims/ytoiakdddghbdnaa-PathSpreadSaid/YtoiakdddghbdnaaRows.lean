/-
  No cell of these rows narrows 'for every input' (looked for: loops, veiled, ifaces, maps, wideKeys, modest, calm, conditions, laid).
  DERIVED. THE GIVEN ROWS OF THIS SEAT. 3 by the template 'for every input the law returns true; each argument reads behind the call as it read before'; 0 by the template 'total and deterministic' (their statements: YtoiakdddghbdnaaTotals.lean).
  GIVEN WITH THE SEED: the statements are not yours to turn. If you find one false, say at which input.
  Laid BY PROGRAM, IN A SANDBOX (cutbox-rows.mjs): the forced cells as the released guide's own fill.sh prints them over the translation c8b8eac7ae353403… (all of the seat's roots in one cut). By AI agents, Wed Nov 11 2026. No macro, syntax, notation, axiom, sorry.
-/
import Derived.Test.YtoiakdddghbdnaaChecked
import GoSem.Claim
import GoSem.ClaimJoined
import GoSem.ClaimMapViews
import Derived.JoinedTies
import Derived.KernelRfl
namespace Go.Proofs.Ytoiakdddghbdnaa
/- THE CELL 'sum', in the pinned program and in every row, IS THE sha256 OF THE DUMP (.gsa) THAT YtoiakdddghbdnaaProg.lean LOADS. Nothing in Lean hashes anything: it is a label: what it is worth is what the hold of that sum in a sandbox is worth. -/
noncomputable def Try.pinned : Pinned := { name := "ytoiakdddghbdnaa", sum := "c8b8eac7ae353403fe1102a3a614fb3d6dd2e8425bd6ccebecfd37e1828801d8", checked := Try.checked }
namespace Rows
def none {H : Type} : Left H := { results := [], args := [] }

/-- 'argosylaw11.PathSpread': WHATEVER THE INPUT: true; the input reads as it did. -/
def pathSpreadSpec : ChangeSpec := { name := "pathSpread", fn := fun _ => fun
  | [d1, d2, d3] => { results := [.lit (.bool true)], args := [d1, d2, d3] }
  | _ => none }
def pathSpreadRow : OpenClaim := { program := "ytoiakdddghbdnaa", sum := "c8b8eac7ae353403fe1102a3a614fb3d6dd2e8425bd6ccebecfd37e1828801d8", func := "argosy/argosylaw11.PathSpread", spec := "pathSpread", unfollowed := true, recurses := true, apart := false }
def PathSpreadSaid : Prop := pathSpreadRow.holds Try.pinned (OpenSpec.ofChange pathSpreadSpec)

/-- ITS FALSE NEIGHBOUR: 'it returns false'. Refute it at one input. -/
def pathSpreadWrong : ChangeSpec := { name := "pathSpread", fn := fun _ => fun
  | [d1, d2, d3] => { results := [.lit (.bool false)], args := [d1, d2, d3] }
  | _ => none }
def PathSpreadWrongFalsely : Prop := pathSpreadRow.holds Try.pinned (OpenSpec.ofChange pathSpreadWrong)

/-- 'argosylaw11.PathKnown': WHATEVER THE INPUT: true; the input reads as it did. -/
def pathKnownSpec : ChangeSpec := { name := "pathKnown", fn := fun _ => fun
  | [] => { results := [.lit (.bool true)], args := [] }
  | _ => none }
def pathKnownRow : OpenClaim := { program := "ytoiakdddghbdnaa", sum := "c8b8eac7ae353403fe1102a3a614fb3d6dd2e8425bd6ccebecfd37e1828801d8", func := "argosy/argosylaw11.PathKnown", spec := "pathKnown", unfollowed := true, recurses := true, apart := false }
def PathKnownSaid : Prop := pathKnownRow.holds Try.pinned (OpenSpec.ofChange pathKnownSpec)

/-- ITS FALSE NEIGHBOUR: 'it returns false'. Refute it at one input. -/
def pathKnownWrong : ChangeSpec := { name := "pathKnown", fn := fun _ => fun
  | [] => { results := [.lit (.bool false)], args := [] }
  | _ => none }
def PathKnownWrongFalsely : Prop := pathKnownRow.holds Try.pinned (OpenSpec.ofChange pathKnownWrong)

/-- 'argosylaw11.PathFlight': WHATEVER THE INPUT: true; the input reads as it did. -/
def pathFlightSpec : ChangeSpec := { name := "pathFlight", fn := fun _ => fun
  | [d] => { results := [.lit (.bool true)], args := [d] }
  | _ => none }
def pathFlightRow : OpenClaim := { program := "ytoiakdddghbdnaa", sum := "c8b8eac7ae353403fe1102a3a614fb3d6dd2e8425bd6ccebecfd37e1828801d8", func := "argosy/argosylaw11.PathFlight", spec := "pathFlight", unfollowed := true, recurses := true, apart := false }
def PathFlightSaid : Prop := pathFlightRow.holds Try.pinned (OpenSpec.ofChange pathFlightSpec)

/-- ITS FALSE NEIGHBOUR: 'it returns false'. Refute it at one input. -/
def pathFlightWrong : ChangeSpec := { name := "pathFlight", fn := fun _ => fun
  | [d] => { results := [.lit (.bool false)], args := [d] }
  | _ => none }
def PathFlightWrongFalsely : Prop := pathFlightRow.holds Try.pinned (OpenSpec.ofChange pathFlightWrong)

/- THE SECOND FORM. 'bulk': how many values and letters a reading holds, each counted each time it is reached (what is shared counts as often as it is met; a slice's spare places count too). A statement '..UptoSaid' is the law's where the arguments, and the package variables that the reading takes, are together of bulk at most 1048576: NARROWER than '..Said'. Prove '..Said' where nothing that the law and all that it calls make is longer than what came in: it says more and counts as full. Else prove '..UptoSaid'. A law counts once. -/
mutual
def uptoBulk {H : Type} : DataW H → Nat
  | .lit (.string bytes) => bytes.length + 1
  | .lit _ => 1
  | .nil => 1
  | .ptr d => uptoBulk d + 1
  | .slice elems spare => uptoBulkAll elems + uptoBulkAll spare + 1
  | .agg parts => uptoBulkAll parts + 1
  | .iface _ d => uptoBulk d + 1
  | .map entries => uptoBulkEntries entries + 1
  | .held _ => 1
def uptoBulkAll {H : Type} : List (DataW H) → Nat
  | [] => 0
  | d :: r => uptoBulk d + uptoBulkAll r
def uptoBulkEntries {H : Type} : List (Lit × DataW H) → Nat
  | [] => 0
  | x :: r => uptoBulkEntry x + uptoBulkEntries r
def uptoBulkEntry {H : Type} : Lit × DataW H → Nat
  | (.string bytes, d) => bytes.length + uptoBulk d + 1
  | (_, d) => uptoBulk d + 1
 end
def uptoSmall : (H : Type) → List (DataW H) → Bool := fun _ ds => decide (uptoBulkAll ds ≤ 1048576)
def OpenSpec.upto (s : _root_.Go.ChangeSpec) : _root_.Go.OpenSpec := { _root_.Go.OpenSpec.ofChange s with cond := some uptoSmall }

/-- 'argosylaw11.PathSpread', WHERE WHAT IT READS IS OF BULK AT MOST 1048576: true; the input reads as it did. -/
def pathSpreadUptoRow : OpenClaim := { program := "ytoiakdddghbdnaa", sum := "c8b8eac7ae353403fe1102a3a614fb3d6dd2e8425bd6ccebecfd37e1828801d8", func := "argosy/argosylaw11.PathSpread", spec := "pathSpread", unfollowed := true, recurses := true, apart := false, narrowed := true }
def PathSpreadUptoSaid : Prop := pathSpreadUptoRow.holds Try.pinned (OpenSpec.upto pathSpreadSpec)

/-- 'argosylaw11.PathKnown', WHERE WHAT IT READS IS OF BULK AT MOST 1048576: true; the input reads as it did. -/
def pathKnownUptoRow : OpenClaim := { program := "ytoiakdddghbdnaa", sum := "c8b8eac7ae353403fe1102a3a614fb3d6dd2e8425bd6ccebecfd37e1828801d8", func := "argosy/argosylaw11.PathKnown", spec := "pathKnown", unfollowed := true, recurses := true, apart := false, narrowed := true }
def PathKnownUptoSaid : Prop := pathKnownUptoRow.holds Try.pinned (OpenSpec.upto pathKnownSpec)

/-- 'argosylaw11.PathFlight', WHERE WHAT IT READS IS OF BULK AT MOST 1048576: true; the input reads as it did. -/
def pathFlightUptoRow : OpenClaim := { program := "ytoiakdddghbdnaa", sum := "c8b8eac7ae353403fe1102a3a614fb3d6dd2e8425bd6ccebecfd37e1828801d8", func := "argosy/argosylaw11.PathFlight", spec := "pathFlight", unfollowed := true, recurses := true, apart := false, narrowed := true }
def PathFlightUptoSaid : Prop := pathFlightUptoRow.holds Try.pinned (OpenSpec.upto pathFlightSpec)

end Rows
end Go.Proofs.Ytoiakdddghbdnaa

/-
  No cell of these rows narrows 'for every input' (looked for: loops, veiled, ifaces, maps, wideKeys, modest, calm, conditions, laid).
  DERIVED. THE GIVEN ROWS OF THIS SEAT. 6 by the template 'for every input the law returns true; each argument reads behind the call as it read before'; 0 by the template 'total and deterministic' (their statements: YtbkpapdbidbhaaaTotals.lean).
  GIVEN WITH THE SEED: the statements are not yours to turn. If you find one false, say at which input.
  Laid BY PROGRAM, IN A SANDBOX (cutbox-rows.mjs): the forced cells as the released guide's own fill.sh prints them over the translation b5310444da399c3b… (all of the seat's roots in one cut). By AI agents, Wed Nov 11 2026. No macro, syntax, notation, axiom, sorry.
-/
import Derived.Test.YtbkpapdbidbhaaaChecked
import GoSem.Claim
import GoSem.ClaimJoined
import GoSem.ClaimMapViews
import Derived.JoinedTies
import Derived.KernelRfl
namespace Go.Proofs.Ytbkpapdbidbhaaa
/- THE CELL 'sum', in the pinned program and in every row, IS THE sha256 OF THE DUMP (.gsa) THAT YtbkpapdbidbhaaaProg.lean LOADS. Nothing in Lean hashes anything: it is a label: what it is worth is what the hold of that sum in a sandbox is worth. -/
noncomputable def Try.pinned : Pinned := { name := "ytbkpapdbidbhaaa", sum := "b5310444da399c3baf8ce218181a904fdbc2b0415dd398d0e52bfb8828ec2423", checked := Try.checked }
namespace Rows
def none {H : Type} : Left H := { results := [], args := [] }

/-- 'argosylaw14.RecvOnce': WHATEVER THE INPUT: true; the input reads as it did. -/
def recvOnceSpec : ChangeSpec := { name := "recvOnce", fn := fun _ => fun
  | [d1, d2, d3] => { results := [.lit (.bool true)], args := [d1, d2, d3] }
  | _ => none }
def recvOnceRow : OpenClaim := { program := "ytbkpapdbidbhaaa", sum := "b5310444da399c3baf8ce218181a904fdbc2b0415dd398d0e52bfb8828ec2423", func := "argosy/argosylaw14.RecvOnce", spec := "recvOnce", apart := false }
def RecvOnceSaid : Prop := recvOnceRow.holds Try.pinned (OpenSpec.ofChange recvOnceSpec)

/-- ITS FALSE NEIGHBOUR: 'it returns false'. Refute it at one input. -/
def recvOnceWrong : ChangeSpec := { name := "recvOnce", fn := fun _ => fun
  | [d1, d2, d3] => { results := [.lit (.bool false)], args := [d1, d2, d3] }
  | _ => none }
def RecvOnceWrongFalsely : Prop := recvOnceRow.holds Try.pinned (OpenSpec.ofChange recvOnceWrong)

/-- 'argosylaw14.RecvFresh': WHATEVER THE INPUT: true; the input reads as it did. -/
def recvFreshSpec : ChangeSpec := { name := "recvFresh", fn := fun _ => fun
  | [d] => { results := [.lit (.bool true)], args := [d] }
  | _ => none }
def recvFreshRow : OpenClaim := { program := "ytbkpapdbidbhaaa", sum := "b5310444da399c3baf8ce218181a904fdbc2b0415dd398d0e52bfb8828ec2423", func := "argosy/argosylaw14.RecvFresh", spec := "recvFresh", apart := false }
def RecvFreshSaid : Prop := recvFreshRow.holds Try.pinned (OpenSpec.ofChange recvFreshSpec)

/-- ITS FALSE NEIGHBOUR: 'it returns false'. Refute it at one input. -/
def recvFreshWrong : ChangeSpec := { name := "recvFresh", fn := fun _ => fun
  | [d] => { results := [.lit (.bool false)], args := [d] }
  | _ => none }
def RecvFreshWrongFalsely : Prop := recvFreshRow.holds Try.pinned (OpenSpec.ofChange recvFreshWrong)

/-- 'argosylaw14.RecvRefuses': WHATEVER THE INPUT: true; the input reads as it did. -/
def recvRefusesSpec : ChangeSpec := { name := "recvRefuses", fn := fun _ => fun
  | [d1, d2, d3, d4, d5, d6] => { results := [.lit (.bool true)], args := [d1, d2, d3, d4, d5, d6] }
  | _ => none }
def recvRefusesRow : OpenClaim := { program := "ytbkpapdbidbhaaa", sum := "b5310444da399c3baf8ce218181a904fdbc2b0415dd398d0e52bfb8828ec2423", func := "argosy/argosylaw14.RecvRefuses", spec := "recvRefuses", apart := false }
def RecvRefusesSaid : Prop := recvRefusesRow.holds Try.pinned (OpenSpec.ofChange recvRefusesSpec)

/-- ITS FALSE NEIGHBOUR: 'it returns false'. Refute it at one input. -/
def recvRefusesWrong : ChangeSpec := { name := "recvRefuses", fn := fun _ => fun
  | [d1, d2, d3, d4, d5, d6] => { results := [.lit (.bool false)], args := [d1, d2, d3, d4, d5, d6] }
  | _ => none }
def RecvRefusesWrongFalsely : Prop := recvRefusesRow.holds Try.pinned (OpenSpec.ofChange recvRefusesWrong)

/-- 'argosylaw14.RecvSure': WHATEVER THE INPUT: true; the input reads as it did. -/
def recvSureSpec : ChangeSpec := { name := "recvSure", fn := fun _ => fun
  | [d1, d2, d3, d4, d5, d6] => { results := [.lit (.bool true)], args := [d1, d2, d3, d4, d5, d6] }
  | _ => none }
def recvSureRow : OpenClaim := { program := "ytbkpapdbidbhaaa", sum := "b5310444da399c3baf8ce218181a904fdbc2b0415dd398d0e52bfb8828ec2423", func := "argosy/argosylaw14.RecvSure", spec := "recvSure", apart := false }
def RecvSureSaid : Prop := recvSureRow.holds Try.pinned (OpenSpec.ofChange recvSureSpec)

/-- ITS FALSE NEIGHBOUR: 'it returns false'. Refute it at one input. -/
def recvSureWrong : ChangeSpec := { name := "recvSure", fn := fun _ => fun
  | [d1, d2, d3, d4, d5, d6] => { results := [.lit (.bool false)], args := [d1, d2, d3, d4, d5, d6] }
  | _ => none }
def RecvSureWrongFalsely : Prop := recvSureRow.holds Try.pinned (OpenSpec.ofChange recvSureWrong)

/-- 'argosylaw14.RecvKnown': WHATEVER THE INPUT: true; the input reads as it did. -/
def recvKnownSpec : ChangeSpec := { name := "recvKnown", fn := fun _ => fun
  | [] => { results := [.lit (.bool true)], args := [] }
  | _ => none }
def recvKnownRow : OpenClaim := { program := "ytbkpapdbidbhaaa", sum := "b5310444da399c3baf8ce218181a904fdbc2b0415dd398d0e52bfb8828ec2423", func := "argosy/argosylaw14.RecvKnown", spec := "recvKnown", apart := false }
def RecvKnownSaid : Prop := recvKnownRow.holds Try.pinned (OpenSpec.ofChange recvKnownSpec)

/-- ITS FALSE NEIGHBOUR: 'it returns false'. Refute it at one input. -/
def recvKnownWrong : ChangeSpec := { name := "recvKnown", fn := fun _ => fun
  | [] => { results := [.lit (.bool false)], args := [] }
  | _ => none }
def RecvKnownWrongFalsely : Prop := recvKnownRow.holds Try.pinned (OpenSpec.ofChange recvKnownWrong)

/-- 'argosylaw14.RecvTells': WHATEVER THE INPUT: true; the input reads as it did. -/
def recvTellsSpec : ChangeSpec := { name := "recvTells", fn := fun _ => fun
  | [d] => { results := [.lit (.bool true)], args := [d] }
  | _ => none }
def recvTellsRow : OpenClaim := { program := "ytbkpapdbidbhaaa", sum := "b5310444da399c3baf8ce218181a904fdbc2b0415dd398d0e52bfb8828ec2423", func := "argosy/argosylaw14.RecvTells", spec := "recvTells", unfollowed := true, recurses := true, apart := false }
def RecvTellsSaid : Prop := recvTellsRow.holds Try.pinned (OpenSpec.ofChange recvTellsSpec)

/-- ITS FALSE NEIGHBOUR: 'it returns false'. Refute it at one input. -/
def recvTellsWrong : ChangeSpec := { name := "recvTells", fn := fun _ => fun
  | [d] => { results := [.lit (.bool false)], args := [d] }
  | _ => none }
def RecvTellsWrongFalsely : Prop := recvTellsRow.holds Try.pinned (OpenSpec.ofChange recvTellsWrong)

/- THE SECOND FORM. 'bulk': how many values and letters a reading holds, each counted each time it is reached (what is shared counts as often as it is met; a slice's spare places count too). A statement '..UptoSaid' is the law's where the arguments, and the package variables that the reading takes, are together of bulk at most 1048576: NARROWER than '..Said'. Prove '..Said' where nothing that the law and all that it calls make is longer than what came in: it says more and counts as full. Else prove '..UptoSaid'. A law counts once. -/
mutual
def uptoBulk {H : Type} : DataW H → Nat
  | .lit (.string bytes) => bytes.length + 1
  | .lit _ => 1
  | .nil => 1
  | .ptr d => uptoBulk d + 1
  | .slice elems spare => uptoBulkAll elems + uptoBulkAll spare + 1
  | .agg parts => uptoBulkAll parts + 1
  | .iface _ d => uptoBulk d + 1
  | .map entries => uptoBulkEntries entries + 1
  | .held _ => 1
def uptoBulkAll {H : Type} : List (DataW H) → Nat
  | [] => 0
  | d :: r => uptoBulk d + uptoBulkAll r
def uptoBulkEntries {H : Type} : List (Lit × DataW H) → Nat
  | [] => 0
  | x :: r => uptoBulkEntry x + uptoBulkEntries r
def uptoBulkEntry {H : Type} : Lit × DataW H → Nat
  | (.string bytes, d) => bytes.length + uptoBulk d + 1
  | (_, d) => uptoBulk d + 1
 end
def uptoSmall : (H : Type) → List (DataW H) → Bool := fun _ ds => decide (uptoBulkAll ds ≤ 1048576)
def OpenSpec.upto (s : _root_.Go.ChangeSpec) : _root_.Go.OpenSpec := { _root_.Go.OpenSpec.ofChange s with cond := some uptoSmall }

/-- 'argosylaw14.RecvOnce', WHERE WHAT IT READS IS OF BULK AT MOST 1048576: true; the input reads as it did. -/
def recvOnceUptoRow : OpenClaim := { program := "ytbkpapdbidbhaaa", sum := "b5310444da399c3baf8ce218181a904fdbc2b0415dd398d0e52bfb8828ec2423", func := "argosy/argosylaw14.RecvOnce", spec := "recvOnce", apart := false, narrowed := true }
def RecvOnceUptoSaid : Prop := recvOnceUptoRow.holds Try.pinned (OpenSpec.upto recvOnceSpec)

/-- 'argosylaw14.RecvFresh', WHERE WHAT IT READS IS OF BULK AT MOST 1048576: true; the input reads as it did. -/
def recvFreshUptoRow : OpenClaim := { program := "ytbkpapdbidbhaaa", sum := "b5310444da399c3baf8ce218181a904fdbc2b0415dd398d0e52bfb8828ec2423", func := "argosy/argosylaw14.RecvFresh", spec := "recvFresh", apart := false, narrowed := true }
def RecvFreshUptoSaid : Prop := recvFreshUptoRow.holds Try.pinned (OpenSpec.upto recvFreshSpec)

/-- 'argosylaw14.RecvRefuses', WHERE WHAT IT READS IS OF BULK AT MOST 1048576: true; the input reads as it did. -/
def recvRefusesUptoRow : OpenClaim := { program := "ytbkpapdbidbhaaa", sum := "b5310444da399c3baf8ce218181a904fdbc2b0415dd398d0e52bfb8828ec2423", func := "argosy/argosylaw14.RecvRefuses", spec := "recvRefuses", apart := false, narrowed := true }
def RecvRefusesUptoSaid : Prop := recvRefusesUptoRow.holds Try.pinned (OpenSpec.upto recvRefusesSpec)

/-- 'argosylaw14.RecvSure', WHERE WHAT IT READS IS OF BULK AT MOST 1048576: true; the input reads as it did. -/
def recvSureUptoRow : OpenClaim := { program := "ytbkpapdbidbhaaa", sum := "b5310444da399c3baf8ce218181a904fdbc2b0415dd398d0e52bfb8828ec2423", func := "argosy/argosylaw14.RecvSure", spec := "recvSure", apart := false, narrowed := true }
def RecvSureUptoSaid : Prop := recvSureUptoRow.holds Try.pinned (OpenSpec.upto recvSureSpec)

/-- 'argosylaw14.RecvKnown', WHERE WHAT IT READS IS OF BULK AT MOST 1048576: true; the input reads as it did. -/
def recvKnownUptoRow : OpenClaim := { program := "ytbkpapdbidbhaaa", sum := "b5310444da399c3baf8ce218181a904fdbc2b0415dd398d0e52bfb8828ec2423", func := "argosy/argosylaw14.RecvKnown", spec := "recvKnown", apart := false, narrowed := true }
def RecvKnownUptoSaid : Prop := recvKnownUptoRow.holds Try.pinned (OpenSpec.upto recvKnownSpec)

/-- 'argosylaw14.RecvTells', WHERE WHAT IT READS IS OF BULK AT MOST 1048576: true; the input reads as it did. -/
def recvTellsUptoRow : OpenClaim := { program := "ytbkpapdbidbhaaa", sum := "b5310444da399c3baf8ce218181a904fdbc2b0415dd398d0e52bfb8828ec2423", func := "argosy/argosylaw14.RecvTells", spec := "recvTells", unfollowed := true, recurses := true, apart := false, narrowed := true }
def RecvTellsUptoSaid : Prop := recvTellsUptoRow.holds Try.pinned (OpenSpec.upto recvTellsSpec)

end Rows
end Go.Proofs.Ytbkpapdbidbhaaa

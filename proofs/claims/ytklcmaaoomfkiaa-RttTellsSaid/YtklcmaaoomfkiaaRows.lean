/-
  No cell of these rows narrows 'for every input' (looked for: loops, veiled, ifaces, maps, wideKeys, modest, calm, conditions, laid).
  DERIVED. THE GIVEN ROWS OF THIS SEAT. 12 by the template 'for every input the law returns true; each argument reads behind the call as it read before'; 0 by the template 'total and deterministic' (their statements: YtklcmaaoomfkiaaTotals.lean).
  GIVEN WITH THE SEED: the statements are not yours to turn. If you find one false, say at which input.
  Laid BY PROGRAM, IN A SANDBOX (cutbox-rows.mjs): the forced cells as the released guide's own fill.sh prints them over the translation ede228a18deeca5c… (all of the seat's roots in one cut). By AI agents, Wed Nov 11 2026. No macro, syntax, notation, axiom, sorry.
-/
import Derived.Test.YtklcmaaoomfkiaaChecked
import GoSem.Claim
import GoSem.ClaimJoined
import GoSem.ClaimMapViews
import Derived.JoinedTies
import Derived.KernelRfl
namespace Go.Proofs.Ytklcmaaoomfkiaa
/- THE CELL 'sum', in the pinned program and in every row, IS THE sha256 OF THE DUMP (.gsa) THAT YtklcmaaoomfkiaaProg.lean LOADS. Nothing in Lean hashes anything: it is a label: what it is worth is what the hold of that sum in a sandbox is worth. -/
noncomputable def Try.pinned : Pinned := { name := "ytklcmaaoomfkiaa", sum := "ede228a18deeca5cf6f58fbe6b95049d23b04eb51ca56c507f250e3a1d30415a", checked := Try.checked }
namespace Rows
def none {H : Type} : Left H := { results := [], args := [] }

/-- 'argosylaw10.CongKnown': WHATEVER THE INPUT: true; the input reads as it did. -/
def congKnownSpec : ChangeSpec := { name := "congKnown", fn := fun _ => fun
  | [] => { results := [.lit (.bool true)], args := [] }
  | _ => none }
def congKnownRow : OpenClaim := { program := "ytklcmaaoomfkiaa", sum := "ede228a18deeca5cf6f58fbe6b95049d23b04eb51ca56c507f250e3a1d30415a", func := "argosy/argosylaw10.CongKnown", spec := "congKnown", apart := false }
def CongKnownSaid : Prop := congKnownRow.holds Try.pinned (OpenSpec.ofChange congKnownSpec)

/-- ITS FALSE NEIGHBOUR: 'it returns false'. Refute it at one input. -/
def congKnownWrong : ChangeSpec := { name := "congKnown", fn := fun _ => fun
  | [] => { results := [.lit (.bool false)], args := [] }
  | _ => none }
def CongKnownWrongFalsely : Prop := congKnownRow.holds Try.pinned (OpenSpec.ofChange congKnownWrong)

/-- 'argosylaw10.CongTells': WHATEVER THE INPUT: true; the input reads as it did. -/
def congTellsSpec : ChangeSpec := { name := "congTells", fn := fun _ => fun
  | [d1, d2, d3, d4] => { results := [.lit (.bool true)], args := [d1, d2, d3, d4] }
  | _ => none }
def congTellsRow : OpenClaim := { program := "ytklcmaaoomfkiaa", sum := "ede228a18deeca5cf6f58fbe6b95049d23b04eb51ca56c507f250e3a1d30415a", func := "argosy/argosylaw10.CongTells", spec := "congTells", apart := false }
def CongTellsSaid : Prop := congTellsRow.holds Try.pinned (OpenSpec.ofChange congTellsSpec)

/-- ITS FALSE NEIGHBOUR: 'it returns false'. Refute it at one input. -/
def congTellsWrong : ChangeSpec := { name := "congTells", fn := fun _ => fun
  | [d1, d2, d3, d4] => { results := [.lit (.bool false)], args := [d1, d2, d3, d4] }
  | _ => none }
def CongTellsWrongFalsely : Prop := congTellsRow.holds Try.pinned (OpenSpec.ofChange congTellsWrong)

/-- 'argosylaw10.CongBounds': WHATEVER THE INPUT: true; the input reads as it did. -/
def congBoundsSpec : ChangeSpec := { name := "congBounds", fn := fun _ => fun
  | [d] => { results := [.lit (.bool true)], args := [d] }
  | _ => none }
def congBoundsRow : OpenClaim := { program := "ytklcmaaoomfkiaa", sum := "ede228a18deeca5cf6f58fbe6b95049d23b04eb51ca56c507f250e3a1d30415a", func := "argosy/argosylaw10.CongBounds", spec := "congBounds", apart := false }
def CongBoundsSaid : Prop := congBoundsRow.holds Try.pinned (OpenSpec.ofChange congBoundsSpec)

/-- ITS FALSE NEIGHBOUR: 'it returns false'. Refute it at one input. -/
def congBoundsWrong : ChangeSpec := { name := "congBounds", fn := fun _ => fun
  | [d] => { results := [.lit (.bool false)], args := [d] }
  | _ => none }
def CongBoundsWrongFalsely : Prop := congBoundsRow.holds Try.pinned (OpenSpec.ofChange congBoundsWrong)

/-- 'argosylaw10.CongClimbs': WHATEVER THE INPUT: true; the input reads as it did. -/
def congClimbsSpec : ChangeSpec := { name := "congClimbs", fn := fun _ => fun
  | [d1, d2, d3] => { results := [.lit (.bool true)], args := [d1, d2, d3] }
  | _ => none }
def congClimbsRow : OpenClaim := { program := "ytklcmaaoomfkiaa", sum := "ede228a18deeca5cf6f58fbe6b95049d23b04eb51ca56c507f250e3a1d30415a", func := "argosy/argosylaw10.CongClimbs", spec := "congClimbs", apart := false }
def CongClimbsSaid : Prop := congClimbsRow.holds Try.pinned (OpenSpec.ofChange congClimbsSpec)

/-- ITS FALSE NEIGHBOUR: 'it returns false'. Refute it at one input. -/
def congClimbsWrong : ChangeSpec := { name := "congClimbs", fn := fun _ => fun
  | [d1, d2, d3] => { results := [.lit (.bool false)], args := [d1, d2, d3] }
  | _ => none }
def CongClimbsWrongFalsely : Prop := congClimbsRow.holds Try.pinned (OpenSpec.ofChange congClimbsWrong)

/-- 'argosylaw12.CreditKnown': WHATEVER THE INPUT: true; the input reads as it did. -/
def creditKnownSpec : ChangeSpec := { name := "creditKnown", fn := fun _ => fun
  | [] => { results := [.lit (.bool true)], args := [] }
  | _ => none }
def creditKnownRow : OpenClaim := { program := "ytklcmaaoomfkiaa", sum := "ede228a18deeca5cf6f58fbe6b95049d23b04eb51ca56c507f250e3a1d30415a", func := "argosy/argosylaw12.CreditKnown", spec := "creditKnown", apart := false }
def CreditKnownSaid : Prop := creditKnownRow.holds Try.pinned (OpenSpec.ofChange creditKnownSpec)

/-- ITS FALSE NEIGHBOUR: 'it returns false'. Refute it at one input. -/
def creditKnownWrong : ChangeSpec := { name := "creditKnown", fn := fun _ => fun
  | [] => { results := [.lit (.bool false)], args := [] }
  | _ => none }
def CreditKnownWrongFalsely : Prop := creditKnownRow.holds Try.pinned (OpenSpec.ofChange creditKnownWrong)

/-- 'argosylaw12.CreditKeeps': WHATEVER THE INPUT: true; the input reads as it did. -/
def creditKeepsSpec : ChangeSpec := { name := "creditKeeps", fn := fun _ => fun
  | [d1, d2] => { results := [.lit (.bool true)], args := [d1, d2] }
  | _ => none }
def creditKeepsRow : OpenClaim := { program := "ytklcmaaoomfkiaa", sum := "ede228a18deeca5cf6f58fbe6b95049d23b04eb51ca56c507f250e3a1d30415a", func := "argosy/argosylaw12.CreditKeeps", spec := "creditKeeps", apart := false }
def CreditKeepsSaid : Prop := creditKeepsRow.holds Try.pinned (OpenSpec.ofChange creditKeepsSpec)

/-- ITS FALSE NEIGHBOUR: 'it returns false'. Refute it at one input. -/
def creditKeepsWrong : ChangeSpec := { name := "creditKeeps", fn := fun _ => fun
  | [d1, d2] => { results := [.lit (.bool false)], args := [d1, d2] }
  | _ => none }
def CreditKeepsWrongFalsely : Prop := creditKeepsRow.holds Try.pinned (OpenSpec.ofChange creditKeepsWrong)

/-- 'argosylaw12.CreditOnce': WHATEVER THE INPUT: true; the input reads as it did. -/
def creditOnceSpec : ChangeSpec := { name := "creditOnce", fn := fun _ => fun
  | [d1, d2] => { results := [.lit (.bool true)], args := [d1, d2] }
  | _ => none }
def creditOnceRow : OpenClaim := { program := "ytklcmaaoomfkiaa", sum := "ede228a18deeca5cf6f58fbe6b95049d23b04eb51ca56c507f250e3a1d30415a", func := "argosy/argosylaw12.CreditOnce", spec := "creditOnce", apart := false }
def CreditOnceSaid : Prop := creditOnceRow.holds Try.pinned (OpenSpec.ofChange creditOnceSpec)

/-- ITS FALSE NEIGHBOUR: 'it returns false'. Refute it at one input. -/
def creditOnceWrong : ChangeSpec := { name := "creditOnce", fn := fun _ => fun
  | [d1, d2] => { results := [.lit (.bool false)], args := [d1, d2] }
  | _ => none }
def CreditOnceWrongFalsely : Prop := creditOnceRow.holds Try.pinned (OpenSpec.ofChange creditOnceWrong)

/-- 'argosylaw8.RttKnown': WHATEVER THE INPUT: true; the input reads as it did. -/
def rttKnownSpec : ChangeSpec := { name := "rttKnown", fn := fun _ => fun
  | [] => { results := [.lit (.bool true)], args := [] }
  | _ => none }
def rttKnownRow : OpenClaim := { program := "ytklcmaaoomfkiaa", sum := "ede228a18deeca5cf6f58fbe6b95049d23b04eb51ca56c507f250e3a1d30415a", func := "argosy/argosylaw8.RttKnown", spec := "rttKnown", apart := false }
def RttKnownSaid : Prop := rttKnownRow.holds Try.pinned (OpenSpec.ofChange rttKnownSpec)

/-- ITS FALSE NEIGHBOUR: 'it returns false'. Refute it at one input. -/
def rttKnownWrong : ChangeSpec := { name := "rttKnown", fn := fun _ => fun
  | [] => { results := [.lit (.bool false)], args := [] }
  | _ => none }
def RttKnownWrongFalsely : Prop := rttKnownRow.holds Try.pinned (OpenSpec.ofChange rttKnownWrong)

/-- 'argosylaw8.RttTells': WHATEVER THE INPUT: true; the input reads as it did. -/
def rttTellsSpec : ChangeSpec := { name := "rttTells", fn := fun _ => fun
  | [d1, d2] => { results := [.lit (.bool true)], args := [d1, d2] }
  | _ => none }
def rttTellsRow : OpenClaim := { program := "ytklcmaaoomfkiaa", sum := "ede228a18deeca5cf6f58fbe6b95049d23b04eb51ca56c507f250e3a1d30415a", func := "argosy/argosylaw8.RttTells", spec := "rttTells", apart := false }
def RttTellsSaid : Prop := rttTellsRow.holds Try.pinned (OpenSpec.ofChange rttTellsSpec)

/-- ITS FALSE NEIGHBOUR: 'it returns false'. Refute it at one input. -/
def rttTellsWrong : ChangeSpec := { name := "rttTells", fn := fun _ => fun
  | [d1, d2] => { results := [.lit (.bool false)], args := [d1, d2] }
  | _ => none }
def RttTellsWrongFalsely : Prop := rttTellsRow.holds Try.pinned (OpenSpec.ofChange rttTellsWrong)

/-- 'argosylaw8.RttSteady': WHATEVER THE INPUT: true; the input reads as it did. -/
def rttSteadySpec : ChangeSpec := { name := "rttSteady", fn := fun _ => fun
  | [d1, d2, d3] => { results := [.lit (.bool true)], args := [d1, d2, d3] }
  | _ => none }
def rttSteadyRow : OpenClaim := { program := "ytklcmaaoomfkiaa", sum := "ede228a18deeca5cf6f58fbe6b95049d23b04eb51ca56c507f250e3a1d30415a", func := "argosy/argosylaw8.RttSteady", spec := "rttSteady", apart := false }
def RttSteadySaid : Prop := rttSteadyRow.holds Try.pinned (OpenSpec.ofChange rttSteadySpec)

/-- ITS FALSE NEIGHBOUR: 'it returns false'. Refute it at one input. -/
def rttSteadyWrong : ChangeSpec := { name := "rttSteady", fn := fun _ => fun
  | [d1, d2, d3] => { results := [.lit (.bool false)], args := [d1, d2, d3] }
  | _ => none }
def RttSteadyWrongFalsely : Prop := rttSteadyRow.holds Try.pinned (OpenSpec.ofChange rttSteadyWrong)

/-- 'argosylaw8.RttGrows': WHATEVER THE INPUT: true; the input reads as it did. -/
def rttGrowsSpec : ChangeSpec := { name := "rttGrows", fn := fun _ => fun
  | [d1, d2, d3, d4] => { results := [.lit (.bool true)], args := [d1, d2, d3, d4] }
  | _ => none }
def rttGrowsRow : OpenClaim := { program := "ytklcmaaoomfkiaa", sum := "ede228a18deeca5cf6f58fbe6b95049d23b04eb51ca56c507f250e3a1d30415a", func := "argosy/argosylaw8.RttGrows", spec := "rttGrows", apart := false }
def RttGrowsSaid : Prop := rttGrowsRow.holds Try.pinned (OpenSpec.ofChange rttGrowsSpec)

/-- ITS FALSE NEIGHBOUR: 'it returns false'. Refute it at one input. -/
def rttGrowsWrong : ChangeSpec := { name := "rttGrows", fn := fun _ => fun
  | [d1, d2, d3, d4] => { results := [.lit (.bool false)], args := [d1, d2, d3, d4] }
  | _ => none }
def RttGrowsWrongFalsely : Prop := rttGrowsRow.holds Try.pinned (OpenSpec.ofChange rttGrowsWrong)

/-- 'argosylaw8.RttBounds': WHATEVER THE INPUT: true; the input reads as it did. -/
def rttBoundsSpec : ChangeSpec := { name := "rttBounds", fn := fun _ => fun
  | [d1, d2] => { results := [.lit (.bool true)], args := [d1, d2] }
  | _ => none }
def rttBoundsRow : OpenClaim := { program := "ytklcmaaoomfkiaa", sum := "ede228a18deeca5cf6f58fbe6b95049d23b04eb51ca56c507f250e3a1d30415a", func := "argosy/argosylaw8.RttBounds", spec := "rttBounds", apart := false }
def RttBoundsSaid : Prop := rttBoundsRow.holds Try.pinned (OpenSpec.ofChange rttBoundsSpec)

/-- ITS FALSE NEIGHBOUR: 'it returns false'. Refute it at one input. -/
def rttBoundsWrong : ChangeSpec := { name := "rttBounds", fn := fun _ => fun
  | [d1, d2] => { results := [.lit (.bool false)], args := [d1, d2] }
  | _ => none }
def RttBoundsWrongFalsely : Prop := rttBoundsRow.holds Try.pinned (OpenSpec.ofChange rttBoundsWrong)

/- THE SECOND FORM. 'bulk': how many values and letters a reading holds, each counted each time it is reached (what is shared counts as often as it is met; a slice's spare places count too). A statement '..UptoSaid' is the law's where the arguments, and the package variables that the reading takes, are together of bulk at most 1048576: NARROWER than '..Said'. Prove '..Said' where nothing that the law and all that it calls make is longer than what came in: it says more and counts as full. Else prove '..UptoSaid'. A law counts once. -/
mutual
def uptoBulk {H : Type} : DataW H → Nat
  | .lit (.string bytes) => bytes.length + 1
  | .lit _ => 1
  | .nil => 1
  | .ptr d => uptoBulk d + 1
  | .slice elems spare => uptoBulkAll elems + uptoBulkAll spare + 1
  | .agg parts => uptoBulkAll parts + 1
  | .iface _ d => uptoBulk d + 1
  | .map entries => uptoBulkEntries entries + 1
  | .held _ => 1
def uptoBulkAll {H : Type} : List (DataW H) → Nat
  | [] => 0
  | d :: r => uptoBulk d + uptoBulkAll r
def uptoBulkEntries {H : Type} : List (Lit × DataW H) → Nat
  | [] => 0
  | x :: r => uptoBulkEntry x + uptoBulkEntries r
def uptoBulkEntry {H : Type} : Lit × DataW H → Nat
  | (.string bytes, d) => bytes.length + uptoBulk d + 1
  | (_, d) => uptoBulk d + 1
 end
def uptoSmall : (H : Type) → List (DataW H) → Bool := fun _ ds => decide (uptoBulkAll ds ≤ 1048576)
def OpenSpec.upto (s : _root_.Go.ChangeSpec) : _root_.Go.OpenSpec := { _root_.Go.OpenSpec.ofChange s with cond := some uptoSmall }

/-- 'argosylaw10.CongKnown', WHERE WHAT IT READS IS OF BULK AT MOST 1048576: true; the input reads as it did. -/
def congKnownUptoRow : OpenClaim := { program := "ytklcmaaoomfkiaa", sum := "ede228a18deeca5cf6f58fbe6b95049d23b04eb51ca56c507f250e3a1d30415a", func := "argosy/argosylaw10.CongKnown", spec := "congKnown", apart := false, narrowed := true }
def CongKnownUptoSaid : Prop := congKnownUptoRow.holds Try.pinned (OpenSpec.upto congKnownSpec)

/-- 'argosylaw10.CongTells', WHERE WHAT IT READS IS OF BULK AT MOST 1048576: true; the input reads as it did. -/
def congTellsUptoRow : OpenClaim := { program := "ytklcmaaoomfkiaa", sum := "ede228a18deeca5cf6f58fbe6b95049d23b04eb51ca56c507f250e3a1d30415a", func := "argosy/argosylaw10.CongTells", spec := "congTells", apart := false, narrowed := true }
def CongTellsUptoSaid : Prop := congTellsUptoRow.holds Try.pinned (OpenSpec.upto congTellsSpec)

/-- 'argosylaw10.CongBounds', WHERE WHAT IT READS IS OF BULK AT MOST 1048576: true; the input reads as it did. -/
def congBoundsUptoRow : OpenClaim := { program := "ytklcmaaoomfkiaa", sum := "ede228a18deeca5cf6f58fbe6b95049d23b04eb51ca56c507f250e3a1d30415a", func := "argosy/argosylaw10.CongBounds", spec := "congBounds", apart := false, narrowed := true }
def CongBoundsUptoSaid : Prop := congBoundsUptoRow.holds Try.pinned (OpenSpec.upto congBoundsSpec)

/-- 'argosylaw10.CongClimbs', WHERE WHAT IT READS IS OF BULK AT MOST 1048576: true; the input reads as it did. -/
def congClimbsUptoRow : OpenClaim := { program := "ytklcmaaoomfkiaa", sum := "ede228a18deeca5cf6f58fbe6b95049d23b04eb51ca56c507f250e3a1d30415a", func := "argosy/argosylaw10.CongClimbs", spec := "congClimbs", apart := false, narrowed := true }
def CongClimbsUptoSaid : Prop := congClimbsUptoRow.holds Try.pinned (OpenSpec.upto congClimbsSpec)

/-- 'argosylaw12.CreditKnown', WHERE WHAT IT READS IS OF BULK AT MOST 1048576: true; the input reads as it did. -/
def creditKnownUptoRow : OpenClaim := { program := "ytklcmaaoomfkiaa", sum := "ede228a18deeca5cf6f58fbe6b95049d23b04eb51ca56c507f250e3a1d30415a", func := "argosy/argosylaw12.CreditKnown", spec := "creditKnown", apart := false, narrowed := true }
def CreditKnownUptoSaid : Prop := creditKnownUptoRow.holds Try.pinned (OpenSpec.upto creditKnownSpec)

/-- 'argosylaw12.CreditKeeps', WHERE WHAT IT READS IS OF BULK AT MOST 1048576: true; the input reads as it did. -/
def creditKeepsUptoRow : OpenClaim := { program := "ytklcmaaoomfkiaa", sum := "ede228a18deeca5cf6f58fbe6b95049d23b04eb51ca56c507f250e3a1d30415a", func := "argosy/argosylaw12.CreditKeeps", spec := "creditKeeps", apart := false, narrowed := true }
def CreditKeepsUptoSaid : Prop := creditKeepsUptoRow.holds Try.pinned (OpenSpec.upto creditKeepsSpec)

/-- 'argosylaw12.CreditOnce', WHERE WHAT IT READS IS OF BULK AT MOST 1048576: true; the input reads as it did. -/
def creditOnceUptoRow : OpenClaim := { program := "ytklcmaaoomfkiaa", sum := "ede228a18deeca5cf6f58fbe6b95049d23b04eb51ca56c507f250e3a1d30415a", func := "argosy/argosylaw12.CreditOnce", spec := "creditOnce", apart := false, narrowed := true }
def CreditOnceUptoSaid : Prop := creditOnceUptoRow.holds Try.pinned (OpenSpec.upto creditOnceSpec)

/-- 'argosylaw8.RttKnown', WHERE WHAT IT READS IS OF BULK AT MOST 1048576: true; the input reads as it did. -/
def rttKnownUptoRow : OpenClaim := { program := "ytklcmaaoomfkiaa", sum := "ede228a18deeca5cf6f58fbe6b95049d23b04eb51ca56c507f250e3a1d30415a", func := "argosy/argosylaw8.RttKnown", spec := "rttKnown", apart := false, narrowed := true }
def RttKnownUptoSaid : Prop := rttKnownUptoRow.holds Try.pinned (OpenSpec.upto rttKnownSpec)

/-- 'argosylaw8.RttTells', WHERE WHAT IT READS IS OF BULK AT MOST 1048576: true; the input reads as it did. -/
def rttTellsUptoRow : OpenClaim := { program := "ytklcmaaoomfkiaa", sum := "ede228a18deeca5cf6f58fbe6b95049d23b04eb51ca56c507f250e3a1d30415a", func := "argosy/argosylaw8.RttTells", spec := "rttTells", apart := false, narrowed := true }
def RttTellsUptoSaid : Prop := rttTellsUptoRow.holds Try.pinned (OpenSpec.upto rttTellsSpec)

/-- 'argosylaw8.RttSteady', WHERE WHAT IT READS IS OF BULK AT MOST 1048576: true; the input reads as it did. -/
def rttSteadyUptoRow : OpenClaim := { program := "ytklcmaaoomfkiaa", sum := "ede228a18deeca5cf6f58fbe6b95049d23b04eb51ca56c507f250e3a1d30415a", func := "argosy/argosylaw8.RttSteady", spec := "rttSteady", apart := false, narrowed := true }
def RttSteadyUptoSaid : Prop := rttSteadyUptoRow.holds Try.pinned (OpenSpec.upto rttSteadySpec)

/-- 'argosylaw8.RttGrows', WHERE WHAT IT READS IS OF BULK AT MOST 1048576: true; the input reads as it did. -/
def rttGrowsUptoRow : OpenClaim := { program := "ytklcmaaoomfkiaa", sum := "ede228a18deeca5cf6f58fbe6b95049d23b04eb51ca56c507f250e3a1d30415a", func := "argosy/argosylaw8.RttGrows", spec := "rttGrows", apart := false, narrowed := true }
def RttGrowsUptoSaid : Prop := rttGrowsUptoRow.holds Try.pinned (OpenSpec.upto rttGrowsSpec)

/-- 'argosylaw8.RttBounds', WHERE WHAT IT READS IS OF BULK AT MOST 1048576: true; the input reads as it did. -/
def rttBoundsUptoRow : OpenClaim := { program := "ytklcmaaoomfkiaa", sum := "ede228a18deeca5cf6f58fbe6b95049d23b04eb51ca56c507f250e3a1d30415a", func := "argosy/argosylaw8.RttBounds", spec := "rttBounds", apart := false, narrowed := true }
def RttBoundsUptoSaid : Prop := rttBoundsUptoRow.holds Try.pinned (OpenSpec.upto rttBoundsSpec)

end Rows
end Go.Proofs.Ytklcmaaoomfkiaa

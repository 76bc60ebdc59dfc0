/-
  No cell of these rows narrows 'for every input' (looked for: loops, veiled, ifaces, maps, wideKeys, modest, calm, conditions, laid).
  DERIVED. THE GIVEN ROWS OF THIS SEAT. 10 by the template 'for every input the law returns true; each argument reads behind the call as it read before'; 0 by the template 'total and deterministic' (their statements: YtelhnhnbfjamhaaTotals.lean).
  GIVEN WITH THE SEED: the statements are not yours to turn. If you find one false, say at which input.
  Laid BY PROGRAM, IN A SANDBOX (cutbox-rows.mjs): the forced cells as the released guide's own fill.sh prints them over the translation 844facfadf62836a… (all of the seat's roots in one cut). By AI agents, Wed Nov 11 2026. No macro, syntax, notation, axiom, sorry.
-/
import Derived.Test.YtelhnhnbfjamhaaChecked
import GoSem.Claim
import GoSem.ClaimJoined
import GoSem.ClaimMapViews
import Derived.JoinedTies
import Derived.KernelRfl
namespace Go.Proofs.Ytelhnhnbfjamhaa
/- THE CELL 'sum', in the pinned program and in every row, IS THE sha256 OF THE DUMP (.gsa) THAT YtelhnhnbfjamhaaProg.lean LOADS. Nothing in Lean hashes anything: it is a label: what it is worth is what the hold of that sum in a sandbox is worth. -/
noncomputable def Try.pinned : Pinned := { name := "ytelhnhnbfjamhaa", sum := "844facfadf62836ab397cb3679c0596f0646efc2b2a80c791d149909089a4fb1", checked := Try.checked }
namespace Rows
def none {H : Type} : Left H := { results := [], args := [] }

/-- 'argosylaw24.NetCounts': WHATEVER THE INPUT: true; the input reads as it did. -/
def netCountsSpec : ChangeSpec := { name := "netCounts", fn := fun _ => fun
  | [d] => { results := [.lit (.bool true)], args := [d] }
  | _ => none }
def netCountsRow : OpenClaim := { program := "ytelhnhnbfjamhaa", sum := "844facfadf62836ab397cb3679c0596f0646efc2b2a80c791d149909089a4fb1", func := "argosy/argosylaw24.NetCounts", spec := "netCounts", apart := false }
def NetCountsSaid : Prop := netCountsRow.holds Try.pinned (OpenSpec.ofChange netCountsSpec)

/-- ITS FALSE NEIGHBOUR: 'it returns false'. Refute it at one input. -/
def netCountsWrong : ChangeSpec := { name := "netCounts", fn := fun _ => fun
  | [d] => { results := [.lit (.bool false)], args := [d] }
  | _ => none }
def NetCountsWrongFalsely : Prop := netCountsRow.holds Try.pinned (OpenSpec.ofChange netCountsWrong)

/-- 'argosylaw24.NetKnown': WHATEVER THE INPUT: true; the input reads as it did. -/
def netKnownSpec : ChangeSpec := { name := "netKnown", fn := fun _ => fun
  | [] => { results := [.lit (.bool true)], args := [] }
  | _ => none }
def netKnownRow : OpenClaim := { program := "ytelhnhnbfjamhaa", sum := "844facfadf62836ab397cb3679c0596f0646efc2b2a80c791d149909089a4fb1", func := "argosy/argosylaw24.NetKnown", spec := "netKnown", apart := false }
def NetKnownSaid : Prop := netKnownRow.holds Try.pinned (OpenSpec.ofChange netKnownSpec)

/-- ITS FALSE NEIGHBOUR: 'it returns false'. Refute it at one input. -/
def netKnownWrong : ChangeSpec := { name := "netKnown", fn := fun _ => fun
  | [] => { results := [.lit (.bool false)], args := [] }
  | _ => none }
def NetKnownWrongFalsely : Prop := netKnownRow.holds Try.pinned (OpenSpec.ofChange netKnownWrong)

/-- 'argosylaw24.NetTells': WHATEVER THE INPUT: true; the input reads as it did. -/
def netTellsSpec : ChangeSpec := { name := "netTells", fn := fun _ => fun
  | [d] => { results := [.lit (.bool true)], args := [d] }
  | _ => none }
def netTellsRow : OpenClaim := { program := "ytelhnhnbfjamhaa", sum := "844facfadf62836ab397cb3679c0596f0646efc2b2a80c791d149909089a4fb1", func := "argosy/argosylaw24.NetTells", spec := "netTells", apart := false }
def NetTellsSaid : Prop := netTellsRow.holds Try.pinned (OpenSpec.ofChange netTellsSpec)

/-- ITS FALSE NEIGHBOUR: 'it returns false'. Refute it at one input. -/
def netTellsWrong : ChangeSpec := { name := "netTells", fn := fun _ => fun
  | [d] => { results := [.lit (.bool false)], args := [d] }
  | _ => none }
def NetTellsWrongFalsely : Prop := netTellsRow.holds Try.pinned (OpenSpec.ofChange netTellsWrong)

/-- 'argosylaw24.NetKeeps': WHATEVER THE INPUT: true; the input reads as it did. -/
def netKeepsSpec : ChangeSpec := { name := "netKeeps", fn := fun _ => fun
  | [d1, d2, d3, d4, d5] => { results := [.lit (.bool true)], args := [d1, d2, d3, d4, d5] }
  | _ => none }
def netKeepsRow : OpenClaim := { program := "ytelhnhnbfjamhaa", sum := "844facfadf62836ab397cb3679c0596f0646efc2b2a80c791d149909089a4fb1", func := "argosy/argosylaw24.NetKeeps", spec := "netKeeps", apart := false }
def NetKeepsSaid : Prop := netKeepsRow.holds Try.pinned (OpenSpec.ofChange netKeepsSpec)

/-- ITS FALSE NEIGHBOUR: 'it returns false'. Refute it at one input. -/
def netKeepsWrong : ChangeSpec := { name := "netKeeps", fn := fun _ => fun
  | [d1, d2, d3, d4, d5] => { results := [.lit (.bool false)], args := [d1, d2, d3, d4, d5] }
  | _ => none }
def NetKeepsWrongFalsely : Prop := netKeepsRow.holds Try.pinned (OpenSpec.ofChange netKeepsWrong)

/-- 'argosylaw16.QueueKnown': WHATEVER THE INPUT: true; the input reads as it did. -/
def queueKnownSpec : ChangeSpec := { name := "queueKnown", fn := fun _ => fun
  | [] => { results := [.lit (.bool true)], args := [] }
  | _ => none }
def queueKnownRow : OpenClaim := { program := "ytelhnhnbfjamhaa", sum := "844facfadf62836ab397cb3679c0596f0646efc2b2a80c791d149909089a4fb1", func := "argosy/argosylaw16.QueueKnown", spec := "queueKnown", unfollowed := true, recurses := true, apart := false }
def QueueKnownSaid : Prop := queueKnownRow.holds Try.pinned (OpenSpec.ofChange queueKnownSpec)

/-- ITS FALSE NEIGHBOUR: 'it returns false'. Refute it at one input. -/
def queueKnownWrong : ChangeSpec := { name := "queueKnown", fn := fun _ => fun
  | [] => { results := [.lit (.bool false)], args := [] }
  | _ => none }
def QueueKnownWrongFalsely : Prop := queueKnownRow.holds Try.pinned (OpenSpec.ofChange queueKnownWrong)

/-- 'argosylaw16.QueueTells': WHATEVER THE INPUT: true; the input reads as it did. -/
def queueTellsSpec : ChangeSpec := { name := "queueTells", fn := fun _ => fun
  | [d] => { results := [.lit (.bool true)], args := [d] }
  | _ => none }
def queueTellsRow : OpenClaim := { program := "ytelhnhnbfjamhaa", sum := "844facfadf62836ab397cb3679c0596f0646efc2b2a80c791d149909089a4fb1", func := "argosy/argosylaw16.QueueTells", spec := "queueTells", unfollowed := true, recurses := true, apart := false }
def QueueTellsSaid : Prop := queueTellsRow.holds Try.pinned (OpenSpec.ofChange queueTellsSpec)

/-- ITS FALSE NEIGHBOUR: 'it returns false'. Refute it at one input. -/
def queueTellsWrong : ChangeSpec := { name := "queueTells", fn := fun _ => fun
  | [d] => { results := [.lit (.bool false)], args := [d] }
  | _ => none }
def QueueTellsWrongFalsely : Prop := queueTellsRow.holds Try.pinned (OpenSpec.ofChange queueTellsWrong)

/-- 'argosylaw16.QueueOrder': WHATEVER THE INPUT: true; the input reads as it did. -/
def queueOrderSpec : ChangeSpec := { name := "queueOrder", fn := fun _ => fun
  | [d1, d2, d3] => { results := [.lit (.bool true)], args := [d1, d2, d3] }
  | _ => none }
def queueOrderRow : OpenClaim := { program := "ytelhnhnbfjamhaa", sum := "844facfadf62836ab397cb3679c0596f0646efc2b2a80c791d149909089a4fb1", func := "argosy/argosylaw16.QueueOrder", spec := "queueOrder", unfollowed := true, recurses := true, apart := false }
def QueueOrderSaid : Prop := queueOrderRow.holds Try.pinned (OpenSpec.ofChange queueOrderSpec)

/-- ITS FALSE NEIGHBOUR: 'it returns false'. Refute it at one input. -/
def queueOrderWrong : ChangeSpec := { name := "queueOrder", fn := fun _ => fun
  | [d1, d2, d3] => { results := [.lit (.bool false)], args := [d1, d2, d3] }
  | _ => none }
def QueueOrderWrongFalsely : Prop := queueOrderRow.holds Try.pinned (OpenSpec.ofChange queueOrderWrong)

/-- 'argosylaw16.QueueRoom': WHATEVER THE INPUT: true; the input reads as it did. -/
def queueRoomSpec : ChangeSpec := { name := "queueRoom", fn := fun _ => fun
  | [d] => { results := [.lit (.bool true)], args := [d] }
  | _ => none }
def queueRoomRow : OpenClaim := { program := "ytelhnhnbfjamhaa", sum := "844facfadf62836ab397cb3679c0596f0646efc2b2a80c791d149909089a4fb1", func := "argosy/argosylaw16.QueueRoom", spec := "queueRoom", unfollowed := true, recurses := true, apart := false }
def QueueRoomSaid : Prop := queueRoomRow.holds Try.pinned (OpenSpec.ofChange queueRoomSpec)

/-- ITS FALSE NEIGHBOUR: 'it returns false'. Refute it at one input. -/
def queueRoomWrong : ChangeSpec := { name := "queueRoom", fn := fun _ => fun
  | [d] => { results := [.lit (.bool false)], args := [d] }
  | _ => none }
def QueueRoomWrongFalsely : Prop := queueRoomRow.holds Try.pinned (OpenSpec.ofChange queueRoomWrong)

/-- 'argosylaw9.LedgerLate': WHATEVER THE INPUT: true; the input reads as it did. -/
def ledgerLateSpec : ChangeSpec := { name := "ledgerLate", fn := fun _ => fun
  | [d1, d2, d3, d4] => { results := [.lit (.bool true)], args := [d1, d2, d3, d4] }
  | _ => none }
def ledgerLateRow : OpenClaim := { program := "ytelhnhnbfjamhaa", sum := "844facfadf62836ab397cb3679c0596f0646efc2b2a80c791d149909089a4fb1", func := "argosy/argosylaw9.LedgerLate", spec := "ledgerLate", unfollowed := true, recurses := true, apart := false }
def LedgerLateSaid : Prop := ledgerLateRow.holds Try.pinned (OpenSpec.ofChange ledgerLateSpec)

/-- ITS FALSE NEIGHBOUR: 'it returns false'. Refute it at one input. -/
def ledgerLateWrong : ChangeSpec := { name := "ledgerLate", fn := fun _ => fun
  | [d1, d2, d3, d4] => { results := [.lit (.bool false)], args := [d1, d2, d3, d4] }
  | _ => none }
def LedgerLateWrongFalsely : Prop := ledgerLateRow.holds Try.pinned (OpenSpec.ofChange ledgerLateWrong)

/-- 'argosylaw9.LedgerOnce': WHATEVER THE INPUT: true; the input reads as it did. -/
def ledgerOnceSpec : ChangeSpec := { name := "ledgerOnce", fn := fun _ => fun
  | [d] => { results := [.lit (.bool true)], args := [d] }
  | _ => none }
def ledgerOnceRow : OpenClaim := { program := "ytelhnhnbfjamhaa", sum := "844facfadf62836ab397cb3679c0596f0646efc2b2a80c791d149909089a4fb1", func := "argosy/argosylaw9.LedgerOnce", spec := "ledgerOnce", unfollowed := true, recurses := true, apart := false }
def LedgerOnceSaid : Prop := ledgerOnceRow.holds Try.pinned (OpenSpec.ofChange ledgerOnceSpec)

/-- ITS FALSE NEIGHBOUR: 'it returns false'. Refute it at one input. -/
def ledgerOnceWrong : ChangeSpec := { name := "ledgerOnce", fn := fun _ => fun
  | [d] => { results := [.lit (.bool false)], args := [d] }
  | _ => none }
def LedgerOnceWrongFalsely : Prop := ledgerOnceRow.holds Try.pinned (OpenSpec.ofChange ledgerOnceWrong)

/- THE SECOND FORM. 'bulk': how many values and letters a reading holds, each counted each time it is reached (what is shared counts as often as it is met; a slice's spare places count too). A statement '..UptoSaid' is the law's where the arguments, and the package variables that the reading takes, are together of bulk at most 1048576: NARROWER than '..Said'. Prove '..Said' where nothing that the law and all that it calls make is longer than what came in: it says more and counts as full. Else prove '..UptoSaid'. A law counts once. -/
mutual
def uptoBulk {H : Type} : DataW H → Nat
  | .lit (.string bytes) => bytes.length + 1
  | .lit _ => 1
  | .nil => 1
  | .ptr d => uptoBulk d + 1
  | .slice elems spare => uptoBulkAll elems + uptoBulkAll spare + 1
  | .agg parts => uptoBulkAll parts + 1
  | .iface _ d => uptoBulk d + 1
  | .map entries => uptoBulkEntries entries + 1
  | .held _ => 1
def uptoBulkAll {H : Type} : List (DataW H) → Nat
  | [] => 0
  | d :: r => uptoBulk d + uptoBulkAll r
def uptoBulkEntries {H : Type} : List (Lit × DataW H) → Nat
  | [] => 0
  | x :: r => uptoBulkEntry x + uptoBulkEntries r
def uptoBulkEntry {H : Type} : Lit × DataW H → Nat
  | (.string bytes, d) => bytes.length + uptoBulk d + 1
  | (_, d) => uptoBulk d + 1
 end
def uptoSmall : (H : Type) → List (DataW H) → Bool := fun _ ds => decide (uptoBulkAll ds ≤ 1048576)
def OpenSpec.upto (s : _root_.Go.ChangeSpec) : _root_.Go.OpenSpec := { _root_.Go.OpenSpec.ofChange s with cond := some uptoSmall }

/-- 'argosylaw24.NetCounts', WHERE WHAT IT READS IS OF BULK AT MOST 1048576: true; the input reads as it did. -/
def netCountsUptoRow : OpenClaim := { program := "ytelhnhnbfjamhaa", sum := "844facfadf62836ab397cb3679c0596f0646efc2b2a80c791d149909089a4fb1", func := "argosy/argosylaw24.NetCounts", spec := "netCounts", apart := false, narrowed := true }
def NetCountsUptoSaid : Prop := netCountsUptoRow.holds Try.pinned (OpenSpec.upto netCountsSpec)

/-- 'argosylaw24.NetKnown', WHERE WHAT IT READS IS OF BULK AT MOST 1048576: true; the input reads as it did. -/
def netKnownUptoRow : OpenClaim := { program := "ytelhnhnbfjamhaa", sum := "844facfadf62836ab397cb3679c0596f0646efc2b2a80c791d149909089a4fb1", func := "argosy/argosylaw24.NetKnown", spec := "netKnown", apart := false, narrowed := true }
def NetKnownUptoSaid : Prop := netKnownUptoRow.holds Try.pinned (OpenSpec.upto netKnownSpec)

/-- 'argosylaw24.NetTells', WHERE WHAT IT READS IS OF BULK AT MOST 1048576: true; the input reads as it did. -/
def netTellsUptoRow : OpenClaim := { program := "ytelhnhnbfjamhaa", sum := "844facfadf62836ab397cb3679c0596f0646efc2b2a80c791d149909089a4fb1", func := "argosy/argosylaw24.NetTells", spec := "netTells", apart := false, narrowed := true }
def NetTellsUptoSaid : Prop := netTellsUptoRow.holds Try.pinned (OpenSpec.upto netTellsSpec)

/-- 'argosylaw24.NetKeeps', WHERE WHAT IT READS IS OF BULK AT MOST 1048576: true; the input reads as it did. -/
def netKeepsUptoRow : OpenClaim := { program := "ytelhnhnbfjamhaa", sum := "844facfadf62836ab397cb3679c0596f0646efc2b2a80c791d149909089a4fb1", func := "argosy/argosylaw24.NetKeeps", spec := "netKeeps", apart := false, narrowed := true }
def NetKeepsUptoSaid : Prop := netKeepsUptoRow.holds Try.pinned (OpenSpec.upto netKeepsSpec)

/-- 'argosylaw16.QueueKnown', WHERE WHAT IT READS IS OF BULK AT MOST 1048576: true; the input reads as it did. -/
def queueKnownUptoRow : OpenClaim := { program := "ytelhnhnbfjamhaa", sum := "844facfadf62836ab397cb3679c0596f0646efc2b2a80c791d149909089a4fb1", func := "argosy/argosylaw16.QueueKnown", spec := "queueKnown", unfollowed := true, recurses := true, apart := false, narrowed := true }
def QueueKnownUptoSaid : Prop := queueKnownUptoRow.holds Try.pinned (OpenSpec.upto queueKnownSpec)

/-- 'argosylaw16.QueueTells', WHERE WHAT IT READS IS OF BULK AT MOST 1048576: true; the input reads as it did. -/
def queueTellsUptoRow : OpenClaim := { program := "ytelhnhnbfjamhaa", sum := "844facfadf62836ab397cb3679c0596f0646efc2b2a80c791d149909089a4fb1", func := "argosy/argosylaw16.QueueTells", spec := "queueTells", unfollowed := true, recurses := true, apart := false, narrowed := true }
def QueueTellsUptoSaid : Prop := queueTellsUptoRow.holds Try.pinned (OpenSpec.upto queueTellsSpec)

/-- 'argosylaw16.QueueOrder', WHERE WHAT IT READS IS OF BULK AT MOST 1048576: true; the input reads as it did. -/
def queueOrderUptoRow : OpenClaim := { program := "ytelhnhnbfjamhaa", sum := "844facfadf62836ab397cb3679c0596f0646efc2b2a80c791d149909089a4fb1", func := "argosy/argosylaw16.QueueOrder", spec := "queueOrder", unfollowed := true, recurses := true, apart := false, narrowed := true }
def QueueOrderUptoSaid : Prop := queueOrderUptoRow.holds Try.pinned (OpenSpec.upto queueOrderSpec)

/-- 'argosylaw16.QueueRoom', WHERE WHAT IT READS IS OF BULK AT MOST 1048576: true; the input reads as it did. -/
def queueRoomUptoRow : OpenClaim := { program := "ytelhnhnbfjamhaa", sum := "844facfadf62836ab397cb3679c0596f0646efc2b2a80c791d149909089a4fb1", func := "argosy/argosylaw16.QueueRoom", spec := "queueRoom", unfollowed := true, recurses := true, apart := false, narrowed := true }
def QueueRoomUptoSaid : Prop := queueRoomUptoRow.holds Try.pinned (OpenSpec.upto queueRoomSpec)

/-- 'argosylaw9.LedgerLate', WHERE WHAT IT READS IS OF BULK AT MOST 1048576: true; the input reads as it did. -/
def ledgerLateUptoRow : OpenClaim := { program := "ytelhnhnbfjamhaa", sum := "844facfadf62836ab397cb3679c0596f0646efc2b2a80c791d149909089a4fb1", func := "argosy/argosylaw9.LedgerLate", spec := "ledgerLate", unfollowed := true, recurses := true, apart := false, narrowed := true }
def LedgerLateUptoSaid : Prop := ledgerLateUptoRow.holds Try.pinned (OpenSpec.upto ledgerLateSpec)

/-- 'argosylaw9.LedgerOnce', WHERE WHAT IT READS IS OF BULK AT MOST 1048576: true; the input reads as it did. -/
def ledgerOnceUptoRow : OpenClaim := { program := "ytelhnhnbfjamhaa", sum := "844facfadf62836ab397cb3679c0596f0646efc2b2a80c791d149909089a4fb1", func := "argosy/argosylaw9.LedgerOnce", spec := "ledgerOnce", unfollowed := true, recurses := true, apart := false, narrowed := true }
def LedgerOnceUptoSaid : Prop := ledgerOnceUptoRow.holds Try.pinned (OpenSpec.upto ledgerOnceSpec)

end Rows
end Go.Proofs.Ytelhnhnbfjamhaa

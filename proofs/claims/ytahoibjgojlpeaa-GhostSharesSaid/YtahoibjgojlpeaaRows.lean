/-
  No cell of these rows narrows 'for every input' (looked for: loops, veiled, ifaces, maps, wideKeys, modest, calm, conditions, laid).
  DERIVED. THE GIVEN ROWS OF THIS SEAT. 10 by the template 'for every input the law returns true; each argument reads behind the call as it read before'; 0 by the template 'total and deterministic' (their statements: YtahoibjgojlpeaaTotals.lean).
  GIVEN WITH THE SEED: the statements are not yours to turn. If you find one false, say at which input.
  Laid BY PROGRAM, IN A SANDBOX (cutbox-rows.mjs): the forced cells as the released guide's own fill.sh prints them over the translation 6fcc248321c42ca8… (all of the seat's roots in one cut). By AI agents, Wed Nov 11 2026. No macro, syntax, notation, axiom, sorry.
-/
import Derived.Test.YtahoibjgojlpeaaChecked
import GoSem.Claim
import GoSem.ClaimJoined
import GoSem.ClaimMapViews
import Derived.JoinedTies
import Derived.KernelRfl
namespace Go.Proofs.Ytahoibjgojlpeaa
/- THE CELL 'sum', in the pinned program and in every row, IS THE sha256 OF THE DUMP (.gsa) THAT YtahoibjgojlpeaaProg.lean LOADS. Nothing in Lean hashes anything: it is a label: what it is worth is what the hold of that sum in a sandbox is worth. -/
noncomputable def Try.pinned : Pinned := { name := "ytahoibjgojlpeaa", sum := "6fcc248321c42ca82b307078ecbc27e11947f527ddb6b9564b1068d03698afe7", checked := Try.checked }
namespace Rows
def none {H : Type} : Left H := { results := [], args := [] }

/-- 'tollerlaw09.ClockIs': WHATEVER THE INPUT: true; the input reads as it did. -/
def clockIsSpec : ChangeSpec := { name := "clockIs", fn := fun _ => fun
  | [d1, d2, d3, d4] => { results := [.lit (.bool true)], args := [d1, d2, d3, d4] }
  | _ => none }
def clockIsRow : OpenClaim := { program := "ytahoibjgojlpeaa", sum := "6fcc248321c42ca82b307078ecbc27e11947f527ddb6b9564b1068d03698afe7", func := "toller/tollerlaw09.ClockIs", spec := "clockIs", apart := false }
def ClockIsSaid : Prop := clockIsRow.holds Try.pinned (OpenSpec.ofChange clockIsSpec)

/-- ITS FALSE NEIGHBOUR: 'it returns false'. Refute it at one input. -/
def clockIsWrong : ChangeSpec := { name := "clockIs", fn := fun _ => fun
  | [d1, d2, d3, d4] => { results := [.lit (.bool false)], args := [d1, d2, d3, d4] }
  | _ => none }
def ClockIsWrongFalsely : Prop := clockIsRow.holds Try.pinned (OpenSpec.ofChange clockIsWrong)

/-- 'tollerlaw09.ClockRipens': WHATEVER THE INPUT: true; the input reads as it did. -/
def clockRipensSpec : ChangeSpec := { name := "clockRipens", fn := fun _ => fun
  | [d1, d2, d3] => { results := [.lit (.bool true)], args := [d1, d2, d3] }
  | _ => none }
def clockRipensRow : OpenClaim := { program := "ytahoibjgojlpeaa", sum := "6fcc248321c42ca82b307078ecbc27e11947f527ddb6b9564b1068d03698afe7", func := "toller/tollerlaw09.ClockRipens", spec := "clockRipens", apart := false }
def ClockRipensSaid : Prop := clockRipensRow.holds Try.pinned (OpenSpec.ofChange clockRipensSpec)

/-- ITS FALSE NEIGHBOUR: 'it returns false'. Refute it at one input. -/
def clockRipensWrong : ChangeSpec := { name := "clockRipens", fn := fun _ => fun
  | [d1, d2, d3] => { results := [.lit (.bool false)], args := [d1, d2, d3] }
  | _ => none }
def ClockRipensWrongFalsely : Prop := clockRipensRow.holds Try.pinned (OpenSpec.ofChange clockRipensWrong)

/-- 'tollerlaw09.ClockCounts': WHATEVER THE INPUT: true; the input reads as it did. -/
def clockCountsSpec : ChangeSpec := { name := "clockCounts", fn := fun _ => fun
  | [d1, d2, d3] => { results := [.lit (.bool true)], args := [d1, d2, d3] }
  | _ => none }
def clockCountsRow : OpenClaim := { program := "ytahoibjgojlpeaa", sum := "6fcc248321c42ca82b307078ecbc27e11947f527ddb6b9564b1068d03698afe7", func := "toller/tollerlaw09.ClockCounts", spec := "clockCounts", apart := false }
def ClockCountsSaid : Prop := clockCountsRow.holds Try.pinned (OpenSpec.ofChange clockCountsSpec)

/-- ITS FALSE NEIGHBOUR: 'it returns false'. Refute it at one input. -/
def clockCountsWrong : ChangeSpec := { name := "clockCounts", fn := fun _ => fun
  | [d1, d2, d3] => { results := [.lit (.bool false)], args := [d1, d2, d3] }
  | _ => none }
def ClockCountsWrongFalsely : Prop := clockCountsRow.holds Try.pinned (OpenSpec.ofChange clockCountsWrong)

/-- 'tollerlaw09.ClockStays': WHATEVER THE INPUT: true; the input reads as it did. -/
def clockStaysSpec : ChangeSpec := { name := "clockStays", fn := fun _ => fun
  | [d1, d2, d3, d4, d5] => { results := [.lit (.bool true)], args := [d1, d2, d3, d4, d5] }
  | _ => none }
def clockStaysRow : OpenClaim := { program := "ytahoibjgojlpeaa", sum := "6fcc248321c42ca82b307078ecbc27e11947f527ddb6b9564b1068d03698afe7", func := "toller/tollerlaw09.ClockStays", spec := "clockStays", apart := false }
def ClockStaysSaid : Prop := clockStaysRow.holds Try.pinned (OpenSpec.ofChange clockStaysSpec)

/-- ITS FALSE NEIGHBOUR: 'it returns false'. Refute it at one input. -/
def clockStaysWrong : ChangeSpec := { name := "clockStays", fn := fun _ => fun
  | [d1, d2, d3, d4, d5] => { results := [.lit (.bool false)], args := [d1, d2, d3, d4, d5] }
  | _ => none }
def ClockStaysWrongFalsely : Prop := clockStaysRow.holds Try.pinned (OpenSpec.ofChange clockStaysWrong)

/-- 'tollerlaw20.GhostIs': WHATEVER THE INPUT: true; the input reads as it did. -/
def ghostIsSpec : ChangeSpec := { name := "ghostIs", fn := fun _ => fun
  | [d1, d2, d3, d4] => { results := [.lit (.bool true)], args := [d1, d2, d3, d4] }
  | _ => none }
def ghostIsRow : OpenClaim := { program := "ytahoibjgojlpeaa", sum := "6fcc248321c42ca82b307078ecbc27e11947f527ddb6b9564b1068d03698afe7", func := "toller/tollerlaw20.GhostIs", spec := "ghostIs", unfollowed := true, recurses := true, apart := false }
def GhostIsSaid : Prop := ghostIsRow.holds Try.pinned (OpenSpec.ofChange ghostIsSpec)

/-- ITS FALSE NEIGHBOUR: 'it returns false'. Refute it at one input. -/
def ghostIsWrong : ChangeSpec := { name := "ghostIs", fn := fun _ => fun
  | [d1, d2, d3, d4] => { results := [.lit (.bool false)], args := [d1, d2, d3, d4] }
  | _ => none }
def GhostIsWrongFalsely : Prop := ghostIsRow.holds Try.pinned (OpenSpec.ofChange ghostIsWrong)

/-- 'tollerlaw20.GhostShares': WHATEVER THE INPUT: true; the input reads as it did. -/
def ghostSharesSpec : ChangeSpec := { name := "ghostShares", fn := fun _ => fun
  | [d1, d2, d3, d4, d5] => { results := [.lit (.bool true)], args := [d1, d2, d3, d4, d5] }
  | _ => none }
def ghostSharesRow : OpenClaim := { program := "ytahoibjgojlpeaa", sum := "6fcc248321c42ca82b307078ecbc27e11947f527ddb6b9564b1068d03698afe7", func := "toller/tollerlaw20.GhostShares", spec := "ghostShares", unfollowed := true, recurses := true, apart := false }
def GhostSharesSaid : Prop := ghostSharesRow.holds Try.pinned (OpenSpec.ofChange ghostSharesSpec)

/-- ITS FALSE NEIGHBOUR: 'it returns false'. Refute it at one input. -/
def ghostSharesWrong : ChangeSpec := { name := "ghostShares", fn := fun _ => fun
  | [d1, d2, d3, d4, d5] => { results := [.lit (.bool false)], args := [d1, d2, d3, d4, d5] }
  | _ => none }
def GhostSharesWrongFalsely : Prop := ghostSharesRow.holds Try.pinned (OpenSpec.ofChange ghostSharesWrong)

/-- 'tollerlaw20.GhostMore': WHATEVER THE INPUT: true; the input reads as it did. -/
def ghostMoreSpec : ChangeSpec := { name := "ghostMore", fn := fun _ => fun
  | [d1, d2, d3, d4, d5] => { results := [.lit (.bool true)], args := [d1, d2, d3, d4, d5] }
  | _ => none }
def ghostMoreRow : OpenClaim := { program := "ytahoibjgojlpeaa", sum := "6fcc248321c42ca82b307078ecbc27e11947f527ddb6b9564b1068d03698afe7", func := "toller/tollerlaw20.GhostMore", spec := "ghostMore", unfollowed := true, recurses := true, apart := false }
def GhostMoreSaid : Prop := ghostMoreRow.holds Try.pinned (OpenSpec.ofChange ghostMoreSpec)

/-- ITS FALSE NEIGHBOUR: 'it returns false'. Refute it at one input. -/
def ghostMoreWrong : ChangeSpec := { name := "ghostMore", fn := fun _ => fun
  | [d1, d2, d3, d4, d5] => { results := [.lit (.bool false)], args := [d1, d2, d3, d4, d5] }
  | _ => none }
def GhostMoreWrongFalsely : Prop := ghostMoreRow.holds Try.pinned (OpenSpec.ofChange ghostMoreWrong)

/-- 'tollerlaw20.GhostSums': WHATEVER THE INPUT: true; the input reads as it did. -/
def ghostSumsSpec : ChangeSpec := { name := "ghostSums", fn := fun _ => fun
  | [d1, d2, d3] => { results := [.lit (.bool true)], args := [d1, d2, d3] }
  | _ => none }
def ghostSumsRow : OpenClaim := { program := "ytahoibjgojlpeaa", sum := "6fcc248321c42ca82b307078ecbc27e11947f527ddb6b9564b1068d03698afe7", func := "toller/tollerlaw20.GhostSums", spec := "ghostSums", unfollowed := true, recurses := true, apart := false }
def GhostSumsSaid : Prop := ghostSumsRow.holds Try.pinned (OpenSpec.ofChange ghostSumsSpec)

/-- ITS FALSE NEIGHBOUR: 'it returns false'. Refute it at one input. -/
def ghostSumsWrong : ChangeSpec := { name := "ghostSums", fn := fun _ => fun
  | [d1, d2, d3] => { results := [.lit (.bool false)], args := [d1, d2, d3] }
  | _ => none }
def GhostSumsWrongFalsely : Prop := ghostSumsRow.holds Try.pinned (OpenSpec.ofChange ghostSumsWrong)

/-- 'tollerlaw20.GhostLeaves': WHATEVER THE INPUT: true; the input reads as it did. -/
def ghostLeavesSpec : ChangeSpec := { name := "ghostLeaves", fn := fun _ => fun
  | [d1, d2, d3] => { results := [.lit (.bool true)], args := [d1, d2, d3] }
  | _ => none }
def ghostLeavesRow : OpenClaim := { program := "ytahoibjgojlpeaa", sum := "6fcc248321c42ca82b307078ecbc27e11947f527ddb6b9564b1068d03698afe7", func := "toller/tollerlaw20.GhostLeaves", spec := "ghostLeaves", unfollowed := true, recurses := true, apart := false }
def GhostLeavesSaid : Prop := ghostLeavesRow.holds Try.pinned (OpenSpec.ofChange ghostLeavesSpec)

/-- ITS FALSE NEIGHBOUR: 'it returns false'. Refute it at one input. -/
def ghostLeavesWrong : ChangeSpec := { name := "ghostLeaves", fn := fun _ => fun
  | [d1, d2, d3] => { results := [.lit (.bool false)], args := [d1, d2, d3] }
  | _ => none }
def GhostLeavesWrongFalsely : Prop := ghostLeavesRow.holds Try.pinned (OpenSpec.ofChange ghostLeavesWrong)

/-- 'tollerlaw20.GhostTies': WHATEVER THE INPUT: true; the input reads as it did. -/
def ghostTiesSpec : ChangeSpec := { name := "ghostTies", fn := fun _ => fun
  | [d] => { results := [.lit (.bool true)], args := [d] }
  | _ => none }
def ghostTiesRow : OpenClaim := { program := "ytahoibjgojlpeaa", sum := "6fcc248321c42ca82b307078ecbc27e11947f527ddb6b9564b1068d03698afe7", func := "toller/tollerlaw20.GhostTies", spec := "ghostTies", unfollowed := true, recurses := true, apart := false }
def GhostTiesSaid : Prop := ghostTiesRow.holds Try.pinned (OpenSpec.ofChange ghostTiesSpec)

/-- ITS FALSE NEIGHBOUR: 'it returns false'. Refute it at one input. -/
def ghostTiesWrong : ChangeSpec := { name := "ghostTies", fn := fun _ => fun
  | [d] => { results := [.lit (.bool false)], args := [d] }
  | _ => none }
def GhostTiesWrongFalsely : Prop := ghostTiesRow.holds Try.pinned (OpenSpec.ofChange ghostTiesWrong)

/- THE SECOND FORM. 'bulk': how many values and letters a reading holds, each counted each time it is reached (what is shared counts as often as it is met; a slice's spare places count too). A statement '..UptoSaid' is the law's where the arguments, and the package variables that the reading takes, are together of bulk at most 1048576: NARROWER than '..Said'. Prove '..Said' where nothing that the law and all that it calls make is longer than what came in: it says more and counts as full. Else prove '..UptoSaid'. A law counts once. -/
mutual
def uptoBulk {H : Type} : DataW H → Nat
  | .lit (.string bytes) => bytes.length + 1
  | .lit _ => 1
  | .nil => 1
  | .ptr d => uptoBulk d + 1
  | .slice elems spare => uptoBulkAll elems + uptoBulkAll spare + 1
  | .agg parts => uptoBulkAll parts + 1
  | .iface _ d => uptoBulk d + 1
  | .map entries => uptoBulkEntries entries + 1
  | .held _ => 1
def uptoBulkAll {H : Type} : List (DataW H) → Nat
  | [] => 0
  | d :: r => uptoBulk d + uptoBulkAll r
def uptoBulkEntries {H : Type} : List (Lit × DataW H) → Nat
  | [] => 0
  | x :: r => uptoBulkEntry x + uptoBulkEntries r
def uptoBulkEntry {H : Type} : Lit × DataW H → Nat
  | (.string bytes, d) => bytes.length + uptoBulk d + 1
  | (_, d) => uptoBulk d + 1
 end
def uptoSmall : (H : Type) → List (DataW H) → Bool := fun _ ds => decide (uptoBulkAll ds ≤ 1048576)
def OpenSpec.upto (s : _root_.Go.ChangeSpec) : _root_.Go.OpenSpec := { _root_.Go.OpenSpec.ofChange s with cond := some uptoSmall }

/-- 'tollerlaw09.ClockIs', WHERE WHAT IT READS IS OF BULK AT MOST 1048576: true; the input reads as it did. -/
def clockIsUptoRow : OpenClaim := { program := "ytahoibjgojlpeaa", sum := "6fcc248321c42ca82b307078ecbc27e11947f527ddb6b9564b1068d03698afe7", func := "toller/tollerlaw09.ClockIs", spec := "clockIs", apart := false, narrowed := true }
def ClockIsUptoSaid : Prop := clockIsUptoRow.holds Try.pinned (OpenSpec.upto clockIsSpec)

/-- 'tollerlaw09.ClockRipens', WHERE WHAT IT READS IS OF BULK AT MOST 1048576: true; the input reads as it did. -/
def clockRipensUptoRow : OpenClaim := { program := "ytahoibjgojlpeaa", sum := "6fcc248321c42ca82b307078ecbc27e11947f527ddb6b9564b1068d03698afe7", func := "toller/tollerlaw09.ClockRipens", spec := "clockRipens", apart := false, narrowed := true }
def ClockRipensUptoSaid : Prop := clockRipensUptoRow.holds Try.pinned (OpenSpec.upto clockRipensSpec)

/-- 'tollerlaw09.ClockCounts', WHERE WHAT IT READS IS OF BULK AT MOST 1048576: true; the input reads as it did. -/
def clockCountsUptoRow : OpenClaim := { program := "ytahoibjgojlpeaa", sum := "6fcc248321c42ca82b307078ecbc27e11947f527ddb6b9564b1068d03698afe7", func := "toller/tollerlaw09.ClockCounts", spec := "clockCounts", apart := false, narrowed := true }
def ClockCountsUptoSaid : Prop := clockCountsUptoRow.holds Try.pinned (OpenSpec.upto clockCountsSpec)

/-- 'tollerlaw09.ClockStays', WHERE WHAT IT READS IS OF BULK AT MOST 1048576: true; the input reads as it did. -/
def clockStaysUptoRow : OpenClaim := { program := "ytahoibjgojlpeaa", sum := "6fcc248321c42ca82b307078ecbc27e11947f527ddb6b9564b1068d03698afe7", func := "toller/tollerlaw09.ClockStays", spec := "clockStays", apart := false, narrowed := true }
def ClockStaysUptoSaid : Prop := clockStaysUptoRow.holds Try.pinned (OpenSpec.upto clockStaysSpec)

/-- 'tollerlaw20.GhostIs', WHERE WHAT IT READS IS OF BULK AT MOST 1048576: true; the input reads as it did. -/
def ghostIsUptoRow : OpenClaim := { program := "ytahoibjgojlpeaa", sum := "6fcc248321c42ca82b307078ecbc27e11947f527ddb6b9564b1068d03698afe7", func := "toller/tollerlaw20.GhostIs", spec := "ghostIs", unfollowed := true, recurses := true, apart := false, narrowed := true }
def GhostIsUptoSaid : Prop := ghostIsUptoRow.holds Try.pinned (OpenSpec.upto ghostIsSpec)

/-- 'tollerlaw20.GhostShares', WHERE WHAT IT READS IS OF BULK AT MOST 1048576: true; the input reads as it did. -/
def ghostSharesUptoRow : OpenClaim := { program := "ytahoibjgojlpeaa", sum := "6fcc248321c42ca82b307078ecbc27e11947f527ddb6b9564b1068d03698afe7", func := "toller/tollerlaw20.GhostShares", spec := "ghostShares", unfollowed := true, recurses := true, apart := false, narrowed := true }
def GhostSharesUptoSaid : Prop := ghostSharesUptoRow.holds Try.pinned (OpenSpec.upto ghostSharesSpec)

/-- 'tollerlaw20.GhostMore', WHERE WHAT IT READS IS OF BULK AT MOST 1048576: true; the input reads as it did. -/
def ghostMoreUptoRow : OpenClaim := { program := "ytahoibjgojlpeaa", sum := "6fcc248321c42ca82b307078ecbc27e11947f527ddb6b9564b1068d03698afe7", func := "toller/tollerlaw20.GhostMore", spec := "ghostMore", unfollowed := true, recurses := true, apart := false, narrowed := true }
def GhostMoreUptoSaid : Prop := ghostMoreUptoRow.holds Try.pinned (OpenSpec.upto ghostMoreSpec)

/-- 'tollerlaw20.GhostSums', WHERE WHAT IT READS IS OF BULK AT MOST 1048576: true; the input reads as it did. -/
def ghostSumsUptoRow : OpenClaim := { program := "ytahoibjgojlpeaa", sum := "6fcc248321c42ca82b307078ecbc27e11947f527ddb6b9564b1068d03698afe7", func := "toller/tollerlaw20.GhostSums", spec := "ghostSums", unfollowed := true, recurses := true, apart := false, narrowed := true }
def GhostSumsUptoSaid : Prop := ghostSumsUptoRow.holds Try.pinned (OpenSpec.upto ghostSumsSpec)

/-- 'tollerlaw20.GhostLeaves', WHERE WHAT IT READS IS OF BULK AT MOST 1048576: true; the input reads as it did. -/
def ghostLeavesUptoRow : OpenClaim := { program := "ytahoibjgojlpeaa", sum := "6fcc248321c42ca82b307078ecbc27e11947f527ddb6b9564b1068d03698afe7", func := "toller/tollerlaw20.GhostLeaves", spec := "ghostLeaves", unfollowed := true, recurses := true, apart := false, narrowed := true }
def GhostLeavesUptoSaid : Prop := ghostLeavesUptoRow.holds Try.pinned (OpenSpec.upto ghostLeavesSpec)

/-- 'tollerlaw20.GhostTies', WHERE WHAT IT READS IS OF BULK AT MOST 1048576: true; the input reads as it did. -/
def ghostTiesUptoRow : OpenClaim := { program := "ytahoibjgojlpeaa", sum := "6fcc248321c42ca82b307078ecbc27e11947f527ddb6b9564b1068d03698afe7", func := "toller/tollerlaw20.GhostTies", spec := "ghostTies", unfollowed := true, recurses := true, apart := false, narrowed := true }
def GhostTiesUptoSaid : Prop := ghostTiesUptoRow.holds Try.pinned (OpenSpec.upto ghostTiesSpec)

end Rows
end Go.Proofs.Ytahoibjgojlpeaa

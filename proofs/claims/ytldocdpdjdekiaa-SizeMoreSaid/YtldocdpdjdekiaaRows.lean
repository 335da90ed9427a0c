/-
  No cell of these rows narrows 'for every input' (looked for: loops, veiled, ifaces, maps, wideKeys, modest, calm, conditions, laid).
  DERIVED. THE GIVEN ROWS OF THIS SEAT. 6 by the template 'for every input the law returns true; each argument reads behind the call as it read before'; 0 by the template 'total and deterministic' (their statements: YtldocdpdjdekiaaTotals.lean).
  GIVEN WITH THE SEED: the statements are not yours to turn. If you find one false, say at which input.
  Laid BY PROGRAM, IN A SANDBOX (cutbox-rows.mjs): the forced cells as the released guide's own fill.sh prints them over the translation 89784b2a8138efec… (all of the seat's roots in one cut). By AI agents, Wed Nov 11 2026. No macro, syntax, notation, axiom, sorry.
-/
import Derived.Test.YtldocdpdjdekiaaChecked
import GoSem.Claim
import GoSem.ClaimJoined
import GoSem.ClaimMapViews
import Derived.JoinedTies
import Derived.KernelRfl
namespace Go.Proofs.Ytldocdpdjdekiaa
/- THE CELL 'sum', in the pinned program and in every row, IS THE sha256 OF THE DUMP (.gsa) THAT YtldocdpdjdekiaaProg.lean LOADS. Nothing in Lean hashes anything: it is a label: what it is worth is what the hold of that sum in a sandbox is worth. -/
noncomputable def Try.pinned : Pinned := { name := "ytldocdpdjdekiaa", sum := "89784b2a8138efeca64922171a25f5a84038d2390aed61d40eefca4cca083ec4", checked := Try.checked }
namespace Rows
def none {H : Type} : Left H := { results := [], args := [] }

/-- 'tollerlaw22.SizeIs': WHATEVER THE INPUT: true; the input reads as it did. -/
def sizeIsSpec : ChangeSpec := { name := "sizeIs", fn := fun _ => fun
  | [d1, d2, d3] => { results := [.lit (.bool true)], args := [d1, d2, d3] }
  | _ => none }
def sizeIsRow : OpenClaim := { program := "ytldocdpdjdekiaa", sum := "89784b2a8138efeca64922171a25f5a84038d2390aed61d40eefca4cca083ec4", func := "toller/tollerlaw22.SizeIs", spec := "sizeIs", unfollowed := true, recurses := true, plainKeys := false, apart := false }
def SizeIsSaid : Prop := sizeIsRow.holds Try.pinned (OpenSpec.ofChange sizeIsSpec)

/-- ITS FALSE NEIGHBOUR: 'it returns false'. Refute it at one input. -/
def sizeIsWrong : ChangeSpec := { name := "sizeIs", fn := fun _ => fun
  | [d1, d2, d3] => { results := [.lit (.bool false)], args := [d1, d2, d3] }
  | _ => none }
def SizeIsWrongFalsely : Prop := sizeIsRow.holds Try.pinned (OpenSpec.ofChange sizeIsWrong)

/-- 'tollerlaw22.SizeMore': WHATEVER THE INPUT: true; the input reads as it did. -/
def sizeMoreSpec : ChangeSpec := { name := "sizeMore", fn := fun _ => fun
  | [d1, d2] => { results := [.lit (.bool true)], args := [d1, d2] }
  | _ => none }
def sizeMoreRow : OpenClaim := { program := "ytldocdpdjdekiaa", sum := "89784b2a8138efeca64922171a25f5a84038d2390aed61d40eefca4cca083ec4", func := "toller/tollerlaw22.SizeMore", spec := "sizeMore", unfollowed := true, recurses := true, plainKeys := false, apart := false }
def SizeMoreSaid : Prop := sizeMoreRow.holds Try.pinned (OpenSpec.ofChange sizeMoreSpec)

/-- ITS FALSE NEIGHBOUR: 'it returns false'. Refute it at one input. -/
def sizeMoreWrong : ChangeSpec := { name := "sizeMore", fn := fun _ => fun
  | [d1, d2] => { results := [.lit (.bool false)], args := [d1, d2] }
  | _ => none }
def SizeMoreWrongFalsely : Prop := sizeMoreRow.holds Try.pinned (OpenSpec.ofChange sizeMoreWrong)

/-- 'tollerlaw22.SizeWithin': WHATEVER THE INPUT: true; the input reads as it did. -/
def sizeWithinSpec : ChangeSpec := { name := "sizeWithin", fn := fun _ => fun
  | [d1, d2, d3] => { results := [.lit (.bool true)], args := [d1, d2, d3] }
  | _ => none }
def sizeWithinRow : OpenClaim := { program := "ytldocdpdjdekiaa", sum := "89784b2a8138efeca64922171a25f5a84038d2390aed61d40eefca4cca083ec4", func := "toller/tollerlaw22.SizeWithin", spec := "sizeWithin", unfollowed := true, recurses := true, plainKeys := false, apart := false }
def SizeWithinSaid : Prop := sizeWithinRow.holds Try.pinned (OpenSpec.ofChange sizeWithinSpec)

/-- ITS FALSE NEIGHBOUR: 'it returns false'. Refute it at one input. -/
def sizeWithinWrong : ChangeSpec := { name := "sizeWithin", fn := fun _ => fun
  | [d1, d2, d3] => { results := [.lit (.bool false)], args := [d1, d2, d3] }
  | _ => none }
def SizeWithinWrongFalsely : Prop := sizeWithinRow.holds Try.pinned (OpenSpec.ofChange sizeWithinWrong)

/-- 'tollerlaw17.EarlyParts': WHATEVER THE INPUT: true; the input reads as it did. -/
def earlyPartsSpec : ChangeSpec := { name := "earlyParts", fn := fun _ => fun
  | [d1, d2, d3] => { results := [.lit (.bool true)], args := [d1, d2, d3] }
  | _ => none }
def earlyPartsRow : OpenClaim := { program := "ytldocdpdjdekiaa", sum := "89784b2a8138efeca64922171a25f5a84038d2390aed61d40eefca4cca083ec4", func := "toller/tollerlaw17.EarlyParts", spec := "earlyParts", unfollowed := true, recurses := true, plainKeys := false, apart := false }
def EarlyPartsSaid : Prop := earlyPartsRow.holds Try.pinned (OpenSpec.ofChange earlyPartsSpec)

/-- ITS FALSE NEIGHBOUR: 'it returns false'. Refute it at one input. -/
def earlyPartsWrong : ChangeSpec := { name := "earlyParts", fn := fun _ => fun
  | [d1, d2, d3] => { results := [.lit (.bool false)], args := [d1, d2, d3] }
  | _ => none }
def EarlyPartsWrongFalsely : Prop := earlyPartsRow.holds Try.pinned (OpenSpec.ofChange earlyPartsWrong)

/-- 'tollerlaw17.EarlyKeeps': WHATEVER THE INPUT: true; the input reads as it did. -/
def earlyKeepsSpec : ChangeSpec := { name := "earlyKeeps", fn := fun _ => fun
  | [d1, d2, d3] => { results := [.lit (.bool true)], args := [d1, d2, d3] }
  | _ => none }
def earlyKeepsRow : OpenClaim := { program := "ytldocdpdjdekiaa", sum := "89784b2a8138efeca64922171a25f5a84038d2390aed61d40eefca4cca083ec4", func := "toller/tollerlaw17.EarlyKeeps", spec := "earlyKeeps", unfollowed := true, recurses := true, plainKeys := false, apart := false }
def EarlyKeepsSaid : Prop := earlyKeepsRow.holds Try.pinned (OpenSpec.ofChange earlyKeepsSpec)

/-- ITS FALSE NEIGHBOUR: 'it returns false'. Refute it at one input. -/
def earlyKeepsWrong : ChangeSpec := { name := "earlyKeeps", fn := fun _ => fun
  | [d1, d2, d3] => { results := [.lit (.bool false)], args := [d1, d2, d3] }
  | _ => none }
def EarlyKeepsWrongFalsely : Prop := earlyKeepsRow.holds Try.pinned (OpenSpec.ofChange earlyKeepsWrong)

/-- 'tollerlaw16.OrphansRefuse': WHATEVER THE INPUT: true; the input reads as it did. -/
def orphansRefuseSpec : ChangeSpec := { name := "orphansRefuse", fn := fun _ => fun
  | [d1, d2, d3] => { results := [.lit (.bool true)], args := [d1, d2, d3] }
  | _ => none }
def orphansRefuseRow : OpenClaim := { program := "ytldocdpdjdekiaa", sum := "89784b2a8138efeca64922171a25f5a84038d2390aed61d40eefca4cca083ec4", func := "toller/tollerlaw16.OrphansRefuse", spec := "orphansRefuse", unfollowed := true, recurses := true, plainKeys := false, apart := false }
def OrphansRefuseSaid : Prop := orphansRefuseRow.holds Try.pinned (OpenSpec.ofChange orphansRefuseSpec)

/-- ITS FALSE NEIGHBOUR: 'it returns false'. Refute it at one input. -/
def orphansRefuseWrong : ChangeSpec := { name := "orphansRefuse", fn := fun _ => fun
  | [d1, d2, d3] => { results := [.lit (.bool false)], args := [d1, d2, d3] }
  | _ => none }
def OrphansRefuseWrongFalsely : Prop := orphansRefuseRow.holds Try.pinned (OpenSpec.ofChange orphansRefuseWrong)

/- THE SECOND FORM. 'bulk': how many values and letters a reading holds, each counted each time it is reached (what is shared counts as often as it is met; a slice's spare places count too). A statement '..UptoSaid' is the law's where the arguments, and the package variables that the reading takes, are together of bulk at most 1048576: NARROWER than '..Said'. Prove '..Said' where nothing that the law and all that it calls make is longer than what came in: it says more and counts as full. Else prove '..UptoSaid'. A law counts once. -/
mutual
def uptoBulk {H : Type} : DataW H → Nat
  | .lit (.string bytes) => bytes.length + 1
  | .lit _ => 1
  | .nil => 1
  | .ptr d => uptoBulk d + 1
  | .slice elems spare => uptoBulkAll elems + uptoBulkAll spare + 1
  | .agg parts => uptoBulkAll parts + 1
  | .iface _ d => uptoBulk d + 1
  | .map entries => uptoBulkEntries entries + 1
  | .held _ => 1
def uptoBulkAll {H : Type} : List (DataW H) → Nat
  | [] => 0
  | d :: r => uptoBulk d + uptoBulkAll r
def uptoBulkEntries {H : Type} : List (Lit × DataW H) → Nat
  | [] => 0
  | x :: r => uptoBulkEntry x + uptoBulkEntries r
def uptoBulkEntry {H : Type} : Lit × DataW H → Nat
  | (.string bytes, d) => bytes.length + uptoBulk d + 1
  | (_, d) => uptoBulk d + 1
 end
def uptoSmall : (H : Type) → List (DataW H) → Bool := fun _ ds => decide (uptoBulkAll ds ≤ 1048576)
def OpenSpec.upto (s : _root_.Go.ChangeSpec) : _root_.Go.OpenSpec := { _root_.Go.OpenSpec.ofChange s with cond := some uptoSmall }

/-- 'tollerlaw22.SizeIs', WHERE WHAT IT READS IS OF BULK AT MOST 1048576: true; the input reads as it did. -/
def sizeIsUptoRow : OpenClaim := { program := "ytldocdpdjdekiaa", sum := "89784b2a8138efeca64922171a25f5a84038d2390aed61d40eefca4cca083ec4", func := "toller/tollerlaw22.SizeIs", spec := "sizeIs", unfollowed := true, recurses := true, plainKeys := false, apart := false, narrowed := true }
def SizeIsUptoSaid : Prop := sizeIsUptoRow.holds Try.pinned (OpenSpec.upto sizeIsSpec)

/-- 'tollerlaw22.SizeMore', WHERE WHAT IT READS IS OF BULK AT MOST 1048576: true; the input reads as it did. -/
def sizeMoreUptoRow : OpenClaim := { program := "ytldocdpdjdekiaa", sum := "89784b2a8138efeca64922171a25f5a84038d2390aed61d40eefca4cca083ec4", func := "toller/tollerlaw22.SizeMore", spec := "sizeMore", unfollowed := true, recurses := true, plainKeys := false, apart := false, narrowed := true }
def SizeMoreUptoSaid : Prop := sizeMoreUptoRow.holds Try.pinned (OpenSpec.upto sizeMoreSpec)

/-- 'tollerlaw22.SizeWithin', WHERE WHAT IT READS IS OF BULK AT MOST 1048576: true; the input reads as it did. -/
def sizeWithinUptoRow : OpenClaim := { program := "ytldocdpdjdekiaa", sum := "89784b2a8138efeca64922171a25f5a84038d2390aed61d40eefca4cca083ec4", func := "toller/tollerlaw22.SizeWithin", spec := "sizeWithin", unfollowed := true, recurses := true, plainKeys := false, apart := false, narrowed := true }
def SizeWithinUptoSaid : Prop := sizeWithinUptoRow.holds Try.pinned (OpenSpec.upto sizeWithinSpec)

/-- 'tollerlaw17.EarlyParts', WHERE WHAT IT READS IS OF BULK AT MOST 1048576: true; the input reads as it did. -/
def earlyPartsUptoRow : OpenClaim := { program := "ytldocdpdjdekiaa", sum := "89784b2a8138efeca64922171a25f5a84038d2390aed61d40eefca4cca083ec4", func := "toller/tollerlaw17.EarlyParts", spec := "earlyParts", unfollowed := true, recurses := true, plainKeys := false, apart := false, narrowed := true }
def EarlyPartsUptoSaid : Prop := earlyPartsUptoRow.holds Try.pinned (OpenSpec.upto earlyPartsSpec)

/-- 'tollerlaw17.EarlyKeeps', WHERE WHAT IT READS IS OF BULK AT MOST 1048576: true; the input reads as it did. -/
def earlyKeepsUptoRow : OpenClaim := { program := "ytldocdpdjdekiaa", sum := "89784b2a8138efeca64922171a25f5a84038d2390aed61d40eefca4cca083ec4", func := "toller/tollerlaw17.EarlyKeeps", spec := "earlyKeeps", unfollowed := true, recurses := true, plainKeys := false, apart := false, narrowed := true }
def EarlyKeepsUptoSaid : Prop := earlyKeepsUptoRow.holds Try.pinned (OpenSpec.upto earlyKeepsSpec)

/-- 'tollerlaw16.OrphansRefuse', WHERE WHAT IT READS IS OF BULK AT MOST 1048576: true; the input reads as it did. -/
def orphansRefuseUptoRow : OpenClaim := { program := "ytldocdpdjdekiaa", sum := "89784b2a8138efeca64922171a25f5a84038d2390aed61d40eefca4cca083ec4", func := "toller/tollerlaw16.OrphansRefuse", spec := "orphansRefuse", unfollowed := true, recurses := true, plainKeys := false, apart := false, narrowed := true }
def OrphansRefuseUptoSaid : Prop := orphansRefuseUptoRow.holds Try.pinned (OpenSpec.upto orphansRefuseSpec)

end Rows
end Go.Proofs.Ytldocdpdjdekiaa

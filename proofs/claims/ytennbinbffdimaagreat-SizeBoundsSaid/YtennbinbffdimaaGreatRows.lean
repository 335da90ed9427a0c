/-
  No cell of these rows narrows 'for every input' (looked for: loops, veiled, ifaces, maps, wideKeys, modest, calm, conditions, laid).
  DERIVED. THE GIVEN ROWS OF THIS SEAT. 14 by the template 'for every input the law returns true; each argument reads behind the call as it read before'; 0 by the template 'total and deterministic' (their statements: YtennbinbffdimaaGreatTotals.lean).
  GIVEN WITH THE SEED: the statements are not yours to turn. If you find one false, say at which input.
  Laid BY PROGRAM, IN A SANDBOX (cutbox-rows.mjs): the forced cells as the released guide's own fill.sh prints them over the translation 5a5fd153ca4fb9bc… (all of the seat's roots in one cut). By AI agents, Wed Nov 11 2026. No macro, syntax, notation, axiom, sorry.
-/
import Derived.Test.YtennbinbffdimaaGreatChecked
import GoSem.Claim
import GoSem.ClaimJoined
import GoSem.ClaimMapViews
import Derived.JoinedTies
import Derived.KernelRfl
namespace Go.Proofs.YtennbinbffdimaaGreat
/- THE CELL 'sum', in the pinned program and in every row, IS THE sha256 OF THE DUMP (.gsa) THAT YtennbinbffdimaaGreatProg.lean LOADS. Nothing in Lean hashes anything: it is a label: what it is worth is what the hold of that sum in a sandbox is worth. -/
noncomputable def Tryz.pinned : Pinned := { name := "ytennbinbffdimaagreat", sum := "5a5fd153ca4fb9bc5b4633cfb9555f78acbde317a26feb4049ca195abad7431a", checked := Tryz.checked }
namespace Rows
def none {H : Type} : Left H := { results := [], args := [] }

/-- 'tollerlaw22.SizePeers': WHATEVER THE INPUT: true; the input reads as it did. -/
def sizePeersSpec : ChangeSpec := { name := "sizePeers", fn := fun _ => fun
  | [d1, d2, d3] => { results := [.lit (.bool true)], args := [d1, d2, d3] }
  | _ => none }
def sizePeersRow : OpenClaim := { program := "ytennbinbffdimaagreat", sum := "5a5fd153ca4fb9bc5b4633cfb9555f78acbde317a26feb4049ca195abad7431a", func := "toller/tollerlaw22.SizePeers", spec := "sizePeers", unfollowed := true, recurses := true, plainKeys := false, apart := false }
def SizePeersSaid : Prop := sizePeersRow.holds Tryz.pinned (OpenSpec.ofChange sizePeersSpec)

/-- ITS FALSE NEIGHBOUR: 'it returns false'. Refute it at one input. -/
def sizePeersWrong : ChangeSpec := { name := "sizePeers", fn := fun _ => fun
  | [d1, d2, d3] => { results := [.lit (.bool false)], args := [d1, d2, d3] }
  | _ => none }
def SizePeersWrongFalsely : Prop := sizePeersRow.holds Tryz.pinned (OpenSpec.ofChange sizePeersWrong)

/-- 'tollerlaw19.GateTicks': WHATEVER THE INPUT: true; the input reads as it did. -/
def gateTicksSpec : ChangeSpec := { name := "gateTicks", fn := fun _ => fun
  | [d] => { results := [.lit (.bool true)], args := [d] }
  | _ => none }
def gateTicksRow : OpenClaim := { program := "ytennbinbffdimaagreat", sum := "5a5fd153ca4fb9bc5b4633cfb9555f78acbde317a26feb4049ca195abad7431a", func := "toller/tollerlaw19.GateTicks", spec := "gateTicks", inPlace := ["math/bits.Add64"], unfollowed := true, recurses := true, plainKeys := false, apart := false }
def GateTicksSaid : Prop := gateTicksRow.holds Tryz.pinned (OpenSpec.ofChange gateTicksSpec)

/-- ITS FALSE NEIGHBOUR: 'it returns false'. Refute it at one input. -/
def gateTicksWrong : ChangeSpec := { name := "gateTicks", fn := fun _ => fun
  | [d] => { results := [.lit (.bool false)], args := [d] }
  | _ => none }
def GateTicksWrongFalsely : Prop := gateTicksRow.holds Tryz.pinned (OpenSpec.ofChange gateTicksWrong)

/-- 'tollerlaw19.GateWaits': WHATEVER THE INPUT: true; the input reads as it did. -/
def gateWaitsSpec : ChangeSpec := { name := "gateWaits", fn := fun _ => fun
  | [d] => { results := [.lit (.bool true)], args := [d] }
  | _ => none }
def gateWaitsRow : OpenClaim := { program := "ytennbinbffdimaagreat", sum := "5a5fd153ca4fb9bc5b4633cfb9555f78acbde317a26feb4049ca195abad7431a", func := "toller/tollerlaw19.GateWaits", spec := "gateWaits", inPlace := ["math/bits.Add64"], unfollowed := true, recurses := true, plainKeys := false, apart := false }
def GateWaitsSaid : Prop := gateWaitsRow.holds Tryz.pinned (OpenSpec.ofChange gateWaitsSpec)

/-- ITS FALSE NEIGHBOUR: 'it returns false'. Refute it at one input. -/
def gateWaitsWrong : ChangeSpec := { name := "gateWaits", fn := fun _ => fun
  | [d] => { results := [.lit (.bool false)], args := [d] }
  | _ => none }
def GateWaitsWrongFalsely : Prop := gateWaitsRow.holds Tryz.pinned (OpenSpec.ofChange gateWaitsWrong)

/-- 'tollerlaw22.SizeBounds': WHATEVER THE INPUT: true; the input reads as it did. -/
def sizeBoundsSpec : ChangeSpec := { name := "sizeBounds", fn := fun _ => fun
  | [d] => { results := [.lit (.bool true)], args := [d] }
  | _ => none }
def sizeBoundsRow : OpenClaim := { program := "ytennbinbffdimaagreat", sum := "5a5fd153ca4fb9bc5b4633cfb9555f78acbde317a26feb4049ca195abad7431a", func := "toller/tollerlaw22.SizeBounds", spec := "sizeBounds", inPlace := ["math/bits.Add64"], unfollowed := true, recurses := true, plainKeys := false, apart := false }
def SizeBoundsSaid : Prop := sizeBoundsRow.holds Tryz.pinned (OpenSpec.ofChange sizeBoundsSpec)

/-- ITS FALSE NEIGHBOUR: 'it returns false'. Refute it at one input. -/
def sizeBoundsWrong : ChangeSpec := { name := "sizeBounds", fn := fun _ => fun
  | [d] => { results := [.lit (.bool false)], args := [d] }
  | _ => none }
def SizeBoundsWrongFalsely : Prop := sizeBoundsRow.holds Tryz.pinned (OpenSpec.ofChange sizeBoundsWrong)

/-- 'tollerlaw19.GateHeads': WHATEVER THE INPUT: true; the input reads as it did. -/
def gateHeadsSpec : ChangeSpec := { name := "gateHeads", fn := fun _ => fun
  | [d] => { results := [.lit (.bool true)], args := [d] }
  | _ => none }
def gateHeadsRow : OpenClaim := { program := "ytennbinbffdimaagreat", sum := "5a5fd153ca4fb9bc5b4633cfb9555f78acbde317a26feb4049ca195abad7431a", func := "toller/tollerlaw19.GateHeads", spec := "gateHeads", inPlace := ["math/bits.Add64"], unfollowed := true, recurses := true, plainKeys := false, apart := false }
def GateHeadsSaid : Prop := gateHeadsRow.holds Tryz.pinned (OpenSpec.ofChange gateHeadsSpec)

/-- ITS FALSE NEIGHBOUR: 'it returns false'. Refute it at one input. -/
def gateHeadsWrong : ChangeSpec := { name := "gateHeads", fn := fun _ => fun
  | [d] => { results := [.lit (.bool false)], args := [d] }
  | _ => none }
def GateHeadsWrongFalsely : Prop := gateHeadsRow.holds Tryz.pinned (OpenSpec.ofChange gateHeadsWrong)

/-- 'tollerlaw19.GateDoes': WHATEVER THE INPUT: true; the input reads as it did. -/
def gateDoesSpec : ChangeSpec := { name := "gateDoes", fn := fun _ => fun
  | [d] => { results := [.lit (.bool true)], args := [d] }
  | _ => none }
def gateDoesRow : OpenClaim := { program := "ytennbinbffdimaagreat", sum := "5a5fd153ca4fb9bc5b4633cfb9555f78acbde317a26feb4049ca195abad7431a", func := "toller/tollerlaw19.GateDoes", spec := "gateDoes", inPlace := ["math/bits.Add64"], unfollowed := true, recurses := true, plainKeys := false, apart := false }
def GateDoesSaid : Prop := gateDoesRow.holds Tryz.pinned (OpenSpec.ofChange gateDoesSpec)

/-- ITS FALSE NEIGHBOUR: 'it returns false'. Refute it at one input. -/
def gateDoesWrong : ChangeSpec := { name := "gateDoes", fn := fun _ => fun
  | [d] => { results := [.lit (.bool false)], args := [d] }
  | _ => none }
def GateDoesWrongFalsely : Prop := gateDoesRow.holds Tryz.pinned (OpenSpec.ofChange gateDoesWrong)

/-- 'tollerlaw19.GateRefuses': WHATEVER THE INPUT: true; the input reads as it did. -/
def gateRefusesSpec : ChangeSpec := { name := "gateRefuses", fn := fun _ => fun
  | [d] => { results := [.lit (.bool true)], args := [d] }
  | _ => none }
def gateRefusesRow : OpenClaim := { program := "ytennbinbffdimaagreat", sum := "5a5fd153ca4fb9bc5b4633cfb9555f78acbde317a26feb4049ca195abad7431a", func := "toller/tollerlaw19.GateRefuses", spec := "gateRefuses", inPlace := ["math/bits.Add64"], unfollowed := true, recurses := true, plainKeys := false, apart := false }
def GateRefusesSaid : Prop := gateRefusesRow.holds Tryz.pinned (OpenSpec.ofChange gateRefusesSpec)

/-- ITS FALSE NEIGHBOUR: 'it returns false'. Refute it at one input. -/
def gateRefusesWrong : ChangeSpec := { name := "gateRefuses", fn := fun _ => fun
  | [d] => { results := [.lit (.bool false)], args := [d] }
  | _ => none }
def GateRefusesWrongFalsely : Prop := gateRefusesRow.holds Tryz.pinned (OpenSpec.ofChange gateRefusesWrong)

/-- 'tollerlaw19.GateOnce': WHATEVER THE INPUT: true; the input reads as it did. -/
def gateOnceSpec : ChangeSpec := { name := "gateOnce", fn := fun _ => fun
  | [d1, d2] => { results := [.lit (.bool true)], args := [d1, d2] }
  | _ => none }
def gateOnceRow : OpenClaim := { program := "ytennbinbffdimaagreat", sum := "5a5fd153ca4fb9bc5b4633cfb9555f78acbde317a26feb4049ca195abad7431a", func := "toller/tollerlaw19.GateOnce", spec := "gateOnce", inPlace := ["math/bits.Add64"], unfollowed := true, recurses := true, plainKeys := false, apart := false }
def GateOnceSaid : Prop := gateOnceRow.holds Tryz.pinned (OpenSpec.ofChange gateOnceSpec)

/-- ITS FALSE NEIGHBOUR: 'it returns false'. Refute it at one input. -/
def gateOnceWrong : ChangeSpec := { name := "gateOnce", fn := fun _ => fun
  | [d1, d2] => { results := [.lit (.bool false)], args := [d1, d2] }
  | _ => none }
def GateOnceWrongFalsely : Prop := gateOnceRow.holds Tryz.pinned (OpenSpec.ofChange gateOnceWrong)

/-- 'tollerlaw19.GateFinals': WHATEVER THE INPUT: true; the input reads as it did. -/
def gateFinalsSpec : ChangeSpec := { name := "gateFinals", fn := fun _ => fun
  | [d] => { results := [.lit (.bool true)], args := [d] }
  | _ => none }
def gateFinalsRow : OpenClaim := { program := "ytennbinbffdimaagreat", sum := "5a5fd153ca4fb9bc5b4633cfb9555f78acbde317a26feb4049ca195abad7431a", func := "toller/tollerlaw19.GateFinals", spec := "gateFinals", inPlace := ["math/bits.Add64"], unfollowed := true, recurses := true, plainKeys := false, apart := false }
def GateFinalsSaid : Prop := gateFinalsRow.holds Tryz.pinned (OpenSpec.ofChange gateFinalsSpec)

/-- ITS FALSE NEIGHBOUR: 'it returns false'. Refute it at one input. -/
def gateFinalsWrong : ChangeSpec := { name := "gateFinals", fn := fun _ => fun
  | [d] => { results := [.lit (.bool false)], args := [d] }
  | _ => none }
def GateFinalsWrongFalsely : Prop := gateFinalsRow.holds Tryz.pinned (OpenSpec.ofChange gateFinalsWrong)

/-- 'tollerlaw21.AuditIs': WHATEVER THE INPUT: true; the input reads as it did. -/
def auditIsSpec : ChangeSpec := { name := "auditIs", fn := fun _ => fun
  | [d] => { results := [.lit (.bool true)], args := [d] }
  | _ => none }
def auditIsRow : OpenClaim := { program := "ytennbinbffdimaagreat", sum := "5a5fd153ca4fb9bc5b4633cfb9555f78acbde317a26feb4049ca195abad7431a", func := "toller/tollerlaw21.AuditIs", spec := "auditIs", inPlace := ["math/bits.Add64"], unfollowed := true, recurses := true, plainKeys := false, apart := false }
def AuditIsSaid : Prop := auditIsRow.holds Tryz.pinned (OpenSpec.ofChange auditIsSpec)

/-- ITS FALSE NEIGHBOUR: 'it returns false'. Refute it at one input. -/
def auditIsWrong : ChangeSpec := { name := "auditIs", fn := fun _ => fun
  | [d] => { results := [.lit (.bool false)], args := [d] }
  | _ => none }
def AuditIsWrongFalsely : Prop := auditIsRow.holds Tryz.pinned (OpenSpec.ofChange auditIsWrong)

/-- 'tollerlaw21.AuditGood': WHATEVER THE INPUT: true; the input reads as it did. -/
def auditGoodSpec : ChangeSpec := { name := "auditGood", fn := fun _ => fun
  | [d] => { results := [.lit (.bool true)], args := [d] }
  | _ => none }
def auditGoodRow : OpenClaim := { program := "ytennbinbffdimaagreat", sum := "5a5fd153ca4fb9bc5b4633cfb9555f78acbde317a26feb4049ca195abad7431a", func := "toller/tollerlaw21.AuditGood", spec := "auditGood", inPlace := ["math/bits.Add64"], unfollowed := true, recurses := true, plainKeys := false, apart := false }
def AuditGoodSaid : Prop := auditGoodRow.holds Tryz.pinned (OpenSpec.ofChange auditGoodSpec)

/-- ITS FALSE NEIGHBOUR: 'it returns false'. Refute it at one input. -/
def auditGoodWrong : ChangeSpec := { name := "auditGood", fn := fun _ => fun
  | [d] => { results := [.lit (.bool false)], args := [d] }
  | _ => none }
def AuditGoodWrongFalsely : Prop := auditGoodRow.holds Tryz.pinned (OpenSpec.ofChange auditGoodWrong)

/-- 'tollerlaw21.AuditDoubles': WHATEVER THE INPUT: true; the input reads as it did. -/
def auditDoublesSpec : ChangeSpec := { name := "auditDoubles", fn := fun _ => fun
  | [d1, d2] => { results := [.lit (.bool true)], args := [d1, d2] }
  | _ => none }
def auditDoublesRow : OpenClaim := { program := "ytennbinbffdimaagreat", sum := "5a5fd153ca4fb9bc5b4633cfb9555f78acbde317a26feb4049ca195abad7431a", func := "toller/tollerlaw21.AuditDoubles", spec := "auditDoubles", inPlace := ["math/bits.Add64"], unfollowed := true, recurses := true, plainKeys := false, apart := false }
def AuditDoublesSaid : Prop := auditDoublesRow.holds Tryz.pinned (OpenSpec.ofChange auditDoublesSpec)

/-- ITS FALSE NEIGHBOUR: 'it returns false'. Refute it at one input. -/
def auditDoublesWrong : ChangeSpec := { name := "auditDoubles", fn := fun _ => fun
  | [d1, d2] => { results := [.lit (.bool false)], args := [d1, d2] }
  | _ => none }
def AuditDoublesWrongFalsely : Prop := auditDoublesRow.holds Tryz.pinned (OpenSpec.ofChange auditDoublesWrong)

/-- 'tollerlaw21.AuditShares': WHATEVER THE INPUT: true; the input reads as it did. -/
def auditSharesSpec : ChangeSpec := { name := "auditShares", fn := fun _ => fun
  | [d] => { results := [.lit (.bool true)], args := [d] }
  | _ => none }
def auditSharesRow : OpenClaim := { program := "ytennbinbffdimaagreat", sum := "5a5fd153ca4fb9bc5b4633cfb9555f78acbde317a26feb4049ca195abad7431a", func := "toller/tollerlaw21.AuditShares", spec := "auditShares", inPlace := ["math/bits.Add64"], unfollowed := true, recurses := true, plainKeys := false, apart := false }
def AuditSharesSaid : Prop := auditSharesRow.holds Tryz.pinned (OpenSpec.ofChange auditSharesSpec)

/-- ITS FALSE NEIGHBOUR: 'it returns false'. Refute it at one input. -/
def auditSharesWrong : ChangeSpec := { name := "auditShares", fn := fun _ => fun
  | [d] => { results := [.lit (.bool false)], args := [d] }
  | _ => none }
def AuditSharesWrongFalsely : Prop := auditSharesRow.holds Tryz.pinned (OpenSpec.ofChange auditSharesWrong)

/-- 'tollerlaw21.AuditWeights': WHATEVER THE INPUT: true; the input reads as it did. -/
def auditWeightsSpec : ChangeSpec := { name := "auditWeights", fn := fun _ => fun
  | [d1, d2] => { results := [.lit (.bool true)], args := [d1, d2] }
  | _ => none }
def auditWeightsRow : OpenClaim := { program := "ytennbinbffdimaagreat", sum := "5a5fd153ca4fb9bc5b4633cfb9555f78acbde317a26feb4049ca195abad7431a", func := "toller/tollerlaw21.AuditWeights", spec := "auditWeights", inPlace := ["math/bits.Add64"], unfollowed := true, recurses := true, plainKeys := false, apart := false }
def AuditWeightsSaid : Prop := auditWeightsRow.holds Tryz.pinned (OpenSpec.ofChange auditWeightsSpec)

/-- ITS FALSE NEIGHBOUR: 'it returns false'. Refute it at one input. -/
def auditWeightsWrong : ChangeSpec := { name := "auditWeights", fn := fun _ => fun
  | [d1, d2] => { results := [.lit (.bool false)], args := [d1, d2] }
  | _ => none }
def AuditWeightsWrongFalsely : Prop := auditWeightsRow.holds Tryz.pinned (OpenSpec.ofChange auditWeightsWrong)

/- THE SECOND FORM. 'bulk': how many values and letters a reading holds, each counted each time it is reached (what is shared counts as often as it is met; a slice's spare places count too). A statement '..UptoSaid' is the law's where the arguments, and the package variables that the reading takes, are together of bulk at most 1048576: NARROWER than '..Said'. Prove '..Said' where nothing that the law and all that it calls make is longer than what came in: it says more and counts as full. Else prove '..UptoSaid'. A law counts once. -/
mutual
def uptoBulk {H : Type} : DataW H → Nat
  | .lit (.string bytes) => bytes.length + 1
  | .lit _ => 1
  | .nil => 1
  | .ptr d => uptoBulk d + 1
  | .slice elems spare => uptoBulkAll elems + uptoBulkAll spare + 1
  | .agg parts => uptoBulkAll parts + 1
  | .iface _ d => uptoBulk d + 1
  | .map entries => uptoBulkEntries entries + 1
  | .held _ => 1
def uptoBulkAll {H : Type} : List (DataW H) → Nat
  | [] => 0
  | d :: r => uptoBulk d + uptoBulkAll r
def uptoBulkEntries {H : Type} : List (Lit × DataW H) → Nat
  | [] => 0
  | x :: r => uptoBulkEntry x + uptoBulkEntries r
def uptoBulkEntry {H : Type} : Lit × DataW H → Nat
  | (.string bytes, d) => bytes.length + uptoBulk d + 1
  | (_, d) => uptoBulk d + 1
 end
def uptoSmall : (H : Type) → List (DataW H) → Bool := fun _ ds => decide (uptoBulkAll ds ≤ 1048576)
def OpenSpec.upto (s : _root_.Go.ChangeSpec) : _root_.Go.OpenSpec := { _root_.Go.OpenSpec.ofChange s with cond := some uptoSmall }

/-- 'tollerlaw22.SizePeers', WHERE WHAT IT READS IS OF BULK AT MOST 1048576: true; the input reads as it did. -/
def sizePeersUptoRow : OpenClaim := { program := "ytennbinbffdimaagreat", sum := "5a5fd153ca4fb9bc5b4633cfb9555f78acbde317a26feb4049ca195abad7431a", func := "toller/tollerlaw22.SizePeers", spec := "sizePeers", unfollowed := true, recurses := true, plainKeys := false, apart := false, narrowed := true }
def SizePeersUptoSaid : Prop := sizePeersUptoRow.holds Tryz.pinned (OpenSpec.upto sizePeersSpec)

/-- 'tollerlaw19.GateTicks', WHERE WHAT IT READS IS OF BULK AT MOST 1048576: true; the input reads as it did. -/
def gateTicksUptoRow : OpenClaim := { program := "ytennbinbffdimaagreat", sum := "5a5fd153ca4fb9bc5b4633cfb9555f78acbde317a26feb4049ca195abad7431a", func := "toller/tollerlaw19.GateTicks", spec := "gateTicks", inPlace := ["math/bits.Add64"], unfollowed := true, recurses := true, plainKeys := false, apart := false, narrowed := true }
def GateTicksUptoSaid : Prop := gateTicksUptoRow.holds Tryz.pinned (OpenSpec.upto gateTicksSpec)

/-- 'tollerlaw19.GateWaits', WHERE WHAT IT READS IS OF BULK AT MOST 1048576: true; the input reads as it did. -/
def gateWaitsUptoRow : OpenClaim := { program := "ytennbinbffdimaagreat", sum := "5a5fd153ca4fb9bc5b4633cfb9555f78acbde317a26feb4049ca195abad7431a", func := "toller/tollerlaw19.GateWaits", spec := "gateWaits", inPlace := ["math/bits.Add64"], unfollowed := true, recurses := true, plainKeys := false, apart := false, narrowed := true }
def GateWaitsUptoSaid : Prop := gateWaitsUptoRow.holds Tryz.pinned (OpenSpec.upto gateWaitsSpec)

/-- 'tollerlaw22.SizeBounds', WHERE WHAT IT READS IS OF BULK AT MOST 1048576: true; the input reads as it did. -/
def sizeBoundsUptoRow : OpenClaim := { program := "ytennbinbffdimaagreat", sum := "5a5fd153ca4fb9bc5b4633cfb9555f78acbde317a26feb4049ca195abad7431a", func := "toller/tollerlaw22.SizeBounds", spec := "sizeBounds", inPlace := ["math/bits.Add64"], unfollowed := true, recurses := true, plainKeys := false, apart := false, narrowed := true }
def SizeBoundsUptoSaid : Prop := sizeBoundsUptoRow.holds Tryz.pinned (OpenSpec.upto sizeBoundsSpec)

/-- 'tollerlaw19.GateHeads', WHERE WHAT IT READS IS OF BULK AT MOST 1048576: true; the input reads as it did. -/
def gateHeadsUptoRow : OpenClaim := { program := "ytennbinbffdimaagreat", sum := "5a5fd153ca4fb9bc5b4633cfb9555f78acbde317a26feb4049ca195abad7431a", func := "toller/tollerlaw19.GateHeads", spec := "gateHeads", inPlace := ["math/bits.Add64"], unfollowed := true, recurses := true, plainKeys := false, apart := false, narrowed := true }
def GateHeadsUptoSaid : Prop := gateHeadsUptoRow.holds Tryz.pinned (OpenSpec.upto gateHeadsSpec)

/-- 'tollerlaw19.GateDoes', WHERE WHAT IT READS IS OF BULK AT MOST 1048576: true; the input reads as it did. -/
def gateDoesUptoRow : OpenClaim := { program := "ytennbinbffdimaagreat", sum := "5a5fd153ca4fb9bc5b4633cfb9555f78acbde317a26feb4049ca195abad7431a", func := "toller/tollerlaw19.GateDoes", spec := "gateDoes", inPlace := ["math/bits.Add64"], unfollowed := true, recurses := true, plainKeys := false, apart := false, narrowed := true }
def GateDoesUptoSaid : Prop := gateDoesUptoRow.holds Tryz.pinned (OpenSpec.upto gateDoesSpec)

/-- 'tollerlaw19.GateRefuses', WHERE WHAT IT READS IS OF BULK AT MOST 1048576: true; the input reads as it did. -/
def gateRefusesUptoRow : OpenClaim := { program := "ytennbinbffdimaagreat", sum := "5a5fd153ca4fb9bc5b4633cfb9555f78acbde317a26feb4049ca195abad7431a", func := "toller/tollerlaw19.GateRefuses", spec := "gateRefuses", inPlace := ["math/bits.Add64"], unfollowed := true, recurses := true, plainKeys := false, apart := false, narrowed := true }
def GateRefusesUptoSaid : Prop := gateRefusesUptoRow.holds Tryz.pinned (OpenSpec.upto gateRefusesSpec)

/-- 'tollerlaw19.GateOnce', WHERE WHAT IT READS IS OF BULK AT MOST 1048576: true; the input reads as it did. -/
def gateOnceUptoRow : OpenClaim := { program := "ytennbinbffdimaagreat", sum := "5a5fd153ca4fb9bc5b4633cfb9555f78acbde317a26feb4049ca195abad7431a", func := "toller/tollerlaw19.GateOnce", spec := "gateOnce", inPlace := ["math/bits.Add64"], unfollowed := true, recurses := true, plainKeys := false, apart := false, narrowed := true }
def GateOnceUptoSaid : Prop := gateOnceUptoRow.holds Tryz.pinned (OpenSpec.upto gateOnceSpec)

/-- 'tollerlaw19.GateFinals', WHERE WHAT IT READS IS OF BULK AT MOST 1048576: true; the input reads as it did. -/
def gateFinalsUptoRow : OpenClaim := { program := "ytennbinbffdimaagreat", sum := "5a5fd153ca4fb9bc5b4633cfb9555f78acbde317a26feb4049ca195abad7431a", func := "toller/tollerlaw19.GateFinals", spec := "gateFinals", inPlace := ["math/bits.Add64"], unfollowed := true, recurses := true, plainKeys := false, apart := false, narrowed := true }
def GateFinalsUptoSaid : Prop := gateFinalsUptoRow.holds Tryz.pinned (OpenSpec.upto gateFinalsSpec)

/-- 'tollerlaw21.AuditIs', WHERE WHAT IT READS IS OF BULK AT MOST 1048576: true; the input reads as it did. -/
def auditIsUptoRow : OpenClaim := { program := "ytennbinbffdimaagreat", sum := "5a5fd153ca4fb9bc5b4633cfb9555f78acbde317a26feb4049ca195abad7431a", func := "toller/tollerlaw21.AuditIs", spec := "auditIs", inPlace := ["math/bits.Add64"], unfollowed := true, recurses := true, plainKeys := false, apart := false, narrowed := true }
def AuditIsUptoSaid : Prop := auditIsUptoRow.holds Tryz.pinned (OpenSpec.upto auditIsSpec)

/-- 'tollerlaw21.AuditGood', WHERE WHAT IT READS IS OF BULK AT MOST 1048576: true; the input reads as it did. -/
def auditGoodUptoRow : OpenClaim := { program := "ytennbinbffdimaagreat", sum := "5a5fd153ca4fb9bc5b4633cfb9555f78acbde317a26feb4049ca195abad7431a", func := "toller/tollerlaw21.AuditGood", spec := "auditGood", inPlace := ["math/bits.Add64"], unfollowed := true, recurses := true, plainKeys := false, apart := false, narrowed := true }
def AuditGoodUptoSaid : Prop := auditGoodUptoRow.holds Tryz.pinned (OpenSpec.upto auditGoodSpec)

/-- 'tollerlaw21.AuditDoubles', WHERE WHAT IT READS IS OF BULK AT MOST 1048576: true; the input reads as it did. -/
def auditDoublesUptoRow : OpenClaim := { program := "ytennbinbffdimaagreat", sum := "5a5fd153ca4fb9bc5b4633cfb9555f78acbde317a26feb4049ca195abad7431a", func := "toller/tollerlaw21.AuditDoubles", spec := "auditDoubles", inPlace := ["math/bits.Add64"], unfollowed := true, recurses := true, plainKeys := false, apart := false, narrowed := true }
def AuditDoublesUptoSaid : Prop := auditDoublesUptoRow.holds Tryz.pinned (OpenSpec.upto auditDoublesSpec)

/-- 'tollerlaw21.AuditShares', WHERE WHAT IT READS IS OF BULK AT MOST 1048576: true; the input reads as it did. -/
def auditSharesUptoRow : OpenClaim := { program := "ytennbinbffdimaagreat", sum := "5a5fd153ca4fb9bc5b4633cfb9555f78acbde317a26feb4049ca195abad7431a", func := "toller/tollerlaw21.AuditShares", spec := "auditShares", inPlace := ["math/bits.Add64"], unfollowed := true, recurses := true, plainKeys := false, apart := false, narrowed := true }
def AuditSharesUptoSaid : Prop := auditSharesUptoRow.holds Tryz.pinned (OpenSpec.upto auditSharesSpec)

/-- 'tollerlaw21.AuditWeights', WHERE WHAT IT READS IS OF BULK AT MOST 1048576: true; the input reads as it did. -/
def auditWeightsUptoRow : OpenClaim := { program := "ytennbinbffdimaagreat", sum := "5a5fd153ca4fb9bc5b4633cfb9555f78acbde317a26feb4049ca195abad7431a", func := "toller/tollerlaw21.AuditWeights", spec := "auditWeights", inPlace := ["math/bits.Add64"], unfollowed := true, recurses := true, plainKeys := false, apart := false, narrowed := true }
def AuditWeightsUptoSaid : Prop := auditWeightsUptoRow.holds Tryz.pinned (OpenSpec.upto auditWeightsSpec)

end Rows
end Go.Proofs.YtennbinbffdimaaGreat

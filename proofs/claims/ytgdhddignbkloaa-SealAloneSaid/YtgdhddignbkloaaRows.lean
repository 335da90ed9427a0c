/-
  No cell of these rows narrows 'for every input' (looked for: loops, veiled, ifaces, maps, wideKeys, modest, calm, conditions, laid).
  DERIVED. THE GIVEN ROWS OF THIS SEAT. 6 by the template 'for every input the law returns true; each argument reads behind the call as it read before'; 0 by the template 'total and deterministic' (their statements: YtgdhddignbkloaaTotals.lean).
  GIVEN WITH THE SEED: the statements are not yours to turn. If you find one false, say at which input.
  Laid BY PROGRAM, IN A SANDBOX (cutbox-rows.mjs): the forced cells as the released guide's own fill.sh prints them over the translation 7a3b41bcebddbe8d… (all of the seat's roots in one cut). By AI agents, Wed Nov 11 2026. No macro, syntax, notation, axiom, sorry.
-/
import Derived.Test.YtgdhddignbkloaaChecked
import GoSem.Claim
import GoSem.ClaimJoined
import GoSem.ClaimMapViews
import Derived.JoinedTies
import Derived.KernelRfl
namespace Go.Proofs.Ytgdhddignbkloaa
/- THE CELL 'sum', in the pinned program and in every row, IS THE sha256 OF THE DUMP (.gsa) THAT YtgdhddignbkloaaProg.lean LOADS. Nothing in Lean hashes anything: it is a label: what it is worth is what the hold of that sum in a sandbox is worth. -/
noncomputable def Try.pinned : Pinned := { name := "ytgdhddignbkloaa", sum := "7a3b41bcebddbe8dc5298a6e99f9b22b6ab9fe43c4c6523331219b241849aa65", checked := Try.checked }
namespace Rows
def none {H : Type} : Left H := { results := [], args := [] }

/-- 'tollerlaw08.SealSums': WHATEVER THE INPUT: true; the input reads as it did. -/
def sealSumsSpec : ChangeSpec := { name := "sealSums", fn := fun _ => fun
  | [d1, d2, d3] => { results := [.lit (.bool true)], args := [d1, d2, d3] }
  | _ => none }
def sealSumsRow : OpenClaim := { program := "ytgdhddignbkloaa", sum := "7a3b41bcebddbe8dc5298a6e99f9b22b6ab9fe43c4c6523331219b241849aa65", func := "toller/tollerlaw08.SealSums", spec := "sealSums", unfollowed := true, recurses := true, apart := false }
def SealSumsSaid : Prop := sealSumsRow.holds Try.pinned (OpenSpec.ofChange sealSumsSpec)

/-- ITS FALSE NEIGHBOUR: 'it returns false'. Refute it at one input. -/
def sealSumsWrong : ChangeSpec := { name := "sealSums", fn := fun _ => fun
  | [d1, d2, d3] => { results := [.lit (.bool false)], args := [d1, d2, d3] }
  | _ => none }
def SealSumsWrongFalsely : Prop := sealSumsRow.holds Try.pinned (OpenSpec.ofChange sealSumsWrong)

/-- 'tollerlaw08.SealOwn': WHATEVER THE INPUT: true; the input reads as it did. -/
def sealOwnSpec : ChangeSpec := { name := "sealOwn", fn := fun _ => fun
  | [d1, d2, d3] => { results := [.lit (.bool true)], args := [d1, d2, d3] }
  | _ => none }
def sealOwnRow : OpenClaim := { program := "ytgdhddignbkloaa", sum := "7a3b41bcebddbe8dc5298a6e99f9b22b6ab9fe43c4c6523331219b241849aa65", func := "toller/tollerlaw08.SealOwn", spec := "sealOwn", unfollowed := true, recurses := true, apart := false }
def SealOwnSaid : Prop := sealOwnRow.holds Try.pinned (OpenSpec.ofChange sealOwnSpec)

/-- ITS FALSE NEIGHBOUR: 'it returns false'. Refute it at one input. -/
def sealOwnWrong : ChangeSpec := { name := "sealOwn", fn := fun _ => fun
  | [d1, d2, d3] => { results := [.lit (.bool false)], args := [d1, d2, d3] }
  | _ => none }
def SealOwnWrongFalsely : Prop := sealOwnRow.holds Try.pinned (OpenSpec.ofChange sealOwnWrong)

/-- 'tollerlaw08.SealIs': WHATEVER THE INPUT: true; the input reads as it did. -/
def sealIsSpec : ChangeSpec := { name := "sealIs", fn := fun _ => fun
  | [d1, d2] => { results := [.lit (.bool true)], args := [d1, d2] }
  | _ => none }
def sealIsRow : OpenClaim := { program := "ytgdhddignbkloaa", sum := "7a3b41bcebddbe8dc5298a6e99f9b22b6ab9fe43c4c6523331219b241849aa65", func := "toller/tollerlaw08.SealIs", spec := "sealIs", inPlace := ["math/bits.Add64"], unfollowed := true, recurses := true, apart := false }
def SealIsSaid : Prop := sealIsRow.holds Try.pinned (OpenSpec.ofChange sealIsSpec)

/-- ITS FALSE NEIGHBOUR: 'it returns false'. Refute it at one input. -/
def sealIsWrong : ChangeSpec := { name := "sealIs", fn := fun _ => fun
  | [d1, d2] => { results := [.lit (.bool false)], args := [d1, d2] }
  | _ => none }
def SealIsWrongFalsely : Prop := sealIsRow.holds Try.pinned (OpenSpec.ofChange sealIsWrong)

/-- 'tollerlaw08.SealSigns': WHATEVER THE INPUT: true; the input reads as it did. -/
def sealSignsSpec : ChangeSpec := { name := "sealSigns", fn := fun _ => fun
  | [d1, d2, d3, d4] => { results := [.lit (.bool true)], args := [d1, d2, d3, d4] }
  | _ => none }
def sealSignsRow : OpenClaim := { program := "ytgdhddignbkloaa", sum := "7a3b41bcebddbe8dc5298a6e99f9b22b6ab9fe43c4c6523331219b241849aa65", func := "toller/tollerlaw08.SealSigns", spec := "sealSigns", inPlace := ["math/bits.Add64"], unfollowed := true, recurses := true, apart := false }
def SealSignsSaid : Prop := sealSignsRow.holds Try.pinned (OpenSpec.ofChange sealSignsSpec)

/-- ITS FALSE NEIGHBOUR: 'it returns false'. Refute it at one input. -/
def sealSignsWrong : ChangeSpec := { name := "sealSigns", fn := fun _ => fun
  | [d1, d2, d3, d4] => { results := [.lit (.bool false)], args := [d1, d2, d3, d4] }
  | _ => none }
def SealSignsWrongFalsely : Prop := sealSignsRow.holds Try.pinned (OpenSpec.ofChange sealSignsWrong)

/-- 'tollerlaw08.SealAlone': WHATEVER THE INPUT: true; the input reads as it did. -/
def sealAloneSpec : ChangeSpec := { name := "sealAlone", fn := fun _ => fun
  | [d1, d2, d3, d4] => { results := [.lit (.bool true)], args := [d1, d2, d3, d4] }
  | _ => none }
def sealAloneRow : OpenClaim := { program := "ytgdhddignbkloaa", sum := "7a3b41bcebddbe8dc5298a6e99f9b22b6ab9fe43c4c6523331219b241849aa65", func := "toller/tollerlaw08.SealAlone", spec := "sealAlone", inPlace := ["math/bits.Add64"], unfollowed := true, recurses := true, apart := false }
def SealAloneSaid : Prop := sealAloneRow.holds Try.pinned (OpenSpec.ofChange sealAloneSpec)

/-- ITS FALSE NEIGHBOUR: 'it returns false'. Refute it at one input. -/
def sealAloneWrong : ChangeSpec := { name := "sealAlone", fn := fun _ => fun
  | [d1, d2, d3, d4] => { results := [.lit (.bool false)], args := [d1, d2, d3, d4] }
  | _ => none }
def SealAloneWrongFalsely : Prop := sealAloneRow.holds Try.pinned (OpenSpec.ofChange sealAloneWrong)

/-- 'tollerlaw08.SealKeys': WHATEVER THE INPUT: true; the input reads as it did. -/
def sealKeysSpec : ChangeSpec := { name := "sealKeys", fn := fun _ => fun
  | [d1, d2, d3] => { results := [.lit (.bool true)], args := [d1, d2, d3] }
  | _ => none }
def sealKeysRow : OpenClaim := { program := "ytgdhddignbkloaa", sum := "7a3b41bcebddbe8dc5298a6e99f9b22b6ab9fe43c4c6523331219b241849aa65", func := "toller/tollerlaw08.SealKeys", spec := "sealKeys", inPlace := ["math/bits.Add64"], unfollowed := true, recurses := true, apart := false }
def SealKeysSaid : Prop := sealKeysRow.holds Try.pinned (OpenSpec.ofChange sealKeysSpec)

/-- ITS FALSE NEIGHBOUR: 'it returns false'. Refute it at one input. -/
def sealKeysWrong : ChangeSpec := { name := "sealKeys", fn := fun _ => fun
  | [d1, d2, d3] => { results := [.lit (.bool false)], args := [d1, d2, d3] }
  | _ => none }
def SealKeysWrongFalsely : Prop := sealKeysRow.holds Try.pinned (OpenSpec.ofChange sealKeysWrong)

/- THE SECOND FORM. 'bulk': how many values and letters a reading holds, each counted each time it is reached (what is shared counts as often as it is met; a slice's spare places count too). A statement '..UptoSaid' is the law's where the arguments, and the package variables that the reading takes, are together of bulk at most 1048576: NARROWER than '..Said'. Prove '..Said' where nothing that the law and all that it calls make is longer than what came in: it says more and counts as full. Else prove '..UptoSaid'. A law counts once. -/
mutual
def uptoBulk {H : Type} : DataW H → Nat
  | .lit (.string bytes) => bytes.length + 1
  | .lit _ => 1
  | .nil => 1
  | .ptr d => uptoBulk d + 1
  | .slice elems spare => uptoBulkAll elems + uptoBulkAll spare + 1
  | .agg parts => uptoBulkAll parts + 1
  | .iface _ d => uptoBulk d + 1
  | .map entries => uptoBulkEntries entries + 1
  | .held _ => 1
def uptoBulkAll {H : Type} : List (DataW H) → Nat
  | [] => 0
  | d :: r => uptoBulk d + uptoBulkAll r
def uptoBulkEntries {H : Type} : List (Lit × DataW H) → Nat
  | [] => 0
  | x :: r => uptoBulkEntry x + uptoBulkEntries r
def uptoBulkEntry {H : Type} : Lit × DataW H → Nat
  | (.string bytes, d) => bytes.length + uptoBulk d + 1
  | (_, d) => uptoBulk d + 1
 end
def uptoSmall : (H : Type) → List (DataW H) → Bool := fun _ ds => decide (uptoBulkAll ds ≤ 1048576)
def OpenSpec.upto (s : _root_.Go.ChangeSpec) : _root_.Go.OpenSpec := { _root_.Go.OpenSpec.ofChange s with cond := some uptoSmall }

/-- 'tollerlaw08.SealSums', WHERE WHAT IT READS IS OF BULK AT MOST 1048576: true; the input reads as it did. -/
def sealSumsUptoRow : OpenClaim := { program := "ytgdhddignbkloaa", sum := "7a3b41bcebddbe8dc5298a6e99f9b22b6ab9fe43c4c6523331219b241849aa65", func := "toller/tollerlaw08.SealSums", spec := "sealSums", unfollowed := true, recurses := true, apart := false, narrowed := true }
def SealSumsUptoSaid : Prop := sealSumsUptoRow.holds Try.pinned (OpenSpec.upto sealSumsSpec)

/-- 'tollerlaw08.SealOwn', WHERE WHAT IT READS IS OF BULK AT MOST 1048576: true; the input reads as it did. -/
def sealOwnUptoRow : OpenClaim := { program := "ytgdhddignbkloaa", sum := "7a3b41bcebddbe8dc5298a6e99f9b22b6ab9fe43c4c6523331219b241849aa65", func := "toller/tollerlaw08.SealOwn", spec := "sealOwn", unfollowed := true, recurses := true, apart := false, narrowed := true }
def SealOwnUptoSaid : Prop := sealOwnUptoRow.holds Try.pinned (OpenSpec.upto sealOwnSpec)

/-- 'tollerlaw08.SealIs', WHERE WHAT IT READS IS OF BULK AT MOST 1048576: true; the input reads as it did. -/
def sealIsUptoRow : OpenClaim := { program := "ytgdhddignbkloaa", sum := "7a3b41bcebddbe8dc5298a6e99f9b22b6ab9fe43c4c6523331219b241849aa65", func := "toller/tollerlaw08.SealIs", spec := "sealIs", inPlace := ["math/bits.Add64"], unfollowed := true, recurses := true, apart := false, narrowed := true }
def SealIsUptoSaid : Prop := sealIsUptoRow.holds Try.pinned (OpenSpec.upto sealIsSpec)

/-- 'tollerlaw08.SealSigns', WHERE WHAT IT READS IS OF BULK AT MOST 1048576: true; the input reads as it did. -/
def sealSignsUptoRow : OpenClaim := { program := "ytgdhddignbkloaa", sum := "7a3b41bcebddbe8dc5298a6e99f9b22b6ab9fe43c4c6523331219b241849aa65", func := "toller/tollerlaw08.SealSigns", spec := "sealSigns", inPlace := ["math/bits.Add64"], unfollowed := true, recurses := true, apart := false, narrowed := true }
def SealSignsUptoSaid : Prop := sealSignsUptoRow.holds Try.pinned (OpenSpec.upto sealSignsSpec)

/-- 'tollerlaw08.SealAlone', WHERE WHAT IT READS IS OF BULK AT MOST 1048576: true; the input reads as it did. -/
def sealAloneUptoRow : OpenClaim := { program := "ytgdhddignbkloaa", sum := "7a3b41bcebddbe8dc5298a6e99f9b22b6ab9fe43c4c6523331219b241849aa65", func := "toller/tollerlaw08.SealAlone", spec := "sealAlone", inPlace := ["math/bits.Add64"], unfollowed := true, recurses := true, apart := false, narrowed := true }
def SealAloneUptoSaid : Prop := sealAloneUptoRow.holds Try.pinned (OpenSpec.upto sealAloneSpec)

/-- 'tollerlaw08.SealKeys', WHERE WHAT IT READS IS OF BULK AT MOST 1048576: true; the input reads as it did. -/
def sealKeysUptoRow : OpenClaim := { program := "ytgdhddignbkloaa", sum := "7a3b41bcebddbe8dc5298a6e99f9b22b6ab9fe43c4c6523331219b241849aa65", func := "toller/tollerlaw08.SealKeys", spec := "sealKeys", inPlace := ["math/bits.Add64"], unfollowed := true, recurses := true, apart := false, narrowed := true }
def SealKeysUptoSaid : Prop := sealKeysUptoRow.holds Try.pinned (OpenSpec.upto sealKeysSpec)

end Rows
end Go.Proofs.Ytgdhddignbkloaa

/-
  No cell of these rows narrows 'for every input' (looked for: loops, veiled, ifaces, maps, wideKeys, modest, calm, conditions, laid).
  DERIVED. THE GIVEN ROWS OF THIS SEAT. 5 by the template 'for every input the law returns true; each argument reads behind the call as it read before'; 0 by the template 'total and deterministic' (their statements: YtldocdpdjdekiaaGreatTotals.lean).
  GIVEN WITH THE SEED: the statements are not yours to turn. If you find one false, say at which input.
  Laid BY PROGRAM, IN A SANDBOX (cutbox-rows.mjs): the forced cells as the released guide's own fill.sh prints them over the translation 233117e9d259611f… (all of the seat's roots in one cut). By AI agents, Wed Nov 11 2026. No macro, syntax, notation, axiom, sorry.
-/
import Derived.Test.YtldocdpdjdekiaaGreatChecked
import GoSem.Claim
import GoSem.ClaimJoined
import GoSem.ClaimMapViews
import Derived.JoinedTies
import Derived.KernelRfl
namespace Go.Proofs.YtldocdpdjdekiaaGreat
/- THE CELL 'sum', in the pinned program and in every row, IS THE sha256 OF THE DUMP (.gsa) THAT YtldocdpdjdekiaaGreatProg.lean LOADS. Nothing in Lean hashes anything: it is a label: what it is worth is what the hold of that sum in a sandbox is worth. -/
noncomputable def Tryz.pinned : Pinned := { name := "ytldocdpdjdekiaagreat", sum := "233117e9d259611f8d3841ba1c12b977c8ffe90fa6ece8eea3e0144438878c3e", checked := Tryz.checked }
namespace Rows
def none {H : Type} : Left H := { results := [], args := [] }

/-- 'tollerlaw17.EarlyDoes': WHATEVER THE INPUT: true; the input reads as it did. -/
def earlyDoesSpec : ChangeSpec := { name := "earlyDoes", fn := fun _ => fun
  | [d1, d2, d3, d4] => { results := [.lit (.bool true)], args := [d1, d2, d3, d4] }
  | _ => none }
def earlyDoesRow : OpenClaim := { program := "ytldocdpdjdekiaagreat", sum := "233117e9d259611f8d3841ba1c12b977c8ffe90fa6ece8eea3e0144438878c3e", func := "toller/tollerlaw17.EarlyDoes", spec := "earlyDoes", inPlace := ["math/bits.Add64"], unfollowed := true, recurses := true, apart := false }
def EarlyDoesSaid : Prop := earlyDoesRow.holds Tryz.pinned (OpenSpec.ofChange earlyDoesSpec)

/-- ITS FALSE NEIGHBOUR: 'it returns false'. Refute it at one input. -/
def earlyDoesWrong : ChangeSpec := { name := "earlyDoes", fn := fun _ => fun
  | [d1, d2, d3, d4] => { results := [.lit (.bool false)], args := [d1, d2, d3, d4] }
  | _ => none }
def EarlyDoesWrongFalsely : Prop := earlyDoesRow.holds Tryz.pinned (OpenSpec.ofChange earlyDoesWrong)

/-- 'tollerlaw17.EarlyRipens': WHATEVER THE INPUT: true; the input reads as it did. -/
def earlyRipensSpec : ChangeSpec := { name := "earlyRipens", fn := fun _ => fun
  | [d1, d2, d3] => { results := [.lit (.bool true)], args := [d1, d2, d3] }
  | _ => none }
def earlyRipensRow : OpenClaim := { program := "ytldocdpdjdekiaagreat", sum := "233117e9d259611f8d3841ba1c12b977c8ffe90fa6ece8eea3e0144438878c3e", func := "toller/tollerlaw17.EarlyRipens", spec := "earlyRipens", inPlace := ["math/bits.Add64"], unfollowed := true, recurses := true, apart := false }
def EarlyRipensSaid : Prop := earlyRipensRow.holds Tryz.pinned (OpenSpec.ofChange earlyRipensSpec)

/-- ITS FALSE NEIGHBOUR: 'it returns false'. Refute it at one input. -/
def earlyRipensWrong : ChangeSpec := { name := "earlyRipens", fn := fun _ => fun
  | [d1, d2, d3] => { results := [.lit (.bool false)], args := [d1, d2, d3] }
  | _ => none }
def EarlyRipensWrongFalsely : Prop := earlyRipensRow.holds Tryz.pinned (OpenSpec.ofChange earlyRipensWrong)

/-- 'tollerlaw16.OrphansDrop': WHATEVER THE INPUT: true; the input reads as it did. -/
def orphansDropSpec : ChangeSpec := { name := "orphansDrop", fn := fun _ => fun
  | [d1, d2] => { results := [.lit (.bool true)], args := [d1, d2] }
  | _ => none }
def orphansDropRow : OpenClaim := { program := "ytldocdpdjdekiaagreat", sum := "233117e9d259611f8d3841ba1c12b977c8ffe90fa6ece8eea3e0144438878c3e", func := "toller/tollerlaw16.OrphansDrop", spec := "orphansDrop", inPlace := ["math/bits.Add64"], unfollowed := true, recurses := true, apart := false }
def OrphansDropSaid : Prop := orphansDropRow.holds Tryz.pinned (OpenSpec.ofChange orphansDropSpec)

/-- ITS FALSE NEIGHBOUR: 'it returns false'. Refute it at one input. -/
def orphansDropWrong : ChangeSpec := { name := "orphansDrop", fn := fun _ => fun
  | [d1, d2] => { results := [.lit (.bool false)], args := [d1, d2] }
  | _ => none }
def OrphansDropWrongFalsely : Prop := orphansDropRow.holds Tryz.pinned (OpenSpec.ofChange orphansDropWrong)

/-- 'tollerlaw16.OrphansWait': WHATEVER THE INPUT: true; the input reads as it did. -/
def orphansWaitSpec : ChangeSpec := { name := "orphansWait", fn := fun _ => fun
  | [d1, d2] => { results := [.lit (.bool true)], args := [d1, d2] }
  | _ => none }
def orphansWaitRow : OpenClaim := { program := "ytldocdpdjdekiaagreat", sum := "233117e9d259611f8d3841ba1c12b977c8ffe90fa6ece8eea3e0144438878c3e", func := "toller/tollerlaw16.OrphansWait", spec := "orphansWait", inPlace := ["math/bits.Add64"], unfollowed := true, recurses := true, apart := false }
def OrphansWaitSaid : Prop := orphansWaitRow.holds Tryz.pinned (OpenSpec.ofChange orphansWaitSpec)

/-- ITS FALSE NEIGHBOUR: 'it returns false'. Refute it at one input. -/
def orphansWaitWrong : ChangeSpec := { name := "orphansWait", fn := fun _ => fun
  | [d1, d2] => { results := [.lit (.bool false)], args := [d1, d2] }
  | _ => none }
def OrphansWaitWrongFalsely : Prop := orphansWaitRow.holds Tryz.pinned (OpenSpec.ofChange orphansWaitWrong)

/-- 'tollerlaw16.OrphansDo': WHATEVER THE INPUT: true; the input reads as it did. -/
def orphansDoSpec : ChangeSpec := { name := "orphansDo", fn := fun _ => fun
  | [d1, d2, d3, d4] => { results := [.lit (.bool true)], args := [d1, d2, d3, d4] }
  | _ => none }
def orphansDoRow : OpenClaim := { program := "ytldocdpdjdekiaagreat", sum := "233117e9d259611f8d3841ba1c12b977c8ffe90fa6ece8eea3e0144438878c3e", func := "toller/tollerlaw16.OrphansDo", spec := "orphansDo", inPlace := ["math/bits.Add64"], unfollowed := true, recurses := true, apart := false }
def OrphansDoSaid : Prop := orphansDoRow.holds Tryz.pinned (OpenSpec.ofChange orphansDoSpec)

/-- ITS FALSE NEIGHBOUR: 'it returns false'. Refute it at one input. -/
def orphansDoWrong : ChangeSpec := { name := "orphansDo", fn := fun _ => fun
  | [d1, d2, d3, d4] => { results := [.lit (.bool false)], args := [d1, d2, d3, d4] }
  | _ => none }
def OrphansDoWrongFalsely : Prop := orphansDoRow.holds Tryz.pinned (OpenSpec.ofChange orphansDoWrong)

/- THE SECOND FORM. 'bulk': how many values and letters a reading holds, each counted each time it is reached (what is shared counts as often as it is met; a slice's spare places count too). A statement '..UptoSaid' is the law's where the arguments, and the package variables that the reading takes, are together of bulk at most 1048576: NARROWER than '..Said'. Prove '..Said' where nothing that the law and all that it calls make is longer than what came in: it says more and counts as full. Else prove '..UptoSaid'. A law counts once. -/
mutual
def uptoBulk {H : Type} : DataW H → Nat
  | .lit (.string bytes) => bytes.length + 1
  | .lit _ => 1
  | .nil => 1
  | .ptr d => uptoBulk d + 1
  | .slice elems spare => uptoBulkAll elems + uptoBulkAll spare + 1
  | .agg parts => uptoBulkAll parts + 1
  | .iface _ d => uptoBulk d + 1
  | .map entries => uptoBulkEntries entries + 1
  | .held _ => 1
def uptoBulkAll {H : Type} : List (DataW H) → Nat
  | [] => 0
  | d :: r => uptoBulk d + uptoBulkAll r
def uptoBulkEntries {H : Type} : List (Lit × DataW H) → Nat
  | [] => 0
  | x :: r => uptoBulkEntry x + uptoBulkEntries r
def uptoBulkEntry {H : Type} : Lit × DataW H → Nat
  | (.string bytes, d) => bytes.length + uptoBulk d + 1
  | (_, d) => uptoBulk d + 1
 end
def uptoSmall : (H : Type) → List (DataW H) → Bool := fun _ ds => decide (uptoBulkAll ds ≤ 1048576)
def OpenSpec.upto (s : _root_.Go.ChangeSpec) : _root_.Go.OpenSpec := { _root_.Go.OpenSpec.ofChange s with cond := some uptoSmall }

/-- 'tollerlaw17.EarlyDoes', WHERE WHAT IT READS IS OF BULK AT MOST 1048576: true; the input reads as it did. -/
def earlyDoesUptoRow : OpenClaim := { program := "ytldocdpdjdekiaagreat", sum := "233117e9d259611f8d3841ba1c12b977c8ffe90fa6ece8eea3e0144438878c3e", func := "toller/tollerlaw17.EarlyDoes", spec := "earlyDoes", inPlace := ["math/bits.Add64"], unfollowed := true, recurses := true, apart := false, narrowed := true }
def EarlyDoesUptoSaid : Prop := earlyDoesUptoRow.holds Tryz.pinned (OpenSpec.upto earlyDoesSpec)

/-- 'tollerlaw17.EarlyRipens', WHERE WHAT IT READS IS OF BULK AT MOST 1048576: true; the input reads as it did. -/
def earlyRipensUptoRow : OpenClaim := { program := "ytldocdpdjdekiaagreat", sum := "233117e9d259611f8d3841ba1c12b977c8ffe90fa6ece8eea3e0144438878c3e", func := "toller/tollerlaw17.EarlyRipens", spec := "earlyRipens", inPlace := ["math/bits.Add64"], unfollowed := true, recurses := true, apart := false, narrowed := true }
def EarlyRipensUptoSaid : Prop := earlyRipensUptoRow.holds Tryz.pinned (OpenSpec.upto earlyRipensSpec)

/-- 'tollerlaw16.OrphansDrop', WHERE WHAT IT READS IS OF BULK AT MOST 1048576: true; the input reads as it did. -/
def orphansDropUptoRow : OpenClaim := { program := "ytldocdpdjdekiaagreat", sum := "233117e9d259611f8d3841ba1c12b977c8ffe90fa6ece8eea3e0144438878c3e", func := "toller/tollerlaw16.OrphansDrop", spec := "orphansDrop", inPlace := ["math/bits.Add64"], unfollowed := true, recurses := true, apart := false, narrowed := true }
def OrphansDropUptoSaid : Prop := orphansDropUptoRow.holds Tryz.pinned (OpenSpec.upto orphansDropSpec)

/-- 'tollerlaw16.OrphansWait', WHERE WHAT IT READS IS OF BULK AT MOST 1048576: true; the input reads as it did. -/
def orphansWaitUptoRow : OpenClaim := { program := "ytldocdpdjdekiaagreat", sum := "233117e9d259611f8d3841ba1c12b977c8ffe90fa6ece8eea3e0144438878c3e", func := "toller/tollerlaw16.OrphansWait", spec := "orphansWait", inPlace := ["math/bits.Add64"], unfollowed := true, recurses := true, apart := false, narrowed := true }
def OrphansWaitUptoSaid : Prop := orphansWaitUptoRow.holds Tryz.pinned (OpenSpec.upto orphansWaitSpec)

/-- 'tollerlaw16.OrphansDo', WHERE WHAT IT READS IS OF BULK AT MOST 1048576: true; the input reads as it did. -/
def orphansDoUptoRow : OpenClaim := { program := "ytldocdpdjdekiaagreat", sum := "233117e9d259611f8d3841ba1c12b977c8ffe90fa6ece8eea3e0144438878c3e", func := "toller/tollerlaw16.OrphansDo", spec := "orphansDo", inPlace := ["math/bits.Add64"], unfollowed := true, recurses := true, apart := false, narrowed := true }
def OrphansDoUptoSaid : Prop := orphansDoUptoRow.holds Tryz.pinned (OpenSpec.upto orphansDoSpec)

end Rows
end Go.Proofs.YtldocdpdjdekiaaGreat

/-
  No cell of these rows narrows 'for every input' (looked for: loops, veiled, ifaces, maps, wideKeys, modest, calm, conditions, laid).
  DERIVED. THE GIVEN ROWS OF THIS SEAT. 5 by the template 'for every input the law returns true; each argument reads behind the call as it read before'; 0 by the template 'total and deterministic' (their statements: YtjncpcdpfgjibaaTotals.lean).
  GIVEN WITH THE SEED: the statements are not yours to turn. If you find one false, say at which input.
  Laid BY PROGRAM, IN A SANDBOX (cutbox-rows.mjs): the forced cells as the released guide's own fill.sh prints them over the translation 03d090d8e36bc432… (all of the seat's roots in one cut). By AI agents, Wed Nov 11 2026. No macro, syntax, notation, axiom, sorry.
-/
import Derived.Test.YtjncpcdpfgjibaaChecked
import GoSem.Claim
import GoSem.ClaimJoined
import GoSem.ClaimMapViews
import Derived.JoinedTies
import Derived.KernelRfl
namespace Go.Proofs.Ytjncpcdpfgjibaa
/- THE CELL 'sum', in the pinned program and in every row, IS THE sha256 OF THE DUMP (.gsa) THAT YtjncpcdpfgjibaaProg.lean LOADS. Nothing in Lean hashes anything: it is a label: what it is worth is what the hold of that sum in a sandbox is worth. -/
noncomputable def Try.pinned : Pinned := { name := "ytjncpcdpfgjibaa", sum := "03d090d8e36bc432b7576bb76599a67cc4025bfe0719a983550fe0db3e73cbf4", checked := Try.checked }
namespace Rows
def none {H : Type} : Left H := { results := [], args := [] }

/-- 'tollerlaw06.BoardMore': WHATEVER THE INPUT: true; the input reads as it did. -/
def boardMoreSpec : ChangeSpec := { name := "boardMore", fn := fun _ => fun
  | [d1, d2, d3] => { results := [.lit (.bool true)], args := [d1, d2, d3] }
  | _ => none }
def boardMoreRow : OpenClaim := { program := "ytjncpcdpfgjibaa", sum := "03d090d8e36bc432b7576bb76599a67cc4025bfe0719a983550fe0db3e73cbf4", func := "toller/tollerlaw06.BoardMore", spec := "boardMore", unfollowed := true, recurses := true, apart := false }
def BoardMoreSaid : Prop := boardMoreRow.holds Try.pinned (OpenSpec.ofChange boardMoreSpec)

/-- ITS FALSE NEIGHBOUR: 'it returns false'. Refute it at one input. -/
def boardMoreWrong : ChangeSpec := { name := "boardMore", fn := fun _ => fun
  | [d1, d2, d3] => { results := [.lit (.bool false)], args := [d1, d2, d3] }
  | _ => none }
def BoardMoreWrongFalsely : Prop := boardMoreRow.holds Try.pinned (OpenSpec.ofChange boardMoreWrong)

/-- 'tollerlaw06.BoardStakes': WHATEVER THE INPUT: true; the input reads as it did. -/
def boardStakesSpec : ChangeSpec := { name := "boardStakes", fn := fun _ => fun
  | [d1, d2, d3] => { results := [.lit (.bool true)], args := [d1, d2, d3] }
  | _ => none }
def boardStakesRow : OpenClaim := { program := "ytjncpcdpfgjibaa", sum := "03d090d8e36bc432b7576bb76599a67cc4025bfe0719a983550fe0db3e73cbf4", func := "toller/tollerlaw06.BoardStakes", spec := "boardStakes", unfollowed := true, recurses := true, apart := false }
def BoardStakesSaid : Prop := boardStakesRow.holds Try.pinned (OpenSpec.ofChange boardStakesSpec)

/-- ITS FALSE NEIGHBOUR: 'it returns false'. Refute it at one input. -/
def boardStakesWrong : ChangeSpec := { name := "boardStakes", fn := fun _ => fun
  | [d1, d2, d3] => { results := [.lit (.bool false)], args := [d1, d2, d3] }
  | _ => none }
def BoardStakesWrongFalsely : Prop := boardStakesRow.holds Try.pinned (OpenSpec.ofChange boardStakesWrong)

/-- 'tollerlaw06.BoardOnce': WHATEVER THE INPUT: true; the input reads as it did. -/
def boardOnceSpec : ChangeSpec := { name := "boardOnce", fn := fun _ => fun
  | [d1, d2] => { results := [.lit (.bool true)], args := [d1, d2] }
  | _ => none }
def boardOnceRow : OpenClaim := { program := "ytjncpcdpfgjibaa", sum := "03d090d8e36bc432b7576bb76599a67cc4025bfe0719a983550fe0db3e73cbf4", func := "toller/tollerlaw06.BoardOnce", spec := "boardOnce", unfollowed := true, recurses := true, apart := false }
def BoardOnceSaid : Prop := boardOnceRow.holds Try.pinned (OpenSpec.ofChange boardOnceSpec)

/-- ITS FALSE NEIGHBOUR: 'it returns false'. Refute it at one input. -/
def boardOnceWrong : ChangeSpec := { name := "boardOnce", fn := fun _ => fun
  | [d1, d2] => { results := [.lit (.bool false)], args := [d1, d2] }
  | _ => none }
def BoardOnceWrongFalsely : Prop := boardOnceRow.holds Try.pinned (OpenSpec.ofChange boardOnceWrong)

/-- 'tollerlaw06.BoardPicks': WHATEVER THE INPUT: true; the input reads as it did. -/
def boardPicksSpec : ChangeSpec := { name := "boardPicks", fn := fun _ => fun
  | [d1, d2, d3] => { results := [.lit (.bool true)], args := [d1, d2, d3] }
  | _ => none }
def boardPicksRow : OpenClaim := { program := "ytjncpcdpfgjibaa", sum := "03d090d8e36bc432b7576bb76599a67cc4025bfe0719a983550fe0db3e73cbf4", func := "toller/tollerlaw06.BoardPicks", spec := "boardPicks", unfollowed := true, recurses := true, apart := false }
def BoardPicksSaid : Prop := boardPicksRow.holds Try.pinned (OpenSpec.ofChange boardPicksSpec)

/-- ITS FALSE NEIGHBOUR: 'it returns false'. Refute it at one input. -/
def boardPicksWrong : ChangeSpec := { name := "boardPicks", fn := fun _ => fun
  | [d1, d2, d3] => { results := [.lit (.bool false)], args := [d1, d2, d3] }
  | _ => none }
def BoardPicksWrongFalsely : Prop := boardPicksRow.holds Try.pinned (OpenSpec.ofChange boardPicksWrong)

/-- 'tollerlaw06.BoardIs': WHATEVER THE INPUT: true; the input reads as it did. -/
def boardIsSpec : ChangeSpec := { name := "boardIs", fn := fun _ => fun
  | [d1, d2, d3, d4] => { results := [.lit (.bool true)], args := [d1, d2, d3, d4] }
  | _ => none }
def boardIsRow : OpenClaim := { program := "ytjncpcdpfgjibaa", sum := "03d090d8e36bc432b7576bb76599a67cc4025bfe0719a983550fe0db3e73cbf4", func := "toller/tollerlaw06.BoardIs", spec := "boardIs", inPlace := ["math/bits.Add64"], unfollowed := true, recurses := true, apart := false }
def BoardIsSaid : Prop := boardIsRow.holds Try.pinned (OpenSpec.ofChange boardIsSpec)

/-- ITS FALSE NEIGHBOUR: 'it returns false'. Refute it at one input. -/
def boardIsWrong : ChangeSpec := { name := "boardIs", fn := fun _ => fun
  | [d1, d2, d3, d4] => { results := [.lit (.bool false)], args := [d1, d2, d3, d4] }
  | _ => none }
def BoardIsWrongFalsely : Prop := boardIsRow.holds Try.pinned (OpenSpec.ofChange boardIsWrong)

/- THE SECOND FORM. 'bulk': how many values and letters a reading holds, each counted each time it is reached (what is shared counts as often as it is met; a slice's spare places count too). A statement '..UptoSaid' is the law's where the arguments, and the package variables that the reading takes, are together of bulk at most 1048576: NARROWER than '..Said'. Prove '..Said' where nothing that the law and all that it calls make is longer than what came in: it says more and counts as full. Else prove '..UptoSaid'. A law counts once. -/
mutual
def uptoBulk {H : Type} : DataW H → Nat
  | .lit (.string bytes) => bytes.length + 1
  | .lit _ => 1
  | .nil => 1
  | .ptr d => uptoBulk d + 1
  | .slice elems spare => uptoBulkAll elems + uptoBulkAll spare + 1
  | .agg parts => uptoBulkAll parts + 1
  | .iface _ d => uptoBulk d + 1
  | .map entries => uptoBulkEntries entries + 1
  | .held _ => 1
def uptoBulkAll {H : Type} : List (DataW H) → Nat
  | [] => 0
  | d :: r => uptoBulk d + uptoBulkAll r
def uptoBulkEntries {H : Type} : List (Lit × DataW H) → Nat
  | [] => 0
  | x :: r => uptoBulkEntry x + uptoBulkEntries r
def uptoBulkEntry {H : Type} : Lit × DataW H → Nat
  | (.string bytes, d) => bytes.length + uptoBulk d + 1
  | (_, d) => uptoBulk d + 1
 end
def uptoSmall : (H : Type) → List (DataW H) → Bool := fun _ ds => decide (uptoBulkAll ds ≤ 1048576)
def OpenSpec.upto (s : _root_.Go.ChangeSpec) : _root_.Go.OpenSpec := { _root_.Go.OpenSpec.ofChange s with cond := some uptoSmall }

/-- 'tollerlaw06.BoardMore', WHERE WHAT IT READS IS OF BULK AT MOST 1048576: true; the input reads as it did. -/
def boardMoreUptoRow : OpenClaim := { program := "ytjncpcdpfgjibaa", sum := "03d090d8e36bc432b7576bb76599a67cc4025bfe0719a983550fe0db3e73cbf4", func := "toller/tollerlaw06.BoardMore", spec := "boardMore", unfollowed := true, recurses := true, apart := false, narrowed := true }
def BoardMoreUptoSaid : Prop := boardMoreUptoRow.holds Try.pinned (OpenSpec.upto boardMoreSpec)

/-- 'tollerlaw06.BoardStakes', WHERE WHAT IT READS IS OF BULK AT MOST 1048576: true; the input reads as it did. -/
def boardStakesUptoRow : OpenClaim := { program := "ytjncpcdpfgjibaa", sum := "03d090d8e36bc432b7576bb76599a67cc4025bfe0719a983550fe0db3e73cbf4", func := "toller/tollerlaw06.BoardStakes", spec := "boardStakes", unfollowed := true, recurses := true, apart := false, narrowed := true }
def BoardStakesUptoSaid : Prop := boardStakesUptoRow.holds Try.pinned (OpenSpec.upto boardStakesSpec)

/-- 'tollerlaw06.BoardOnce', WHERE WHAT IT READS IS OF BULK AT MOST 1048576: true; the input reads as it did. -/
def boardOnceUptoRow : OpenClaim := { program := "ytjncpcdpfgjibaa", sum := "03d090d8e36bc432b7576bb76599a67cc4025bfe0719a983550fe0db3e73cbf4", func := "toller/tollerlaw06.BoardOnce", spec := "boardOnce", unfollowed := true, recurses := true, apart := false, narrowed := true }
def BoardOnceUptoSaid : Prop := boardOnceUptoRow.holds Try.pinned (OpenSpec.upto boardOnceSpec)

/-- 'tollerlaw06.BoardPicks', WHERE WHAT IT READS IS OF BULK AT MOST 1048576: true; the input reads as it did. -/
def boardPicksUptoRow : OpenClaim := { program := "ytjncpcdpfgjibaa", sum := "03d090d8e36bc432b7576bb76599a67cc4025bfe0719a983550fe0db3e73cbf4", func := "toller/tollerlaw06.BoardPicks", spec := "boardPicks", unfollowed := true, recurses := true, apart := false, narrowed := true }
def BoardPicksUptoSaid : Prop := boardPicksUptoRow.holds Try.pinned (OpenSpec.upto boardPicksSpec)

/-- 'tollerlaw06.BoardIs', WHERE WHAT IT READS IS OF BULK AT MOST 1048576: true; the input reads as it did. -/
def boardIsUptoRow : OpenClaim := { program := "ytjncpcdpfgjibaa", sum := "03d090d8e36bc432b7576bb76599a67cc4025bfe0719a983550fe0db3e73cbf4", func := "toller/tollerlaw06.BoardIs", spec := "boardIs", inPlace := ["math/bits.Add64"], unfollowed := true, recurses := true, apart := false, narrowed := true }
def BoardIsUptoSaid : Prop := boardIsUptoRow.holds Try.pinned (OpenSpec.upto boardIsSpec)

end Rows
end Go.Proofs.Ytjncpcdpfgjibaa

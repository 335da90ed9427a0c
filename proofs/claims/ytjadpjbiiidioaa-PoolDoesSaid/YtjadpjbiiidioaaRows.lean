/-
  No cell of these rows narrows 'for every input' (looked for: loops, veiled, ifaces, maps, wideKeys, modest, calm, conditions, laid).
  DERIVED. THE GIVEN ROWS OF THIS SEAT. 7 by the template 'for every input the law returns true; each argument reads behind the call as it read before'; 0 by the template 'total and deterministic' (their statements: YtjadpjbiiidioaaTotals.lean).
  GIVEN WITH THE SEED: the statements are not yours to turn. If you find one false, say at which input.
  Laid BY PROGRAM, IN A SANDBOX (cutbox-rows.mjs): the forced cells as the released guide's own fill.sh prints them over the translation 15dac49e4f9bf965… (all of the seat's roots in one cut). By AI agents, Wed Nov 11 2026. No macro, syntax, notation, axiom, sorry.
-/
import Derived.Test.YtjadpjbiiidioaaChecked
import GoSem.Claim
import GoSem.ClaimJoined
import GoSem.ClaimMapViews
import Derived.JoinedTies
import Derived.KernelRfl
namespace Go.Proofs.Ytjadpjbiiidioaa
/- THE CELL 'sum', in the pinned program and in every row, IS THE sha256 OF THE DUMP (.gsa) THAT YtjadpjbiiidioaaProg.lean LOADS. Nothing in Lean hashes anything: it is a label: what it is worth is what the hold of that sum in a sandbox is worth. -/
noncomputable def Try.pinned : Pinned := { name := "ytjadpjbiiidioaa", sum := "15dac49e4f9bf965463209eccc11306df87069ef8d3b37d03d2e3e0af424cc10", checked := Try.checked }
namespace Rows
def none {H : Type} : Left H := { results := [], args := [] }

/-- 'tollerlaw15.PoolTurned': WHATEVER THE INPUT: true; the input reads as it did. -/
def poolTurnedSpec : ChangeSpec := { name := "poolTurned", fn := fun _ => fun
  | [d1, d2] => { results := [.lit (.bool true)], args := [d1, d2] }
  | _ => none }
def poolTurnedRow : OpenClaim := { program := "ytjadpjbiiidioaa", sum := "15dac49e4f9bf965463209eccc11306df87069ef8d3b37d03d2e3e0af424cc10", func := "toller/tollerlaw15.PoolTurned", spec := "poolTurned", unfollowed := true, recurses := true, apart := false }
def PoolTurnedSaid : Prop := poolTurnedRow.holds Try.pinned (OpenSpec.ofChange poolTurnedSpec)

/-- ITS FALSE NEIGHBOUR: 'it returns false'. Refute it at one input. -/
def poolTurnedWrong : ChangeSpec := { name := "poolTurned", fn := fun _ => fun
  | [d1, d2] => { results := [.lit (.bool false)], args := [d1, d2] }
  | _ => none }
def PoolTurnedWrongFalsely : Prop := poolTurnedRow.holds Try.pinned (OpenSpec.ofChange poolTurnedWrong)

/-- 'tollerlaw15.PoolGives': WHATEVER THE INPUT: true; the input reads as it did. -/
def poolGivesSpec : ChangeSpec := { name := "poolGives", fn := fun _ => fun
  | [d1, d2, d3] => { results := [.lit (.bool true)], args := [d1, d2, d3] }
  | _ => none }
def poolGivesRow : OpenClaim := { program := "ytjadpjbiiidioaa", sum := "15dac49e4f9bf965463209eccc11306df87069ef8d3b37d03d2e3e0af424cc10", func := "toller/tollerlaw15.PoolGives", spec := "poolGives", unfollowed := true, recurses := true, apart := false }
def PoolGivesSaid : Prop := poolGivesRow.holds Try.pinned (OpenSpec.ofChange poolGivesSpec)

/-- ITS FALSE NEIGHBOUR: 'it returns false'. Refute it at one input. -/
def poolGivesWrong : ChangeSpec := { name := "poolGives", fn := fun _ => fun
  | [d1, d2, d3] => { results := [.lit (.bool false)], args := [d1, d2, d3] }
  | _ => none }
def PoolGivesWrongFalsely : Prop := poolGivesRow.holds Try.pinned (OpenSpec.ofChange poolGivesWrong)

/-- 'tollerlaw15.PoolPeers': WHATEVER THE INPUT: true; the input reads as it did. -/
def poolPeersSpec : ChangeSpec := { name := "poolPeers", fn := fun _ => fun
  | [d1, d2] => { results := [.lit (.bool true)], args := [d1, d2] }
  | _ => none }
def poolPeersRow : OpenClaim := { program := "ytjadpjbiiidioaa", sum := "15dac49e4f9bf965463209eccc11306df87069ef8d3b37d03d2e3e0af424cc10", func := "toller/tollerlaw15.PoolPeers", spec := "poolPeers", unfollowed := true, recurses := true, apart := false }
def PoolPeersSaid : Prop := poolPeersRow.holds Try.pinned (OpenSpec.ofChange poolPeersSpec)

/-- ITS FALSE NEIGHBOUR: 'it returns false'. Refute it at one input. -/
def poolPeersWrong : ChangeSpec := { name := "poolPeers", fn := fun _ => fun
  | [d1, d2] => { results := [.lit (.bool false)], args := [d1, d2] }
  | _ => none }
def PoolPeersWrongFalsely : Prop := poolPeersRow.holds Try.pinned (OpenSpec.ofChange poolPeersWrong)

/-- 'tollerlaw15.PoolBefore': WHATEVER THE INPUT: true; the input reads as it did. -/
def poolBeforeSpec : ChangeSpec := { name := "poolBefore", fn := fun _ => fun
  | [d1, d2, d3] => { results := [.lit (.bool true)], args := [d1, d2, d3] }
  | _ => none }
def poolBeforeRow : OpenClaim := { program := "ytjadpjbiiidioaa", sum := "15dac49e4f9bf965463209eccc11306df87069ef8d3b37d03d2e3e0af424cc10", func := "toller/tollerlaw15.PoolBefore", spec := "poolBefore", unfollowed := true, recurses := true, apart := false }
def PoolBeforeSaid : Prop := poolBeforeRow.holds Try.pinned (OpenSpec.ofChange poolBeforeSpec)

/-- ITS FALSE NEIGHBOUR: 'it returns false'. Refute it at one input. -/
def poolBeforeWrong : ChangeSpec := { name := "poolBefore", fn := fun _ => fun
  | [d1, d2, d3] => { results := [.lit (.bool false)], args := [d1, d2, d3] }
  | _ => none }
def PoolBeforeWrongFalsely : Prop := poolBeforeRow.holds Try.pinned (OpenSpec.ofChange poolBeforeWrong)

/-- 'tollerlaw15.PoolDoes': WHATEVER THE INPUT: true; the input reads as it did. -/
def poolDoesSpec : ChangeSpec := { name := "poolDoes", fn := fun _ => fun
  | [d1, d2, d3] => { results := [.lit (.bool true)], args := [d1, d2, d3] }
  | _ => none }
def poolDoesRow : OpenClaim := { program := "ytjadpjbiiidioaa", sum := "15dac49e4f9bf965463209eccc11306df87069ef8d3b37d03d2e3e0af424cc10", func := "toller/tollerlaw15.PoolDoes", spec := "poolDoes", unfollowed := true, recurses := true, apart := false }
def PoolDoesSaid : Prop := poolDoesRow.holds Try.pinned (OpenSpec.ofChange poolDoesSpec)

/-- ITS FALSE NEIGHBOUR: 'it returns false'. Refute it at one input. -/
def poolDoesWrong : ChangeSpec := { name := "poolDoes", fn := fun _ => fun
  | [d1, d2, d3] => { results := [.lit (.bool false)], args := [d1, d2, d3] }
  | _ => none }
def PoolDoesWrongFalsely : Prop := poolDoesRow.holds Try.pinned (OpenSpec.ofChange poolDoesWrong)

/-- 'tollerlaw15.PoolBounds': WHATEVER THE INPUT: true; the input reads as it did. -/
def poolBoundsSpec : ChangeSpec := { name := "poolBounds", fn := fun _ => fun
  | [d1, d2, d3] => { results := [.lit (.bool true)], args := [d1, d2, d3] }
  | _ => none }
def poolBoundsRow : OpenClaim := { program := "ytjadpjbiiidioaa", sum := "15dac49e4f9bf965463209eccc11306df87069ef8d3b37d03d2e3e0af424cc10", func := "toller/tollerlaw15.PoolBounds", spec := "poolBounds", unfollowed := true, recurses := true, apart := false }
def PoolBoundsSaid : Prop := poolBoundsRow.holds Try.pinned (OpenSpec.ofChange poolBoundsSpec)

/-- ITS FALSE NEIGHBOUR: 'it returns false'. Refute it at one input. -/
def poolBoundsWrong : ChangeSpec := { name := "poolBounds", fn := fun _ => fun
  | [d1, d2, d3] => { results := [.lit (.bool false)], args := [d1, d2, d3] }
  | _ => none }
def PoolBoundsWrongFalsely : Prop := poolBoundsRow.holds Try.pinned (OpenSpec.ofChange poolBoundsWrong)

/-- 'tollerlaw15.PoolTakes': WHATEVER THE INPUT: true; the input reads as it did. -/
def poolTakesSpec : ChangeSpec := { name := "poolTakes", fn := fun _ => fun
  | [d1, d2, d3, d4] => { results := [.lit (.bool true)], args := [d1, d2, d3, d4] }
  | _ => none }
def poolTakesRow : OpenClaim := { program := "ytjadpjbiiidioaa", sum := "15dac49e4f9bf965463209eccc11306df87069ef8d3b37d03d2e3e0af424cc10", func := "toller/tollerlaw15.PoolTakes", spec := "poolTakes", unfollowed := true, recurses := true, apart := false }
def PoolTakesSaid : Prop := poolTakesRow.holds Try.pinned (OpenSpec.ofChange poolTakesSpec)

/-- ITS FALSE NEIGHBOUR: 'it returns false'. Refute it at one input. -/
def poolTakesWrong : ChangeSpec := { name := "poolTakes", fn := fun _ => fun
  | [d1, d2, d3, d4] => { results := [.lit (.bool false)], args := [d1, d2, d3, d4] }
  | _ => none }
def PoolTakesWrongFalsely : Prop := poolTakesRow.holds Try.pinned (OpenSpec.ofChange poolTakesWrong)

/- THE SECOND FORM. 'bulk': how many values and letters a reading holds, each counted each time it is reached (what is shared counts as often as it is met; a slice's spare places count too). A statement '..UptoSaid' is the law's where the arguments, and the package variables that the reading takes, are together of bulk at most 1048576: NARROWER than '..Said'. Prove '..Said' where nothing that the law and all that it calls make is longer than what came in: it says more and counts as full. Else prove '..UptoSaid'. A law counts once. -/
mutual
def uptoBulk {H : Type} : DataW H → Nat
  | .lit (.string bytes) => bytes.length + 1
  | .lit _ => 1
  | .nil => 1
  | .ptr d => uptoBulk d + 1
  | .slice elems spare => uptoBulkAll elems + uptoBulkAll spare + 1
  | .agg parts => uptoBulkAll parts + 1
  | .iface _ d => uptoBulk d + 1
  | .map entries => uptoBulkEntries entries + 1
  | .held _ => 1
def uptoBulkAll {H : Type} : List (DataW H) → Nat
  | [] => 0
  | d :: r => uptoBulk d + uptoBulkAll r
def uptoBulkEntries {H : Type} : List (Lit × DataW H) → Nat
  | [] => 0
  | x :: r => uptoBulkEntry x + uptoBulkEntries r
def uptoBulkEntry {H : Type} : Lit × DataW H → Nat
  | (.string bytes, d) => bytes.length + uptoBulk d + 1
  | (_, d) => uptoBulk d + 1
 end
def uptoSmall : (H : Type) → List (DataW H) → Bool := fun _ ds => decide (uptoBulkAll ds ≤ 1048576)
def OpenSpec.upto (s : _root_.Go.ChangeSpec) : _root_.Go.OpenSpec := { _root_.Go.OpenSpec.ofChange s with cond := some uptoSmall }

/-- 'tollerlaw15.PoolTurned', WHERE WHAT IT READS IS OF BULK AT MOST 1048576: true; the input reads as it did. -/
def poolTurnedUptoRow : OpenClaim := { program := "ytjadpjbiiidioaa", sum := "15dac49e4f9bf965463209eccc11306df87069ef8d3b37d03d2e3e0af424cc10", func := "toller/tollerlaw15.PoolTurned", spec := "poolTurned", unfollowed := true, recurses := true, apart := false, narrowed := true }
def PoolTurnedUptoSaid : Prop := poolTurnedUptoRow.holds Try.pinned (OpenSpec.upto poolTurnedSpec)

/-- 'tollerlaw15.PoolGives', WHERE WHAT IT READS IS OF BULK AT MOST 1048576: true; the input reads as it did. -/
def poolGivesUptoRow : OpenClaim := { program := "ytjadpjbiiidioaa", sum := "15dac49e4f9bf965463209eccc11306df87069ef8d3b37d03d2e3e0af424cc10", func := "toller/tollerlaw15.PoolGives", spec := "poolGives", unfollowed := true, recurses := true, apart := false, narrowed := true }
def PoolGivesUptoSaid : Prop := poolGivesUptoRow.holds Try.pinned (OpenSpec.upto poolGivesSpec)

/-- 'tollerlaw15.PoolPeers', WHERE WHAT IT READS IS OF BULK AT MOST 1048576: true; the input reads as it did. -/
def poolPeersUptoRow : OpenClaim := { program := "ytjadpjbiiidioaa", sum := "15dac49e4f9bf965463209eccc11306df87069ef8d3b37d03d2e3e0af424cc10", func := "toller/tollerlaw15.PoolPeers", spec := "poolPeers", unfollowed := true, recurses := true, apart := false, narrowed := true }
def PoolPeersUptoSaid : Prop := poolPeersUptoRow.holds Try.pinned (OpenSpec.upto poolPeersSpec)

/-- 'tollerlaw15.PoolBefore', WHERE WHAT IT READS IS OF BULK AT MOST 1048576: true; the input reads as it did. -/
def poolBeforeUptoRow : OpenClaim := { program := "ytjadpjbiiidioaa", sum := "15dac49e4f9bf965463209eccc11306df87069ef8d3b37d03d2e3e0af424cc10", func := "toller/tollerlaw15.PoolBefore", spec := "poolBefore", unfollowed := true, recurses := true, apart := false, narrowed := true }
def PoolBeforeUptoSaid : Prop := poolBeforeUptoRow.holds Try.pinned (OpenSpec.upto poolBeforeSpec)

/-- 'tollerlaw15.PoolDoes', WHERE WHAT IT READS IS OF BULK AT MOST 1048576: true; the input reads as it did. -/
def poolDoesUptoRow : OpenClaim := { program := "ytjadpjbiiidioaa", sum := "15dac49e4f9bf965463209eccc11306df87069ef8d3b37d03d2e3e0af424cc10", func := "toller/tollerlaw15.PoolDoes", spec := "poolDoes", unfollowed := true, recurses := true, apart := false, narrowed := true }
def PoolDoesUptoSaid : Prop := poolDoesUptoRow.holds Try.pinned (OpenSpec.upto poolDoesSpec)

/-- 'tollerlaw15.PoolBounds', WHERE WHAT IT READS IS OF BULK AT MOST 1048576: true; the input reads as it did. -/
def poolBoundsUptoRow : OpenClaim := { program := "ytjadpjbiiidioaa", sum := "15dac49e4f9bf965463209eccc11306df87069ef8d3b37d03d2e3e0af424cc10", func := "toller/tollerlaw15.PoolBounds", spec := "poolBounds", unfollowed := true, recurses := true, apart := false, narrowed := true }
def PoolBoundsUptoSaid : Prop := poolBoundsUptoRow.holds Try.pinned (OpenSpec.upto poolBoundsSpec)

/-- 'tollerlaw15.PoolTakes', WHERE WHAT IT READS IS OF BULK AT MOST 1048576: true; the input reads as it did. -/
def poolTakesUptoRow : OpenClaim := { program := "ytjadpjbiiidioaa", sum := "15dac49e4f9bf965463209eccc11306df87069ef8d3b37d03d2e3e0af424cc10", func := "toller/tollerlaw15.PoolTakes", spec := "poolTakes", unfollowed := true, recurses := true, apart := false, narrowed := true }
def PoolTakesUptoSaid : Prop := poolTakesUptoRow.holds Try.pinned (OpenSpec.upto poolTakesSpec)

end Rows
end Go.Proofs.Ytjadpjbiiidioaa

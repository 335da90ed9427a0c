/-
  No cell of these rows narrows 'for every input' (looked for: loops, veiled, ifaces, maps, wideKeys, modest, calm, conditions, laid).
  DERIVED. THE GIVEN ROWS OF THIS SEAT. 6 by the template 'for every input the law returns true; each argument reads behind the call as it read before'; 0 by the template 'total and deterministic' (their statements: YthkaabfoeealaaaTotals.lean).
  GIVEN WITH THE SEED: the statements are not yours to turn. If you find one false, say at which input.
  Laid BY PROGRAM, IN A SANDBOX (cutbox-rows.mjs): the forced cells as the released guide's own fill.sh prints them over the translation b7abeba5a34873c1… (all of the seat's roots in one cut). By AI agents, Wed Nov 11 2026. No macro, syntax, notation, axiom, sorry.
-/
import Derived.Test.YthkaabfoeealaaaChecked
import GoSem.Claim
import GoSem.ClaimJoined
import GoSem.ClaimMapViews
import Derived.JoinedTies
import Derived.KernelRfl
namespace Go.Proofs.Ythkaabfoeealaaa
/- THE CELL 'sum', in the pinned program and in every row, IS THE sha256 OF THE DUMP (.gsa) THAT YthkaabfoeealaaaProg.lean LOADS. Nothing in Lean hashes anything: it is a label: what it is worth is what the hold of that sum in a sandbox is worth. -/
noncomputable def Try.pinned : Pinned := { name := "ythkaabfoeealaaa", sum := "b7abeba5a34873c1df4b700c46c861eedfdd229a4dbb7ef4a6a38651a1a10190", checked := Try.checked }
namespace Rows
def none {H : Type} : Left H := { results := [], args := [] }

/-- 'tollerlaw18.PeersBound': WHATEVER THE INPUT: true; the input reads as it did. -/
def peersBoundSpec : ChangeSpec := { name := "peersBound", fn := fun _ => fun
  | [d1, d2, d3, d4] => { results := [.lit (.bool true)], args := [d1, d2, d3, d4] }
  | _ => none }
def peersBoundRow : OpenClaim := { program := "ythkaabfoeealaaa", sum := "b7abeba5a34873c1df4b700c46c861eedfdd229a4dbb7ef4a6a38651a1a10190", func := "toller/tollerlaw18.PeersBound", spec := "peersBound", unfollowed := true, recurses := true, apart := false }
def PeersBoundSaid : Prop := peersBoundRow.holds Try.pinned (OpenSpec.ofChange peersBoundSpec)

/-- ITS FALSE NEIGHBOUR: 'it returns false'. Refute it at one input. -/
def peersBoundWrong : ChangeSpec := { name := "peersBound", fn := fun _ => fun
  | [d1, d2, d3, d4] => { results := [.lit (.bool false)], args := [d1, d2, d3, d4] }
  | _ => none }
def PeersBoundWrongFalsely : Prop := peersBoundRow.holds Try.pinned (OpenSpec.ofChange peersBoundWrong)

/-- 'tollerlaw18.PeersSplit': WHATEVER THE INPUT: true; the input reads as it did. -/
def peersSplitSpec : ChangeSpec := { name := "peersSplit", fn := fun _ => fun
  | [d1, d2, d3] => { results := [.lit (.bool true)], args := [d1, d2, d3] }
  | _ => none }
def peersSplitRow : OpenClaim := { program := "ythkaabfoeealaaa", sum := "b7abeba5a34873c1df4b700c46c861eedfdd229a4dbb7ef4a6a38651a1a10190", func := "toller/tollerlaw18.PeersSplit", spec := "peersSplit", unfollowed := true, recurses := true, apart := false }
def PeersSplitSaid : Prop := peersSplitRow.holds Try.pinned (OpenSpec.ofChange peersSplitSpec)

/-- ITS FALSE NEIGHBOUR: 'it returns false'. Refute it at one input. -/
def peersSplitWrong : ChangeSpec := { name := "peersSplit", fn := fun _ => fun
  | [d1, d2, d3] => { results := [.lit (.bool false)], args := [d1, d2, d3] }
  | _ => none }
def PeersSplitWrongFalsely : Prop := peersSplitRow.holds Try.pinned (OpenSpec.ofChange peersSplitWrong)

/-- 'tollerlaw18.PeersDo': WHATEVER THE INPUT: true; the input reads as it did. -/
def peersDoSpec : ChangeSpec := { name := "peersDo", fn := fun _ => fun
  | [d1, d2, d3, d4, d5] => { results := [.lit (.bool true)], args := [d1, d2, d3, d4, d5] }
  | _ => none }
def peersDoRow : OpenClaim := { program := "ythkaabfoeealaaa", sum := "b7abeba5a34873c1df4b700c46c861eedfdd229a4dbb7ef4a6a38651a1a10190", func := "toller/tollerlaw18.PeersDo", spec := "peersDo", unfollowed := true, recurses := true, apart := false }
def PeersDoSaid : Prop := peersDoRow.holds Try.pinned (OpenSpec.ofChange peersDoSpec)

/-- ITS FALSE NEIGHBOUR: 'it returns false'. Refute it at one input. -/
def peersDoWrong : ChangeSpec := { name := "peersDo", fn := fun _ => fun
  | [d1, d2, d3, d4, d5] => { results := [.lit (.bool false)], args := [d1, d2, d3, d4, d5] }
  | _ => none }
def PeersDoWrongFalsely : Prop := peersDoRow.holds Try.pinned (OpenSpec.ofChange peersDoWrong)

/-- 'tollerlaw18.PeersApart': WHATEVER THE INPUT: true; the input reads as it did. -/
def peersApartSpec : ChangeSpec := { name := "peersApart", fn := fun _ => fun
  | [d1, d2, d3, d4, d5] => { results := [.lit (.bool true)], args := [d1, d2, d3, d4, d5] }
  | _ => none }
def peersApartRow : OpenClaim := { program := "ythkaabfoeealaaa", sum := "b7abeba5a34873c1df4b700c46c861eedfdd229a4dbb7ef4a6a38651a1a10190", func := "toller/tollerlaw18.PeersApart", spec := "peersApart", unfollowed := true, recurses := true, apart := false }
def PeersApartSaid : Prop := peersApartRow.holds Try.pinned (OpenSpec.ofChange peersApartSpec)

/-- ITS FALSE NEIGHBOUR: 'it returns false'. Refute it at one input. -/
def peersApartWrong : ChangeSpec := { name := "peersApart", fn := fun _ => fun
  | [d1, d2, d3, d4, d5] => { results := [.lit (.bool false)], args := [d1, d2, d3, d4, d5] }
  | _ => none }
def PeersApartWrongFalsely : Prop := peersApartRow.holds Try.pinned (OpenSpec.ofChange peersApartWrong)

/-- 'tollerlaw18.PeersTicks': WHATEVER THE INPUT: true; the input reads as it did. -/
def peersTicksSpec : ChangeSpec := { name := "peersTicks", fn := fun _ => fun
  | [d1, d2, d3, d4] => { results := [.lit (.bool true)], args := [d1, d2, d3, d4] }
  | _ => none }
def peersTicksRow : OpenClaim := { program := "ythkaabfoeealaaa", sum := "b7abeba5a34873c1df4b700c46c861eedfdd229a4dbb7ef4a6a38651a1a10190", func := "toller/tollerlaw18.PeersTicks", spec := "peersTicks", unfollowed := true, recurses := true, apart := false }
def PeersTicksSaid : Prop := peersTicksRow.holds Try.pinned (OpenSpec.ofChange peersTicksSpec)

/-- ITS FALSE NEIGHBOUR: 'it returns false'. Refute it at one input. -/
def peersTicksWrong : ChangeSpec := { name := "peersTicks", fn := fun _ => fun
  | [d1, d2, d3, d4] => { results := [.lit (.bool false)], args := [d1, d2, d3, d4] }
  | _ => none }
def PeersTicksWrongFalsely : Prop := peersTicksRow.holds Try.pinned (OpenSpec.ofChange peersTicksWrong)

/-- 'tollerlaw18.PeersWorst': WHATEVER THE INPUT: true; the input reads as it did. -/
def peersWorstSpec : ChangeSpec := { name := "peersWorst", fn := fun _ => fun
  | [d1, d2, d3, d4, d5] => { results := [.lit (.bool true)], args := [d1, d2, d3, d4, d5] }
  | _ => none }
def peersWorstRow : OpenClaim := { program := "ythkaabfoeealaaa", sum := "b7abeba5a34873c1df4b700c46c861eedfdd229a4dbb7ef4a6a38651a1a10190", func := "toller/tollerlaw18.PeersWorst", spec := "peersWorst", unfollowed := true, recurses := true, apart := false }
def PeersWorstSaid : Prop := peersWorstRow.holds Try.pinned (OpenSpec.ofChange peersWorstSpec)

/-- ITS FALSE NEIGHBOUR: 'it returns false'. Refute it at one input. -/
def peersWorstWrong : ChangeSpec := { name := "peersWorst", fn := fun _ => fun
  | [d1, d2, d3, d4, d5] => { results := [.lit (.bool false)], args := [d1, d2, d3, d4, d5] }
  | _ => none }
def PeersWorstWrongFalsely : Prop := peersWorstRow.holds Try.pinned (OpenSpec.ofChange peersWorstWrong)

/- THE SECOND FORM. 'bulk': how many values and letters a reading holds, each counted each time it is reached (what is shared counts as often as it is met; a slice's spare places count too). A statement '..UptoSaid' is the law's where the arguments, and the package variables that the reading takes, are together of bulk at most 1048576: NARROWER than '..Said'. Prove '..Said' where nothing that the law and all that it calls make is longer than what came in: it says more and counts as full. Else prove '..UptoSaid'. A law counts once. -/
mutual
def uptoBulk {H : Type} : DataW H → Nat
  | .lit (.string bytes) => bytes.length + 1
  | .lit _ => 1
  | .nil => 1
  | .ptr d => uptoBulk d + 1
  | .slice elems spare => uptoBulkAll elems + uptoBulkAll spare + 1
  | .agg parts => uptoBulkAll parts + 1
  | .iface _ d => uptoBulk d + 1
  | .map entries => uptoBulkEntries entries + 1
  | .held _ => 1
def uptoBulkAll {H : Type} : List (DataW H) → Nat
  | [] => 0
  | d :: r => uptoBulk d + uptoBulkAll r
def uptoBulkEntries {H : Type} : List (Lit × DataW H) → Nat
  | [] => 0
  | x :: r => uptoBulkEntry x + uptoBulkEntries r
def uptoBulkEntry {H : Type} : Lit × DataW H → Nat
  | (.string bytes, d) => bytes.length + uptoBulk d + 1
  | (_, d) => uptoBulk d + 1
 end
def uptoSmall : (H : Type) → List (DataW H) → Bool := fun _ ds => decide (uptoBulkAll ds ≤ 1048576)
def OpenSpec.upto (s : _root_.Go.ChangeSpec) : _root_.Go.OpenSpec := { _root_.Go.OpenSpec.ofChange s with cond := some uptoSmall }

/-- 'tollerlaw18.PeersBound', WHERE WHAT IT READS IS OF BULK AT MOST 1048576: true; the input reads as it did. -/
def peersBoundUptoRow : OpenClaim := { program := "ythkaabfoeealaaa", sum := "b7abeba5a34873c1df4b700c46c861eedfdd229a4dbb7ef4a6a38651a1a10190", func := "toller/tollerlaw18.PeersBound", spec := "peersBound", unfollowed := true, recurses := true, apart := false, narrowed := true }
def PeersBoundUptoSaid : Prop := peersBoundUptoRow.holds Try.pinned (OpenSpec.upto peersBoundSpec)

/-- 'tollerlaw18.PeersSplit', WHERE WHAT IT READS IS OF BULK AT MOST 1048576: true; the input reads as it did. -/
def peersSplitUptoRow : OpenClaim := { program := "ythkaabfoeealaaa", sum := "b7abeba5a34873c1df4b700c46c861eedfdd229a4dbb7ef4a6a38651a1a10190", func := "toller/tollerlaw18.PeersSplit", spec := "peersSplit", unfollowed := true, recurses := true, apart := false, narrowed := true }
def PeersSplitUptoSaid : Prop := peersSplitUptoRow.holds Try.pinned (OpenSpec.upto peersSplitSpec)

/-- 'tollerlaw18.PeersDo', WHERE WHAT IT READS IS OF BULK AT MOST 1048576: true; the input reads as it did. -/
def peersDoUptoRow : OpenClaim := { program := "ythkaabfoeealaaa", sum := "b7abeba5a34873c1df4b700c46c861eedfdd229a4dbb7ef4a6a38651a1a10190", func := "toller/tollerlaw18.PeersDo", spec := "peersDo", unfollowed := true, recurses := true, apart := false, narrowed := true }
def PeersDoUptoSaid : Prop := peersDoUptoRow.holds Try.pinned (OpenSpec.upto peersDoSpec)

/-- 'tollerlaw18.PeersApart', WHERE WHAT IT READS IS OF BULK AT MOST 1048576: true; the input reads as it did. -/
def peersApartUptoRow : OpenClaim := { program := "ythkaabfoeealaaa", sum := "b7abeba5a34873c1df4b700c46c861eedfdd229a4dbb7ef4a6a38651a1a10190", func := "toller/tollerlaw18.PeersApart", spec := "peersApart", unfollowed := true, recurses := true, apart := false, narrowed := true }
def PeersApartUptoSaid : Prop := peersApartUptoRow.holds Try.pinned (OpenSpec.upto peersApartSpec)

/-- 'tollerlaw18.PeersTicks', WHERE WHAT IT READS IS OF BULK AT MOST 1048576: true; the input reads as it did. -/
def peersTicksUptoRow : OpenClaim := { program := "ythkaabfoeealaaa", sum := "b7abeba5a34873c1df4b700c46c861eedfdd229a4dbb7ef4a6a38651a1a10190", func := "toller/tollerlaw18.PeersTicks", spec := "peersTicks", unfollowed := true, recurses := true, apart := false, narrowed := true }
def PeersTicksUptoSaid : Prop := peersTicksUptoRow.holds Try.pinned (OpenSpec.upto peersTicksSpec)

/-- 'tollerlaw18.PeersWorst', WHERE WHAT IT READS IS OF BULK AT MOST 1048576: true; the input reads as it did. -/
def peersWorstUptoRow : OpenClaim := { program := "ythkaabfoeealaaa", sum := "b7abeba5a34873c1df4b700c46c861eedfdd229a4dbb7ef4a6a38651a1a10190", func := "toller/tollerlaw18.PeersWorst", spec := "peersWorst", unfollowed := true, recurses := true, apart := false, narrowed := true }
def PeersWorstUptoSaid : Prop := peersWorstUptoRow.holds Try.pinned (OpenSpec.upto peersWorstSpec)

end Rows
end Go.Proofs.Ythkaabfoeealaaa

/- What the document's drop does: its condition, written by hand; the kernel says that it is that. -/
import Derived.Test.YthkaabfoeealaaaCtx
namespace Go.Proofs.Ythkaabfoeealaaa
open Go Go.Vc
set_option maxRecDepth 100000
set_option linter.unusedVariables false

/-- One row without one of its elements. -/
def cutOut (p : Option Go.Vc.Loc) (i : Int) (off : Nat) (h : Heap) (K : Heap → Prop) : Prop :=
  Nn p fun (l : Go.Vc.Loc) =>
  ∃ (s : Sl), at1 h l.b (l.o + off) (slVal s) ∧ 0 ≤ i ∧ i ≤ (s.cap : Int) ∧
  Nn p fun (l : Go.Vc.Loc) =>
  ∃ (s_1 : Sl), at1 h l.b (l.o + off) (slVal s_1) ∧ 0 ≤ IntKind.wrap IntKind.i64 (i + 1) ∧ IntKind.wrap IntKind.i64 (i + 1) ≤ (s_1.len : Int) ∧
  Ext h (Array.push h (row (TVs.cells []) 3)) ∧
  ∃ (new : List Value), slAt (Array.push h (row (TVs.cells []) 3)) (cutSl s 0 (Int.toNat i) 1) 1 new ∧ (∀ (v : Value), v ∈ new → isOne v = true) ∧
  vcAppend ctx 3 (Sl.mk (some (Loc.mk (Array.size h) 0)) 0 0) (cutSl s 0 (Int.toNat i) 1).len new (Array.push h (row (TVs.cells []) 3)) fun (s_2 : Sl) (h_1 : Heap) =>
  Ext (Array.push h (row (TVs.cells []) 3)) h_1 ∧
  ∃ (new : List Value), slAt h_1 (cutSl s_1 (Int.toNat (IntKind.wrap IntKind.i64 (i + 1))) s_1.len 1) 1 new ∧ (∀ (v : Value), v ∈ new → isOne v = true) ∧
  vcAppend ctx 3 s_2 (cutSl s_1 (Int.toNat (IntKind.wrap IntKind.i64 (i + 1))) s_1.len 1).len new h_1 fun (s_3 : Sl) (h_2 : Heap) =>
  Nn p fun (l : Go.Vc.Loc) => wok h_2 l.b (l.o + off) 1 ∧ K (TV.put h_2 l.b (l.o + off) (TV.slice s_3))

def tollerref18_Peers_drop_vc (p : Option Go.Vc.Loc) (i : Int) (h : Heap) (R : Value → Heap → Prop) : Prop :=
  cutOut p i 0 h fun h => cutOut p i 1 h fun h => R (TV.val (TV.tup [])) h

theorem tollerref18_Peers_drop_calls (p : Option Go.Vc.Loc) (i : Int) (h : Heap) (R : Value → Heap → Prop) (H : tollerref18_Peers_drop_vc p i h R) : CallsH Try.prog 28 (TVs.vals [TV.ptr p, TV.int IntKind.i64 i]) h R :=
  vcFn_sound (C := ctx) ctx_ok (fn := Try.f28) Try.func28 ((by kernel_rfl : tollerref18_Peers_drop_vc p i h R = vcFn ctx Try.f28 [TV.ptr p, TV.int IntKind.i64 i] h R) ▸ H)

end Go.Proofs.Ythkaabfoeealaaa

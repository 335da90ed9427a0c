/- The conditions of functions, as the generator reckons them out, each with the proof that it is that. -/
import Derived.Test.YtgdhddignbkloaaCtx
namespace Go.Proofs.Ytgdhddignbkloaa
open Go Go.Vc
set_option maxRecDepth 100000
set_option linter.unusedVariables false

def mac_pad_vc (key : List UInt8) (with_ : Int) (h : Heap) (R : Value → Heap → Prop) : Prop :=
 Vc.Bind (newTV h (TV.bytes (64 : Nat) (Bs.zero (64 : Nat))) (102 : Nat)) fun (h_1 : Array Obj) ↦
 ((cutSl (Sl.mk (some (Loc.mk (Array.size h) (0 : Nat))) (64 : Nat) (64 : Nat)) (0 : Nat) (64 : Nat) (1 : Nat)).a = none →
 Go.Vc.Loop (0 : Int) h_1 fun (s : Int) (h_2 : Array Obj) (K : Int → Array Obj → Prop) ↦
 If (decide (s < (64 : Int)))
 ((0 : Int) ≤ s ∧
 s < (↑(64 : Nat) : Int) ∧
 ∃ (n : Int),
 at1 h_2 (Array.size h) ((0 : Nat) + Int.toNat s * (1 : Nat)) (Value.int IntKind.u8 n) ∧
 (0 : Int) ≤ s ∧
 s < (↑(64 : Nat) : Int) ∧
 wok h_2 (Array.size h) ((0 : Nat) + Int.toNat s * (1 : Nat)) (1 : Nat) ∧
 Vc.Bind
 (TV.put h_2 (Array.size h) ((0 : Nat) + Int.toNat s * (1 : Nat))
 (TV.int IntKind.u8
 (IntKind.wrap IntKind.u8
 (↑(BitVec.toNat (BitVec.ofInt (IntKind.bits IntKind.u8) n ^^^ BitVec.ofInt (IntKind.bits IntKind.u8) with_)) : Int))))
 fun (h : Array Obj) ↦ K (IntKind.wrap IntKind.i64 (s + (1 : Int))) h)
 (∃ (bs : List UInt8),
 strAt h_2 (cutSl (Sl.mk (some (Loc.mk (Array.size h) (0 : Nat))) (64 : Nat) (64 : Nat)) (0 : Nat) (64 : Nat) (1 : Nat)) bs ∧
 R (TV.val (TV.str bs)) h_2)) ∧
 ∀ (l : Go.Vc.Loc),
 (cutSl (Sl.mk (some (Loc.mk (Array.size h) (0 : Nat))) (64 : Nat) (64 : Nat)) (0 : Nat) (64 : Nat) (1 : Nat)).a = some l →
 wok h_1 l.b l.o
 (Nat.min (List.length key) (cutSl (Sl.mk (some (Loc.mk (Array.size h) (0 : Nat))) (64 : Nat) (64 : Nat)) (0 : Nat) (64 : Nat) (1 : Nat)).len) ∧
 Vc.Bind
 (putl h_1 l.b l.o
 (List.map (fun (c : UInt8) ↦ Value.int IntKind.u8 (↑(UInt8.toNat c) : Int))
 (List.take
 (Nat.min (List.length key) (cutSl (Sl.mk (some (Loc.mk (Array.size h) (0 : Nat))) (64 : Nat) (64 : Nat)) (0 : Nat) (64 : Nat) (1 : Nat)).len)
 key)))
 fun (h_2 : Array Obj) ↦
 Go.Vc.Loop (0 : Int) h_2 fun (s : Int) (h_3 : Array Obj) (K : Int → Array Obj → Prop) ↦
 If (decide (s < (64 : Int)))
 ((0 : Int) ≤ s ∧
 s < (↑(64 : Nat) : Int) ∧
 ∃ (n : Int),
 at1 h_3 (Array.size h) ((0 : Nat) + Int.toNat s * (1 : Nat)) (Value.int IntKind.u8 n) ∧
 (0 : Int) ≤ s ∧
 s < (↑(64 : Nat) : Int) ∧
 wok h_3 (Array.size h) ((0 : Nat) + Int.toNat s * (1 : Nat)) (1 : Nat) ∧
 Vc.Bind
 (TV.put h_3 (Array.size h) ((0 : Nat) + Int.toNat s * (1 : Nat))
 (TV.int IntKind.u8
 (IntKind.wrap IntKind.u8
 (↑(BitVec.toNat (BitVec.ofInt (IntKind.bits IntKind.u8) n ^^^ BitVec.ofInt (IntKind.bits IntKind.u8) with_)) : Int))))
 fun (h : Array Obj) ↦ K (IntKind.wrap IntKind.i64 (s + (1 : Int))) h)
 (∃ (bs : List UInt8),
 strAt h_3 (cutSl (Sl.mk (some (Loc.mk (Array.size h) (0 : Nat))) (64 : Nat) (64 : Nat)) (0 : Nat) (64 : Nat) (1 : Nat)) bs ∧
 R (TV.val (TV.str bs)) h_3)

theorem mac_pad_calls (key : List UInt8) (with_ : Int) (h : Heap) (R : Value → Heap → Prop) (H : mac_pad_vc key with_ h R) : CallsH Try.prog 47 (TVs.vals [TV.str key, TV.int IntKind.u8 with_]) h R :=
 vcFn_sound (C := ctx) ctx_ok (fn := Try.f47) Try.func47 ((by kernel_rfl : mac_pad_vc key with_ h R = vcFn ctx Try.f47 [TV.str key, TV.int IntKind.u8 with_] h R) ▸ H)


def mac_Of_vc (key : List UInt8) (list : Sl) (h : Heap) (R : Value → Heap → Prop) : Prop :=
 Vc.Bind (newTV h (TV.bytes (16 : Nat) (Bs.zero (16 : Nat))) (30 : Nat)) fun (h_1 : Array Obj) ↦
 Join
 (fun (s : List UInt8) (h_2 : Array Obj) ↦
 CallsH Try.prog (47 : Nat) (TVs.vals [TV.str s, TV.int IntKind.u8 (54 : Int)]) h_2 fun (v : Value) (h_3 : Array Obj) ↦
 ∃ (s_1 : List UInt8),
 v = TV.val (TV.str s_1) ∧
 ∃ (new : List Value),
 slAt (Array.push h_3 (row (TVs.cells [TV.str s_1]) (9 : Nat))) list (1 : Nat) new ∧
 (∀ (v : Value), v ∈ new → isOne v = true) ∧
 vcAppend Ytgdhddignbkloaa.ctx (9 : Nat) (Sl.mk (some (Loc.mk (Array.size h_3) (0 : Nat))) (1 : Nat) (1 : Nat)) list.len new
 (Array.push h_3 (row (TVs.cells [TV.str s_1]) (9 : Nat))) fun (s_2 : Sl) (h_4 : Array Obj) ↦
 CallsH Try.prog (46 : Nat) (TVs.vals [TV.slice s_2]) h_4 fun (v : Value) (h_5 : Array Obj) ↦
 ∃ (b : Bs (32 : Nat)),
 v = TV.val (TV.bytes (32 : Nat) b) ∧
 Vc.Bind (newTV h_5 (TV.bytes (32 : Nat) (Bs.zero (32 : Nat))) (26 : Nat)) fun (h_6 : Array Obj) ↦
 wok h_6 (Array.size h_5) (0 : Nat) (32 : Nat) ∧
 Vc.Bind (TV.put h_6 (Array.size h_5) (0 : Nat) (TV.bytes (32 : Nat) b)) fun (h_7 : Array Obj) ↦
 Join
 (fun (s_3 : List UInt8 × List UInt8 × Sl × List UInt8 × Sl × Bs (32 : Nat) × Option Go.Vc.Loc) (h_8 : Array Obj) ↦
 Nn s_3.snd.snd.snd.snd.snd.snd fun (l : Go.Vc.Loc) ↦
 (0 : Int) ≤ (16 : Int) ∧
 (16 : Int) ≤ (↑(32 : Nat) : Int) ∧
 (16 : Nat) ≤ (cutSl (Sl.mk (some l) (32 : Nat) (32 : Nat)) (0 : Nat) (Int.toNat (16 : Int)) (1 : Nat)).len ∧
 Nn (cutSl (Sl.mk (some l) (32 : Nat) (32 : Nat)) (0 : Nat) (Int.toNat (16 : Int)) (1 : Nat)).a fun (l : Go.Vc.Loc) ↦
 ∃ (b : Bs (16 : Nat)),
 atBytes h_8 l.b l.o (16 : Nat) b ∧
 wok h_8 (Array.size h) (0 : Nat) (16 : Nat) ∧
 Vc.Bind (TV.put h_8 (Array.size h) (0 : Nat) (TV.bytes (16 : Nat) b)) fun (h_9 : Array Obj) ↦
 ∃ (b : Bs (16 : Nat)),
 atBytes h_9 (Array.size h) (0 : Nat) (16 : Nat) b ∧ R (TV.val (TV.bytes (16 : Nat) b)) h_9)
 fun (J : List UInt8 × List UInt8 × Sl × List UInt8 × Sl × Bs (32 : Nat) × Option Go.Vc.Loc → Array Obj → Prop) ↦
 ∃ (bs : List UInt8),
 strAt h_7 (cutSl (Sl.mk (some (Loc.mk (Array.size h_5) (0 : Nat))) (32 : Nat) (32 : Nat)) (0 : Nat) (32 : Nat) (1 : Nat))
 bs ∧
 (CallsH Try.prog (47 : Nat) (TVs.vals [TV.str s, TV.int IntKind.u8 (92 : Int)]) h_7 fun (v : Value) (h : Array Obj) ↦
 ∃ (s_3 : List UInt8),
 v = TV.val (TV.str s_3) ∧
 Ext h_7 h ∧
 ((CallsH Try.prog (46 : Nat)
 (TVs.vals [TV.slice (Sl.mk (some (Loc.mk (Array.size h) (0 : Nat))) (2 : Nat) (2 : Nat))])
 (Array.push h (row (TVs.cells [TV.str s_3, TV.str bs]) (9 : Nat))) fun (v : Value) (h_8 : Array Obj) ↦
 ∃ (b : Bs (32 : Nat)),
 v = TV.val (TV.bytes (32 : Nat) b) ∧
 Vc.Bind (newTV h_8 (TV.bytes (32 : Nat) (Bs.zero (32 : Nat))) (26 : Nat)) fun (h_9 : Array Obj) ↦
 Ext h_8 h_9 ∧
 wok h_9 (Array.size h_8) (0 : Nat) (32 : Nat) ∧
 Vc.Bind (TV.put h_9 (Array.size h_8) (0 : Nat) (TV.bytes (32 : Nat) b)) fun (h_10 : Array Obj) ↦
 J
 (s, s_3,
 cutSl (Sl.mk (some (Loc.mk (Array.size h_5) (0 : Nat))) (32 : Nat) (32 : Nat)) (0 : Nat)
 (32 : Nat) (1 : Nat),
 bs, Sl.mk (some (Loc.mk (Array.size h) (0 : Nat))) (2 : Nat) (2 : Nat), b,
 some (Loc.mk (Array.size h_8) (0 : Nat)))
 h_10) ∧
 Vc.Bind
 (newTV (Array.push h (row (TVs.cells [TV.str s_3, TV.str bs]) (9 : Nat)))
 (TV.bytes (32 : Nat) (Bs.zero (32 : Nat))) (26 : Nat))
 fun (h_8 : Array Obj) ↦
 Ext (Array.push h (row (TVs.cells [TV.str s_3, TV.str bs]) (9 : Nat))) h_8 ∧
 CallsH Try.prog (46 : Nat)
 (TVs.vals [TV.slice (Sl.mk (some (Loc.mk (Array.size h) (0 : Nat))) (2 : Nat) (2 : Nat))]) h_8
 fun (v : Value) (h_9 : Array Obj) ↦
 ∃ (b : Bs (32 : Nat)),
 v = TV.val (TV.bytes (32 : Nat) b) ∧
 wok h_9 (Array.size (Array.push h (row (TVs.cells [TV.str s_3, TV.str bs]) (9 : Nat)))) (0 : Nat)
 (32 : Nat) ∧
 Vc.Bind
 (TV.put h_9 (Array.size (Array.push h (row (TVs.cells [TV.str s_3, TV.str bs]) (9 : Nat))))
 (0 : Nat) (TV.bytes (32 : Nat) b))
 fun (h_10 : Array Obj) ↦
 J
 (s, s_3,
 cutSl (Sl.mk (some (Loc.mk (Array.size h_5) (0 : Nat))) (32 : Nat) (32 : Nat)) (0 : Nat)
 (32 : Nat) (1 : Nat),
 bs, Sl.mk (some (Loc.mk (Array.size h) (0 : Nat))) (2 : Nat) (2 : Nat), b,
 some
 (Loc.mk (Array.size (Array.push h (row (TVs.cells [TV.str s_3, TV.str bs]) (9 : Nat))))
 (0 : Nat)))
 h_10) ∧
 Vc.Bind (newTV h (TV.bytes (32 : Nat) (Bs.zero (32 : Nat))) (26 : Nat)) fun (h_8 : Array Obj) ↦
 Ext h h_8 ∧
 CallsH Try.prog (46 : Nat)
 (TVs.vals [TV.slice (Sl.mk (some (Loc.mk (Array.size h_8) (0 : Nat))) (2 : Nat) (2 : Nat))])
 (Array.push h_8 (row (TVs.cells [TV.str s_3, TV.str bs]) (9 : Nat))) fun (v : Value) (h_9 : Array Obj) ↦
 ∃ (b : Bs (32 : Nat)),
 v = TV.val (TV.bytes (32 : Nat) b) ∧
 wok h_9 (Array.size h) (0 : Nat) (32 : Nat) ∧
 Vc.Bind (TV.put h_9 (Array.size h) (0 : Nat) (TV.bytes (32 : Nat) b)) fun (h_10 : Array Obj) ↦
 J
 (s, s_3,
 cutSl (Sl.mk (some (Loc.mk (Array.size h_5) (0 : Nat))) (32 : Nat) (32 : Nat)) (0 : Nat)
 (32 : Nat) (1 : Nat),
 bs, Sl.mk (some (Loc.mk (Array.size h_8) (0 : Nat))) (2 : Nat) (2 : Nat), b,
 some (Loc.mk (Array.size h) (0 : Nat)))
 h_10) ∧
 Vc.Bind (newTV h_7 (TV.bytes (32 : Nat) (Bs.zero (32 : Nat))) (26 : Nat)) fun (h : Array Obj) ↦
 Ext h_7 h ∧
 CallsH Try.prog (47 : Nat) (TVs.vals [TV.str s, TV.int IntKind.u8 (92 : Int)]) h fun (v : Value) (h_8 : Array Obj) ↦
 ∃ (s_3 : List UInt8),
 v = TV.val (TV.str s_3) ∧
 Ext h h_8 ∧
 CallsH Try.prog (46 : Nat)
 (TVs.vals [TV.slice (Sl.mk (some (Loc.mk (Array.size h_8) (0 : Nat))) (2 : Nat) (2 : Nat))])
 (Array.push h_8 (row (TVs.cells [TV.str s_3, TV.str bs]) (9 : Nat))) fun (v : Value) (h : Array Obj) ↦
 ∃ (b : Bs (32 : Nat)),
 v = TV.val (TV.bytes (32 : Nat) b) ∧
 wok h (Array.size h_7) (0 : Nat) (32 : Nat) ∧
 Vc.Bind (TV.put h (Array.size h_7) (0 : Nat) (TV.bytes (32 : Nat) b)) fun (h : Array Obj) ↦
 J
 (s, s_3,
 cutSl (Sl.mk (some (Loc.mk (Array.size h_5) (0 : Nat))) (32 : Nat) (32 : Nat)) (0 : Nat)
 (32 : Nat) (1 : Nat),
 bs, Sl.mk (some (Loc.mk (Array.size h_8) (0 : Nat))) (2 : Nat) (2 : Nat), b,
 some (Loc.mk (Array.size h_7) (0 : Nat)))
 h)
 fun (J : List UInt8 → Array Obj → Prop) ↦
 If (decide ((64 : Int) < (↑(List.length key) : Int)))
 (CallsH Try.prog (46 : Nat) (TVs.vals [TV.slice (Sl.mk (some (Loc.mk (Array.size h_1) (0 : Nat))) (1 : Nat) (1 : Nat))])
 (Array.push h_1 (row (TVs.cells [TV.str key]) (9 : Nat))) fun (v : Value) (h : Array Obj) ↦
 ∃ (b : Bs (32 : Nat)),
 v = TV.val (TV.bytes (32 : Nat) b) ∧
 Vc.Bind (newTV h (TV.bytes (32 : Nat) (Bs.zero (32 : Nat))) (26 : Nat)) fun (h_2 : Array Obj) ↦
 wok h_2 (Array.size h) (0 : Nat) (32 : Nat) ∧
 Vc.Bind (TV.put h_2 (Array.size h) (0 : Nat) (TV.bytes (32 : Nat) b)) fun (h_3 : Array Obj) ↦
 ∃ (bs : List UInt8),
 strAt h_3 (cutSl (Sl.mk (some (Loc.mk (Array.size h) (0 : Nat))) (32 : Nat) (32 : Nat)) (0 : Nat) (32 : Nat) (1 : Nat)) bs ∧ J bs h_3)
 (J key h_1)

theorem mac_Of_calls (key : List UInt8) (list : Sl) (h : Heap) (R : Value → Heap → Prop) (H : mac_Of_vc key list h R) : CallsH Try.prog 27 (TVs.vals [TV.str key, TV.slice list]) h R :=
 vcFn_sound (C := ctx) ctx_ok (fn := Try.f27) Try.func27 ((by kernel_rfl : mac_Of_vc key list h R = vcFn ctx Try.f27 [TV.str key, TV.slice list] h R) ▸ H)


def mac_Join_vc (list : Sl) (h : Heap) (R : Value → Heap → Prop) : Prop :=
 Vc.Bind (newTV h (TV.bytes (16 : Nat) (Bs.zero (16 : Nat))) (30 : Nat)) fun (h_1 : Array Obj) ↦
 Vc.Bind (newTV h_1 (TV.bytes (16 : Nat) (Bs.zero (16 : Nat))) (30 : Nat)) fun (h_2 : Array Obj) ↦
 Go.Vc.Loop (0 : Int) h_2 fun (s : Int) (h_3 : Array Obj) (K : Int → Array Obj → Prop) ↦
 If (decide (s < (↑list.len : Int)))
 ((0 : Int) ≤ s ∧
 s < (↑list.len : Int) ∧
 Nn list.a fun (l : Go.Vc.Loc) ↦
 ∃ (b : Bs (16 : Nat)),
 atBytes h_3 l.b (l.o + Int.toNat s * (16 : Nat)) (16 : Nat) b ∧
 Vc.Bind (newTV h_3 (TV.bytes (16 : Nat) (Bs.zero (16 : Nat))) (30 : Nat)) fun (h : Array Obj) ↦
 wok h (Array.size h_3) (0 : Nat) (16 : Nat) ∧
 Vc.Bind (TV.put h (Array.size h_3) (0 : Nat) (TV.bytes (16 : Nat) b)) fun (h : Array Obj) ↦
 Go.Vc.Loop (0 : Int) h fun (s_1 : Int) (h : Array Obj) (K_1 : Int → Array Obj → Prop) ↦
 If (decide (s_1 < (16 : Int)))
 ((0 : Int) ≤ s_1 ∧
 s_1 < (↑(16 : Nat) : Int) ∧
 ∃ (n : Int),
 at1 h (Array.size h_1) ((0 : Nat) + Int.toNat s_1 * (1 : Nat)) (Value.int IntKind.u8 n) ∧
 (0 : Int) ≤ s_1 ∧
 s_1 < (↑(16 : Nat) : Int) ∧
 ∃ (n_1 : Int),
 at1 h (Array.size h_3) ((0 : Nat) + Int.toNat s_1 * (1 : Nat)) (Value.int IntKind.u8 n_1) ∧
 (0 : Int) ≤ s_1 ∧
 s_1 < (↑(16 : Nat) : Int) ∧
 wok h (Array.size h_1) ((0 : Nat) + Int.toNat s_1 * (1 : Nat)) (1 : Nat) ∧
 Vc.Bind
 (TV.put h (Array.size h_1) ((0 : Nat) + Int.toNat s_1 * (1 : Nat))
 (TV.int IntKind.u8
 (IntKind.wrap IntKind.u8
 (↑(BitVec.toNat
 (BitVec.ofInt (IntKind.bits IntKind.u8) n ^^^ BitVec.ofInt (IntKind.bits IntKind.u8) n_1)) :
 Int))))
 fun (h : Array Obj) ↦ K_1 (IntKind.wrap IntKind.i64 (s_1 + (1 : Int))) h)
 (K (IntKind.wrap IntKind.i64 (s + (1 : Int))) h))
 (∃ (b : Bs (16 : Nat)),
 atBytes h_3 (Array.size h_1) (0 : Nat) (16 : Nat) b ∧
 wok h_3 (Array.size h) (0 : Nat) (16 : Nat) ∧
 Vc.Bind (TV.put h_3 (Array.size h) (0 : Nat) (TV.bytes (16 : Nat) b)) fun (h_4 : Array Obj) ↦
 ∃ (b : Bs (16 : Nat)), atBytes h_4 (Array.size h) (0 : Nat) (16 : Nat) b ∧ R (TV.val (TV.bytes (16 : Nat) b)) h_4)

theorem mac_Join_calls (list : Sl) (h : Heap) (R : Value → Heap → Prop) (H : mac_Join_vc list h R) : CallsH Try.prog 13 (TVs.vals [TV.slice list]) h R :=
 vcFn_sound (C := ctx) ctx_ok (fn := Try.f13) Try.func13 ((by kernel_rfl : mac_Join_vc list h R = vcFn ctx Try.f13 [TV.slice list] h R) ▸ H)


def bitlist_Put_vc (b : Sl) (list : Sl) (h : Heap) (R : Value → Heap → Prop) : Prop :=
 (8 : Int) ≠ (0 : Int) ∧
 (0 : Int) ≤ IntKind.wrap IntKind.i64 (IntKind.wrap IntKind.i64 (Int.tdiv (↑list.len : Int) (8 : Int)) + (1 : Int)) ∧
 IntKind.wrap IntKind.i64 (IntKind.wrap IntKind.i64 (Int.tdiv (↑list.len : Int) (8 : Int)) + (1 : Int)) * (↑(1 : Nat) : Int) ≤ (70368744177664 : Int) ∧
 vcAppend Ytgdhddignbkloaa.ctx (5 : Nat) b
 (Int.toNat (IntKind.wrap IntKind.i64 (IntKind.wrap IntKind.i64 (Int.tdiv (↑list.len : Int) (8 : Int)) + (1 : Int))))
 (List.replicate (Int.toNat (IntKind.wrap IntKind.i64 (IntKind.wrap IntKind.i64 (Int.tdiv (↑list.len : Int) (8 : Int)) + (1 : Int))))
 (Value.int IntKind.u8 (0 : Int)))
 h fun (s : Sl) (h : Heap) ↦
 Go.Vc.Loop (0 : Int) h fun (s_1 : Int) (h : Array Obj) (K : Int → Array Obj → Prop) ↦
 If (decide (s_1 < (↑list.len : Int)))
 ((0 : Int) ≤ s_1 ∧
 s_1 < (↑list.len : Int) ∧
 Nn list.a fun (l : Go.Vc.Loc) ↦
 ∃ (b_1 : Bool),
 at1 h l.b (l.o + Int.toNat s_1 * (1 : Nat)) (Value.bool b_1) ∧
 If b_1
 ((8 : Int) ≠ (0 : Int) ∧
 (0 : Int) ≤ IntKind.wrap IntKind.i64 ((↑b.len : Int) + IntKind.wrap IntKind.i64 (Int.tdiv s_1 (8 : Int))) ∧
 IntKind.wrap IntKind.i64 ((↑b.len : Int) + IntKind.wrap IntKind.i64 (Int.tdiv s_1 (8 : Int))) < (↑s.len : Int) ∧
 Nn s.a fun (l : Go.Vc.Loc) ↦
 ∃ (n : Int),
 at1 h l.b
 (l.o +
 Int.toNat (IntKind.wrap IntKind.i64 ((↑b.len : Int) + IntKind.wrap IntKind.i64 (Int.tdiv s_1 (8 : Int)))) * (1 : Nat))
 (Value.int IntKind.u8 n) ∧
 (8 : Int) ≠ (0 : Int) ∧
 (0 : Int) ≤ Int.tmod s_1 (8 : Int) ∧
 (0 : Int) ≤ IntKind.wrap IntKind.i64 ((↑b.len : Int) + IntKind.wrap IntKind.i64 (Int.tdiv s_1 (8 : Int))) ∧
 IntKind.wrap IntKind.i64 ((↑b.len : Int) + IntKind.wrap IntKind.i64 (Int.tdiv s_1 (8 : Int))) < (↑s.len : Int) ∧
 Nn s.a fun (l : Go.Vc.Loc) ↦
 wok h l.b
 (l.o +
 Int.toNat (IntKind.wrap IntKind.i64 ((↑b.len : Int) + IntKind.wrap IntKind.i64 (Int.tdiv s_1 (8 : Int)))) *
 (1 : Nat))
 (1 : Nat) ∧
 Vc.Bind
 (TV.put h l.b
 (l.o +
 Int.toNat
 (IntKind.wrap IntKind.i64 ((↑b.len : Int) + IntKind.wrap IntKind.i64 (Int.tdiv s_1 (8 : Int)))) *
 (1 : Nat))
 (TV.int IntKind.u8
 (IntKind.wrap IntKind.u8
 (↑(BitVec.toNat
 (BitVec.ofInt (IntKind.bits IntKind.u8) n |||
 BitVec.ofInt (IntKind.bits IntKind.u8)
 (IntKind.wrap IntKind.u8
 ((1 : Int) *
 (2 : Int) ^ min (Int.toNat (Int.tmod s_1 (8 : Int))) (IntKind.bits IntKind.u8))))) :
 Int))))
 fun (h : Array Obj) ↦ K (IntKind.wrap IntKind.i64 (s_1 + (1 : Int))) h)
 (K (IntKind.wrap IntKind.i64 (s_1 + (1 : Int))) h))
 ((0 : Int) ≤ IntKind.wrap IntKind.i64 ((↑s.len : Int) - (1 : Int)) ∧
 IntKind.wrap IntKind.i64 ((↑s.len : Int) - (1 : Int)) < (↑s.len : Int) ∧
 Nn s.a fun (l : Go.Vc.Loc) ↦
 ∃ (n : Int),
 at1 h l.b (l.o + Int.toNat (IntKind.wrap IntKind.i64 ((↑s.len : Int) - (1 : Int))) * (1 : Nat)) (Value.int IntKind.u8 n) ∧
 (8 : Int) ≠ (0 : Int) ∧
 (0 : Int) ≤ Int.tmod (↑list.len : Int) (8 : Int) ∧
 (0 : Int) ≤ IntKind.wrap IntKind.i64 ((↑s.len : Int) - (1 : Int)) ∧
 IntKind.wrap IntKind.i64 ((↑s.len : Int) - (1 : Int)) < (↑s.len : Int) ∧
 Nn s.a fun (l : Go.Vc.Loc) ↦
 wok h l.b (l.o + Int.toNat (IntKind.wrap IntKind.i64 ((↑s.len : Int) - (1 : Int))) * (1 : Nat)) (1 : Nat) ∧
 Vc.Bind
 (TV.put h l.b (l.o + Int.toNat (IntKind.wrap IntKind.i64 ((↑s.len : Int) - (1 : Int))) * (1 : Nat))
 (TV.int IntKind.u8
 (IntKind.wrap IntKind.u8
 (↑(BitVec.toNat
 (BitVec.ofInt (IntKind.bits IntKind.u8) n |||
 BitVec.ofInt (IntKind.bits IntKind.u8)
 (IntKind.wrap IntKind.u8
 ((1 : Int) *
 (2 : Int) ^ min (Int.toNat (Int.tmod (↑list.len : Int) (8 : Int))) (IntKind.bits IntKind.u8))))) :
 Int))))
 fun (h : Array Obj) ↦ R (TV.val (TV.slice s)) h)

theorem bitlist_Put_calls (b : Sl) (list : Sl) (h : Heap) (R : Value → Heap → Prop) (H : bitlist_Put_vc b list h R) : CallsH Try.prog 49 (TVs.vals [TV.slice b, TV.slice list]) h R :=
 vcFn_sound (C := ctx) ctx_ok (fn := Try.f49) Try.func49 ((by kernel_rfl : bitlist_Put_vc b list h R = vcFn ctx Try.f49 [TV.slice b, TV.slice list] h R) ▸ H)


end Go.Proofs.Ytgdhddignbkloaa

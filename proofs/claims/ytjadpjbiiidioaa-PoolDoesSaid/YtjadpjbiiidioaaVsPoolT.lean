/- The conditions of functions, as the generator reckons them out, each with the proof that it is that. -/
import Derived.Test.YtjadpjbiiidioaaCtx
namespace Go.Proofs.Ytjadpjbiiidioaa
open Go Go.Vc
set_option maxRecDepth 100000
set_option linter.unusedVariables false

def tollerref10_Name_vc (n : Int) (h : Heap) (R : Value → Heap → Prop) : Prop :=
 Vc.Bind (newTV h (TV.bytes (32 : Nat) (Bs.zero (32 : Nat))) (30 : Nat)) fun (h_1 : Array Obj) ↦
 Vc.Bind (newTV h_1 (TV.bytes (32 : Nat) (Bs.zero (32 : Nat))) (30 : Nat)) fun (h_2 : Array Obj) ↦
 (0 : Int) ≤ (0 : Int) ∧
 (0 : Int) < (↑(32 : Nat) : Int) ∧
 wok h_2 (Array.size h_1) ((0 : Nat) + Int.toNat (0 : Int) * (1 : Nat)) (1 : Nat) ∧
 Vc.Bind (TV.put h_2 (Array.size h_1) ((0 : Nat) + Int.toNat (0 : Int) * (1 : Nat)) (TV.int IntKind.u8 (IntKind.wrap IntKind.u8 n)))
 fun (h_3 : Array Obj) ↦
 (0 : Int) ≤ (31 : Int) ∧
 (31 : Int) < (↑(32 : Nat) : Int) ∧
 wok h_3 (Array.size h_1) ((0 : Nat) + Int.toNat (31 : Int) * (1 : Nat)) (1 : Nat) ∧
 Vc.Bind
 (TV.put h_3 (Array.size h_1) ((0 : Nat) + Int.toNat (31 : Int) * (1 : Nat))
 (TV.int IntKind.u8 (IntKind.wrap IntKind.u8 (IntKind.wrap IntKind.i64 ((7 : Int) * n)))))
 fun (h_4 : Array Obj) ↦
 ∃ (b : Bs (32 : Nat)),
 atBytes h_4 (Array.size h_1) (0 : Nat) (32 : Nat) b ∧
 wok h_4 (Array.size h) (0 : Nat) (32 : Nat) ∧
 Vc.Bind (TV.put h_4 (Array.size h) (0 : Nat) (TV.bytes (32 : Nat) b)) fun (h_5 : Array Obj) ↦
 ∃ (b : Bs (32 : Nat)), atBytes h_5 (Array.size h) (0 : Nat) (32 : Nat) b ∧ R (TV.val (TV.bytes (32 : Nat) b)) h_5

theorem tollerref10_Name_calls (n : Int) (h : Heap) (R : Value → Heap → Prop) (H : tollerref10_Name_vc n h R) : CallsH Try.prog 27 (TVs.vals [TV.int IntKind.i64 n]) h R :=
 vcFn_sound (C := ctx) ctx_ok (fn := Try.f27) Try.func27 ((by kernel_rfl : tollerref10_Name_vc n h R = vcFn ctx Try.f27 [TV.int IntKind.i64 n] h R) ▸ H)


def tollerlaw15_Call_item_vc (c_Kind : Int) (c_Slot : Int) (c_N : Int) (c_Peer : Int) (c_Text : List UInt8) (h : Heap) (R : Value → Heap → Prop) : Prop :=
 Vc.Bind (newTV h (TV.agg [TV.int IntKind.i64 c_Kind, TV.int IntKind.i64 c_Slot, TV.int IntKind.i64 c_N, TV.int IntKind.i64 c_Peer, TV.str c_Text]) (36 : Nat))
 fun (h_1 : Array Obj) ↦
 Vc.Bind
 (newTV h_1
 (TV.agg
 [TV.int IntKind.i64 (0 : Int), TV.bytes (32 : Nat) (Bs.zero (32 : Nat)), TV.int IntKind.i64 (0 : Int), TV.bytes (32 : Nat) (Bs.zero (32 : Nat)),
 TV.str []])
 (32 : Nat))
 fun (h_2 : Array Obj) ↦
 ∃ (n : Int),
 at1 h_2 (Array.size h) (1 : Nat) (Value.int IntKind.i64 n) ∧
 ∃ (n_1 : Int),
 at1 h_2 (Array.size h) (2 : Nat) (Value.int IntKind.i64 n_1) ∧
 ∃ (n_2 : Int),
 at1 h_2 (Array.size h) (3 : Nat) (Value.int IntKind.i64 n_2) ∧
 ∃ (s : List UInt8),
 at1 h_2 (Array.size h) (4 : Nat) (Value.string (ByteArray.mk (List.toArray s))) ∧
 CallsH Try.prog (27 : Nat) (TVs.vals [TV.int IntKind.i64 n_1]) h_2 fun (v : Value) (h : Array Obj) ↦
 ∃ (b : Bs (32 : Nat)),
 v = TV.val (TV.bytes (32 : Nat) b) ∧
 Ext h_2 h ∧
 wok h (Array.size h_1) (0 : Nat) (Nat.succ (Nat.add (1 : Nat) (Nat.add (32 : Nat) (33 : Nat)))) ∧
 Vc.Bind
 (TV.put h (Array.size h_1) (0 : Nat)
 (TV.agg
 [TV.int IntKind.i64 n, TV.bytes (32 : Nat) b, TV.int IntKind.i64 n_2, TV.bytes (32 : Nat) (Bs.zero (32 : Nat)), TV.str s]))
 fun (h : Array Obj) ↦
 ∃ (n : Int),
 ∃ (b : Bs (32 : Nat)),
 ∃ (n_3 : Int),
 ∃ (b_1 : Bs (32 : Nat)),
 ∃ (s : List UInt8),
 (at1 h (Array.size h_1) (0 : Nat) (Value.int IntKind.i64 n) ∧
 atBytes h (Array.size h_1) (1 : Nat) (32 : Nat) b ∧
 at1 h (Array.size h_1) (33 : Nat) (Value.int IntKind.i64 n_3) ∧
 atBytes h (Array.size h_1) (34 : Nat) (32 : Nat) b_1 ∧
 at1 h (Array.size h_1) (66 : Nat) (Value.string (ByteArray.mk (List.toArray s)))) ∧
 R
 (TV.val
 (TV.agg
 [TV.int IntKind.i64 n, TV.bytes (32 : Nat) b, TV.int IntKind.i64 n_3, TV.bytes (32 : Nat) b_1, TV.str s]))
 h

theorem tollerlaw15_Call_item_calls (c_Kind : Int) (c_Slot : Int) (c_N : Int) (c_Peer : Int) (c_Text : List UInt8) (h : Heap) (R : Value → Heap → Prop) (H : tollerlaw15_Call_item_vc c_Kind c_Slot c_N c_Peer c_Text h R) : CallsH Try.prog 14 (TVs.vals [TV.agg [TV.int IntKind.i64 c_Kind, TV.int IntKind.i64 c_Slot, TV.int IntKind.i64 c_N, TV.int IntKind.i64 c_Peer, TV.str c_Text]]) h R :=
 vcFn_sound (C := ctx) ctx_ok (fn := Try.f14) Try.func14 ((by kernel_rfl : tollerlaw15_Call_item_vc c_Kind c_Slot c_N c_Peer c_Text h R = vcFn ctx Try.f14 [TV.agg [TV.int IntKind.i64 c_Kind, TV.int IntKind.i64 c_Slot, TV.int IntKind.i64 c_N, TV.int IntKind.i64 c_Peer, TV.str c_Text]] h R) ▸ H)


def tollerlaw15_alive_vc (h : Heap) (R : Value → Heap → Prop) : Prop :=
 CallsH Try.prog (12 : Nat) (TVs.vals [TV.int IntKind.i64 (2 : Int), TV.int IntKind.i64 (2 : Int)]) h fun (v : Value) (h : Heap) ↦
 ∃ (p : Option Go.Vc.Loc),
 v = TV.val (TV.ptr p) ∧
 CallsH Try.prog (14 : Nat)
 (TVs.vals [TV.agg [TV.int IntKind.i64 (0 : Int), TV.int IntKind.i64 (5 : Int), TV.int IntKind.i64 (1 : Int), TV.int IntKind.i64 (0 : Int), TV.str []]])
 h fun (v : Value) (h : Heap) ↦
 ∃ (n : Int),
 ∃ (b : Bs (32 : Nat)),
 ∃ (n_1 : Int),
 ∃ (b_1 : Bs (32 : Nat)),
 ∃ (s : List UInt8),
 v = TV.val (TV.agg [TV.int IntKind.i64 n, TV.bytes (32 : Nat) b, TV.int IntKind.i64 n_1, TV.bytes (32 : Nat) b_1, TV.str s]) ∧
 CallsH Try.prog (13 : Nat)
 (TVs.vals [TV.ptr p, TV.agg [TV.int IntKind.i64 n, TV.bytes (32 : Nat) b, TV.int IntKind.i64 n_1, TV.bytes (32 : Nat) b_1, TV.str s]]) h
 fun (v : Value) (h : Heap) ↦
 ∃ (n : Int),
 ∃ (n_2 : Int),
 ∃ (b : Bs (32 : Nat)),
 ∃ (n_3 : Int),
 ∃ (b_2 : Bs (32 : Nat)),
 ∃ (s : List UInt8),
 v =
 TV.val
 (TV.tup
 [TV.int IntKind.i64 n,
 TV.agg
 [TV.int IntKind.i64 n_2, TV.bytes (32 : Nat) b, TV.int IntKind.i64 n_3, TV.bytes (32 : Nat) b_2, TV.str s]]) ∧
 Vc.Bind
 (newTV h
 (TV.agg
 [TV.int IntKind.i64 (0 : Int), TV.bytes (32 : Nat) (Bs.zero (32 : Nat)), TV.int IntKind.i64 (0 : Int),
 TV.bytes (32 : Nat) (Bs.zero (32 : Nat)), TV.str []])
 (32 : Nat))
 fun (h_1 : Array Obj) ↦
 wok h_1 (Array.size h) (0 : Nat) (Nat.succ (Nat.add (1 : Nat) (Nat.add (32 : Nat) (Nat.add (1 : Nat) (32 : Nat))))) ∧
 Vc.Bind
 (TV.put h_1 (Array.size h) (0 : Nat)
 (TV.agg [TV.int IntKind.i64 n_2, TV.bytes (32 : Nat) b, TV.int IntKind.i64 n_3, TV.bytes (32 : Nat) b_2, TV.str s]))
 fun (h : Array Obj) ↦
 CallsH Try.prog (14 : Nat)
 (TVs.vals
 [TV.agg
 [TV.int IntKind.i64 (0 : Int), TV.int IntKind.i64 (7 : Int), TV.int IntKind.i64 (2 : Int),
 TV.int IntKind.i64 (1 : Int), TV.str []]])
 h fun (v : Value) (h : Array Obj) ↦
 ∃ (n_4 : Int),
 ∃ (b : Bs (32 : Nat)),
 ∃ (n_5 : Int),
 ∃ (b_3 : Bs (32 : Nat)),
 ∃ (s : List UInt8),
 v =
 TV.val
 (TV.agg
 [TV.int IntKind.i64 n_4, TV.bytes (32 : Nat) b, TV.int IntKind.i64 n_5, TV.bytes (32 : Nat) b_3,
 TV.str s]) ∧
 CallsH Try.prog (13 : Nat)
 (TVs.vals
 [TV.ptr p,
 TV.agg
 [TV.int IntKind.i64 n_4, TV.bytes (32 : Nat) b, TV.int IntKind.i64 n_5, TV.bytes (32 : Nat) b_3,
 TV.str s]])
 h fun (v : Value) (h : Array Obj) ↦
 ∃ (n_6 : Int),
 ∃ (n_7 : Int),
 ∃ (b : Bs (32 : Nat)),
 ∃ (n_8 : Int),
 ∃ (b_4 : Bs (32 : Nat)),
 ∃ (s : List UInt8),
 v =
 TV.val
 (TV.tup
 [TV.int IntKind.i64 n_6,
 TV.agg
 [TV.int IntKind.i64 n_7, TV.bytes (32 : Nat) b, TV.int IntKind.i64 n_8,
 TV.bytes (32 : Nat) b_4, TV.str s]]) ∧
 Vc.Bind
 (newTV h
 (TV.agg
 [TV.int IntKind.i64 (0 : Int), TV.bytes (32 : Nat) (Bs.zero (32 : Nat)),
 TV.int IntKind.i64 (0 : Int), TV.bytes (32 : Nat) (Bs.zero (32 : Nat)),
 TV.str []])
 (32 : Nat))
 fun (h_2 : Array Obj) ↦
 wok h_2 (Array.size h) (0 : Nat)
 (Nat.succ
 (Nat.add (1 : Nat) (Nat.add (32 : Nat) (Nat.add (1 : Nat) (32 : Nat))))) ∧
 Vc.Bind
 (TV.put h_2 (Array.size h) (0 : Nat)
 (TV.agg
 [TV.int IntKind.i64 n_7, TV.bytes (32 : Nat) b, TV.int IntKind.i64 n_8,
 TV.bytes (32 : Nat) b_4, TV.str s]))
 fun (h : Array Obj) ↦
 CallsH Try.prog (14 : Nat)
 (TVs.vals
 [TV.agg
 [TV.int IntKind.i64 (0 : Int), TV.int IntKind.i64 (8 : Int),
 TV.int IntKind.i64 (3 : Int), TV.int IntKind.i64 (2 : Int), TV.str []]])
 h fun (v : Value) (h : Array Obj) ↦
 ∃ (n_9 : Int),
 ∃ (b : Bs (32 : Nat)),
 ∃ (n_10 : Int),
 ∃ (b_5 : Bs (32 : Nat)),
 ∃ (s : List UInt8),
 v =
 TV.val
 (TV.agg
 [TV.int IntKind.i64 n_9, TV.bytes (32 : Nat) b,
 TV.int IntKind.i64 n_10, TV.bytes (32 : Nat) b_5,
 TV.str s]) ∧
 CallsH Try.prog (13 : Nat)
 (TVs.vals
 [TV.ptr p,
 TV.agg
 [TV.int IntKind.i64 n_9, TV.bytes (32 : Nat) b,
 TV.int IntKind.i64 n_10, TV.bytes (32 : Nat) b_5,
 TV.str s]])
 h fun (v : Value) (h : Array Obj) ↦
 ∃ (n_11 : Int),
 ∃ (n_12 : Int),
 ∃ (b : Bs (32 : Nat)),
 ∃ (n_13 : Int),
 ∃ (b_6 : Bs (32 : Nat)),
 ∃ (s : List UInt8),
 v =
 TV.val
 (TV.tup
 [TV.int IntKind.i64 n_11,
 TV.agg
 [TV.int IntKind.i64 n_12,
 TV.bytes (32 : Nat) b,
 TV.int IntKind.i64 n_13,
 TV.bytes (32 : Nat) b_6, TV.str s]]) ∧
 Vc.Bind
 (newTV h
 (TV.agg
 [TV.int IntKind.i64 (0 : Int),
 TV.bytes (32 : Nat) (Bs.zero (32 : Nat)),
 TV.int IntKind.i64 (0 : Int),
 TV.bytes (32 : Nat) (Bs.zero (32 : Nat)),
 TV.str []])
 (32 : Nat))
 fun (h_3 : Array Obj) ↦
 wok h_3 (Array.size h) (0 : Nat)
 (Nat.succ
 (Nat.add (1 : Nat)
 (Nat.add (32 : Nat)
 (Nat.add (1 : Nat) (32 : Nat))))) ∧
 Vc.Bind
 (TV.put h_3 (Array.size h) (0 : Nat)
 (TV.agg
 [TV.int IntKind.i64 n_12,
 TV.bytes (32 : Nat) b,
 TV.int IntKind.i64 n_13,
 TV.bytes (32 : Nat) b_6, TV.str s]))
 fun (h : Array Obj) ↦
 CallsH Try.prog (14 : Nat)
 (TVs.vals
 [TV.agg
 [TV.int IntKind.i64 (0 : Int),
 TV.int IntKind.i64 (6 : Int),
 TV.int IntKind.i64 (4 : Int),
 TV.int IntKind.i64 (2 : Int),
 TV.str []]])
 h fun (v : Value) (h : Array Obj) ↦
 ∃ (n_14 : Int),
 ∃ (b : Bs (32 : Nat)),
 ∃ (n_15 : Int),
 ∃ (b_7 : Bs (32 : Nat)),
 ∃ (s : List UInt8),
 v =
 TV.val
 (TV.agg
 [TV.int IntKind.i64 n_14,
 TV.bytes (32 : Nat) b,
 TV.int IntKind.i64 n_15,
 TV.bytes (32 : Nat) b_7,
 TV.str s]) ∧
 CallsH Try.prog (13 : Nat)
 (TVs.vals
 [TV.ptr p,
 TV.agg
 [TV.int IntKind.i64
 n_14,
 TV.bytes (32 : Nat) b,
 TV.int IntKind.i64
 n_15,
 TV.bytes (32 : Nat)
 b_7,
 TV.str s]])
 h
 fun (v : Value)
 (h : Array Obj) ↦
 ∃ (n_16 : Int),
 ∃ (n_17 : Int),
 ∃ (b : Bs (32 : Nat)),
 ∃ (n_18 : Int),
 ∃ (b_8 :
 Bs (32 : Nat)),
 ∃ (s : List UInt8),
 v =
 TV.val
 (TV.tup
 [TV.int
 IntKind.i64
 n_16,
 TV.agg
 [TV.int
 IntKind.i64
 n_17,
 TV.bytes
 (32 :
 Nat)
 b,
 TV.int
 IntKind.i64
 n_18,
 TV.bytes
 (32 :
 Nat)
 b_8,
 TV.str
 s]]) ∧
 Vc.Bind
 (newTV h
 (TV.agg
 [TV.int
 IntKind.i64
 (0 :
 Int),
 TV.bytes
 (32 :
 Nat)
 (Bs.zero
 (32 :
 Nat)),
 TV.int
 IntKind.i64
 (0 :
 Int),
 TV.bytes
 (32 :
 Nat)
 (Bs.zero
 (32 :
 Nat)),
 TV.str
 []])
 (32 : Nat))
 fun
 (h_4 :
 Array
 Obj) ↦
 wok h_4
 (Array.size
 h)
 (0 : Nat)
 (Nat.succ
 (Nat.add
 (1 :
 Nat)
 (Nat.add
 (32 :
 Nat)
 (Nat.add
 (1 :
 Nat)
 (32 :
 Nat))))) ∧
 Vc.Bind
 (TV.put
 h_4
 (Array.size
 h)
 (0 :
 Nat)
 (TV.agg
 [TV.int
 IntKind.i64
 n_17,
 TV.bytes
 (32 :
 Nat)
 b,
 TV.int
 IntKind.i64
 n_18,
 TV.bytes
 (32 :
 Nat)
 b_8,
 TV.str
 s]))
 fun
 (h_5 :
 Array
 Obj) ↦
 If
 (decide
 (n =
 (1 :
 Int)))
 (If
 (decide
 (n_6 =
 (1 :
 Int)))
 (If
 (decide
 (n_11 =
 (12 :
 Int)))
 (If
 (decide
 (n_16 =
 (2 :
 Int)))
 (∃
 (n
 :
 Int),
 at1
 h_5
 (Array.size
 h)
 (0 :
 Nat)
 (Value.int
 IntKind.i64
 n) ∧
 If
 (decide
 (n =
 (7 :
 Int)))
 (CallsH
 Try.prog
 (21 :
 Nat)
 (TVs.vals
 [TV.ptr
 p])
 h_5
 fun
 (v :
 Value)
 (h :
 Array
 Obj) ↦
 ∃
 (n
 :
 Int),
 v =
 TV.val
 (TV.int
 IntKind.i64
 n) ∧
 R
 (TV.val
 (TV.bool
 (decide
 (n =
 (2 :
 Int)))))
 h)
 (R
 (TV.val
 (TV.bool
 false))
 h_5))
 (R
 (TV.val
 (TV.bool
 false))
 h_5))
 (R
 (TV.val
 (TV.bool
 false))
 h_5))
 (R
 (TV.val
 (TV.bool
 false))
 h_5))
 (R
 (TV.val
 (TV.bool
 false))
 h_5)

theorem tollerlaw15_alive_calls (h : Heap) (R : Value → Heap → Prop) (H : tollerlaw15_alive_vc h R) : CallsH Try.prog 10 (TVs.vals []) h R :=
 vcFn_sound (C := ctx) ctx_ok (fn := Try.f10) Try.func10 ((by kernel_rfl : tollerlaw15_alive_vc h R = vcFn ctx Try.f10 [] h R) ▸ H)


def tollerlaw15_great_vc (script : Sl) (h : Heap) (R : Value → Heap → Prop) : Prop :=
 If (decide ((150 : Int) < (↑script.len : Int))) (R (TV.val (TV.bool true)) h)
 (Go.Vc.Loop (false, (0 : Int)) h fun (s : Bool × Int) (h : Array Obj) (K : Bool × Int → Array Obj → Prop) ↦
 If (decide (s.snd < (↑script.len : Int)))
 ((0 : Int) ≤ s.snd ∧
 s.snd < (↑script.len : Int) ∧
 Nn script.a fun (l : Go.Vc.Loc) ↦
 ∃ (n : Int),
 ∃ (n_1 : Int),
 ∃ (n_2 : Int),
 ∃ (n_3 : Int),
 ∃ (s_1 : List UInt8),
 (at1 h l.b (l.o + Int.toNat s.snd * (5 : Nat)) (Value.int IntKind.i64 n) ∧
 at1 h l.b (l.o + Int.toNat s.snd * (5 : Nat) + (1 : Nat)) (Value.int IntKind.i64 n_1) ∧
 at1 h l.b (l.o + Int.toNat s.snd * (5 : Nat) + (1 : Nat) + (1 : Nat)) (Value.int IntKind.i64 n_2) ∧
 at1 h l.b (l.o + Int.toNat s.snd * (5 : Nat) + (1 : Nat) + (1 : Nat) + (1 : Nat)) (Value.int IntKind.i64 n_3) ∧
 at1 h l.b (l.o + Int.toNat s.snd * (5 : Nat) + (1 : Nat) + (1 : Nat) + (1 : Nat) + (1 : Nat))
 (Value.string (ByteArray.mk (List.toArray s_1)))) ∧
 Vc.Bind
 (newTV h
 (TV.agg
 [TV.int IntKind.i64 (0 : Int), TV.int IntKind.i64 (0 : Int), TV.int IntKind.i64 (0 : Int), TV.int IntKind.i64 (0 : Int),
 TV.str []])
 (36 : Nat))
 fun (h_1 : Array Obj) ↦
 wok h_1 (Array.size h) (0 : Nat) (Nat.succ (Nat.add (1 : Nat) (Nat.add (1 : Nat) (Nat.add (1 : Nat) (1 : Nat))))) ∧
 Vc.Bind
 (TV.put h_1 (Array.size h) (0 : Nat)
 (TV.agg [TV.int IntKind.i64 n, TV.int IntKind.i64 n_1, TV.int IntKind.i64 n_2, TV.int IntKind.i64 n_3, TV.str s_1]))
 fun (h_2 : Array Obj) ↦
 ∃ (s_2 : List UInt8),
 at1 h_2 (Array.size h) (4 : Nat) (Value.string (ByteArray.mk (List.toArray s_2))) ∧
 If (decide ((100 : Int) < (↑(List.length s_2) : Int))) (R (TV.val (TV.bool true)) h_2)
 (K (s.fst, IntKind.wrap IntKind.i64 (s.snd + (1 : Int))) h_2))
 (R (TV.val (TV.bool false)) h))

theorem tollerlaw15_great_calls (script : Sl) (h : Heap) (R : Value → Heap → Prop) (H : tollerlaw15_great_vc script h R) : CallsH Try.prog 11 (TVs.vals [TV.slice script]) h R :=
 vcFn_sound (C := ctx) ctx_ok (fn := Try.f11) Try.func11 ((by kernel_rfl : tollerlaw15_great_vc script h R = vcFn ctx Try.f11 [TV.slice script] h R) ▸ H)


def tollerlaw15_plain_vc (l_ : Sl) (h : Heap) (R : Value → Heap → Prop) : Prop :=
 Go.Vc.Loop (Sl.mk none (0 : Nat) (0 : Nat), (0 : Int)) h fun (s : Sl × Int) (h : Array Obj) (K : Sl × Int → Array Obj → Prop) ↦
 If (decide (s.snd < (↑l_.len : Int)))
 ((0 : Int) ≤ s.snd ∧
 s.snd < (↑l_.len : Int) ∧
 Nn l_.a fun (l : Go.Vc.Loc) ↦
 ∃ (n : Int),
 ∃ (b : Bs (32 : Nat)),
 ∃ (n_1 : Int),
 ∃ (b_1 : Bs (32 : Nat)),
 ∃ (s_1 : List UInt8),
 (at1 h l.b (l.o + Int.toNat s.snd * (67 : Nat)) (Value.int IntKind.i64 n) ∧
 atBytes h l.b (l.o + Int.toNat s.snd * (67 : Nat) + (1 : Nat)) (32 : Nat) b ∧
 at1 h l.b (l.o + Int.toNat s.snd * (67 : Nat) + (1 : Nat) + (32 : Nat)) (Value.int IntKind.i64 n_1) ∧
 atBytes h l.b (l.o + Int.toNat s.snd * (67 : Nat) + (1 : Nat) + (32 : Nat) + (1 : Nat)) (32 : Nat) b_1 ∧
 at1 h l.b (l.o + Int.toNat s.snd * (67 : Nat) + (1 : Nat) + (32 : Nat) + (1 : Nat) + (32 : Nat))
 (Value.string (ByteArray.mk (List.toArray s_1)))) ∧
 Vc.Bind
 (newTV h
 (TV.agg
 [TV.int IntKind.i64 (0 : Int), TV.bytes (32 : Nat) (Bs.zero (32 : Nat)), TV.int IntKind.i64 (0 : Int),
 TV.bytes (32 : Nat) (Bs.zero (32 : Nat)), TV.str []])
 (32 : Nat))
 fun (h_1 : Array Obj) ↦
 wok h_1 (Array.size h) (0 : Nat) (Nat.succ (Nat.add (1 : Nat) (Nat.add (32 : Nat) (Nat.add (1 : Nat) (32 : Nat))))) ∧
 Vc.Bind
 (TV.put h_1 (Array.size h) (0 : Nat)
 (TV.agg [TV.int IntKind.i64 n, TV.bytes (32 : Nat) b, TV.int IntKind.i64 n_1, TV.bytes (32 : Nat) b_1, TV.str s_1]))
 fun (h_2 : Array Obj) ↦
 ∃ (n : Int),
 at1 h_2 (Array.size h) (0 : Nat) (Value.int IntKind.i64 n) ∧
 ∃ (b : Bs (32 : Nat)),
 atBytes h_2 (Array.size h) (1 : Nat) (32 : Nat) b ∧
 ∃ (n_2 : Int),
 at1 h_2 (Array.size h) (33 : Nat) (Value.int IntKind.i64 n_2) ∧
 ∃ (b_2 : Bs (32 : Nat)),
 atBytes h_2 (Array.size h) (34 : Nat) (32 : Nat) b_2 ∧
 ∃ (s_2 : List UInt8),
 at1 h_2 (Array.size h) (66 : Nat) (Value.string (ByteArray.mk (List.toArray s_2))) ∧
 ∃ (new : List Value),
 slAt
 (Array.push h_2
 (row
 (TVs.cells
 [TV.agg
 [TV.int IntKind.i64 n, TV.bytes (32 : Nat) b, TV.int IntKind.i64 n_2, TV.bytes (32 : Nat) b_2,
 TV.str s_2]])
 (68 : Nat)))
 (Sl.mk (some (Loc.mk (Array.size h_2) (0 : Nat))) (1 : Nat) (1 : Nat)) (67 : Nat) new ∧
 (∀ (v : Value), v ∈ new → isOne v = true) ∧
 vcAppend Ytjadpjbiiidioaa.ctx (68 : Nat) s.fst (1 : Nat) new
 (Array.push h_2
 (row
 (TVs.cells
 [TV.agg
 [TV.int IntKind.i64 n, TV.bytes (32 : Nat) b, TV.int IntKind.i64 n_2, TV.bytes (32 : Nat) b_2,
 TV.str s_2]])
 (68 : Nat)))
 fun (s_3 : Sl) (h : Array Obj) ↦ K (s_3, IntKind.wrap IntKind.i64 (s.snd + (1 : Int))) h)
 (R (TV.val (TV.slice s.fst)) h)

theorem tollerlaw15_plain_calls (l_ : Sl) (h : Heap) (R : Value → Heap → Prop) (H : tollerlaw15_plain_vc l_ h R) : CallsH Try.prog 16 (TVs.vals [TV.slice l_]) h R :=
 vcFn_sound (C := ctx) ctx_ok (fn := Try.f16) Try.func16 ((by kernel_rfl : tollerlaw15_plain_vc l_ h R = vcFn ctx Try.f16 [TV.slice l_] h R) ▸ H)


def tollerref15_Same_vc (a : Sl) (b : Sl) (h : Heap) (R : Value → Heap → Prop) : Prop :=
 If (!decide ((↑a.len : Int) = (↑b.len : Int))) (R (TV.val (TV.bool false)) h)
 (Go.Vc.Loop (false, (0 : Int)) h fun (s : Bool × Int) (h : Array Obj) (K : Bool × Int → Array Obj → Prop) ↦
 If (decide (s.snd < (↑a.len : Int)))
 ((0 : Int) ≤ s.snd ∧
 s.snd < (↑a.len : Int) ∧
 Nn a.a fun (l : Go.Vc.Loc) ↦
 ∃ (n : Int),
 ∃ (b_1 : Bs (32 : Nat)),
 ∃ (n_1 : Int),
 ∃ (b_2 : Bs (32 : Nat)),
 ∃ (s_1 : List UInt8),
 (at1 h l.b (l.o + Int.toNat s.snd * (67 : Nat)) (Value.int IntKind.i64 n) ∧
 atBytes h l.b (l.o + Int.toNat s.snd * (67 : Nat) + (1 : Nat)) (32 : Nat) b_1 ∧
 at1 h l.b (l.o + Int.toNat s.snd * (67 : Nat) + (1 : Nat) + (32 : Nat)) (Value.int IntKind.i64 n_1) ∧
 atBytes h l.b (l.o + Int.toNat s.snd * (67 : Nat) + (1 : Nat) + (32 : Nat) + (1 : Nat)) (32 : Nat) b_2 ∧
 at1 h l.b (l.o + Int.toNat s.snd * (67 : Nat) + (1 : Nat) + (32 : Nat) + (1 : Nat) + (32 : Nat))
 (Value.string (ByteArray.mk (List.toArray s_1)))) ∧
 (0 : Int) ≤ s.snd ∧
 s.snd < (↑b.len : Int) ∧
 Nn b.a fun (l : Go.Vc.Loc) ↦
 ∃ (n_2 : Int),
 ∃ (b : Bs (32 : Nat)),
 ∃ (n_3 : Int),
 ∃ (b_3 : Bs (32 : Nat)),
 ∃ (s_2 : List UInt8),
 (at1 h l.b (l.o + Int.toNat s.snd * (67 : Nat)) (Value.int IntKind.i64 n_2) ∧
 atBytes h l.b (l.o + Int.toNat s.snd * (67 : Nat) + (1 : Nat)) (32 : Nat) b ∧
 at1 h l.b (l.o + Int.toNat s.snd * (67 : Nat) + (1 : Nat) + (32 : Nat)) (Value.int IntKind.i64 n_3) ∧
 atBytes h l.b (l.o + Int.toNat s.snd * (67 : Nat) + (1 : Nat) + (32 : Nat) + (1 : Nat)) (32 : Nat) b_3 ∧
 at1 h l.b (l.o + Int.toNat s.snd * (67 : Nat) + (1 : Nat) + (32 : Nat) + (1 : Nat) + (32 : Nat))
 (Value.string (ByteArray.mk (List.toArray s_2)))) ∧
 If
 (!(decide (n = n_2) &&
 (decide (b_1.1 = b.1) && (decide (n_1 = n_3) && (decide (b_2.1 = b_3.1) && (decide (s_1 = s_2) && true))))))
 (R (TV.val (TV.bool false)) h) (K (s.fst, IntKind.wrap IntKind.i64 (s.snd + (1 : Int))) h))
 (R (TV.val (TV.bool true)) h))

theorem tollerref15_Same_calls (a : Sl) (b : Sl) (h : Heap) (R : Value → Heap → Prop) (H : tollerref15_Same_vc a b h R) : CallsH Try.prog 15 (TVs.vals [TV.slice a, TV.slice b]) h R :=
 vcFn_sound (C := ctx) ctx_ok (fn := Try.f15) Try.func15 ((by kernel_rfl : tollerref15_Same_vc a b h R = vcFn ctx Try.f15 [TV.slice a, TV.slice b] h R) ▸ H)


def tollerlaw15_PoolDoes_1_vc (p_Slot : Int) (p_Root : Bs (32 : Nat)) (p_Peer : Int) (p_For : Bs (32 : Nat)) (p_Text : List UInt8) (h : Heap) (R : Value → Heap → Prop) : Prop :=
 Vc.Bind
 (newTV h (TV.agg [TV.int IntKind.i64 p_Slot, TV.bytes (32 : Nat) p_Root, TV.int IntKind.i64 p_Peer, TV.bytes (32 : Nat) p_For, TV.str p_Text]) (32 : Nat))
 fun (h : Array Obj) ↦ R (TV.val (TV.bool true)) h

theorem tollerlaw15_PoolDoes_1_calls (p_Slot : Int) (p_Root : Bs (32 : Nat)) (p_Peer : Int) (p_For : Bs (32 : Nat)) (p_Text : List UInt8) (h : Heap) (R : Value → Heap → Prop) (H : tollerlaw15_PoolDoes_1_vc p_Slot p_Root p_Peer p_For p_Text h R) : CallsH Try.prog 23 (TVs.vals [TV.agg [TV.int IntKind.i64 p_Slot, TV.bytes (32 : Nat) p_Root, TV.int IntKind.i64 p_Peer, TV.bytes (32 : Nat) p_For, TV.str p_Text]]) h R :=
 vcFn_sound (C := ctx) ctx_ok (fn := Try.f23) Try.func23 ((by kernel_rfl : tollerlaw15_PoolDoes_1_vc p_Slot p_Root p_Peer p_For p_Text h R = vcFn ctx Try.f23 [TV.agg [TV.int IntKind.i64 p_Slot, TV.bytes (32 : Nat) p_Root, TV.int IntKind.i64 p_Peer, TV.bytes (32 : Nat) p_For, TV.str p_Text]] h R) ▸ H)


def tollerlaw15_PoolBounds_1_vc (i_Slot : Int) (i_Root : Bs (32 : Nat)) (i_Peer : Int) (i_For : Bs (32 : Nat)) (i_Text : List UInt8) (p : Option Go.Vc.Loc) (h : Heap) (R : Value → Heap → Prop) : Prop :=
 Vc.Bind
 (newTV h (TV.agg [TV.int IntKind.i64 i_Slot, TV.bytes (32 : Nat) i_Root, TV.int IntKind.i64 i_Peer, TV.bytes (32 : Nat) i_For, TV.str i_Text]) (32 : Nat))
 fun (h_1 : Array Obj) ↦
 ∃ (n : Int),
 at1 h_1 (Array.size h) (0 : Nat) (Value.int IntKind.i64 n) ∧
 Nn p fun (l : Go.Vc.Loc) ↦ ∃ (n_1 : Int), at1 h_1 l.b (l.o + (1 : Nat)) (Value.int IntKind.i64 n_1) ∧ R (TV.val (TV.bool (decide (n < n_1)))) h_1

theorem tollerlaw15_PoolBounds_1_calls (i_Slot : Int) (i_Root : Bs (32 : Nat)) (i_Peer : Int) (i_For : Bs (32 : Nat)) (i_Text : List UInt8) (p : Option Go.Vc.Loc) (h : Heap) (R : Value → Heap → Prop) (H : tollerlaw15_PoolBounds_1_vc i_Slot i_Root i_Peer i_For i_Text p h R) : CallsH Try.prog 29 (TVs.vals [TV.agg [TV.int IntKind.i64 i_Slot, TV.bytes (32 : Nat) i_Root, TV.int IntKind.i64 i_Peer, TV.bytes (32 : Nat) i_For, TV.str i_Text], TV.ptr p]) h R :=
 vcFn_sound (C := ctx) ctx_ok (fn := Try.f29) Try.func29 ((by kernel_rfl : tollerlaw15_PoolBounds_1_vc i_Slot i_Root i_Peer i_For i_Text p h R = vcFn ctx Try.f29 [TV.agg [TV.int IntKind.i64 i_Slot, TV.bytes (32 : Nat) i_Root, TV.int IntKind.i64 i_Peer, TV.bytes (32 : Nat) i_For, TV.str i_Text], TV.ptr p] h R) ▸ H)


def tollerlaw15_PoolTakes_1_vc (i_Slot : Int) (i_Root : Bs (32 : Nat)) (i_Peer : Int) (i_For : Bs (32 : Nat)) (i_Text : List UInt8) (p : Option Go.Vc.Loc) (h : Heap) (R : Value → Heap → Prop) : Prop :=
 Vc.Bind
 (newTV h (TV.agg [TV.int IntKind.i64 i_Slot, TV.bytes (32 : Nat) i_Root, TV.int IntKind.i64 i_Peer, TV.bytes (32 : Nat) i_For, TV.str i_Text]) (32 : Nat))
 fun (h_1 : Array Obj) ↦
 ∃ (n : Int),
 at1 h_1 (Array.size h) (0 : Nat) (Value.int IntKind.i64 n) ∧
 Nn p fun (l : Go.Vc.Loc) ↦ ∃ (n_1 : Int), at1 h_1 l.b l.o (Value.int IntKind.i64 n_1) ∧ R (TV.val (TV.bool (decide (n ≤ n_1)))) h_1

theorem tollerlaw15_PoolTakes_1_calls (i_Slot : Int) (i_Root : Bs (32 : Nat)) (i_Peer : Int) (i_For : Bs (32 : Nat)) (i_Text : List UInt8) (p : Option Go.Vc.Loc) (h : Heap) (R : Value → Heap → Prop) (H : tollerlaw15_PoolTakes_1_vc i_Slot i_Root i_Peer i_For i_Text p h R) : CallsH Try.prog 30 (TVs.vals [TV.agg [TV.int IntKind.i64 i_Slot, TV.bytes (32 : Nat) i_Root, TV.int IntKind.i64 i_Peer, TV.bytes (32 : Nat) i_For, TV.str i_Text], TV.ptr p]) h R :=
 vcFn_sound (C := ctx) ctx_ok (fn := Try.f30) Try.func30 ((by kernel_rfl : tollerlaw15_PoolTakes_1_vc i_Slot i_Root i_Peer i_For i_Text p h R = vcFn ctx Try.f30 [TV.agg [TV.int IntKind.i64 i_Slot, TV.bytes (32 : Nat) i_Root, TV.int IntKind.i64 i_Peer, TV.bytes (32 : Nat) i_For, TV.str i_Text], TV.ptr p] h R) ▸ H)


def tollerlaw15_PoolTakes_2_vc (i_Slot : Int) (i_Root : Bs (32 : Nat)) (i_Peer : Int) (i_For : Bs (32 : Nat)) (i_Text : List UInt8) (p : Option Go.Vc.Loc) (h : Heap) (R : Value → Heap → Prop) : Prop :=
 Vc.Bind
 (newTV h (TV.agg [TV.int IntKind.i64 i_Slot, TV.bytes (32 : Nat) i_Root, TV.int IntKind.i64 i_Peer, TV.bytes (32 : Nat) i_For, TV.str i_Text]) (32 : Nat))
 fun (h_1 : Array Obj) ↦
 ∃ (n : Int),
 at1 h_1 (Array.size h) (0 : Nat) (Value.int IntKind.i64 n) ∧
 Nn p fun (l : Go.Vc.Loc) ↦ ∃ (n_1 : Int), at1 h_1 l.b l.o (Value.int IntKind.i64 n_1) ∧ R (TV.val (TV.bool (decide (n ≤ n_1)))) h_1

theorem tollerlaw15_PoolTakes_2_calls (i_Slot : Int) (i_Root : Bs (32 : Nat)) (i_Peer : Int) (i_For : Bs (32 : Nat)) (i_Text : List UInt8) (p : Option Go.Vc.Loc) (h : Heap) (R : Value → Heap → Prop) (H : tollerlaw15_PoolTakes_2_vc i_Slot i_Root i_Peer i_For i_Text p h R) : CallsH Try.prog 31 (TVs.vals [TV.agg [TV.int IntKind.i64 i_Slot, TV.bytes (32 : Nat) i_Root, TV.int IntKind.i64 i_Peer, TV.bytes (32 : Nat) i_For, TV.str i_Text], TV.ptr p]) h R :=
 vcFn_sound (C := ctx) ctx_ok (fn := Try.f31) Try.func31 ((by kernel_rfl : tollerlaw15_PoolTakes_2_vc i_Slot i_Root i_Peer i_For i_Text p h R = vcFn ctx Try.f31 [TV.agg [TV.int IntKind.i64 i_Slot, TV.bytes (32 : Nat) i_Root, TV.int IntKind.i64 i_Peer, TV.bytes (32 : Nat) i_For, TV.str i_Text], TV.ptr p] h R) ▸ H)


def tollerlaw15_do_1_vc (i_Slot : Int) (i_Root : Bs (32 : Nat)) (i_Peer : Int) (i_For : Bs (32 : Nat)) (i_Text : List UInt8) (p : Option Go.Vc.Loc) (h : Heap) (R : Value → Heap → Prop) : Prop :=
 Vc.Bind
 (newTV h (TV.agg [TV.int IntKind.i64 i_Slot, TV.bytes (32 : Nat) i_Root, TV.int IntKind.i64 i_Peer, TV.bytes (32 : Nat) i_For, TV.str i_Text]) (32 : Nat))
 fun (h_1 : Array Obj) ↦
 ∃ (n : Int),
 at1 h_1 (Array.size h) (0 : Nat) (Value.int IntKind.i64 n) ∧
 Nn p fun (l : Go.Vc.Loc) ↦ ∃ (n_1 : Int), at1 h_1 l.b (l.o + (1 : Nat)) (Value.int IntKind.i64 n_1) ∧ R (TV.val (TV.bool (decide (n < n_1)))) h_1

theorem tollerlaw15_do_1_calls (i_Slot : Int) (i_Root : Bs (32 : Nat)) (i_Peer : Int) (i_For : Bs (32 : Nat)) (i_Text : List UInt8) (p : Option Go.Vc.Loc) (h : Heap) (R : Value → Heap → Prop) (H : tollerlaw15_do_1_vc i_Slot i_Root i_Peer i_For i_Text p h R) : CallsH Try.prog 43 (TVs.vals [TV.agg [TV.int IntKind.i64 i_Slot, TV.bytes (32 : Nat) i_Root, TV.int IntKind.i64 i_Peer, TV.bytes (32 : Nat) i_For, TV.str i_Text], TV.ptr p]) h R :=
 vcFn_sound (C := ctx) ctx_ok (fn := Try.f43) Try.func43 ((by kernel_rfl : tollerlaw15_do_1_vc i_Slot i_Root i_Peer i_For i_Text p h R = vcFn ctx Try.f43 [TV.agg [TV.int IntKind.i64 i_Slot, TV.bytes (32 : Nat) i_Root, TV.int IntKind.i64 i_Peer, TV.bytes (32 : Nat) i_For, TV.str i_Text], TV.ptr p] h R) ▸ H)


end Go.Proofs.Ytjadpjbiiidioaa

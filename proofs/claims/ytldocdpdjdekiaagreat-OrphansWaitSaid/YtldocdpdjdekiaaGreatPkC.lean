/- Texts that the proof needs, joined: VsRef, RefB, RefC, RefD, ShaG, VsLeR, LeB, BitA, VsBit, BitB, VsWireP, WireP, VsWireQ, WireQ, VsWireR, WireR, PoolA, VsPool, PoolB. -/
import Derived.Test.YtldocdpdjdekiaaGreatPkB

section
/- The conditions of functions, as the generator reckons them out, each with the proof that it is that. -/
namespace Go.Proofs.YtldocdpdjdekiaaGreat
open Go Go.Vc
set_option maxRecDepth 100000
set_option linter.unusedVariables false

def tollerref03_right_vc (x : Int) (n : Int) (h : Heap) (R : Value → Heap → Prop) : Prop :=
 (0 : Int) ≤ IntKind.wrap IntKind.u64 n ∧
 (0 : Int) ≤ IntKind.wrap IntKind.u64 (IntKind.wrap IntKind.i64 ((32 : Int) - n)) ∧
 R
 (TV.val
 (TV.int IntKind.u32
 (IntKind.wrap IntKind.u32
 (↑(BitVec.toNat
 (BitVec.ofInt (IntKind.bits IntKind.u32)
 (Int.fdiv x ((2 : Int) ^ min (Int.toNat (IntKind.wrap IntKind.u64 n)) (IntKind.bits IntKind.u32))) |||
 BitVec.ofInt (IntKind.bits IntKind.u32)
 (IntKind.wrap IntKind.u32
 (x * (2 : Int) ^ min (Int.toNat (IntKind.wrap IntKind.u64 (IntKind.wrap IntKind.i64 ((32 : Int) - n)))) (IntKind.bits IntKind.u32))))) :
 Int))))
 h

theorem tollerref03_right_calls (x : Int) (n : Int) (h : Heap) (R : Value → Heap → Prop) (H : tollerref03_right_vc x n h R) : CallsH Tryz.prog 107 (TVs.vals [TV.int IntKind.u32 x, TV.int IntKind.i64 n]) h R :=
 vcFn_sound (C := ctx) ctx_ok (fn := Tryz.f107) Tryz.func107 ((by kernel_rfl : tollerref03_right_vc x n h R = vcFn ctx Tryz.f107 [TV.int IntKind.u32 x, TV.int IntKind.i64 n] h R) ▸ H)


def tollerref03_block_vc (h_ : Ws (8 : Nat)) (keys : Ws (64 : Nat)) (s_ : List UInt8) (h : Heap) (R : Value → Heap → Prop) : Prop :=
 Vc.Bind (newTV h (TV.words IntKind.u32 (8 : Nat) h_) (129 : Nat)) fun (h_1 : Array Obj) ↦
 Vc.Bind (newTV h_1 (TV.words IntKind.u32 (64 : Nat) keys) (133 : Nat)) fun (h_2 : Array Obj) ↦
 Vc.Bind (newTV h_2 (TV.words IntKind.u32 (8 : Nat) (Ws.zero (8 : Nat))) (129 : Nat)) fun (h_3 : Array Obj) ↦
 Vc.Bind (newTV h_3 (TV.words IntKind.u32 (64 : Nat) (Ws.zero (64 : Nat))) (133 : Nat)) fun (h_4 : Array Obj) ↦
 Go.Vc.Loop (0 : Int) h_4 fun (s : Int) (h_5 : Array Obj) (K : Int → Array Obj → Prop) ↦
 If (decide (s < (64 : Int)))
 (If (decide (s < (16 : Int)))
 (Go.Vc.Loop (0 : Int) h_5 fun (s_1 : Int) (h : Array Obj) (K_1 : Int → Array Obj → Prop) ↦
 If (decide (s_1 < (4 : Int)))
 ((0 : Int) ≤ s ∧
 s < (↑(64 : Nat) : Int) ∧
 ∃ (n : Int),
 at1 h (Array.size h_3) ((0 : Nat) + Int.toNat s * (1 : Nat)) (Value.int IntKind.u32 n) ∧
 (0 : Int) ≤ IntKind.wrap IntKind.i64 (IntKind.wrap IntKind.i64 ((4 : Int) * s) + s_1) ∧
 IntKind.wrap IntKind.i64 (IntKind.wrap IntKind.i64 ((4 : Int) * s) + s_1) < (↑(List.length s_) : Int) ∧
 (0 : Int) ≤ s ∧
 s < (↑(64 : Nat) : Int) ∧
 wok h (Array.size h_3) ((0 : Nat) + Int.toNat s * (1 : Nat)) (1 : Nat) ∧
 Vc.Bind
 (TV.put h (Array.size h_3) ((0 : Nat) + Int.toNat s * (1 : Nat))
 (TV.int IntKind.u32
 (IntKind.wrap IntKind.u32
 (IntKind.wrap IntKind.u32 (n * (256 : Int)) +
 IntKind.wrap IntKind.u32
 (↑(UInt8.toNat
 (List.getD s_ (Int.toNat (IntKind.wrap IntKind.i64 (IntKind.wrap IntKind.i64 ((4 : Int) * s) + s_1)))
 (0 : UInt8))) :
 Int)))))
 fun (h : Array Obj) ↦ K_1 (IntKind.wrap IntKind.i64 (s_1 + (1 : Int))) h)
 (K (IntKind.wrap IntKind.i64 (s + (1 : Int))) h))
 ((0 : Int) ≤ IntKind.wrap IntKind.i64 (s - (15 : Int)) ∧
 IntKind.wrap IntKind.i64 (s - (15 : Int)) < (↑(64 : Nat) : Int) ∧
 ∃ (n : Int),
 at1 h_5 (Array.size h_3) ((0 : Nat) + Int.toNat (IntKind.wrap IntKind.i64 (s - (15 : Int))) * (1 : Nat)) (Value.int IntKind.u32 n) ∧
 (0 : Int) ≤ IntKind.wrap IntKind.i64 (s - (2 : Int)) ∧
 IntKind.wrap IntKind.i64 (s - (2 : Int)) < (↑(64 : Nat) : Int) ∧
 ∃ (n_1 : Int),
 at1 h_5 (Array.size h_3) ((0 : Nat) + Int.toNat (IntKind.wrap IntKind.i64 (s - (2 : Int))) * (1 : Nat))
 (Value.int IntKind.u32 n_1) ∧
 (0 : Int) ≤ IntKind.wrap IntKind.i64 (s - (16 : Int)) ∧
 IntKind.wrap IntKind.i64 (s - (16 : Int)) < (↑(64 : Nat) : Int) ∧
 ∃ (n_2 : Int),
 at1 h_5 (Array.size h_3) ((0 : Nat) + Int.toNat (IntKind.wrap IntKind.i64 (s - (16 : Int))) * (1 : Nat))
 (Value.int IntKind.u32 n_2) ∧
 (0 : Int) ≤ IntKind.wrap IntKind.i64 (s - (7 : Int)) ∧
 IntKind.wrap IntKind.i64 (s - (7 : Int)) < (↑(64 : Nat) : Int) ∧
 ∃ (n_3 : Int),
 at1 h_5 (Array.size h_3) ((0 : Nat) + Int.toNat (IntKind.wrap IntKind.i64 (s - (7 : Int))) * (1 : Nat))
 (Value.int IntKind.u32 n_3) ∧
 (0 : Int) ≤ (3 : Int) ∧
 (0 : Int) ≤ (10 : Int) ∧
 CallsH Tryz.prog (107 : Nat) (TVs.vals [TV.int IntKind.u32 n, TV.int IntKind.i64 (7 : Int)]) h_5
 fun (v : Value) (h : Array Obj) ↦
 ∃ (n_4 : Int),
 v = TV.val (TV.int IntKind.u32 n_4) ∧
 Ext h_5 h ∧
 CallsH Tryz.prog (107 : Nat) (TVs.vals [TV.int IntKind.u32 n, TV.int IntKind.i64 (18 : Int)]) h
 fun (v : Value) (h_6 : Array Obj) ↦
 ∃ (n_5 : Int),
 v = TV.val (TV.int IntKind.u32 n_5) ∧
 Ext h h_6 ∧
 CallsH Tryz.prog (107 : Nat)
 (TVs.vals [TV.int IntKind.u32 n_1, TV.int IntKind.i64 (17 : Int)]) h_6
 fun (v : Value) (h : Array Obj) ↦
 ∃ (n_6 : Int),
 v = TV.val (TV.int IntKind.u32 n_6) ∧
 Ext h_6 h ∧
 CallsH Tryz.prog (107 : Nat)
 (TVs.vals [TV.int IntKind.u32 n_1, TV.int IntKind.i64 (19 : Int)]) h
 fun (v : Value) (h_7 : Array Obj) ↦
 ∃ (n_7 : Int),
 v = TV.val (TV.int IntKind.u32 n_7) ∧
 Ext h h_7 ∧
 (0 : Int) ≤ s ∧
 s < (↑(64 : Nat) : Int) ∧
 wok h_7 (Array.size h_3) ((0 : Nat) + Int.toNat s * (1 : Nat)) (1 : Nat) ∧
 Vc.Bind
 (TV.put h_7 (Array.size h_3) ((0 : Nat) + Int.toNat s * (1 : Nat))
 (TV.int IntKind.u32
 (IntKind.wrap IntKind.u32
 (IntKind.wrap IntKind.u32
 (IntKind.wrap IntKind.u32 (n_2 + n_3) +
 IntKind.wrap IntKind.u32
 (↑(BitVec.toNat
 (BitVec.ofInt (IntKind.bits IntKind.u32)
 (IntKind.wrap IntKind.u32
 (↑(BitVec.toNat
 (BitVec.ofInt
 (IntKind.bits IntKind.u32) n_4 ^^^
 BitVec.ofInt
 (IntKind.bits IntKind.u32) n_5)) :
 Int)) ^^^
 BitVec.ofInt (IntKind.bits IntKind.u32)
 (Int.fdiv n
 ((2 : Int) ^
 min (Int.toNat (3 : Int))
 (IntKind.bits IntKind.u32))))) :
 Int)) +
 IntKind.wrap IntKind.u32
 (↑(BitVec.toNat
 (BitVec.ofInt (IntKind.bits IntKind.u32)
 (IntKind.wrap IntKind.u32
 (↑(BitVec.toNat
 (BitVec.ofInt (IntKind.bits IntKind.u32)
 n_6 ^^^
 BitVec.ofInt (IntKind.bits IntKind.u32)
 n_7)) :
 Int)) ^^^
 BitVec.ofInt (IntKind.bits IntKind.u32)
 (Int.fdiv n_1
 ((2 : Int) ^
 min (Int.toNat (10 : Int))
 (IntKind.bits IntKind.u32))))) :
 Int)))))
 fun (h : Array Obj) ↦ K (IntKind.wrap IntKind.i64 (s + (1 : Int))) h))
 ((0 : Int) ≤ (0 : Int) ∧
 (0 : Int) < (↑(8 : Nat) : Int) ∧
 ∃ (n : Int),
 at1 h_5 (Array.size h) ((0 : Nat) + Int.toNat (0 : Int) * (1 : Nat)) (Value.int IntKind.u32 n) ∧
 (0 : Int) ≤ (1 : Int) ∧
 (1 : Int) < (↑(8 : Nat) : Int) ∧
 ∃ (n_1 : Int),
 at1 h_5 (Array.size h) ((0 : Nat) + Int.toNat (1 : Int) * (1 : Nat)) (Value.int IntKind.u32 n_1) ∧
 (0 : Int) ≤ (2 : Int) ∧
 (2 : Int) < (↑(8 : Nat) : Int) ∧
 ∃ (n_2 : Int),
 at1 h_5 (Array.size h) ((0 : Nat) + Int.toNat (2 : Int) * (1 : Nat)) (Value.int IntKind.u32 n_2) ∧
 (0 : Int) ≤ (3 : Int) ∧
 (3 : Int) < (↑(8 : Nat) : Int) ∧
 ∃ (n_3 : Int),
 at1 h_5 (Array.size h) ((0 : Nat) + Int.toNat (3 : Int) * (1 : Nat)) (Value.int IntKind.u32 n_3) ∧
 (0 : Int) ≤ (4 : Int) ∧
 (4 : Int) < (↑(8 : Nat) : Int) ∧
 ∃ (n_4 : Int),
 at1 h_5 (Array.size h) ((0 : Nat) + Int.toNat (4 : Int) * (1 : Nat)) (Value.int IntKind.u32 n_4) ∧
 (0 : Int) ≤ (5 : Int) ∧
 (5 : Int) < (↑(8 : Nat) : Int) ∧
 ∃ (n_5 : Int),
 at1 h_5 (Array.size h) ((0 : Nat) + Int.toNat (5 : Int) * (1 : Nat)) (Value.int IntKind.u32 n_5) ∧
 (0 : Int) ≤ (6 : Int) ∧
 (6 : Int) < (↑(8 : Nat) : Int) ∧
 ∃ (n_6 : Int),
 at1 h_5 (Array.size h) ((0 : Nat) + Int.toNat (6 : Int) * (1 : Nat))
 (Value.int IntKind.u32 n_6) ∧
 (0 : Int) ≤ (7 : Int) ∧
 (7 : Int) < (↑(8 : Nat) : Int) ∧
 ∃ (n_7 : Int),
 at1 h_5 (Array.size h) ((0 : Nat) + Int.toNat (7 : Int) * (1 : Nat))
 (Value.int IntKind.u32 n_7) ∧
 Go.Vc.Loop (n, n_1, n_2, n_3, n_4, n_5, n_6, n_7, (0 : Int)) h_5
 fun (s_1 : Int × Int × Int × Int × Int × Int × Int × Int × Int) (h_6 : Array Obj)
 (K : Int × Int × Int × Int × Int × Int × Int × Int × Int → Array Obj → Prop) ↦
 If (decide (s_1.snd.snd.snd.snd.snd.snd.snd.snd < (64 : Int)))
 ((0 : Int) ≤ s_1.snd.snd.snd.snd.snd.snd.snd.snd ∧
 s_1.snd.snd.snd.snd.snd.snd.snd.snd < (↑(64 : Nat) : Int) ∧
 ∃ (n_8 : Int),
 at1 h_6 (Array.size h_1)
 ((0 : Nat) +
 Int.toNat s_1.snd.snd.snd.snd.snd.snd.snd.snd * (1 : Nat))
 (Value.int IntKind.u32 n_8) ∧
 (0 : Int) ≤ s_1.snd.snd.snd.snd.snd.snd.snd.snd ∧
 s_1.snd.snd.snd.snd.snd.snd.snd.snd < (↑(64 : Nat) : Int) ∧
 ∃ (n_9 : Int),
 at1 h_6 (Array.size h_3)
 ((0 : Nat) +
 Int.toNat s_1.snd.snd.snd.snd.snd.snd.snd.snd * (1 : Nat))
 (Value.int IntKind.u32 n_9) ∧
 CallsH Tryz.prog (107 : Nat)
 (TVs.vals
 [TV.int IntKind.u32 s_1.snd.snd.snd.snd.fst,
 TV.int IntKind.i64 (6 : Int)])
 h_6 fun (v : Value) (h_7 : Array Obj) ↦
 ∃ (n_10 : Int),
 v = TV.val (TV.int IntKind.u32 n_10) ∧
 Ext h_6 h_7 ∧
 CallsH Tryz.prog (107 : Nat)
 (TVs.vals
 [TV.int IntKind.u32 s_1.snd.snd.snd.snd.fst,
 TV.int IntKind.i64 (11 : Int)])
 h_7 fun (v : Value) (h_8 : Array Obj) ↦
 ∃ (n_11 : Int),
 v = TV.val (TV.int IntKind.u32 n_11) ∧
 Ext h_7 h_8 ∧
 CallsH Tryz.prog (107 : Nat)
 (TVs.vals
 [TV.int IntKind.u32 s_1.snd.snd.snd.snd.fst,
 TV.int IntKind.i64 (25 : Int)])
 h_8 fun (v : Value) (h_9 : Array Obj) ↦
 ∃ (n_12 : Int),
 v = TV.val (TV.int IntKind.u32 n_12) ∧
 Ext h_8 h_9 ∧
 CallsH Tryz.prog (107 : Nat)
 (TVs.vals
 [TV.int IntKind.u32 s_1.fst,
 TV.int IntKind.i64 (2 : Int)])
 h_9
 fun (v : Value) (h_10 : Array Obj) ↦
 ∃ (n_13 : Int),
 v =
 TV.val
 (TV.int IntKind.u32 n_13) ∧
 CallsH Tryz.prog (107 : Nat)
 (TVs.vals
 [TV.int IntKind.u32 s_1.fst,
 TV.int IntKind.i64
 (13 : Int)])
 h_10
 fun (v : Value)
 (h_11 : Array Obj) ↦
 ∃ (n_14 : Int),
 v =
 TV.val
 (TV.int IntKind.u32
 n_14) ∧
 CallsH Tryz.prog (107 : Nat)
 (TVs.vals
 [TV.int IntKind.u32
 s_1.fst,
 TV.int IntKind.i64
 (22 : Int)])
 h_11
 fun (v : Value)
 (h_12 : Array Obj) ↦
 ∃ (n_15 : Int),
 v =
 TV.val
 (TV.int
 IntKind.u32
 n_15) ∧
 K
 (IntKind.wrap
 IntKind.u32
 (IntKind.wrap
 IntKind.u32
 (IntKind.wrap
 IntKind.u32
 (IntKind.wrap
 IntKind.u32
 (IntKind.wrap
 IntKind.u32
 (s_1.snd.snd.snd.snd.snd.snd.snd.fst +
 IntKind.wrap
 IntKind.u32
 (↑(BitVec.toNat
 (BitVec.ofInt
 (IntKind.bits
 IntKind.u32)
 (IntKind.wrap
 IntKind.u32
 (↑(BitVec.toNat
 (BitVec.ofInt
 (IntKind.bits
 IntKind.u32)
 n_10 ^^^
 BitVec.ofInt
 (IntKind.bits
 IntKind.u32)
 n_11)) :
 Int)) ^^^
 BitVec.ofInt
 (IntKind.bits
 IntKind.u32)
 n_12)) :
 Int)) +
 IntKind.wrap
 IntKind.u32
 (↑(BitVec.toNat
 (BitVec.ofInt
 (IntKind.bits
 IntKind.u32)
 (IntKind.wrap
 IntKind.u32
 (↑(BitVec.toNat
 (BitVec.ofInt
 (IntKind.bits
 IntKind.u32)
 s_1.snd.snd.snd.snd.fst &&&
 BitVec.ofInt
 (IntKind.bits
 IntKind.u32)
 s_1.snd.snd.snd.snd.snd.fst)) :
 Int)) ^^^
 BitVec.ofInt
 (IntKind.bits
 IntKind.u32)
 (IntKind.wrap
 IntKind.u32
 (↑(BitVec.toNat
 (BitVec.ofInt
 (IntKind.bits
 IntKind.u32)
 (IntKind.wrap
 IntKind.u32
 (↑(BitVec.toNat
 (BitVec.ofInt
 (IntKind.bits
 IntKind.u32)
 (if
 IntKind.signed
 IntKind.u32 =
 true then
 (-1 :
 Int)
 else
 IntKind.max
 IntKind.u32) ^^^
 BitVec.ofInt
 (IntKind.bits
 IntKind.u32)
 s_1.snd.snd.snd.snd.fst)) :
 Int)) &&&
 BitVec.ofInt
 (IntKind.bits
 IntKind.u32)
 s_1.snd.snd.snd.snd.snd.snd.fst)) :
 Int)))) :
 Int)) +
 n_8) +
 n_9) +
 IntKind.wrap
 IntKind.u32
 (IntKind.wrap
 IntKind.u32
 (↑(BitVec.toNat
 (BitVec.ofInt
 (IntKind.bits
 IntKind.u32)
 (IntKind.wrap
 IntKind.u32
 (↑(BitVec.toNat
 (BitVec.ofInt
 (IntKind.bits
 IntKind.u32)
 n_13 ^^^
 BitVec.ofInt
 (IntKind.bits
 IntKind.u32)
 n_14)) :
 Int)) ^^^
 BitVec.ofInt
 (IntKind.bits
 IntKind.u32)
 n_15)) :
 Int) +
 IntKind.wrap
 IntKind.u32
 (↑(BitVec.toNat
 (BitVec.ofInt
 (IntKind.bits
 IntKind.u32)
 (IntKind.wrap
 IntKind.u32
 (↑(BitVec.toNat
 (BitVec.ofInt
 (IntKind.bits
 IntKind.u32)
 (IntKind.wrap
 IntKind.u32
 (↑(BitVec.toNat
 (BitVec.ofInt
 (IntKind.bits
 IntKind.u32)
 s_1.fst &&&
 BitVec.ofInt
 (IntKind.bits
 IntKind.u32)
 s_1.snd.fst)) :
 Int)) ^^^
 BitVec.ofInt
 (IntKind.bits
 IntKind.u32)
 (IntKind.wrap
 IntKind.u32
 (↑(BitVec.toNat
 (BitVec.ofInt
 (IntKind.bits
 IntKind.u32)
 s_1.fst &&&
 BitVec.ofInt
 (IntKind.bits
 IntKind.u32)
 s_1.snd.snd.fst)) :
 Int)))) :
 Int)) ^^^
 BitVec.ofInt
 (IntKind.bits
 IntKind.u32)
 (IntKind.wrap
 IntKind.u32
 (↑(BitVec.toNat
 (BitVec.ofInt
 (IntKind.bits
 IntKind.u32)
 s_1.snd.fst &&&
 BitVec.ofInt
 (IntKind.bits
 IntKind.u32)
 s_1.snd.snd.fst)) :
 Int)))) :
 Int))),
 s_1.fst,
 s_1.snd.fst,
 s_1.snd.snd.fst,
 IntKind.wrap
 IntKind.u32
 (s_1.snd.snd.snd.fst +
 IntKind.wrap
 IntKind.u32
 (IntKind.wrap
 IntKind.u32
 (IntKind.wrap
 IntKind.u32
 (IntKind.wrap
 IntKind.u32
 (s_1.snd.snd.snd.snd.snd.snd.snd.fst +
 IntKind.wrap
 IntKind.u32
 (↑(BitVec.toNat
 (BitVec.ofInt
 (IntKind.bits
 IntKind.u32)
 (IntKind.wrap
 IntKind.u32
 (↑(BitVec.toNat
 (BitVec.ofInt
 (IntKind.bits
 IntKind.u32)
 n_10 ^^^
 BitVec.ofInt
 (IntKind.bits
 IntKind.u32)
 n_11)) :
 Int)) ^^^
 BitVec.ofInt
 (IntKind.bits
 IntKind.u32)
 n_12)) :
 Int)) +
 IntKind.wrap
 IntKind.u32
 (↑(BitVec.toNat
 (BitVec.ofInt
 (IntKind.bits
 IntKind.u32)
 (IntKind.wrap
 IntKind.u32
 (↑(BitVec.toNat
 (BitVec.ofInt
 (IntKind.bits
 IntKind.u32)
 s_1.snd.snd.snd.snd.fst &&&
 BitVec.ofInt
 (IntKind.bits
 IntKind.u32)
 s_1.snd.snd.snd.snd.snd.fst)) :
 Int)) ^^^
 BitVec.ofInt
 (IntKind.bits
 IntKind.u32)
 (IntKind.wrap
 IntKind.u32
 (↑(BitVec.toNat
 (BitVec.ofInt
 (IntKind.bits
 IntKind.u32)
 (IntKind.wrap
 IntKind.u32
 (↑(BitVec.toNat
 (BitVec.ofInt
 (IntKind.bits
 IntKind.u32)
 (if
 IntKind.signed
 IntKind.u32 =
 true then
 (-1 :
 Int)
 else
 IntKind.max
 IntKind.u32) ^^^
 BitVec.ofInt
 (IntKind.bits
 IntKind.u32)
 s_1.snd.snd.snd.snd.fst)) :
 Int)) &&&
 BitVec.ofInt
 (IntKind.bits
 IntKind.u32)
 s_1.snd.snd.snd.snd.snd.snd.fst)) :
 Int)))) :
 Int)) +
 n_8) +
 n_9)),
 s_1.snd.snd.snd.snd.fst,
 s_1.snd.snd.snd.snd.snd.fst,
 s_1.snd.snd.snd.snd.snd.snd.fst,
 IntKind.wrap
 IntKind.i64
 (s_1.snd.snd.snd.snd.snd.snd.snd.snd +
 (1 : Int)))
 h_12)
 ((0 : Int) ≤ (0 : Int) ∧
 (0 : Int) < (↑(8 : Nat) : Int) ∧
 ∃ (n_8 : Int),
 at1 h_6 (Array.size h) ((0 : Nat) + Int.toNat (0 : Int) * (1 : Nat))
 (Value.int IntKind.u32 n_8) ∧
 (0 : Int) ≤ (1 : Int) ∧
 (1 : Int) < (↑(8 : Nat) : Int) ∧
 ∃ (n_9 : Int),
 at1 h_6 (Array.size h)
 ((0 : Nat) + Int.toNat (1 : Int) * (1 : Nat))
 (Value.int IntKind.u32 n_9) ∧
 (0 : Int) ≤ (2 : Int) ∧
 (2 : Int) < (↑(8 : Nat) : Int) ∧
 ∃ (n_10 : Int),
 at1 h_6 (Array.size h)
 ((0 : Nat) + Int.toNat (2 : Int) * (1 : Nat))
 (Value.int IntKind.u32 n_10) ∧
 (0 : Int) ≤ (3 : Int) ∧
 (3 : Int) < (↑(8 : Nat) : Int) ∧
 ∃ (n_11 : Int),
 at1 h_6 (Array.size h)
 ((0 : Nat) + Int.toNat (3 : Int) * (1 : Nat))
 (Value.int IntKind.u32 n_11) ∧
 (0 : Int) ≤ (4 : Int) ∧
 (4 : Int) < (↑(8 : Nat) : Int) ∧
 ∃ (n_12 : Int),
 at1 h_6 (Array.size h)
 ((0 : Nat) +
 Int.toNat (4 : Int) * (1 : Nat))
 (Value.int IntKind.u32 n_12) ∧
 (0 : Int) ≤ (5 : Int) ∧
 (5 : Int) < (↑(8 : Nat) : Int) ∧
 ∃ (n_13 : Int),
 at1 h_6 (Array.size h)
 ((0 : Nat) +
 Int.toNat (5 : Int) *
 (1 : Nat))
 (Value.int IntKind.u32 n_13) ∧
 (0 : Int) ≤ (6 : Int) ∧
 (6 : Int) <
 (↑(8 : Nat) : Int) ∧
 ∃ (n_14 : Int),
 at1 h_6 (Array.size h)
 ((0 : Nat) +
 Int.toNat
 (6 : Int) *
 (1 : Nat))
 (Value.int IntKind.u32
 n_14) ∧
 (0 : Int) ≤ (7 : Int) ∧
 (7 : Int) <
 (↑(8 : Nat) :
 Int) ∧
 ∃ (n_15 : Int),
 at1 h_6
 (Array.size h)
 ((0 : Nat) +
 Int.toNat
 (7 :
 Int) *
 (1 : Nat))
 (Value.int
 IntKind.u32
 n_15) ∧
 wok h_6
 (Array.size
 h_2)
 (0 : Nat)
 (8 : Nat) ∧
 Vc.Bind
 (TV.put h_6
 (Array.size
 h_2)
 (0 : Nat)
 (TV.words
 IntKind.u32
 (8 :
 Nat)
 (Ws.set
 (Ws.set
 (Ws.set
 (Ws.set
 (Ws.set
 (Ws.set
 (Ws.set
 (Ws.set
 (Ws.zero
 (8 :
 Nat))
 (0 :
 Nat)
 (IntKind.wrap
 IntKind.u32
 (n_8 +
 s_1.fst)))
 (1 :
 Nat)
 (IntKind.wrap
 IntKind.u32
 (n_9 +
 s_1.snd.fst)))
 (2 :
 Nat)
 (IntKind.wrap
 IntKind.u32
 (n_10 +
 s_1.snd.snd.fst)))
 (3 :
 Nat)
 (IntKind.wrap
 IntKind.u32
 (n_11 +
 s_1.snd.snd.snd.fst)))
 (4 :
 Nat)
 (IntKind.wrap
 IntKind.u32
 (n_12 +
 s_1.snd.snd.snd.snd.fst)))
 (5 :
 Nat)
 (IntKind.wrap
 IntKind.u32
 (n_13 +
 s_1.snd.snd.snd.snd.snd.fst)))
 (6 :
 Nat)
 (IntKind.wrap
 IntKind.u32
 (n_14 +
 s_1.snd.snd.snd.snd.snd.snd.fst)))
 (7 :
 Nat)
 (IntKind.wrap
 IntKind.u32
 (n_15 +
 s_1.snd.snd.snd.snd.snd.snd.snd.fst)))))
 fun
 (h :
 Array
 Obj) ↦
 ∃ (w :
 Ws
 (8 :
 Nat)),
 atWords h
 (Array.size
 h_2)
 (0 :
 Nat)
 IntKind.u32
 (8 :
 Nat)
 w ∧
 R
 (TV.val
 (TV.words
 IntKind.u32
 (8 :
 Nat)
 w))
 h))

theorem tollerref03_block_calls (h_ : Ws (8 : Nat)) (keys : Ws (64 : Nat)) (s_ : List UInt8) (h : Heap) (R : Value → Heap → Prop) (H : tollerref03_block_vc h_ keys s_ h R) : CallsH Tryz.prog 88 (TVs.vals [TV.words IntKind.u32 (8 : Nat) h_, TV.words IntKind.u32 (64 : Nat) keys, TV.str s_]) h R :=
 vcFn_sound (C := ctx) ctx_ok (fn := Tryz.f88) Tryz.func88 ((by kernel_rfl : tollerref03_block_vc h_ keys s_ h R = vcFn ctx Tryz.f88 [TV.words IntKind.u32 (8 : Nat) h_, TV.words IntKind.u32 (64 : Nat) keys, TV.str s_] h R) ▸ H)


def math_bits_Mul64_vc (x : Int) (y : Int) (h : Heap) (R : Value → Heap → Prop) : Prop :=
 (0 : Int) ≤ (32 : Int) ∧
 (0 : Int) ≤ (32 : Int) ∧
 (0 : Int) ≤ (32 : Int) ∧
 (0 : Int) ≤ (32 : Int) ∧
 (0 : Int) ≤ (32 : Int) ∧
 R
 (TV.val
 (TV.tup
 [TV.int IntKind.u64
 (IntKind.wrap IntKind.u64
 (IntKind.wrap IntKind.u64
 (IntKind.wrap IntKind.u64
 (Int.fdiv x ((2 : Int) ^ min (Int.toNat (32 : Int)) (IntKind.bits IntKind.u64)) *
 Int.fdiv y ((2 : Int) ^ min (Int.toNat (32 : Int)) (IntKind.bits IntKind.u64))) +
 Int.fdiv
 (IntKind.wrap IntKind.u64
 (IntKind.wrap IntKind.u64
 (Int.fdiv x ((2 : Int) ^ min (Int.toNat (32 : Int)) (IntKind.bits IntKind.u64)) *
 IntKind.wrap IntKind.u64
 (↑(BitVec.toNat
 (BitVec.ofInt (IntKind.bits IntKind.u64) y &&& BitVec.ofInt (IntKind.bits IntKind.u64) (4294967295 : Int))) :
 Int)) +
 Int.fdiv
 (IntKind.wrap IntKind.u64
 (IntKind.wrap IntKind.u64
 (↑(BitVec.toNat
 (BitVec.ofInt (IntKind.bits IntKind.u64) x &&& BitVec.ofInt (IntKind.bits IntKind.u64) (4294967295 : Int))) :
 Int) *
 IntKind.wrap IntKind.u64
 (↑(BitVec.toNat
 (BitVec.ofInt (IntKind.bits IntKind.u64) y &&& BitVec.ofInt (IntKind.bits IntKind.u64) (4294967295 : Int))) :
 Int)))
 ((2 : Int) ^ min (Int.toNat (32 : Int)) (IntKind.bits IntKind.u64))))
 ((2 : Int) ^ min (Int.toNat (32 : Int)) (IntKind.bits IntKind.u64))) +
 Int.fdiv
 (IntKind.wrap IntKind.u64
 (IntKind.wrap IntKind.u64
 (↑(BitVec.toNat
 (BitVec.ofInt (IntKind.bits IntKind.u64)
 (IntKind.wrap IntKind.u64
 (IntKind.wrap IntKind.u64
 (Int.fdiv x ((2 : Int) ^ min (Int.toNat (32 : Int)) (IntKind.bits IntKind.u64)) *
 IntKind.wrap IntKind.u64
 (↑(BitVec.toNat
 (BitVec.ofInt (IntKind.bits IntKind.u64) y &&&
 BitVec.ofInt (IntKind.bits IntKind.u64) (4294967295 : Int))) :
 Int)) +
 Int.fdiv
 (IntKind.wrap IntKind.u64
 (IntKind.wrap IntKind.u64
 (↑(BitVec.toNat
 (BitVec.ofInt (IntKind.bits IntKind.u64) x &&&
 BitVec.ofInt (IntKind.bits IntKind.u64) (4294967295 : Int))) :
 Int) *
 IntKind.wrap IntKind.u64
 (↑(BitVec.toNat
 (BitVec.ofInt (IntKind.bits IntKind.u64) y &&&
 BitVec.ofInt (IntKind.bits IntKind.u64) (4294967295 : Int))) :
 Int)))
 ((2 : Int) ^ min (Int.toNat (32 : Int)) (IntKind.bits IntKind.u64)))) &&&
 BitVec.ofInt (IntKind.bits IntKind.u64) (4294967295 : Int))) :
 Int) +
 IntKind.wrap IntKind.u64
 (IntKind.wrap IntKind.u64
 (↑(BitVec.toNat
 (BitVec.ofInt (IntKind.bits IntKind.u64) x &&& BitVec.ofInt (IntKind.bits IntKind.u64) (4294967295 : Int))) :
 Int) *
 Int.fdiv y ((2 : Int) ^ min (Int.toNat (32 : Int)) (IntKind.bits IntKind.u64)))))
 ((2 : Int) ^ min (Int.toNat (32 : Int)) (IntKind.bits IntKind.u64)))),
 TV.int IntKind.u64 (IntKind.wrap IntKind.u64 (x * y))]))
 h

theorem math_bits_Mul64_calls (x : Int) (y : Int) (h : Heap) (R : Value → Heap → Prop) (H : math_bits_Mul64_vc x y h R) : CallsH Tryz.prog 112 (TVs.vals [TV.int IntKind.u64 x, TV.int IntKind.u64 y]) h R :=
 vcFn_sound (C := ctx) ctx_ok (fn := Tryz.f112) Tryz.func112 ((by kernel_rfl : math_bits_Mul64_vc x y h R = vcFn ctx Tryz.f112 [TV.int IntKind.u64 x, TV.int IntKind.u64 y] h R) ▸ H)


def tollerref03_above_vc (x : Int) (p : Int) (power : Int) (h : Heap) (R : Value → Heap → Prop) : Prop :=
 CallsH Tryz.prog (112 : Nat) (TVs.vals [TV.int IntKind.u64 x, TV.int IntKind.u64 x]) h fun (v : Value) (h : Heap) ↦
 ∃ (n : Int),
 ∃ (n_1 : Int),
 v = TV.val (TV.tup [TV.int IntKind.u64 n, TV.int IntKind.u64 n_1]) ∧
 If (decide (power = (2 : Int)))
 (If (decide (p < n)) (R (TV.val (TV.bool true)) h)
 (If (decide (n = p)) (R (TV.val (TV.bool (decide ((0 : Int) < n_1)))) h) (R (TV.val (TV.bool false)) h)))
 (CallsH Tryz.prog (112 : Nat) (TVs.vals [TV.int IntKind.u64 n, TV.int IntKind.u64 x]) h fun (v : Value) (h : Heap) ↦
 ∃ (n : Int),
 ∃ (n_2 : Int),
 v = TV.val (TV.tup [TV.int IntKind.u64 n, TV.int IntKind.u64 n_2]) ∧
 CallsH Tryz.prog (112 : Nat) (TVs.vals [TV.int IntKind.u64 n_1, TV.int IntKind.u64 x]) h fun (v : Value) (h : Heap) ↦
 ∃ (n_3 : Int),
 ∃ (n_4 : Int),
 v = TV.val (TV.tup [TV.int IntKind.u64 n_3, TV.int IntKind.u64 n_4]) ∧
 (0 : Int) ≤ n_2 ∧
 (0 : Int) ≤ n_3 ∧
 (0 : Int) ≤ (0 : Int) ∧
 (0 : Int) ≤ (1 : Int) ∧
 (0 : Int) ≤ (32 : Int) ∧
 If
 (!decide
 (IntKind.wrap IntKind.u64 (n + (n_2 + n_3 + (0 : Int)) / (18446744073709551616 : Int)) =
 Int.fdiv p ((2 : Int) ^ min (Int.toNat (32 : Int)) (IntKind.bits IntKind.u64))))
 ((0 : Int) ≤ (32 : Int) ∧
 R
 (TV.val
 (TV.bool
 (decide
 (Int.fdiv p ((2 : Int) ^ min (Int.toNat (32 : Int)) (IntKind.bits IntKind.u64)) <
 IntKind.wrap IntKind.u64 (n + (n_2 + n_3 + (0 : Int)) / (18446744073709551616 : Int))))))
 h)
 ((0 : Int) ≤ (32 : Int) ∧
 If
 (!decide
 ((n_2 + n_3 + (0 : Int)) % (18446744073709551616 : Int) =
 IntKind.wrap IntKind.u64 (p * (2 : Int) ^ min (Int.toNat (32 : Int)) (IntKind.bits IntKind.u64))))
 (R
 (TV.val
 (TV.bool
 (decide
 (IntKind.wrap IntKind.u64 (p * (2 : Int) ^ min (Int.toNat (32 : Int)) (IntKind.bits IntKind.u64)) <
 (n_2 + n_3 + (0 : Int)) % (18446744073709551616 : Int)))))
 h)
 (R (TV.val (TV.bool (decide ((0 : Int) < n_4)))) h)))

theorem tollerref03_above_calls (x : Int) (p : Int) (power : Int) (h : Heap) (R : Value → Heap → Prop) (H : tollerref03_above_vc x p power h R) : CallsH Tryz.prog 106 (TVs.vals [TV.int IntKind.u64 x, TV.int IntKind.u64 p, TV.int IntKind.i64 power]) h R :=
 vcFn_sound (C := ctx) ctx_ok (fn := Tryz.f106) Tryz.func106 ((by kernel_rfl : tollerref03_above_vc x p power h R = vcFn ctx Tryz.f106 [TV.int IntKind.u64 x, TV.int IntKind.u64 p, TV.int IntKind.i64 power] h R) ▸ H)


def tollerref03_primes_vc (n : Int) (h : Heap) (R : Value → Heap → Prop) : Prop :=
 Go.Vc.Loop (Sl.mk none (0 : Nat) (0 : Nat), (2 : Int)) h fun (s : Sl × Int) (h : Array Obj) (K : Sl × Int → Array Obj → Prop) ↦
 If (decide ((↑s.fst.len : Int) < n))
 (Go.Vc.Loop (true, (0 : Int)) h fun (s_1 : Bool × Int) (h : Array Obj) (K_1 : Bool × Int → Array Obj → Prop) ↦
 If (decide (s_1.snd < (↑s.fst.len : Int)))
 ((0 : Int) ≤ s_1.snd ∧
 s_1.snd < (↑s.fst.len : Int) ∧
 Nn s.fst.a fun (l : Go.Vc.Loc) ↦
 ∃ (n : Int),
 at1 h l.b (l.o + Int.toNat s_1.snd * (1 : Nat)) (Value.int IntKind.u64 n) ∧
 If s_1.fst (n ≠ (0 : Int) ∧ K_1 (!decide (Int.tmod s.snd n = (0 : Int)), IntKind.wrap IntKind.i64 (s_1.snd + (1 : Int))) h)
 (K_1 (false, IntKind.wrap IntKind.i64 (s_1.snd + (1 : Int))) h))
 (If s_1.fst
 (∃ (new : List Value),
 slAt (Array.push h (row (TVs.cells [TV.int IntKind.u64 s.snd]) (53 : Nat))) (Sl.mk (some (Loc.mk (Array.size h) (0 : Nat))) (1 : Nat) (1 : Nat))
 (1 : Nat) new ∧
 (∀ (v : Value), v ∈ new → isOne v = true) ∧
 vcAppend YtldocdpdjdekiaaGreat.ctx (53 : Nat) s.fst (1 : Nat) new (Array.push h (row (TVs.cells [TV.int IntKind.u64 s.snd]) (53 : Nat)))
 fun (s_2 : Sl) (h : Array Obj) ↦ K (s_2, IntKind.wrap IntKind.u64 (s.snd + (1 : Int))) h)
 (K (s.fst, IntKind.wrap IntKind.u64 (s.snd + (1 : Int))) h)))
 (R (TV.val (TV.slice s.fst)) h)

theorem tollerref03_primes_calls (n : Int) (h : Heap) (R : Value → Heap → Prop) (H : tollerref03_primes_vc n h R) : CallsH Tryz.prog 86 (TVs.vals [TV.int IntKind.i64 n]) h R :=
 vcFn_sound (C := ctx) ctx_ok (fn := Tryz.f86) Tryz.func86 ((by kernel_rfl : tollerref03_primes_vc n h R = vcFn ctx Tryz.f86 [TV.int IntKind.i64 n] h R) ▸ H)


def tollerref03_root_vc (p : Int) (power : Int) (h : Heap) (R : Value → Heap → Prop) : Prop :=
 Go.Vc.Loop ((0 : Int), (39 : Int)) h fun (s : Int × Int) (h : Array Obj) (K : Int × Int → Array Obj → Prop) ↦
 If (decide ((0 : Int) ≤ s.snd))
 ((0 : Int) ≤ IntKind.wrap IntKind.u64 s.snd ∧
 CallsH Tryz.prog (106 : Nat)
 (TVs.vals
 [TV.int IntKind.u64
 (IntKind.wrap IntKind.u64
 (s.fst + IntKind.wrap IntKind.u64 ((1 : Int) * (2 : Int) ^ min (Int.toNat (IntKind.wrap IntKind.u64 s.snd)) (IntKind.bits IntKind.u64)))),
 TV.int IntKind.u64 p, TV.int IntKind.i64 power])
 h fun (v : Value) (h : Array Obj) ↦
 ∃ (b : Bool),
 v = TV.val (TV.bool b) ∧
 If (!b)
 ((0 : Int) ≤ IntKind.wrap IntKind.u64 s.snd ∧
 K
 (IntKind.wrap IntKind.u64
 (s.fst + IntKind.wrap IntKind.u64 ((1 : Int) * (2 : Int) ^ min (Int.toNat (IntKind.wrap IntKind.u64 s.snd)) (IntKind.bits IntKind.u64))),
 IntKind.wrap IntKind.i64 (s.snd - (1 : Int)))
 h)
 (K (s.fst, IntKind.wrap IntKind.i64 (s.snd - (1 : Int))) h))
 ((4294967296 : Int) ≠ (0 : Int) ∧ R (TV.val (TV.int IntKind.u32 (IntKind.wrap IntKind.u32 (Int.tmod s.fst (4294967296 : Int))))) h)

theorem tollerref03_root_calls (p : Int) (power : Int) (h : Heap) (R : Value → Heap → Prop) (H : tollerref03_root_vc p power h R) : CallsH Tryz.prog 87 (TVs.vals [TV.int IntKind.u64 p, TV.int IntKind.i64 power]) h R :=
 vcFn_sound (C := ctx) ctx_ok (fn := Tryz.f87) Tryz.func87 ((by kernel_rfl : tollerref03_root_vc p power h R = vcFn ctx Tryz.f87 [TV.int IntKind.u64 p, TV.int IntKind.i64 power] h R) ▸ H)


def tollerref03_Of_vc (s_ : List UInt8) (h : Heap) (R : Value → Heap → Prop) : Prop :=
 Vc.Bind (newTV h (TV.bytes (32 : Nat) (Bs.zero (32 : Nat))) (24 : Nat)) fun (h_1 : Array Obj) ↦
 (↑(List.length s_ + List.length (ByteArray.mk #[(128 : UInt8)]).data.toList) : Int) ≤ (9223372036854775807 : Int) ∧
 Go.Vc.Loop (s_ ++ (ByteArray.mk #[(128 : UInt8)]).data.toList) h_1 fun (s : List UInt8) (h_2 : Array Obj) (K : List UInt8 → Array Obj → Prop) ↦
 (64 : Int) ≠ (0 : Int) ∧
 If (!decide (Int.tmod (↑(List.length s) : Int) (64 : Int) = (56 : Int)))
 ((↑(List.length s + List.length (ByteArray.mk #[(0 : UInt8)]).data.toList) : Int) ≤ (9223372036854775807 : Int) ∧
 K (s ++ (ByteArray.mk #[(0 : UInt8)]).data.toList) h_2)
 (Go.Vc.Loop (s, (7 : Int)) h_2 fun (s_1 : List UInt8 × Int) (h_3 : Array Obj) (K : List UInt8 × Int → Array Obj → Prop) ↦
 If (decide ((0 : Int) ≤ s_1.snd))
 ((0 : Int) ≤ IntKind.wrap IntKind.u64 (IntKind.wrap IntKind.i64 ((8 : Int) * s_1.snd)) ∧
 ∃ (bs : List UInt8),
 strAt
 (Array.push h_3
 (row
 (TVs.cells
 [TV.int IntKind.u8
 (IntKind.wrap IntKind.u8
 (Int.fdiv (IntKind.wrap IntKind.u64 (IntKind.wrap IntKind.u64 (↑(List.length s_) : Int) * (8 : Int)))
 ((2 : Int) ^
 min (Int.toNat (IntKind.wrap IntKind.u64 (IntKind.wrap IntKind.i64 ((8 : Int) * s_1.snd))))
 (IntKind.bits IntKind.u64))))])
 (5 : Nat)))
 (Sl.mk (some (Loc.mk (Array.size h_3) (0 : Nat))) (1 : Nat) (1 : Nat)) bs ∧
 (↑(List.length s_1.fst + List.length bs) : Int) ≤ (9223372036854775807 : Int) ∧
 K (s_1.fst ++ bs, IntKind.wrap IntKind.i64 (s_1.snd - (1 : Int)))
 (Array.push h_3
 (row
 (TVs.cells
 [TV.int IntKind.u8
 (IntKind.wrap IntKind.u8
 (Int.fdiv (IntKind.wrap IntKind.u64 (IntKind.wrap IntKind.u64 (↑(List.length s_) : Int) * (8 : Int)))
 ((2 : Int) ^
 min (Int.toNat (IntKind.wrap IntKind.u64 (IntKind.wrap IntKind.i64 ((8 : Int) * s_1.snd))))
 (IntKind.bits IntKind.u64))))])
 (5 : Nat))))
 (Vc.Bind (newTV h_3 (TV.words IntKind.u32 (8 : Nat) (Ws.zero (8 : Nat))) (129 : Nat)) fun (h_4 : Array Obj) ↦
 CallsH Tryz.prog (86 : Nat) (TVs.vals [TV.int IntKind.i64 (8 : Int)]) h_4 fun (v : Value) (h_5 : Array Obj) ↦
 ∃ (s_2 : Sl),
 v = TV.val (TV.slice s_2) ∧
 Go.Vc.Loop (0 : Int) h_5 fun (s_3 : Int) (h_6 : Array Obj) (K : Int → Array Obj → Prop) ↦
 If (decide (s_3 < (↑s_2.len : Int)))
 ((0 : Int) ≤ s_3 ∧
 s_3 < (↑s_2.len : Int) ∧
 Nn s_2.a fun (l : Go.Vc.Loc) ↦
 ∃ (n : Int),
 at1 h_6 l.b (l.o + Int.toNat s_3 * (1 : Nat)) (Value.int IntKind.u64 n) ∧
 CallsH Tryz.prog (87 : Nat) (TVs.vals [TV.int IntKind.u64 n, TV.int IntKind.i64 (2 : Int)]) h_6
 fun (v : Value) (h : Array Obj) ↦
 ∃ (n : Int),
 v = TV.val (TV.int IntKind.u32 n) ∧
 (0 : Int) ≤ s_3 ∧
 s_3 < (↑(8 : Nat) : Int) ∧
 wok h (Array.size h_3) ((0 : Nat) + Int.toNat s_3 * (1 : Nat)) (1 : Nat) ∧
 Vc.Bind (TV.put h (Array.size h_3) ((0 : Nat) + Int.toNat s_3 * (1 : Nat)) (TV.int IntKind.u32 n))
 fun (h : Array Obj) ↦ K (IntKind.wrap IntKind.i64 (s_3 + (1 : Int))) h)
 (Vc.Bind (newTV h_6 (TV.words IntKind.u32 (64 : Nat) (Ws.zero (64 : Nat))) (133 : Nat)) fun (h_7 : Array Obj) ↦
 CallsH Tryz.prog (86 : Nat) (TVs.vals [TV.int IntKind.i64 (64 : Int)]) h_7 fun (v : Value) (h_8 : Array Obj) ↦
 ∃ (s_4 : Sl),
 v = TV.val (TV.slice s_4) ∧
 Go.Vc.Loop (0 : Int) h_8 fun (s_5 : Int) (h_9 : Array Obj) (K : Int → Array Obj → Prop) ↦
 If (decide (s_5 < (↑s_4.len : Int)))
 ((0 : Int) ≤ s_5 ∧
 s_5 < (↑s_4.len : Int) ∧
 Nn s_4.a fun (l : Go.Vc.Loc) ↦
 ∃ (n : Int),
 at1 h_9 l.b (l.o + Int.toNat s_5 * (1 : Nat)) (Value.int IntKind.u64 n) ∧
 CallsH Tryz.prog (87 : Nat) (TVs.vals [TV.int IntKind.u64 n, TV.int IntKind.i64 (3 : Int)]) h_9
 fun (v : Value) (h : Array Obj) ↦
 ∃ (n : Int),
 v = TV.val (TV.int IntKind.u32 n) ∧
 (0 : Int) ≤ s_5 ∧
 s_5 < (↑(64 : Nat) : Int) ∧
 wok h (Array.size h_6) ((0 : Nat) + Int.toNat s_5 * (1 : Nat)) (1 : Nat) ∧
 Vc.Bind (TV.put h (Array.size h_6) ((0 : Nat) + Int.toNat s_5 * (1 : Nat)) (TV.int IntKind.u32 n))
 fun (h : Array Obj) ↦ K (IntKind.wrap IntKind.i64 (s_5 + (1 : Int))) h)
 (Go.Vc.Loop (0 : Int) h_9 fun (s_6 : Int) (h_10 : Array Obj) (K : Int → Array Obj → Prop) ↦
 If (decide (s_6 < (↑(List.length s_1.fst) : Int)))
 (∃ (w : Ws (8 : Nat)),
 atWords h_10 (Array.size h_3) (0 : Nat) IntKind.u32 (8 : Nat) w ∧
 ∃ (w_1 : Ws (64 : Nat)),
 atWords h_10 (Array.size h_6) (0 : Nat) IntKind.u32 (64 : Nat) w_1 ∧
 (0 : Int) ≤ IntKind.wrap IntKind.i64 (s_6 + (64 : Int)) ∧
 IntKind.wrap IntKind.i64 (s_6 + (64 : Int)) ≤ (↑(List.length s_1.fst) : Int) ∧
 (0 : Int) ≤ s_6 ∧
 s_6 ≤ IntKind.wrap IntKind.i64 (s_6 + (64 : Int)) ∧
 CallsH Tryz.prog (88 : Nat)
 (TVs.vals
 [TV.words IntKind.u32 (8 : Nat) w, TV.words IntKind.u32 (64 : Nat) w_1,
 TV.str
 (List.take (Int.toNat (IntKind.wrap IntKind.i64 (s_6 + (64 : Int))) - Int.toNat s_6)
 (List.drop (Int.toNat s_6) s_1.fst))])
 h_10 fun (v : Value) (h : Array Obj) ↦
 ∃ (w : Ws (8 : Nat)),
 v = TV.val (TV.words IntKind.u32 (8 : Nat) w) ∧
 wok h (Array.size h_3) (0 : Nat) (8 : Nat) ∧
 Vc.Bind (TV.put h (Array.size h_3) (0 : Nat) (TV.words IntKind.u32 (8 : Nat) w))
 fun (h : Array Obj) ↦ K (IntKind.wrap IntKind.i64 (s_6 + (64 : Int))) h)
 (Vc.Bind (newTV h_10 (TV.bytes (32 : Nat) (Bs.zero (32 : Nat))) (24 : Nat)) fun (h_11 : Array Obj) ↦
 Go.Vc.Loop (0 : Int) h_11 fun (s : Int) (h_12 : Array Obj) (K : Int → Array Obj → Prop) ↦
 If (decide (s < (32 : Int)))
 ((4 : Int) ≠ (0 : Int) ∧
 (0 : Int) ≤ IntKind.wrap IntKind.i64 (Int.tdiv s (4 : Int)) ∧
 IntKind.wrap IntKind.i64 (Int.tdiv s (4 : Int)) < (↑(8 : Nat) : Int) ∧
 ∃ (n : Int),
 at1 h_12 (Array.size h_3)
 ((0 : Nat) + Int.toNat (IntKind.wrap IntKind.i64 (Int.tdiv s (4 : Int))) * (1 : Nat))
 (Value.int IntKind.u32 n) ∧
 (4 : Int) ≠ (0 : Int) ∧
 (0 : Int) ≤
 IntKind.wrap IntKind.u64
 (IntKind.wrap IntKind.i64
 ((24 : Int) - IntKind.wrap IntKind.i64 ((8 : Int) * Int.tmod s (4 : Int)))) ∧
 (0 : Int) ≤ s ∧
 s < (↑(32 : Nat) : Int) ∧
 wok h_12 (Array.size h_10) ((0 : Nat) + Int.toNat s * (1 : Nat)) (1 : Nat) ∧
 Vc.Bind
 (TV.put h_12 (Array.size h_10) ((0 : Nat) + Int.toNat s * (1 : Nat))
 (TV.int IntKind.u8
 (IntKind.wrap IntKind.u8
 (Int.fdiv n
 ((2 : Int) ^
 min
 (Int.toNat
 (IntKind.wrap IntKind.u64
 (IntKind.wrap IntKind.i64
 ((24 : Int) -
 IntKind.wrap IntKind.i64 ((8 : Int) * Int.tmod s (4 : Int))))))
 (IntKind.bits IntKind.u32))))))
 fun (h : Array Obj) ↦ K (IntKind.wrap IntKind.i64 (s + (1 : Int))) h)
 (∃ (b : Bs (32 : Nat)),
 atBytes h_12 (Array.size h_10) (0 : Nat) (32 : Nat) b ∧
 wok h_12 (Array.size h) (0 : Nat) (32 : Nat) ∧
 Vc.Bind (TV.put h_12 (Array.size h) (0 : Nat) (TV.bytes (32 : Nat) b)) fun (h_13 : Array Obj) ↦
 ∃ (b : Bs (32 : Nat)),
 atBytes h_13 (Array.size h) (0 : Nat) (32 : Nat) b ∧ R (TV.val (TV.bytes (32 : Nat) b)) h_13))))))

theorem tollerref03_Of_calls (s_ : List UInt8) (h : Heap) (R : Value → Heap → Prop) (H : tollerref03_Of_vc s_ h R) : CallsH Tryz.prog 52 (TVs.vals [TV.str s_]) h R :=
 vcFn_sound (C := ctx) ctx_ok (fn := Tryz.f52) Tryz.func52 ((by kernel_rfl : tollerref03_Of_vc s_ h R = vcFn ctx Tryz.f52 [TV.str s_] h R) ▸ H)


end Go.Proofs.YtldocdpdjdekiaaGreat
end

section
/- The document's digest: a block does what the program's take does. -/
namespace Go.Proofs.YtldocdpdjdekiaaGreat.Board
open Go Go.Vc
section
variable {R : Value → Heap → Prop} {h : Heap}

theorem right_spec {x n : Int} (hr : R (TV.int .u32 (rightF x n)).val h) : CallsH Tryz.prog 107 (TVs.vals [.int .u32 x, .int .i64 n]) h R := by
  apply tollerref03_right_calls
  unfold tollerref03_right_vc
  exact ⟨wrap_u64_nonneg _, wrap_u64_nonneg _, hr⟩

theorem by8_get {bs : List UInt8} {i : Nat} : ((bs.getD i 0).toNat : Int) = by8 bs i := rfl

theorem grow_by8 (n : Int) (bs : List UInt8) (i : Nat) : IntKind.wrap .u32 (IntKind.wrap .u32 (n * 256) + IntKind.wrap .u32 ((bs.getD i 0).toNat : Int)) = grow n (bs.getD i 0) := rfl

/-- A word out of its first bytes. -/
def growN (bs : List UInt8) (i : Nat) : Nat → Int
  | 0 => 0
  | k + 1 => grow (growN bs i k) (bs.getD (4 * i + k) 0)

/-- The words so far: those up to the i-th are there, the others are 0. -/
def Part (w : Ws 64) (bs : List UInt8) (i : Nat) : Prop := (∀ j, j < i → wd w j = wd (layF bs) j) ∧ ∀ j, i ≤ j → wd w j = 0

theorem lay_low (bs : List UInt8) (j : Nat) (hj : j < 16) : wd (layF bs) j = be (by8 bs (4 * j)) (by8 bs (4 * j + 1)) (by8 bs (4 * j + 2)) (by8 bs (4 * j + 3)) := by
  unfold layF
  rw [layB_wd (layA bs 16) 0 j (Nat.zero_le _) (by omega) 48 (Nat.zero_le _) (Nat.le_refl _), layB, ← layA_wd bs (j + 1) j (Nat.lt_succ_self j) (by omega), layA, wd_set, if_pos ⟨rfl, by omega⟩]

theorem lay_high (bs : List UInt8) (j : Nat) (h0 : 16 ≤ j) (h1 : j < 64) : wd (layF bs) j = exAt (layF bs) j := by
  unfold layF
  obtain ⟨i, rfl⟩ : ∃ i, j = 16 + i := ⟨j - 16, by omega⟩
  have e : ∀ k, k < 16 + i → wd (layB (layA bs 16) 48) k = wd (layB (layA bs 16) i) k := fun k hk => layB_wd (layA bs 16) i k (by omega) hk 48 (by omega) (Nat.le_refl _)
  rw [layB_wd (layA bs 16) (i + 1) (16 + i) (by omega) (by omega) 48 (by omega) (Nat.le_refl _), layB, wd_set, if_pos ⟨rfl, h1⟩]
  unfold exAt
  rw [e _ (by omega), e _ (by omega), e _ (by omega), e _ (by omega)]

theorem eight (X : Ws 8) : Ws.set (Ws.set (Ws.set (Ws.set (Ws.set (Ws.set (Ws.set (Ws.set (Ws.zero 8) 0 (wd X 0)) 1 (wd X 1)) 2 (wd X 2)) 3 (wd X 3)) 4 (wd X 4)) 5 (wd X 5)) 6 (wd X 6)) 7 (wd X 7) = X := by
  obtain ⟨l, hl⟩ := X
  match l, hl with
  | [a, b, c, d, e, f, g, k], _ => rfl

theorem round_wd (w k : Ws 64) (i : Nat) (v : Ws 8) :
    wd (roundW w k i v) 0 = t0 (wd v 7) (turnF (wd v 4) 6) (turnF (wd v 4) 11) (turnF (wd v 4) 25) (wd v 4) (wd v 5) (wd v 6) (wd k i) (wd w i) (turnF (wd v 0) 2) (turnF (wd v 0) 13) (turnF (wd v 0) 22) (wd v 0) (wd v 1) (wd v 2) (wd v 1) (wd v 2) ∧
    wd (roundW w k i v) 1 = wd v 0 ∧ wd (roundW w k i v) 2 = wd v 1 ∧ wd (roundW w k i v) 3 = wd v 2 ∧
    wd (roundW w k i v) 4 = t4 (wd v 3) (wd v 7) (turnF (wd v 4) 6) (turnF (wd v 4) 11) (turnF (wd v 4) 25) (wd v 4) (wd v 5) (wd v 6) (wd k i) (wd w i) ∧
    wd (roundW w k i v) 5 = wd v 4 ∧ wd (roundW w k i v) 6 = wd v 5 ∧ wd (roundW w k i v) 7 = wd v 6 := by
  unfold roundW
  refine ⟨?_, ?_, ?_, ?_, ?_, ?_, ?_, ?_⟩ <;> rw [wd_set, wd_set]
  · rw [if_pos ⟨rfl, by decide⟩]
  · rw [if_neg (by decide), if_neg (by decide), wd_shift _ _ (by decide) (by decide)]
  · rw [if_neg (by decide), if_neg (by decide), wd_shift _ _ (by decide) (by decide)]
  · rw [if_neg (by decide), if_neg (by decide), wd_shift _ _ (by decide) (by decide)]
  · rw [if_neg (by decide), if_pos ⟨rfl, by decide⟩, wd_shift _ _ (by decide) (by decide)]
  · rw [if_neg (by decide), if_neg (by decide), wd_shift _ _ (by decide) (by decide)]
  · rw [if_neg (by decide), if_neg (by decide), wd_shift _ _ (by decide) (by decide)]
  · rw [if_neg (by decide), if_neg (by decide), wd_shift _ _ (by decide) (by decide)]

set_option maxHeartbeats 1000000 in
theorem block_spec {w0 : Ws 8} {bs : List UInt8} (hl : bs.length = 64) (hr : ∀ h', Ext h h' → R (TV.words .u32 8 (takeF w0 bs)).val h') : CallsH Tryz.prog 88 (TVs.vals [.words .u32 8 w0, .words .u32 64 keysW, .str bs]) h R := by
  apply tollerref03_block_calls
  unfold tollerref03_block_vc
  refine newTV_in fun h1 v1 x1 s1 => newTV_in fun h2 v2 x2 s2 => newTV_in fun h3 v3 x3 s3 => newTV_in fun h4 v4 x4 s4 => ?_
  have va := ((v1.ext x2).ext x3).ext x4
  have vb := (v2.ext x3).ext x4
  have vc := v3.ext x4
  have x04 := ((x1.trans x2).trans x3).trans x4
  refine ⟨fun i hh => 0 ≤ i ∧ i ≤ 64 ∧ Only (· = h3.size) h4 hh ∧ ∃ w : Ws 64, Var 133 hh h3.size (.words .u32 64 w) ∧ Part w bs i.toNat, fun i _ => ((64 : Int) - i).toNat, ⟨Int.le_refl 0, by decide, Only.refl _ _, Ws.zero 64, v4, (fun j hj => absurd hj (by simp)), fun j _ => ?_⟩, ?_⟩
  · unfold wd Ws.zero
    simp only [List.getD_eq_getElem?_getD, List.getElem?_replicate]
    split <;> rfl
  rintro i h5 ⟨i0, i1, o5, w, v5, p1, p2⟩
  refine If.dec.2 ⟨fun hi => ?_, fun hi => ?_⟩
  · have hi1 : (i + 1).toNat = i.toNat + 1 := by omega
    have next : ∀ (hh : Heap) (w' : Ws 64), Only (· = h3.size) h4 hh → Var 133 hh h3.size (.words .u32 64 w') → (∀ j, j ≠ i.toNat → wd w' j = wd w j) → wd w' i.toNat = wd (layF bs) i.toNat →
        ((0 ≤ i + 1 ∧ i + 1 ≤ 64 ∧ Only (· = h3.size) h4 hh ∧ ∃ w : Ws 64, Var 133 hh h3.size (.words .u32 64 w) ∧ Part w bs (i + 1).toNat) ∧ ((64 : Int) - (i + 1)).toNat < ((64 : Int) - i).toNat) := by
      intro hh w' oh vh hn hw
      refine ⟨⟨by omega, by omega, oh, w', vh, fun j hj => ?_, fun j hj => ?_⟩, by omega⟩
      · by_cases hji : j = i.toNat
        · rw [hji]; exact hw
        · rw [hn j hji]; exact p1 j (by omega)
      · rw [hn j (by omega)]; exact p2 j (by omega)
    rw [wrap_i64 (n := i + 1) (by omega) (by omega)]
    refine If.dec.2 ⟨fun h16 => ?_, fun h16 => ?_⟩
    · -- four bytes make a word
      refine ⟨fun k hh => 0 ≤ k ∧ k ≤ 4 ∧ Only (· = h3.size) h4 hh ∧ ∃ w' : Ws 64, Var 133 hh h3.size (.words .u32 64 w') ∧ (∀ j, j ≠ i.toNat → wd w' j = wd w j) ∧ wd w' i.toNat = growN bs i.toNat k.toNat, fun k _ => ((4 : Int) - k).toNat,
        ⟨Int.le_refl 0, by decide, o5, w, v5, (fun j _ => rfl), p2 _ (Nat.le_refl _)⟩, ?_⟩
      rintro k h6 ⟨k0, k1, o6, w', v6, q1, q2⟩
      refine If.dec.2 ⟨fun hk => ?_, fun hk => ?_⟩
      · rw [wrap_i64 (n := 4 * i) (by omega) (by omega), wrap_i64 (n := 4 * i + k) (by omega) (by omega), wrap_i64 (n := k + 1) (by omega) (by omega)]
        refine ⟨i0, by omega, _, word_at v6 (by omega), by omega, by omega, i0, by omega, put_word v6 (i := i.toNat) (by omega) (by omega) fun h7 v7 o7 s7 => ?_⟩
        refine ⟨⟨by omega, by omega, o6.trans o7, _, v7, fun j hj => ?_, ?_⟩, by first | omega | (dsimp only; omega)⟩
        · rw [wd_set, if_neg (fun hx => hj hx.1.symm)]; exact q1 j hj
        · rw [wd_set, if_pos ⟨rfl, by omega⟩, q2]
          have t0' : (4 * i + k).toNat = 4 * i.toNat + k.toNat := by omega
          have t1' : (k + 1).toNat = k.toNat + 1 := by omega
          rw [t0', t1']
          rfl
      · have hk4 : k.toNat = 4 := by omega
        rw [hk4] at q2
        refine next h6 w' o6 v6 q1 ?_
        rw [q2, lay_low bs i.toNat (by omega)]
        exact grow4 _ _ _ _
    · rw [wrap_i64 (n := i - 15) (by omega) (by omega), wrap_i64 (n := i - 2) (by omega) (by omega), wrap_i64 (n := i - 16) (by omega) (by omega), wrap_i64 (n := i - 7) (by omega) (by omega)]
      have e15 : (i - 15).toNat = i.toNat - 15 := by omega
      have e2 : (i - 2).toNat = i.toNat - 2 := by omega
      have e16 : (i - 16).toNat = i.toNat - 16 := by omega
      have e7 : (i - 7).toNat = i.toNat - 7 := by omega
      rw [e15, e2, e16, e7]
      refine ⟨by omega, by omega, _, word_at v5 (by omega), by omega, by omega, _, word_at v5 (by omega), by omega, by omega, _, word_at v5 (by omega), by omega, by omega, _, word_at v5 (by omega), by decide, by decide, ?_⟩
      refine right_spec ⟨_, rfl, Ext.refl _, right_spec ⟨_, rfl, Ext.refl _, right_spec ⟨_, rfl, Ext.refl _, right_spec ⟨_, rfl, Ext.refl _, ?_⟩⟩⟩⟩
      refine ⟨i0, by omega, put_word v5 (i := i.toNat) (by omega) (by omega) fun h6 v6 o6 s6 => ?_⟩
      refine next h6 _ (o5.trans o6) v6 (fun j hj => by rw [wd_set, if_neg (fun hx => hj hx.1.symm)]) ?_
      rw [wd_set, if_pos ⟨rfl, by omega⟩, lay_high bs i.toNat (by omega) (by omega), ex_turned _ _ _ _ _ _ _ _ _ _ rfl rfl]
      unfold exAt
      rw [p1 _ (by omega), p1 _ (by omega), p1 _ (by omega), p1 _ (by omega), right7, right18, right17, right19]
  · have hw : w = layF bs := ws_eq fun j hj => p1 j (by omega)
    subst hw
    have va5 : Var 129 h5 h.size (.words .u32 8 w0) := va.only o5 (by omega)
    have vb5 : Var 133 h5 h1.size (.words .u32 64 keysW) := vb.only o5 (by omega)
    have vc5 : Var 129 h5 h2.size (.words .u32 8 (Ws.zero 8)) := vc.only o5 (by omega)
    refine ⟨by decide, by decide, _, word_at va5 (by decide), by decide, by decide, _, word_at va5 (by decide), by decide, by decide, _, word_at va5 (by decide), by decide, by decide, _, word_at va5 (by decide), by decide, by decide, _, word_at va5 (by decide),
      by decide, by decide, _, word_at va5 (by decide), by decide, by decide, _, word_at va5 (by decide), by decide, by decide, _, word_at va5 (by decide), ?_⟩
    refine ⟨fun σ hh => hh = h5 ∧ 0 ≤ σ.2.2.2.2.2.2.2.2 ∧ σ.2.2.2.2.2.2.2.2 ≤ 64 ∧ ∃ V : Ws 8, V = roundsW (layF bs) keysW w0 σ.2.2.2.2.2.2.2.2.toNat ∧ σ.1 = wd V 0 ∧ σ.2.1 = wd V 1 ∧ σ.2.2.1 = wd V 2 ∧ σ.2.2.2.1 = wd V 3 ∧ σ.2.2.2.2.1 = wd V 4 ∧ σ.2.2.2.2.2.1 = wd V 5 ∧ σ.2.2.2.2.2.2.1 = wd V 6 ∧ σ.2.2.2.2.2.2.2.1 = wd V 7,
      fun σ _ => ((64 : Int) - σ.2.2.2.2.2.2.2.2).toNat, ⟨rfl, Int.le_refl 0, (by decide : (0 : Int) ≤ 64), w0, rfl, rfl, rfl, rfl, rfl, rfl, rfl, rfl, rfl⟩, ?_⟩
    rintro ⟨a, b, c, d, e, f, g, k, j⟩ hh ⟨hhe, j0, j1, V, hV, ha, hb, hc, hd, he, hf, hg, hk⟩
    obtain rfl := hhe.symm
    dsimp only at j0 j1 hV ha hb hc hd he hf hg hk ⊢
    subst ha hb hc hd he hf hg hk
    refine If.dec.2 ⟨fun hj => ?_, fun hj => ?_⟩
    · rw [wrap_i64 (n := j + 1) (by omega) (by omega)]
      refine ⟨j0, by omega, _, word_at vb5 (by omega), j0, by omega, _, word_at v5 (by omega), ?_⟩
      refine right_spec ⟨_, rfl, Ext.refl _, right_spec ⟨_, rfl, Ext.refl _, right_spec ⟨_, rfl, Ext.refl _, right_spec ⟨_, rfl, right_spec ⟨_, rfl, right_spec ⟨_, rfl, ?_⟩⟩⟩⟩⟩⟩
      have hj1 : (j + 1).toNat = j.toNat + 1 := by omega
      obtain ⟨r0, r1, r2, r3, r4, r5, r6, r7⟩ := round_wd (layF bs) keysW j.toNat V
      refine ⟨⟨by trivial, by first | omega | (dsimp only; omega), by first | omega | (dsimp only; omega), roundW (layF bs) keysW j.toNat V, ?_, ?_, ?_, ?_, ?_, ?_, ?_, ?_, ?_⟩, by first | omega | (dsimp only; omega)⟩
      · rw [hj1, roundsW, ← hV]
      · rw [r0, ← right6, ← right11, ← right25, ← right2, ← right13, ← right22]; rfl
      · exact r1.symm
      · exact r2.symm
      · exact r3.symm
      · rw [r4, ← right6, ← right11, ← right25]; rfl
      · exact r5.symm
      · exact r6.symm
      · exact r7.symm
    · have hj2 : j.toNat = 64 := by omega
      rw [hj2] at hV
      refine ⟨by decide, by decide, _, word_at va5 (by decide), by decide, by decide, _, word_at va5 (by decide), by decide, by decide, _, word_at va5 (by decide), by decide, by decide, _, word_at va5 (by decide), by decide, by decide, _, word_at va5 (by decide),
        by decide, by decide, _, word_at va5 (by decide), by decide, by decide, _, word_at va5 (by decide), by decide, by decide, _, word_at va5 (by decide), ?_⟩
      have e8 := eight (takeF w0 bs)
      have sw : ∀ j, j < 8 → wd (takeF w0 bs) j = IntKind.wrap .u32 (wd w0 j + wd V j) := fun j hj => by
        unfold takeF
        rw [sum_wd _ _ 8 j (Nat.le_refl _), if_pos hj, hV]
      rw [sw 0 (by decide), sw 1 (by decide), sw 2 (by decide), sw 3 (by decide), sw 4 (by decide), sw 5 (by decide), sw 6 (by decide), sw 7 (by decide)] at e8
      have x05 : Ext h h5 := Only.cut x04 o5 fun i hi => by omega
      have fin : ∀ X : Ws 8, X = takeF w0 bs → wok h5 h2.size 0 8 ∧ Bind (TV.put h5 h2.size 0 (TV.words .u32 8 X)) fun hh => ∃ w : Ws 8, atWords hh h2.size 0 .u32 8 w ∧ R (TV.words .u32 8 w).val hh := by
        intro X hX
        subst hX
        exact put_in vc5 (t := .words .u32 8 (takeF w0 bs)) wsz fun h6 v6 o6 s6 => ⟨_, v6.at, hr h6 (Only.cut x05 o6 fun i hi => by omega)⟩
      exact fin _ e8

end
end Go.Proofs.YtldocdpdjdekiaaGreat.Board
end

section
/- The document's digest: primes, roots, and the whole. -/
namespace Go.Proofs.YtldocdpdjdekiaaGreat.Board
open Go Go.Vc
set_option maxRecDepth 100000

def mulHi (x y : Int) : Int := (IntKind.wrap IntKind.u64 (IntKind.wrap IntKind.u64 (IntKind.wrap IntKind.u64 (Int.fdiv x ((2 : Int) ^ min (Int.toNat (32 : Int)) (IntKind.bits IntKind.u64)) * Int.fdiv y ((2 : Int) ^ min (Int.toNat (32 : Int)) (IntKind.bits IntKind.u64))) + Int.fdiv (IntKind.wrap IntKind.u64 (IntKind.wrap IntKind.u64 (Int.fdiv x ((2 : Int) ^ min (Int.toNat (32 : Int)) (IntKind.bits IntKind.u64)) * IntKind.wrap IntKind.u64 (↑(BitVec.toNat (BitVec.ofInt (IntKind.bits IntKind.u64) y &&& BitVec.ofInt (IntKind.bits IntKind.u64) (4294967295 : Int))) : Int)) + Int.fdiv (IntKind.wrap IntKind.u64 (IntKind.wrap IntKind.u64 (↑(BitVec.toNat (BitVec.ofInt (IntKind.bits IntKind.u64) x &&& BitVec.ofInt (IntKind.bits IntKind.u64) (4294967295 : Int))) : Int) * IntKind.wrap IntKind.u64 (↑(BitVec.toNat (BitVec.ofInt (IntKind.bits IntKind.u64) y &&& BitVec.ofInt (IntKind.bits IntKind.u64) (4294967295 : Int))) : Int))) ((2 : Int) ^ min (Int.toNat (32 : Int)) (IntKind.bits IntKind.u64)))) ((2 : Int) ^ min (Int.toNat (32 : Int)) (IntKind.bits IntKind.u64))) + Int.fdiv (IntKind.wrap IntKind.u64 (IntKind.wrap IntKind.u64 (↑(BitVec.toNat (BitVec.ofInt (IntKind.bits IntKind.u64) (IntKind.wrap IntKind.u64 (IntKind.wrap IntKind.u64 (Int.fdiv x ((2 : Int) ^ min (Int.toNat (32 : Int)) (IntKind.bits IntKind.u64)) * IntKind.wrap IntKind.u64 (↑(BitVec.toNat (BitVec.ofInt (IntKind.bits IntKind.u64) y &&& BitVec.ofInt (IntKind.bits IntKind.u64) (4294967295 : Int))) : Int)) + Int.fdiv (IntKind.wrap IntKind.u64 (IntKind.wrap IntKind.u64 (↑(BitVec.toNat (BitVec.ofInt (IntKind.bits IntKind.u64) x &&& BitVec.ofInt (IntKind.bits IntKind.u64) (4294967295 : Int))) : Int) * IntKind.wrap IntKind.u64 (↑(BitVec.toNat (BitVec.ofInt (IntKind.bits IntKind.u64) y &&& BitVec.ofInt (IntKind.bits IntKind.u64) (4294967295 : Int))) : Int))) ((2 : Int) ^ min (Int.toNat (32 : Int)) (IntKind.bits IntKind.u64)))) &&& BitVec.ofInt (IntKind.bits IntKind.u64) (4294967295 : Int))) : Int) + IntKind.wrap IntKind.u64 (IntKind.wrap IntKind.u64 (↑(BitVec.toNat (BitVec.ofInt (IntKind.bits IntKind.u64) x &&& BitVec.ofInt (IntKind.bits IntKind.u64) (4294967295 : Int))) : Int) * Int.fdiv y ((2 : Int) ^ min (Int.toNat (32 : Int)) (IntKind.bits IntKind.u64))))) ((2 : Int) ^ min (Int.toNat (32 : Int)) (IntKind.bits IntKind.u64))))
def mulLo (x y : Int) : Int := IntKind.wrap .u64 (x * y)

def aboveF (x p power : Int) : Bool :=
  if power = 2 then (if p < mulHi x x then true else if mulHi x x = p then decide (0 < mulLo x x) else false)
  else
    let mid := (mulLo (mulHi x x) x + mulHi (mulLo x x) x + 0) % 18446744073709551616
    let top := IntKind.wrap .u64 (mulHi (mulHi x x) x + (mulLo (mulHi x x) x + mulHi (mulLo x x) x + 0) / 18446744073709551616)
    if top = Int.fdiv p ((2 : Int) ^ min (Int.toNat 32) (IntKind.bits .u64)) then
      (if mid = IntKind.wrap .u64 (p * (2 : Int) ^ min (Int.toNat 32) (IntKind.bits .u64)) then decide (0 < mulLo (mulLo x x) x)
       else decide (IntKind.wrap .u64 (p * (2 : Int) ^ min (Int.toNat 32) (IntKind.bits .u64)) < mid))
    else decide (Int.fdiv p ((2 : Int) ^ min (Int.toNat 32) (IntKind.bits .u64)) < top)

def rootGo (p power : Int) : Nat → Int → Int
  | 0, x => x
  | k + 1, x => if aboveF (IntKind.wrap .u64 (x + IntKind.wrap .u64 (1 * (2 : Int) ^ min (Int.toNat (IntKind.wrap .u64 (k : Int))) (IntKind.bits .u64)))) p power = true then rootGo p power k x
    else rootGo p power k (IntKind.wrap .u64 (x + IntKind.wrap .u64 (1 * (2 : Int) ^ min (Int.toNat (IntKind.wrap .u64 (k : Int))) (IntKind.bits .u64))))

def rootF (p power : Int) : Int := IntKind.wrap .u32 (Int.tmod (rootGo p power 40 0) 4294967296)

/-- The primes among the first numbers from 2 on. -/
def genL : Nat → List Int
  | 0 => []
  | k + 1 => if (genL k).all (fun p => !decide (Int.tmod ((k : Int) + 2) p = 0)) = true then genL k ++ [(k : Int) + 2] else genL k

abbrev u64s (l : List Int) : List TV := l.map (TV.int .u64)

section
variable {R : Value → Heap → Prop} {h : Heap}

theorem mul_spec {x y : Int} (hr : R (TV.tup [.int .u64 (mulHi x y), .int .u64 (mulLo x y)]).val h) : CallsH Tryz.prog 112 (TVs.vals [.int .u64 x, .int .u64 y]) h R := by
  apply math_bits_Mul64_calls
  unfold math_bits_Mul64_vc
  exact ⟨by decide, by decide, by decide, by decide, by decide, hr⟩

theorem above_spec {x p power : Int} (hr : R (TV.bool (aboveF x p power)).val h) : CallsH Tryz.prog 106 (TVs.vals [.int .u64 x, .int .u64 p, .int .i64 power]) h R := by
  apply tollerref03_above_calls
  unfold tollerref03_above_vc
  refine mul_spec ⟨_, _, rfl, ?_⟩
  unfold aboveF at hr
  refine If.dec.2 ⟨fun h2 => ?_, fun h2 => ?_⟩
  · rw [if_pos h2] at hr
    refine If.dec.2 ⟨fun h3 => ?_, fun h3 => If.dec.2 ⟨fun h4 => ?_, fun h4 => ?_⟩⟩
    · rw [if_pos h3] at hr; exact hr
    · rw [if_neg h3, if_pos h4] at hr; exact hr
    · rw [if_neg h3, if_neg h4] at hr; exact hr
  · rw [if_neg h2] at hr
    refine mul_spec ⟨_, _, rfl, mul_spec ⟨_, _, rfl, wrap_u64_nonneg _, ?_⟩⟩
    refine ⟨wrap_u64_nonneg _, Int.le_refl _, by decide, by decide, If.split (fun hb => ⟨by decide, ?_⟩) fun hb => ⟨by decide, If.split (fun hc => ?_) fun hc => ?_⟩⟩
    · have h3 : ¬ (IntKind.wrap .u64 (mulHi (mulHi x x) x + (mulLo (mulHi x x) x + mulHi (mulLo x x) x + 0) / 18446744073709551616) = Int.fdiv p ((2 : Int) ^ min (Int.toNat 32) (IntKind.bits .u64))) := by simpa using hb
      simp only [if_neg h3] at hr
      exact hr
    · have h3 : (IntKind.wrap .u64 (mulHi (mulHi x x) x + (mulLo (mulHi x x) x + mulHi (mulLo x x) x + 0) / 18446744073709551616) = Int.fdiv p ((2 : Int) ^ min (Int.toNat 32) (IntKind.bits .u64))) := by simpa using hb
      have h4 : ¬ ((mulLo (mulHi x x) x + mulHi (mulLo x x) x + 0) % 18446744073709551616 = IntKind.wrap .u64 (p * (2 : Int) ^ min (Int.toNat 32) (IntKind.bits .u64))) := by simpa using hc
      simp only [if_pos h3, if_neg h4] at hr
      exact hr
    · have h3 : (IntKind.wrap .u64 (mulHi (mulHi x x) x + (mulLo (mulHi x x) x + mulHi (mulLo x x) x + 0) / 18446744073709551616) = Int.fdiv p ((2 : Int) ^ min (Int.toNat 32) (IntKind.bits .u64))) := by simpa using hb
      have h4 : ((mulLo (mulHi x x) x + mulHi (mulLo x x) x + 0) % 18446744073709551616 = IntKind.wrap .u64 (p * (2 : Int) ^ min (Int.toNat 32) (IntKind.bits .u64))) := by simpa using hc
      simp only [if_pos h3, if_pos h4] at hr
      exact hr

theorem root_spec {p power : Int} (hr : R (TV.int .u32 (rootF p power)).val h) : CallsH Tryz.prog 87 (TVs.vals [.int .u64 p, .int .i64 power]) h R := by
  apply tollerref03_root_calls
  unfold tollerref03_root_vc
  obtain ⟨G, hG⟩ : ∃ G, G = rootGo p power 40 0 := ⟨_, rfl⟩
  unfold rootF at hr
  rw [← hG] at hr
  refine ⟨fun σ hh => hh = h ∧ ∃ k : Nat, k ≤ 40 ∧ σ.2 = (k : Int) - 1 ∧ G = rootGo p power k σ.1, fun σ _ => (σ.2 + 1).toNat, ⟨rfl, 40, Nat.le_refl _, rfl, hG⟩, ?_⟩
  clear hG
  rintro ⟨x, i⟩ hh ⟨rfl, k, hk, hi, hx⟩
  dsimp only at hi hx ⊢
  subst hi
  refine If.dec.2 ⟨fun h0 => ?_, fun h0 => ?_⟩
  · obtain ⟨m, rfl⟩ : ∃ m, k = m + 1 := ⟨k - 1, by omega⟩
    have hm : ((m + 1 : Nat) : Int) - 1 = (m : Int) := by omega
    rw [hm, wrap_i64 (n := (m : Int) - 1) (by omega) (by omega)]
    rw [rootGo] at hx
    refine ⟨wrap_u64_nonneg _, above_spec ⟨_, rfl, ?_⟩⟩
    cases hb : aboveF (IntKind.wrap .u64 (x + IntKind.wrap .u64 (1 * (2 : Int) ^ min (Int.toNat (IntKind.wrap .u64 (m : Int))) (IntKind.bits .u64)))) p power with
    | true =>
      rw [if_pos hb] at hx
      exact If.no ⟨⟨by trivial, m, by omega, rfl, hx⟩, by first | omega | (dsimp only; omega)⟩
    | false =>
      rw [if_neg (by rw [hb]; decide)] at hx
      exact If.yes ⟨wrap_u64_nonneg _, ⟨by trivial, m, by omega, rfl, hx⟩, by first | omega | (dsimp only; omega)⟩
  · have : k = 0 := by omega
    subst this
    rw [rootGo] at hx
    rw [hx] at hr
    exact ⟨by decide, hr⟩

theorem bytes57 : (ctx.ti 53).bytes = 8 := by kernel_rfl
theorem size57 : (ctx.ti 53).size = 1 := by kernel_rfl
theorem zsize57 : (ctx.ti 53).z.size = 1 := by kernel_rfl

theorem read_u64 {s : Sl} {l : List Int} {i : Int} (e : Elems 1 h s (u64s l)) (i0 : 0 ≤ i) (i1 : i < l.length) {K : Int → Prop} (hk : ∀ x, l[i.toNat]? = some x → K x) :
    0 ≤ i ∧ i < (s.len : Int) ∧ Nn s.a fun (p : Vc.Loc) => ∃ (n : Int), at1 h p.b (p.o + i.toNat * 1) (.int .u64 n) ∧ K n := by
  have hl := e.len
  rw [List.length_map] at hl
  refine e.read i0 (by omega) fun p t hla ht ha => ?_
  rw [List.getElem?_map] at ht
  obtain ⟨x, hx, rfl⟩ := Option.map_eq_some_iff.1 ht
  exact ⟨x, ha, hk x hx⟩

theorem genL_pos : ∀ k, ∀ p ∈ genL k, p ≠ 0
  | 0, p, hp => by cases hp
  | k + 1, p, hp => by
    rw [genL] at hp
    split at hp
    · rcases List.mem_append.1 hp with h1 | h1
      · exact genL_pos k p h1
      · have := List.mem_singleton.1 h1
        omega
    · exact genL_pos k p hp

theorem genL_len : ∀ k, (genL k).length ≤ k
  | 0 => Nat.le_refl _
  | k + 1 => by
    have := genL_len k
    rw [genL]
    split
    · rw [List.length_append, List.length_singleton]; omega
    · omega

theorem wrap_u64_small {n : Int} (h0 : 0 ≤ n) (h1 : n < 18446744073709551616) : IntKind.wrap .u64 n = n := by
  have : IntKind.wrap .u64 n = n % 18446744073709551616 := by
    unfold IntKind.wrap
    show (if (false && _) = true then _ else n % 2 ^ 64) = n % 18446744073709551616
    simp
  rw [this]
  omega

theorem primes_spec {n : Int} (J : Nat) (hJ : J < 1000) (hlt : ∀ j, j < J → ((genL j).length : Int) < n) (hge : n ≤ ((genL J).length : Int)) (hr : ∀ h' s, Own 53 1 h' s (u64s (genL J)) → Ext h h' → R (TV.slice s).val h') :
    CallsH Tryz.prog 86 (TVs.vals [.int .i64 n]) h R := by
  apply tollerref03_primes_calls
  unfold tollerref03_primes_vc
  refine ⟨fun σ hh => ∃ j : Nat, j ≤ J ∧ σ.2 = (j : Int) + 2 ∧ Own 53 1 hh σ.1 (u64s (genL j)) ∧ (∀ l, σ.1.a = some l → h.size ≤ l.b) ∧ Ext h hh, fun σ _ => ((J : Int) + 2 - σ.2).toNat, ⟨0, Nat.zero_le _, rfl, Own.nil _ _ _, (fun l hl => by cases hl), Ext.refl _⟩, ?_⟩
  rintro ⟨s, c⟩ h1 ⟨j, hj, hc, o1, b1, x1⟩
  dsimp only at hc o1 b1 ⊢
  subst hc
  have hlen := o1.len
  rw [List.length_map] at hlen
  have hjl := genL_len j
  refine If.dec.2 ⟨fun hn => ?_, fun hn => ?_⟩
  · have hjJ : j < J := by
      rcases Nat.lt_or_ge j J with h2 | h2
      · exact h2
      · have : j = J := by omega
        subst this
        omega
    refine ⟨fun σ hh => hh = h1 ∧ 0 ≤ σ.2 ∧ σ.2 ≤ s.len ∧ σ.1 = ((genL j).take σ.2.toNat).all (fun p => !decide (Int.tmod ((j : Int) + 2) p = 0)), fun σ _ => ((s.len : Int) - σ.2).toNat, ⟨rfl, Int.le_refl 0, by first | omega | (dsimp only; omega), rfl⟩, ?_⟩
    rintro ⟨f, i⟩ hh ⟨hhe, i0, i1, hf⟩
    obtain rfl := hhe.symm
    dsimp only at i0 i1 hf ⊢
    refine If.dec.2 ⟨fun hi => ?_, fun hi => ?_⟩
    · refine read_u64 o1.elems i0 (by omega) fun x hx => ?_
      have hx0 := genL_pos j x (List.mem_of_getElem? hx)
      have hi1 : (i + 1).toNat = i.toNat + 1 := by omega
      rw [wrap_i64 (n := i + 1) (by omega) (by omega)]
      have htk : ((genL j).take (i.toNat + 1)).all (fun p => !decide (Int.tmod ((j : Int) + 2) p = 0)) = (f && !decide (Int.tmod ((j : Int) + 2) x = 0)) := by
        rw [take_snoc hx, List.all_append, ← hf]
        simp
      cases f with
      | true =>
        refine If.yes ⟨hx0, ⟨by trivial, by first | omega | (dsimp only; omega), by first | omega | (dsimp only; omega), ?_⟩, by first | omega | (dsimp only; omega)⟩
        try dsimp only
        rw [hi1, htk, Bool.true_and]
      | false =>
        refine If.no ⟨⟨by trivial, by first | omega | (dsimp only; omega), by first | omega | (dsimp only; omega), ?_⟩, by first | omega | (dsimp only; omega)⟩
        try dsimp only
        rw [hi1, htk, Bool.false_and]
    · have hi2 : i.toNat = (genL j).length := by omega
      rw [hi2, List.take_length] at hf
      rw [wrap_u64_small (n := (j : Int) + 2 + 1) (by omega) (by omega)]
      have hg : genL (j + 1) = if f = true then genL j ++ [(j : Int) + 2] else genL j := by rw [genL, ← hf]
      cases f with
      | true =>
        refine If.yes (append1 (C := ctx) (T := 53) (sz := 1) (x := .int .u64 ((j : Int) + 2)) size57 zsize57 (by rw [bytes57]; decide) (by rw [bytes57]; omega) o1 rfl rfl fun s4 h4 o4 f4 b4 => ?_)
        refine ⟨⟨j + 1, by omega, by first | omega | (dsimp only; omega), ?_, fun l hl => ?_, Only.cut x1 f4 fun i ⟨l, hl, e⟩ => by rw [← e]; exact b1 l hl⟩, by first | omega | (dsimp only; omega)⟩
        · rw [hg, if_pos rfl]
          simp only [u64s, List.map_append, List.map_cons, List.map_nil] at o4 ⊢
          exact o4
        · rcases b4 l hl with ⟨l', h9, h10⟩ | h9
          · rw [← h10]; exact b1 l' h9
          · have := x1.size; omega
      | false =>
        refine If.no ⟨⟨j + 1, by omega, by first | omega | (dsimp only; omega), ?_, b1, x1⟩, by first | omega | (dsimp only; omega)⟩
        rw [hg, if_neg (by decide)]
        exact o1
  · have : j = J := by
      rcases Nat.lt_or_ge j J with h2 | h2
      · have := hlt j h2; omega
      · omega
    subst this
    exact hr h1 s o1 x1

theorem genL_mono : ∀ k m, k ≤ m → (genL k).length ≤ (genL m).length := by
  intro k m hkm
  induction m with
  | zero => have : k = 0 := by omega
            subst this; exact Nat.le_refl _
  | succ m ih =>
    by_cases hk : k = m + 1
    · subst hk; exact Nat.le_refl _
    · have := ih (by omega)
      rw [genL]
      split
      · rw [List.length_append]; omega
      · exact this

theorem p8 : (genL 17).length = 7 ∧ (genL 18).length = 8 := by decide +kernel
theorem p64 : (genL 309).length = 63 ∧ (genL 310).length = 64 := by decide +kernel
theorem firsts : (genL 18).map (fun p => rootF p 2) = firstW.l := by decide +kernel
theorem keysR : (genL 310).map (fun p => rootF p 3) = keysW.l := by decide +kernel

end
end Go.Proofs.YtldocdpdjdekiaaGreat.Board
end

section
/- The document's digest of any text, block by block. -/
namespace Go.Proofs.YtldocdpdjdekiaaGreat.Board
open Go Go.Vc

def padK (n : Nat) : Nat := (119 - n % 64) % 64

def rlens (n : Int) : Nat → List UInt8
  | 0 => []
  | m + 1 => rlens n m ++ [UInt8.ofNat (IntKind.wrap .u8 (Int.fdiv (IntKind.wrap .u64 (IntKind.wrap .u64 n * 8)) ((2 : Int) ^ min (Int.toNat (IntKind.wrap .u64 (IntKind.wrap .i64 (8 * (7 - (m : Int)))))) (IntKind.bits .u64)))).toNat]

def padF (s : List UInt8) : List UInt8 := ((s ++ [128]) ++ List.replicate (padK s.length) 0) ++ rlens (s.length : Int) 8

def foldP (t : List UInt8) (w : Ws 8) : Nat → Ws 8
  | 0 => w
  | n + 1 => takeF (foldP t w n) ((t.drop (64 * n)).take 64)

/-- The document's digest. -/
def docF (s : List UInt8) : Bs 32 := outF (foldP (padF s) firstW ((padF s).length / 64)) 8

theorem rlens_length (n : Int) : ∀ m, (rlens n m).length = m
  | 0 => rfl
  | m + 1 => by simp [rlens, rlens_length n m]

theorem padF_length (s : List UInt8) : (padF s).length = s.length + 1 + padK s.length + 8 := by
  unfold padF
  rw [List.length_append, List.length_append, List.length_append, rlens_length]
  simp

theorem padF_mod (s : List UInt8) : (padF s).length % 64 = 0 := by
  rw [padF_length]
  unfold padK
  omega

def rb (w : Ws 8) (i : Nat) : UInt8 := if i % 4 = 3 then UInt8.ofNat (IntKind.wrap .u8 (wd w (i / 4))).toNat else UInt8.ofNat (ob (wd w (i / 4)) (24 - 8 * ((i % 4 : Nat) : Int))).toNat

def rout (w : Ws 8) : Nat → Bs 32
  | 0 => Bs.zero 32
  | i + 1 => (rout w i).set i (rb w i)

theorem rout_out (w : Ws 8) : rout w 32 = outF w 8 := by kernel_rfl

theorem byte_exp : ∀ i : Fin 32, min (Int.toNat (IntKind.wrap .u64 (IntKind.wrap .i64 (24 - IntKind.wrap .i64 (8 * Int.tmod ((i.val : Nat) : Int) 4))))) (IntKind.bits .u32) = 24 - 8 * (i.val % 4) := by decide +kernel
theorem ob_exp : ∀ i : Fin 32, min (Int.toNat (24 - 8 * ((i.val % 4 : Nat) : Int))) (IntKind.bits .u32) = 24 - 8 * (i.val % 4) := by decide +kernel

theorem rb_eq (w : Ws 8) (i : Nat) (hi : i < 32) : rb w i = UInt8.ofNat (IntKind.wrap .u8 (Int.fdiv (wd w (i / 4)) ((2 : Int) ^ min (Int.toNat (IntKind.wrap .u64 (IntKind.wrap .i64 (24 - IntKind.wrap .i64 (8 * Int.tmod (i : Int) 4))))) (IntKind.bits .u32)))).toNat := by
  have e1 := byte_exp ⟨i, hi⟩
  have e2 := ob_exp ⟨i, hi⟩
  dsimp only at e1 e2
  rw [e1]
  unfold rb ob
  rw [e2]
  split
  · rename_i h3
    rw [h3]
    have : Int.fdiv (wd w (i / 4)) ((2 : Int) ^ (24 - 8 * 3)) = wd w (i / 4) := by
      show Int.fdiv (wd w (i / 4)) 1 = wd w (i / 4)
      exact Int.fdiv_one _
    rw [this]
  · rfl

section
variable {R : Value → Heap → Prop} {h : Heap}

theorem str1 {h : Heap} {c : Int} (c0 : 0 ≤ c) (c1 : c < 256) : strAt (h.push (row (TVs.cells [TV.int .u8 c]) 5)) (Sl.mk (some (Vc.Loc.mk h.size 0)) 1 1) [UInt8.ofNat c.toNat] := by
  refine ⟨rfl, .inr ⟨_, rfl, fun j hj => ?_⟩⟩
  have hj0 : j = 0 := by simpa using hj
  subst hj0
  have hg := push_get h (row (TVs.cells [TV.int .u8 c]) 5)
  have := at1_row (o := 0) hg (v := Value.int .u8 c) rfl
  unfold at1 at this
  rw [this]
  have e : ((UInt8.ofNat c.toNat).toNat : Int) = c := by
    rw [UInt8.toNat_ofNat']
    omega
  show some (Value.int .u8 c) = some (Value.int .u8 ((UInt8.ofNat c.toNat).toNat : Int))
  rw [e]

theorem filled {n : Nat} {W : Ws n} {l : List Int} (hl : l.length = n) (h : ∀ j x, l[j]? = some x → wd W j = x) : W.l = l := by
  apply List.ext_getElem (by rw [W.h, hl])
  intro j h1 h2
  have := h j l[j] (List.getElem?_eq_getElem h2)
  unfold wd at this
  rw [← this]
  simp [List.getD_eq_getElem?_getD, h1]

set_option maxRecDepth 100000 in
set_option maxHeartbeats 1000000 in
theorem docof_spec {s : List UInt8} (hs : s.length < 100000) (hr : ∀ h', Ext h h' → R (TV.bytes 32 (docF s)).val h') : CallsH Tryz.prog 52 (TVs.vals [.str s]) h R := by
  apply tollerref03_Of_calls
  unfold tollerref03_Of_vc
  refine newTV_in fun h1 v1 x1 s1 => ⟨by show ((s.length + 1 : Nat) : Int) ≤ _; omega, ?_⟩
  have hpk : padK s.length < 64 := by unfold padK; omega
  refine ⟨fun t hh => hh = h1 ∧ ∃ k, k ≤ padK s.length ∧ t = (s ++ [128]) ++ List.replicate k 0, fun t _ => s.length + 200 - t.length, ⟨rfl, 0, Nat.zero_le _, by simp⟩, ?_⟩
  rintro t hh ⟨hhe, k, hk, rfl⟩
  obtain rfl := hhe.symm
  have htl : ((s ++ [128]) ++ List.replicate k (0 : UInt8)).length = s.length + 1 + k := by simp; omega
  refine ⟨by decide, If.split (fun hb => ?_) fun hb => ?_⟩
  · have hne : ¬ Int.tmod (((s ++ [128]) ++ List.replicate k (0 : UInt8)).length : Int) 64 = 56 := by simpa using hb
    rw [htl, Int.tmod_eq_emod_of_nonneg (by omega)] at hne
    have hk' : k ≠ padK s.length := fun e => hne (by rw [e]; unfold padK; omega)
    have hone : List.length (ByteArray.mk #[(0 : UInt8)]).data.toList = 1 := rfl
    refine ⟨by rw [hone]; have htl2 := htl; omega, ⟨by trivial, k + 1, by omega, ?_⟩, ?_⟩
    · show ((s ++ [128]) ++ List.replicate k 0) ++ [0] = _
      rw [List.replicate_succ', List.append_assoc]
    · show s.length + 200 - (((s ++ [128]) ++ List.replicate k (0 : UInt8)) ++ [0]).length < s.length + 200 - ((s ++ [128]) ++ List.replicate k (0 : UInt8)).length
      rw [List.length_append, htl, List.length_singleton]
      omega
  have heq : Int.tmod (((s ++ [128]) ++ List.replicate k (0 : UInt8)).length : Int) 64 = 56 := by simpa using hb
  rw [htl, Int.tmod_eq_emod_of_nonneg (by omega)] at heq
  have hkk : k = padK s.length := by unfold padK at hk ⊢; omega
  subst hkk
  have hbase : padF s = ((s ++ [128]) ++ List.replicate (padK s.length) 0) ++ rlens (s.length : Int) 8 := rfl
  generalize (s ++ [128]) ++ List.replicate (padK s.length) (0 : UInt8) = base at *
  refine ⟨fun σ hh => ∃ m : Nat, m ≤ 8 ∧ σ.2 = 7 - (m : Int) ∧ σ.1 = base ++ rlens (s.length : Int) m ∧ Ext h1 hh, fun σ _ => (σ.2 + 1).toNat, ⟨0, by decide, rfl, by simp [rlens], Ext.refl _⟩, ?_⟩
  rintro ⟨t, kk⟩ h2 ⟨m, hm, hk2, ht, x2⟩
  dsimp only at hk2 ht ⊢
  subst hk2 ht
  refine If.dec.2 ⟨fun h0 => ?_, fun h0 => ?_⟩
  · have hw := wrap_u8_range (Int.fdiv (IntKind.wrap .u64 (IntKind.wrap .u64 (s.length : Int) * 8)) ((2 : Int) ^ min (Int.toNat (IntKind.wrap .u64 (IntKind.wrap .i64 (8 * (7 - (m : Int)))))) (IntKind.bits .u64)))
    rw [wrap_i64 (n := 7 - (m : Int) - 1) (by omega) (by omega)]
    refine ⟨wrap_u64_nonneg _, _, str1 hw.1 hw.2, ?_, ⟨m + 1, by omega, by first | omega | (dsimp only; omega), ?_, x2.trans (Ext.push _ _)⟩, by first | omega | (dsimp only; omega)⟩
    · rw [List.length_append, rlens_length, htl, List.length_singleton]
      omega
    · show (base ++ rlens (s.length : Int) m) ++ _ = base ++ rlens (s.length : Int) (m + 1)
      rw [rlens, List.append_assoc]
  have hm8 : m = 8 := by omega
  subst hm8
  rw [← hbase]
  have hmod := padF_mod s
  have hpl := padF_length s
  generalize hT : padF s = T at *
  have x12 := x1.trans x2
  refine newTV_in fun h3 v3 x3 s3 => primes_spec 18 (by decide) (fun j hj => ?_) (by rw [p8.2]; decide) fun h4 sl4 o4 x4 => ⟨_, rfl, ?_⟩
  · have := genL_mono j 17 (by omega)
    rw [p8.1] at this
    omega
  have l4 := o4.len
  rw [List.length_map, p8.2] at l4
  have v4 := v3.ext x4
  refine ⟨fun i hh => 0 ≤ i ∧ i ≤ 8 ∧ Only (· = h2.size) h4 hh ∧ ∃ W : Ws 8, Var 129 hh h2.size (.words .u32 8 W) ∧ ∀ j x, j < i.toNat → (genL 18)[j]? = some x → wd W j = rootF x 2, fun i _ => ((8 : Int) - i).toNat,
    ⟨Int.le_refl 0, by decide, Only.refl _ _, _, v4, fun j x hj => absurd hj (by simp)⟩, ?_⟩
  rintro i h5 ⟨i0, i1, f5, W, v5, hW⟩
  have sep4 : ∀ l, sl4.a = some l → l.b ≠ h2.size := fun l hl => by
    intro he
    rcases o4.row with hn | ⟨b, rest, ha, hb, _⟩
    · rw [hn] at hl; cases hl
    · rw [ha] at hl
      cases hl
      have : b = h2.size := he
      subst this
      have hv : h4[h2.size]? = _ := v4
      rw [hb] at hv
      injection hv with hv
      unfold row at hv
      injection hv with _ h9
      exact absurd h9 (by decide)
  have o5 := o4.only f5 sep4
  refine If.dec.2 ⟨fun hi => ?_, fun hi => ?_⟩
  · rw [wrap_i64 (n := i + 1) (by omega) (by omega)]
    refine read_u64 o5.elems i0 (by rw [p8.2]; omega) fun x hx => root_spec ⟨_, rfl, i0, by omega, put_word v5 (i := i.toNat) (by omega) (by omega) fun h6 v6 f6 s6 => ?_⟩
    have hi1 : (i + 1).toNat = i.toNat + 1 := by omega
    refine ⟨⟨by omega, by omega, f5.trans f6, _, v6, fun j y hj hy => ?_⟩, by first | omega | (dsimp only; omega)⟩
    rw [wd_set]
    by_cases hji : i.toNat = j
    · subst hji
      rw [if_pos ⟨rfl, by omega⟩]
      rw [hx] at hy
      injection hy with hy
      rw [hy]
    · rw [if_neg (fun he => hji he.1)]
      exact hW j y (by omega) hy
  have hi8 : i = 8 := by omega
  subst hi8
  have hWf : W = firstW := by
    apply Ws.ext'
    rw [← firsts]
    refine filled (by rw [List.length_map, p8.2]) fun j x hx => ?_
    rw [List.getElem?_map] at hx
    obtain ⟨y, hy, rfl⟩ := Option.map_eq_some_iff.1 hx
    have hj := (List.getElem?_eq_some_iff.1 hy).1
    rw [p8.2] at hj
    exact hW j y (by simpa using hj) hy
  subst hWf
  have q25 : h2.size < h5.size := v5.lt
  have x25 : Ext h2 h5 := Only.cut (x3.trans x4) f5 fun i hi => by omega
  have z25 := x25.size
  refine newTV_in fun h6 v6 x6 s6 => primes_spec 310 (by decide) (fun j hj => ?_) (by rw [p64.2]; decide) fun h7 sl7 o7 x7 => ⟨_, rfl, ?_⟩
  · have := genL_mono j 309 (by omega)
    rw [p64.1] at this
    omega
  have l7 := o7.len
  rw [List.length_map, p64.2] at l7
  have v7 := v6.ext x7
  have v57 : Var 129 h7 h2.size (.words .u32 8 firstW) := (v5.ext x6).ext x7
  refine ⟨fun i hh => 0 ≤ i ∧ i ≤ 64 ∧ Only (· = h5.size) h7 hh ∧ ∃ W : Ws 64, Var 133 hh h5.size (.words .u32 64 W) ∧ ∀ j x, j < i.toNat → (genL 310)[j]? = some x → wd W j = rootF x 3, fun i _ => ((64 : Int) - i).toNat,
    ⟨Int.le_refl 0, by decide, Only.refl _ _, _, v7, fun j x hj => absurd hj (by simp)⟩, ?_⟩
  rintro i h8 ⟨i0, i1, f8, W, v8, hW⟩
  have sep7 : ∀ l, sl7.a = some l → l.b ≠ h5.size := fun l hl => by
    intro he
    rcases o7.row with hn | ⟨b, rest, ha, hb, _⟩
    · rw [hn] at hl; cases hl
    · rw [ha] at hl
      cases hl
      have : b = h5.size := he
      subst this
      have hv : h7[h5.size]? = _ := v7
      rw [hb] at hv
      injection hv with hv
      unfold row at hv
      injection hv with _ h9
      exact absurd h9 (by decide)
  have o8 := o7.only f8 sep7
  refine If.dec.2 ⟨fun hi => ?_, fun hi => ?_⟩
  · rw [wrap_i64 (n := i + 1) (by omega) (by omega)]
    refine read_u64 o8.elems i0 (by rw [p64.2]; omega) fun x hx => root_spec ⟨_, rfl, i0, by omega, put_word v8 (i := i.toNat) (by omega) (by omega) fun h9 v9 f9 s9 => ?_⟩
    have hi1 : (i + 1).toNat = i.toNat + 1 := by omega
    refine ⟨⟨by omega, by omega, f8.trans f9, _, v9, fun j y hj hy => ?_⟩, by first | omega | (dsimp only; omega)⟩
    rw [wd_set]
    by_cases hji : i.toNat = j
    · subst hji
      rw [if_pos ⟨rfl, by omega⟩]
      rw [hx] at hy
      injection hy with hy
      rw [hy]
    · rw [if_neg (fun he => hji he.1)]
      exact hW j y (by omega) hy
  have hi64 : i = 64 := by omega
  subst hi64
  have hWk : W = keysW := by
    apply Ws.ext'
    rw [← keysR]
    refine filled (by rw [List.length_map, p64.2]) fun j x hx => ?_
    rw [List.getElem?_map] at hx
    obtain ⟨y, hy, rfl⟩ := Option.map_eq_some_iff.1 hx
    have hj := (List.getElem?_eq_some_iff.1 hy).1
    rw [p64.2] at hj
    exact hW j y (by simpa using hj) hy
  subst hWk
  have v28 : Var 129 h8 h2.size (.words .u32 8 firstW) := v57.only f8 (by omega)
  have x58 : Ext h5 h8 := Only.cut (x6.trans x7) f8 fun i hi => by omega
  refine ⟨fun at_ hh => ∃ n : Nat, 64 * n ≤ T.length ∧ at_ = ((64 * n : Nat) : Int) ∧ Var 129 hh h2.size (.words .u32 8 (foldP T firstW n)) ∧ Only (· = h2.size) h8 hh, fun at_ _ => ((T.length : Int) - at_).toNat, ⟨0, Nat.zero_le _, rfl, v28, Only.refl _ _⟩, ?_⟩
  rintro at_ h9 ⟨n, hn, rfl, v9, f9⟩
  have v59 : Var 133 h9 h5.size (.words .u32 64 keysW) := v8.only f9 (by omega)
  refine If.dec.2 ⟨fun hi => ?_, fun hi => ?_⟩
  · rw [wrap_i64 (n := ((64 * n : Nat) : Int) + 64) (by omega) (by omega)]
    refine ⟨_, v9.at, _, v59.at, by omega, by omega, by omega, by omega, ?_⟩
    have hcut : List.take ((((64 * n : Nat) : Int) + 64).toNat - ((64 * n : Nat) : Int).toNat) (List.drop ((64 * n : Nat) : Int).toNat T) = (T.drop (64 * n)).take 64 := by
      have e1 : (((64 * n : Nat) : Int) + 64).toNat - ((64 * n : Nat) : Int).toNat = 64 := by omega
      rw [e1, Int.toNat_natCast]
    rw [hcut]
    refine block_spec (by rw [List.length_take, List.length_drop]; omega) fun h10 x10 => ⟨_, rfl, ?_⟩
    refine put_in (v9.ext x10) (t := .words .u32 8 (foldP T firstW (n + 1))) wsz fun h11 v11 f11 s11 => ?_
    have hb9 := v9.lt
    refine ⟨⟨n + 1, by omega, by omega, v11, f9.trans ((Only.of_ext x10).trans f11)⟩, by first | omega | (dsimp only; omega)⟩
  have hn2 : n = T.length / 64 := by omega
  rw [hn2] at v9
  have z9 := f9.size
  have hb9 := v9.lt
  have hlt2 : h.size < h2.size := by have := x2.size; omega
  refine newTV_in fun h10 v10 x10 s10 => ?_
  refine ⟨fun i hh => 0 ≤ i ∧ i ≤ 32 ∧ Only (· = h9.size) h10 hh ∧ Var 24 hh h9.size (.bytes 32 (rout (foldP T firstW (T.length / 64)) i.toNat)), fun i _ => ((32 : Int) - i).toNat, ⟨Int.le_refl 0, by decide, Only.refl _ _, v10⟩, ?_⟩
  rintro i h11 ⟨i0, i1, f11, v11⟩
  have v911 : Var 129 h11 h2.size (.words .u32 8 (foldP T firstW (T.length / 64))) := (v9.ext x10).only f11 (by omega)
  refine If.dec.2 ⟨fun hi => ?_, fun hi => ?_⟩
  · have hq : Int.tdiv i 4 = i / 4 := Int.tdiv_eq_ediv_of_nonneg i0
    have hq2 : (i / 4).toNat = i.toNat / 4 := by omega
    rw [wrap_i64 (n := i + 1) (by omega) (by omega), hq, wrap_i64 (n := i / 4) (by omega) (by omega), hq2]
    refine ⟨by decide, by omega, by omega, _, word_at v911 (by omega), by decide, wrap_u64_nonneg _, i0, by omega, ?_⟩
    have hw := wrap_u8_range (Int.fdiv (wd (foldP T firstW (T.length / 64)) (i.toNat / 4)) ((2 : Int) ^ min (Int.toNat (IntKind.wrap .u64 (IntKind.wrap .i64 (24 - IntKind.wrap .i64 (8 * Int.tmod i 4))))) (IntKind.bits .u32)))
    refine put_byte v11 (i := i.toNat) (by omega) (by omega) hw.1 hw.2 fun h12 v12 f12 s12 => ?_
    have hi1 : (i + 1).toNat = i.toNat + 1 := by omega
    refine ⟨⟨by omega, by omega, f11.trans f12, ?_⟩, by first | omega | (dsimp only; omega)⟩
    rw [hi1, rout, rb_eq _ _ (by omega)]
    have hcast : ((i.toNat : Nat) : Int) = i := by omega
    rw [hcast]
    exact v12
  have hi32 : i.toNat = 32 := by omega
  rw [hi32, rout_out] at v11
  have x911 : Ext h9 h11 := Only.cut x10 f11 fun i hi => by omega
  have x28 := x25.trans x58
  have v1' : Var 24 h11 h.size (.bytes 32 (Bs.zero 32)) := ((((v1.ext x2).ext x28).only f9 (by omega)).ext x911)
  have hdoc : docF s = outF (foldP T firstW (T.length / 64)) 8 := by unfold docF; rw [hT]
  refine ⟨_, v11.bytes, put_in v1' (t := .bytes 32 (outF (foldP T firstW (T.length / 64)) 8)) bsz fun h12 v12 f12 s12 => ⟨_, v12.bytes, ?_⟩⟩
  rw [← hdoc]
  refine hr h12 ?_
  have x09 : Ext h h9 := Only.cut (x12.trans x28) f9 fun i hi => by omega
  exact Only.cut (x09.trans x911) f12 fun i hi => by omega

end
end Go.Proofs.YtldocdpdjdekiaaGreat.Board
end

section
/- The program's digest of texts of any length. -/
namespace Go.Proofs.YtldocdpdjdekiaaGreat.Board
open Go Go.Vc

abbrev bcells (bs : List UInt8) : List Value := bs.map fun c => Value.int .u8 (c.toNat : Int)

theorem bcells_one (bs : List UInt8) : ∀ v ∈ bcells bs, isOne v = true := fun v hv => by
  obtain ⟨c, _, rfl⟩ := List.mem_map.1 hv
  rfl

/-- A row of bytes, not from its block's beginning maybe, in blocks of Q, as all blocks to come are. -/
structure Row2 (Q : Nat → Prop) (h : Heap) (s : Sl) (bs : List UInt8) : Prop where
  len : bs.length = s.len
  cap : s.len ≤ s.cap
  row : (s.a = none ∧ s.cap = 0) ∨ ∃ b pre rest, s.a = some ⟨b, pre.length⟩ ∧ h[b]? = some (Go.Vc.row (pre ++ bcells bs ++ rest) 5) ∧ s.cap - s.len ≤ rest.length
  far : ∀ l, s.a = some l → Q l.b
  new : ∀ i, h.size ≤ i → Q i

section
variable {R : Value → Heap → Prop} {h : Heap} {Q : Nat → Prop} {s : Sl} {bs : List UInt8}

theorem Row2.lt (r : Row2 Q h s bs) : ∀ l, s.a = some l → l.b < h.size := fun l hl => by
  rcases r.row with ⟨hn, _⟩ | ⟨b, pre, rest, ha, hb, _⟩
  · rw [hn] at hl; cases hl
  · rw [ha] at hl; cases hl
    exact row_lt hb

theorem Row2.only {S : Nat → Prop} {h' : Heap} (r : Row2 Q h s bs) (o : Only S h h') (hs : ∀ l, s.a = some l → ¬ S l.b) : Row2 Q h' s bs := by
  refine ⟨r.len, r.cap, ?_, r.far, fun i hi => r.new i (Nat.le_trans o.size hi)⟩
  rcases r.row with h1 | ⟨b, pre, rest, ha, hb, hc⟩
  · exact .inl h1
  · exact .inr ⟨b, pre, rest, ha, (o.same b (row_lt hb) (hs _ ha)).trans hb, hc⟩

theorem Row2.elems (r : Row2 Q h s bs) : Elems 1 h s (bys bs) := by
  refine ⟨by rw [List.length_map]; exact r.len, fun hn => ?_, fun l hl i t ht => ?_⟩
  · rcases r.row with ⟨_, hc⟩ | ⟨b, pre, rest, ha, _⟩
    · have := r.len
      have := r.cap
      have : bs = [] := List.eq_nil_of_length_eq_zero (by omega)
      rw [this]
      rfl
    · rw [ha] at hn; cases hn
  · rcases r.row with ⟨hn, _⟩ | ⟨b, pre, rest, ha, hb, _⟩
    · rw [hn] at hl; cases hl
    · rw [ha] at hl
      cases hl
      rw [List.getElem?_map] at ht
      obtain ⟨c, hc, rfl⟩ := Option.map_eq_some_iff.1 ht
      show at1 h b (pre.length + i * 1) (.int .u8 (c.toNat : Int))
      refine at1_row hb ?_
      have hi := (List.getElem?_eq_some_iff.1 hc).1
      rw [Nat.mul_one, List.append_assoc, List.getElem?_append_right (Nat.le_add_right _ _), Nat.add_sub_cancel_left, List.getElem?_append_left (by rw [List.length_map]; exact hi), List.getElem?_map, hc]
      rfl

theorem Row2.cut2 (r : Row2 Q h s bs) {h' : Heap} (o : Only (In s) h h') : Only Q h h' := o.mono fun i ⟨l, hl, e⟩ => by rw [← e]; exact r.far l hl

theorem app2 {us : List UInt8} {K : Sl → Heap → Prop} (r : Row2 Q h s bs) (hl : bs.length + us.length < 1000000)
    (hk : ∀ s' h', Row2 Q h' s' (bs ++ us) → Only (In s) h h' → (∀ l, s'.a = some l → (∃ l', s.a = some l' ∧ l'.b = l.b) ∨ h.size ≤ l.b) → K s' h') :
    vcAppend ctx 5 s us.length (bcells us) h K := by
  have rl := r.len
  have rc := r.cap
  have blen : (bcells bs).length = s.len := by rw [List.length_map]; exact rl
  have ulen : (bcells us).length = us.length := List.length_map ..
  have both : bcells (bs ++ us) = bcells bs ++ bcells us := List.map_append ..
  refine ⟨bcells bs, ?_, by rw [bytes5]; omega, by rw [bytes5]; decide, fun hroom => ?_, fun hroom hn => ?_, fun hroom c hc => ?_⟩
  · rw [size5]
    refine ⟨by rw [blen, Nat.mul_one], ?_⟩
    rcases r.row with ⟨hn, hc⟩ | ⟨b, pre, rest, ha, hb, _⟩
    · exact .inl ⟨by omega, hn⟩
    · refine .inr ⟨_, ha, fun j hj => ?_⟩
      show cel h b (pre.length + j) = _
      rw [List.getElem?_eq_getElem hj]
      refine at1_row hb ?_
      rw [List.append_assoc, List.getElem?_append_right (Nat.le_add_right _ _), Nat.add_sub_cancel_left, List.getElem?_append_left hj, List.getElem?_eq_getElem hj]
  · rcases r.row with ⟨hn, hc⟩ | ⟨b, pre, rest, ha, hb, hr⟩
    · exact ⟨.inl (by omega), fun l hl => by rw [hn] at hl; cases hl⟩
    · refine ⟨.inr (by rw [ha]; rfl), fun l hl => ?_⟩
      rw [ha] at hl
      cases hl
      rw [size5]
      show wok h b (pre.length + s.len * 1) (bcells us).length ∧ _
      rw [Nat.mul_one]
      have hfit : pre.length + s.len + (bcells us).length ≤ (pre ++ bcells bs ++ rest).length := by
        rw [List.length_append, List.length_append, blen, ulen]
        omega
      refine ⟨wok_row hb hfit, ?_⟩
      obtain ⟨g1, g2, g3⟩ := putl_get (bcells us) h b (pre.length + s.len) _ 5 hb hfit
      refine hk _ _ ⟨by rw [List.length_append]; show _ = s.len + us.length; omega, hroom, .inr ⟨b, pre, rest.drop us.length, rfl, ?_, ?_⟩, ?_, fun i hi => r.new i (by rw [g2] at hi; exact hi)⟩ ⟨by rw [g2]; exact Nat.le_refl _, fun b' hb' hn => g3 b' (fun hx => hn ⟨_, ha, hx.symm⟩)⟩ fun l hl => by
        cases hl
        exact .inl ⟨_, ha, rfl⟩
      · rw [g1, both]
        congr 2
        have e1 : pre.length + s.len = (pre ++ bcells bs).length := by rw [List.length_append, blen]
        rw [e1, List.take_left, ulen, List.drop_append, List.drop_eq_nil_of_le (by omega), List.nil_append, Nat.add_sub_cancel_left, ← List.append_assoc]
      · rw [List.length_drop]
        show s.cap - (s.len + us.length) ≤ _
        omega
      · intro l hl
        cases hl
        exact r.far _ ha
  · rcases r.row with ⟨_, hc⟩ | ⟨b, pre, rest, ha, _⟩
    · have hu : us = [] := List.eq_nil_of_length_eq_zero (by omega)
      have hb0 : bs = [] := List.eq_nil_of_length_eq_zero (by omega)
      subst hu hb0
      refine hk _ _ ⟨by simp; omega, by show s.len + 0 ≤ s.cap; omega, .inl ⟨rfl, hc⟩, (fun l hl => by cases hl), r.new⟩ (Only.refl _ _) (fun l hl => by cases hl)
    · rw [ha] at hn; cases hn
  · refine hk _ _ ⟨by rw [List.length_append]; show _ = s.len + us.length; omega, hc, .inr ⟨h.size, [], zeros (ctx.ti 5).z (c - (s.len + us.length)), rfl, ?_, ?_⟩, ?_, ?_⟩ (Only.of_ext (Ext.push _ _)) ?_
    · rw [push_get, both, List.nil_append]
    · rw [zeros_length, zsize5, Nat.mul_one]
      exact Nat.le_refl _
    · intro l hl
      cases hl
      exact r.new _ (Nat.le_refl _)
    · intro i hi
      rw [Array.size_push] at hi
      exact r.new i (by omega)
    · intro l hl
      cases hl
      exact .inr (Nat.le_refl _)

theorem app2_byte {c : Int} {K : Sl → Heap → Prop} (r : Row2 Q h s bs) (hl : bs.length < 900000) (c0 : 0 ≤ c) (c1 : c < 256)
    (hk : ∀ s' h', Row2 Q h' s' (bs ++ [UInt8.ofNat c.toNat]) → Only (In s) h h' → (∀ l, s'.a = some l → (∃ l', s.a = some l' ∧ l'.b = l.b) ∨ h.size ≤ l.b) → K s' h') :
    ∃ new, slAt (h.push (row (TVs.cells [TV.int .u8 c]) 5)) (Sl.mk (some (Vc.Loc.mk h.size 0)) 1 1) 1 new ∧ (∀ v ∈ new, isOne v = true) ∧ vcAppend ctx 5 s 1 new (h.push (row (TVs.cells [TV.int .u8 c]) 5)) K := by
  have e : ((UInt8.ofNat c.toNat).toNat : Int) = c := by
    rw [UInt8.toNat_ofNat']
    omega
  have xp := Ext.push h (row (TVs.cells [TV.int .u8 c]) 5)
  refine ⟨bcells [UInt8.ofNat c.toNat], ⟨rfl, .inr ⟨_, rfl, fun j hj => ?_⟩⟩, bcells_one _, ?_⟩
  · have hj0 : j = 0 := by simpa using hj
    subst hj0
    have := at1_row (o := 0) (push_get h (row (TVs.cells [TV.int .u8 c]) 5)) (v := Value.int .u8 c) rfl
    unfold at1 at this
    rw [this]
    show some (Value.int .u8 c) = some (Value.int .u8 ((UInt8.ofNat c.toNat).toNat : Int))
    rw [e]
  · have r' : Row2 Q (h.push (row (TVs.cells [TV.int .u8 c]) 5)) s bs := r.only (Only.of_ext xp (S := fun _ => False)) (fun _ _ hx => hx)
    refine app2 (us := [UInt8.ofNat c.toNat]) r' (by simp; omega) fun s' h' r2 o2 b2 => hk s' h' r2 ((Only.of_ext xp).trans o2) fun l hl => ?_
    rcases b2 l hl with h1 | h1
    · exact .inl h1
    · exact .inr (by have := xp.size; omega)

/-- What is left behind 64 bytes. -/
theorem Row2.after {h' : Heap} (r : Row2 Q h s bs) (h64 : 64 ≤ bs.length) (o : Only (fun i => ¬ In s i) h h') (hn : ∀ i, h'.size ≤ i → Q i) : Row2 Q h' (cutSl s 64 s.len 1) (bs.drop 64) := by
  have rl := r.len
  have rc := r.cap
  refine ⟨by simp only [cutSl, List.length_drop]; omega, by simp only [cutSl]; omega, ?_, fun l hl => ?_, hn⟩
  · rcases r.row with ⟨_, hc⟩ | ⟨b, pre, rest, ha, hb, hr⟩
    · omega
    · have hb' : h'[b]? = some (Go.Vc.row (pre ++ bcells bs ++ rest) 5) := (o.same b (row_lt hb) (fun hx => hx ⟨_, ha, rfl⟩)).trans hb
      by_cases hc : s.cap = 64
      · refine .inr ⟨b, pre, bcells bs ++ rest, by simp only [cutSl]; rw [if_pos hc, ha], ?_, by simp only [cutSl]; omega⟩
        have : bs.drop 64 = [] := List.drop_eq_nil_of_le (by omega)
        rw [this, hb']
        simp
      · refine .inr ⟨b, pre ++ bcells (bs.take 64), rest, ?_, ?_, by simp only [cutSl]; omega⟩
        · simp only [cutSl]
          rw [if_neg hc, ha, List.length_append, List.length_map, List.length_take, Nat.min_eq_left h64, Nat.mul_one]
          rfl
        · rw [hb']
          congr 2
          have : bcells bs = bcells (bs.take 64) ++ bcells (bs.drop 64) := by rw [← List.map_append, List.take_append_drop]
          rw [this]
          simp
  · obtain ⟨l', h1, h2⟩ := cut_block hl
    rw [← h2]
    exact r.far l' h1

theorem foldP_append (T U : List UInt8) (w : Ws 8) : ∀ k, 64 * k ≤ T.length → foldP (T ++ U) w k = foldP T w k
  | 0, _ => rfl
  | k + 1, hk => by
    rw [foldP, foldP, foldP_append T U w k (by omega), List.drop_append_of_le_length (by omega), List.take_append_of_le_length (by rw [List.length_drop]; omega)]

/-- The state, behind k blocks of a text. -/
structure St2 (Q : Nat → Prop) (h : Heap) (b : Nat) (T : List UInt8) (k : Nat) (N : Int) (s : Sl) : Prop where
  var : Var 151 h b (.agg [.words .u32 8 (foldP T firstW k), .slice s, .int .u64 N])
  row : Row2 Q h s (T.drop (64 * k))
  fit : 64 * k ≤ T.length
  far : Q b
  apart : ∀ l, s.a = some l → l.b ≠ b

variable {b k : Nat} {T : List UInt8} {N : Int}

theorem St2.words (st : St2 Q h b T k N s) : atWords h b 0 .u32 8 (foldP T firstW k) := st.var.at.1
theorem St2.rest (st : St2 Q h b T k N s) : at1 h b 8 (slVal s) := st.var.at.2.1
theorem St2.count (st : St2 Q h b T k N s) : at1 h b 9 (.int .u64 N) := st.var.at.2.2

theorem St2.grown {h1 : Heap} {s' : Sl} {U : List UInt8} (st : St2 Q h b T k N s) (r1 : Row2 Q h1 s' (T.drop (64 * k) ++ U)) (o1 : Only (In s) h h1) (b1 : ∀ l, s'.a = some l → (∃ l', s.a = some l' ∧ l'.b = l.b) ∨ h.size ≤ l.b) {K : Heap → Prop}
    (hk : ∀ h2, St2 Q h2 b (T ++ U) k N s' → Only Q h h2 → h2.size = h1.size → K h2) : wok h1 b 8 1 ∧ Bind ((TV.slice s').put h1 b 8) K := by
  have hne : ∀ l, s'.a = some l → l.b ≠ b := fun l hl e => by
    rcases b1 l hl with ⟨l', h9, h10⟩ | h9
    · exact st.apart l' h9 (h10.trans e)
    · have := st.var.lt; omega
  have v1 := st.var.only o1 (fun ⟨l, hl, e⟩ => st.apart l hl e)
  refine field_in (i := 1) (t0 := .slice s) v1 rfl rfl rfl rfl fun h2 v2 (o2 : Only (· = b) h1 h2) s2 => hk h2 ⟨?_, ?_, ?_, st.far, hne⟩ ((st.row.cut2 o1).trans (o2.mono fun i hi => by subst hi; exact st.far)) s2
  · rw [foldP_append T U firstW k st.fit]
    exact v2
  · rw [List.drop_append_of_le_length st.fit]
    exact r1.only o2 hne
  · rw [List.length_append]; have := st.fit; omega

/-- A block is taken in. -/
theorem St2.step (st : St2 Q h b T k N s) (h64 : 64 ≤ s.len)
    (hk : ∀ h2 h3, Var 151 h2 b (.agg [.words .u32 8 (foldP T firstW (k + 1)), .slice s, .int .u64 N]) → Only (· = b) h h2 → (∀ K : Heap → Prop, (∀ h4, St2 Q h4 b T (k + 1) N (cutSl s 64 s.len 1) → Only Q h h4 → K h4) → wok h2 b 8 1 ∧ Bind ((TV.slice (cutSl s 64 s.len 1)).put h2 b 8) K) → h3 = h2 → R (TV.tup []).val h2) :
    CallsH Tryz.prog 111 (TVs.vals [.ptr (some ⟨b, 0⟩), .slice (cutSl s 0 64 1)]) h R := by
  have rl := st.row.len
  rw [List.length_drop] at rl
  have ec := cut_elems (i := 0) (j := 64) st.row.elems (by omega) h64 st.row.cap
  rw [List.drop_zero, Nat.sub_zero, ← List.map_take] at ec
  have hfit := st.fit
  refine take_takes h R b (foldP T firstW k) s (cutSl s 0 64 1) ((T.drop (64 * k)).take 64) N st.var ec (by rw [List.length_take, List.length_drop]; omega) (fun l hl => by
    obtain ⟨l', h1, h2⟩ := cut_block hl
    rw [← h2]
    exact st.apart l' h1) fun h2 v2 o2 => ?_
  refine hk h2 h2 v2 o2 (fun K hK => ?_) rfl
  refine field_in (i := 1) (t0 := .slice s) v2 rfl rfl rfl rfl fun h4 v4 (o4 : Only (· = b) h2 h4) s4 => hK h4 ⟨v4, ?_, by omega, st.far, fun l hl => ?_⟩ ((o2.mono fun i hi => by subst hi; exact st.far).trans (o4.mono fun i hi => by subst hi; exact st.far))
  · have : T.drop (64 * (k + 1)) = (T.drop (64 * k)).drop 64 := by rw [List.drop_drop]; congr 1
    rw [this]
    refine st.row.after (by rw [List.length_drop]; omega) ((o2.trans o4).mono fun i hi => ?_) fun i hi => st.row.new i (by have := o2.size; omega)
    rintro ⟨l, hl, e⟩
    exact st.apart l hl (e.trans hi)
  · obtain ⟨l', h1, h2⟩ := cut_block hl
    rw [← h2]
    exact st.apart l' h1

/-- Bytes more. -/
theorem add2_spec (st : St2 Q h b T k (T.length : Int) s) {text : List UInt8} (hl : T.length + text.length < 800000)
    (hr : ∀ h' s' k', St2 Q h' b (T ++ text) k' ((T ++ text).length : Int) s' → s'.len < 64 → Only Q h h' → R (TV.tup []).val h') :
    CallsH Tryz.prog 98 (TVs.vals [.ptr (some ⟨b, 0⟩), .str text]) h R := by
  apply sha_state_add_calls
  unfold sha_state_add_vc
  refine ⟨_, st.count, ?_⟩
  have hN : IntKind.wrap .u64 ((T.length : Int) + IntKind.wrap .u64 (text.length : Int)) = ((T ++ text).length : Int) := by
    rw [wrap_u64_small (n := (text.length : Int)) (by omega) (by omega), wrap_u64_small (by omega) (by omega), List.length_append]
    omega
  rw [hN]
  refine field_in (i := 2) (t0 := .int .u64 (T.length : Int)) st.var rfl rfl rfl rfl fun h1 v1 (o1 : Only (· = b) h h1) s1 => ?_
  have st1 : St2 Q h1 b T k ((T ++ text).length : Int) s := ⟨v1, st.row.only o1 st.apart, st.fit, st.far, st.apart⟩
  have f1 : Only Q h h1 := o1.mono fun i hi => by subst hi; exact st.far
  have dl : (T.drop (64 * k)).length ≤ T.length := by rw [List.length_drop]; omega
  refine ⟨s, st1.rest, app2 st1.row (by omega) fun s' h2 r2 o2 b2 => st1.grown r2 o2 b2 fun h3 st3 f3 s3 => ?_⟩
  refine ⟨fun _ hh => ∃ s4 k4, St2 Q hh b (T ++ text) k4 ((T ++ text).length : Int) s4 ∧ Only Q h hh, fun _ hh => lenAt hh b, ⟨s', k, st3, f1.trans f3⟩, ?_⟩
  rintro _ h4 ⟨s4, k4, st4, f4⟩
  refine ⟨s4, st4.rest, If.dec.2 ⟨fun h64 => ?_, fun h64 => hr h4 s4 k4 st4 (by omega) f4⟩⟩
  have hc := st4.row.cap
  refine ⟨s4, st4.rest, by decide, by omega, ?_⟩
  refine st4.step (by omega) fun h5 _ v5 o5 hstep _ => ⟨rfl, s4, v5.at.2.1, by decide, by omega, hstep _ fun h6 st6 f6 => ?_⟩
  refine ⟨⟨_, _, st6, f4.trans f6⟩, ?_⟩
  have g1 := lenAt_of st4.rest
  have g2 := lenAt_of st6.rest
  simp only [cutSl] at g2
  dsimp only
  omega

def rlx (x : Int) : Nat → List UInt8
  | 0 => []
  | m + 1 => rlx x m ++ [UInt8.ofNat (IntKind.wrap .u8 (Int.fdiv x ((2 : Int) ^ min (Int.toNat (IntKind.wrap .u64 (IntKind.wrap .i64 (8 * (7 - (m : Int)))))) (IntKind.bits .u64)))).toNat]
def lnx (x : Int) : Nat → List UInt8
  | 0 => []
  | i + 1 => lnx x i ++ [UInt8.ofNat (IntKind.wrap .u8 (Int.fdiv x (2 ^ min (Int.toNat (IntKind.wrap .i64 (56 - IntKind.wrap .i64 (8 * (i : Int))))) (IntKind.bits .u64)))).toNat]
theorem rlx_eq (n : Int) : ∀ m, rlens n m = rlx (IntKind.wrap .u64 (IntKind.wrap .u64 n * 8)) m
  | 0 => rfl
  | m + 1 => by rw [rlens, rlx, rlx_eq n m]
theorem lnx_eq (n : Int) : ∀ m, lens n m = lnx (IntKind.wrap .u64 (n * 8)) m
  | 0 => rfl
  | m + 1 => by rw [lens, lnx, lnx_eq n m]; rfl
theorem rlx_lnx (x : Int) : rlx x 8 = lnx x 8 := by kernel_rfl

theorem lens_rlens (n : Int) (h0 : 0 ≤ n) (h1 : n < 18446744073709551616) : rlens n 8 = lens n 8 := by
  rw [rlx_eq, lnx_eq, wrap_u64_small h0 h1, rlx_lnx]

set_option maxRecDepth 100000 in
set_option maxHeartbeats 1000000 in
theorem end2_spec (st : St2 Q h b T k (T.length : Int) s) (hl : T.length < 700000) (hr : ∀ h', Only Q h h' → R (TV.bytes 32 (docF T)).val h') : CallsH Tryz.prog 99 (TVs.vals [.ptr (some ⟨b, 0⟩)]) h R := by
  apply sha_state_end_calls
  unfold sha_state_end_vc
  have blt := st.var.lt
  have slt := st.row.lt
  refine newTV_in fun h1 v1 x1 s1 => ?_
  have st1 : St2 (fun i => Q i ∧ i ≠ h.size) h1 b T k (T.length : Int) s := ⟨st.var.ext x1, ⟨st.row.len, st.row.cap, (st.row.only (Only.of_ext x1 (S := fun _ => False)) (fun _ _ hx => hx)).row, fun l hl' => ⟨st.row.far l hl', by have := slt l hl'; omega⟩, fun i hi => ⟨st.row.new i (by omega), by omega⟩⟩, st.fit, ⟨st.far, by omega⟩, st.apart⟩
  have f1 : Only Q h h1 := Only.of_ext x1
  have hfit := st.fit
  have rl0 := st.row.len
  rw [List.length_drop] at rl0
  refine ⟨_, st1.count, s, st1.rest, ?_⟩
  refine app2_byte st1.row (by rw [List.length_drop]; omega) (by decide) (by decide) fun s2 h2 r2 o2 b2 => ?_
  have e128 : UInt8.ofNat (Int.toNat 128) = 128 := by decide
  rw [e128] at r2
  refine st1.grown r2 o2 b2 fun h3 st3 f3 s3 => ?_
  have hpk : padK T.length < 64 := by unfold padK; omega
  have lj : ∀ j, ((T ++ [128]) ++ List.replicate j (0 : UInt8)).length = T.length + 1 + j := fun j => by simp; omega
  refine ⟨fun _ hh => ∃ s' j, St2 (fun i => Q i ∧ i ≠ h.size) hh b ((T ++ [128]) ++ List.replicate j 0) k (T.length : Int) s' ∧ j ≤ padK T.length ∧ Only (fun i => Q i ∧ i ≠ h.size) h1 hh, fun _ hh => T.length + 100 - lenAt hh b, ⟨s2, 0, by simpa using st3, Nat.zero_le _, f3⟩, ?_⟩
  rintro _ h4 ⟨s4, j, st4, hj, f4⟩
  have l4 := st4.row.len
  rw [List.length_drop, lj] at l4
  have hmod : Int.tmod (s4.len : Int) 64 = ((s4.len % 64 : Nat) : Int) := by
    rw [Int.tmod_eq_emod_of_nonneg (by omega)]
    rfl
  refine ⟨s4, st4.rest, by decide, ?_⟩
  rw [hmod]
  refine If.split (fun hne => ?_) (fun heq => ?_)
  · have hne' : ¬ s4.len % 64 = 56 := fun e => by rw [e] at hne; simp at hne
    have hjp : j < padK T.length := by
      rcases Nat.lt_or_ge j (padK T.length) with h9 | h9
      · exact h9
      · exfalso
        apply hne'
        have : j = padK T.length := by omega
        unfold padK at this
        omega
    refine ⟨s4, st4.rest, ?_⟩
    refine app2_byte st4.row (by rw [List.length_drop, lj]; omega) (by decide) (by decide) fun s5 h5 r5 o5 b5 => ?_
    refine st4.grown r5 o5 b5 fun h6 st6 f6 s6 => ?_
    have e0 : UInt8.ofNat (Int.toNat 0) = 0 := by decide
    have er : ((T ++ [128]) ++ List.replicate j 0) ++ [UInt8.ofNat (Int.toNat 0)] = (T ++ [128]) ++ List.replicate (j + 1) 0 := by
      rw [e0, List.append_assoc, List.replicate_succ']
    rw [er] at st6
    have l6 := st6.row.len
    rw [List.length_drop, lj] at l6
    refine ⟨⟨s5, j + 1, st6, by omega, f4.trans f6⟩, ?_⟩
    have g1 := lenAt_of st4.rest
    have g2 := lenAt_of st6.rest
    dsimp only
    omega
  have heq' : s4.len % 64 = 56 := by simp at heq; omega
  have hjp : j = padK T.length := by unfold padK at hj ⊢; omega
  subst hjp
  have hbase : padF T = ((T ++ [128]) ++ List.replicate (padK T.length) 0) ++ lens (T.length : Int) 8 := by
    unfold padF
    rw [lens_rlens _ (by omega) (by omega)]
  have hbl := lj (padK T.length)
  generalize (T ++ [128]) ++ List.replicate (padK T.length) (0 : UInt8) = base at *
  refine ⟨fun i hh => 0 ≤ i ∧ i ≤ 8 ∧ ∃ s', St2 (fun i => Q i ∧ i ≠ h.size) hh b (base ++ lens (T.length : Int) i.toNat) k (T.length : Int) s' ∧ Only (fun i => Q i ∧ i ≠ h.size) h1 hh, fun i _ => ((8 : Int) - i).toNat, ⟨Int.le_refl 0, by decide, s4, by simpa [lens] using st4, f4⟩, ?_⟩
  rintro i h5 ⟨i0, i1, s5, st5, f5⟩
  have l5 := st5.row.len
  rw [List.length_drop, List.length_append, lens_length, hbl] at l5
  refine If.dec.2 ⟨fun hi => ?_, fun hi => ?_⟩
  · refine ⟨s5, st5.rest, ?_, Ext.push _ _, ?_⟩
    · rw [wrap_i64 (n := 8 * i) (by omega) (by omega), wrap_i64 (by omega) (by omega)]
      omega
    refine app2_byte st5.row (by rw [List.length_drop, List.length_append, lens_length, hbl]; omega) (wrap_u8_range _).1 (wrap_u8_range _).2 fun s6 h6 r6 o6 b6 => ?_
    refine st5.grown r6 o6 b6 fun h7 st7 f7 s7 => ?_
    rw [wrap_i64 (n := i + 1) (by omega) (by omega)]
    have hi1 : (i + 1).toNat = i.toNat + 1 := by omega
    refine ⟨⟨by omega, by omega, s6, ?_, f5.trans f7⟩, by first | omega | (dsimp only; omega)⟩
    rw [hi1]
    unfold lens lenB
    rw [show ((i.toNat : Nat) : Int) = i by omega, ← List.append_assoc]
    exact st7
  have hi2 : i.toNat = 8 := by omega
  rw [hi2, ← hbase] at st5
  have hpm := padF_mod T
  have hdoc : docF T = outF (foldP (padF T) firstW ((padF T).length / 64)) 8 := rfl
  rw [hdoc] at hr
  generalize padF T = P at *
  refine ⟨fun _ hh => ∃ s' k', St2 (fun i => Q i ∧ i ≠ h.size) hh b P k' (T.length : Int) s' ∧ Only (fun i => Q i ∧ i ≠ h.size) h1 hh, fun _ hh => lenAt hh b, ⟨s5, k, st5, f5⟩, ?_⟩
  rintro _ h6 ⟨s6, k6, st6, f6⟩
  have l6 := st6.row.len
  have hfit6 := st6.fit
  rw [List.length_drop] at l6
  refine ⟨s6, st6.rest, If.dec.2 ⟨fun hpos => ?_, fun hz => ?_⟩⟩
  · have h64 : 64 ≤ s6.len := by omega
    have hc := st6.row.cap
    refine ⟨s6, st6.rest, by decide, by omega, ?_⟩
    refine st6.step h64 fun h7 _ v7 o7 hstep _ => ⟨rfl, s6, v7.at.2.1, by decide, by omega, hstep _ fun h8 st8 f8 => ?_⟩
    refine ⟨⟨_, _, st8, f6.trans f8⟩, ?_⟩
    have g1 := lenAt_of st6.rest
    have g2 := lenAt_of st8.rest
    simp only [cutSl] at g2
    dsimp only
    omega
  have hk6 : k6 = P.length / 64 := by omega
  refine newTV_in fun h7 v7 x7 s7 => ?_
  refine ⟨_, (st6.var.ext x7).at.1, ?_⟩
  rw [hk6]
  have f6s := f6.size
  refine ⟨fun i hh => 0 ≤ i ∧ i ≤ 8 ∧ Var 24 hh h6.size (.bytes 32 (outF (foldP P firstW (P.length / 64)) i.toNat)) ∧ Only (· = h6.size) h7 hh, fun i _ => ((8 : Int) - i).toNat, ⟨Int.le_refl 0, by decide, v7, Only.refl _ _⟩, ?_⟩
  rintro i h8 ⟨i0, i1, v8, o8⟩
  refine If.dec.2 ⟨fun hi => ?_, fun hi => ?_⟩
  · rw [wrap_i64 (n := 4 * i) (by omega) (by omega), wrap_i64 (n := 4 * i + 1) (by omega) (by omega), wrap_i64 (n := 4 * i + 2) (by omega) (by omega), wrap_i64 (n := 4 * i + 3) (by omega) (by omega), wrap_i64 (n := i + 1) (by omega) (by omega)]
    refine ⟨i0, by omega, by decide, by decide, by decide, by omega, by omega, put_byte v8 (i := 4 * i.toNat) (by omega) (by omega) (wrap_u8_range _).1 (wrap_u8_range _).2 fun h9 v9 o9 s9 => ?_⟩
    refine ⟨by omega, by omega, put_byte v9 (i := 4 * i.toNat + 1) (by omega) (by omega) (wrap_u8_range _).1 (wrap_u8_range _).2 fun h10 v10 o10 s10 => ?_⟩
    refine ⟨by omega, by omega, put_byte v10 (i := 4 * i.toNat + 2) (by omega) (by omega) (wrap_u8_range _).1 (wrap_u8_range _).2 fun h11 v11 o11 s11 => ?_⟩
    refine ⟨by omega, by omega, put_byte v11 (i := 4 * i.toNat + 3) (by omega) (by omega) (wrap_u8_range _).1 (wrap_u8_range _).2 fun h12 v12 o12 s12 => ?_⟩
    have hi1 : (i + 1).toNat = i.toNat + 1 := by omega
    refine ⟨⟨by omega, by omega, ?_, o8.trans (o9.trans (o10.trans (o11.trans o12)))⟩, by first | omega | (dsimp only; omega)⟩
    rw [hi1]
    unfold outF out1 ob
    exact v12
  · have hi3 : i.toNat = 8 := by omega
    rw [hi3] at v8
    have vr : Var 24 h8 h.size (.bytes 32 (Bs.zero 32)) := ((v1.only f6 (fun h9 => h9.2 rfl)).ext x7).only o8 (by omega)
    refine ⟨_, v8.bytes, put_in vr (t := .bytes 32 (outF (foldP P firstW (P.length / 64)) 8)) bsz fun h9 v9 o9 s9 => ⟨_, v9.bytes, ?_⟩⟩
    refine hr _ (f1.trans ((f6.mono fun i hi => hi.1).trans ((Only.of_ext x7).trans ((o8.mono fun i hi => ?_).trans (o9.mono fun i hi => ?_)))))
    · subst hi; exact st.row.new _ (by omega)
    · subst hi; exact st.row.new _ (Nat.le_refl _)

theorem of2_spec {s : Sl} {ts : List (List UInt8)} (e : Elems 1 h s (ts.map TV.str)) (hl : ts.flatten.length < 700000) (hts2 : ts.length < 100000) (hr : ∀ h', Ext h h' → R (TV.bytes 32 (docF ts.flatten)).val h') : CallsH Tryz.prog 71 (TVs.vals [.slice s]) h R := by
  apply sha_Of_calls
  unfold sha_Of_vc
  refine newTV_in fun h1 v1 x1 s1 => ?_
  refine first_spec fun h2 x2 => ⟨_, rfl, newTV_in fun h3 v3 x3 s3 => ?_⟩
  have z1 := x1.size
  have z2 := x2.size
  have st3 : St2 (fun i => h.size < i) h3 h2.size [] 0 0 Sl.nil := ⟨v3, ⟨rfl, Nat.le_refl _, .inl ⟨rfl, rfl⟩, (fun l hl => by cases hl), fun i hi => by omega⟩, Nat.le_refl _, by omega, fun l hl => by cases hl⟩
  have x13 : Ext h h3 := (x1.trans x2).trans x3
  have v13 : Var 24 h3 h.size (.bytes 32 (Bs.zero 32)) := (v1.ext x2).ext x3
  have far : ∀ hh, Only (fun i => h.size < i) h3 hh → Ext h hh := fun hh o => Only.cut x13 o fun i hi => by omega
  have hn : ts.length = s.len := by have := e.len; rwa [List.length_map] at this
  refine ⟨fun i hh => 0 ≤ i ∧ i ≤ s.len ∧ (∃ s' k, St2 (fun i => h.size < i) hh h2.size (ts.take i.toNat).flatten k ((ts.take i.toNat).flatten.length : Int) s') ∧ Only (fun i => h.size < i) h3 hh, fun i _ => ((s.len : Int) - i).toNat, ⟨Int.le_refl 0, by omega, ⟨Sl.nil, 0, st3⟩, Only.refl _ _⟩, ?_⟩
  rintro i h4 ⟨i0, i1, ⟨s4, k4, st4⟩, o4⟩
  refine If.dec.2 ⟨fun hi => ?_, fun hi => ?_⟩
  · refine (e.ext (far h4 o4)).read i0 (by omega) fun l t hla ht ha => ?_
    rw [List.getElem?_map] at ht
    obtain ⟨x, hx, rfl⟩ := Option.map_eq_some_iff.1 ht
    refine ⟨x, ha, ?_⟩
    have hts := take_snoc hx
    have hle := flatten_take_le ts (i.toNat + 1)
    rw [hts, List.flatten_append, List.length_append] at hle
    have hxl : ([x] : List (List UInt8)).flatten = x := by simp
    rw [hxl] at hle
    refine add2_spec st4 (by omega) fun h5 s5 k5 st5 _ f5 => ⟨rfl, ?_⟩
    rw [wrap_i64 (n := i + 1) (by omega) (by omega)]
    have hi1 : (i + 1).toNat = i.toNat + 1 := by omega
    refine ⟨⟨by omega, by omega, ⟨s5, k5, ?_⟩, o4.trans f5⟩, by first | omega | (dsimp only; omega)⟩
    rw [hi1, hts, List.flatten_append, hxl]
    exact st5
  · have hi2 : i.toNat = ts.length := by omega
    rw [hi2, List.take_length] at st4
    refine end2_spec st4 hl fun h5 f5 => ⟨_, rfl, ?_⟩
    have v5 : Var 24 h5 h.size (.bytes 32 (Bs.zero 32)) := (v13.only o4 (Nat.lt_irrefl _)).only f5 (Nat.lt_irrefl _)
    refine put_in v5 (t := .bytes 32 (docF ts.flatten)) bsz fun h6 v6 o6 s6 => ⟨_, v6.bytes, ?_⟩
    exact hr h6 (Only.cut (far h5 (o4.trans f5)) o6 fun i hi => by omega)

end
end Go.Proofs.YtldocdpdjdekiaaGreat.Board
end

section
/- The conditions of functions, as the generator reckons them out, each with the proof that it is that. -/
namespace Go.Proofs.YtldocdpdjdekiaaGreat
open Go Go.Vc
set_option maxRecDepth 100000
set_option linter.unusedVariables false

def tollerref01_Put_vc (n : Int) (width : Int) (h : Heap) (R : Value → Heap → Prop) : Prop :=
 If (decide (width ≤ (0 : Int))) (R (TV.val (TV.str (ByteArray.mk #[]).data.toList)) h)
 ((256 : Int) ≠ (0 : Int) ∧
 (256 : Int) ≠ (0 : Int) ∧
 (Ext h (Array.push h (row (TVs.cells [TV.int IntKind.u8 (IntKind.wrap IntKind.u8 (Int.tmod n (256 : Int)))]) (5 : Nat))) ∧
 ∃ (bs : List UInt8),
 strAt (Array.mk (List.concat h.toList (row (TVs.cells [TV.int IntKind.u8 (IntKind.wrap IntKind.u8 (Int.tmod n (256 : Int)))]) (5 : Nat))))
 (Sl.mk (some (Loc.mk (Array.size h) (0 : Nat))) (1 : Nat) (1 : Nat)) bs ∧
 CallsH Tryz.prog (103 : Nat)
 (TVs.vals
 [TV.int IntKind.u64 (IntKind.wrap IntKind.u64 (Int.tdiv n (256 : Int))),
 TV.int IntKind.i64 (IntKind.wrap IntKind.i64 (mn width (8 : Int) - (1 : Int)))])
 (Array.push h (row (TVs.cells [TV.int IntKind.u8 (IntKind.wrap IntKind.u8 (Int.tmod n (256 : Int)))]) (5 : Nat)))
 fun (v : Value) (h_1 : Array Obj) ↦
 ∃ (s : List UInt8),
 v = TV.val (TV.str s) ∧
 Ext (Array.push h (row (TVs.cells [TV.int IntKind.u8 (IntKind.wrap IntKind.u8 (Int.tmod n (256 : Int)))]) (5 : Nat))) h_1 ∧
 (↑(List.length bs + List.length s) : Int) ≤ (9223372036854775807 : Int) ∧ R (TV.val (TV.str (bs ++ s))) h_1) ∧
 CallsH Tryz.prog (103 : Nat)
 (TVs.vals
 [TV.int IntKind.u64 (IntKind.wrap IntKind.u64 (Int.tdiv n (256 : Int))),
 TV.int IntKind.i64 (IntKind.wrap IntKind.i64 (mn width (8 : Int) - (1 : Int)))])
 h fun (v : Value) (h_1 : Heap) ↦
 ∃ (s : List UInt8),
 v = TV.val (TV.str s) ∧
 Ext h h_1 ∧
 Ext h_1 (Array.push h_1 (row (TVs.cells [TV.int IntKind.u8 (IntKind.wrap IntKind.u8 (Int.tmod n (256 : Int)))]) (5 : Nat))) ∧
 ∃ (bs : List UInt8),
 strAt (Array.mk (List.concat h_1.toList (row (TVs.cells [TV.int IntKind.u8 (IntKind.wrap IntKind.u8 (Int.tmod n (256 : Int)))]) (5 : Nat))))
 (Sl.mk (some (Loc.mk (Array.size h_1) (0 : Nat))) (1 : Nat) (1 : Nat)) bs ∧
 (↑(List.length bs + List.length s) : Int) ≤ (9223372036854775807 : Int) ∧
 R (TV.val (TV.str (bs ++ s)))
 (Array.push h_1 (row (TVs.cells [TV.int IntKind.u8 (IntKind.wrap IntKind.u8 (Int.tmod n (256 : Int)))]) (5 : Nat))))

theorem tollerref01_Put_calls (n : Int) (width : Int) (h : Heap) (R : Value → Heap → Prop) (H : tollerref01_Put_vc n width h R) : CallsH Tryz.prog 103 (TVs.vals [TV.int IntKind.u64 n, TV.int IntKind.i64 width]) h R :=
 vcFn_sound (C := ctx) ctx_ok (fn := Tryz.f103) Tryz.func103 ((by kernel_rfl : tollerref01_Put_vc n width h R = vcFn ctx Tryz.f103 [TV.int IntKind.u64 n, TV.int IntKind.i64 width] h R) ▸ H)


def tollerref03_Less_vc (a : Bs (32 : Nat)) (b : Bs (32 : Nat)) (h : Heap) (R : Value → Heap → Prop) : Prop :=
 Vc.Bind (newTV h (TV.bytes (32 : Nat) a) (24 : Nat)) fun (h_1 : Array Obj) ↦
 Vc.Bind (newTV h_1 (TV.bytes (32 : Nat) b) (24 : Nat)) fun (h_2 : Array Obj) ↦
 Go.Vc.Loop (false, (0 : Int)) h_2 fun (s : Bool × Int) (h_3 : Array Obj) (K : Bool × Int → Array Obj → Prop) ↦
 If (decide (s.snd < (32 : Int)))
 ((0 : Int) ≤ s.snd ∧
 s.snd < (↑(32 : Nat) : Int) ∧
 ∃ (n : Int),
 at1 h_3 (Array.size h) ((0 : Nat) + Int.toNat s.snd * (1 : Nat)) (Value.int IntKind.u8 n) ∧
 (0 : Int) ≤ s.snd ∧
 s.snd < (↑(32 : Nat) : Int) ∧
 ∃ (n_1 : Int),
 at1 h_3 (Array.size h_1) ((0 : Nat) + Int.toNat s.snd * (1 : Nat)) (Value.int IntKind.u8 n_1) ∧
 If (!decide (n = n_1))
 ((0 : Int) ≤ s.snd ∧
 s.snd < (↑(32 : Nat) : Int) ∧
 ∃ (n : Int),
 at1 h_3 (Array.size h) ((0 : Nat) + Int.toNat s.snd * (1 : Nat)) (Value.int IntKind.u8 n) ∧
 (0 : Int) ≤ s.snd ∧
 s.snd < (↑(32 : Nat) : Int) ∧
 ∃ (n_2 : Int),
 at1 h_3 (Array.size h_1) ((0 : Nat) + Int.toNat s.snd * (1 : Nat)) (Value.int IntKind.u8 n_2) ∧
 R (TV.val (TV.bool (decide (n < n_2)))) h_3)
 (K (s.fst, IntKind.wrap IntKind.i64 (s.snd + (1 : Int))) h_3))
 (R (TV.val (TV.bool false)) h_3)

theorem tollerref03_Less_calls (a : Bs (32 : Nat)) (b : Bs (32 : Nat)) (h : Heap) (R : Value → Heap → Prop) (H : tollerref03_Less_vc a b h R) : CallsH Tryz.prog 105 (TVs.vals [TV.bytes (32 : Nat) a, TV.bytes (32 : Nat) b]) h R :=
 vcFn_sound (C := ctx) ctx_ok (fn := Tryz.f105) Tryz.func105 ((by kernel_rfl : tollerref03_Less_vc a b h R = vcFn ctx Tryz.f105 [TV.bytes (32 : Nat) a, TV.bytes (32 : Nat) b] h R) ▸ H)


end Go.Proofs.YtldocdpdjdekiaaGreat
end

section
/- The document's lots, and the choice of the least one by one. -/
namespace Go.Proofs.YtldocdpdjdekiaaGreat.Board
open Go Go.Vc
set_option maxRecDepth 100000

/-! ### A number's bytes -/

def leR (n : Int) : Nat → List UInt8
  | 0 => []
  | k + 1 => UInt8.ofNat (IntKind.wrap .u8 (Int.tmod n 256)).toNat :: leR (IntKind.wrap .u64 (Int.tdiv n 256)) k

theorem leR_length : ∀ (k : Nat) (n : Int), (leR n k).length = k
  | 0, _ => rfl
  | k + 1, n => by simp [leR, leR_length k]

theorem leR_eq : ∀ (k : Nat) (n : Int), 0 ≤ n → n < 18446744073709551616 → leR n k = leF n k
  | 0, _, _, _ => rfl
  | k + 1, n, h0, h1 => by
    have e1 : Int.tmod n 256 = n % 256 := Int.tmod_eq_emod_of_nonneg h0
    have e2 : Int.tdiv n 256 = n / 256 := Int.tdiv_eq_ediv_of_nonneg h0
    have e3 : Int.fdiv n ((2 : Int) ^ min (Int.toNat 8) (IntKind.bits .u64)) = n / 256 := by
      show Int.fdiv n 256 = n / 256
      exact Int.fdiv_eq_ediv_of_nonneg n (by decide)
    rw [leR, leF, e1, e2, e3, wrap_u64_small (n := n / 256) (by omega) (by omega), leR_eq k (n / 256) (by omega) (by omega), wrap_u8, wrap_u8]
    congr 3
    omega

section
variable {R : Value → Heap → Prop} {h : Heap}

theorem docput_spec : ∀ (k : Nat) (n : Int) (h : Heap) (R : Value → Heap → Prop), k ≤ 8 → (∀ h', Ext h h' → R (TV.str (leR n k)).val h') → CallsH Tryz.prog 103 (TVs.vals [.int .u64 n, .int .i64 (k : Int)]) h R
  | 0, n, h, R, _, hr => by
    apply tollerref01_Put_calls
    unfold tollerref01_Put_vc
    exact If.dec.2 ⟨fun _ => hr h (Ext.refl _), fun hn => absurd (by decide) hn⟩
  | k + 1, n, h, R, hk, hr => by
    apply tollerref01_Put_calls
    unfold tollerref01_Put_vc
    refine If.dec.2 ⟨fun hn => by omega, fun _ => ⟨by decide, by decide, ?_⟩⟩
    have hm : IntKind.wrap .i64 (mn ((k + 1 : Nat) : Int) 8 - 1) = (k : Int) := by
      rw [mn_eq, wrap_i64 (by omega) (by omega)]
      omega
    rw [hm]
    have hw := wrap_u8_range (Int.tmod n 256)
    have hl := leR_length k (IntKind.wrap .u64 (Int.tdiv n 256))
    refine ⟨⟨Ext.push _ _, _, str1 hw.1 hw.2, docput_spec k _ _ _ (by omega) fun h1 x1 => ⟨_, rfl, x1, ?_, ?_⟩⟩, docput_spec k _ _ _ (by omega) fun h1 x1 => ⟨_, rfl, x1, Ext.push _ _, _, str1 hw.1 hw.2, ?_, ?_⟩⟩
    · rw [hl, List.length_singleton]; omega
    · exact hr h1 ((Ext.push _ _).trans x1)
    · rw [hl, List.length_singleton]; omega
    · exact hr _ (x1.trans (Ext.push _ _))

theorem docless_spec {a b : Bs 32} (hr : ∀ h', Ext h h' → R (TV.bool (Op.bytesLess a.l b.l)).val h') : CallsH Tryz.prog 105 (TVs.vals [.bytes 32 a, .bytes 32 b]) h R := by
  apply tollerref03_Less_calls
  unfold tollerref03_Less_vc
  refine newTV_in fun h1 v1 x1 s1 => newTV_in fun h2 v2 x2 s2 => ?_
  have v1' := v1.ext x2
  have byte_at : ∀ {h : Heap} {b : Nat} {x : Bs 32} {i : Nat}, Var 24 h b (.bytes 32 x) → (hi : i < 32) → at1 h b (0 + i * 1) (.int .u8 ((x.l[i]'(by rw [x.h]; exact hi)).toNat : Int)) := by
    intro h b x i v hi
    have := v.bytes i hi
    rw [Nat.mul_one]
    unfold at1
    rw [this]
    have hl : i < x.l.length := by rw [x.h]; exact hi
    simp [List.getD, hl]
  refine ⟨fun s hh => 0 ≤ s.2 ∧ s.2 ≤ 32 ∧ hh = h2 ∧ Op.bytesLess a.l b.l = Op.bytesLess (a.l.drop s.2.toNat) (b.l.drop s.2.toNat), fun s _ => ((32 : Int) - s.2).toNat, ⟨by simp, by simp, rfl, by simp⟩, ?_⟩
  rintro ⟨x, i⟩ hh ⟨i0, i1, rfl, hl⟩
  simp only at i0 i1 hl ⊢
  have ha := a.h
  have hb := b.h
  refine If.dec.2 ⟨fun hi => ?_, fun hi => ?_⟩
  · have ni : i.toNat < 32 := by omega
    have da : a.l.drop i.toNat = a.l[i.toNat] :: a.l.drop (i.toNat + 1) := List.drop_eq_getElem_cons (by omega)
    have db : b.l.drop i.toNat = b.l[i.toNat] :: b.l.drop (i.toNat + 1) := List.drop_eq_getElem_cons (by omega)
    rw [da, db] at hl
    simp only [Op.bytesLess] at hl
    refine ⟨i0, hi, _, byte_at v1' ni, i0, hi, _, byte_at v2 ni, ?_⟩
    refine If.split (fun hne => ?_) (fun he => ?_)
    · refine ⟨i0, hi, _, byte_at v1' ni, i0, hi, _, byte_at v2 ni, ?_⟩
      have hne' : (a.l[i.toNat] == b.l[i.toNat]) = false := by
        rw [beq_eq_false_iff_ne]
        intro hx
        rw [hx] at hne
        simp at hne
      rw [hne', Bool.false_and, Bool.or_false] at hl
      have : Op.bytesLess a.l b.l = decide (((a.l[i.toNat]).toNat : Int) < ((b.l[i.toNat]).toNat : Int)) := by
        rw [hl]
        refine decide_eq_decide.2 ?_
        rw [UInt8.lt_iff_toNat_lt]
        omega
      rw [← this]
      exact hr _ (x1.trans x2)
    · have he' : a.l[i.toNat] = b.l[i.toNat] := by
        simp only [Bool.not_eq_false', decide_eq_true_eq] at he
        exact UInt8.toNat_inj.1 (by omega)
      rw [wrap_i64 (by omega) (by omega)]
      refine ⟨⟨by omega, by omega, by trivial, ?_⟩, by first | omega | (dsimp only; omega)⟩
      have hi' : (i + 1).toNat = i.toNat + 1 := by omega
      rw [hi', hl, he']
      have : ¬ (b.l[i.toNat] < b.l[i.toNat]) := UInt8.lt_irrefl _
      simp [this]
  · have hi' : i.toNat = 32 := by omega
    rw [hi', List.drop_eq_nil_of_le (by omega), List.drop_eq_nil_of_le (by omega)] at hl
    simp only [Op.bytesLess] at hl
    rw [hl] at hr
    exact hr _ (x1.trans x2)

theorem wrap_u64_range (n : Int) : 0 ≤ IntKind.wrap .u64 n ∧ IntKind.wrap .u64 n < 18446744073709551616 := by
  have : IntKind.wrap .u64 n = n % 18446744073709551616 := by
    unfold IntKind.wrap
    show (if (false && _) = true then _ else n % 2 ^ 64) = n % 18446744073709551616
    simp
  rw [this]
  omega

end

/-! ### The least of those that are left -/

end Go.Proofs.YtldocdpdjdekiaaGreat.Board
end

section
/- Tags: a key as 64 bytes, the tag of texts by a key, tags joined. -/
namespace Go.Proofs.YtldocdpdjdekiaaGreat.Board
open Go Go.Vc

def getB {n : Nat} (b : Bs n) (i : Nat) : UInt8 := b.l.getD i 0

/-- A row of bytes that is filled from the beginning on. -/
def fillB {n : Nat} (f : Nat → UInt8) (b : Bs n) : Nat → Bs n
  | 0 => b
  | i + 1 => (fillB f b i).set i (f i)

theorem fillB_get {n : Nat} (f : Nat → UInt8) (b : Bs n) : ∀ (k j : Nat), k ≤ n → getB (fillB f b k) j = if j < k then f j else getB b j
  | 0, j, _ => by simp [fillB]
  | k + 1, j, hk => by
    have ih := fillB_get f b k j (by omega)
    unfold getB at ih ⊢
    simp only [fillB, Bs.set, List.getD_eq_getElem?_getD, List.getElem?_set] at ih ⊢
    by_cases hj : k = j
    · subst hj
      rw [if_pos rfl, if_pos (by rw [(fillB f b k).h]; omega), if_pos (Nat.lt_succ_self k)]
      rfl
    · rw [if_neg hj, ih]
      by_cases h1 : j < k
      · rw [if_pos h1, if_pos (by omega)]
      · rw [if_neg h1, if_neg (by omega)]

theorem fillB_l {n : Nat} (f : Nat → UInt8) (b : Bs n) : (fillB f b n).l = (List.range n).map f := by
  apply List.ext_getElem (by rw [(fillB f b n).h]; simp)
  intro j h1 h2
  have hj : j < n := by rw [← (fillB f b n).h]; exact h1
  have := fillB_get f b n j (Nat.le_refl n)
  rw [if_pos hj] at this
  unfold getB at this
  rw [List.getD_eq_getElem?_getD, List.getElem?_eq_getElem h1] at this
  simpa using this

theorem byte_at {T : TypeId} {h : Heap} {b n : Nat} {x : Bs n} (v : Var T h b (.bytes n x)) {i : Nat} (hi : i < n) : at1 h b (0 + i * 1) (.int .u8 ((getB x i).toNat : Int)) := by
  refine v.at1 ?_
  simp only [TV.cells, Nat.mul_one, Nat.zero_add]
  exact getElem?_toBytes x i hi

theorem Bs.get_ext {n : Nat} {a b : Bs n} (h : ∀ j, j < n → getB a j = getB b j) : a = b := by
  apply Bs.ext'
  apply List.ext_getElem (by rw [a.h, b.h])
  intro j h1 h2
  have hj : j < n := by rw [← a.h]; exact h1
  have := h j hj
  unfold getB at this
  rw [List.getD_eq_getElem?_getD, List.getD_eq_getElem?_getD, List.getElem?_eq_getElem h1, List.getElem?_eq_getElem h2] at this
  simpa using this

theorem bind_in {x : Heap} {K : Heap → Prop} (h : K x) : Bind x K := h

section
variable {R : Value → Heap → Prop} {h : Heap}

/-! ### The tag of texts by a key -/

theorem strs_elems {T : TypeId} (h : Heap) (ts : List (List UInt8)) : Elems 1 (h.push (row (TVs.cells (ts.map TV.str)) T)) ⟨some ⟨h.size, 0⟩, ts.length, ts.length⟩ (ts.map TV.str) := by
  have := (Own.new (T := T) (sz := 1) h (ts.map TV.str) (fun t ht => by
    obtain ⟨u, _, rfl⟩ := List.mem_map.1 ht
    rfl)).elems
  simpa using this

theorem bytes9 : (ctx.ti 9).bytes = 16 := by kernel_rfl
theorem size9 : (ctx.ti 9).size = 1 := by kernel_rfl
theorem zsize9 : (ctx.ti 9).z.size = 1 := by kernel_rfl

/-! ### Tags joined -/

end
end Go.Proofs.YtldocdpdjdekiaaGreat.Board
end

section
/- The conditions of functions, as the generator reckons them out, each with the proof that it is that. -/
namespace Go.Proofs.YtldocdpdjdekiaaGreat
open Go Go.Vc
set_option maxRecDepth 100000
set_option linter.unusedVariables false

def bitlist_Put_vc (b : Sl) (list : Sl) (h : Heap) (R : Value → Heap → Prop) : Prop :=
 (8 : Int) ≠ (0 : Int) ∧
 (0 : Int) ≤ IntKind.wrap IntKind.i64 (IntKind.wrap IntKind.i64 (Int.tdiv (↑list.len : Int) (8 : Int)) + (1 : Int)) ∧
 IntKind.wrap IntKind.i64 (IntKind.wrap IntKind.i64 (Int.tdiv (↑list.len : Int) (8 : Int)) + (1 : Int)) * (↑(1 : Nat) : Int) ≤ (70368744177664 : Int) ∧
 vcAppend YtldocdpdjdekiaaGreat.ctx (5 : Nat) b
 (Int.toNat (IntKind.wrap IntKind.i64 (IntKind.wrap IntKind.i64 (Int.tdiv (↑list.len : Int) (8 : Int)) + (1 : Int))))
 (List.replicate (Int.toNat (IntKind.wrap IntKind.i64 (IntKind.wrap IntKind.i64 (Int.tdiv (↑list.len : Int) (8 : Int)) + (1 : Int))))
 (Value.int IntKind.u8 (0 : Int)))
 h fun (s : Sl) (h : Heap) ↦
 Go.Vc.Loop (0 : Int) h fun (s_1 : Int) (h : Array Obj) (K : Int → Array Obj → Prop) ↦
 If (decide (s_1 < (↑list.len : Int)))
 ((0 : Int) ≤ s_1 ∧
 s_1 < (↑list.len : Int) ∧
 Nn list.a fun (l : Go.Vc.Loc) ↦
 ∃ (b_1 : Bool),
 at1 h l.b (l.o + Int.toNat s_1 * (1 : Nat)) (Value.bool b_1) ∧
 If b_1
 ((8 : Int) ≠ (0 : Int) ∧
 (0 : Int) ≤ IntKind.wrap IntKind.i64 ((↑b.len : Int) + IntKind.wrap IntKind.i64 (Int.tdiv s_1 (8 : Int))) ∧
 IntKind.wrap IntKind.i64 ((↑b.len : Int) + IntKind.wrap IntKind.i64 (Int.tdiv s_1 (8 : Int))) < (↑s.len : Int) ∧
 Nn s.a fun (l : Go.Vc.Loc) ↦
 ∃ (n : Int),
 at1 h l.b
 (l.o +
 Int.toNat (IntKind.wrap IntKind.i64 ((↑b.len : Int) + IntKind.wrap IntKind.i64 (Int.tdiv s_1 (8 : Int)))) * (1 : Nat))
 (Value.int IntKind.u8 n) ∧
 (8 : Int) ≠ (0 : Int) ∧
 (0 : Int) ≤ Int.tmod s_1 (8 : Int) ∧
 (0 : Int) ≤ IntKind.wrap IntKind.i64 ((↑b.len : Int) + IntKind.wrap IntKind.i64 (Int.tdiv s_1 (8 : Int))) ∧
 IntKind.wrap IntKind.i64 ((↑b.len : Int) + IntKind.wrap IntKind.i64 (Int.tdiv s_1 (8 : Int))) < (↑s.len : Int) ∧
 Nn s.a fun (l : Go.Vc.Loc) ↦
 wok h l.b
 (l.o +
 Int.toNat (IntKind.wrap IntKind.i64 ((↑b.len : Int) + IntKind.wrap IntKind.i64 (Int.tdiv s_1 (8 : Int)))) *
 (1 : Nat))
 (1 : Nat) ∧
 Vc.Bind
 (TV.put h l.b
 (l.o +
 Int.toNat
 (IntKind.wrap IntKind.i64 ((↑b.len : Int) + IntKind.wrap IntKind.i64 (Int.tdiv s_1 (8 : Int)))) *
 (1 : Nat))
 (TV.int IntKind.u8
 (IntKind.wrap IntKind.u8
 (↑(BitVec.toNat
 (BitVec.ofInt (IntKind.bits IntKind.u8) n |||
 BitVec.ofInt (IntKind.bits IntKind.u8)
 (IntKind.wrap IntKind.u8
 ((1 : Int) *
 (2 : Int) ^ min (Int.toNat (Int.tmod s_1 (8 : Int))) (IntKind.bits IntKind.u8))))) :
 Int))))
 fun (h : Array Obj) ↦ K (IntKind.wrap IntKind.i64 (s_1 + (1 : Int))) h)
 (K (IntKind.wrap IntKind.i64 (s_1 + (1 : Int))) h))
 ((0 : Int) ≤ IntKind.wrap IntKind.i64 ((↑s.len : Int) - (1 : Int)) ∧
 IntKind.wrap IntKind.i64 ((↑s.len : Int) - (1 : Int)) < (↑s.len : Int) ∧
 Nn s.a fun (l : Go.Vc.Loc) ↦
 ∃ (n : Int),
 at1 h l.b (l.o + Int.toNat (IntKind.wrap IntKind.i64 ((↑s.len : Int) - (1 : Int))) * (1 : Nat)) (Value.int IntKind.u8 n) ∧
 (8 : Int) ≠ (0 : Int) ∧
 (0 : Int) ≤ Int.tmod (↑list.len : Int) (8 : Int) ∧
 (0 : Int) ≤ IntKind.wrap IntKind.i64 ((↑s.len : Int) - (1 : Int)) ∧
 IntKind.wrap IntKind.i64 ((↑s.len : Int) - (1 : Int)) < (↑s.len : Int) ∧
 Nn s.a fun (l : Go.Vc.Loc) ↦
 wok h l.b (l.o + Int.toNat (IntKind.wrap IntKind.i64 ((↑s.len : Int) - (1 : Int))) * (1 : Nat)) (1 : Nat) ∧
 Vc.Bind
 (TV.put h l.b (l.o + Int.toNat (IntKind.wrap IntKind.i64 ((↑s.len : Int) - (1 : Int))) * (1 : Nat))
 (TV.int IntKind.u8
 (IntKind.wrap IntKind.u8
 (↑(BitVec.toNat
 (BitVec.ofInt (IntKind.bits IntKind.u8) n |||
 BitVec.ofInt (IntKind.bits IntKind.u8)
 (IntKind.wrap IntKind.u8
 ((1 : Int) *
 (2 : Int) ^ min (Int.toNat (Int.tmod (↑list.len : Int) (8 : Int))) (IntKind.bits IntKind.u8))))) :
 Int))))
 fun (h : Array Obj) ↦ R (TV.val (TV.slice s)) h)

theorem bitlist_Put_calls (b : Sl) (list : Sl) (h : Heap) (R : Value → Heap → Prop) (H : bitlist_Put_vc b list h R) : CallsH Tryz.prog 101 (TVs.vals [TV.slice b, TV.slice list]) h R :=
 vcFn_sound (C := ctx) ctx_ok (fn := Tryz.f101) Tryz.func101 ((by kernel_rfl : bitlist_Put_vc b list h R = vcFn ctx Tryz.f101 [TV.slice b, TV.slice list] h R) ▸ H)


def slices_Index___bool_bool__vc (s_ : Sl) (v_ : Bool) (h : Heap) (R : Value → Heap → Prop) : Prop :=
 Go.Vc.Loop ((0 : Int), (0 : Int)) h fun (s : Int × Int) (h : Array Obj) (K : Int × Int → Array Obj → Prop) ↦
 If (decide (s.snd < (↑s_.len : Int)))
 ((0 : Int) ≤ s.snd ∧
 s.snd < (↑s_.len : Int) ∧
 Nn s_.a fun (l : Go.Vc.Loc) ↦
 ∃ (b : Bool),
 at1 h l.b (l.o + Int.toNat s.snd * (1 : Nat)) (Value.bool b) ∧
 If (v_ == b) (R (TV.val (TV.int IntKind.i64 s.snd)) h) (K (s.fst, IntKind.wrap IntKind.i64 (s.snd + (1 : Int))) h))
 (R (TV.val (TV.int IntKind.i64 (-1 : Int))) h)

theorem slices_Index___bool_bool__calls (s_ : Sl) (v_ : Bool) (h : Heap) (R : Value → Heap → Prop) (H : slices_Index___bool_bool__vc s_ v_ h R) : CallsH Tryz.prog 110 (TVs.vals [TV.slice s_, TV.bool v_]) h R :=
 vcFn_sound (C := ctx) ctx_ok (fn := Tryz.f110) Tryz.func110 ((by kernel_rfl : slices_Index___bool_bool__vc s_ v_ h R = vcFn ctx Tryz.f110 [TV.slice s_, TV.bool v_] h R) ▸ H)


def slices_Contains___bool_bool__vc (s_ : Sl) (v_ : Bool) (h : Heap) (R : Value → Heap → Prop) : Prop :=
 CallsH Tryz.prog (110 : Nat) (TVs.vals [TV.slice s_, TV.bool v_]) h fun (v : Value) (h : Heap) ↦
 ∃ (n : Int), v = TV.val (TV.int IntKind.i64 n) ∧ R (TV.val (TV.bool (decide ((0 : Int) ≤ n)))) h

theorem slices_Contains___bool_bool__calls (s_ : Sl) (v_ : Bool) (h : Heap) (R : Value → Heap → Prop) (H : slices_Contains___bool_bool__vc s_ v_ h R) : CallsH Tryz.prog 93 (TVs.vals [TV.slice s_, TV.bool v_]) h R :=
 vcFn_sound (C := ctx) ctx_ok (fn := Tryz.f93) Tryz.func93 ((by kernel_rfl : slices_Contains___bool_bool__vc s_ v_ h R = vcFn ctx Tryz.f93 [TV.slice s_, TV.bool v_] h R) ▸ H)


def wire_Good_vc (m_Kind : Int) (m_Slot : Int) (m_Target : Bs (32 : Nat)) (m_Member : Int) (m_Body : Int) (m_Bits : Sl) (m_Tag : Bs (16 : Nat)) (h : Heap) (R : Value → Heap → Prop) : Prop :=
 Vc.Bind
 (newTV h
 (TV.agg
 [TV.int IntKind.i64 m_Kind, TV.int IntKind.i64 m_Slot, TV.bytes (32 : Nat) m_Target, TV.int IntKind.i64 m_Member, TV.int IntKind.u64 m_Body,
 TV.slice m_Bits, TV.bytes (16 : Nat) m_Tag])
 (58 : Nat))
 fun (h_1 : Array Obj) ↦
 Join
 (fun (s : Bool) (h_2 : Array Obj) ↦
 ∃ (n : Int),
 at1 h_2 (Array.size h) (0 : Nat) (Value.int IntKind.i64 n) ∧
 If (decide (n = (3 : Int)))
 (∃ (n : Int),
 at1 h_2 (Array.size h) (34 : Nat) (Value.int IntKind.i64 n) ∧
 If (decide (n = (0 : Int)))
 (∃ (s : Sl),
 at1 h_2 (Array.size h) (36 : Nat) (slVal s) ∧
 If (decide ((↑s.len : Int) ≤ (16 : Int)))
 (∃ (s : Sl),
 at1 h_2 (Array.size h) (36 : Nat) (slVal s) ∧
 CallsH Tryz.prog (93 : Nat) (TVs.vals [TV.slice s, TV.bool true]) h_2 fun (v : Value) (h : Array Obj) ↦
 ∃ (b : Bool), v = TV.val (TV.bool b) ∧ R (TV.val (TV.bool b)) h)
 (R (TV.val (TV.bool false)) h_2))
 (R (TV.val (TV.bool false)) h_2))
 (∃ (n : Int),
 at1 h_2 (Array.size h) (0 : Nat) (Value.int IntKind.i64 n) ∧
 If (decide (n = (1 : Int)))
 (∃ (s : Sl), at1 h_2 (Array.size h) (36 : Nat) (slVal s) ∧ R (TV.val (TV.bool (decide ((↑s.len : Int) = (0 : Int))))) h_2)
 (∃ (n : Int),
 at1 h_2 (Array.size h) (0 : Nat) (Value.int IntKind.i64 n) ∧
 If (decide (n = (2 : Int)))
 (∃ (s : Sl), at1 h_2 (Array.size h) (36 : Nat) (slVal s) ∧ R (TV.val (TV.bool (decide ((↑s.len : Int) = (0 : Int))))) h_2)
 (R (TV.val (TV.bool false)) h_2))))
 fun (J : Bool → Array Obj → Prop) ↦
 ∃ (n : Int),
 at1 h_1 (Array.size h) (1 : Nat) (Value.int IntKind.i64 n) ∧
 If (decide (n < (0 : Int))) (R (TV.val (TV.bool false)) h_1)
 (∃ (n : Int),
 at1 h_1 (Array.size h) (1 : Nat) (Value.int IntKind.i64 n) ∧
 If (decide ((1073741824 : Int) < n)) (R (TV.val (TV.bool false)) h_1)
 (∃ (n : Int),
 at1 h_1 (Array.size h) (34 : Nat) (Value.int IntKind.i64 n) ∧
 If (decide (n < (0 : Int))) (R (TV.val (TV.bool false)) h_1)
 (∃ (n : Int),
 at1 h_1 (Array.size h) (34 : Nat) (Value.int IntKind.i64 n) ∧
 If (decide ((65535 : Int) < n)) (R (TV.val (TV.bool false)) h_1)
 (∃ (n : Int),
 at1 h_1 (Array.size h) (0 : Nat) (Value.int IntKind.i64 n) ∧
 If (!decide (n = (1 : Int)))
 (∃ (n : Int),
 at1 h_1 (Array.size h) (35 : Nat) (Value.int IntKind.u64 n) ∧
 If (!decide (n = (0 : Int))) (R (TV.val (TV.bool false)) h_1) (J false h_1))
 (J false h_1)))))

theorem wire_Good_calls (m_Kind : Int) (m_Slot : Int) (m_Target : Bs (32 : Nat)) (m_Member : Int) (m_Body : Int) (m_Bits : Sl) (m_Tag : Bs (16 : Nat)) (h : Heap) (R : Value → Heap → Prop) (H : wire_Good_vc m_Kind m_Slot m_Target m_Member m_Body m_Bits m_Tag h R) : CallsH Tryz.prog 66 (TVs.vals [TV.agg [TV.int IntKind.i64 m_Kind, TV.int IntKind.i64 m_Slot, TV.bytes (32 : Nat) m_Target, TV.int IntKind.i64 m_Member, TV.int IntKind.u64 m_Body, TV.slice m_Bits, TV.bytes (16 : Nat) m_Tag]]) h R :=
 vcFn_sound (C := ctx) ctx_ok (fn := Tryz.f66) Tryz.func66 ((by kernel_rfl : wire_Good_vc m_Kind m_Slot m_Target m_Member m_Body m_Bits m_Tag h R = vcFn ctx Tryz.f66 [TV.agg [TV.int IntKind.i64 m_Kind, TV.int IntKind.i64 m_Slot, TV.bytes (32 : Nat) m_Target, TV.int IntKind.i64 m_Member, TV.int IntKind.u64 m_Body, TV.slice m_Bits, TV.bytes (16 : Nat) m_Tag]] h R) ▸ H)


end Go.Proofs.YtldocdpdjdekiaaGreat
end

section
/- Messages as bytes: rows of bits, whether a message can be, its bytes, what one speaker's tag is of. -/
namespace Go.Proofs.YtldocdpdjdekiaaGreat.Board
open Go Go.Vc
section
variable {R : Value → Heap → Prop} {h : Heap}

/-- A bit more in a byte. -/
def orv (c i : Int) : Int := IntKind.wrap .u8 ((BitVec.ofInt (IntKind.bits .u8) c ||| BitVec.ofInt (IntKind.bits .u8) (IntKind.wrap .u8 (1 * 2 ^ min (Int.toNat (Int.tmod i 8)) (IntKind.bits .u8)))).toNat : Int)
def bitS (acc : List UInt8) (i : Nat) : List UInt8 := acc.set (i / 8) (UInt8.ofNat (orv (by8 acc (i / 8)) (i : Int)).toNat)
def bitG (row : List Bool) : Nat → List UInt8
  | 0 => List.replicate (row.length / 8 + 1) 0
  | i + 1 => if row.getD i false = true then bitS (bitG row i) i else bitG row i
/-- A row of bits as bytes. -/
def bitF (row : List Bool) : List UInt8 := bitS (bitG row row.length) row.length

theorem bitG_length (row : List Bool) : ∀ i, (bitG row i).length = row.length / 8 + 1
  | 0 => by simp [bitG]
  | i + 1 => by
    unfold bitG
    split
    · simp [bitS, bitG_length row i]
    · exact bitG_length row i

theorem by8_right (bs g : List UInt8) (k : Nat) : by8 (bs ++ g) (bs.length + k) = by8 g k := by
  unfold by8
  rw [List.getD_eq_getElem?_getD, List.getD_eq_getElem?_getD, List.getElem?_append_right (by omega)]
  congr 4
  omega

/-- A byte of a row is written. -/
theorem Row.set {Q : Nat → Prop} {s : Sl} {bs : List UInt8} (r : Row Q h s bs) {i c : Int} (i0 : 0 ≤ i) (i1 : i < bs.length) (c0 : 0 ≤ c) (c1 : c < 256) {K : Heap → Prop}
    (hk : ∀ h', Row Q h' s (bs.set i.toNat (UInt8.ofNat c.toNat)) → Only Q h h' → K h') : 0 ≤ i ∧ i < (s.len : Int) ∧ Nn s.a fun l => wok h l.b (l.o + i.toNat * 1) 1 ∧ Bind ((TV.int .u8 c).put h l.b (l.o + i.toNat * 1)) K := by
  refine r.own.put_in (t := .int .u8 c) i0 (by rw [List.length_map]; exact i1) rfl rfl fun h1 o1 f1 s1 => hk h1 ⟨?_, r.far, fun j hj => r.new j (by omega)⟩ (r.cut f1)
  have e : byTV (UInt8.ofNat c.toNat) = TV.int .u8 c := by
    unfold byTV
    rw [UInt8.toNat_ofNat']
    congr 1
    omega
  have : bys (bs.set i.toNat (UInt8.ofNat c.toNat)) = (bys bs).set i.toNat (TV.int .u8 c) := by simp [bys, List.map_set, e]
  rw [this]
  exact o1

theorem bput_spec {Q : Nat → Prop} {s list : Sl} {bs : List UInt8} {row : List Bool} (r : Row Q h s bs) (hl : bs.length < 1000) (hn : row.length < 1000) (hlen : row.length = list.len) (e : ∀ h', Only Q h h' → Elems 1 h' list (bools row))
    (hr : ∀ h' s', Row Q h' s' (bs ++ bitF row) → Only Q h h' → R (TV.slice s').val h') : CallsH Tryz.prog 101 (TVs.vals [.slice s, .slice list]) h R := by
  apply bitlist_Put_calls
  unfold bitlist_Put_vc
  have rl := r.len
  have hq : Int.tdiv (list.len : Int) 8 = ((row.length / 8 : Nat) : Int) := by
    rw [Int.tdiv_eq_ediv_of_nonneg (by omega), ← hlen]
    rfl
  rw [hq, wrap_i64 (n := ((row.length / 8 : Nat) : Int)) (by omega) (by omega), wrap_i64 (n := ((row.length / 8 : Nat) : Int) + 1) (by omega) (by omega)]
  have hk1 : Int.toNat (((row.length / 8 : Nat) : Int) + 1) = row.length / 8 + 1 := by omega
  refine ⟨by decide, by omega, by omega, ?_⟩
  rw [hk1]
  have hrep : List.replicate (row.length / 8 + 1) (Value.int .u8 0) = (bitG row 0).map fun c => Value.int .u8 (c.toNat : Int) := by simp [bitG]
  rw [hrep, ← bitG_length row 0]
  refine app_bytes r (by rw [bitG_length]; omega) fun s1 h1 r1 f1 b1 => ?_
  have f1 := r.cut f1
  refine ⟨fun i hh => 0 ≤ i ∧ i ≤ row.length ∧ Row Q hh s1 (bs ++ bitG row i.toNat) ∧ Only Q h hh, fun i _ => ((row.length : Int) - i).toNat, ⟨Int.le_refl 0, by omega, r1, f1⟩, ?_⟩
  rintro i h2 ⟨i0, i1, r2, f2⟩
  have l2 := r2.len
  rw [List.length_append, bitG_length] at l2
  rw [wrap_i64 (n := i + 1) (by omega) (by omega)]
  refine If.dec.2 ⟨fun hi => ?_, fun hi => ?_⟩
  · refine read_bool (e h2 f2) i0 (by omega) fun x hx => ?_
    have hgd : row.getD i.toNat false = x := by rw [List.getD_eq_getElem?_getD, hx]; rfl
    have hi1 : (i + 1).toNat = i.toNat + 1 := by omega
    cases x with
    | false =>
      refine If.no ⟨⟨by omega, by omega, ?_, f2⟩, by first | omega | (dsimp only; omega)⟩
      rw [hi1]
      unfold bitG
      rw [hgd, if_neg (by decide)]
      exact r2
    | true =>
      have hqi : Int.tdiv i 8 = ((i.toNat / 8 : Nat) : Int) := by
        rw [Int.tdiv_eq_ediv_of_nonneg i0]
        omega
      have hmi : 0 ≤ Int.tmod i 8 := by rw [Int.tmod_eq_emod_of_nonneg i0]; omega
      rw [hqi, wrap_i64 (n := ((i.toNat / 8 : Nat) : Int)) (by omega) (by omega), wrap_i64 (n := (s.len : Int) + ((i.toNat / 8 : Nat) : Int)) (by omega) (by omega)]
      have hb : i.toNat / 8 < row.length / 8 + 1 := by omega
      have hat : Int.toNat ((s.len : Int) + ((i.toNat / 8 : Nat) : Int)) = bs.length + i.toNat / 8 := by omega
      refine If.yes ⟨by decide, byte_in (bs := bs ++ bitG row i.toNat) r2.own.elems (by omega) (by rw [List.length_append, bitG_length]; omega) ⟨by decide, hmi, ?_⟩⟩
      have hw : 0 ≤ orv (by8 (bs ++ bitG row i.toNat) (Int.toNat ((s.len : Int) + ((i.toNat / 8 : Nat) : Int)))) i ∧ orv (by8 (bs ++ bitG row i.toNat) (Int.toNat ((s.len : Int) + ((i.toNat / 8 : Nat) : Int)))) i < 256 := wrap_u8_range _
      refine r2.set (i := (s.len : Int) + ((i.toNat / 8 : Nat) : Int)) (c := orv (by8 (bs ++ bitG row i.toNat) (Int.toNat ((s.len : Int) + ((i.toNat / 8 : Nat) : Int)))) i) (by omega) (by rw [List.length_append, bitG_length]; omega) hw.1 hw.2 fun h3 r3 f3 => ?_
      refine ⟨⟨by omega, by omega, ?_, f2.trans f3⟩, by first | omega | (dsimp only; omega)⟩
      rw [hat, by8_right, List.set_append_right _ _ (by omega), show bs.length + i.toNat / 8 - bs.length = i.toNat / 8 by omega] at r3
      rw [hi1]
      unfold bitG
      rw [hgd, if_pos rfl, bitS, show ((i.toNat : Nat) : Int) = i by omega]
      exact r3
  · have hin : i.toNat = row.length := by omega
    rw [hin] at r2
    have hmi : 0 ≤ Int.tmod (list.len : Int) 8 := by rw [Int.tmod_eq_emod_of_nonneg (by omega)]; omega
    rw [wrap_i64 (n := (s1.len : Int) - 1) (by omega) (by omega)]
    have hat : Int.toNat ((s1.len : Int) - 1) = bs.length + row.length / 8 := by omega
    refine byte_in (bs := bs ++ bitG row row.length) r2.own.elems (by omega) (by rw [List.length_append, bitG_length]; omega) ⟨by decide, hmi, ?_⟩
    have hw : 0 ≤ orv (by8 (bs ++ bitG row row.length) (Int.toNat ((s1.len : Int) - 1))) (list.len : Int) ∧ orv (by8 (bs ++ bitG row row.length) (Int.toNat ((s1.len : Int) - 1))) (list.len : Int) < 256 := wrap_u8_range _
    refine r2.set (i := (s1.len : Int) - 1) (c := orv (by8 (bs ++ bitG row row.length) (Int.toNat ((s1.len : Int) - 1))) (list.len : Int)) (by omega) (by rw [List.length_append, bitG_length]; omega) hw.1 hw.2 fun h3 r3 f3 => ?_
    refine hr h3 s1 ?_ (f2.trans f3)
    rw [hat, by8_right, List.set_append_right _ _ (by omega), show bs.length + row.length / 8 - bs.length = row.length / 8 by omega, ← hlen] at r3
    exact r3

/-! ### Messages -/

structure Ms where
  kind : Int
  slot : Int
  target : Bs 32
  member : Int
  body : Int
  bits : Sl
  tag : Bs 16
def Ms.tv (m : Ms) : TV := .agg [.int .i64 m.kind, .int .i64 m.slot, .bytes 32 m.target, .int .i64 m.member, .int .u64 m.body, .slice m.bits, .bytes 16 m.tag]

def zeroM : Ms := ⟨0, 0, Bs.zero 32, 0, 0, Sl.nil, Bs.zero 16⟩

/-- A message is read. -/
theorem ms_at {m : Ms} {b : Nat} (v : Var 58 h b m.tv) {K : Int → Int → Bs 32 → Int → Int → Sl → Bs 16 → Prop} (hk : K m.kind m.slot m.target m.member m.body m.bits m.tag) :
    ∃ (n : Int), ∃ (n_1 : Int), ∃ (b_ : Bs 32), ∃ (n_2 : Int), ∃ (n_3 : Int), ∃ (s : Sl), ∃ (b_1 : Bs 16), (at1 h b 0 (.int .i64 n) ∧ at1 h b 1 (.int .i64 n_1) ∧ atBytes h b 2 32 b_ ∧ at1 h b 34 (.int .i64 n_2) ∧ at1 h b 35 (.int .u64 n_3) ∧ at1 h b 36 (slVal s) ∧ atBytes h b 37 16 b_1) ∧ K n n_1 b_ n_2 n_3 s b_1 :=
  ⟨m.kind, m.slot, m.target, m.member, m.body, m.bits, m.tag, v.at, hk⟩

theorem mssz {c d : Ms} : c.tv.size = d.tv.size := by simp only [Ms.tv, TV.size, TVs.size]
theorem mssz1 {c : Ms} : 53 = c.tv.size := by simp only [Ms.tv, TV.size, TVs.size]

/-- Can a message be? -/
def goodF (m : Ms) (row : List Bool) : Bool :=
  !(decide (m.slot < 0) || decide (1073741824 < m.slot) || decide (m.member < 0) || decide (65535 < m.member) || (!decide (m.kind = 1) && !decide (m.body = 0))) &&
    if m.kind = 3 then decide (m.member = 0) && (decide (row.length ≤ 16) && row.contains true) else (decide (m.kind = 1) || decide (m.kind = 2)) && decide (row.length = 0)

def bidx : List Bool → Int → Int
  | [], _ => -1
  | b :: bs, i => if b = true then i else bidx bs (i + 1)

theorem bidx_nonneg : ∀ (l : List Bool) (i : Int), 0 ≤ i → (decide (0 ≤ bidx l i) = l.contains true)
  | [], i, _ => by simp [bidx]
  | b :: bs, i, hi => by
    unfold bidx
    cases b with
    | true => rw [if_pos rfl]; simp [hi]
    | false => rw [if_neg (by decide), bidx_nonneg bs (i + 1) (by omega)]; simp

theorem bindex_spec {s : Sl} {l : List Bool} (e : Elems 1 h s (bools l)) (hl : l.length < 100000) (hr : R (TV.int .i64 (bidx l 0)).val h) : CallsH Tryz.prog 110 (TVs.vals [.slice s, .bool true]) h R := by
  apply slices_Index___bool_bool__calls
  unfold slices_Index___bool_bool__vc
  have el : l.length = s.len := by have := e.len; rwa [List.length_map] at this
  refine ⟨fun σ hh => 0 ≤ σ.2 ∧ σ.2 ≤ s.len ∧ hh = h ∧ bidx l 0 = bidx (l.drop σ.2.toNat) σ.2, fun σ _ => ((s.len : Int) - σ.2).toNat, ⟨Int.le_refl 0, by first | omega | (dsimp only; omega), rfl, rfl⟩, ?_⟩
  rintro ⟨f, i⟩ hh ⟨i0, i1, rfl, ht⟩
  dsimp only at i0 i1 ht ⊢
  refine If.dec.2 ⟨fun hi => ?_, fun hi => ?_⟩
  · refine read_bool e i0 (by omega) fun x hx => ?_
    rw [drop_get hx, bidx] at ht
    cases x with
    | true =>
      rw [if_pos rfl] at ht
      rw [ht] at hr
      exact If.yes hr
    | false =>
      rw [if_neg (by decide)] at ht
      rw [wrap_i64 (n := i + 1) (by omega) (by omega)]
      have hi1 : (i + 1).toNat = i.toNat + 1 := by omega
      refine If.no ⟨⟨by first | omega | (dsimp only; omega), by first | omega | (dsimp only; omega), rfl, ?_⟩, by first | omega | (dsimp only; omega)⟩
      try dsimp only
      rw [hi1]
      exact ht
  · have hi2 : l.drop i.toNat = [] := List.drop_eq_nil_of_le (by omega)
    rw [hi2, bidx] at ht
    rw [ht] at hr
    exact hr

theorem contains_spec {s : Sl} {l : List Bool} (e : Elems 1 h s (bools l)) (hl : l.length < 100000) (hr : R (TV.bool (l.contains true)).val h) : CallsH Tryz.prog 93 (TVs.vals [.slice s, .bool true]) h R := by
  apply slices_Contains___bool_bool__calls
  unfold slices_Contains___bool_bool__vc
  refine bindex_spec e hl ⟨_, rfl, ?_⟩
  rw [bidx_nonneg l 0 (Int.le_refl 0)]
  exact hr

theorem mgood_spec {m : Ms} {row : List Bool} (e : Elems 1 h m.bits (bools row)) (hl : row.length < 100000) (hr : ∀ h', Ext h h' → R (TV.bool (goodF m row)).val h') : CallsH Tryz.prog 66 (TVs.vals [m.tv]) h R := by
  apply wire_Good_calls m.kind m.slot m.target m.member m.body m.bits m.tag
  unfold wire_Good_vc
  have el : row.length = m.bits.len := by have := e.len; rwa [List.length_map] at this
  refine newTV_in fun h1 v1 x1 s1 => ?_
  have at0 := v1.at (t := m.tv)
  obtain ⟨a0, a1, a2, a3, a4, a5, a6⟩ := at0
  have hr1 := hr h1 x1
  intro J HJ
  have fin : ∀ b, m.slot ≥ 0 → m.slot ≤ 1073741824 → m.member ≥ 0 → m.member ≤ 65535 → (m.kind = 1 ∨ m.body = 0) → J b h1 := by
    intro b g1 g2 g3 g4 g5
    refine HJ b h1 ⟨_, a0, ?_⟩
    have hpre : (!(decide (m.slot < 0) || decide (1073741824 < m.slot) || decide (m.member < 0) || decide (65535 < m.member) || (!decide (m.kind = 1) && !decide (m.body = 0)))) = true := by
      rcases g5 with g5 | g5 <;> simp [g5] <;> omega
    unfold goodF at hr1
    rw [hpre, Bool.true_and] at hr1
    refine If.dec.2 ⟨fun k3 => ?_, fun k3 => ?_⟩
    · rw [if_pos k3] at hr1
      refine ⟨_, a3, If.dec.2 ⟨fun k4 => ⟨_, a5, If.dec.2 ⟨fun k5 => ⟨_, a5, ?_⟩, fun k5 => ?_⟩⟩, fun k4 => ?_⟩⟩
      · refine contains_spec (e.ext x1) hl ⟨_, rfl, ?_⟩
        rw [decide_eq_true k4, decide_eq_true (show row.length ≤ 16 by omega)] at hr1
        exact hr1
      · rw [decide_eq_true k4, decide_eq_false (show ¬ row.length ≤ 16 by omega)] at hr1
        exact hr1
      · rw [decide_eq_false k4] at hr1
        exact hr1
    · rw [if_neg k3, el] at hr1
      have hd : decide (((m.bits.len : Nat) : Int) = 0) = decide (m.bits.len = 0) := by
        by_cases h0 : m.bits.len = 0
        · rw [decide_eq_true h0, decide_eq_true (by omega)]
        · rw [decide_eq_false h0, decide_eq_false (by omega)]
      rw [← hd] at hr1
      refine ⟨_, a0, If.dec.2 ⟨fun k4 => ⟨_, a5, ?_⟩, fun k4 => ⟨_, a0, If.dec.2 ⟨fun k5 => ⟨_, a5, ?_⟩, fun k5 => ?_⟩⟩⟩⟩
      · rw [decide_eq_true k4] at hr1
        exact hr1
      · rw [decide_eq_false k4, decide_eq_true k5] at hr1
        exact hr1
      · rw [decide_eq_false k4, decide_eq_false k5] at hr1
        exact hr1
  have bad : (m.slot < 0 ∨ 1073741824 < m.slot ∨ m.member < 0 ∨ 65535 < m.member ∨ (m.kind ≠ 1 ∧ m.body ≠ 0)) → R (TV.bool false).val h1 := by
    intro hb
    have hpre : (!(decide (m.slot < 0) || decide (1073741824 < m.slot) || decide (m.member < 0) || decide (65535 < m.member) || (!decide (m.kind = 1) && !decide (m.body = 0)))) = false := by
      rcases hb with hb | hb | hb | hb | ⟨hb, hc⟩
      · simp [hb]
      · simp [hb]
      · simp [hb]
      · simp [hb]
      · simp [hb, hc]
    unfold goodF at hr1
    rw [hpre, Bool.false_and] at hr1
    exact hr1
  clear HJ
  refine ⟨_, a1, If.dec.2 ⟨fun g => bad (.inl g), fun g1 => ⟨_, a1, If.dec.2 ⟨fun g => bad (.inr (.inl g)), fun g2 => ⟨_, a3, If.dec.2 ⟨fun g => bad (.inr (.inr (.inl g))), fun g3 => ⟨_, a3, If.dec.2 ⟨fun g => bad (.inr (.inr (.inr (.inl g)))), fun g4 => ⟨_, a0, If.split (fun g5 => ⟨_, a4, If.split (fun g6 => ?_) fun g6 => ?_⟩) fun g5 => ?_⟩⟩⟩⟩⟩⟩⟩⟩⟩
  · exact bad (.inr (.inr (.inr (.inr ⟨by simpa using g5, by simpa using g6⟩))))
  · exact fin _ (by omega) (by omega) (by omega) (by omega) (.inr (by simpa using g6))
  · exact fin _ (by omega) (by omega) (by omega) (by omega) (.inl (by simpa using g5))

end
end Go.Proofs.YtldocdpdjdekiaaGreat.Board
end

section
/- The conditions of functions, as the generator reckons them out, each with the proof that it is that. -/
namespace Go.Proofs.YtldocdpdjdekiaaGreat
open Go Go.Vc
set_option maxRecDepth 100000
set_option linter.unusedVariables false

def wire_Plain_vc (m_Kind : Int) (m_Slot : Int) (m_Target : Bs (32 : Nat)) (m_Member : Int) (m_Body : Int) (m_Bits : Sl) (m_Tag : Bs (16 : Nat)) (h : Heap) (R : Value → Heap → Prop) : Prop :=
 Vc.Bind
 (newTV h
 (TV.agg
 [TV.int IntKind.i64 m_Kind, TV.int IntKind.i64 m_Slot, TV.bytes (32 : Nat) m_Target, TV.int IntKind.i64 m_Member, TV.int IntKind.u64 m_Body,
 TV.slice m_Bits, TV.bytes (16 : Nat) m_Tag])
 (58 : Nat))
 fun (h_1 : Array Obj) ↦
 ∃ (n : Int),
 at1 h_1 (Array.size h) (0 : Nat) (Value.int IntKind.i64 n) ∧
 ∃ (n_1 : Int),
 at1 (Array.push h_1 (row (TVs.cells [TV.int IntKind.u8 (IntKind.wrap IntKind.u8 n)]) (5 : Nat))) (Array.size h) (1 : Nat) (Value.int IntKind.i64 n_1) ∧
 CallsH Tryz.prog (100 : Nat)
 (TVs.vals
 [TV.slice (Sl.mk (some (Loc.mk (Array.size h_1) (0 : Nat))) (1 : Nat) (1 : Nat)), TV.int IntKind.u64 (IntKind.wrap IntKind.u64 n_1),
 TV.int IntKind.i64 (4 : Int)])
 (Array.push h_1 (row (TVs.cells [TV.int IntKind.u8 (IntKind.wrap IntKind.u8 n)]) (5 : Nat))) fun (v : Value) (h_2 : Array Obj) ↦
 ∃ (s : Sl),
 v = TV.val (TV.slice s) ∧
 ∃ (new : List Value),
 slAt h_2 (cutSl (Sl.mk (some (Loc.mk (Array.size h) (2 : Nat))) (32 : Nat) (32 : Nat)) (0 : Nat) (32 : Nat) (1 : Nat)) (1 : Nat) new ∧
 (∀ (v : Value), v ∈ new → isOne v = true) ∧
 vcAppend YtldocdpdjdekiaaGreat.ctxL (5 : Nat) s
 (cutSl (Sl.mk (some (Loc.mk (Array.size h) (2 : Nat))) (32 : Nat) (32 : Nat)) (0 : Nat) (32 : Nat) (1 : Nat)).len new h_2
 fun (s : Sl) (h_3 : Array Obj) ↦
 ∃ (n : Int),
 at1 h_3 (Array.size h) (0 : Nat) (Value.int IntKind.i64 n) ∧
 If (decide (n = (1 : Int)))
 (∃ (h0 : Array Obj),
 Vc.Sub h0 h_3 ∧
 ∃ (n : Int),
 at1 h0 (Array.size h) (34 : Nat) (Value.int IntKind.i64 n) ∧
 ∃ (n_2 : Int),
 at1 h0 (Array.size h) (35 : Nat) (Value.int IntKind.u64 n_2) ∧
 CallsH Tryz.prog (100 : Nat)
 (TVs.vals [TV.slice s, TV.int IntKind.u64 (IntKind.wrap IntKind.u64 n), TV.int IntKind.i64 (2 : Int)]) h_3
 fun (v : Value) (h : Array Obj) ↦
 ∃ (s : Sl),
 v = TV.val (TV.slice s) ∧
 Vc.Sub h0 h ∧
 CallsH Tryz.prog (100 : Nat) (TVs.vals [TV.slice s, TV.int IntKind.u64 n_2, TV.int IntKind.i64 (8 : Int)]) h
 fun (v : Value) (h : Array Obj) ↦
 ∃ (s : Sl), v = TV.val (TV.slice s) ∧ ∃ (bs : List UInt8), strAt h s bs ∧ R (TV.val (TV.str bs)) h)
 (If (decide (n = (2 : Int)))
 (∃ (n : Int),
 at1 h_3 (Array.size h) (34 : Nat) (Value.int IntKind.i64 n) ∧
 CallsH Tryz.prog (100 : Nat)
 (TVs.vals [TV.slice s, TV.int IntKind.u64 (IntKind.wrap IntKind.u64 n), TV.int IntKind.i64 (2 : Int)]) h_3
 fun (v : Value) (h : Array Obj) ↦
 ∃ (s : Sl), v = TV.val (TV.slice s) ∧ ∃ (bs : List UInt8), strAt h s bs ∧ R (TV.val (TV.str bs)) h)
 (If (decide (n = (3 : Int)))
 (∃ (s_1 : Sl),
 at1 h_3 (Array.size h) (36 : Nat) (slVal s_1) ∧
 CallsH Tryz.prog (101 : Nat) (TVs.vals [TV.slice s, TV.slice s_1]) h_3 fun (v : Value) (h : Array Obj) ↦
 ∃ (s : Sl), v = TV.val (TV.slice s) ∧ ∃ (bs : List UInt8), strAt h s bs ∧ R (TV.val (TV.str bs)) h)
 (∃ (bs : List UInt8), strAt h_3 s bs ∧ R (TV.val (TV.str bs)) h_3)))

theorem wire_Plain_calls (m_Kind : Int) (m_Slot : Int) (m_Target : Bs (32 : Nat)) (m_Member : Int) (m_Body : Int) (m_Bits : Sl) (m_Tag : Bs (16 : Nat)) (h : Heap) (R : Value → Heap → Prop) (H : wire_Plain_vc m_Kind m_Slot m_Target m_Member m_Body m_Bits m_Tag h R) : CallsH Tryz.prog 72 (TVs.vals [TV.agg [TV.int IntKind.i64 m_Kind, TV.int IntKind.i64 m_Slot, TV.bytes (32 : Nat) m_Target, TV.int IntKind.i64 m_Member, TV.int IntKind.u64 m_Body, TV.slice m_Bits, TV.bytes (16 : Nat) m_Tag]]) h R :=
 vcFn_sound (C := ctxL) ctxL_ok (fn := Tryz.f72) Tryz.func72 ((by kernel_rfl : wire_Plain_vc m_Kind m_Slot m_Target m_Member m_Body m_Bits m_Tag h R = vcFn ctxL Tryz.f72 [TV.agg [TV.int IntKind.i64 m_Kind, TV.int IntKind.i64 m_Slot, TV.bytes (32 : Nat) m_Target, TV.int IntKind.i64 m_Member, TV.int IntKind.u64 m_Body, TV.slice m_Bits, TV.bytes (16 : Nat) m_Tag]] h R) ▸ H)


end Go.Proofs.YtldocdpdjdekiaaGreat
end

section
/- A message's bytes, who speaks, its tag, what is signed and checked, its votes. -/
namespace Go.Proofs.YtldocdpdjdekiaaGreat.Board
open Go Go.Vc
section
variable {R : Value → Heap → Prop} {h : Heap}

/-- A message's bytes without its tag. -/
def plainF (m : Ms) (row : List Bool) : List UInt8 :=
  (([UInt8.ofNat (IntKind.wrap .u8 m.kind).toNat] ++ leF (IntKind.wrap .u64 m.slot) 4) ++ m.target.l) ++
    if m.kind = 1 then leF (IntKind.wrap .u64 m.member) 2 ++ leF m.body 8 else if m.kind = 2 then leF (IntKind.wrap .u64 m.member) 2 else if m.kind = 3 then bitF row else []

theorem leF_len (n : Int) (k : Nat) : (leF n k).length = k := leF_length k n
theorem bitF_len (row : List Bool) : (bitF row).length = row.length / 8 + 1 := by simp [bitF, bitS, bitG_length]

theorem plainF_len (m : Ms) (row : List Bool) : (plainF m row).length ≤ 60 + row.length := by
  unfold plainF
  simp only [List.length_append, leF_len, m.target.h, List.length_singleton]
  split
  · simp only [List.length_append, leF_len]; omega
  · split
    · simp only [leF_len]; omega
    · split
      · rw [bitF_len]; omega
      · simp only [List.length_nil]; omega

theorem elems_bytes {b o n c : Nat} {x : Bs n} (a : atBytes h b o n x) : Elems 1 h ⟨some ⟨b, o⟩, n, c⟩ (bys x.l) := by
  refine ⟨by rw [List.length_map, x.h], (fun hn => by cases hn), fun l hl i t ht => ?_⟩
  obtain rfl := Option.some.inj hl
  rw [List.getElem?_map] at ht
  obtain ⟨u, hu, rfl⟩ := Option.map_eq_some_iff.1 ht
  have hi : i < n := by rw [← x.h]; exact (List.getElem?_eq_some_iff.1 hu).1
  have := a i hi
  rw [List.getD_eq_getElem?_getD, hu] at this
  show at1 _ _ _ _
  rw [Nat.mul_one]
  exact this

theorem app_loose {e : TypeId} {s : Sl} {n : Nat} {new : List Value} {K : Sl → Heap → Prop} (H : vcAppend ctx e s n new h K) : vcAppend ctxL e s n new h K := H

theorem put_n {T : TypeId} {b n : Nat} {t0 t : TV} {K : Heap → Prop} (v : Var T h b t0) (hn : n = t0.size) (hs : t.size = t0.size) (hk : ∀ h1, Var T h1 b t → Only (· = b) h h1 → h1.size = h.size → K h1) : wok h b 0 n ∧ Bind (t.put h b 0) K := by
  subst hn
  exact put_in v hs hk

theorem app_bytesN {Q : Nat → Prop} {s : Sl} {bs us : List UInt8} {n : Nat} {K : Sl → Heap → Prop} (hn : n = us.length) (r : Row Q h s bs) (hl : bs.length + us.length < 10000)
    (hk : ∀ s' h', Row Q h' s' (bs ++ us) → Only (In s) h h' → (∀ l, s'.a = some l → (∃ l', s.a = some l' ∧ l'.b = l.b) ∨ h.size ≤ l.b) → K s' h') :
    vcAppend ctx 5 s n (us.map fun c => Value.int .u8 (c.toNat : Int)) h K := by
  subst hn
  exact app_bytes r hl hk

theorem bind_of {h1 : Heap} {K : Heap → Prop} (hk : K h1) : Bind h1 K := hk

set_option maxRecDepth 100000 in
theorem plain_spec {m : Ms} {row : List Bool} (e : Elems 1 h m.bits (bools row)) (hl : row.length < 500) (hr : ∀ h', Ext h h' → R (TV.str (plainF m row)).val h') : CallsH Tryz.prog 72 (TVs.vals [m.tv]) h R := by
  apply wire_Plain_calls m.kind m.slot m.target m.member m.body m.bits m.tag
  unfold wire_Plain_vc
  have el : row.length = m.bits.len := by have := e.len; rwa [List.length_map] at this
  refine newTV_in fun h1 v1 x1 s1 => ?_
  have at1' := v1.at (t := m.tv)
  obtain ⟨a0, a1, a2, a3, a4, a5, a6⟩ := at1'
  have hw := wrap_u8_range m.kind
  have xp := Ext.push h1 (Vc.row (TVs.cells [TV.int .u8 (IntKind.wrap .u8 m.kind)]) 5)
  have r1 : Row (fun i => h.size < i) (h1.push (Vc.row (TVs.cells [TV.int .u8 (IntKind.wrap .u8 m.kind)]) 5)) ⟨some ⟨h1.size, 0⟩, 1, 1⟩ [UInt8.ofNat (IntKind.wrap .u8 m.kind).toNat] := by
    have o := Own.new (T := 5) (sz := 1) h1 [TV.int .u8 (IntKind.wrap .u8 m.kind)] (fun t ht => by
      simp only [List.mem_cons, List.not_mem_nil, or_false] at ht
      subst ht; rfl)
    have e1 : byTV (UInt8.ofNat (IntKind.wrap .u8 m.kind).toNat) = TV.int .u8 (IntKind.wrap .u8 m.kind) := by
      unfold byTV
      rw [UInt8.toNat_ofNat']
      congr 1
      omega
    refine ⟨?_, fun l hl => ?_, fun i hi => ?_⟩
    · have e2 : bys [UInt8.ofNat (IntKind.wrap .u8 m.kind).toNat] = [TV.int .u8 (IntKind.wrap .u8 m.kind)] := by simp [bys, e1]
      rw [e2]
      exact o
    · obtain rfl := Option.some.inj hl
      show h.size < h1.size
      omega
    · rw [Array.size_push] at hi
      omega
  refine ⟨_, a0, _, at1_ext xp a1, ?_⟩
  refine put_spec_le (k := 4) r1 (by simp) (by decide) fun h2 s2 r2 o2 => ⟨_, rfl, ?_⟩
  have x2 : Ext h1 h2 := Only.cut xp o2 fun i hi => by omega
  have hc : cutSl (Sl.mk (some (Vc.Loc.mk h.size 2)) 32 32) 0 32 1 = ⟨some ⟨h.size, 2⟩, 32, 32⟩ := rfl
  rw [hc]
  refine ⟨m.target.l.map fun c => Value.int .u8 (c.toNat : Int), by rw [← bys_cells]; exact (elems_bytes (atBytes_ext x2 a2)).cells (bys_size _) (by decide), bcells_one m.target.l, app_loose ?_⟩
  refine app_bytesN m.target.h.symm r2 (by rw [List.length_append, leF_len, List.length_singleton, m.target.h]; decide) fun s3 h3 r3 f3 b3 => ?_
  have f3 := r2.cut f3
  have x3 : Ext h1 h3 := Only.cut xp (o2.trans f3) fun i hi => by omega
  have x03 := x1.trans x3
  have v3 : Var 58 h3 h.size m.tv := v1.ext x3
  have at3 := v3.at
  obtain ⟨b0, b1, b2, b3, b4, b5, b6⟩ := at3
  have l3 : (([UInt8.ofNat (IntKind.wrap .u8 m.kind).toNat] ++ leF (IntKind.wrap .u64 m.slot) 4) ++ m.target.l).length = 37 := by
    rw [List.length_append, List.length_append, leF_len, List.length_singleton, m.target.h]
  refine ⟨_, b0, If.dec.2 ⟨fun k1 => ?_, fun k1 => If.dec.2 ⟨fun k2 => ?_, fun k2 => If.dec.2 ⟨fun k3 => ?_, fun k3 => ?_⟩⟩⟩⟩
  · refine ⟨h1, x3.sub, _, a3, _, a4, ?_⟩
    refine put_spec_le (k := 2) r3 (by rw [l3]; decide) (by decide) fun h4 s4 r4 o4 => ⟨_, rfl, (Only.cut x3 o4 fun i hi => by omega : Ext h1 h4).sub, ?_⟩
    refine put_spec_le (k := 8) r4 (by rw [List.length_append, l3, leF_len]; decide) (by decide) fun h5 s5 r5 o5 => ⟨_, rfl, _, r5.str, ?_⟩
    have := hr h5 (Only.cut x03 (o4.trans o5) fun i hi => by omega)
    unfold plainF at this
    rw [if_pos k1, ← List.append_assoc] at this
    exact this
  · refine ⟨_, b3, ?_⟩
    refine put_spec_le (k := 2) r3 (by rw [l3]; decide) (by decide) fun h4 s4 r4 o4 => ⟨_, rfl, _, r4.str, ?_⟩
    have := hr h4 (Only.cut x03 o4 fun i hi => by omega)
    unfold plainF at this
    rw [if_neg k1, if_pos k2] at this
    exact this
  · refine ⟨_, b5, ?_⟩
    refine bput_spec r3 (by rw [l3]; decide) (by omega) el (fun h' o' => e.ext (Only.cut x03 o' fun i hi => by omega)) fun h4 s4 r4 o4 => ⟨_, rfl, _, r4.str, ?_⟩
    have := hr h4 (Only.cut x03 o4 fun i hi => by omega)
    unfold plainF at this
    rw [if_neg k1, if_neg k2, if_pos k3] at this
    exact this
  · have := hr h3 x03
    unfold plainF at this
    rw [if_neg k1, if_neg k2, if_neg k3, List.append_nil] at this
    exact ⟨_, r3.str, this⟩

/-! ### What one speaker's tag is of -/

/-! ### Who speaks -/

end
end Go.Proofs.YtldocdpdjdekiaaGreat.Board
end

section
/- The conditions of functions, as the generator reckons them out, each with the proof that it is that. -/
namespace Go.Proofs.YtldocdpdjdekiaaGreat
open Go Go.Vc
set_option maxRecDepth 100000
set_option linter.unusedVariables false

def tollerref02_Bytes_vc (l_ : Sl) (h : Heap) (R : Value → Heap → Prop) : Prop :=
 ∃ (new : List Value),
 slAt (Array.push h (row (TVs.cells []) (4 : Nat))) l_ (1 : Nat) new ∧
 (∀ (v : Value), v ∈ new → isOne v = true) ∧
 vcAppend YtldocdpdjdekiaaGreat.ctx (4 : Nat) (Sl.mk (some (Loc.mk (Array.size h) (0 : Nat))) (0 : Nat) (0 : Nat)) l_.len new
 (Array.push h (row (TVs.cells []) (4 : Nat))) fun (s : Sl) (h_1 : Array Obj) ↦
 ∃ (new : List Value),
 slAt (Array.push h_1 (row (TVs.cells [TV.bool true]) (4 : Nat))) (Sl.mk (some (Loc.mk (Array.size h_1) (0 : Nat))) (1 : Nat) (1 : Nat)) (1 : Nat)
 new ∧
 (∀ (v : Value), v ∈ new → isOne v = true) ∧
 vcAppend YtldocdpdjdekiaaGreat.ctx (4 : Nat) s (1 : Nat) new (Array.push h_1 (row (TVs.cells [TV.bool true]) (4 : Nat)))
 fun (s_1 : Sl) (h_2 : Array Obj) ↦
 Go.Vc.Loop (Sl.mk none (0 : Nat) (0 : Nat), (0 : Int)) h_2 fun (s_2 : Sl × Int) (h_3 : Array Obj) (K : Sl × Int → Array Obj → Prop) ↦
 If (decide (s_2.snd < (↑s_1.len : Int)))
 ((0 : Int) ≤ s_2.snd ∧
 s_2.snd < (↑s_1.len : Int) ∧
 Nn s_1.a fun (l : Go.Vc.Loc) ↦
 ∃ (b : Bool),
 at1 h_3 l.b (l.o + Int.toNat s_2.snd * (1 : Nat)) (Value.bool b) ∧
 Join
 (fun (s_3 : Sl) (h_4 : Array Obj) ↦
 If b
 (Go.Vc.Loop ((1 : Int), (0 : Int)) h_4 fun (s_4 : Int × Int) (h_5 : Array Obj) (K_1 : Int × Int → Array Obj → Prop) ↦
 (8 : Int) ≠ (0 : Int) ∧
 If (decide (s_4.snd < Int.tmod s_2.snd (8 : Int)))
 (K_1 (IntKind.wrap IntKind.i64 ((2 : Int) * s_4.fst), IntKind.wrap IntKind.i64 (s_4.snd + (1 : Int))) h_5)
 ((0 : Int) ≤ IntKind.wrap IntKind.i64 ((↑s_3.len : Int) - (1 : Int)) ∧
 IntKind.wrap IntKind.i64 ((↑s_3.len : Int) - (1 : Int)) < (↑s_3.len : Int) ∧
 Nn s_3.a fun (l_1 : Go.Vc.Loc) ↦
 ∃ (n : Int),
 at1 h_5 l_1.b (l_1.o + Int.toNat (IntKind.wrap IntKind.i64 ((↑s_3.len : Int) - (1 : Int))) * (1 : Nat))
 (Value.int IntKind.u8 n) ∧
 (0 : Int) ≤ IntKind.wrap IntKind.i64 ((↑s_3.len : Int) - (1 : Int)) ∧
 IntKind.wrap IntKind.i64 ((↑s_3.len : Int) - (1 : Int)) < (↑s_3.len : Int) ∧
 Nn s_3.a fun (l_2 : Go.Vc.Loc) ↦
 wok h_5 l_2.b
 (l_2.o + Int.toNat (IntKind.wrap IntKind.i64 ((↑s_3.len : Int) - (1 : Int))) * (1 : Nat))
 (1 : Nat) ∧
 Vc.Bind
 (TV.put h_5 l_2.b
 (l_2.o + Int.toNat (IntKind.wrap IntKind.i64 ((↑s_3.len : Int) - (1 : Int))) * (1 : Nat))
 (TV.int IntKind.u8 (IntKind.wrap IntKind.u8 (n + IntKind.wrap IntKind.u8 s_4.fst))))
 fun (h : Array Obj) ↦ K (s_3, IntKind.wrap IntKind.i64 (s_2.snd + (1 : Int))) h))
 (K (s_3, IntKind.wrap IntKind.i64 (s_2.snd + (1 : Int))) h_4))
 fun (J : Sl → Array Obj → Prop) ↦
 (8 : Int) ≠ (0 : Int) ∧
 If (decide (Int.tmod s_2.snd (8 : Int) = (0 : Int)))
 (∃ (new : List Value),
 slAt (Array.push h_3 (row (TVs.cells [TV.int IntKind.u8 (0 : Int)]) (5 : Nat)))
 (Sl.mk (some (Loc.mk (Array.size h_3) (0 : Nat))) (1 : Nat) (1 : Nat)) (1 : Nat) new ∧
 (∀ (v : Value), v ∈ new → isOne v = true) ∧
 vcAppend YtldocdpdjdekiaaGreat.ctx (5 : Nat) s_2.fst (1 : Nat) new
 (Array.push h_3 (row (TVs.cells [TV.int IntKind.u8 (0 : Int)]) (5 : Nat))) fun (s : Sl) (h : Array Obj) ↦ J s h)
 (J s_2.fst h_3))
 (∃ (bs : List UInt8), strAt h_3 s_2.fst bs ∧ R (TV.val (TV.str bs)) h_3)

theorem tollerref02_Bytes_calls (l_ : Sl) (h : Heap) (R : Value → Heap → Prop) (H : tollerref02_Bytes_vc l_ h R) : CallsH Tryz.prog 104 (TVs.vals [TV.slice l_]) h R :=
 vcFn_sound (C := ctx) ctx_ok (fn := Tryz.f104) Tryz.func104 ((by kernel_rfl : tollerref02_Bytes_vc l_ h R = vcFn ctx Tryz.f104 [TV.slice l_] h R) ▸ H)


def tollerref07_Good_vc (m_Kind : Int) (m_Slot : Int) (m_Target : Bs (32 : Nat)) (m_Member : Int) (m_Body : Int) (m_Bits : Sl) (m_Tag : Bs (16 : Nat)) (h : Heap) (R : Value → Heap → Prop) : Prop :=
 Vc.Bind
 (newTV h
 (TV.agg
 [TV.int IntKind.i64 m_Kind, TV.int IntKind.i64 m_Slot, TV.bytes (32 : Nat) m_Target, TV.int IntKind.i64 m_Member, TV.int IntKind.u64 m_Body,
 TV.slice m_Bits, TV.bytes (16 : Nat) m_Tag])
 (58 : Nat))
 fun (h_1 : Array Obj) ↦
 Join
 (fun (s : Bool × Bool × Bool) (h_2 : Array Obj) ↦
 ∃ (s : Sl),
 at1 h_2 (Array.size h) (36 : Nat) (slVal s) ∧
 Go.Vc.Loop ((0 : Int), (0 : Int)) h_2 fun (s_1 : Int × Int) (h_3 : Array Obj) (K : Int × Int → Array Obj → Prop) ↦
 If (decide (s_1.snd < (↑s.len : Int)))
 ((0 : Int) ≤ s_1.snd ∧
 s_1.snd < (↑s.len : Int) ∧
 Nn s.a fun (l : Go.Vc.Loc) ↦
 ∃ (b : Bool),
 at1 h_3 l.b (l.o + Int.toNat s_1.snd * (1 : Nat)) (Value.bool b) ∧
 If b (K (IntKind.wrap IntKind.i64 (s_1.fst + (1 : Int)), IntKind.wrap IntKind.i64 (s_1.snd + (1 : Int))) h_3)
 (K (s_1.fst, IntKind.wrap IntKind.i64 (s_1.snd + (1 : Int))) h_3))
 (∃ (n : Int),
 at1 h_3 (Array.size h) (0 : Nat) (Value.int IntKind.i64 n) ∧
 If (decide (n = (3 : Int)))
 (∃ (n : Int),
 at1 h_3 (Array.size h) (34 : Nat) (Value.int IntKind.i64 n) ∧
 If (decide (n = (0 : Int)))
 (∃ (n : Int),
 at1 h_3 (Array.size h) (35 : Nat) (Value.int IntKind.u64 n) ∧
 If (decide (n = (0 : Int)))
 (∃ (s : Sl),
 at1 h_3 (Array.size h) (36 : Nat) (slVal s) ∧
 If (decide ((↑s.len : Int) ≤ (16 : Int))) (R (TV.val (TV.bool (decide ((0 : Int) < s_1.fst)))) h_3)
 (R (TV.val (TV.bool false)) h_3))
 (R (TV.val (TV.bool false)) h_3))
 (R (TV.val (TV.bool false)) h_3))
 (∃ (s : Sl),
 at1 h_3 (Array.size h) (36 : Nat) (slVal s) ∧
 If (decide ((↑s.len : Int) = (0 : Int)))
 (∃ (n : Int),
 at1 h_3 (Array.size h) (0 : Nat) (Value.int IntKind.i64 n) ∧
 If (decide (n = (1 : Int))) (R (TV.val (TV.bool true)) h_3)
 (∃ (n : Int), at1 h_3 (Array.size h) (35 : Nat) (Value.int IntKind.u64 n) ∧ R (TV.val (TV.bool (decide (n = (0 : Int))))) h_3))
 (R (TV.val (TV.bool false)) h_3))))
 fun (J : Bool × Bool × Bool → Array Obj → Prop) ↦
 ∃ (n : Int),
 at1 h_1 (Array.size h) (0 : Nat) (Value.int IntKind.i64 n) ∧
 If (decide (n < (1 : Int))) (R (TV.val (TV.bool false)) h_1)
 (∃ (n_1 : Int),
 at1 h_1 (Array.size h) (0 : Nat) (Value.int IntKind.i64 n_1) ∧
 If (decide ((3 : Int) < n_1)) (R (TV.val (TV.bool false)) h_1)
 (∃ (n_2 : Int),
 at1 h_1 (Array.size h) (1 : Nat) (Value.int IntKind.i64 n_2) ∧
 If (decide (n_2 < (0 : Int))) (R (TV.val (TV.bool false)) h_1)
 (∃ (n_3 : Int),
 at1 h_1 (Array.size h) (1 : Nat) (Value.int IntKind.i64 n_3) ∧
 If (decide ((1073741824 : Int) < n_3)) (R (TV.val (TV.bool false)) h_1)
 (∃ (n_4 : Int),
 at1 h_1 (Array.size h) (34 : Nat) (Value.int IntKind.i64 n_4) ∧
 If (decide (n_4 < (0 : Int))) (R (TV.val (TV.bool false)) h_1)
 (∃ (n_5 : Int),
 at1 h_1 (Array.size h) (34 : Nat) (Value.int IntKind.i64 n_5) ∧
 If (decide ((65535 : Int) < n_5)) (R (TV.val (TV.bool false)) h_1) (J (false, decide (n < (1 : Int)), false) h_1))))))

theorem tollerref07_Good_calls (m_Kind : Int) (m_Slot : Int) (m_Target : Bs (32 : Nat)) (m_Member : Int) (m_Body : Int) (m_Bits : Sl) (m_Tag : Bs (16 : Nat)) (h : Heap) (R : Value → Heap → Prop) (H : tollerref07_Good_vc m_Kind m_Slot m_Target m_Member m_Body m_Bits m_Tag h R) : CallsH Tryz.prog 49 (TVs.vals [TV.agg [TV.int IntKind.i64 m_Kind, TV.int IntKind.i64 m_Slot, TV.bytes (32 : Nat) m_Target, TV.int IntKind.i64 m_Member, TV.int IntKind.u64 m_Body, TV.slice m_Bits, TV.bytes (16 : Nat) m_Tag]]) h R :=
 vcFn_sound (C := ctx) ctx_ok (fn := Tryz.f49) Tryz.func49 ((by kernel_rfl : tollerref07_Good_vc m_Kind m_Slot m_Target m_Member m_Body m_Bits m_Tag h R = vcFn ctx Tryz.f49 [TV.agg [TV.int IntKind.i64 m_Kind, TV.int IntKind.i64 m_Slot, TV.bytes (32 : Nat) m_Target, TV.int IntKind.i64 m_Member, TV.int IntKind.u64 m_Body, TV.slice m_Bits, TV.bytes (16 : Nat) m_Tag]] h R) ▸ H)


end Go.Proofs.YtldocdpdjdekiaaGreat
end

section
/- The document's messages: the same bytes, the same speakers, the same tags. -/
namespace Go.Proofs.YtldocdpdjdekiaaGreat.Board
open Go Go.Vc
section
variable {R : Value → Heap → Prop} {h : Heap}

/-! ### Rows of bits -/

theorem or_add : ∀ k : Fin 8, ∀ c : Fin 256, c.val < 2 ^ k.val →
    IntKind.wrap .u8 ((BitVec.ofInt (IntKind.bits .u8) ((c.val : Nat) : Int) ||| BitVec.ofInt (IntKind.bits .u8) (IntKind.wrap .u8 (1 * 2 ^ min (Int.toNat ((k.val : Nat) : Int)) (IntKind.bits .u8)))).toNat : Int) = ((c.val + 2 ^ k.val : Nat) : Int) := by decide +kernel

theorem tmod8 (i : Nat) : Int.tmod (i : Int) 8 = ((i % 8 : Nat) : Int) := by
  rw [Int.tmod_eq_emod_of_nonneg (by omega)]
  rfl

theorem orv_add {c i : Nat} (hc : c < 2 ^ (i % 8)) : orv (c : Int) (i : Int) = ((c + 2 ^ (i % 8) : Nat) : Int) := by
  unfold orv
  rw [tmod8]
  have h8 : i % 8 < 8 := Nat.mod_lt _ (by decide)
  have h2 : 2 ^ (i % 8) ≤ 2 ^ 7 := Nat.pow_le_pow_right (by decide) (by omega)
  exact or_add ⟨i % 8, h8⟩ ⟨c, by omega⟩ hc

def bn (l : List UInt8) (j : Nat) : Nat := (l.getD j 0).toNat
theorem by8_bn (l : List UInt8) (j : Nat) : by8 l j = (bn l j : Int) := rfl

theorem bn_set {l : List UInt8} {i j : Nat} {x : UInt8} (hi : i < l.length) : bn (l.set i x) j = if i = j then x.toNat else bn l j := by
  unfold bn
  rw [List.getD_eq_getElem?_getD, List.getElem?_set]
  by_cases h1 : i = j
  · subst h1
    rw [if_pos rfl, if_pos rfl, if_pos hi]
    rfl
  · rw [if_neg h1, if_neg h1, ← List.getD_eq_getElem?_getD]

/-- Behind what is taken in all is 0; the byte at hand is small. -/
theorem bitG_small (row : List Bool) : ∀ (i : Nat), i ≤ row.length → ∀ j, bn (bitG row i) j < 2 ^ (i - 8 * j)
  | 0, _, j => by
    have : bn (bitG row 0) j = 0 := by
      unfold bn bitG
      rw [List.getD_eq_getElem?_getD, List.getElem?_replicate]
      split <;> rfl
    rw [this]
    exact Nat.two_pow_pos _
  | i + 1, hi, j => by
    have ih := bitG_small row i (by omega)
    have mono : 2 ^ (i - 8 * j) ≤ 2 ^ (i + 1 - 8 * j) := Nat.pow_le_pow_right (by decide) (by omega)
    unfold bitG
    split
    · have hq : i / 8 < (bitG row i).length := by rw [bitG_length]; omega
      unfold bitS
      rw [bn_set hq]
      split
      · rename_i hj
        have h1 := ih (i / 8)
        have e1 : i - 8 * (i / 8) = i % 8 := by omega
        rw [e1] at h1
        rw [by8_bn, orv_add h1, Int.toNat_natCast, UInt8.toNat_ofNat']
        have h2 : 2 ^ (i % 8) ≤ 2 ^ 7 := Nat.pow_le_pow_right (by decide) (by omega)
        have e2 : i + 1 - 8 * j = i % 8 + 1 := by omega
        rw [e2, Nat.pow_succ]
        rw [Nat.mod_eq_of_lt (by omega)]
        omega
      · exact Nat.lt_of_lt_of_le (ih j) mono
    · exact Nat.lt_of_lt_of_le (ih j) mono

/-- What the document has behind so many places. -/
def dG (row : List Bool) (i : Nat) : List UInt8 := (bitG row i).take ((i + 7) / 8)

theorem dG_length {row : List Bool} {i : Nat} (hi : i ≤ row.length + 1) : (dG row i).length = (i + 7) / 8 := by
  unfold dG
  rw [List.length_take, bitG_length]
  omega

/-- One place on, without a bit. -/
theorem dG_open {row : List Bool} {i : Nat} (hi : i ≤ row.length) : (bitG row i).take ((i + 8) / 8) = if i % 8 = 0 then dG row i ++ [0] else dG row i := by
  unfold dG
  split
  · rename_i h8
    have e1 : (i + 8) / 8 = i / 8 + 1 := by omega
    have e2 : (i + 7) / 8 = i / 8 := by omega
    have hq : i / 8 < (bitG row i).length := by rw [bitG_length]; omega
    have hs := bitG_small row i hi (i / 8)
    rw [show i - 8 * (i / 8) = 0 by omega] at hs
    rw [e1, e2, List.take_add_one, List.getElem?_eq_getElem hq]
    have h0 : bn (bitG row i) (i / 8) = 0 := by omega
    unfold bn at h0
    rw [List.getD_eq_getElem?_getD, List.getElem?_eq_getElem hq] at h0
    have : (bitG row i)[i / 8] = 0 := UInt8.toNat_inj.1 h0
    rw [this]
    rfl
  · rename_i h8
    have e1 : (i + 8) / 8 = (i + 7) / 8 := by omega
    rw [e1]

theorem b4 : (ctx.ti 4).bytes = 1 := by kernel_rfl
theorem sz4 : (ctx.ti 4).size = 1 := by kernel_rfl
theorem zz4 : (ctx.ti 4).z.size = 1 := by kernel_rfl

/-- What the document has behind so many places, the last bit with it. -/
def cG (row : List Bool) (i : Nat) : List UInt8 := if i ≤ row.length then dG row i else bitF row

theorem by8_take {l : List UInt8} {m j : Nat} (h : j < m) : by8 (l.take m) j = by8 l j := by
  unfold by8
  rw [List.getD_eq_getElem?_getD, List.getD_eq_getElem?_getD, List.getElem?_take, if_pos h]

theorem cG_no {row : List Bool} {i : Nat} (hi : i ≤ row.length) (hx : (row ++ [true])[i]? = some false) : cG row (i + 1) = (bitG row i).take ((i + 8) / 8) := by
  have hlt : i < row.length := by
    apply Classical.byContradiction
    intro hn
    have : i = row.length := by omega
    subst this
    simp at hx
  rw [List.getElem?_append_left hlt] at hx
  unfold cG dG
  rw [if_pos (by omega)]
  have hg : bitG row (i + 1) = bitG row i := by
    rw [bitG, if_neg]
    rw [List.getD_eq_getElem?_getD, hx]
    decide
  rw [hg]

theorem cG_yes {row : List Bool} {i : Nat} (hi : i ≤ row.length) (hx : (row ++ [true])[i]? = some true) : cG row (i + 1) = ((bitG row i).take ((i + 8) / 8)).set (i / 8) (UInt8.ofNat (bn (bitG row i) (i / 8) + 2 ^ (i % 8))) := by
  have hs := bitG_small row i hi (i / 8)
  rw [show i - 8 * (i / 8) = i % 8 by omega] at hs
  have hb : (bitS (bitG row i) i).take ((i + 8) / 8) = ((bitG row i).take ((i + 8) / 8)).set (i / 8) (UInt8.ofNat (bn (bitG row i) (i / 8) + 2 ^ (i % 8))) := by
    unfold bitS
    rw [by8_bn, orv_add hs, Int.toNat_natCast, List.take_set]
  by_cases hlt : i < row.length
  · rw [List.getElem?_append_left hlt] at hx
    unfold cG dG
    rw [if_pos (by omega)]
    have hg : bitG row (i + 1) = bitS (bitG row i) i := by
      rw [bitG, if_pos]
      rw [List.getD_eq_getElem?_getD, hx]
      rfl
    rw [hg]
    exact hb
  · have hin : i = row.length := by omega
    subst hin
    unfold cG
    rw [if_neg (by omega), ← hb]
    unfold bitF
    rw [List.take_of_length_le]
    simp [bitS, bitG_length]

set_option maxRecDepth 100000 in
theorem bytesof_spec {s : Sl} {row : List Bool} (e : Elems 1 h s (bools row)) (hl : row.length < 500) (hr : ∀ h', Ext h h' → R (TV.str (bitF row)).val h') : CallsH Tryz.prog 104 (TVs.vals [.slice s]) h R := by
  apply tollerref02_Bytes_calls
  unfold tollerref02_Bytes_vc
  have el : row.length = s.len := by have := e.len; rwa [List.length_map] at this
  have xp := Ext.push h (Vc.row (TVs.cells []) 4)
  refine appendN (C := ctx) (T := 4) (sz := 1) sz4 zz4 (by rw [b4]; decide) (by decide) (by rw [b4]; show (0 + s.len) * 1 ≤ _; omega) (Own.new (T := 4) (sz := 1) h [] (fun t ht => by cases ht)) (e.ext xp) (fun u hu => by obtain ⟨b, _, rfl⟩ := List.mem_map.1 hu; rfl) (fun u hu => by obtain ⟨b, _, rfl⟩ := List.mem_map.1 hu; rfl) fun s1 h1 o1 hl1 f1 b1 => ?_
  have x01 : Ext h h1 := Only.cut xp f1 fun i ⟨l, hl, hi⟩ => by
    obtain rfl := Option.some.inj hl
    rw [← hi]
    exact Nat.le_refl _
  have l1 : s1.len = row.length := by have := o1.len; rw [List.nil_append, List.length_map] at this; exact this.symm
  refine append1 (C := ctx) (T := 4) (sz := 1) (x := .bool true) sz4 zz4 (by rw [b4]; decide) (by rw [b4]; omega) o1 rfl rfl fun s2 h2 o2 f2 b2 => ?_
  have x02 : Ext h h2 := Only.cut x01 f2 fun i ⟨l, hl, hi⟩ => by
    rcases b1 l hl with ⟨l', hl', hi'⟩ | hi'
    · obtain rfl := Option.some.inj hl'
      rw [← hi, ← hi']
      exact Nat.le_refl _
    · rw [Array.size_push] at hi'
      omega
  have e2 : Elems 1 h2 s2 (bools (row ++ [true])) := by
    have := o2.elems
    simpa [bools] using this
  have l2 : s2.len = row.length + 1 := by have := e2.len; rw [List.length_map, List.length_append] at this; exact this.symm
  refine ⟨fun σ hh => 0 ≤ σ.2 ∧ σ.2 ≤ s2.len ∧ Row (fun b => h2.size ≤ b) hh σ.1 (cG row σ.2.toNat) ∧ Ext h2 hh, fun σ _ => ((s2.len : Int) - σ.2).toNat,
    ⟨Int.le_refl 0, by first | omega | (dsimp only; omega), ⟨Own.nil _ _ _, (fun l hl => by cases hl), fun i hi => hi⟩, Ext.refl _⟩, ?_⟩
  rintro ⟨out, i⟩ h3 ⟨i0, i1, r3, x3⟩
  dsimp only at i0 i1 r3 x3 ⊢
  refine If.dec.2 ⟨fun hi => ?_, fun hi => ?_⟩
  · refine read_bool (e2.ext x3) i0 (by rw [List.length_append, List.length_singleton]; omega) fun x hx => ?_
    have hin : i.toNat ≤ row.length := by omega
    have hcd : cG row i.toNat = dG row i.toNat := if_pos hin
    rw [hcd] at r3
    have hdl := dG_length (row := row) (i := i.toNat) (by omega)
    have htm : Int.tmod i 8 = ((i.toNat % 8 : Nat) : Int) := by
      have := tmod8 i.toNat
      rwa [show ((i.toNat : Nat) : Int) = i by omega] at this
    rw [wrap_i64 (n := i + 1) (by omega) (by omega)]
    have hi1 : (i + 1).toNat = i.toNat + 1 := by omega
    intro J HJ
    have step : ∀ (o : Sl) (h4 : Heap), Row (fun b => h2.size ≤ b) h4 o ((bitG row i.toNat).take ((i.toNat + 8) / 8)) → Ext h2 h4 → J o h4 := by
      intro o h4 r4 x4
      refine HJ o h4 ?_
      have hTl : ((bitG row i.toNat).take ((i.toNat + 8) / 8)).length = i.toNat / 8 + 1 := by rw [List.length_take, bitG_length]; omega
      have hol := r4.len
      rw [hTl] at hol
      cases x with
      | false =>
        refine If.no ⟨⟨by first | omega | (dsimp only; omega), by first | omega | (dsimp only; omega), ?_, x4⟩, by first | omega | (dsimp only; omega)⟩
        try dsimp only
        rw [hi1, cG_no hin hx]
        exact r4
      | true =>
        refine If.yes ?_
        refine ⟨fun σ hh => 0 ≤ σ.2 ∧ σ.2 ≤ Int.tmod i 8 ∧ h4 = hh ∧ σ.1 = ((2 ^ σ.2.toNat : Nat) : Int), fun σ _ => (Int.tmod i 8 - σ.2).toNat, ⟨Int.le_refl 0, by rw [htm]; exact Int.natCast_nonneg _, rfl, rfl⟩, ?_⟩
        rintro ⟨u, k⟩ hh ⟨k0, k1, rfl, hu⟩
        dsimp only at k0 k1 hu ⊢
        refine ⟨by decide, ?_⟩
        rw [htm] at k1 ⊢
        have hm8 : i.toNat % 8 < 8 := Nat.mod_lt _ (by decide)
        have hpow : 2 ^ k.toNat ≤ 2 ^ 7 := Nat.pow_le_pow_right (by decide) (by omega)
        obtain ⟨P, hP⟩ : ∃ P, P = 2 ^ k.toNat := ⟨_, rfl⟩
        rw [← hP] at hu hpow
        refine If.dec.2 ⟨fun hk => ?_, fun hk => ?_⟩
        · rw [wrap_i64 (n := 2 * u) (by omega) (by omega), wrap_i64 (n := k + 1) (by omega) (by omega)]
          refine ⟨⟨by omega, by omega, rfl, ?_⟩, by first | omega | (dsimp only; omega)⟩
          rw [hu, show (k + 1).toNat = k.toNat + 1 by omega, Nat.pow_succ, ← hP]
          omega
        · have hkk : k.toNat = i.toNat % 8 := by omega
          rw [hkk] at hP
          rw [wrap_i64 (n := (o.len : Int) - 1) (by omega) (by omega)]
          have hat : Int.toNat ((o.len : Int) - 1) = i.toNat / 8 := by omega
          have hsm := bitG_small row i.toNat hin (i.toNat / 8)
          rw [show i.toNat - 8 * (i.toNat / 8) = i.toNat % 8 by omega] at hsm
          refine byte_in (bs := (bitG row i.toNat).take ((i.toNat + 8) / 8)) r4.own.elems (by omega) (by rw [hTl]; omega) ?_
          rw [hat, by8_take (by omega), by8_bn]
          have hval : IntKind.wrap .u8 ((bn (bitG row i.toNat) (i.toNat / 8) : Int) + IntKind.wrap .u8 u) = ((bn (bitG row i.toNat) (i.toNat / 8) + 2 ^ (i.toNat % 8) : Nat) : Int) := by
            rw [hu, wrap_u8, wrap_u8, ← hP]
            rw [← hP] at hsm
            omega
          rw [hval, show i.toNat / 8 = ((o.len : Int) - 1).toNat from hat.symm]
          refine r4.set (i := (o.len : Int) - 1) (by omega) (by rw [hTl]; omega) (by omega) (by rw [hat]; omega) fun h5 r5 f5 => ?_
          refine ⟨⟨by first | omega | (dsimp only; omega), by first | omega | (dsimp only; omega), ?_, Only.cut x4 f5 fun j hj => hj⟩, by first | omega | (dsimp only; omega)⟩
          try dsimp only
          rw [hi1, cG_yes hin hx]
          rw [hat, Int.toNat_natCast] at r5
          exact r5
    clear HJ
    refine ⟨by decide, ?_⟩
    rw [htm]
    have hopen := dG_open (row := row) (i := i.toNat) hin
    refine If.dec.2 ⟨fun h8 => ?_, fun h8 => ?_⟩
    · rw [if_pos (by omega)] at hopen
      refine app_byte r3 (by omega) (by decide) (by decide) fun s4 h4 r4 f4 b4 => ?_
      refine step s4 h4 ?_ (Only.cut x3 (r3.cut f4) fun j hj => hj)
      rw [hopen]
      exact r4
    · rw [if_neg (by omega)] at hopen
      refine step out h3 ?_ x3
      rw [hopen]
      exact r3
  · have hin : i.toNat = row.length + 1 := by omega
    rw [hin] at r3
    have hc : cG row (row.length + 1) = bitF row := if_neg (by omega)
    rw [hc] at r3
    exact ⟨_, r3.str, hr h3 (x02.trans x3)⟩

/-! ### Whether a message can be -/

def yes : List Bool → Nat
  | [] => 0
  | b :: l => (if b = true then 1 else 0) + yes l

theorem yes_snoc : ∀ (l : List Bool) (b : Bool), yes (l ++ [b]) = yes l + if b = true then 1 else 0
  | [], b => by simp [yes]
  | a :: l, b => by rw [List.cons_append, yes, yes, yes_snoc l b]; omega

theorem yes_le : ∀ l : List Bool, yes l ≤ l.length
  | [] => Nat.le_refl _
  | b :: l => by have := yes_le l; rw [yes, List.length_cons]; split <;> omega

theorem yes_pos : ∀ l : List Bool, decide (0 < ((yes l : Nat) : Int)) = l.contains true
  | [] => by simp [yes]
  | b :: l => by
    have ih := yes_pos l
    rw [yes]
    cases b with
    | true => simp; omega
    | false => simp at ih ⊢; exact ih

theorem docgood_spec {m : Ms} {row : List Bool} (e : Elems 1 h m.bits (bools row)) (hl : row.length < 100000) (hr : ∀ h', Ext h h' → R (TV.bool (goodF m row)).val h') : CallsH Tryz.prog 49 (TVs.vals [m.tv]) h R := by
  apply tollerref07_Good_calls m.kind m.slot m.target m.member m.body m.bits m.tag
  unfold tollerref07_Good_vc
  have el : row.length = m.bits.len := by have := e.len; rwa [List.length_map] at this
  refine newTV_in fun h1 v1 x1 s1 => ?_
  have at0 := v1.at (t := m.tv)
  obtain ⟨a0, a1, a2, a3, a4, a5, a6⟩ := at0
  have hr1 := hr h1 x1
  intro J HJ
  have fin : ∀ b, 1 ≤ m.kind → m.kind ≤ 3 → m.slot ≥ 0 → m.slot ≤ 1073741824 → m.member ≥ 0 → m.member ≤ 65535 → J b h1 := by
    intro b k1 k2 g1 g2 g3 g4
    refine HJ b h1 ⟨m.bits, a5, ?_⟩
    refine ⟨fun σ hh => 0 ≤ σ.2 ∧ σ.2 ≤ m.bits.len ∧ hh = h1 ∧ σ.1 = ((yes (row.take σ.2.toNat) : Nat) : Int), fun σ _ => ((m.bits.len : Int) - σ.2).toNat, ⟨Int.le_refl 0, by first | omega | (dsimp only; omega), rfl, by simp [yes]⟩, ?_⟩
    rintro ⟨y, i⟩ hh ⟨i0, i1, rfl, hy⟩
    dsimp only at i0 i1 hy ⊢
    refine If.dec.2 ⟨fun hi => ?_, fun hi => ?_⟩
    · refine read_bool (e.ext x1) i0 (by omega) fun x hx => ?_
      have hys := yes_snoc (row.take i.toNat) x
      rw [← take_snoc hx] at hys
      have hyl := yes_le (row.take i.toNat)
      rw [List.length_take] at hyl
      rw [wrap_i64 (n := i + 1) (by omega) (by omega)]
      have hi1 : (i + 1).toNat = i.toNat + 1 := by omega
      cases x with
      | true =>
        rw [wrap_i64 (n := y + 1) (by omega) (by omega)]
        refine If.yes ⟨⟨by first | omega | (dsimp only; omega), by first | omega | (dsimp only; omega), rfl, ?_⟩, by first | omega | (dsimp only; omega)⟩
        try dsimp only
        rw [hi1, hys, if_pos rfl]
        omega
      | false =>
        refine If.no ⟨⟨by first | omega | (dsimp only; omega), by first | omega | (dsimp only; omega), rfl, ?_⟩, by first | omega | (dsimp only; omega)⟩
        try dsimp only
        rw [hi1, hys, if_neg (by decide)]
        omega
    · have hall : row.take i.toNat = row := List.take_of_length_le (by omega)
      rw [hall] at hy
      subst hy
      have hpos := yes_pos row
      have hpre : ∀ b5 : Bool, (!(decide (m.slot < 0) || decide (1073741824 < m.slot) || decide (m.member < 0) || decide (65535 < m.member) || b5)) = !b5 := by
        intro b5
        rw [decide_eq_false (show ¬ m.slot < 0 by omega), decide_eq_false (show ¬ 1073741824 < m.slot by omega), decide_eq_false (show ¬ m.member < 0 by omega), decide_eq_false (show ¬ 65535 < m.member by omega)]
        rfl
      unfold goodF at hr1
      rw [hpre] at hr1
      refine ⟨_, a0, If.dec.2 ⟨fun k3 => ?_, fun k3 => ?_⟩⟩
      · rw [if_pos k3, decide_eq_false (show ¬ m.kind = 1 by omega), ← hpos] at hr1
        refine ⟨_, a3, If.dec.2 ⟨fun g => ⟨_, a4, If.dec.2 ⟨fun g' => ⟨_, a5, If.dec.2 ⟨fun g'' => ?_, fun g'' => ?_⟩⟩, fun g' => ?_⟩⟩, fun g => ?_⟩⟩
        · rw [decide_eq_true g, decide_eq_true g', decide_eq_true (show row.length ≤ 16 by omega)] at hr1
          simpa using hr1
        · rw [decide_eq_true g, decide_eq_true g', decide_eq_false (show ¬ row.length ≤ 16 by omega)] at hr1
          simpa using hr1
        · rw [decide_eq_false g'] at hr1
          simpa using hr1
        · rw [decide_eq_false g] at hr1
          simpa using hr1
      · rw [if_neg k3] at hr1
        refine ⟨_, a5, If.dec.2 ⟨fun g => ⟨_, a0, If.dec.2 ⟨fun g' => ?_, fun g' => ⟨_, a4, ?_⟩⟩⟩, fun g => ?_⟩⟩
        · rw [decide_eq_true g', decide_eq_true (show row.length = 0 by omega)] at hr1
          simpa using hr1
        · rw [decide_eq_false g', decide_eq_true (show row.length = 0 by omega), decide_eq_true (show m.kind = 2 by omega)] at hr1
          simpa using hr1
        · rw [decide_eq_false (show ¬ row.length = 0 by omega)] at hr1
          simpa using hr1
  have bad : (m.kind < 1 ∨ 3 < m.kind ∨ m.slot < 0 ∨ 1073741824 < m.slot ∨ m.member < 0 ∨ 65535 < m.member) → R (TV.bool false).val h1 := by
    intro hb
    have : goodF m row = false := by
      unfold goodF
      rcases hb with hb | hb | hb | hb | hb | hb
      · rw [if_neg (by omega), decide_eq_false (show ¬ m.kind = 1 by omega), decide_eq_false (show ¬ m.kind = 2 by omega)]; simp
      · rw [if_neg (by omega), decide_eq_false (show ¬ m.kind = 1 by omega), decide_eq_false (show ¬ m.kind = 2 by omega)]; simp
      · simp [hb]
      · simp [hb]
      · simp [hb]
      · simp [hb]
    rw [this] at hr1
    exact hr1
  clear HJ
  exact ⟨_, a0, If.dec.2 ⟨fun g => bad (.inl g), fun g1 => ⟨_, a0, If.dec.2 ⟨fun g => bad (.inr (.inl g)), fun g2 => ⟨_, a1, If.dec.2 ⟨fun g => bad (.inr (.inr (.inl g))), fun g3 => ⟨_, a1, If.dec.2 ⟨fun g => bad (.inr (.inr (.inr (.inl g)))), fun g4 => ⟨_, a3, If.dec.2 ⟨fun g => bad (.inr (.inr (.inr (.inr (.inl g))))), fun g5 => ⟨_, a3, If.dec.2 ⟨fun g => bad (.inr (.inr (.inr (.inr (.inr g))))), fun g6 => fin _ (by omega) (by omega) (by omega) (by omega) (by omega) (by omega)⟩⟩⟩⟩⟩⟩⟩⟩⟩⟩⟩⟩

/-! ### Who speaks -/

end
end Go.Proofs.YtldocdpdjdekiaaGreat.Board
end

section
/- The conditions of functions, as the generator reckons them out, each with the proof that it is that. -/
namespace Go.Proofs.YtldocdpdjdekiaaGreat
open Go Go.Vc
set_option maxRecDepth 100000
set_option linter.unusedVariables false

def tollerref07_text_vc (b : Sl) (h : Heap) (R : Value → Heap → Prop) : Prop :=
 ∃ (bs : List UInt8), strAt h b bs ∧ R (TV.val (TV.str bs)) h

theorem tollerref07_text_calls (b : Sl) (h : Heap) (R : Value → Heap → Prop) (H : tollerref07_text_vc b h R) : CallsH Tryz.prog 83 (TVs.vals [TV.slice b]) h R :=
 vcFn_sound (C := ctx) ctx_ok (fn := Tryz.f83) Tryz.func83 ((by kernel_rfl : tollerref07_text_vc b h R = vcFn ctx Tryz.f83 [TV.slice b] h R) ▸ H)


def tollerref07_Plain_vc (m_Kind : Int) (m_Slot : Int) (m_Target : Bs (32 : Nat)) (m_Member : Int) (m_Body : Int) (m_Bits : Sl) (m_Tag : Bs (16 : Nat)) (h : Heap) (R : Value → Heap → Prop) : Prop :=
 Vc.Bind
 (newTV h
 (TV.agg
 [TV.int IntKind.i64 m_Kind, TV.int IntKind.i64 m_Slot, TV.bytes (32 : Nat) m_Target, TV.int IntKind.i64 m_Member, TV.int IntKind.u64 m_Body,
 TV.slice m_Bits, TV.bytes (16 : Nat) m_Tag])
 (58 : Nat))
 fun (h_1 : Array Obj) ↦
 Join
 (fun (s : Int × Int × List UInt8 × Int × Int × List UInt8 × List UInt8 × Sl × Sl × Sl × List UInt8 × List UInt8 × List UInt8) (h_2 : Array Obj) ↦
 ∃ (n : Int),
 at1 h_2 (Array.size h) (0 : Nat) (Value.int IntKind.i64 n) ∧
 If (decide (n = (3 : Int)))
 (∃ (s_1 : Sl),
 at1 h_2 (Array.size h) (36 : Nat) (slVal s_1) ∧
 CallsH Tryz.prog (104 : Nat) (TVs.vals [TV.slice s_1]) h_2 fun (v : Value) (h_3 : Array Obj) ↦
 ∃ (s_2 : List UInt8),
 v = TV.val (TV.str s_2) ∧
 (↑(List.length s.snd.snd.snd.snd.snd.snd.snd.snd.snd.snd.snd.snd + List.length s_2) : Int) ≤ (9223372036854775807 : Int) ∧
 R (TV.val (TV.str (s.snd.snd.snd.snd.snd.snd.snd.snd.snd.snd.snd.snd ++ s_2))) h_3)
 (∃ (n : Int),
 at1 h_2 (Array.size h) (34 : Nat) (Value.int IntKind.i64 n) ∧
 CallsH Tryz.prog (103 : Nat) (TVs.vals [TV.int IntKind.u64 (IntKind.wrap IntKind.u64 n), TV.int IntKind.i64 (2 : Int)]) h_2
 fun (v : Value) (h_3 : Array Obj) ↦
 ∃ (s_1 : List UInt8),
 v = TV.val (TV.str s_1) ∧
 (↑(List.length s.snd.snd.snd.snd.snd.snd.snd.snd.snd.snd.snd.snd + List.length s_1) : Int) ≤ (9223372036854775807 : Int) ∧
 ∃ (n : Int),
 at1 h_3 (Array.size h) (0 : Nat) (Value.int IntKind.i64 n) ∧
 If (decide (n = (1 : Int)))
 (∃ (n : Int),
 at1 h_3 (Array.size h) (35 : Nat) (Value.int IntKind.u64 n) ∧
 CallsH Tryz.prog (103 : Nat) (TVs.vals [TV.int IntKind.u64 n, TV.int IntKind.i64 (8 : Int)]) h_3
 fun (v : Value) (h_4 : Array Obj) ↦
 ∃ (s_2 : List UInt8),
 v = TV.val (TV.str s_2) ∧
 (↑(List.length (s.snd.snd.snd.snd.snd.snd.snd.snd.snd.snd.snd.snd ++ s_1) + List.length s_2) : Int) ≤
 (9223372036854775807 : Int) ∧
 R (TV.val (TV.str (s.snd.snd.snd.snd.snd.snd.snd.snd.snd.snd.snd.snd ++ s_1 ++ s_2))) h_4)
 (R (TV.val (TV.str (s.snd.snd.snd.snd.snd.snd.snd.snd.snd.snd.snd.snd ++ s_1))) h_3)))
 fun (J : Int × Int × List UInt8 × Int × Int × List UInt8 × List UInt8 × Sl × Sl × Sl × List UInt8 × List UInt8 × List UInt8 → Array Obj → Prop) ↦
 ∃ (n : Int),
 at1 h_1 (Array.size h) (0 : Nat) (Value.int IntKind.i64 n) ∧
 ∃ (n_1 : Int),
 at1 h_1 (Array.size h) (1 : Nat) (Value.int IntKind.i64 n_1) ∧
 (CallsH Tryz.prog (103 : Nat) (TVs.vals [TV.int IntKind.u64 (IntKind.wrap IntKind.u64 n), TV.int IntKind.i64 (1 : Int)]) h_1
 fun (v : Value) (h_2 : Array Obj) ↦
 ∃ (s : List UInt8),
 v = TV.val (TV.str s) ∧
 Ext h_1 h_2 ∧
 (CallsH Tryz.prog (103 : Nat) (TVs.vals [TV.int IntKind.u64 (IntKind.wrap IntKind.u64 n_1), TV.int IntKind.i64 (4 : Int)]) h_2
 fun (v : Value) (h_3 : Array Obj) ↦
 ∃ (s_1 : List UInt8),
 v = TV.val (TV.str s_1) ∧
 (↑(List.length s + List.length s_1) : Int) ≤ (9223372036854775807 : Int) ∧
 Ext h_3 (Array.push h_3 (row (TVs.cells []) (5 : Nat))) ∧
 ∃ (new : List Value),
 slAt (Array.push h_3 (row (TVs.cells []) (5 : Nat)))
 (cutSl (Sl.mk (some (Loc.mk (Array.size h) (2 : Nat))) (32 : Nat) (32 : Nat)) (0 : Nat) (32 : Nat) (1 : Nat)) (1 : Nat)
 new ∧
 (∀ (v : Value), v ∈ new → isOne v = true) ∧
 vcAppend YtldocdpdjdekiaaGreat.ctx (5 : Nat) (Sl.mk (some (Loc.mk (Array.size h_3) (0 : Nat))) (0 : Nat) (0 : Nat))
 (cutSl (Sl.mk (some (Loc.mk (Array.size h) (2 : Nat))) (32 : Nat) (32 : Nat)) (0 : Nat) (32 : Nat) (1 : Nat)).len new
 (Array.push h_3 (row (TVs.cells []) (5 : Nat))) fun (s_2 : Sl) (h_4 : Array Obj) ↦
 CallsH Tryz.prog (83 : Nat) (TVs.vals [TV.slice s_2]) h_4 fun (v : Value) (h_5 : Array Obj) ↦
 ∃ (s_3 : List UInt8),
 v = TV.val (TV.str s_3) ∧
 (↑(List.length (s ++ s_1) + List.length s_3) : Int) ≤ (9223372036854775807 : Int) ∧
 J
 (n, IntKind.wrap IntKind.u64 n, s, n_1, IntKind.wrap IntKind.u64 n_1, s_1, s ++ s_1,
 Sl.mk (some (Loc.mk (Array.size h_3) (0 : Nat))) (0 : Nat) (0 : Nat),
 cutSl (Sl.mk (some (Loc.mk (Array.size h) (2 : Nat))) (32 : Nat) (32 : Nat)) (0 : Nat) (32 : Nat)
 (1 : Nat),
 s_2, s_3, s ++ s_1 ++ s_3, s ++ s_1 ++ s_3)
 h_5) ∧
 Ext h_2 (Array.push h_2 (row (TVs.cells []) (5 : Nat))) ∧
 CallsH Tryz.prog (103 : Nat) (TVs.vals [TV.int IntKind.u64 (IntKind.wrap IntKind.u64 n_1), TV.int IntKind.i64 (4 : Int)])
 (Array.push h_2 (row (TVs.cells []) (5 : Nat))) fun (v : Value) (h_3 : Array Obj) ↦
 ∃ (s_1 : List UInt8),
 v = TV.val (TV.str s_1) ∧
 (↑(List.length s + List.length s_1) : Int) ≤ (9223372036854775807 : Int) ∧
 ∃ (new : List Value),
 slAt h_3 (cutSl (Sl.mk (some (Loc.mk (Array.size h) (2 : Nat))) (32 : Nat) (32 : Nat)) (0 : Nat) (32 : Nat) (1 : Nat))
 (1 : Nat) new ∧
 (∀ (v : Value), v ∈ new → isOne v = true) ∧
 vcAppend YtldocdpdjdekiaaGreat.ctx (5 : Nat) (Sl.mk (some (Loc.mk (Array.size h_2) (0 : Nat))) (0 : Nat) (0 : Nat))
 (cutSl (Sl.mk (some (Loc.mk (Array.size h) (2 : Nat))) (32 : Nat) (32 : Nat)) (0 : Nat) (32 : Nat) (1 : Nat)).len new
 h_3 fun (s_2 : Sl) (h_4 : Array Obj) ↦
 CallsH Tryz.prog (83 : Nat) (TVs.vals [TV.slice s_2]) h_4 fun (v : Value) (h_5 : Array Obj) ↦
 ∃ (s_3 : List UInt8),
 v = TV.val (TV.str s_3) ∧
 (↑(List.length (s ++ s_1) + List.length s_3) : Int) ≤ (9223372036854775807 : Int) ∧
 J
 (n, IntKind.wrap IntKind.u64 n, s, n_1, IntKind.wrap IntKind.u64 n_1, s_1, s ++ s_1,
 Sl.mk (some (Loc.mk (Array.size h_2) (0 : Nat))) (0 : Nat) (0 : Nat),
 cutSl (Sl.mk (some (Loc.mk (Array.size h) (2 : Nat))) (32 : Nat) (32 : Nat)) (0 : Nat) (32 : Nat)
 (1 : Nat),
 s_2, s_3, s ++ s_1 ++ s_3, s ++ s_1 ++ s_3)
 h_5) ∧
 Ext h_1 (Array.push h_1 (row (TVs.cells []) (5 : Nat))) ∧
 CallsH Tryz.prog (103 : Nat) (TVs.vals [TV.int IntKind.u64 (IntKind.wrap IntKind.u64 n), TV.int IntKind.i64 (1 : Int)])
 (Array.push h_1 (row (TVs.cells []) (5 : Nat))) fun (v : Value) (h_2 : Array Obj) ↦
 ∃ (s : List UInt8),
 v = TV.val (TV.str s) ∧
 Ext (Array.push h_1 (row (TVs.cells []) (5 : Nat))) h_2 ∧
 CallsH Tryz.prog (103 : Nat) (TVs.vals [TV.int IntKind.u64 (IntKind.wrap IntKind.u64 n_1), TV.int IntKind.i64 (4 : Int)]) h_2
 fun (v : Value) (h_3 : Array Obj) ↦
 ∃ (s_1 : List UInt8),
 v = TV.val (TV.str s_1) ∧
 (↑(List.length s + List.length s_1) : Int) ≤ (9223372036854775807 : Int) ∧
 ∃ (new : List Value),
 slAt h_3 (cutSl (Sl.mk (some (Loc.mk (Array.size h) (2 : Nat))) (32 : Nat) (32 : Nat)) (0 : Nat) (32 : Nat) (1 : Nat))
 (1 : Nat) new ∧
 (∀ (v : Value), v ∈ new → isOne v = true) ∧
 vcAppend YtldocdpdjdekiaaGreat.ctx (5 : Nat) (Sl.mk (some (Loc.mk (Array.size h_1) (0 : Nat))) (0 : Nat) (0 : Nat))
 (cutSl (Sl.mk (some (Loc.mk (Array.size h) (2 : Nat))) (32 : Nat) (32 : Nat)) (0 : Nat) (32 : Nat) (1 : Nat)).len new
 h_3 fun (s_2 : Sl) (h_4 : Array Obj) ↦
 CallsH Tryz.prog (83 : Nat) (TVs.vals [TV.slice s_2]) h_4 fun (v : Value) (h_5 : Array Obj) ↦
 ∃ (s_3 : List UInt8),
 v = TV.val (TV.str s_3) ∧
 (↑(List.length (s ++ s_1) + List.length s_3) : Int) ≤ (9223372036854775807 : Int) ∧
 J
 (n, IntKind.wrap IntKind.u64 n, s, n_1, IntKind.wrap IntKind.u64 n_1, s_1, s ++ s_1,
 Sl.mk (some (Loc.mk (Array.size h_1) (0 : Nat))) (0 : Nat) (0 : Nat),
 cutSl (Sl.mk (some (Loc.mk (Array.size h) (2 : Nat))) (32 : Nat) (32 : Nat)) (0 : Nat) (32 : Nat) (1 : Nat),
 s_2, s_3, s ++ s_1 ++ s_3, s ++ s_1 ++ s_3)
 h_5

theorem tollerref07_Plain_calls (m_Kind : Int) (m_Slot : Int) (m_Target : Bs (32 : Nat)) (m_Member : Int) (m_Body : Int) (m_Bits : Sl) (m_Tag : Bs (16 : Nat)) (h : Heap) (R : Value → Heap → Prop) (H : tollerref07_Plain_vc m_Kind m_Slot m_Target m_Member m_Body m_Bits m_Tag h R) : CallsH Tryz.prog 82 (TVs.vals [TV.agg [TV.int IntKind.i64 m_Kind, TV.int IntKind.i64 m_Slot, TV.bytes (32 : Nat) m_Target, TV.int IntKind.i64 m_Member, TV.int IntKind.u64 m_Body, TV.slice m_Bits, TV.bytes (16 : Nat) m_Tag]]) h R :=
 vcFn_sound (C := ctx) ctx_ok (fn := Tryz.f82) Tryz.func82 ((by kernel_rfl : tollerref07_Plain_vc m_Kind m_Slot m_Target m_Member m_Body m_Bits m_Tag h R = vcFn ctx Tryz.f82 [TV.agg [TV.int IntKind.i64 m_Kind, TV.int IntKind.i64 m_Slot, TV.bytes (32 : Nat) m_Target, TV.int IntKind.i64 m_Member, TV.int IntKind.u64 m_Body, TV.slice m_Bits, TV.bytes (16 : Nat) m_Tag]] h R) ▸ H)


def tollerref02_Same_vc (a : Sl) (b : Sl) (h : Heap) (R : Value → Heap → Prop) : Prop :=
 If (!decide ((↑a.len : Int) = (↑b.len : Int))) (R (TV.val (TV.bool false)) h)
 (Go.Vc.Loop (false, (0 : Int)) h fun (s : Bool × Int) (h : Array Obj) (K : Bool × Int → Array Obj → Prop) ↦
 If (decide (s.snd < (↑a.len : Int)))
 ((0 : Int) ≤ s.snd ∧
 s.snd < (↑a.len : Int) ∧
 Nn a.a fun (l : Go.Vc.Loc) ↦
 ∃ (b_1 : Bool),
 at1 h l.b (l.o + Int.toNat s.snd * (1 : Nat)) (Value.bool b_1) ∧
 (0 : Int) ≤ s.snd ∧
 s.snd < (↑b.len : Int) ∧
 Nn b.a fun (l : Go.Vc.Loc) ↦
 ∃ (b : Bool),
 at1 h l.b (l.o + Int.toNat s.snd * (1 : Nat)) (Value.bool b) ∧
 If (!b_1 == b) (R (TV.val (TV.bool false)) h) (K (s.fst, IntKind.wrap IntKind.i64 (s.snd + (1 : Int))) h))
 (R (TV.val (TV.bool true)) h))

theorem tollerref02_Same_calls (a : Sl) (b : Sl) (h : Heap) (R : Value → Heap → Prop) (H : tollerref02_Same_vc a b h R) : CallsH Tryz.prog 77 (TVs.vals [TV.slice a, TV.slice b]) h R :=
 vcFn_sound (C := ctx) ctx_ok (fn := Tryz.f77) Tryz.func77 ((by kernel_rfl : tollerref02_Same_vc a b h R = vcFn ctx Tryz.f77 [TV.slice a, TV.slice b] h R) ▸ H)


def tollerref07_Same_vc (a_Kind : Int) (a_Slot : Int) (a_Target : Bs (32 : Nat)) (a_Member : Int) (a_Body : Int) (a_Bits : Sl) (a_Tag : Bs (16 : Nat)) (b_Kind : Int) (b_Slot : Int) (b_Target : Bs (32 : Nat)) (b_Member : Int) (b_Body : Int) (b_Bits : Sl) (b_Tag : Bs (16 : Nat)) (h : Heap) (R : Value → Heap → Prop) : Prop :=
 Vc.Bind
 (newTV h
 (TV.agg
 [TV.int IntKind.i64 a_Kind, TV.int IntKind.i64 a_Slot, TV.bytes (32 : Nat) a_Target, TV.int IntKind.i64 a_Member, TV.int IntKind.u64 a_Body,
 TV.slice a_Bits, TV.bytes (16 : Nat) a_Tag])
 (58 : Nat))
 fun (h_1 : Array Obj) ↦
 Vc.Bind
 (newTV h_1
 (TV.agg
 [TV.int IntKind.i64 b_Kind, TV.int IntKind.i64 b_Slot, TV.bytes (32 : Nat) b_Target, TV.int IntKind.i64 b_Member, TV.int IntKind.u64 b_Body,
 TV.slice b_Bits, TV.bytes (16 : Nat) b_Tag])
 (58 : Nat))
 fun (h_2 : Array Obj) ↦
 ∃ (n : Int),
 at1 h_2 (Array.size h) (0 : Nat) (Value.int IntKind.i64 n) ∧
 ∃ (n_1 : Int),
 at1 h_2 (Array.size h_1) (0 : Nat) (Value.int IntKind.i64 n_1) ∧
 If (decide (n = n_1))
 (∃ (n : Int),
 at1 h_2 (Array.size h) (1 : Nat) (Value.int IntKind.i64 n) ∧
 ∃ (n_2 : Int),
 at1 h_2 (Array.size h_1) (1 : Nat) (Value.int IntKind.i64 n_2) ∧
 If (decide (n = n_2))
 (∃ (b : Bs (32 : Nat)),
 atBytes h_2 (Array.size h) (2 : Nat) (32 : Nat) b ∧
 ∃ (b_1 : Bs (32 : Nat)),
 atBytes h_2 (Array.size h_1) (2 : Nat) (32 : Nat) b_1 ∧
 If (decide (b.l = b_1.l))
 (∃ (n : Int),
 at1 h_2 (Array.size h) (34 : Nat) (Value.int IntKind.i64 n) ∧
 ∃ (n_3 : Int),
 at1 h_2 (Array.size h_1) (34 : Nat) (Value.int IntKind.i64 n_3) ∧
 If (decide (n = n_3))
 (∃ (n : Int),
 at1 h_2 (Array.size h) (35 : Nat) (Value.int IntKind.u64 n) ∧
 ∃ (n_4 : Int),
 at1 h_2 (Array.size h_1) (35 : Nat) (Value.int IntKind.u64 n_4) ∧
 If (decide (n = n_4))
 (∃ (b : Bs (16 : Nat)),
 atBytes h_2 (Array.size h) (37 : Nat) (16 : Nat) b ∧
 ∃ (b_2 : Bs (16 : Nat)),
 atBytes h_2 (Array.size h_1) (37 : Nat) (16 : Nat) b_2 ∧
 If (decide (b.l = b_2.l))
 (∃ (s : Sl),
 at1 h_2 (Array.size h) (36 : Nat) (slVal s) ∧
 ∃ (s_1 : Sl),
 at1 h_2 (Array.size h_1) (36 : Nat) (slVal s_1) ∧
 CallsH Tryz.prog (77 : Nat) (TVs.vals [TV.slice s, TV.slice s_1]) h_2
 fun (v : Value) (h : Array Obj) ↦
 ∃ (b : Bool), v = TV.val (TV.bool b) ∧ R (TV.val (TV.bool b)) h)
 (R (TV.val (TV.bool false)) h_2))
 (R (TV.val (TV.bool false)) h_2))
 (R (TV.val (TV.bool false)) h_2))
 (R (TV.val (TV.bool false)) h_2))
 (R (TV.val (TV.bool false)) h_2))
 (R (TV.val (TV.bool false)) h_2)

theorem tollerref07_Same_calls (a_Kind : Int) (a_Slot : Int) (a_Target : Bs (32 : Nat)) (a_Member : Int) (a_Body : Int) (a_Bits : Sl) (a_Tag : Bs (16 : Nat)) (b_Kind : Int) (b_Slot : Int) (b_Target : Bs (32 : Nat)) (b_Member : Int) (b_Body : Int) (b_Bits : Sl) (b_Tag : Bs (16 : Nat)) (h : Heap) (R : Value → Heap → Prop) (H : tollerref07_Same_vc a_Kind a_Slot a_Target a_Member a_Body a_Bits a_Tag b_Kind b_Slot b_Target b_Member b_Body b_Bits b_Tag h R) : CallsH Tryz.prog 47 (TVs.vals [TV.agg [TV.int IntKind.i64 a_Kind, TV.int IntKind.i64 a_Slot, TV.bytes (32 : Nat) a_Target, TV.int IntKind.i64 a_Member, TV.int IntKind.u64 a_Body, TV.slice a_Bits, TV.bytes (16 : Nat) a_Tag], TV.agg [TV.int IntKind.i64 b_Kind, TV.int IntKind.i64 b_Slot, TV.bytes (32 : Nat) b_Target, TV.int IntKind.i64 b_Member, TV.int IntKind.u64 b_Body, TV.slice b_Bits, TV.bytes (16 : Nat) b_Tag]]) h R :=
 vcFn_sound (C := ctx) ctx_ok (fn := Tryz.f47) Tryz.func47 ((by kernel_rfl : tollerref07_Same_vc a_Kind a_Slot a_Target a_Member a_Body a_Bits a_Tag b_Kind b_Slot b_Target b_Member b_Body b_Bits b_Tag h R = vcFn ctx Tryz.f47 [TV.agg [TV.int IntKind.i64 a_Kind, TV.int IntKind.i64 a_Slot, TV.bytes (32 : Nat) a_Target, TV.int IntKind.i64 a_Member, TV.int IntKind.u64 a_Body, TV.slice a_Bits, TV.bytes (16 : Nat) a_Tag], TV.agg [TV.int IntKind.i64 b_Kind, TV.int IntKind.i64 b_Slot, TV.bytes (32 : Nat) b_Target, TV.int IntKind.i64 b_Member, TV.int IntKind.u64 b_Body, TV.slice b_Bits, TV.bytes (16 : Nat) b_Tag]] h R) ▸ H)


end Go.Proofs.YtldocdpdjdekiaaGreat
end

section
/- The document's bytes, tags, checks and votes: the program's. -/
namespace Go.Proofs.YtldocdpdjdekiaaGreat.Board
open Go Go.Vc
section
variable {R : Value → Heap → Prop} {h : Heap}

/-- What every message that comes in has. -/
def BodyOk (m : Ms) : Prop := 0 ≤ m.body ∧ m.body < 18446744073709551616

theorem kind_byte {n : Int} (h : n = 1 ∨ n = 2 ∨ n = 3) : leR (IntKind.wrap .u64 n) 1 = [UInt8.ofNat (IntKind.wrap .u8 n).toNat] := by
  rcases h with h | h | h <;> subst h <;> rfl

theorem good_kind {m : Ms} {row : List Bool} (hg : goodF m row = true) : m.kind = 1 ∨ m.kind = 2 ∨ m.kind = 3 := by
  by_cases h3 : m.kind = 3
  · exact .inr (.inr h3)
  · unfold goodF at hg
    rw [if_neg h3] at hg
    simp only [Bool.and_eq_true, Bool.or_eq_true, decide_eq_true_eq] at hg
    rcases hg.2.1 with h | h
    · exact .inl h
    · exact .inr (.inl h)

theorem empty_row {b : Nat} {hh : Heap} (hb : b < hh.size) : Row (fun i => b < i) (hh.push (Vc.row (TVs.cells []) 5)) ⟨some ⟨hh.size, 0⟩, 0, 0⟩ [] := by
  refine ⟨Own.new (T := 5) (sz := 1) hh [] (fun t ht => by cases ht), fun l hl => ?_, fun i hi => ?_⟩
  · obtain rfl := Option.some.inj hl
    exact hb
  · rw [Array.size_push] at hi
    omega

theorem Row.ext {Q : Nat → Prop} {h' : Heap} {s : Sl} {bs : List UInt8} (r : Row Q h s bs) (e : Ext h h') : Row Q h' s bs :=
  ⟨r.own.ext e, r.far, fun i hi => r.new i (Nat.le_trans e.size hi)⟩

theorem target_in {m : Ms} {b : Nat} {s : Sl} {K : Sl → Value → Heap → Prop} (v : Var 58 h b m.tv) (r : Row (fun i => b < i) h s []) (hk : ∀ s' h', Only (fun i => b < i) h h' → K s' (TV.str m.target.l).val h') :
    ∃ (new : List Value), slAt h (cutSl (Sl.mk (some (Vc.Loc.mk b 2)) 32 32) 0 32 1) 1 new ∧ (∀ (v : Value), v ∈ new → isOne v = true) ∧ vcAppend ctx 5 s (cutSl (Sl.mk (some (Vc.Loc.mk b 2)) 32 32) 0 32 1).len new h fun (s_2 : Sl) (h_4 : Array Obj) => CallsH Tryz.prog 83 (TVs.vals [TV.slice s_2]) h_4 (K s_2) := by
  obtain ⟨a0, a1, a2, a3, a4, a5, a6⟩ := v.at (t := m.tv)
  have hc : cutSl (Sl.mk (some (Vc.Loc.mk b 2)) 32 32) 0 32 1 = ⟨some ⟨b, 2⟩, 32, 32⟩ := rfl
  rw [hc]
  refine ⟨m.target.l.map fun c => Value.int .u8 (c.toNat : Int), by rw [← bys_cells]; exact (elems_bytes a2).cells (bys_size _) (by decide), bcells_one m.target.l, ?_⟩
  refine app_bytesN m.target.h.symm r (by rw [m.target.h]; decide) fun s3 h3 r3 f3 b3 => ?_
  apply tollerref07_text_calls
  exact ⟨_, r3.str, hk s3 h3 (r.cut f3)⟩

set_option maxRecDepth 100000 in
theorem docplain_spec {m : Ms} {row : List Bool} (e : Elems 1 h m.bits (bools row)) (hl : row.length < 500) (hk : m.kind = 1 ∨ m.kind = 2 ∨ m.kind = 3) (hb : BodyOk m) (hr : ∀ h', Ext h h' → R (TV.str (plainF m row)).val h') : CallsH Tryz.prog 82 (TVs.vals [m.tv]) h R := by
  apply tollerref07_Plain_calls m.kind m.slot m.target m.member m.body m.bits m.tag
  unfold tollerref07_Plain_vc
  refine newTV_in fun h1 v1 x1 s1 => ?_
  have v1 : Var 58 h1 h.size m.tv := v1
  obtain ⟨a0, a1, a2, a3, a4, a5, a6⟩ := v1.at (t := m.tv)
  intro J HJ
  obtain ⟨P, hP⟩ : ∃ P, P = ([UInt8.ofNat (IntKind.wrap .u8 m.kind).toNat] ++ leF (IntKind.wrap .u64 m.slot) 4) ++ m.target.l := ⟨_, rfl⟩
  have lP : P.length = 37 := by
    rw [hP, List.length_append, List.length_append, leF_len, List.length_singleton, m.target.h]
  have hw := wrap_u64_range m.member
  have hs := wrap_u64_range m.slot
  have fin : ∀ (s : Int × Int × List UInt8 × Int × Int × List UInt8 × List UInt8 × Sl × Sl × Sl × List UInt8 × List UInt8 × List UInt8) (h5 : Heap), Ext h1 h5 → s.2.2.2.2.2.2.2.2.2.2.2.2 = P → J s h5 := by
    intro s h5 x5 hsP
    refine HJ s h5 ?_
    dsimp only
    rw [hsP]
    have v5 := v1.ext x5
    obtain ⟨b0, b1, b2, b3, b4, b5, b6⟩ := v5.at (t := m.tv)
    have x05 := x1.trans x5
    refine ⟨_, b0, If.dec.2 ⟨fun k3 => ⟨_, b5, bytesof_spec (e.ext x05) hl fun h6 x6 => ⟨_, rfl, ?_, ?_⟩⟩, fun k3 => ⟨_, b3, docput_spec 2 _ _ _ (by decide) fun h6 x6 => ⟨_, rfl, ?_, _, at1_ext x6 b0, If.dec.2 ⟨fun k1 => ⟨_, at1_ext x6 b4, docput_spec 8 _ _ _ (by decide) fun h7 x7 => ⟨_, rfl, ?_, ?_⟩⟩, fun k1 => ?_⟩⟩⟩⟩⟩
    · rw [lP, bitF_len]; omega
    · have := hr h6 (x05.trans x6)
      unfold plainF at this
      rw [if_neg (by omega), if_neg (by omega), if_pos k3, ← hP] at this
      exact this
    · rw [lP, leR_length]; decide
    · rw [List.length_append, lP, leR_length, leR_length]; decide
    · have := hr h7 ((x05.trans x6).trans x7)
      unfold plainF at this
      rw [if_pos k1, ← hP, ← leR_eq 2 _ hw.1 hw.2, ← leR_eq 8 _ hb.1 hb.2, ← List.append_assoc] at this
      exact this
    · have := hr h6 (x05.trans x6)
      unfold plainF at this
      rw [if_neg k1, if_pos (by omega), ← hP, ← leR_eq 2 _ hw.1 hw.2] at this
      exact this
  clear HJ
  have l1 : ∀ n, (leR n 1).length = 1 := leR_length 1
  have l4 : ∀ n, (leR n 4).length = 4 := leR_length 4
  have lT := m.target.h
  have hPP : (leR (IntKind.wrap .u64 m.kind) 1 ++ leR (IntKind.wrap .u64 m.slot) 4) ++ m.target.l = P := by
    rw [hP, kind_byte hk, leR_eq 4 _ hs.1 hs.2]
  have len2 : ((leR (IntKind.wrap .u64 m.kind) 1).length + (leR (IntKind.wrap .u64 m.slot) 4).length : Nat) ≤ (9223372036854775807 : Int) := by rw [l1, l4]; decide
  have len3 : ((leR (IntKind.wrap .u64 m.kind) 1 ++ leR (IntKind.wrap .u64 m.slot) 4).length + m.target.l.length : Nat) ≤ (9223372036854775807 : Int) := by rw [List.length_append, l1, l4, lT]; decide
  refine ⟨_, a0, _, a1, ⟨docput_spec 1 _ _ _ (by decide) fun h2 x2 => ⟨_, rfl, x2, ⟨docput_spec 4 _ _ _ (by decide) fun h3 x3 => ⟨_, rfl, len2, Ext.push _ _, ?_⟩, Ext.push _ _, docput_spec 4 _ _ _ (by decide) fun h3 x3 => ⟨_, rfl, len2, ?_⟩⟩⟩, Ext.push _ _, docput_spec 1 _ _ _ (by decide) fun h2 x2 => ⟨_, rfl, x2, docput_spec 4 _ _ _ (by decide) fun h3 x3 => ⟨_, rfl, len2, ?_⟩⟩⟩⟩
  · have z2 := x2.size
    have z3 := x3.size
    have xx := (x2.trans x3).trans (Ext.push h3 (Vc.row (TVs.cells []) 5))
    exact target_in (v1.ext xx) (empty_row (by omega)) fun s4 h4 o4 => ⟨_, rfl, len3, fin _ h4 (Only.cut xx o4 fun i hi => by omega) hPP⟩
  · have z2 := x2.size
    have xx := (x2.trans (Ext.push h2 (Vc.row (TVs.cells []) 5))).trans x3
    exact target_in (v1.ext xx) ((empty_row (by omega)).ext x3) fun s4 h4 o4 => ⟨_, rfl, len3, fin _ h4 (Only.cut xx o4 fun i hi => by omega) hPP⟩
  · have xx := ((Ext.push h1 (Vc.row (TVs.cells []) 5)).trans x2).trans x3
    exact target_in (v1.ext xx) ((empty_row (by omega)).ext (x2.trans x3)) fun s4 h4 o4 => ⟨_, rfl, len3, fin _ h4 (Only.cut xx o4 fun i hi => by omega) hPP⟩

theorem b16 {x : Bs 16} : (TV.bytes 16 x).size = 16 := by simp only [TV.size]
/-- A vote's bytes. -/
theorem docvoteplain_spec {slot who : Int} {target : Bs 32} (hr : ∀ h', Ext h h' → R (TV.str (plainF ⟨2, slot, target, who, 0, Sl.nil, Bs.zero 16⟩ [])).val h') :
    CallsH Tryz.prog 82 (TVs.vals [.agg [.int .i64 2, .int .i64 slot, .bytes 32 target, .int .i64 who, .int .u64 0, .slice Sl.nil, .bytes 16 (Bs.zero 16)]]) h R :=
  docplain_spec (m := ⟨2, slot, target, who, 0, Sl.nil, Bs.zero 16⟩) (row := []) (Elems.nil_ 1 h) (by decide) (.inr (.inl rfl)) ⟨Int.le_refl 0, by show (0 : Int) < _; decide⟩ hr

/-! ### Two messages, the same -/

theorem bsame_spec {s t : Sl} {l : List Bool} (e : Elems 1 h s (bools l)) (k : Elems 1 h t (bools l)) (hl : l.length < 100000) (hr : R (TV.bool true).val h) : CallsH Tryz.prog 77 (TVs.vals [.slice s, .slice t]) h R := by
  apply tollerref02_Same_calls
  unfold tollerref02_Same_vc
  have es : l.length = s.len := by have := e.len; rwa [List.length_map] at this
  have et : l.length = t.len := by have := k.len; rwa [List.length_map] at this
  refine If.split (fun hb => ?_) fun _ => ?_
  · have : ((s.len : Nat) : Int) = ((t.len : Nat) : Int) := by omega
    simp [this] at hb
  refine ⟨fun σ hh => 0 ≤ σ.2 ∧ σ.2 ≤ s.len ∧ hh = h, fun σ _ => ((s.len : Int) - σ.2).toNat, ⟨Int.le_refl 0, by first | omega | (dsimp only; omega), rfl⟩, ?_⟩
  rintro ⟨f, i⟩ hh ⟨i0, i1, rfl⟩
  dsimp only at i0 i1 ⊢
  refine If.dec.2 ⟨fun hi => ?_, fun hi => hr⟩
  refine read_bool e i0 (by omega) fun x hx => read_bool k i0 (by omega) fun y hy => ?_
  rw [hx] at hy
  obtain rfl := Option.some.inj hy
  have : (!x == x) = false := by cases x <;> rfl
  rw [this]
  refine If.no ?_
  rw [wrap_i64 (n := i + 1) (by omega) (by omega)]
  exact ⟨⟨by first | omega | (dsimp only; omega), by first | omega | (dsimp only; omega), rfl⟩, by first | omega | (dsimp only; omega)⟩

/-- Two messages with the same parts, whatever slices hold their bits. -/
theorem msame_spec {a b : Ms} {row : List Bool} (e : Elems 1 h a.bits (bools row)) (k : Elems 1 h b.bits (bools row)) (hl : row.length < 100000) (h1 : a.kind = b.kind) (h2 : a.slot = b.slot) (h3 : a.target = b.target) (h4 : a.member = b.member) (h5 : a.body = b.body) (h6 : a.tag = b.tag)
    (hr : ∀ h', Ext h h' → R (TV.bool true).val h') : CallsH Tryz.prog 47 (TVs.vals [a.tv, b.tv]) h R := by
  apply tollerref07_Same_calls a.kind a.slot a.target a.member a.body a.bits a.tag b.kind b.slot b.target b.member b.body b.bits b.tag
  unfold tollerref07_Same_vc
  refine newTV_in fun h1' v1 x1 s1 => newTV_in fun h2' v2 x2 s2 => ?_
  have v1 : Var 58 h2' h.size a.tv := Var.ext (t := a.tv) v1 x2
  have v2 : Var 58 h2' h1'.size b.tv := v2
  obtain ⟨a0, a1, a2, a3, a4, a5, a6⟩ := v1.at (t := a.tv)
  obtain ⟨b0, b1, b2, b3, b4, b5, b6⟩ := v2.at (t := b.tv)
  have x02 := x1.trans x2
  refine ⟨_, a0, _, b0, If.dec.2 ⟨fun _ => ?_, fun hn => absurd h1 hn⟩⟩
  refine ⟨_, a1, _, b1, If.dec.2 ⟨fun _ => ?_, fun hn => absurd h2 hn⟩⟩
  refine ⟨_, a2, _, b2, If.dec.2 ⟨fun _ => ?_, fun hn => absurd (by rw [h3]) hn⟩⟩
  refine ⟨_, a3, _, b3, If.dec.2 ⟨fun _ => ?_, fun hn => absurd h4 hn⟩⟩
  refine ⟨_, a4, _, b4, If.dec.2 ⟨fun _ => ?_, fun hn => absurd h5 hn⟩⟩
  refine ⟨_, a6, _, b6, If.dec.2 ⟨fun _ => ?_, fun hn => absurd (by rw [h6]) hn⟩⟩
  exact ⟨_, a5, _, b5, bsame_spec (e.ext x02) (k.ext x02) hl ⟨_, rfl, hr h2' x02⟩⟩

end
end Go.Proofs.YtldocdpdjdekiaaGreat.Board
end

section
/- Items: their order, rows in order, heaps; plain lists, no program in sight. -/
namespace Go.Proofs.YtldocdpdjdekiaaGreat.Pool
open Go Go.Vc

instance decBs {n : Nat} : DecidableEq (Bs n) := fun a b => decidable_of_iff (a.l = b.l) ⟨fun e => Bs.ext' e, fun e => by rw [e]⟩

structure It where
  slot : Int
  root : Bs 32
  peer : Int
  fr : Bs 32
  text : List UInt8

def It.tv (x : It) : TV := .agg [.int .i64 x.slot, .bytes 32 x.root, .int .i64 x.peer, .bytes 32 x.fr, .str x.text]
def It.zero : It := ⟨0, Bs.zero 32, 0, Bs.zero 32, []⟩
instance : Inhabited It := ⟨It.zero⟩

theorem It.size (x : It) : x.tv.size = 67 := rfl
theorem It.plain (x : It) : x.tv.plain = true := rfl
theorem It.tv_inj {x y : It} (h : x.tv = y.tv) : x = y := by
  cases x; cases y
  simp only [It.tv, TV.agg.injEq, List.cons.injEq, TV.int.injEq, TV.bytes.injEq, TV.str.injEq, true_and, heq_eq_eq, and_true] at h
  obtain ⟨h1, h2, h3, h4, h5⟩ := h
  subst h1; subst h2; subst h3; subst h4; subst h5
  rfl

/-! ### Names in order -/

theorem less_irrefl : ∀ a : List UInt8, Op.bytesLess a a = false
  | [] => rfl
  | x :: xs => by simp [Op.bytesLess, less_irrefl xs, UInt8.lt_irrefl]

theorem less_asymm : ∀ a b : List UInt8, Op.bytesLess a b = true → Op.bytesLess b a = false
  | [], [], h => by cases h
  | [], y :: ys, _ => rfl
  | x :: xs, [], h => by cases h
  | x :: xs, y :: ys, h => by
    simp only [Op.bytesLess, Bool.or_eq_true, Bool.and_eq_true, decide_eq_true_eq, beq_iff_eq] at h
    simp only [Op.bytesLess, Bool.or_eq_false_iff, Bool.and_eq_false_iff, decide_eq_false_iff_not, beq_eq_false_iff_ne]
    rw [UInt8.lt_iff_toNat_lt] at h
    rw [UInt8.lt_iff_toNat_lt]
    rcases h with h | ⟨h, h1⟩
    · refine ⟨by omega, .inl ?_⟩
      rintro rfl
      omega
    · subst h
      exact ⟨by omega, .inr (less_asymm xs ys h1)⟩

theorem less_trans : ∀ a b c : List UInt8, Op.bytesLess a b = true → Op.bytesLess b c = true → Op.bytesLess a c = true
  | [], [], _, h, _ => by cases h
  | _ :: _, [], _, h, _ => by cases h
  | _, _ :: _, [], _, k => by cases k
  | [], _ :: _, _ :: _, _, _ => rfl
  | x :: xs, y :: ys, z :: zs, h, k => by
    simp only [Op.bytesLess, Bool.or_eq_true, Bool.and_eq_true, decide_eq_true_eq, beq_iff_eq] at h k ⊢
    rw [UInt8.lt_iff_toNat_lt] at h k ⊢
    rcases h with h | ⟨h, h1⟩
    · rcases k with k | ⟨k, k1⟩
      · left; omega
      · left; rw [← k]; exact h
    · rcases k with k | ⟨k, k1⟩
      · left; rw [h]; exact k
      · right; exact ⟨h.trans k, less_trans xs ys zs h1 k1⟩

theorem less_total : ∀ a b : List UInt8, a ≠ b → Op.bytesLess a b = true ∨ Op.bytesLess b a = true
  | [], [], h => absurd rfl h
  | [], y :: ys, _ => .inl rfl
  | x :: xs, [], _ => .inr rfl
  | x :: xs, y :: ys, h => by
    simp only [Op.bytesLess, Bool.or_eq_true, Bool.and_eq_true, decide_eq_true_eq, beq_iff_eq]
    rw [UInt8.lt_iff_toNat_lt, UInt8.lt_iff_toNat_lt]
    by_cases e : x = y
    · subst e
      rcases less_total xs ys (fun hx => h (by rw [hx])) with h1 | h1
      · exact .inl (.inr ⟨rfl, h1⟩)
      · exact .inr (.inr ⟨rfl, h1⟩)
    · have : x.toNat ≠ y.toNat := fun hx => e (UInt8.toNat_inj.1 hx)
      rcases Nat.lt_or_ge x.toNat y.toNat with h1 | h1
      · exact .inl (.inl h1)
      · exact .inr (.inl (by omega))

/-! ### Items in order -/

/-- An item comes ahead of another one. -/
def bf (x y : It) : Bool := decide (x.slot < y.slot) || (decide (x.slot = y.slot) && Op.bytesLess x.root.l y.root.l)

theorem bf_iff {x y : It} : bf x y = true ↔ x.slot < y.slot ∨ (x.slot = y.slot ∧ Op.bytesLess x.root.l y.root.l = true) := by
  unfold bf
  simp

theorem bf_irrefl (x : It) : bf x x = false := by
  unfold bf
  simp [less_irrefl]

theorem bf_trans {x y z : It} (h : bf x y = true) (k : bf y z = true) : bf x z = true := by
  rw [bf_iff] at *
  rcases h with h | ⟨h, h1⟩ <;> rcases k with k | ⟨k, k1⟩
  · left; omega
  · left; omega
  · left; omega
  · exact .inr ⟨by omega, less_trans _ _ _ h1 k1⟩

theorem bf_asymm {x y : It} (h : bf x y = true) : bf y x = false := by
  cases hb : bf y x with
  | false => rfl
  | true => have := bf_trans h hb; rw [bf_irrefl] at this; cases this

theorem bf_total {x y : It} (h : ¬ (x.slot = y.slot ∧ x.root = y.root)) : bf x y = true ∨ bf y x = true := by
  rw [bf_iff, bf_iff]
  rcases Int.lt_or_gt_of_ne (a := x.slot) (b := y.slot) with h1
  by_cases e : x.slot = y.slot
  · have hr : x.root.l ≠ y.root.l := fun hx => h ⟨e, Bs.ext' hx⟩
    rcases less_total _ _ hr with h2 | h2
    · exact .inl (.inr ⟨e, h2⟩)
    · exact .inr (.inr ⟨e.symm, h2⟩)
  · rcases h1 e with h2 | h2
    · exact .inl (.inl h2)
    · exact .inr (.inl h2)

/-- What isn't ahead of what isn't ahead. -/
theorem nb_trans {x y z : It} (h : bf x y = false) (k : bf y z = false) : bf x z = false := by
  cases hb : bf x z with
  | false => rfl
  | true =>
    exfalso
    by_cases e : x.slot = y.slot ∧ x.root = y.root
    · have : bf y z = bf x z := by unfold bf; rw [e.1, e.2]
      rw [this, hb] at k
      cases k
    · rcases bf_total e with h1 | h1
      · rw [h1] at h; cases h
      · have := bf_trans h1 hb
        rw [this] at k; cases k

/-! ### Rows in order -/

def Srt (S : List It) : Prop := S.Pairwise fun x y => bf x y = true

def insIt (x : It) : List It → List It
  | [] => [x]
  | y :: ys => if bf x y = true then x :: y :: ys else y :: insIt x ys

theorem insIt_perm (x : It) : ∀ S, (insIt x S).Perm (x :: S)
  | [] => List.Perm.refl _
  | y :: ys => by
    unfold insIt
    split
    · exact List.Perm.refl _
    · exact ((insIt_perm x ys).cons y).trans (List.Perm.swap x y ys)

theorem insIt_srt {x : It} : ∀ {S : List It}, Srt S → (∀ y ∈ S, x.root ≠ y.root) → Srt (insIt x S)
  | [], _, _ => by simp [insIt, Srt]
  | y :: ys, h, hx => by
    unfold insIt
    have hy := List.pairwise_cons.1 h
    split
    · rename_i hb
      refine List.pairwise_cons.2 ⟨fun z hz => ?_, h⟩
      rcases List.mem_cons.1 hz with rfl | hz
      · exact hb
      · exact bf_trans hb (hy.1 z hz)
    · rename_i hb
      have hyx : bf y x = true := by
        rcases bf_total (x := x) (y := y) (fun e => hx y (List.mem_cons_self ..) e.2) with h1 | h1
        · exact absurd h1 hb
        · exact h1
      refine List.pairwise_cons.2 ⟨fun z hz => ?_, insIt_srt hy.2 (fun z hz => hx z (List.mem_cons_of_mem _ hz))⟩
      rcases List.mem_cons.1 ((insIt_perm x ys).mem_iff.1 hz) with rfl | hz
      · exact hyx
      · exact hy.1 z hz

/-- There is but one row in order of the same items. -/
theorem srt_unique : ∀ {S T : List It}, Srt S → Srt T → S.Perm T → S = T
  | [], T, _, _, hp => hp.nil_eq
  | x :: S, [], _, _, hp => by have := hp.length_eq; simp at this
  | x :: S, y :: T, hs, ht, hp => by
    have h1 := List.pairwise_cons.1 hs
    have h2 := List.pairwise_cons.1 ht
    have e : x = y := by
      rcases List.mem_cons.1 (hp.mem_iff.1 (List.mem_cons_self (a := x) (l := S))) with e | e
      · exact e
      · rcases List.mem_cons.1 (hp.mem_iff.2 (List.mem_cons_self (a := y) (l := T))) with e' | e'
        · exact e'.symm
        · have a := h2.1 x e
          have b := h1.1 y e'
          rw [bf_asymm a] at b
          cases b
    subst e
    rw [srt_unique h1.2 h2.2 (List.Perm.cons_inv hp)]

theorem srt_nodup {S : List It} (h : Srt S) : S.Nodup := h.imp fun hb e => by subst e; rw [bf_irrefl] at hb; cases hb

/-! ### Heaps: the one that comes last at the top -/

def hget (L : List It) (i : Nat) : It := L.getD i It.zero

/-- No parent from lo on is ahead of its child. -/
def HeapFrom (lo : Nat) (L : List It) : Prop := ∀ k, 0 < k → k < L.length → lo ≤ (k - 1) / 2 → bf (hget L ((k - 1) / 2)) (hget L k) = false

theorem heap_top {L : List It} (h : HeapFrom 0 L) : ∀ (n k : Nat), k ≤ n → k < L.length → bf (hget L 0) (hget L k) = false
  | n, 0, _, _ => bf_irrefl _
  | 0, k + 1, hn, _ => by omega
  | n + 1, k + 1, hn, hk => by
    have h1 := h (k + 1) (by omega) hk (Nat.zero_le _)
    have h2 := heap_top h n ((k + 1 - 1) / 2) (by omega) (by omega)
    exact nb_trans h2 h1

theorem hget_mem {L : List It} {i : Nat} (h : i < L.length) : hget L i ∈ L := by
  unfold hget
  rw [List.getD_eq_getElem?_getD, List.getElem?_eq_getElem h]
  exact List.getElem_mem h

theorem hget_some {L : List It} {i : Nat} (h : i < L.length) : L[i]? = some (hget L i) := by
  unfold hget
  rw [List.getD_eq_getElem?_getD, List.getElem?_eq_getElem h]
  rfl

theorem hget_of {L : List It} {i : Nat} {x : It} (h : L[i]? = some x) : hget L i = x := by
  unfold hget
  rw [List.getD_eq_getElem?_getD, h]
  rfl

/-- What stands at the top is the last of all in order. -/
theorem heap_last {L S : List It} (h : HeapFrom 0 L) (hp : L.Perm S) (hs : Srt S) (h0 : 0 < L.length) : S.getLast? = some (hget L 0) := by
  have hl := hp.length_eq
  have hne : S ≠ [] := fun e => by rw [e, List.length_nil] at hl; omega
  rw [List.getLast?_eq_some_getLast hne]
  congr 1
  have hm : S.getLast hne ∈ L := hp.mem_iff.2 (List.getLast_mem hne)
  obtain ⟨i, hi, he⟩ := List.mem_iff_getElem.1 hm
  have hnb := heap_top h i i (Nat.le_refl _) hi
  rw [hget_of (List.getElem?_eq_some_iff.2 ⟨hi, he⟩)] at hnb
  have hm0 : hget L 0 ∈ S := hp.mem_iff.1 (hget_mem h0)
  obtain ⟨j, hj, hej⟩ := List.mem_iff_getElem.1 hm0
  by_cases e : j = S.length - 1
  · rw [List.getLast_eq_getElem, ← hej]
    congr 1
    exact e.symm
  · have := List.pairwise_iff_getElem.1 hs j (S.length - 1) hj (by omega) (by omega)
    rw [hej, ← List.getLast_eq_getElem hne] at this
    rw [this] at hnb
    cases hnb

/-- Two items change places. -/
def sw (L : List It) (i j : Nat) : List It := (L.set i (hget L j)).set j (hget L i)

theorem sw_length (L : List It) (i j : Nat) : (sw L i j).length = L.length := by simp [sw]

theorem sw_get {L : List It} {i j k : Nat} (hi : i < L.length) (hj : j < L.length) (hk : k < L.length) : hget (sw L i j) k = if k = j then hget L i else if k = i then hget L j else hget L k := by
  have e : (sw L i j)[k]? = some (if k = j then hget L i else if k = i then hget L j else hget L k) := by
    unfold sw
    rw [List.getElem?_set, List.getElem?_set]
    by_cases h1 : j = k
    · subst h1
      simp [hj]
    · rw [if_neg h1, if_neg (show ¬ k = j from fun e => h1 e.symm)]
      by_cases h2 : i = k
      · subst h2
        simp [hi]
      · rw [if_neg h2, if_neg (show ¬ k = i from fun e => h2 e.symm)]
        exact hget_some hk
  exact hget_of e

theorem sw_perm {L : List It} {i j : Nat} (hi : i < L.length) (hj : j < L.length) : (sw L i j).Perm L := by
  unfold sw
  have h1 : hget L i = L[i] := hget_of (List.getElem?_eq_getElem hi)
  have h2 : hget L j = L[j] := hget_of (List.getElem?_eq_getElem hj)
  rw [h1, h2]
  exact List.set_set_perm hi hj

/-- A heap, but that j may come behind its parent. -/
def UpInv (L : List It) (j : Nat) : Prop :=
  (∀ k, 0 < k → k < L.length → k ≠ j → bf (hget L ((k - 1) / 2)) (hget L k) = false) ∧
  (∀ k, 0 < k → k < L.length → (k - 1) / 2 = j → 0 < j → bf (hget L ((j - 1) / 2)) (hget L k) = false)

theorem up_done {L : List It} {j : Nat} (h : UpInv L j) (hj : j < L.length) (hd : j = 0 ∨ bf (hget L ((j - 1) / 2)) (hget L j) = false) : HeapFrom 0 L := by
  intro k hk hl _
  by_cases e : k = j
  · subst e
    rcases hd with hd | hd
    · omega
    · exact hd
  · exact h.1 k hk hl e

theorem up_step {L : List It} {j : Nat} (h : UpInv L j) (h0 : 0 < j) (hj : j < L.length) (hb : bf (hget L ((j - 1) / 2)) (hget L j) = true) : UpInv (sw L ((j - 1) / 2) j) ((j - 1) / 2) := by
  have hp : (j - 1) / 2 < j := by omega
  have hpl : (j - 1) / 2 < L.length := by omega
  generalize hpd : (j - 1) / 2 = p at *
  have g := fun k (hk : k < L.length) => sw_get (k := k) hpl hj hk
  refine ⟨fun k hk hl hne => ?_, fun k hk hl hpar hp0 => ?_⟩
  · rw [sw_length] at hl
    rw [g k hl, g _ (by omega)]
    by_cases e1 : k = j
    · subst e1
      rw [if_pos rfl, hpd, if_neg (by omega), if_pos rfl]
      exact bf_asymm hb
    · rw [if_neg e1, if_neg hne]
      by_cases e2 : (k - 1) / 2 = j
      · rw [if_pos e2]
        have := h.2 k hk hl e2 h0
        rwa [hpd] at this
      · rw [if_neg e2]
        by_cases e3 : (k - 1) / 2 = p
        · rw [if_pos e3]
          have := h.1 k hk hl e1
          rw [e3] at this
          exact nb_trans (bf_asymm hb) this
        · rw [if_neg e3]
          exact h.1 k hk hl e1
  · rw [sw_length] at hl
    have hpp : (p - 1) / 2 < p := by omega
    rw [g k hl, g _ (by omega), if_neg (show ¬ (p - 1) / 2 = j by omega), if_neg (show ¬ (p - 1) / 2 = p by omega)]
    have hpar2 := h.1 p hp0 hpl (by omega)
    by_cases e1 : k = j
    · rw [if_pos e1]
      exact hpar2
    · rw [if_neg e1, if_neg (show ¬ k = p by omega)]
      have := h.1 k hk hl e1
      rw [hpar] at this
      exact nb_trans hpar2 this

/-- A heap from lo on, but that i may be ahead of its children. -/
def DownInv (lo : Nat) (L : List It) (i : Nat) : Prop :=
  (∀ k, 0 < k → k < L.length → lo ≤ (k - 1) / 2 → (k - 1) / 2 ≠ i → bf (hget L ((k - 1) / 2)) (hget L k) = false) ∧
  (∀ k, 0 < k → k < L.length → (k - 1) / 2 = i → 0 < i → lo ≤ (i - 1) / 2 → bf (hget L ((i - 1) / 2)) (hget L k) = false)

theorem down_start {L : List It} {i : Nat} (h : HeapFrom (i + 1) L) : DownInv i L i :=
  ⟨fun k hk hl hlo hne => h k hk hl (by omega), fun k _ _ _ h0 hlo => by omega⟩

theorem down_done {lo : Nat} {L : List It} {i : Nat} (h : DownInv lo L i) (hd : ∀ k, 0 < k → k < L.length → (k - 1) / 2 = i → bf (hget L i) (hget L k) = false) : HeapFrom lo L := by
  intro k hk hl hlo
  by_cases e : (k - 1) / 2 = i
  · rw [e]; exact hd k hk hl e
  · exact h.1 k hk hl hlo e

theorem down_step {lo : Nat} {L : List It} {i j : Nat} (h : DownInv lo L i) (hj : j < L.length) (hi : (j - 1) / 2 = i) (h0 : 0 < j) (hlo : lo ≤ i) (hb : bf (hget L i) (hget L j) = true)
    (hsib : ∀ k, 0 < k → k < L.length → (k - 1) / 2 = i → bf (hget L j) (hget L k) = false) : DownInv lo (sw L i j) j := by
  have hij : i < j := by omega
  have hil : i < L.length := by omega
  have g := fun k (hk : k < L.length) => sw_get (k := k) hil hj hk
  refine ⟨fun k hk hl hlok hne => ?_, fun k hk hl hpar _ hlo2 => ?_⟩
  · rw [sw_length] at hl
    rw [g k hl, g _ (by omega), if_neg hne]
    by_cases e1 : (k - 1) / 2 = i
    · rw [if_pos e1]
      by_cases e2 : k = j
      · rw [if_pos e2]
        exact bf_asymm hb
      · rw [if_neg e2, if_neg (show ¬ k = i by omega)]
        exact hsib k hk hl e1
    · rw [if_neg e1]
      by_cases e2 : k = j
      · exact absurd (e2 ▸ hi) e1
      · rw [if_neg e2]
        by_cases e3 : k = i
        · rw [if_pos e3]
          subst e3
          exact h.2 j h0 hj hi hk hlok
        · rw [if_neg e3]
          exact h.1 k hk hl hlok e1
  · rw [sw_length] at hl
    rw [hi, g k hl, g i hil, if_neg (show ¬ i = j by omega), if_pos rfl, if_neg (show ¬ k = j by omega), if_neg (show ¬ k = i by omega)]
    have := h.1 k hk hl (by omega) (by omega)
    rw [hpar] at this
    exact this

end Go.Proofs.YtldocdpdjdekiaaGreat.Pool
end

section
/- The conditions of functions, as the generator reckons them out, each with the proof that it is that. -/
namespace Go.Proofs.YtldocdpdjdekiaaGreat
open Go Go.Vc
set_option maxRecDepth 100000
set_option linter.unusedVariables false

def pool_Before_vc (a_Slot : Int) (a_Root : Bs (32 : Nat)) (a_Peer : Int) (a_For : Bs (32 : Nat)) (a_Text : List UInt8) (b_Slot : Int) (b_Root : Bs (32 : Nat)) (b_Peer : Int) (b_For : Bs (32 : Nat)) (b_Text : List UInt8) (h : Heap) (R : Value → Heap → Prop) : Prop :=
 Vc.Bind
 (newTV h (TV.agg [TV.int IntKind.i64 a_Slot, TV.bytes (32 : Nat) a_Root, TV.int IntKind.i64 a_Peer, TV.bytes (32 : Nat) a_For, TV.str a_Text]) (83 : Nat))
 fun (h_1 : Array Obj) ↦
 Vc.Bind
 (newTV h_1 (TV.agg [TV.int IntKind.i64 b_Slot, TV.bytes (32 : Nat) b_Root, TV.int IntKind.i64 b_Peer, TV.bytes (32 : Nat) b_For, TV.str b_Text]) (83 : Nat))
 fun (h_2 : Array Obj) ↦
 ∃ (n : Int),
 at1 h_2 (Array.size h) (0 : Nat) (Value.int IntKind.i64 n) ∧
 ∃ (n_1 : Int),
 at1 h_2 (Array.size h_1) (0 : Nat) (Value.int IntKind.i64 n_1) ∧
 If (decide (n < n_1)) (R (TV.val (TV.bool true)) h_2)
 (∃ (n : Int),
 at1 h_2 (Array.size h) (0 : Nat) (Value.int IntKind.i64 n) ∧
 ∃ (n_2 : Int),
 at1 h_2 (Array.size h_1) (0 : Nat) (Value.int IntKind.i64 n_2) ∧
 If (decide (n = n_2))
 (∃ (b : Bs (32 : Nat)),
 atBytes h_2 (Array.size h) (1 : Nat) (32 : Nat) b ∧
 ∃ (b_1 : Bs (32 : Nat)),
 atBytes h_2 (Array.size h_1) (1 : Nat) (32 : Nat) b_1 ∧
 CallsH Tryz.prog (95 : Nat) (TVs.vals [TV.bytes (32 : Nat) b, TV.bytes (32 : Nat) b_1]) h_2 fun (v : Value) (h : Array Obj) ↦
 ∃ (b : Bool), v = TV.val (TV.bool b) ∧ R (TV.val (TV.bool b)) h)
 (R (TV.val (TV.bool false)) h_2))

theorem pool_Before_calls (a_Slot : Int) (a_Root : Bs (32 : Nat)) (a_Peer : Int) (a_For : Bs (32 : Nat)) (a_Text : List UInt8) (b_Slot : Int) (b_Root : Bs (32 : Nat)) (b_Peer : Int) (b_For : Bs (32 : Nat)) (b_Text : List UInt8) (h : Heap) (R : Value → Heap → Prop) (H : pool_Before_vc a_Slot a_Root a_Peer a_For a_Text b_Slot b_Root b_Peer b_For b_Text h R) : CallsH Tryz.prog 69 (TVs.vals [TV.agg [TV.int IntKind.i64 a_Slot, TV.bytes (32 : Nat) a_Root, TV.int IntKind.i64 a_Peer, TV.bytes (32 : Nat) a_For, TV.str a_Text], TV.agg [TV.int IntKind.i64 b_Slot, TV.bytes (32 : Nat) b_Root, TV.int IntKind.i64 b_Peer, TV.bytes (32 : Nat) b_For, TV.str b_Text]]) h R :=
 vcFn_sound (C := ctx) ctx_ok (fn := Tryz.f69) Tryz.func69 ((by kernel_rfl : pool_Before_vc a_Slot a_Root a_Peer a_For a_Text b_Slot b_Root b_Peer b_For b_Text h R = vcFn ctx Tryz.f69 [TV.agg [TV.int IntKind.i64 a_Slot, TV.bytes (32 : Nat) a_Root, TV.int IntKind.i64 a_Peer, TV.bytes (32 : Nat) a_For, TV.str a_Text], TV.agg [TV.int IntKind.i64 b_Slot, TV.bytes (32 : Nat) b_Root, TV.int IntKind.i64 b_Peer, TV.bytes (32 : Nat) b_For, TV.str b_Text]] h R) ▸ H)


def pool_last_Len_vc (l_ : Sl) (h : Heap) (R : Value → Heap → Prop) : Prop :=
 R (TV.val (TV.int IntKind.i64 (↑l_.len : Int))) h

theorem pool_last_Len_calls (l_ : Sl) (h : Heap) (R : Value → Heap → Prop) (H : pool_last_Len_vc l_ h R) : CallsH Tryz.prog 76 (TVs.vals [TV.slice l_]) h R :=
 vcFn_sound (C := ctx) ctx_ok (fn := Tryz.f76) Tryz.func76 ((by kernel_rfl : pool_last_Len_vc l_ h R = vcFn ctx Tryz.f76 [TV.slice l_] h R) ▸ H)


def pool_last_Less_vc (l_ : Sl) (i : Int) (k : Int) (h : Heap) (R : Value → Heap → Prop) : Prop :=
 (0 : Int) ≤ k ∧
 k < (↑l_.len : Int) ∧
 Nn l_.a fun (l : Go.Vc.Loc) ↦
 ∃ (n : Int),
 ∃ (b : Bs (32 : Nat)),
 ∃ (n_1 : Int),
 ∃ (b_1 : Bs (32 : Nat)),
 ∃ (s : List UInt8),
 (at1 h l.b (l.o + Int.toNat k * (67 : Nat)) (Value.int IntKind.i64 n) ∧
 atBytes h l.b (l.o + Int.toNat k * (67 : Nat) + (1 : Nat)) (32 : Nat) b ∧
 at1 h l.b (l.o + Int.toNat k * (67 : Nat) + (1 : Nat) + (32 : Nat)) (Value.int IntKind.i64 n_1) ∧
 atBytes h l.b (l.o + Int.toNat k * (67 : Nat) + (1 : Nat) + (32 : Nat) + (1 : Nat)) (32 : Nat) b_1 ∧
 at1 h l.b (l.o + Int.toNat k * (67 : Nat) + (1 : Nat) + (32 : Nat) + (1 : Nat) + (32 : Nat))
 (Value.string (ByteArray.mk (List.toArray s)))) ∧
 (0 : Int) ≤ i ∧
 i < (↑l_.len : Int) ∧
 Nn l_.a fun (l : Go.Vc.Loc) ↦
 ∃ (n_2 : Int),
 ∃ (b_2 : Bs (32 : Nat)),
 ∃ (n_3 : Int),
 ∃ (b_3 : Bs (32 : Nat)),
 ∃ (s_1 : List UInt8),
 (at1 h l.b (l.o + Int.toNat i * (67 : Nat)) (Value.int IntKind.i64 n_2) ∧
 atBytes h l.b (l.o + Int.toNat i * (67 : Nat) + (1 : Nat)) (32 : Nat) b_2 ∧
 at1 h l.b (l.o + Int.toNat i * (67 : Nat) + (1 : Nat) + (32 : Nat)) (Value.int IntKind.i64 n_3) ∧
 atBytes h l.b (l.o + Int.toNat i * (67 : Nat) + (1 : Nat) + (32 : Nat) + (1 : Nat)) (32 : Nat) b_3 ∧
 at1 h l.b (l.o + Int.toNat i * (67 : Nat) + (1 : Nat) + (32 : Nat) + (1 : Nat) + (32 : Nat))
 (Value.string (ByteArray.mk (List.toArray s_1)))) ∧
 CallsH Tryz.prog (69 : Nat)
 (TVs.vals
 [TV.agg [TV.int IntKind.i64 n, TV.bytes (32 : Nat) b, TV.int IntKind.i64 n_1, TV.bytes (32 : Nat) b_1, TV.str s],
 TV.agg
 [TV.int IntKind.i64 n_2, TV.bytes (32 : Nat) b_2, TV.int IntKind.i64 n_3, TV.bytes (32 : Nat) b_3, TV.str s_1]])
 h fun (v : Value) (h : Heap) ↦ ∃ (b : Bool), v = TV.val (TV.bool b) ∧ R (TV.val (TV.bool b)) h

theorem pool_last_Less_calls (l_ : Sl) (i : Int) (k : Int) (h : Heap) (R : Value → Heap → Prop) (H : pool_last_Less_vc l_ i k h R) : CallsH Tryz.prog 150 (TVs.vals [TV.slice l_, TV.int IntKind.i64 i, TV.int IntKind.i64 k]) h R :=
 vcFn_sound (C := ctx) ctx_ok (fn := Tryz.f150) Tryz.func150 ((by kernel_rfl : pool_last_Less_vc l_ i k h R = vcFn ctx Tryz.f150 [TV.slice l_, TV.int IntKind.i64 i, TV.int IntKind.i64 k] h R) ▸ H)


def pool_last_Swap_vc (l_ : Sl) (i : Int) (k : Int) (h : Heap) (R : Value → Heap → Prop) : Prop :=
 (0 : Int) ≤ k ∧
 k < (↑l_.len : Int) ∧
 Nn l_.a fun (l : Go.Vc.Loc) ↦
 ∃ (n : Int),
 ∃ (b : Bs (32 : Nat)),
 ∃ (n_1 : Int),
 ∃ (b_1 : Bs (32 : Nat)),
 ∃ (s : List UInt8),
 (at1 h l.b (l.o + Int.toNat k * (67 : Nat)) (Value.int IntKind.i64 n) ∧
 atBytes h l.b (l.o + Int.toNat k * (67 : Nat) + (1 : Nat)) (32 : Nat) b ∧
 at1 h l.b (l.o + Int.toNat k * (67 : Nat) + (1 : Nat) + (32 : Nat)) (Value.int IntKind.i64 n_1) ∧
 atBytes h l.b (l.o + Int.toNat k * (67 : Nat) + (1 : Nat) + (32 : Nat) + (1 : Nat)) (32 : Nat) b_1 ∧
 at1 h l.b (l.o + Int.toNat k * (67 : Nat) + (1 : Nat) + (32 : Nat) + (1 : Nat) + (32 : Nat))
 (Value.string (ByteArray.mk (List.toArray s)))) ∧
 (0 : Int) ≤ i ∧
 i < (↑l_.len : Int) ∧
 Nn l_.a fun (l : Go.Vc.Loc) ↦
 ∃ (n_2 : Int),
 ∃ (b_2 : Bs (32 : Nat)),
 ∃ (n_3 : Int),
 ∃ (b_3 : Bs (32 : Nat)),
 ∃ (s_1 : List UInt8),
 (at1 h l.b (l.o + Int.toNat i * (67 : Nat)) (Value.int IntKind.i64 n_2) ∧
 atBytes h l.b (l.o + Int.toNat i * (67 : Nat) + (1 : Nat)) (32 : Nat) b_2 ∧
 at1 h l.b (l.o + Int.toNat i * (67 : Nat) + (1 : Nat) + (32 : Nat)) (Value.int IntKind.i64 n_3) ∧
 atBytes h l.b (l.o + Int.toNat i * (67 : Nat) + (1 : Nat) + (32 : Nat) + (1 : Nat)) (32 : Nat) b_3 ∧
 at1 h l.b (l.o + Int.toNat i * (67 : Nat) + (1 : Nat) + (32 : Nat) + (1 : Nat) + (32 : Nat))
 (Value.string (ByteArray.mk (List.toArray s_1)))) ∧
 (0 : Int) ≤ i ∧
 i < (↑l_.len : Int) ∧
 Nn l_.a fun (l : Go.Vc.Loc) ↦
 wok h l.b (l.o + Int.toNat i * (67 : Nat)) (67 : Nat) ∧
 Vc.Bind
 (TV.put h l.b (l.o + Int.toNat i * (67 : Nat))
 (TV.agg
 [TV.int IntKind.i64 n, TV.bytes (32 : Nat) b, TV.int IntKind.i64 n_1, TV.bytes (32 : Nat) b_1, TV.str s]))
 fun (h : Array Obj) ↦
 (0 : Int) ≤ k ∧
 k < (↑l_.len : Int) ∧
 Nn l_.a fun (l : Go.Vc.Loc) ↦
 wok h l.b (l.o + Int.toNat k * (67 : Nat)) (67 : Nat) ∧
 Vc.Bind
 (TV.put h l.b (l.o + Int.toNat k * (67 : Nat))
 (TV.agg
 [TV.int IntKind.i64 n_2, TV.bytes (32 : Nat) b_2, TV.int IntKind.i64 n_3, TV.bytes (32 : Nat) b_3,
 TV.str s_1]))
 fun (h : Array Obj) ↦ R (TV.val (TV.tup [])) h

theorem pool_last_Swap_calls (l_ : Sl) (i : Int) (k : Int) (h : Heap) (R : Value → Heap → Prop) (H : pool_last_Swap_vc l_ i k h R) : CallsH Tryz.prog 151 (TVs.vals [TV.slice l_, TV.int IntKind.i64 i, TV.int IntKind.i64 k]) h R :=
 vcFn_sound (C := ctx) ctx_ok (fn := Tryz.f151) Tryz.func151 ((by kernel_rfl : pool_last_Swap_vc l_ i k h R = vcFn ctx Tryz.f151 [TV.slice l_, TV.int IntKind.i64 i, TV.int IntKind.i64 k] h R) ▸ H)


def pool_last_Push_vc (l_ : Option Go.Vc.Loc) (x : Vc.One) (h : Heap) (R : Value → Heap → Prop) : Prop :=
 Nn l_ fun (l : Go.Vc.Loc) ↦
 ∃ (s : Sl),
 at1 h l.b l.o (slVal s) ∧
 ∃ (n : Int),
 ∃ (b : Bs (32 : Nat)),
 ∃ (n_1 : Int),
 ∃ (b_1 : Bs (32 : Nat)),
 ∃ (s_1 : List UInt8),
 x.v =
 Value.iface (83 : Nat)
 (TV.val (TV.agg [TV.int IntKind.i64 n, TV.bytes (32 : Nat) b, TV.int IntKind.i64 n_1, TV.bytes (32 : Nat) b_1, TV.str s_1])) ∧
 Ext h
 (Array.push h
 (row (TVs.cells [TV.agg [TV.int IntKind.i64 n, TV.bytes (32 : Nat) b, TV.int IntKind.i64 n_1, TV.bytes (32 : Nat) b_1, TV.str s_1]])
 (83 : Nat))) ∧
 ∃ (new : List Value),
 slAt
 (Array.push h
 (row (TVs.cells [TV.agg [TV.int IntKind.i64 n, TV.bytes (32 : Nat) b, TV.int IntKind.i64 n_1, TV.bytes (32 : Nat) b_1, TV.str s_1]])
 (83 : Nat)))
 (Sl.mk (some (Loc.mk (Array.size h) (0 : Nat))) (1 : Nat) (1 : Nat)) (67 : Nat) new ∧
 (∀ (v : Value), v ∈ new → isOne v = true) ∧
 vcAppend YtldocdpdjdekiaaGreat.ctx (83 : Nat) s (1 : Nat) new
 (Array.push h
 (row
 (TVs.cells [TV.agg [TV.int IntKind.i64 n, TV.bytes (32 : Nat) b, TV.int IntKind.i64 n_1, TV.bytes (32 : Nat) b_1, TV.str s_1]])
 (83 : Nat)))
 fun (s : Sl) (h : Array Obj) ↦
 Nn l_ fun (l : Go.Vc.Loc) ↦
 wok h l.b l.o (1 : Nat) ∧ Vc.Bind (TV.put h l.b l.o (TV.slice s)) fun (h : Array Obj) ↦ R (TV.val (TV.tup [])) h

theorem pool_last_Push_calls (l_ : Option Go.Vc.Loc) (x : Vc.One) (h : Heap) (R : Value → Heap → Prop) (H : pool_last_Push_vc l_ x h R) : CallsH Tryz.prog 152 (TVs.vals [TV.ptr l_, TV.one x]) h R :=
 vcFn_sound (C := ctx) ctx_ok (fn := Tryz.f152) Tryz.func152 ((by kernel_rfl : pool_last_Push_vc l_ x h R = vcFn ctx Tryz.f152 [TV.ptr l_, TV.one x] h R) ▸ H)


def container_heap_up_vc (h_ : Vc.One) (j : Int) (h : Heap) (R : Value → Heap → Prop) : Prop :=
 Go.Vc.Loop j h fun (s : Int) (h : Array Obj) (K : Int → Array Obj → Prop) ↦
 (2 : Int) ≠ (0 : Int) ∧
 If (decide (IntKind.wrap IntKind.i64 (Int.tdiv (IntKind.wrap IntKind.i64 (s - (1 : Int))) (2 : Int)) = s)) (R (TV.val (TV.tup [])) h)
 (∃ (t : Nat),
 ∃ (x : Value),
 ∃ (f : Nat),
 ∃ (rv : Value),
 h_.v = Value.iface t x ∧
 MethodAt Tryz.prog h t x "Less" f rv ∧
 CallsH Tryz.prog f
 (rv ::
 TVs.vals
 [TV.int IntKind.i64 s, TV.int IntKind.i64 (IntKind.wrap IntKind.i64 (Int.tdiv (IntKind.wrap IntKind.i64 (s - (1 : Int))) (2 : Int)))])
 h fun (v : Value) (h : Array Obj) ↦
 ∃ (b : Bool),
 v = TV.val (TV.bool b) ∧
 If (!b) (R (TV.val (TV.tup [])) h)
 (∃ (t : Nat),
 ∃ (x : Value),
 ∃ (f : Nat),
 ∃ (rv : Value),
 h_.v = Value.iface t x ∧
 MethodAt Tryz.prog h t x "Swap" f rv ∧
 CallsH Tryz.prog f
 (rv ::
 TVs.vals
 [TV.int IntKind.i64 (IntKind.wrap IntKind.i64 (Int.tdiv (IntKind.wrap IntKind.i64 (s - (1 : Int))) (2 : Int))),
 TV.int IntKind.i64 s])
 h fun (v : Value) (h : Array Obj) ↦
 v = TV.val (TV.tup []) ∧
 K (IntKind.wrap IntKind.i64 (Int.tdiv (IntKind.wrap IntKind.i64 (s - (1 : Int))) (2 : Int))) h))

theorem container_heap_up_calls (h_ : Vc.One) (j : Int) (h : Heap) (R : Value → Heap → Prop) (H : container_heap_up_vc h_ j h R) : CallsH Tryz.prog 94 (TVs.vals [TV.one h_, TV.int IntKind.i64 j]) h R :=
 vcFn_sound (C := ctx) ctx_ok (fn := Tryz.f94) Tryz.func94 ((by kernel_rfl : container_heap_up_vc h_ j h R = vcFn ctx Tryz.f94 [TV.one h_, TV.int IntKind.i64 j] h R) ▸ H)


def container_heap_down_vc (h_ : Vc.One) (i0 : Int) (n : Int) (h : Heap) (R : Value → Heap → Prop) : Prop :=
 Go.Vc.Loop i0 h fun (s : Int) (h : Array Obj) (K : Int → Array Obj → Prop) ↦
 Join
 (fun (s_1 : PUnit) (h : Array Obj) ↦
 Join
 (fun (s_2 : Int) (h : Array Obj) ↦
 ∃ (t : Nat),
 ∃ (x : Value),
 ∃ (f : Nat),
 ∃ (rv : Value),
 h_.v = Value.iface t x ∧
 MethodAt Tryz.prog h t x "Less" f rv ∧
 CallsH Tryz.prog f (rv :: TVs.vals [TV.int IntKind.i64 s_2, TV.int IntKind.i64 s]) h fun (v : Value) (h : Array Obj) ↦
 ∃ (b : Bool),
 v = TV.val (TV.bool b) ∧
 If (!b) (R (TV.val (TV.bool (decide (i0 < s)))) h)
 (∃ (t : Nat),
 ∃ (x : Value),
 ∃ (f : Nat),
 ∃ (rv : Value),
 h_.v = Value.iface t x ∧
 MethodAt Tryz.prog h t x "Swap" f rv ∧
 CallsH Tryz.prog f (rv :: TVs.vals [TV.int IntKind.i64 s, TV.int IntKind.i64 s_2]) h fun (v : Value) (h : Array Obj) ↦
 v = TV.val (TV.tup []) ∧ K s_2 h))
 fun (J : Int → Array Obj → Prop) ↦
 If (decide (IntKind.wrap IntKind.i64 (IntKind.wrap IntKind.i64 (IntKind.wrap IntKind.i64 ((2 : Int) * s) + (1 : Int)) + (1 : Int)) < n))
 (∃ (t : Nat),
 ∃ (x : Value),
 ∃ (f : Nat),
 ∃ (rv : Value),
 h_.v = Value.iface t x ∧
 MethodAt Tryz.prog h t x "Less" f rv ∧
 CallsH Tryz.prog f
 (rv ::
 TVs.vals
 [TV.int IntKind.i64
 (IntKind.wrap IntKind.i64 (IntKind.wrap IntKind.i64 (IntKind.wrap IntKind.i64 ((2 : Int) * s) + (1 : Int)) + (1 : Int))),
 TV.int IntKind.i64 (IntKind.wrap IntKind.i64 (IntKind.wrap IntKind.i64 ((2 : Int) * s) + (1 : Int)))])
 h fun (v : Value) (h : Array Obj) ↦
 ∃ (b : Bool),
 v = TV.val (TV.bool b) ∧
 If b (J (IntKind.wrap IntKind.i64 (IntKind.wrap IntKind.i64 (IntKind.wrap IntKind.i64 ((2 : Int) * s) + (1 : Int)) + (1 : Int))) h)
 (J (IntKind.wrap IntKind.i64 (IntKind.wrap IntKind.i64 ((2 : Int) * s) + (1 : Int))) h))
 (J (IntKind.wrap IntKind.i64 (IntKind.wrap IntKind.i64 ((2 : Int) * s) + (1 : Int))) h))
 fun (J : PUnit → Array Obj → Prop) ↦
 If (decide (n ≤ IntKind.wrap IntKind.i64 (IntKind.wrap IntKind.i64 ((2 : Int) * s) + (1 : Int)))) (R (TV.val (TV.bool (decide (i0 < s)))) h)
 (If (decide (IntKind.wrap IntKind.i64 (IntKind.wrap IntKind.i64 ((2 : Int) * s) + (1 : Int)) < (0 : Int))) (R (TV.val (TV.bool (decide (i0 < s)))) h)
 (J PUnit.unit h))

theorem container_heap_down_calls (h_ : Vc.One) (i0 : Int) (n : Int) (h : Heap) (R : Value → Heap → Prop) (H : container_heap_down_vc h_ i0 n h R) : CallsH Tryz.prog 96 (TVs.vals [TV.one h_, TV.int IntKind.i64 i0, TV.int IntKind.i64 n]) h R :=
 vcFn_sound (C := ctx) ctx_ok (fn := Tryz.f96) Tryz.func96 ((by kernel_rfl : container_heap_down_vc h_ i0 n h R = vcFn ctx Tryz.f96 [TV.one h_, TV.int IntKind.i64 i0, TV.int IntKind.i64 n] h R) ▸ H)


def container_heap_Push_vc (h_ : Vc.One) (x : Vc.One) (h : Heap) (R : Value → Heap → Prop) : Prop :=
 ∃ (t : Nat),
 ∃ (x_1 : Value),
 ∃ (f : Nat),
 ∃ (rv : Value),
 h_.v = Value.iface t x_1 ∧
 MethodAt Tryz.prog h t x_1 "Push" f rv ∧
 CallsH Tryz.prog f (rv :: TVs.vals [TV.one x]) h fun (v : Value) (h : Heap) ↦
 v = TV.val (TV.tup []) ∧
 ∃ (t : Nat),
 ∃ (x : Value),
 ∃ (f : Nat),
 ∃ (rv : Value),
 h_.v = Value.iface t x ∧
 MethodAt Tryz.prog h t x "Len" f rv ∧
 CallsH Tryz.prog f (rv :: TVs.vals []) h fun (v : Value) (h : Heap) ↦
 ∃ (n : Int),
 v = TV.val (TV.int IntKind.i64 n) ∧
 CallsH Tryz.prog (94 : Nat) (TVs.vals [TV.one h_, TV.int IntKind.i64 (IntKind.wrap IntKind.i64 (n - (1 : Int)))]) h
 fun (v : Value) (h : Heap) ↦ v = TV.val (TV.tup []) ∧ R (TV.val (TV.tup [])) h

theorem container_heap_Push_calls (h_ : Vc.One) (x : Vc.One) (h : Heap) (R : Value → Heap → Prop) (H : container_heap_Push_vc h_ x h R) : CallsH Tryz.prog 68 (TVs.vals [TV.one h_, TV.one x]) h R :=
 vcFn_sound (C := ctx) ctx_ok (fn := Tryz.f68) Tryz.func68 ((by kernel_rfl : container_heap_Push_vc h_ x h R = vcFn ctx Tryz.f68 [TV.one h_, TV.one x] h R) ▸ H)


def container_heap_Fix_vc (h_ : Vc.One) (i : Int) (h : Heap) (R : Value → Heap → Prop) : Prop :=
 ∃ (t : Nat),
 ∃ (x : Value),
 ∃ (f : Nat),
 ∃ (rv : Value),
 h_.v = Value.iface t x ∧
 MethodAt Tryz.prog h t x "Len" f rv ∧
 CallsH Tryz.prog f (rv :: TVs.vals []) h fun (v : Value) (h : Heap) ↦
 ∃ (n : Int),
 v = TV.val (TV.int IntKind.i64 n) ∧
 CallsH Tryz.prog (96 : Nat) (TVs.vals [TV.one h_, TV.int IntKind.i64 i, TV.int IntKind.i64 n]) h fun (v : Value) (h : Heap) ↦
 ∃ (b : Bool),
 v = TV.val (TV.bool b) ∧
 If (!b)
 (CallsH Tryz.prog (94 : Nat) (TVs.vals [TV.one h_, TV.int IntKind.i64 i]) h fun (v : Value) (h : Heap) ↦
 v = TV.val (TV.tup []) ∧ R (TV.val (TV.tup [])) h)
 (R (TV.val (TV.tup [])) h)

theorem container_heap_Fix_calls (h_ : Vc.One) (i : Int) (h : Heap) (R : Value → Heap → Prop) (H : container_heap_Fix_vc h_ i h R) : CallsH Tryz.prog 70 (TVs.vals [TV.one h_, TV.int IntKind.i64 i]) h R :=
 vcFn_sound (C := ctx) ctx_ok (fn := Tryz.f70) Tryz.func70 ((by kernel_rfl : container_heap_Fix_vc h_ i h R = vcFn ctx Tryz.f70 [TV.one h_, TV.int IntKind.i64 i] h R) ▸ H)


def container_heap_Init_vc (h_ : Vc.One) (h : Heap) (R : Value → Heap → Prop) : Prop :=
 ∃ (t : Nat),
 ∃ (x : Value),
 ∃ (f : Nat),
 ∃ (rv : Value),
 h_.v = Value.iface t x ∧
 MethodAt Tryz.prog h t x "Len" f rv ∧
 CallsH Tryz.prog f (rv :: TVs.vals []) h fun (v : Value) (h : Heap) ↦
 ∃ (n : Int),
 v = TV.val (TV.int IntKind.i64 n) ∧
 (2 : Int) ≠ (0 : Int) ∧
 Go.Vc.Loop (IntKind.wrap IntKind.i64 (IntKind.wrap IntKind.i64 (Int.tdiv n (2 : Int)) - (1 : Int))) h
 fun (s : Int) (h : Array Obj) (K : Int → Array Obj → Prop) ↦
 If (decide ((0 : Int) ≤ s))
 (CallsH Tryz.prog (96 : Nat) (TVs.vals [TV.one h_, TV.int IntKind.i64 s, TV.int IntKind.i64 n]) h fun (v : Value) (h : Array Obj) ↦
 ∃ (b : Bool), v = TV.val (TV.bool b) ∧ K (IntKind.wrap IntKind.i64 (s - (1 : Int))) h)
 (R (TV.val (TV.tup [])) h)

theorem container_heap_Init_calls (h_ : Vc.One) (h : Heap) (R : Value → Heap → Prop) (H : container_heap_Init_vc h_ h R) : CallsH Tryz.prog 73 (TVs.vals [TV.one h_]) h R :=
 vcFn_sound (C := ctx) ctx_ok (fn := Tryz.f73) Tryz.func73 ((by kernel_rfl : container_heap_Init_vc h_ h R = vcFn ctx Tryz.f73 [TV.one h_] h R) ▸ H)


def pool_Pool_All_1_vc (a_Slot : Int) (a_Root : Bs (32 : Nat)) (a_Peer : Int) (a_For : Bs (32 : Nat)) (a_Text : List UInt8) (b_Slot : Int) (b_Root : Bs (32 : Nat)) (b_Peer : Int) (b_For : Bs (32 : Nat)) (b_Text : List UInt8) (h : Heap) (R : Value → Heap → Prop) : Prop :=
 Vc.Bind
 (newTV h (TV.agg [TV.int IntKind.i64 a_Slot, TV.bytes (32 : Nat) a_Root, TV.int IntKind.i64 a_Peer, TV.bytes (32 : Nat) a_For, TV.str a_Text]) (83 : Nat))
 fun (h_1 : Array Obj) ↦
 Vc.Bind
 (newTV h_1 (TV.agg [TV.int IntKind.i64 b_Slot, TV.bytes (32 : Nat) b_Root, TV.int IntKind.i64 b_Peer, TV.bytes (32 : Nat) b_For, TV.str b_Text]) (83 : Nat))
 fun (h_2 : Array Obj) ↦
 ∃ (n : Int),
 ∃ (b : Bs (32 : Nat)),
 ∃ (n_1 : Int),
 ∃ (b_1 : Bs (32 : Nat)),
 ∃ (s : List UInt8),
 (at1 h_2 (Array.size h) (0 : Nat) (Value.int IntKind.i64 n) ∧
 atBytes h_2 (Array.size h) (1 : Nat) (32 : Nat) b ∧
 at1 h_2 (Array.size h) (33 : Nat) (Value.int IntKind.i64 n_1) ∧
 atBytes h_2 (Array.size h) (34 : Nat) (32 : Nat) b_1 ∧ at1 h_2 (Array.size h) (66 : Nat) (Value.string (ByteArray.mk (List.toArray s)))) ∧
 ∃ (n_2 : Int),
 ∃ (b_2 : Bs (32 : Nat)),
 ∃ (n_3 : Int),
 ∃ (b_3 : Bs (32 : Nat)),
 ∃ (s_1 : List UInt8),
 (at1 h_2 (Array.size h_1) (0 : Nat) (Value.int IntKind.i64 n_2) ∧
 atBytes h_2 (Array.size h_1) (1 : Nat) (32 : Nat) b_2 ∧
 at1 h_2 (Array.size h_1) (33 : Nat) (Value.int IntKind.i64 n_3) ∧
 atBytes h_2 (Array.size h_1) (34 : Nat) (32 : Nat) b_3 ∧
 at1 h_2 (Array.size h_1) (66 : Nat) (Value.string (ByteArray.mk (List.toArray s_1)))) ∧
 CallsH Tryz.prog (69 : Nat)
 (TVs.vals
 [TV.agg [TV.int IntKind.i64 n, TV.bytes (32 : Nat) b, TV.int IntKind.i64 n_1, TV.bytes (32 : Nat) b_1, TV.str s],
 TV.agg [TV.int IntKind.i64 n_2, TV.bytes (32 : Nat) b_2, TV.int IntKind.i64 n_3, TV.bytes (32 : Nat) b_3, TV.str s_1]])
 h_2 fun (v : Value) (h_3 : Array Obj) ↦
 ∃ (b : Bool),
 v = TV.val (TV.bool b) ∧
 If b (R (TV.val (TV.int IntKind.i64 (-1 : Int))) h_3)
 (∃ (n : Int),
 ∃ (b : Bs (32 : Nat)),
 ∃ (n_4 : Int),
 ∃ (b_4 : Bs (32 : Nat)),
 ∃ (s : List UInt8),
 (at1 h_3 (Array.size h_1) (0 : Nat) (Value.int IntKind.i64 n) ∧
 atBytes h_3 (Array.size h_1) (1 : Nat) (32 : Nat) b ∧
 at1 h_3 (Array.size h_1) (33 : Nat) (Value.int IntKind.i64 n_4) ∧
 atBytes h_3 (Array.size h_1) (34 : Nat) (32 : Nat) b_4 ∧
 at1 h_3 (Array.size h_1) (66 : Nat) (Value.string (ByteArray.mk (List.toArray s)))) ∧
 ∃ (n_5 : Int),
 ∃ (b_5 : Bs (32 : Nat)),
 ∃ (n_6 : Int),
 ∃ (b_6 : Bs (32 : Nat)),
 ∃ (s_2 : List UInt8),
 (at1 h_3 (Array.size h) (0 : Nat) (Value.int IntKind.i64 n_5) ∧
 atBytes h_3 (Array.size h) (1 : Nat) (32 : Nat) b_5 ∧
 at1 h_3 (Array.size h) (33 : Nat) (Value.int IntKind.i64 n_6) ∧
 atBytes h_3 (Array.size h) (34 : Nat) (32 : Nat) b_6 ∧
 at1 h_3 (Array.size h) (66 : Nat) (Value.string (ByteArray.mk (List.toArray s_2)))) ∧
 CallsH Tryz.prog (69 : Nat)
 (TVs.vals
 [TV.agg
 [TV.int IntKind.i64 n, TV.bytes (32 : Nat) b, TV.int IntKind.i64 n_4,
 TV.bytes (32 : Nat) b_4, TV.str s],
 TV.agg
 [TV.int IntKind.i64 n_5, TV.bytes (32 : Nat) b_5, TV.int IntKind.i64 n_6,
 TV.bytes (32 : Nat) b_6, TV.str s_2]])
 h_3 fun (v : Value) (h : Array Obj) ↦
 ∃ (b : Bool),
 v = TV.val (TV.bool b) ∧
 If b (R (TV.val (TV.int IntKind.i64 (1 : Int))) h)
 (R (TV.val (TV.int IntKind.i64 (0 : Int))) h))

theorem pool_Pool_All_1_calls (a_Slot : Int) (a_Root : Bs (32 : Nat)) (a_Peer : Int) (a_For : Bs (32 : Nat)) (a_Text : List UInt8) (b_Slot : Int) (b_Root : Bs (32 : Nat)) (b_Peer : Int) (b_For : Bs (32 : Nat)) (b_Text : List UInt8) (h : Heap) (R : Value → Heap → Prop) (H : pool_Pool_All_1_vc a_Slot a_Root a_Peer a_For a_Text b_Slot b_Root b_Peer b_For b_Text h R) : CallsH Tryz.prog 91 (TVs.vals [TV.agg [TV.int IntKind.i64 a_Slot, TV.bytes (32 : Nat) a_Root, TV.int IntKind.i64 a_Peer, TV.bytes (32 : Nat) a_For, TV.str a_Text], TV.agg [TV.int IntKind.i64 b_Slot, TV.bytes (32 : Nat) b_Root, TV.int IntKind.i64 b_Peer, TV.bytes (32 : Nat) b_For, TV.str b_Text]]) h R :=
 vcFn_sound (C := ctx) ctx_ok (fn := Tryz.f91) Tryz.func91 ((by kernel_rfl : pool_Pool_All_1_vc a_Slot a_Root a_Peer a_For a_Text b_Slot b_Root b_Peer b_For b_Text h R = vcFn ctx Tryz.f91 [TV.agg [TV.int IntKind.i64 a_Slot, TV.bytes (32 : Nat) a_Root, TV.int IntKind.i64 a_Peer, TV.bytes (32 : Nat) a_For, TV.str a_Text], TV.agg [TV.int IntKind.i64 b_Slot, TV.bytes (32 : Nat) b_Root, TV.int IntKind.i64 b_Peer, TV.bytes (32 : Nat) b_For, TV.str b_Text]] h R) ▸ H)


def slices_Clone___pool_Item_pool_Item__vc (s_ : Sl) (h : Heap) (R : Value → Heap → Prop) : Prop :=
 If (Option.isNone s_.a) (R (TV.val (TV.slice Sl.nil)) h)
 (∃ (new : List Value),
 slAt (Array.push h (row (TVs.cells []) (83 : Nat))) s_ (67 : Nat) new ∧
 (∀ (v : Value), v ∈ new → isOne v = true) ∧
 vcAppend YtldocdpdjdekiaaGreat.ctx (83 : Nat) (Sl.mk (some (Loc.mk (Array.size h) (0 : Nat))) (0 : Nat) (0 : Nat)) s_.len new
 (Array.push h (row (TVs.cells []) (83 : Nat))) fun (s : Sl) (h : Array Obj) ↦ R (TV.val (TV.slice s)) h)

theorem slices_Clone___pool_Item_pool_Item__calls (s_ : Sl) (h : Heap) (R : Value → Heap → Prop) (H : slices_Clone___pool_Item_pool_Item__vc s_ h R) : CallsH Tryz.prog 89 (TVs.vals [TV.slice s_]) h R :=
 vcFn_sound (C := ctx) ctx_ok (fn := Tryz.f89) Tryz.func89 ((by kernel_rfl : slices_Clone___pool_Item_pool_Item__vc s_ h R = vcFn ctx Tryz.f89 [TV.slice s_] h R) ▸ H)


def pool_Pool_All_vc (p : Option Go.Vc.Loc) (h : Heap) (R : Value → Heap → Prop) : Prop :=
 If (Option.isNone p) (R (TV.val (TV.slice Sl.nil)) h)
 (Nn p fun (l : Go.Vc.Loc) ↦
 ∃ (s : Sl),
 at1 h l.b l.o (slVal s) ∧
 CallsH Tryz.prog (89 : Nat) (TVs.vals [TV.slice s]) h fun (v : Value) (h : Heap) ↦
 ∃ (s : Sl),
 v = TV.val (TV.slice s) ∧
 CallsH Tryz.prog (90 : Nat) (TVs.vals [TV.slice s, TV.fn (Fn.func (91 : Nat)) [] []]) h fun (v : Value) (h : Heap) ↦
 v = TV.val (TV.tup []) ∧ R (TV.val (TV.slice s)) h)

theorem pool_Pool_All_calls (p : Option Go.Vc.Loc) (h : Heap) (R : Value → Heap → Prop) (H : pool_Pool_All_vc p h R) : CallsH Tryz.prog 59 (TVs.vals [TV.ptr p]) h R :=
 vcFn_sound (C := ctx) ctx_ok (fn := Tryz.f59) Tryz.func59 ((by kernel_rfl : pool_Pool_All_vc p h R = vcFn ctx Tryz.f59 [TV.ptr p] h R) ▸ H)


def slices_IndexFunc_pool_last_pool_Item__vc (s_ : Sl) (f : Vc.One) (h : Heap) (R : Value → Heap → Prop) : Prop :=
 Go.Vc.Loop ((0 : Int), (0 : Int)) h fun (s : Int × Int) (h : Array Obj) (K : Int × Int → Array Obj → Prop) ↦
 If (decide (s.snd < (↑s_.len : Int)))
 ((0 : Int) ≤ s.snd ∧
 s.snd < (↑s_.len : Int) ∧
 Nn s_.a fun (l : Go.Vc.Loc) ↦
 ∃ (n : Int),
 ∃ (b : Bs (32 : Nat)),
 ∃ (n_1 : Int),
 ∃ (b_1 : Bs (32 : Nat)),
 ∃ (s_1 : List UInt8),
 (at1 h l.b (l.o + Int.toNat s.snd * (67 : Nat)) (Value.int IntKind.i64 n) ∧
 atBytes h l.b (l.o + Int.toNat s.snd * (67 : Nat) + (1 : Nat)) (32 : Nat) b ∧
 at1 h l.b (l.o + Int.toNat s.snd * (67 : Nat) + (1 : Nat) + (32 : Nat)) (Value.int IntKind.i64 n_1) ∧
 atBytes h l.b (l.o + Int.toNat s.snd * (67 : Nat) + (1 : Nat) + (32 : Nat) + (1 : Nat)) (32 : Nat) b_1 ∧
 at1 h l.b (l.o + Int.toNat s.snd * (67 : Nat) + (1 : Nat) + (32 : Nat) + (1 : Nat) + (32 : Nat))
 (Value.string (ByteArray.mk (List.toArray s_1)))) ∧
 ∃ (g : Nat),
 ∃ (first : Array Value),
 ∃ (cap : Array Value),
 f.v = Value.func (Fn.func g) first cap ∧
 EntP Tryz.prog g ∧
 CallsH Tryz.prog g
 (first.toList ++
 TVs.vals
 [TV.agg [TV.int IntKind.i64 n, TV.bytes (32 : Nat) b, TV.int IntKind.i64 n_1, TV.bytes (32 : Nat) b_1, TV.str s_1]] ++
 cap.toList)
 h fun (v : Value) (h : Array Obj) ↦
 ∃ (b : Bool),
 v = TV.val (TV.bool b) ∧
 If b (R (TV.val (TV.int IntKind.i64 s.snd)) h) (K (s.fst, IntKind.wrap IntKind.i64 (s.snd + (1 : Int))) h))
 (R (TV.val (TV.int IntKind.i64 (-1 : Int))) h)

theorem slices_IndexFunc_pool_last_pool_Item__calls (s_ : Sl) (f : Vc.One) (h : Heap) (R : Value → Heap → Prop) (H : slices_IndexFunc_pool_last_pool_Item__vc s_ f h R) : CallsH Tryz.prog 102 (TVs.vals [TV.slice s_, TV.one f]) h R :=
 vcFn_sound (C := ctx) ctx_ok (fn := Tryz.f102) Tryz.func102 ((by kernel_rfl : slices_IndexFunc_pool_last_pool_Item__vc s_ f h R = vcFn ctx Tryz.f102 [TV.slice s_, TV.one f] h R) ▸ H)


def slices_ContainsFunc_pool_last_pool_Item__vc (s_ : Sl) (f : Vc.One) (h : Heap) (R : Value → Heap → Prop) : Prop :=
 CallsH Tryz.prog (102 : Nat) (TVs.vals [TV.slice s_, TV.one f]) h fun (v : Value) (h : Heap) ↦
 ∃ (n : Int), v = TV.val (TV.int IntKind.i64 n) ∧ R (TV.val (TV.bool (decide ((0 : Int) ≤ n)))) h

theorem slices_ContainsFunc_pool_last_pool_Item__calls (s_ : Sl) (f : Vc.One) (h : Heap) (R : Value → Heap → Prop) (H : slices_ContainsFunc_pool_last_pool_Item__vc s_ f h R) : CallsH Tryz.prog 74 (TVs.vals [TV.slice s_, TV.one f]) h R :=
 vcFn_sound (C := ctx) ctx_ok (fn := Tryz.f74) Tryz.func74 ((by kernel_rfl : slices_ContainsFunc_pool_last_pool_Item__vc s_ f h R = vcFn ctx Tryz.f74 [TV.slice s_, TV.one f] h R) ▸ H)


def pool_Pool_Has_1_vc (x_Slot : Int) (x_Root : Bs (32 : Nat)) (x_Peer : Int) (x_For : Bs (32 : Nat)) (x_Text : List UInt8) (p : Option Go.Vc.Loc) (h : Heap) (R : Value → Heap → Prop) : Prop :=
 Vc.Bind
 (newTV h (TV.agg [TV.int IntKind.i64 x_Slot, TV.bytes (32 : Nat) x_Root, TV.int IntKind.i64 x_Peer, TV.bytes (32 : Nat) x_For, TV.str x_Text]) (83 : Nat))
 fun (h_1 : Array Obj) ↦
 ∃ (b : Bs (32 : Nat)),
 atBytes h_1 (Array.size h) (1 : Nat) (32 : Nat) b ∧
 Nn p fun (l : Go.Vc.Loc) ↦ ∃ (b_1 : Bs (32 : Nat)), atBytes h_1 l.b l.o (32 : Nat) b_1 ∧ R (TV.val (TV.bool (decide (b.l = b_1.l)))) h_1

theorem pool_Pool_Has_1_calls (x_Slot : Int) (x_Root : Bs (32 : Nat)) (x_Peer : Int) (x_For : Bs (32 : Nat)) (x_Text : List UInt8) (p : Option Go.Vc.Loc) (h : Heap) (R : Value → Heap → Prop) (H : pool_Pool_Has_1_vc x_Slot x_Root x_Peer x_For x_Text p h R) : CallsH Tryz.prog 75 (TVs.vals [TV.agg [TV.int IntKind.i64 x_Slot, TV.bytes (32 : Nat) x_Root, TV.int IntKind.i64 x_Peer, TV.bytes (32 : Nat) x_For, TV.str x_Text], TV.ptr p]) h R :=
 vcFn_sound (C := ctx) ctx_ok (fn := Tryz.f75) Tryz.func75 ((by kernel_rfl : pool_Pool_Has_1_vc x_Slot x_Root x_Peer x_For x_Text p h R = vcFn ctx Tryz.f75 [TV.agg [TV.int IntKind.i64 x_Slot, TV.bytes (32 : Nat) x_Root, TV.int IntKind.i64 x_Peer, TV.bytes (32 : Nat) x_For, TV.str x_Text], TV.ptr p] h R) ▸ H)


def pool_Pool_Has_vc (p : Option Go.Vc.Loc) (root : Bs (32 : Nat)) (h : Heap) (R : Value → Heap → Prop) : Prop :=
 Vc.Bind (newTV h (TV.bytes (32 : Nat) root) (24 : Nat)) fun (h_1 : Array Obj) ↦
 If (!Option.isNone p)
 (Nn p fun (l : Go.Vc.Loc) ↦
 ∃ (s : Sl),
 at1 h_1 l.b l.o (slVal s) ∧
 CallsH Tryz.prog (74 : Nat) (TVs.vals [TV.slice s, TV.fn (Fn.func (75 : Nat)) [] [TV.ptr (some (Loc.mk (Array.size h) (0 : Nat)))]]) h_1
 fun (v : Value) (h : Array Obj) ↦ ∃ (b : Bool), v = TV.val (TV.bool b) ∧ R (TV.val (TV.bool b)) h)
 (R (TV.val (TV.bool false)) h_1)

theorem pool_Pool_Has_calls (p : Option Go.Vc.Loc) (root : Bs (32 : Nat)) (h : Heap) (R : Value → Heap → Prop) (H : pool_Pool_Has_vc p root h R) : CallsH Tryz.prog 44 (TVs.vals [TV.ptr p, TV.bytes (32 : Nat) root]) h R :=
 vcFn_sound (C := ctx) ctx_ok (fn := Tryz.f44) Tryz.func44 ((by kernel_rfl : pool_Pool_Has_vc p root h R = vcFn ctx Tryz.f44 [TV.ptr p, TV.bytes (32 : Nat) root] h R) ▸ H)


def pool_Pool_Len_vc (p : Option Go.Vc.Loc) (h : Heap) (R : Value → Heap → Prop) : Prop :=
 If (Option.isNone p) (R (TV.val (TV.int IntKind.i64 (0 : Int))) h)
 (Nn p fun (l : Go.Vc.Loc) ↦
 ∃ (s : Sl),
 at1 h l.b l.o (slVal s) ∧
 CallsH Tryz.prog (76 : Nat) (TVs.vals [TV.slice s]) h fun (v : Value) (h : Heap) ↦
 ∃ (n : Int), v = TV.val (TV.int IntKind.i64 n) ∧ R (TV.val (TV.int IntKind.i64 n)) h)

theorem pool_Pool_Len_calls (p : Option Go.Vc.Loc) (h : Heap) (R : Value → Heap → Prop) (H : pool_Pool_Len_vc p h R) : CallsH Tryz.prog 45 (TVs.vals [TV.ptr p]) h R :=
 vcFn_sound (C := ctx) ctx_ok (fn := Tryz.f45) Tryz.func45 ((by kernel_rfl : pool_Pool_Len_vc p h R = vcFn ctx Tryz.f45 [TV.ptr p] h R) ▸ H)


def pool_Pool_Of_vc (p : Option Go.Vc.Loc) (peer : Int) (h : Heap) (R : Value → Heap → Prop) : Prop :=
 CallsH Tryz.prog (59 : Nat) (TVs.vals [TV.ptr p]) h fun (v : Value) (h : Heap) ↦
 ∃ (s : Sl),
 v = TV.val (TV.slice s) ∧
 Go.Vc.Loop ((0 : Int), (0 : Int)) h fun (s_1 : Int × Int) (h : Array Obj) (K : Int × Int → Array Obj → Prop) ↦
 If (decide (s_1.snd < (↑s.len : Int)))
 ((0 : Int) ≤ s_1.snd ∧
 s_1.snd < (↑s.len : Int) ∧
 Nn s.a fun (l : Go.Vc.Loc) ↦
 ∃ (n : Int),
 ∃ (b : Bs (32 : Nat)),
 ∃ (n_1 : Int),
 ∃ (b_1 : Bs (32 : Nat)),
 ∃ (s : List UInt8),
 (at1 h l.b (l.o + Int.toNat s_1.snd * (67 : Nat)) (Value.int IntKind.i64 n) ∧
 atBytes h l.b (l.o + Int.toNat s_1.snd * (67 : Nat) + (1 : Nat)) (32 : Nat) b ∧
 at1 h l.b (l.o + Int.toNat s_1.snd * (67 : Nat) + (1 : Nat) + (32 : Nat)) (Value.int IntKind.i64 n_1) ∧
 atBytes h l.b (l.o + Int.toNat s_1.snd * (67 : Nat) + (1 : Nat) + (32 : Nat) + (1 : Nat)) (32 : Nat) b_1 ∧
 at1 h l.b (l.o + Int.toNat s_1.snd * (67 : Nat) + (1 : Nat) + (32 : Nat) + (1 : Nat) + (32 : Nat))
 (Value.string (ByteArray.mk (List.toArray s)))) ∧
 Vc.Bind
 (newTV h
 (TV.agg
 [TV.int IntKind.i64 (0 : Int), TV.bytes (32 : Nat) (Bs.zero (32 : Nat)), TV.int IntKind.i64 (0 : Int),
 TV.bytes (32 : Nat) (Bs.zero (32 : Nat)), TV.str []])
 (83 : Nat))
 fun (h_1 : Array Obj) ↦
 wok h_1 (Array.size h) (0 : Nat) (67 : Nat) ∧
 Vc.Bind
 (TV.put h_1 (Array.size h) (0 : Nat)
 (TV.agg [TV.int IntKind.i64 n, TV.bytes (32 : Nat) b, TV.int IntKind.i64 n_1, TV.bytes (32 : Nat) b_1, TV.str s]))
 fun (h_2 : Array Obj) ↦
 ∃ (n : Int),
 at1 h_2 (Array.size h) (33 : Nat) (Value.int IntKind.i64 n) ∧
 If (decide (n = peer))
 (K (IntKind.wrap IntKind.i64 (s_1.fst + (1 : Int)), IntKind.wrap IntKind.i64 (s_1.snd + (1 : Int))) h_2)
 (K (s_1.fst, IntKind.wrap IntKind.i64 (s_1.snd + (1 : Int))) h_2))
 (R (TV.val (TV.int IntKind.i64 s_1.fst)) h)

theorem pool_Pool_Of_calls (p : Option Go.Vc.Loc) (peer : Int) (h : Heap) (R : Value → Heap → Prop) (H : pool_Pool_Of_vc p peer h R) : CallsH Tryz.prog 67 (TVs.vals [TV.ptr p, TV.int IntKind.i64 peer]) h R :=
 vcFn_sound (C := ctx) ctx_ok (fn := Tryz.f67) Tryz.func67 ((by kernel_rfl : pool_Pool_Of_vc p peer h R = vcFn ctx Tryz.f67 [TV.ptr p, TV.int IntKind.i64 peer] h R) ▸ H)


def pool_New_vc (most : Int) (quota : Int) (h : Heap) (R : Value → Heap → Prop) : Prop :=
 If (decide (most < (1 : Int))) (R (TV.val (TV.ptr none)) h)
 (If (decide ((64 : Int) < most)) (R (TV.val (TV.ptr none)) h)
 (If (decide (quota < (1 : Int))) (R (TV.val (TV.ptr none)) h)
 (If (decide ((64 : Int) < quota)) (R (TV.val (TV.ptr none)) h)
 (Vc.Bind (newTV h (TV.agg [TV.slice Sl.nil, TV.int IntKind.i64 most, TV.int IntKind.i64 quota]) (114 : Nat)) fun (h_1 : Array Obj) ↦
 R (TV.val (TV.ptr (some (Loc.mk (Array.size h) (0 : Nat))))) h_1))))

theorem pool_New_calls (most : Int) (quota : Int) (h : Heap) (R : Value → Heap → Prop) (H : pool_New_vc most quota h R) : CallsH Tryz.prog 46 (TVs.vals [TV.int IntKind.i64 most, TV.int IntKind.i64 quota]) h R :=
 vcFn_sound (C := ctx) ctx_ok (fn := Tryz.f46) Tryz.func46 ((by kernel_rfl : pool_New_vc most quota h R = vcFn ctx Tryz.f46 [TV.int IntKind.i64 most, TV.int IntKind.i64 quota] h R) ▸ H)


def pool_Pool_Put_vc (p : Option Go.Vc.Loc) (x_Slot : Int) (x_Root : Bs (32 : Nat)) (x_Peer : Int) (x_For : Bs (32 : Nat)) (x_Text : List UInt8) (h : Heap) (R : Value → Heap → Prop) : Prop :=
 Vc.Bind
 (newTV h (TV.agg [TV.int IntKind.i64 x_Slot, TV.bytes (32 : Nat) x_Root, TV.int IntKind.i64 x_Peer, TV.bytes (32 : Nat) x_For, TV.str x_Text]) (83 : Nat))
 fun (h_1 : Array Obj) ↦
 Vc.Bind
 (newTV h_1
 (TV.agg
 [TV.int IntKind.i64 (0 : Int), TV.bytes (32 : Nat) (Bs.zero (32 : Nat)), TV.int IntKind.i64 (0 : Int), TV.bytes (32 : Nat) (Bs.zero (32 : Nat)),
 TV.str []])
 (83 : Nat))
 fun (h_2 : Array Obj) ↦
 If (Option.isNone p)
 (wok h_2 (Array.size h_1) (0 : Nat) (67 : Nat) ∧
 Vc.Bind
 (TV.put h_2 (Array.size h_1) (0 : Nat)
 (TV.agg
 [TV.int IntKind.i64 (0 : Int), TV.bytes (32 : Nat) (Bs.zero (32 : Nat)), TV.int IntKind.i64 (0 : Int), TV.bytes (32 : Nat) (Bs.zero (32 : Nat)),
 TV.str []]))
 fun (h : Array Obj) ↦
 ∃ (n : Int),
 ∃ (b : Bs (32 : Nat)),
 ∃ (n_1 : Int),
 ∃ (b_1 : Bs (32 : Nat)),
 ∃ (s : List UInt8),
 (at1 h (Array.size h_1) (0 : Nat) (Value.int IntKind.i64 n) ∧
 atBytes h (Array.size h_1) (1 : Nat) (32 : Nat) b ∧
 at1 h (Array.size h_1) (33 : Nat) (Value.int IntKind.i64 n_1) ∧
 atBytes h (Array.size h_1) (34 : Nat) (32 : Nat) b_1 ∧
 at1 h (Array.size h_1) (66 : Nat) (Value.string (ByteArray.mk (List.toArray s)))) ∧
 R
 (TV.val
 (TV.tup
 [TV.int IntKind.i64 (12 : Int),
 TV.agg [TV.int IntKind.i64 n, TV.bytes (32 : Nat) b, TV.int IntKind.i64 n_1, TV.bytes (32 : Nat) b_1, TV.str s]]))
 h)
 (∃ (b : Bs (32 : Nat)),
 atBytes h_2 (Array.size h) (1 : Nat) (32 : Nat) b ∧
 CallsH Tryz.prog (44 : Nat) (TVs.vals [TV.ptr p, TV.bytes (32 : Nat) b]) h_2 fun (v : Value) (h_3 : Array Obj) ↦
 ∃ (b : Bool),
 v = TV.val (TV.bool b) ∧
 If b
 (wok h_3 (Array.size h_1) (0 : Nat) (67 : Nat) ∧
 Vc.Bind
 (TV.put h_3 (Array.size h_1) (0 : Nat)
 (TV.agg
 [TV.int IntKind.i64 (0 : Int), TV.bytes (32 : Nat) (Bs.zero (32 : Nat)), TV.int IntKind.i64 (0 : Int),
 TV.bytes (32 : Nat) (Bs.zero (32 : Nat)), TV.str []]))
 fun (h : Array Obj) ↦
 ∃ (n : Int),
 ∃ (b : Bs (32 : Nat)),
 ∃ (n_1 : Int),
 ∃ (b_1 : Bs (32 : Nat)),
 ∃ (s : List UInt8),
 (at1 h (Array.size h_1) (0 : Nat) (Value.int IntKind.i64 n) ∧
 atBytes h (Array.size h_1) (1 : Nat) (32 : Nat) b ∧
 at1 h (Array.size h_1) (33 : Nat) (Value.int IntKind.i64 n_1) ∧
 atBytes h (Array.size h_1) (34 : Nat) (32 : Nat) b_1 ∧
 at1 h (Array.size h_1) (66 : Nat) (Value.string (ByteArray.mk (List.toArray s)))) ∧
 R
 (TV.val
 (TV.tup
 [TV.int IntKind.i64 (9 : Int),
 TV.agg [TV.int IntKind.i64 n, TV.bytes (32 : Nat) b, TV.int IntKind.i64 n_1, TV.bytes (32 : Nat) b_1, TV.str s]]))
 h)
 (∃ (n : Int),
 at1 h_3 (Array.size h) (33 : Nat) (Value.int IntKind.i64 n) ∧
 Nn p fun (l : Go.Vc.Loc) ↦
 ∃ (n_1 : Int),
 at1 h_3 l.b (l.o + (2 : Nat)) (Value.int IntKind.i64 n_1) ∧
 CallsH Tryz.prog (67 : Nat) (TVs.vals [TV.ptr p, TV.int IntKind.i64 n]) h_3 fun (v : Value) (h_4 : Array Obj) ↦
 ∃ (n : Int),
 v = TV.val (TV.int IntKind.i64 n) ∧
 Ext h_3 h_4 ∧
 If (decide (n_1 ≤ n))
 (wok h_4 (Array.size h_1) (0 : Nat) (67 : Nat) ∧
 Vc.Bind
 (TV.put h_4 (Array.size h_1) (0 : Nat)
 (TV.agg
 [TV.int IntKind.i64 (0 : Int), TV.bytes (32 : Nat) (Bs.zero (32 : Nat)), TV.int IntKind.i64 (0 : Int),
 TV.bytes (32 : Nat) (Bs.zero (32 : Nat)), TV.str []]))
 fun (h : Array Obj) ↦
 ∃ (n : Int),
 ∃ (b : Bs (32 : Nat)),
 ∃ (n_2 : Int),
 ∃ (b_1 : Bs (32 : Nat)),
 ∃ (s : List UInt8),
 (at1 h (Array.size h_1) (0 : Nat) (Value.int IntKind.i64 n) ∧
 atBytes h (Array.size h_1) (1 : Nat) (32 : Nat) b ∧
 at1 h (Array.size h_1) (33 : Nat) (Value.int IntKind.i64 n_2) ∧
 atBytes h (Array.size h_1) (34 : Nat) (32 : Nat) b_1 ∧
 at1 h (Array.size h_1) (66 : Nat) (Value.string (ByteArray.mk (List.toArray s)))) ∧
 R
 (TV.val
 (TV.tup
 [TV.int IntKind.i64 (11 : Int),
 TV.agg
 [TV.int IntKind.i64 n, TV.bytes (32 : Nat) b, TV.int IntKind.i64 n_2, TV.bytes (32 : Nat) b_1,
 TV.str s]]))
 h)
 (Nn p fun (l : Go.Vc.Loc) ↦
 ∃ (n : Int),
 at1 h_4 l.b (l.o + (1 : Nat)) (Value.int IntKind.i64 n) ∧
 CallsH Tryz.prog (45 : Nat) (TVs.vals [TV.ptr p]) h_4 fun (v : Value) (h_5 : Array Obj) ↦
 ∃ (n_2 : Int),
 v = TV.val (TV.int IntKind.i64 n_2) ∧
 Ext h_4 h_5 ∧
 If (decide (n_2 < n))
 (Nn p fun (l : Go.Vc.Loc) ↦
 ∃ (n : Int),
 ∃ (b : Bs (32 : Nat)),
 ∃ (n_3 : Int),
 ∃ (b_1 : Bs (32 : Nat)),
 ∃ (s : List UInt8),
 (at1 h_5 (Array.size h) (0 : Nat) (Value.int IntKind.i64 n) ∧
 atBytes h_5 (Array.size h) (1 : Nat) (32 : Nat) b ∧
 at1 h_5 (Array.size h) (33 : Nat) (Value.int IntKind.i64 n_3) ∧
 atBytes h_5 (Array.size h) (34 : Nat) (32 : Nat) b_1 ∧
 at1 h_5 (Array.size h) (66 : Nat) (Value.string (ByteArray.mk (List.toArray s)))) ∧
 CallsH Tryz.prog (68 : Nat)
 (TVs.vals
 [TV.one
 (Vc.One.mk (Value.iface (116 : Nat) (TV.val (TV.ptr (some (Loc.mk l.b l.o)))))
 (vcPack._proof_1 (116 : Nat) (TV.ptr (some (Loc.mk l.b l.o))))),
 TV.one
 (Vc.One.mk
 (Value.iface (83 : Nat)
 (TV.val
 (TV.agg
 [TV.int IntKind.i64 n, TV.bytes (32 : Nat) b, TV.int IntKind.i64 n_3,
 TV.bytes (32 : Nat) b_1, TV.str s])))
 (vcPack._proof_1 (83 : Nat)
 (TV.agg
 [TV.int IntKind.i64 n, TV.bytes (32 : Nat) b, TV.int IntKind.i64 n_3,
 TV.bytes (32 : Nat) b_1, TV.str s])))])
 h_5 fun (v : Value) (h : Array Obj) ↦
 v = TV.val (TV.tup []) ∧
 wok h (Array.size h_1) (0 : Nat) (67 : Nat) ∧
 Vc.Bind
 (TV.put h (Array.size h_1) (0 : Nat)
 (TV.agg
 [TV.int IntKind.i64 (0 : Int), TV.bytes (32 : Nat) (Bs.zero (32 : Nat)),
 TV.int IntKind.i64 (0 : Int), TV.bytes (32 : Nat) (Bs.zero (32 : Nat)),
 TV.str []]))
 fun (h : Array Obj) ↦
 ∃ (n : Int),
 ∃ (b : Bs (32 : Nat)),
 ∃ (n_4 : Int),
 ∃ (b_2 : Bs (32 : Nat)),
 ∃ (s : List UInt8),
 (at1 h (Array.size h_1) (0 : Nat) (Value.int IntKind.i64 n) ∧
 atBytes h (Array.size h_1) (1 : Nat) (32 : Nat) b ∧
 at1 h (Array.size h_1) (33 : Nat) (Value.int IntKind.i64 n_4) ∧
 atBytes h (Array.size h_1) (34 : Nat) (32 : Nat) b_2 ∧
 at1 h (Array.size h_1) (66 : Nat)
 (Value.string (ByteArray.mk (List.toArray s)))) ∧
 R
 (TV.val
 (TV.tup
 [TV.int IntKind.i64 (1 : Int),
 TV.agg
 [TV.int IntKind.i64 n, TV.bytes (32 : Nat) b,
 TV.int IntKind.i64 n_4, TV.bytes (32 : Nat) b_2,
 TV.str s]]))
 h)
 (∃ (n : Int),
 ∃ (b : Bs (32 : Nat)),
 ∃ (n_3 : Int),
 ∃ (b_1 : Bs (32 : Nat)),
 ∃ (s : List UInt8),
 (at1 h_5 (Array.size h) (0 : Nat) (Value.int IntKind.i64 n) ∧
 atBytes h_5 (Array.size h) (1 : Nat) (32 : Nat) b ∧
 at1 h_5 (Array.size h) (33 : Nat) (Value.int IntKind.i64 n_3) ∧
 atBytes h_5 (Array.size h) (34 : Nat) (32 : Nat) b_1 ∧
 at1 h_5 (Array.size h) (66 : Nat) (Value.string (ByteArray.mk (List.toArray s)))) ∧
 Nn p fun (l : Go.Vc.Loc) ↦
 ∃ (s_1 : Sl),
 at1 h_5 l.b l.o (slVal s_1) ∧
 (0 : Int) ≤ (0 : Int) ∧
 (0 : Int) < (↑s_1.len : Int) ∧
 Nn s_1.a fun (l : Go.Vc.Loc) ↦
 ∃ (n_4 : Int),
 ∃ (b_2 : Bs (32 : Nat)),
 ∃ (n_5 : Int),
 ∃ (b_3 : Bs (32 : Nat)),
 ∃ (s_2 : List UInt8),
 (at1 h_5 l.b (l.o + Int.toNat (0 : Int) * (67 : Nat))
 (Value.int IntKind.i64 n_4) ∧
 atBytes h_5 l.b (l.o + Int.toNat (0 : Int) * (67 : Nat) + (1 : Nat))
 (32 : Nat) b_2 ∧
 at1 h_5 l.b
 (l.o + Int.toNat (0 : Int) * (67 : Nat) + (1 : Nat) +
 (32 : Nat))
 (Value.int IntKind.i64 n_5) ∧
 atBytes h_5 l.b
 (l.o + Int.toNat (0 : Int) * (67 : Nat) + (1 : Nat) +
 (32 : Nat) +
 (1 : Nat))
 (32 : Nat) b_3 ∧
 at1 h_5 l.b
 (l.o + Int.toNat (0 : Int) * (67 : Nat) + (1 : Nat) +
 (32 : Nat) +
 (1 : Nat) +
 (32 : Nat))
 (Value.string (ByteArray.mk (List.toArray s_2)))) ∧
 CallsH Tryz.prog (69 : Nat)
 (TVs.vals
 [TV.agg
 [TV.int IntKind.i64 n, TV.bytes (32 : Nat) b,
 TV.int IntKind.i64 n_3, TV.bytes (32 : Nat) b_1, TV.str s],
 TV.agg
 [TV.int IntKind.i64 n_4, TV.bytes (32 : Nat) b_2,
 TV.int IntKind.i64 n_5, TV.bytes (32 : Nat) b_3,
 TV.str s_2]])
 h_5 fun (v : Value) (h_6 : Array Obj) ↦
 ∃ (b : Bool),
 v = TV.val (TV.bool b) ∧
 If (!b)
 (wok h_6 (Array.size h_1) (0 : Nat) (67 : Nat) ∧
 Vc.Bind
 (TV.put h_6 (Array.size h_1) (0 : Nat)
 (TV.agg
 [TV.int IntKind.i64 (0 : Int),
 TV.bytes (32 : Nat) (Bs.zero (32 : Nat)),
 TV.int IntKind.i64 (0 : Int),
 TV.bytes (32 : Nat) (Bs.zero (32 : Nat)),
 TV.str []]))
 fun (h : Array Obj) ↦
 ∃ (n : Int),
 ∃ (b : Bs (32 : Nat)),
 ∃ (n_6 : Int),
 ∃ (b_4 : Bs (32 : Nat)),
 ∃ (s : List UInt8),
 (at1 h (Array.size h_1) (0 : Nat)
 (Value.int IntKind.i64 n) ∧
 atBytes h (Array.size h_1) (1 : Nat)
 (32 : Nat) b ∧
 at1 h (Array.size h_1) (33 : Nat)
 (Value.int IntKind.i64 n_6) ∧
 atBytes h (Array.size h_1) (34 : Nat)
 (32 : Nat) b_4 ∧
 at1 h (Array.size h_1) (66 : Nat)
 (Value.string
 (ByteArray.mk
 (List.toArray s)))) ∧
 R
 (TV.val
 (TV.tup
 [TV.int IntKind.i64 (12 : Int),
 TV.agg
 [TV.int IntKind.i64 n,
 TV.bytes (32 : Nat) b,
 TV.int IntKind.i64 n_6,
 TV.bytes (32 : Nat) b_4,
 TV.str s]]))
 h)
 (Nn p fun (l : Go.Vc.Loc) ↦
 ∃ (s : Sl),
 at1 h_6 l.b l.o (slVal s) ∧
 (0 : Int) ≤ (0 : Int) ∧
 (0 : Int) < (↑s.len : Int) ∧
 Nn s.a fun (l : Go.Vc.Loc) ↦
 ∃ (n : Int),
 ∃ (b : Bs (32 : Nat)),
 ∃ (n_6 : Int),
 ∃ (b_4 : Bs (32 : Nat)),
 ∃ (s : List UInt8),
 (at1 h_6 l.b
 (l.o +
 Int.toNat (0 : Int) *
 (67 : Nat))
 (Value.int IntKind.i64 n) ∧
 atBytes h_6 l.b
 (l.o +
 Int.toNat (0 : Int) *
 (67 : Nat) +
 (1 : Nat))
 (32 : Nat) b ∧
 at1 h_6 l.b
 (l.o +
 Int.toNat (0 : Int) *
 (67 : Nat) +
 (1 : Nat) +
 (32 : Nat))
 (Value.int IntKind.i64 n_6) ∧
 atBytes h_6 l.b
 (l.o +
 Int.toNat
 (0 : Int) *
 (67 : Nat) +
 (1 : Nat) +
 (32 : Nat) +
 (1 : Nat))
 (32 : Nat) b_4 ∧
 at1 h_6 l.b
 (l.o +
 Int.toNat
 (0 : Int) *
 (67 : Nat) +
 (1 : Nat) +
 (32 : Nat) +
 (1 : Nat) +
 (32 : Nat))
 (Value.string
 (ByteArray.mk
 (List.toArray s)))) ∧
 Vc.Bind
 (newTV h_6
 (TV.agg
 [TV.int IntKind.i64 (0 : Int),
 TV.bytes (32 : Nat)
 (Bs.zero (32 : Nat)),
 TV.int IntKind.i64 (0 : Int),
 TV.bytes (32 : Nat)
 (Bs.zero (32 : Nat)),
 TV.str []])
 (83 : Nat))
 fun (h_7 : Array Obj) ↦
 wok h_7 (Array.size h_6) (0 : Nat)
 (67 : Nat) ∧
 Vc.Bind
 (TV.put h_7 (Array.size h_6)
 (0 : Nat)
 (TV.agg
 [TV.int IntKind.i64 n,
 TV.bytes (32 : Nat) b,
 TV.int IntKind.i64 n_6,
 TV.bytes (32 : Nat) b_4,
 TV.str s]))
 fun (h_8 : Array Obj) ↦
 Nn p fun (l : Go.Vc.Loc) ↦
 ∃ (s : Sl),
 at1 h_8 l.b l.o (slVal s) ∧
 ∃ (n : Int),
 ∃ (b : Bs (32 : Nat)),
 ∃ (n_7 : Int),
 ∃ (b_5 :
 Bs (32 : Nat)),
 ∃ (s_3 :
 List UInt8),
 (at1 h_8
 (Array.size
 h)
 (0 : Nat)
 (Value.int
 IntKind.i64
 n) ∧
 atBytes h_8
 (Array.size
 h)
 (1 :
 Nat)
 (32 :
 Nat)
 b ∧
 at1 h_8
 (Array.size
 h)
 (33 :
 Nat)
 (Value.int
 IntKind.i64
 n_7) ∧
 atBytes
 h_8
 (Array.size
 h)
 (34 :
 Nat)
 (32 :
 Nat)
 b_5 ∧
 at1
 h_8
 (Array.size
 h)
 (66 :
 Nat)
 (Value.string
 (ByteArray.mk
 (List.toArray
 s_3)))) ∧
 (0 : Int) ≤
 (0 :
 Int) ∧
 (0 : Int) <
 (↑s.len :
 Int) ∧
 Nn s.a
 fun
 (l :
 Go.Vc.Loc) ↦
 wok h_8
 l.b
 (l.o +
 Int.toNat
 (0 :
 Int) *
 (67 :
 Nat))
 (67 :
 Nat) ∧
 Vc.Bind
 (TV.put
 h_8
 l.b
 (l.o +
 Int.toNat
 (0 :
 Int) *
 (67 :
 Nat))
 (TV.agg
 [TV.int
 IntKind.i64
 n,
 TV.bytes
 (32 :
 Nat)
 b,
 TV.int
 IntKind.i64
 n_7,
 TV.bytes
 (32 :
 Nat)
 b_5,
 TV.str
 s_3]))
 fun
 (h :
 Array
 Obj) ↦
 Nn p
 fun
 (l :
 Go.Vc.Loc) ↦
 CallsH
 Tryz.prog
 (70 :
 Nat)
 (TVs.vals
 [TV.one
 (Vc.One.mk
 (Value.iface
 (116 :
 Nat)
 (TV.val
 (TV.ptr
 (some
 (Loc.mk
 l.b
 l.o)))))
 (vcPack._proof_1
 (116 :
 Nat)
 (TV.ptr
 (some
 (Loc.mk
 l.b
 l.o))))),
 TV.int
 IntKind.i64
 (0 :
 Int)])
 h
 fun
 (v :
 Value)
 (h :
 Array
 Obj) ↦
 v =
 TV.val
 (TV.tup
 []) ∧
 ∃
 (n
 :
 Int),
 ∃
 (b
 :
 Bs
 (32 :
 Nat)),
 ∃
 (n_8
 :
 Int),
 ∃
 (b_6
 :
 Bs
 (32 :
 Nat)),
 ∃
 (s
 :
 List
 UInt8),
 (at1
 h
 (Array.size
 h_6)
 (0 :
 Nat)
 (Value.int
 IntKind.i64
 n) ∧
 atBytes
 h
 (Array.size
 h_6)
 (1 :
 Nat)
 (32 :
 Nat)
 b ∧
 at1
 h
 (Array.size
 h_6)
 (33 :
 Nat)
 (Value.int
 IntKind.i64
 n_8) ∧
 atBytes
 h
 (Array.size
 h_6)
 (34 :
 Nat)
 (32 :
 Nat)
 b_6 ∧
 at1
 h
 (Array.size
 h_6)
 (66 :
 Nat)
 (Value.string
 (ByteArray.mk
 (List.toArray
 s)))) ∧
 wok
 h
 (Array.size
 h_1)
 (0 :
 Nat)
 (67 :
 Nat) ∧
 Vc.Bind
 (TV.put
 h
 (Array.size
 h_1)
 (0 :
 Nat)
 (TV.agg
 [TV.int
 IntKind.i64
 n,
 TV.bytes
 (32 :
 Nat)
 b,
 TV.int
 IntKind.i64
 n_8,
 TV.bytes
 (32 :
 Nat)
 b_6,
 TV.str
 s]))
 fun
 (h :
 Array
 Obj) ↦
 ∃
 (n
 :
 Int),
 ∃
 (b
 :
 Bs
 (32 :
 Nat)),
 ∃
 (n_9
 :
 Int),
 ∃
 (b_7
 :
 Bs
 (32 :
 Nat)),
 ∃
 (s
 :
 List
 UInt8),
 (at1
 h
 (Array.size
 h_1)
 (0 :
 Nat)
 (Value.int
 IntKind.i64
 n) ∧
 atBytes
 h
 (Array.size
 h_1)
 (1 :
 Nat)
 (32 :
 Nat)
 b ∧
 at1
 h
 (Array.size
 h_1)
 (33 :
 Nat)
 (Value.int
 IntKind.i64
 n_9) ∧
 atBytes
 h
 (Array.size
 h_1)
 (34 :
 Nat)
 (32 :
 Nat)
 b_7 ∧
 at1
 h
 (Array.size
 h_1)
 (66 :
 Nat)
 (Value.string
 (ByteArray.mk
 (List.toArray
 s)))) ∧
 R
 (TV.val
 (TV.tup
 [TV.int
 IntKind.i64
 (2 :
 Int),
 TV.agg
 [TV.int
 IntKind.i64
 n,
 TV.bytes
 (32 :
 Nat)
 b,
 TV.int
 IntKind.i64
 n_9,
 TV.bytes
 (32 :
 Nat)
 b_7,
 TV.str
 s]]))
 h)))))

theorem pool_Pool_Put_calls (p : Option Go.Vc.Loc) (x_Slot : Int) (x_Root : Bs (32 : Nat)) (x_Peer : Int) (x_For : Bs (32 : Nat)) (x_Text : List UInt8) (h : Heap) (R : Value → Heap → Prop) (H : pool_Pool_Put_vc p x_Slot x_Root x_Peer x_For x_Text h R) : CallsH Tryz.prog 40 (TVs.vals [TV.ptr p, TV.agg [TV.int IntKind.i64 x_Slot, TV.bytes (32 : Nat) x_Root, TV.int IntKind.i64 x_Peer, TV.bytes (32 : Nat) x_For, TV.str x_Text]]) h R :=
 vcFn_sound (C := ctx) ctx_ok (fn := Tryz.f40) Tryz.func40 ((by kernel_rfl : pool_Pool_Put_vc p x_Slot x_Root x_Peer x_For x_Text h R = vcFn ctx Tryz.f40 [TV.ptr p, TV.agg [TV.int IntKind.i64 x_Slot, TV.bytes (32 : Nat) x_Root, TV.int IntKind.i64 x_Peer, TV.bytes (32 : Nat) x_For, TV.str x_Text]] h R) ▸ H)


end Go.Proofs.YtldocdpdjdekiaaGreat
end

section
/- What the small functions of pool do: names, Before, and the heap's own Len, Less, Swap, Push. -/
namespace Go.Proofs.YtldocdpdjdekiaaGreat.Pool
open Go Go.Vc

/-! ### Items in memory -/

theorem it_ex {h : Heap} {b o : Nat} {x : It} (ha : x.tv.at h b o) {K : Int → Bs 32 → Int → Bs 32 → List UInt8 → Prop} (hk : K x.slot x.root x.peer x.fr x.text) :
    ∃ (n : Int), ∃ (c : Bs 32), ∃ (n1 : Int), ∃ (c1 : Bs 32), ∃ (s : List UInt8), (at1 h b o (.int .i64 n) ∧ atBytes h b (o + 1) 32 c ∧ at1 h b (o + 1 + 32) (.int .i64 n1) ∧ atBytes h b (o + 1 + 32 + 1) 32 c1 ∧ at1 h b (o + 1 + 32 + 1 + 32) (.string (ByteArray.mk (List.toArray s)))) ∧ K n c n1 c1 s := by
  have ha' : at1 h b o (.int .i64 x.slot) ∧ atBytes h b (o + 1) 32 x.root ∧ at1 h b (o + 1 + 32) (.int .i64 x.peer) ∧ atBytes h b (o + 1 + 32 + 1) 32 x.fr ∧ at1 h b (o + 1 + 32 + 1 + 32) (.string (ByteArray.mk (List.toArray x.text))) := ha
  obtain ⟨h1, h2, h3, h4, h5⟩ := ha'
  exact ⟨_, _, _, _, _, ⟨h1, h2, h3, h4, h5⟩, hk⟩

section
variable {T : TypeId} {h : Heap} {b : Nat} {x : It} (v : Var T h b x.tv)
include v
theorem v_slot : at1 h b 0 (.int .i64 x.slot) := v.at.1
theorem v_root : atBytes h b 1 32 x.root := v.at.2.1
theorem v_peer : at1 h b 33 (.int .i64 x.peer) := v.at.2.2.1
theorem v_fr : atBytes h b 34 32 x.fr := v.at.2.2.2.1
theorem v_text : at1 h b 66 (.string (ByteArray.mk (List.toArray x.text))) := v.at.2.2.2.2

theorem v_it {K : Int → Bs 32 → Int → Bs 32 → List UInt8 → Prop} (hk : K x.slot x.root x.peer x.fr x.text) :
    ∃ (n : Int), ∃ (c : Bs 32), ∃ (n1 : Int), ∃ (c1 : Bs 32), ∃ (s : List UInt8), (at1 h b 0 (.int .i64 n) ∧ atBytes h b 1 32 c ∧ at1 h b 33 (.int .i64 n1) ∧ atBytes h b 34 32 c1 ∧ at1 h b 66 (.string (ByteArray.mk (List.toArray s)))) ∧ K n c n1 c1 s :=
  ⟨_, _, _, _, _, ⟨v_slot v, v_root v, v_peer v, v_fr v, v_text v⟩, hk⟩
end

abbrev its (L : List It) : List TV := L.map It.tv

theorem its_size (L : List It) : ∀ t ∈ its L, t.size = 67 := fun t ht => by
  obtain ⟨x, _, rfl⟩ := List.mem_map.1 ht
  rfl

theorem its_plain (L : List It) : ∀ t ∈ its L, t.plain = true := fun t ht => by
  obtain ⟨x, _, rfl⟩ := List.mem_map.1 ht
  rfl

theorem its_at {h : Heap} {s : Sl} {L : List It} {i : Int} (e : Elems 67 h s (its L)) (i0 : 0 ≤ i) (i1 : i < L.length) {K : Vc.Loc → Int → Bs 32 → Int → Bs 32 → List UInt8 → Prop}
    (hk : ∀ l x, s.a = some l → L[i.toNat]? = some x → K l x.slot x.root x.peer x.fr x.text) :
    0 ≤ i ∧ i < (s.len : Int) ∧ Nn s.a fun (l : Vc.Loc) => ∃ (n : Int), ∃ (c : Bs 32), ∃ (n1 : Int), ∃ (c1 : Bs 32), ∃ (t : List UInt8), (at1 h l.b (l.o + i.toNat * 67) (.int .i64 n) ∧ atBytes h l.b (l.o + i.toNat * 67 + 1) 32 c ∧ at1 h l.b (l.o + i.toNat * 67 + 1 + 32) (.int .i64 n1) ∧ atBytes h l.b (l.o + i.toNat * 67 + 1 + 32 + 1) 32 c1 ∧ at1 h l.b (l.o + i.toNat * 67 + 1 + 32 + 1 + 32) (.string (ByteArray.mk (List.toArray t)))) ∧ K l n c n1 c1 t := by
  have hl := e.len
  rw [List.length_map] at hl
  refine e.read i0 (by omega) fun l t hla ht ha => ?_
  rw [List.getElem?_map] at ht
  obtain ⟨x, hx, rfl⟩ := Option.map_eq_some_iff.1 ht
  exact it_ex ha (hk l x hla hx)

theorem hget_eq {L : List It} {i : Nat} {x : It} (h : L[i]? = some x) : x = hget L i := (hget_of h).symm

/-! ### Names -/

theorem str_var {T : TypeId} {h : Heap} {b n c : Nat} {x : Bs n} (v : Var T h b (.bytes n x)) : strAt h ⟨some ⟨b, 0⟩, n, c⟩ x.l :=
  ⟨x.h, .inr ⟨_, rfl, fun j hj => by
    have := v.bytes j (by rw [← x.h]; exact hj)
    rw [this]
    simp [List.getD, hj]⟩⟩

section
variable {R : Value → Heap → Prop} {h : Heap}

theorem less_spec {a b : Bs 32} (hr : ∀ h', Ext h h' → R (TV.bool (Op.bytesLess a.l b.l)).val h') : CallsH Tryz.prog 95 (TVs.vals [.bytes 32 a, .bytes 32 b]) h R := by
  apply sha_Less_calls
  unfold sha_Less_vc
  refine newTV_in fun h1 v1 x1 s1 => newTV_in fun h2 v2 x2 s2 => ?_
  exact ⟨a.l, str_var (v1.ext x2), b.l, str_var v2, hr _ (x1.trans x2)⟩

theorem before_spec {x y : It} (hr : ∀ h', Ext h h' → R (TV.bool (bf x y)).val h') : CallsH Tryz.prog 69 (TVs.vals [x.tv, y.tv]) h R := by
  apply pool_Before_calls x.slot x.root x.peer x.fr x.text y.slot y.root y.peer y.fr y.text
  unfold pool_Before_vc
  refine newTV_in fun h1 v1 x1 s1 => newTV_in fun h2 v2 x2 s2 => ?_
  have v1' := v1.ext x2
  have x12 := x1.trans x2
  refine ⟨x.slot, v_slot (x := x) v1', y.slot, v_slot (x := y) v2, If.dec.2 ⟨fun hlt => ?_, fun hge => ?_⟩⟩
  · have := hr h2 x12
    rwa [show bf x y = true from bf_iff.2 (.inl hlt)] at this
  · refine ⟨x.slot, v_slot (x := x) v1', y.slot, v_slot (x := y) v2, If.dec.2 ⟨fun he => ?_, fun hne => ?_⟩⟩
    · refine ⟨x.root, v_root (x := x) v1', y.root, v_root (x := y) v2, less_spec fun h' x' => ⟨_, rfl, ?_⟩⟩
      have := hr h' (x12.trans x')
      rwa [show bf x y = Op.bytesLess x.root.l y.root.l by unfold bf; simp [he]] at this
    · have := hr h2 x12
      rwa [show bf x y = false by unfold bf; simp [hge, hne]] at this

/-! ### The heap's own functions -/

/-- A pool's row of items in memory. -/
structure HL (h : Heap) (b : Nat) (A : Sl) (L : List It) (most quota : Int) : Prop where
  var : Var 114 h b (.agg [.slice A, .int .i64 most, .int .i64 quota])
  own : Own 83 67 h A (its L)
  apart : ¬ In A b
  few : L.length < 1000

section
variable {b : Nat} {A : Sl} {L : List It} {most quota : Int}

theorem HL.len (H : HL h b A L most quota) : L.length = A.len := by have := H.own.len; rwa [List.length_map] at this
theorem HL.ext {h' : Heap} (H : HL h b A L most quota) (x : Ext h h') : HL h' b A L most quota := ⟨H.var.ext x, H.own.ext x, H.apart, H.few⟩
theorem HL.only {h' : Heap} {S : Nat → Prop} (H : HL h b A L most quota) (o : Only S h h') (h1 : ¬ S b) (h2 : ∀ i, In A i → ¬ S i) : HL h' b A L most quota :=
  ⟨H.var.only o h1, H.own.only o (fun l hl => h2 _ ⟨l, hl, rfl⟩), H.apart, H.few⟩

theorem len_spec (hr : R (TV.int .i64 (A.len : Int)).val h) : CallsH Tryz.prog 76 (TVs.vals [.slice A]) h R := by
  apply pool_last_Len_calls
  exact hr

theorem lessAt_spec (H : HL h b A L most quota) {i k : Int} (i0 : 0 ≤ i) (i1 : i < L.length) (k0 : 0 ≤ k) (k1 : k < L.length)
    (hr : ∀ h', Ext h h' → R (TV.bool (bf (hget L k.toNat) (hget L i.toNat))).val h') : CallsH Tryz.prog 150 (TVs.vals [.slice A, .int .i64 i, .int .i64 k]) h R := by
  apply pool_last_Less_calls
  unfold pool_last_Less_vc
  refine its_at H.own.elems k0 k1 fun l x _ hx => its_at H.own.elems i0 i1 fun l y _ hy => ?_
  have e1 := hget_of hx
  have e2 := hget_of hy
  refine before_spec (x := x) (y := y) fun h' x' => ⟨_, rfl, ?_⟩
  rw [← e1, ← e2]
  exact hr h' x'

theorem its_set (L : List It) (i : Nat) (x : It) : its (L.set i x) = (its L).set i x.tv := by simp [its, List.map_set]

theorem swap_spec (H : HL h b A L most quota) {i k : Int} (i0 : 0 ≤ i) (i1 : i < L.length) (k0 : 0 ≤ k) (k1 : k < L.length)
    (hr : ∀ h', HL h' b A (sw L i.toNat k.toNat) most quota → Only (In A) h h' → h'.size = h.size → R (TV.tup []).val h') : CallsH Tryz.prog 151 (TVs.vals [.slice A, .int .i64 i, .int .i64 k]) h R := by
  apply pool_last_Swap_calls
  unfold pool_last_Swap_vc
  refine its_at H.own.elems k0 k1 fun l x _ hx => its_at H.own.elems i0 i1 fun l y _ hy => ?_
  refine H.own.put_in (t := x.tv) i0 (by simpa using i1) rfl rfl fun h1 o1 f1 s1 => ?_
  refine o1.put_in (t := y.tv) k0 (by simpa using k1) rfl rfl fun h2 o2 f2 s2 => ?_
  refine hr h2 ⟨(H.var.only f1 H.apart).only f2 H.apart, ?_, H.apart, by rw [sw_length]; exact H.few⟩ (f1.trans f2) (by omega)
  have e1 := hget_eq hx
  have e2 := hget_eq hy
  unfold sw
  rw [its_set, its_set, ← e1, ← e2]
  exact o2

theorem bytes32 : (ctx.ti 83).bytes = 96 := by kernel_rfl
theorem size32 : (ctx.ti 83).size = 67 := by kernel_rfl
theorem zsize32 : (ctx.ti 83).z.size = 67 := by kernel_rfl

theorem push_spec (H : HL h b A L most quota) (x : It) (hl : L.length < 900)
    {v : One} (hv : v.v = .iface 83 x.tv.val)
    (hr : ∀ h' A', HL h' b A' (L ++ [x]) most quota → Only (fun i => i = b ∨ In A i) h h' → (∀ i, In A' i → In A i ∨ h.size ≤ i) → R (TV.tup []).val h') : CallsH Tryz.prog 152 (TVs.vals [.ptr (some ⟨b, 0⟩), .one v]) h R := by
  apply pool_last_Push_calls
  unfold pool_last_Push_vc
  have hlen := H.len
  refine ⟨A, H.var.at1 rfl, x.slot, x.root, x.peer, x.fr, x.text, hv, Ext.push _ _, ?_⟩
  refine append1 (C := ctx) (T := 83) (sz := 67) (x := x.tv) size32 zsize32 (by rw [bytes32]; decide) (by rw [bytes32]; omega) H.own rfl rfl fun A' h1 o1 f1 b1 => ?_
  have hb : ∀ l, A'.a = some l → l.b ≠ b := by
    intro l hl e
    rcases b1 l hl with ⟨l', h9, h10⟩ | h9
    · exact H.apart ⟨l', h9, h10.trans e⟩
    · have := H.var.lt
      omega
  have v1 := H.var.only f1 H.apart
  show wok h1 b 0 1 ∧ Bind ((TV.slice A').put h1 b 0) _
  refine field_in (i := 0) (t0 := .slice A) v1 rfl rfl rfl rfl fun h2 v2 f2 s2 => ?_
  refine hr h2 A' ⟨v2, ?_, fun ⟨l, hl, e⟩ => hb l hl e, by simp; omega⟩ ((f1.mono fun i hi => .inr hi).trans (f2.mono fun i hi => .inl hi)) (fun i ⟨l, hl, e⟩ => ?_)
  · have : its (L ++ [x]) = its L ++ [x.tv] := by simp [its]
    rw [this]
    exact o1.only f2 hb
  · rcases b1 l hl with ⟨l', h9, h10⟩ | h9
    · exact .inl ⟨l', h9, h10.trans e⟩
    · exact .inr (by omega)

/-! ### As methods of a heap -/

theorem types_pos : 0 < ctx.P.types.size := of_decide_eq_true (by kernel_rfl)

end
end
end Go.Proofs.YtldocdpdjdekiaaGreat.Pool
end

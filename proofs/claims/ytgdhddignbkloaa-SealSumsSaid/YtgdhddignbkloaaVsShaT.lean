/- The conditions of functions, as the generator reckons them out, each with the proof that it is that. -/
import Derived.Test.YtgdhddignbkloaaCtx
namespace Go.Proofs.Ytgdhddignbkloaa
open Go Go.Vc
set_option maxRecDepth 100000
set_option linter.unusedVariables false

def sha_state_take_vc (s_ : Option Go.Vc.Loc) (b : Sl) (h : Heap) (R : Value → Heap → Prop) : Prop :=
 Join
 (fun (s : Option Go.Vc.Loc × Option Go.Vc.Loc × Option Go.Vc.Loc) (h : Array Obj) ↦
 Go.Vc.Loop (0 : Int) h fun (s_1 : Int) (h : Array Obj) (K : Int → Array Obj → Prop) ↦
 If (decide (s_1 < (64 : Int)))
 ((0 : Int) ≤ (0 : Int) ∧
 (0 : Int) < (↑(8 : Nat) : Int) ∧
 Nn s.snd.snd fun (l : Go.Vc.Loc) ↦
 ∃ (n : Int),
 at1 h l.b (l.o + Int.toNat (0 : Int) * (1 : Nat)) (Value.int IntKind.u32 n) ∧
 (0 : Int) ≤ (4 : Int) ∧
 (4 : Int) < (↑(8 : Nat) : Int) ∧
 Nn s.snd.snd fun (l : Go.Vc.Loc) ↦
 ∃ (n_1 : Int),
 at1 h l.b (l.o + Int.toNat (4 : Int) * (1 : Nat)) (Value.int IntKind.u32 n_1) ∧
 (0 : Int) ≤ (7 : Int) ∧
 (7 : Int) < (↑(8 : Nat) : Int) ∧
 Nn s.snd.snd fun (l : Go.Vc.Loc) ↦
 ∃ (n_2 : Int),
 at1 h l.b (l.o + Int.toNat (7 : Int) * (1 : Nat)) (Value.int IntKind.u32 n_2) ∧
 (0 : Int) ≤ (5 : Int) ∧
 (5 : Int) < (↑(8 : Nat) : Int) ∧
 Nn s.snd.snd fun (l : Go.Vc.Loc) ↦
 ∃ (n_3 : Int),
 at1 h l.b (l.o + Int.toNat (5 : Int) * (1 : Nat)) (Value.int IntKind.u32 n_3) ∧
 (0 : Int) ≤ (6 : Int) ∧
 (6 : Int) < (↑(8 : Nat) : Int) ∧
 Nn s.snd.snd fun (l : Go.Vc.Loc) ↦
 ∃ (n_4 : Int),
 at1 h l.b (l.o + Int.toNat (6 : Int) * (1 : Nat)) (Value.int IntKind.u32 n_4) ∧
 (0 : Int) ≤ s_1 ∧
 s_1 < (↑(64 : Nat) : Int) ∧
 Nn s.snd.fst fun (l : Go.Vc.Loc) ↦
 ∃ (n_5 : Int),
 at1 h l.b (l.o + Int.toNat s_1 * (1 : Nat)) (Value.int IntKind.u32 n_5) ∧
 (0 : Int) ≤ s_1 ∧
 s_1 < (↑(64 : Nat) : Int) ∧
 Nn s.fst fun (l : Go.Vc.Loc) ↦
 ∃ (n_6 : Int),
 at1 h l.b (l.o + Int.toNat s_1 * (1 : Nat)) (Value.int IntKind.u32 n_6) ∧
 CallsH Try.prog (77 : Nat)
 (TVs.vals [TV.int IntKind.u32 n_1, TV.int IntKind.i64 (6 : Int)]) h
 fun (v : Value) (h_1 : Array Obj) ↦
 ∃ (n_7 : Int),
 v = TV.val (TV.int IntKind.u32 n_7) ∧
 Ext h h_1 ∧
 CallsH Try.prog (77 : Nat)
 (TVs.vals [TV.int IntKind.u32 n_1, TV.int IntKind.i64 (11 : Int)]) h_1
 fun (v : Value) (h : Array Obj) ↦
 ∃ (n_8 : Int),
 v = TV.val (TV.int IntKind.u32 n_8) ∧
 Ext h_1 h ∧
 CallsH Try.prog (77 : Nat)
 (TVs.vals
 [TV.int IntKind.u32 n_1, TV.int IntKind.i64 (25 : Int)])
 h fun (v : Value) (h_2 : Array Obj) ↦
 ∃ (n_9 : Int),
 v = TV.val (TV.int IntKind.u32 n_9) ∧
 Ext h h_2 ∧
 (0 : Int) ≤ (1 : Int) ∧
 (1 : Int) < (↑(8 : Nat) : Int) ∧
 Nn s.snd.snd fun (l : Go.Vc.Loc) ↦
 ∃ (n_10 : Int),
 at1 h_2 l.b
 (l.o + Int.toNat (1 : Int) * (1 : Nat))
 (Value.int IntKind.u32 n_10) ∧
 (0 : Int) ≤ (2 : Int) ∧
 (2 : Int) < (↑(8 : Nat) : Int) ∧
 Nn s.snd.snd fun (l : Go.Vc.Loc) ↦
 ∃ (n_11 : Int),
 at1 h_2 l.b
 (l.o +
 Int.toNat (2 : Int) * (1 : Nat))
 (Value.int IntKind.u32 n_11) ∧
 (0 : Int) ≤ (1 : Int) ∧
 (1 : Int) < (↑(8 : Nat) : Int) ∧
 Nn s.snd.snd fun (l : Go.Vc.Loc) ↦
 ∃ (n_12 : Int),
 at1 h_2 l.b
 (l.o +
 Int.toNat (1 : Int) *
 (1 : Nat))
 (Value.int IntKind.u32
 n_12) ∧
 (0 : Int) ≤ (2 : Int) ∧
 (2 : Int) <
 (↑(8 : Nat) : Int) ∧
 Nn s.snd.snd
 fun (l : Go.Vc.Loc) ↦
 ∃ (n_13 : Int),
 at1 h_2 l.b
 (l.o +
 Int.toNat
 (2 :
 Int) *
 (1 : Nat))
 (Value.int
 IntKind.u32
 n_13) ∧
 CallsH Try.prog
 (77 : Nat)
 (TVs.vals
 [TV.int
 IntKind.u32
 n,
 TV.int
 IntKind.i64
 (2 :
 Int)])
 h_2
 fun (v : Value)
 (h :
 Array Obj) ↦
 ∃ (n_14 : Int),
 v =
 TV.val
 (TV.int
 IntKind.u32
 n_14) ∧
 Ext h_2 h ∧
 CallsH
 Try.prog
 (77 :
 Nat)
 (TVs.vals
 [TV.int
 IntKind.u32
 n,
 TV.int
 IntKind.i64
 (13 :
 Int)])
 h
 fun
 (v :
 Value)
 (h_3 :
 Array
 Obj) ↦
 ∃ (n_15
 :
 Int),
 v =
 TV.val
 (TV.int
 IntKind.u32
 n_15) ∧
 Ext
 h
 h_3 ∧
 CallsH
 Try.prog
 (77 :
 Nat)
 (TVs.vals
 [TV.int
 IntKind.u32
 n,
 TV.int
 IntKind.i64
 (22 :
 Int)])
 h_3
 fun
 (v :
 Value)
 (h :
 Array
 Obj) ↦
 ∃
 (n_16
 :
 Int),
 v =
 TV.val
 (TV.int
 IntKind.u32
 n_16) ∧
 Ext
 h_3
 h ∧
 Nn
 s.snd.snd
 fun
 (l :
 Go.Vc.Loc) ↦
 (0 :
 Int) ≤
 (1 :
 Int) ∧
 (1 :
 Int) ≤
 (↑(8 :
 Nat) :
 Int) ∧
 Nn
 s.snd.snd
 fun
 (l_1 :
 Go.Vc.Loc) ↦
 (0 :
 Int) ≤
 (7 :
 Int) ∧
 (7 :
 Int) ≤
 (↑(8 :
 Nat) :
 Int) ∧
 ∃
 (new
 :
 List
 Value),
 slAt
 h
 (Sl.mk
 (cutSl
 (Sl.mk
 (some
 l_1)
 (8 :
 Nat)
 (8 :
 Nat))
 (0 :
 Nat)
 (Int.toNat
 (7 :
 Int))
 (1 :
 Nat)).a
 (Nat.min
 (cutSl
 (Sl.mk
 (some
 l_1)
 (8 :
 Nat)
 (8 :
 Nat))
 (0 :
 Nat)
 (Int.toNat
 (7 :
 Int))
 (1 :
 Nat)).len
 (cutSl
 (Sl.mk
 (some
 l)
 (8 :
 Nat)
 (8 :
 Nat))
 (Int.toNat
 (1 :
 Int))
 (8 :
 Nat)
 (1 :
 Nat)).len)
 (Nat.min
 (cutSl
 (Sl.mk
 (some
 l_1)
 (8 :
 Nat)
 (8 :
 Nat))
 (0 :
 Nat)
 (Int.toNat
 (7 :
 Int))
 (1 :
 Nat)).len
 (cutSl
 (Sl.mk
 (some
 l)
 (8 :
 Nat)
 (8 :
 Nat))
 (Int.toNat
 (1 :
 Int))
 (8 :
 Nat)
 (1 :
 Nat)).len))
 (1 :
 Nat)
 new ∧
 (∀
 (v :
 Value),
 v ∈
 new →
 isOne
 v =
 true) ∧
 ((cutSl
 (Sl.mk
 (some
 l)
 (8 :
 Nat)
 (8 :
 Nat))
 (Int.toNat
 (1 :
 Int))
 (8 :
 Nat)
 (1 :
 Nat)).a =
 none →
 (0 :
 Int) ≤
 (4 :
 Int) ∧
 (4 :
 Int) <
 (↑(8 :
 Nat) :
 Int) ∧
 Nn
 s.snd.snd
 fun
 (l :
 Go.Vc.Loc) ↦
 ∃
 (n_17
 :
 Int),
 at1
 h
 l.b
 (l.o +
 Int.toNat
 (4 :
 Int) *
 (1 :
 Nat))
 (Value.int
 IntKind.u32
 n_17) ∧
 (0 :
 Int) ≤
 (4 :
 Int) ∧
 (4 :
 Int) <
 (↑(8 :
 Nat) :
 Int) ∧
 Nn
 s.snd.snd
 fun
 (l :
 Go.Vc.Loc) ↦
 wok
 h
 l.b
 (l.o +
 Int.toNat
 (4 :
 Int) *
 (1 :
 Nat))
 (1 :
 Nat) ∧
 Vc.Bind
 (TV.put
 h
 l.b
 (l.o +
 Int.toNat
 (4 :
 Int) *
 (1 :
 Nat))
 (TV.int
 IntKind.u32
 (IntKind.wrap
 IntKind.u32
 (n_17 +
 IntKind.wrap
 IntKind.u32
 (IntKind.wrap
 IntKind.u32
 (IntKind.wrap
 IntKind.u32
 (IntKind.wrap
 IntKind.u32
 (n_2 +
 IntKind.wrap
 IntKind.u32
 (↑(BitVec.toNat
 (BitVec.ofInt
 (IntKind.bits
 IntKind.u32)
 (IntKind.wrap
 IntKind.u32
 (↑(BitVec.toNat
 (BitVec.ofInt
 (IntKind.bits
 IntKind.u32)
 n_7 ^^^
 BitVec.ofInt
 (IntKind.bits
 IntKind.u32)
 n_8)) :
 Int)) ^^^
 BitVec.ofInt
 (IntKind.bits
 IntKind.u32)
 n_9)) :
 Int)) +
 IntKind.wrap
 IntKind.u32
 (↑(BitVec.toNat
 (BitVec.ofInt
 (IntKind.bits
 IntKind.u32)
 (IntKind.wrap
 IntKind.u32
 (↑(BitVec.toNat
 (BitVec.ofInt
 (IntKind.bits
 IntKind.u32)
 n_1 &&&
 BitVec.ofInt
 (IntKind.bits
 IntKind.u32)
 n_3)) :
 Int)) ^^^
 BitVec.ofInt
 (IntKind.bits
 IntKind.u32)
 (IntKind.wrap
 IntKind.u32
 (↑(BitVec.toNat
 (BitVec.ofInt
 (IntKind.bits
 IntKind.u32)
 (IntKind.wrap
 IntKind.u32
 (↑(BitVec.toNat
 (BitVec.ofInt
 (IntKind.bits
 IntKind.u32)
 (if
 IntKind.signed
 IntKind.u32 =
 true then
 (-1 :
 Int)
 else
 IntKind.max
 IntKind.u32) ^^^
 BitVec.ofInt
 (IntKind.bits
 IntKind.u32)
 n_1)) :
 Int)) &&&
 BitVec.ofInt
 (IntKind.bits
 IntKind.u32)
 n_4)) :
 Int)))) :
 Int)) +
 n_5) +
 n_6)))))
 fun
 (h :
 Array
 Obj) ↦
 (0 :
 Int) ≤
 (0 :
 Int) ∧
 (0 :
 Int) <
 (↑(8 :
 Nat) :
 Int) ∧
 Nn
 s.snd.snd
 fun
 (l :
 Go.Vc.Loc) ↦
 wok
 h
 l.b
 (l.o +
 Int.toNat
 (0 :
 Int) *
 (1 :
 Nat))
 (1 :
 Nat) ∧
 Vc.Bind
 (TV.put
 h
 l.b
 (l.o +
 Int.toNat
 (0 :
 Int) *
 (1 :
 Nat))
 (TV.int
 IntKind.u32
 (IntKind.wrap
 IntKind.u32
 (IntKind.wrap
 IntKind.u32
 (IntKind.wrap
 IntKind.u32
 (IntKind.wrap
 IntKind.u32
 (IntKind.wrap
 IntKind.u32
 (n_2 +
 IntKind.wrap
 IntKind.u32
 (↑(BitVec.toNat
 (BitVec.ofInt
 (IntKind.bits
 IntKind.u32)
 (IntKind.wrap
 IntKind.u32
 (↑(BitVec.toNat
 (BitVec.ofInt
 (IntKind.bits
 IntKind.u32)
 n_7 ^^^
 BitVec.ofInt
 (IntKind.bits
 IntKind.u32)
 n_8)) :
 Int)) ^^^
 BitVec.ofInt
 (IntKind.bits
 IntKind.u32)
 n_9)) :
 Int)) +
 IntKind.wrap
 IntKind.u32
 (↑(BitVec.toNat
 (BitVec.ofInt
 (IntKind.bits
 IntKind.u32)
 (IntKind.wrap
 IntKind.u32
 (↑(BitVec.toNat
 (BitVec.ofInt
 (IntKind.bits
 IntKind.u32)
 n_1 &&&
 BitVec.ofInt
 (IntKind.bits
 IntKind.u32)
 n_3)) :
 Int)) ^^^
 BitVec.ofInt
 (IntKind.bits
 IntKind.u32)
 (IntKind.wrap
 IntKind.u32
 (↑(BitVec.toNat
 (BitVec.ofInt
 (IntKind.bits
 IntKind.u32)
 (IntKind.wrap
 IntKind.u32
 (↑(BitVec.toNat
 (BitVec.ofInt
 (IntKind.bits
 IntKind.u32)
 (if
 IntKind.signed
 IntKind.u32 =
 true then
 (-1 :
 Int)
 else
 IntKind.max
 IntKind.u32) ^^^
 BitVec.ofInt
 (IntKind.bits
 IntKind.u32)
 n_1)) :
 Int)) &&&
 BitVec.ofInt
 (IntKind.bits
 IntKind.u32)
 n_4)) :
 Int)))) :
 Int)) +
 n_5) +
 n_6) +
 IntKind.wrap
 IntKind.u32
 (IntKind.wrap
 IntKind.u32
 (↑(BitVec.toNat
 (BitVec.ofInt
 (IntKind.bits
 IntKind.u32)
 (IntKind.wrap
 IntKind.u32
 (↑(BitVec.toNat
 (BitVec.ofInt
 (IntKind.bits
 IntKind.u32)
 n_14 ^^^
 BitVec.ofInt
 (IntKind.bits
 IntKind.u32)
 n_15)) :
 Int)) ^^^
 BitVec.ofInt
 (IntKind.bits
 IntKind.u32)
 n_16)) :
 Int) +
 IntKind.wrap
 IntKind.u32
 (↑(BitVec.toNat
 (BitVec.ofInt
 (IntKind.bits
 IntKind.u32)
 (IntKind.wrap
 IntKind.u32
 (↑(BitVec.toNat
 (BitVec.ofInt
 (IntKind.bits
 IntKind.u32)
 (IntKind.wrap
 IntKind.u32
 (↑(BitVec.toNat
 (BitVec.ofInt
 (IntKind.bits
 IntKind.u32)
 n &&&
 BitVec.ofInt
 (IntKind.bits
 IntKind.u32)
 n_10)) :
 Int)) ^^^
 BitVec.ofInt
 (IntKind.bits
 IntKind.u32)
 (IntKind.wrap
 IntKind.u32
 (↑(BitVec.toNat
 (BitVec.ofInt
 (IntKind.bits
 IntKind.u32)
 n &&&
 BitVec.ofInt
 (IntKind.bits
 IntKind.u32)
 n_11)) :
 Int)))) :
 Int)) ^^^
 BitVec.ofInt
 (IntKind.bits
 IntKind.u32)
 (IntKind.wrap
 IntKind.u32
 (↑(BitVec.toNat
 (BitVec.ofInt
 (IntKind.bits
 IntKind.u32)
 n_12 &&&
 BitVec.ofInt
 (IntKind.bits
 IntKind.u32)
 n_13)) :
 Int)))) :
 Int))))))
 fun
 (h :
 Array
 Obj) ↦
 K
 (IntKind.wrap
 IntKind.i64
 (s_1 +
 (1 :
 Int)))
 h) ∧
 ∀
 (l_2 :
 Go.Vc.Loc),
 (cutSl
 (Sl.mk
 (some
 l)
 (8 :
 Nat)
 (8 :
 Nat))
 (Int.toNat
 (1 :
 Int))
 (8 :
 Nat)
 (1 :
 Nat)).a =
 some
 l_2 →
 wok
 h
 l_2.b
 l_2.o
 (List.length
 new) ∧
 Vc.Bind
 (putl
 h
 l_2.b
 l_2.o
 new)
 fun
 (h :
 Array
 Obj) ↦
 (0 :
 Int) ≤
 (4 :
 Int) ∧
 (4 :
 Int) <
 (↑(8 :
 Nat) :
 Int) ∧
 Nn
 s.snd.snd
 fun
 (l :
 Go.Vc.Loc) ↦
 ∃
 (n_17
 :
 Int),
 at1
 h
 l.b
 (l.o +
 Int.toNat
 (4 :
 Int) *
 (1 :
 Nat))
 (Value.int
 IntKind.u32
 n_17) ∧
 (0 :
 Int) ≤
 (4 :
 Int) ∧
 (4 :
 Int) <
 (↑(8 :
 Nat) :
 Int) ∧
 Nn
 s.snd.snd
 fun
 (l :
 Go.Vc.Loc) ↦
 wok
 h
 l.b
 (l.o +
 Int.toNat
 (4 :
 Int) *
 (1 :
 Nat))
 (1 :
 Nat) ∧
 Vc.Bind
 (TV.put
 h
 l.b
 (l.o +
 Int.toNat
 (4 :
 Int) *
 (1 :
 Nat))
 (TV.int
 IntKind.u32
 (IntKind.wrap
 IntKind.u32
 (n_17 +
 IntKind.wrap
 IntKind.u32
 (IntKind.wrap
 IntKind.u32
 (IntKind.wrap
 IntKind.u32
 (IntKind.wrap
 IntKind.u32
 (n_2 +
 IntKind.wrap
 IntKind.u32
 (↑(BitVec.toNat
 (BitVec.ofInt
 (IntKind.bits
 IntKind.u32)
 (IntKind.wrap
 IntKind.u32
 (↑(BitVec.toNat
 (BitVec.ofInt
 (IntKind.bits
 IntKind.u32)
 n_7 ^^^
 BitVec.ofInt
 (IntKind.bits
 IntKind.u32)
 n_8)) :
 Int)) ^^^
 BitVec.ofInt
 (IntKind.bits
 IntKind.u32)
 n_9)) :
 Int)) +
 IntKind.wrap
 IntKind.u32
 (↑(BitVec.toNat
 (BitVec.ofInt
 (IntKind.bits
 IntKind.u32)
 (IntKind.wrap
 IntKind.u32
 (↑(BitVec.toNat
 (BitVec.ofInt
 (IntKind.bits
 IntKind.u32)
 n_1 &&&
 BitVec.ofInt
 (IntKind.bits
 IntKind.u32)
 n_3)) :
 Int)) ^^^
 BitVec.ofInt
 (IntKind.bits
 IntKind.u32)
 (IntKind.wrap
 IntKind.u32
 (↑(BitVec.toNat
 (BitVec.ofInt
 (IntKind.bits
 IntKind.u32)
 (IntKind.wrap
 IntKind.u32
 (↑(BitVec.toNat
 (BitVec.ofInt
 (IntKind.bits
 IntKind.u32)
 (if
 IntKind.signed
 IntKind.u32 =
 true then
 (-1 :
 Int)
 else
 IntKind.max
 IntKind.u32) ^^^
 BitVec.ofInt
 (IntKind.bits
 IntKind.u32)
 n_1)) :
 Int)) &&&
 BitVec.ofInt
 (IntKind.bits
 IntKind.u32)
 n_4)) :
 Int)))) :
 Int)) +
 n_5) +
 n_6)))))
 fun
 (h :
 Array
 Obj) ↦
 (0 :
 Int) ≤
 (0 :
 Int) ∧
 (0 :
 Int) <
 (↑(8 :
 Nat) :
 Int) ∧
 Nn
 s.snd.snd
 fun
 (l :
 Go.Vc.Loc) ↦
 wok
 h
 l.b
 (l.o +
 Int.toNat
 (0 :
 Int) *
 (1 :
 Nat))
 (1 :
 Nat) ∧
 Vc.Bind
 (TV.put
 h
 l.b
 (l.o +
 Int.toNat
 (0 :
 Int) *
 (1 :
 Nat))
 (TV.int
 IntKind.u32
 (IntKind.wrap
 IntKind.u32
 (IntKind.wrap
 IntKind.u32
 (IntKind.wrap
 IntKind.u32
 (IntKind.wrap
 IntKind.u32
 (IntKind.wrap
 IntKind.u32
 (n_2 +
 IntKind.wrap
 IntKind.u32
 (↑(BitVec.toNat
 (BitVec.ofInt
 (IntKind.bits
 IntKind.u32)
 (IntKind.wrap
 IntKind.u32
 (↑(BitVec.toNat
 (BitVec.ofInt
 (IntKind.bits
 IntKind.u32)
 n_7 ^^^
 BitVec.ofInt
 (IntKind.bits
 IntKind.u32)
 n_8)) :
 Int)) ^^^
 BitVec.ofInt
 (IntKind.bits
 IntKind.u32)
 n_9)) :
 Int)) +
 IntKind.wrap
 IntKind.u32
 (↑(BitVec.toNat
 (BitVec.ofInt
 (IntKind.bits
 IntKind.u32)
 (IntKind.wrap
 IntKind.u32
 (↑(BitVec.toNat
 (BitVec.ofInt
 (IntKind.bits
 IntKind.u32)
 n_1 &&&
 BitVec.ofInt
 (IntKind.bits
 IntKind.u32)
 n_3)) :
 Int)) ^^^
 BitVec.ofInt
 (IntKind.bits
 IntKind.u32)
 (IntKind.wrap
 IntKind.u32
 (↑(BitVec.toNat
 (BitVec.ofInt
 (IntKind.bits
 IntKind.u32)
 (IntKind.wrap
 IntKind.u32
 (↑(BitVec.toNat
 (BitVec.ofInt
 (IntKind.bits
 IntKind.u32)
 (if
 IntKind.signed
 IntKind.u32 =
 true then
 (-1 :
 Int)
 else
 IntKind.max
 IntKind.u32) ^^^
 BitVec.ofInt
 (IntKind.bits
 IntKind.u32)
 n_1)) :
 Int)) &&&
 BitVec.ofInt
 (IntKind.bits
 IntKind.u32)
 n_4)) :
 Int)))) :
 Int)) +
 n_5) +
 n_6) +
 IntKind.wrap
 IntKind.u32
 (IntKind.wrap
 IntKind.u32
 (↑(BitVec.toNat
 (BitVec.ofInt
 (IntKind.bits
 IntKind.u32)
 (IntKind.wrap
 IntKind.u32
 (↑(BitVec.toNat
 (BitVec.ofInt
 (IntKind.bits
 IntKind.u32)
 n_14 ^^^
 BitVec.ofInt
 (IntKind.bits
 IntKind.u32)
 n_15)) :
 Int)) ^^^
 BitVec.ofInt
 (IntKind.bits
 IntKind.u32)
 n_16)) :
 Int) +
 IntKind.wrap
 IntKind.u32
 (↑(BitVec.toNat
 (BitVec.ofInt
 (IntKind.bits
 IntKind.u32)
 (IntKind.wrap
 IntKind.u32
 (↑(BitVec.toNat
 (BitVec.ofInt
 (IntKind.bits
 IntKind.u32)
 (IntKind.wrap
 IntKind.u32
 (↑(BitVec.toNat
 (BitVec.ofInt
 (IntKind.bits
 IntKind.u32)
 n &&&
 BitVec.ofInt
 (IntKind.bits
 IntKind.u32)
 n_10)) :
 Int)) ^^^
 BitVec.ofInt
 (IntKind.bits
 IntKind.u32)
 (IntKind.wrap
 IntKind.u32
 (↑(BitVec.toNat
 (BitVec.ofInt
 (IntKind.bits
 IntKind.u32)
 n &&&
 BitVec.ofInt
 (IntKind.bits
 IntKind.u32)
 n_11)) :
 Int)))) :
 Int)) ^^^
 BitVec.ofInt
 (IntKind.bits
 IntKind.u32)
 (IntKind.wrap
 IntKind.u32
 (↑(BitVec.toNat
 (BitVec.ofInt
 (IntKind.bits
 IntKind.u32)
 n_12 &&&
 BitVec.ofInt
 (IntKind.bits
 IntKind.u32)
 n_13)) :
 Int)))) :
 Int))))))
 fun
 (h :
 Array
 Obj) ↦
 K
 (IntKind.wrap
 IntKind.i64
 (s_1 +
 (1 :
 Int)))
 h)
 (Go.Vc.Loop (0 : Int) h fun (s_2 : Int) (h : Array Obj) (K : Int → Array Obj → Prop) ↦
 If (decide (s_2 < (8 : Int)))
 (Nn s_ fun (l : Go.Vc.Loc) ↦
 (0 : Int) ≤ s_2 ∧
 s_2 < (↑(8 : Nat) : Int) ∧
 ∃ (n : Int),
 at1 h l.b (l.o + Int.toNat s_2 * (1 : Nat)) (Value.int IntKind.u32 n) ∧
 (0 : Int) ≤ s_2 ∧
 s_2 < (↑(8 : Nat) : Int) ∧
 Nn s.snd.snd fun (l : Go.Vc.Loc) ↦
 ∃ (n_1 : Int),
 at1 h l.b (l.o + Int.toNat s_2 * (1 : Nat)) (Value.int IntKind.u32 n_1) ∧
 Nn s_ fun (l : Go.Vc.Loc) ↦
 (0 : Int) ≤ s_2 ∧
 s_2 < (↑(8 : Nat) : Int) ∧
 wok h l.b (l.o + Int.toNat s_2 * (1 : Nat)) (1 : Nat) ∧
 Vc.Bind (TV.put h l.b (l.o + Int.toNat s_2 * (1 : Nat)) (TV.int IntKind.u32 (IntKind.wrap IntKind.u32 (n + n_1))))
 fun (h : Array Obj) ↦ K (IntKind.wrap IntKind.i64 (s_2 + (1 : Int))) h)
 (R (TV.val (TV.tup [])) h)))
 fun (J : Option Go.Vc.Loc × Option Go.Vc.Loc × Option Go.Vc.Loc → Array Obj → Prop) ↦
 Nn s_ fun (l : Go.Vc.Loc) ↦
 ∃ (w : Ws (8 : Nat)),
 atWords h l.b l.o IntKind.u32 (8 : Nat) w ∧
 (CallsH Try.prog (75 : Nat) (TVs.vals [TV.slice b]) h fun (v : Value) (h_1 : Heap) ↦
 ∃ (w_1 : Ws (64 : Nat)),
 v = TV.val (TV.words IntKind.u32 (64 : Nat) w_1) ∧
 Ext h h_1 ∧
 (CallsH Try.prog (76 : Nat) (TVs.vals []) h_1 fun (v : Value) (h_2 : Heap) ↦
 ∃ (w_2 : Ws (64 : Nat)),
 v = TV.val (TV.words IntKind.u32 (64 : Nat) w_2) ∧
 Ext h h_2 ∧
 (Vc.Bind (newTV h_2 (TV.words IntKind.u32 (64 : Nat) (Ws.zero (64 : Nat))) (94 : Nat)) fun (h_3 : Array Obj) ↦
 Ext h h_3 ∧
 (Vc.Bind (newTV h_3 (TV.words IntKind.u32 (64 : Nat) (Ws.zero (64 : Nat))) (94 : Nat)) fun (h_4 : Array Obj) ↦
 Ext h h_4 ∧
 Vc.Bind (newTV h_4 (TV.words IntKind.u32 (8 : Nat) (Ws.zero (8 : Nat))) (90 : Nat)) fun (h_5 : Array Obj) ↦
 Ext h h_5 ∧
 wok h_5 (Array.size h_2) (0 : Nat) (64 : Nat) ∧
 Vc.Bind (TV.put h_5 (Array.size h_2) (0 : Nat) (TV.words IntKind.u32 (64 : Nat) w_1)) fun (h_6 : Array Obj) ↦
 Ext h h_6 ∧
 wok h_6 (Array.size h_3) (0 : Nat) (64 : Nat) ∧
 Vc.Bind (TV.put h_6 (Array.size h_3) (0 : Nat) (TV.words IntKind.u32 (64 : Nat) w_2))
 fun (h_7 : Array Obj) ↦
 Ext h h_7 ∧
 wok h_7 (Array.size h_4) (0 : Nat) (8 : Nat) ∧
 Vc.Bind (TV.put h_7 (Array.size h_4) (0 : Nat) (TV.words IntKind.u32 (8 : Nat) w))
 fun (h : Array Obj) ↦
 J
 (some (Loc.mk (Array.size h_2) (0 : Nat)), some (Loc.mk (Array.size h_3) (0 : Nat)),
 some (Loc.mk (Array.size h_4) (0 : Nat)))
 h) ∧
 Vc.Bind (newTV h_3 (TV.words IntKind.u32 (8 : Nat) (Ws.zero (8 : Nat))) (90 : Nat)) fun (h_4 : Array Obj) ↦
 Ext h h_4 ∧
 Vc.Bind (newTV h_4 (TV.words IntKind.u32 (64 : Nat) (Ws.zero (64 : Nat))) (94 : Nat)) fun (h_5 : Array Obj) ↦
 Ext h h_5 ∧
 wok h_5 (Array.size h_2) (0 : Nat) (64 : Nat) ∧
 Vc.Bind (TV.put h_5 (Array.size h_2) (0 : Nat) (TV.words IntKind.u32 (64 : Nat) w_1)) fun (h_6 : Array Obj) ↦
 Ext h h_6 ∧
 wok h_6 (Array.size h_4) (0 : Nat) (64 : Nat) ∧
 Vc.Bind (TV.put h_6 (Array.size h_4) (0 : Nat) (TV.words IntKind.u32 (64 : Nat) w_2))
 fun (h_7 : Array Obj) ↦
 Ext h h_7 ∧
 wok h_7 (Array.size h_3) (0 : Nat) (8 : Nat) ∧
 Vc.Bind (TV.put h_7 (Array.size h_3) (0 : Nat) (TV.words IntKind.u32 (8 : Nat) w))
 fun (h : Array Obj) ↦
 J
 (some (Loc.mk (Array.size h_2) (0 : Nat)), some (Loc.mk (Array.size h_4) (0 : Nat)),
 some (Loc.mk (Array.size h_3) (0 : Nat)))
 h) ∧
 (Vc.Bind (newTV h_2 (TV.words IntKind.u32 (64 : Nat) (Ws.zero (64 : Nat))) (94 : Nat)) fun (h_3 : Array Obj) ↦
 Ext h h_3 ∧
 (Vc.Bind (newTV h_3 (TV.words IntKind.u32 (64 : Nat) (Ws.zero (64 : Nat))) (94 : Nat)) fun (h_4 : Array Obj) ↦
 Ext h h_4 ∧
 Vc.Bind (newTV h_4 (TV.words IntKind.u32 (8 : Nat) (Ws.zero (8 : Nat))) (90 : Nat)) fun (h_5 : Array Obj) ↦
 Ext h h_5 ∧
 wok h_5 (Array.size h_3) (0 : Nat) (64 : Nat) ∧
 Vc.Bind (TV.put h_5 (Array.size h_3) (0 : Nat) (TV.words IntKind.u32 (64 : Nat) w_1)) fun (h_6 : Array Obj) ↦
 Ext h h_6 ∧
 wok h_6 (Array.size h_2) (0 : Nat) (64 : Nat) ∧
 Vc.Bind (TV.put h_6 (Array.size h_2) (0 : Nat) (TV.words IntKind.u32 (64 : Nat) w_2))
 fun (h_7 : Array Obj) ↦
 Ext h h_7 ∧
 wok h_7 (Array.size h_4) (0 : Nat) (8 : Nat) ∧
 Vc.Bind (TV.put h_7 (Array.size h_4) (0 : Nat) (TV.words IntKind.u32 (8 : Nat) w))
 fun (h : Array Obj) ↦
 J
 (some (Loc.mk (Array.size h_3) (0 : Nat)), some (Loc.mk (Array.size h_2) (0 : Nat)),
 some (Loc.mk (Array.size h_4) (0 : Nat)))
 h) ∧
 Vc.Bind (newTV h_3 (TV.words IntKind.u32 (8 : Nat) (Ws.zero (8 : Nat))) (90 : Nat)) fun (h_4 : Array Obj) ↦
 Ext h h_4 ∧
 Vc.Bind (newTV h_4 (TV.words IntKind.u32 (64 : Nat) (Ws.zero (64 : Nat))) (94 : Nat)) fun (h_5 : Array Obj) ↦
 Ext h h_5 ∧
 wok h_5 (Array.size h_4) (0 : Nat) (64 : Nat) ∧
 Vc.Bind (TV.put h_5 (Array.size h_4) (0 : Nat) (TV.words IntKind.u32 (64 : Nat) w_1)) fun (h_6 : Array Obj) ↦
 Ext h h_6 ∧
 wok h_6 (Array.size h_2) (0 : Nat) (64 : Nat) ∧
 Vc.Bind (TV.put h_6 (Array.size h_2) (0 : Nat) (TV.words IntKind.u32 (64 : Nat) w_2))
 fun (h_7 : Array Obj) ↦
 Ext h h_7 ∧
 wok h_7 (Array.size h_3) (0 : Nat) (8 : Nat) ∧
 Vc.Bind (TV.put h_7 (Array.size h_3) (0 : Nat) (TV.words IntKind.u32 (8 : Nat) w))
 fun (h : Array Obj) ↦
 J
 (some (Loc.mk (Array.size h_4) (0 : Nat)), some (Loc.mk (Array.size h_2) (0 : Nat)),
 some (Loc.mk (Array.size h_3) (0 : Nat)))
 h) ∧
 Vc.Bind (newTV h_2 (TV.words IntKind.u32 (8 : Nat) (Ws.zero (8 : Nat))) (90 : Nat)) fun (h_3 : Array Obj) ↦
 Ext h h_3 ∧
 (Vc.Bind (newTV h_3 (TV.words IntKind.u32 (64 : Nat) (Ws.zero (64 : Nat))) (94 : Nat)) fun (h_4 : Array Obj) ↦
 Ext h h_4 ∧
 Vc.Bind (newTV h_4 (TV.words IntKind.u32 (64 : Nat) (Ws.zero (64 : Nat))) (94 : Nat)) fun (h_5 : Array Obj) ↦
 Ext h h_5 ∧
 wok h_5 (Array.size h_3) (0 : Nat) (64 : Nat) ∧
 Vc.Bind (TV.put h_5 (Array.size h_3) (0 : Nat) (TV.words IntKind.u32 (64 : Nat) w_1)) fun (h_6 : Array Obj) ↦
 Ext h h_6 ∧
 wok h_6 (Array.size h_4) (0 : Nat) (64 : Nat) ∧
 Vc.Bind (TV.put h_6 (Array.size h_4) (0 : Nat) (TV.words IntKind.u32 (64 : Nat) w_2))
 fun (h_7 : Array Obj) ↦
 Ext h h_7 ∧
 wok h_7 (Array.size h_2) (0 : Nat) (8 : Nat) ∧
 Vc.Bind (TV.put h_7 (Array.size h_2) (0 : Nat) (TV.words IntKind.u32 (8 : Nat) w))
 fun (h : Array Obj) ↦
 J
 (some (Loc.mk (Array.size h_3) (0 : Nat)), some (Loc.mk (Array.size h_4) (0 : Nat)),
 some (Loc.mk (Array.size h_2) (0 : Nat)))
 h) ∧
 Vc.Bind (newTV h_3 (TV.words IntKind.u32 (64 : Nat) (Ws.zero (64 : Nat))) (94 : Nat)) fun (h_4 : Array Obj) ↦
 Ext h h_4 ∧
 Vc.Bind (newTV h_4 (TV.words IntKind.u32 (64 : Nat) (Ws.zero (64 : Nat))) (94 : Nat)) fun (h_5 : Array Obj) ↦
 Ext h h_5 ∧
 wok h_5 (Array.size h_4) (0 : Nat) (64 : Nat) ∧
 Vc.Bind (TV.put h_5 (Array.size h_4) (0 : Nat) (TV.words IntKind.u32 (64 : Nat) w_1)) fun (h_6 : Array Obj) ↦
 Ext h h_6 ∧
 wok h_6 (Array.size h_3) (0 : Nat) (64 : Nat) ∧
 Vc.Bind (TV.put h_6 (Array.size h_3) (0 : Nat) (TV.words IntKind.u32 (64 : Nat) w_2))
 fun (h_7 : Array Obj) ↦
 Ext h h_7 ∧
 wok h_7 (Array.size h_2) (0 : Nat) (8 : Nat) ∧
 Vc.Bind (TV.put h_7 (Array.size h_2) (0 : Nat) (TV.words IntKind.u32 (8 : Nat) w))
 fun (h : Array Obj) ↦
 J
 (some (Loc.mk (Array.size h_4) (0 : Nat)), some (Loc.mk (Array.size h_3) (0 : Nat)),
 some (Loc.mk (Array.size h_2) (0 : Nat)))
 h) ∧
 (Vc.Bind (newTV h_1 (TV.words IntKind.u32 (64 : Nat) (Ws.zero (64 : Nat))) (94 : Nat)) fun (h_2 : Array Obj) ↦
 Ext h h_2 ∧
 (CallsH Try.prog (76 : Nat) (TVs.vals []) h_2 fun (v : Value) (h_3 : Array Obj) ↦
 ∃ (w_2 : Ws (64 : Nat)),
 v = TV.val (TV.words IntKind.u32 (64 : Nat) w_2) ∧
 Ext h h_3 ∧
 (Vc.Bind (newTV h_3 (TV.words IntKind.u32 (64 : Nat) (Ws.zero (64 : Nat))) (94 : Nat)) fun (h_4 : Array Obj) ↦
 Ext h h_4 ∧
 Vc.Bind (newTV h_4 (TV.words IntKind.u32 (8 : Nat) (Ws.zero (8 : Nat))) (90 : Nat)) fun (h_5 : Array Obj) ↦
 Ext h h_5 ∧
 wok h_5 (Array.size h_1) (0 : Nat) (64 : Nat) ∧
 Vc.Bind (TV.put h_5 (Array.size h_1) (0 : Nat) (TV.words IntKind.u32 (64 : Nat) w_1)) fun (h_6 : Array Obj) ↦
 Ext h h_6 ∧
 wok h_6 (Array.size h_3) (0 : Nat) (64 : Nat) ∧
 Vc.Bind (TV.put h_6 (Array.size h_3) (0 : Nat) (TV.words IntKind.u32 (64 : Nat) w_2))
 fun (h_7 : Array Obj) ↦
 Ext h h_7 ∧
 wok h_7 (Array.size h_4) (0 : Nat) (8 : Nat) ∧
 Vc.Bind (TV.put h_7 (Array.size h_4) (0 : Nat) (TV.words IntKind.u32 (8 : Nat) w))
 fun (h : Array Obj) ↦
 J
 (some (Loc.mk (Array.size h_1) (0 : Nat)), some (Loc.mk (Array.size h_3) (0 : Nat)),
 some (Loc.mk (Array.size h_4) (0 : Nat)))
 h) ∧
 Vc.Bind (newTV h_3 (TV.words IntKind.u32 (8 : Nat) (Ws.zero (8 : Nat))) (90 : Nat)) fun (h_4 : Array Obj) ↦
 Ext h h_4 ∧
 Vc.Bind (newTV h_4 (TV.words IntKind.u32 (64 : Nat) (Ws.zero (64 : Nat))) (94 : Nat)) fun (h_5 : Array Obj) ↦
 Ext h h_5 ∧
 wok h_5 (Array.size h_1) (0 : Nat) (64 : Nat) ∧
 Vc.Bind (TV.put h_5 (Array.size h_1) (0 : Nat) (TV.words IntKind.u32 (64 : Nat) w_1)) fun (h_6 : Array Obj) ↦
 Ext h h_6 ∧
 wok h_6 (Array.size h_4) (0 : Nat) (64 : Nat) ∧
 Vc.Bind (TV.put h_6 (Array.size h_4) (0 : Nat) (TV.words IntKind.u32 (64 : Nat) w_2))
 fun (h_7 : Array Obj) ↦
 Ext h h_7 ∧
 wok h_7 (Array.size h_3) (0 : Nat) (8 : Nat) ∧
 Vc.Bind (TV.put h_7 (Array.size h_3) (0 : Nat) (TV.words IntKind.u32 (8 : Nat) w))
 fun (h : Array Obj) ↦
 J
 (some (Loc.mk (Array.size h_1) (0 : Nat)), some (Loc.mk (Array.size h_4) (0 : Nat)),
 some (Loc.mk (Array.size h_3) (0 : Nat)))
 h) ∧
 (Vc.Bind (newTV h_2 (TV.words IntKind.u32 (64 : Nat) (Ws.zero (64 : Nat))) (94 : Nat)) fun (h_3 : Array Obj) ↦
 Ext h h_3 ∧
 (CallsH Try.prog (76 : Nat) (TVs.vals []) h_3 fun (v : Value) (h_4 : Array Obj) ↦
 ∃ (w_2 : Ws (64 : Nat)),
 v = TV.val (TV.words IntKind.u32 (64 : Nat) w_2) ∧
 Ext h h_4 ∧
 Vc.Bind (newTV h_4 (TV.words IntKind.u32 (8 : Nat) (Ws.zero (8 : Nat))) (90 : Nat)) fun (h_5 : Array Obj) ↦
 Ext h h_5 ∧
 wok h_5 (Array.size h_1) (0 : Nat) (64 : Nat) ∧
 Vc.Bind (TV.put h_5 (Array.size h_1) (0 : Nat) (TV.words IntKind.u32 (64 : Nat) w_1)) fun (h_6 : Array Obj) ↦
 Ext h h_6 ∧
 wok h_6 (Array.size h_2) (0 : Nat) (64 : Nat) ∧
 Vc.Bind (TV.put h_6 (Array.size h_2) (0 : Nat) (TV.words IntKind.u32 (64 : Nat) w_2))
 fun (h_7 : Array Obj) ↦
 Ext h h_7 ∧
 wok h_7 (Array.size h_4) (0 : Nat) (8 : Nat) ∧
 Vc.Bind (TV.put h_7 (Array.size h_4) (0 : Nat) (TV.words IntKind.u32 (8 : Nat) w))
 fun (h : Array Obj) ↦
 J
 (some (Loc.mk (Array.size h_1) (0 : Nat)), some (Loc.mk (Array.size h_2) (0 : Nat)),
 some (Loc.mk (Array.size h_4) (0 : Nat)))
 h) ∧
 Vc.Bind (newTV h_3 (TV.words IntKind.u32 (8 : Nat) (Ws.zero (8 : Nat))) (90 : Nat)) fun (h_4 : Array Obj) ↦
 Ext h h_4 ∧
 CallsH Try.prog (76 : Nat) (TVs.vals []) h_4 fun (v : Value) (h_5 : Array Obj) ↦
 ∃ (w_2 : Ws (64 : Nat)),
 v = TV.val (TV.words IntKind.u32 (64 : Nat) w_2) ∧
 Ext h h_5 ∧
 wok h_5 (Array.size h_1) (0 : Nat) (64 : Nat) ∧
 Vc.Bind (TV.put h_5 (Array.size h_1) (0 : Nat) (TV.words IntKind.u32 (64 : Nat) w_1)) fun (h_6 : Array Obj) ↦
 Ext h h_6 ∧
 wok h_6 (Array.size h_2) (0 : Nat) (64 : Nat) ∧
 Vc.Bind (TV.put h_6 (Array.size h_2) (0 : Nat) (TV.words IntKind.u32 (64 : Nat) w_2))
 fun (h_7 : Array Obj) ↦
 Ext h h_7 ∧
 wok h_7 (Array.size h_3) (0 : Nat) (8 : Nat) ∧
 Vc.Bind (TV.put h_7 (Array.size h_3) (0 : Nat) (TV.words IntKind.u32 (8 : Nat) w))
 fun (h : Array Obj) ↦
 J
 (some (Loc.mk (Array.size h_1) (0 : Nat)), some (Loc.mk (Array.size h_2) (0 : Nat)),
 some (Loc.mk (Array.size h_3) (0 : Nat)))
 h) ∧
 Vc.Bind (newTV h_2 (TV.words IntKind.u32 (8 : Nat) (Ws.zero (8 : Nat))) (90 : Nat)) fun (h_3 : Array Obj) ↦
 Ext h h_3 ∧
 (CallsH Try.prog (76 : Nat) (TVs.vals []) h_3 fun (v : Value) (h_4 : Array Obj) ↦
 ∃ (w_2 : Ws (64 : Nat)),
 v = TV.val (TV.words IntKind.u32 (64 : Nat) w_2) ∧
 Ext h h_4 ∧
 Vc.Bind (newTV h_4 (TV.words IntKind.u32 (64 : Nat) (Ws.zero (64 : Nat))) (94 : Nat)) fun (h_5 : Array Obj) ↦
 Ext h h_5 ∧
 wok h_5 (Array.size h_1) (0 : Nat) (64 : Nat) ∧
 Vc.Bind (TV.put h_5 (Array.size h_1) (0 : Nat) (TV.words IntKind.u32 (64 : Nat) w_1)) fun (h_6 : Array Obj) ↦
 Ext h h_6 ∧
 wok h_6 (Array.size h_4) (0 : Nat) (64 : Nat) ∧
 Vc.Bind (TV.put h_6 (Array.size h_4) (0 : Nat) (TV.words IntKind.u32 (64 : Nat) w_2))
 fun (h_7 : Array Obj) ↦
 Ext h h_7 ∧
 wok h_7 (Array.size h_2) (0 : Nat) (8 : Nat) ∧
 Vc.Bind (TV.put h_7 (Array.size h_2) (0 : Nat) (TV.words IntKind.u32 (8 : Nat) w))
 fun (h : Array Obj) ↦
 J
 (some (Loc.mk (Array.size h_1) (0 : Nat)), some (Loc.mk (Array.size h_4) (0 : Nat)),
 some (Loc.mk (Array.size h_2) (0 : Nat)))
 h) ∧
 Vc.Bind (newTV h_3 (TV.words IntKind.u32 (64 : Nat) (Ws.zero (64 : Nat))) (94 : Nat)) fun (h_4 : Array Obj) ↦
 Ext h h_4 ∧
 CallsH Try.prog (76 : Nat) (TVs.vals []) h_4 fun (v : Value) (h_5 : Array Obj) ↦
 ∃ (w_2 : Ws (64 : Nat)),
 v = TV.val (TV.words IntKind.u32 (64 : Nat) w_2) ∧
 Ext h h_5 ∧
 wok h_5 (Array.size h_1) (0 : Nat) (64 : Nat) ∧
 Vc.Bind (TV.put h_5 (Array.size h_1) (0 : Nat) (TV.words IntKind.u32 (64 : Nat) w_1)) fun (h_6 : Array Obj) ↦
 Ext h h_6 ∧
 wok h_6 (Array.size h_3) (0 : Nat) (64 : Nat) ∧
 Vc.Bind (TV.put h_6 (Array.size h_3) (0 : Nat) (TV.words IntKind.u32 (64 : Nat) w_2))
 fun (h_7 : Array Obj) ↦
 Ext h h_7 ∧
 wok h_7 (Array.size h_2) (0 : Nat) (8 : Nat) ∧
 Vc.Bind (TV.put h_7 (Array.size h_2) (0 : Nat) (TV.words IntKind.u32 (8 : Nat) w))
 fun (h : Array Obj) ↦
 J
 (some (Loc.mk (Array.size h_1) (0 : Nat)), some (Loc.mk (Array.size h_3) (0 : Nat)),
 some (Loc.mk (Array.size h_2) (0 : Nat)))
 h) ∧
 (Vc.Bind (newTV h_1 (TV.words IntKind.u32 (64 : Nat) (Ws.zero (64 : Nat))) (94 : Nat)) fun (h_2 : Array Obj) ↦
 Ext h h_2 ∧
 (CallsH Try.prog (76 : Nat) (TVs.vals []) h_2 fun (v : Value) (h_3 : Array Obj) ↦
 ∃ (w_2 : Ws (64 : Nat)),
 v = TV.val (TV.words IntKind.u32 (64 : Nat) w_2) ∧
 Ext h h_3 ∧
 (Vc.Bind (newTV h_3 (TV.words IntKind.u32 (64 : Nat) (Ws.zero (64 : Nat))) (94 : Nat)) fun (h_4 : Array Obj) ↦
 Ext h h_4 ∧
 Vc.Bind (newTV h_4 (TV.words IntKind.u32 (8 : Nat) (Ws.zero (8 : Nat))) (90 : Nat)) fun (h_5 : Array Obj) ↦
 Ext h h_5 ∧
 wok h_5 (Array.size h_3) (0 : Nat) (64 : Nat) ∧
 Vc.Bind (TV.put h_5 (Array.size h_3) (0 : Nat) (TV.words IntKind.u32 (64 : Nat) w_1)) fun (h_6 : Array Obj) ↦
 Ext h h_6 ∧
 wok h_6 (Array.size h_1) (0 : Nat) (64 : Nat) ∧
 Vc.Bind (TV.put h_6 (Array.size h_1) (0 : Nat) (TV.words IntKind.u32 (64 : Nat) w_2))
 fun (h_7 : Array Obj) ↦
 Ext h h_7 ∧
 wok h_7 (Array.size h_4) (0 : Nat) (8 : Nat) ∧
 Vc.Bind (TV.put h_7 (Array.size h_4) (0 : Nat) (TV.words IntKind.u32 (8 : Nat) w))
 fun (h : Array Obj) ↦
 J
 (some (Loc.mk (Array.size h_3) (0 : Nat)), some (Loc.mk (Array.size h_1) (0 : Nat)),
 some (Loc.mk (Array.size h_4) (0 : Nat)))
 h) ∧
 Vc.Bind (newTV h_3 (TV.words IntKind.u32 (8 : Nat) (Ws.zero (8 : Nat))) (90 : Nat)) fun (h_4 : Array Obj) ↦
 Ext h h_4 ∧
 Vc.Bind (newTV h_4 (TV.words IntKind.u32 (64 : Nat) (Ws.zero (64 : Nat))) (94 : Nat)) fun (h_5 : Array Obj) ↦
 Ext h h_5 ∧
 wok h_5 (Array.size h_4) (0 : Nat) (64 : Nat) ∧
 Vc.Bind (TV.put h_5 (Array.size h_4) (0 : Nat) (TV.words IntKind.u32 (64 : Nat) w_1)) fun (h_6 : Array Obj) ↦
 Ext h h_6 ∧
 wok h_6 (Array.size h_1) (0 : Nat) (64 : Nat) ∧
 Vc.Bind (TV.put h_6 (Array.size h_1) (0 : Nat) (TV.words IntKind.u32 (64 : Nat) w_2))
 fun (h_7 : Array Obj) ↦
 Ext h h_7 ∧
 wok h_7 (Array.size h_3) (0 : Nat) (8 : Nat) ∧
 Vc.Bind (TV.put h_7 (Array.size h_3) (0 : Nat) (TV.words IntKind.u32 (8 : Nat) w))
 fun (h : Array Obj) ↦
 J
 (some (Loc.mk (Array.size h_4) (0 : Nat)), some (Loc.mk (Array.size h_1) (0 : Nat)),
 some (Loc.mk (Array.size h_3) (0 : Nat)))
 h) ∧
 (Vc.Bind (newTV h_2 (TV.words IntKind.u32 (64 : Nat) (Ws.zero (64 : Nat))) (94 : Nat)) fun (h_3 : Array Obj) ↦
 Ext h h_3 ∧
 (CallsH Try.prog (76 : Nat) (TVs.vals []) h_3 fun (v : Value) (h_4 : Array Obj) ↦
 ∃ (w_2 : Ws (64 : Nat)),
 v = TV.val (TV.words IntKind.u32 (64 : Nat) w_2) ∧
 Ext h h_4 ∧
 Vc.Bind (newTV h_4 (TV.words IntKind.u32 (8 : Nat) (Ws.zero (8 : Nat))) (90 : Nat)) fun (h_5 : Array Obj) ↦
 Ext h h_5 ∧
 wok h_5 (Array.size h_2) (0 : Nat) (64 : Nat) ∧
 Vc.Bind (TV.put h_5 (Array.size h_2) (0 : Nat) (TV.words IntKind.u32 (64 : Nat) w_1))
 fun (h_6 : Array Obj) ↦
 Ext h h_6 ∧
 wok h_6 (Array.size h_1) (0 : Nat) (64 : Nat) ∧
 Vc.Bind (TV.put h_6 (Array.size h_1) (0 : Nat) (TV.words IntKind.u32 (64 : Nat) w_2))
 fun (h_7 : Array Obj) ↦
 Ext h h_7 ∧
 wok h_7 (Array.size h_4) (0 : Nat) (8 : Nat) ∧
 Vc.Bind (TV.put h_7 (Array.size h_4) (0 : Nat) (TV.words IntKind.u32 (8 : Nat) w))
 fun (h : Array Obj) ↦
 J
 (some (Loc.mk (Array.size h_2) (0 : Nat)), some (Loc.mk (Array.size h_1) (0 : Nat)),
 some (Loc.mk (Array.size h_4) (0 : Nat)))
 h) ∧
 Vc.Bind (newTV h_3 (TV.words IntKind.u32 (8 : Nat) (Ws.zero (8 : Nat))) (90 : Nat)) fun (h_4 : Array Obj) ↦
 Ext h h_4 ∧
 CallsH Try.prog (76 : Nat) (TVs.vals []) h_4 fun (v : Value) (h_5 : Array Obj) ↦
 ∃ (w_2 : Ws (64 : Nat)),
 v = TV.val (TV.words IntKind.u32 (64 : Nat) w_2) ∧
 Ext h h_5 ∧
 wok h_5 (Array.size h_2) (0 : Nat) (64 : Nat) ∧
 Vc.Bind (TV.put h_5 (Array.size h_2) (0 : Nat) (TV.words IntKind.u32 (64 : Nat) w_1))
 fun (h_6 : Array Obj) ↦
 Ext h h_6 ∧
 wok h_6 (Array.size h_1) (0 : Nat) (64 : Nat) ∧
 Vc.Bind (TV.put h_6 (Array.size h_1) (0 : Nat) (TV.words IntKind.u32 (64 : Nat) w_2))
 fun (h_7 : Array Obj) ↦
 Ext h h_7 ∧
 wok h_7 (Array.size h_3) (0 : Nat) (8 : Nat) ∧
 Vc.Bind (TV.put h_7 (Array.size h_3) (0 : Nat) (TV.words IntKind.u32 (8 : Nat) w))
 fun (h : Array Obj) ↦
 J
 (some (Loc.mk (Array.size h_2) (0 : Nat)), some (Loc.mk (Array.size h_1) (0 : Nat)),
 some (Loc.mk (Array.size h_3) (0 : Nat)))
 h) ∧
 Vc.Bind (newTV h_2 (TV.words IntKind.u32 (8 : Nat) (Ws.zero (8 : Nat))) (90 : Nat)) fun (h_3 : Array Obj) ↦
 Ext h h_3 ∧
 (CallsH Try.prog (76 : Nat) (TVs.vals []) h_3 fun (v : Value) (h_4 : Array Obj) ↦
 ∃ (w_2 : Ws (64 : Nat)),
 v = TV.val (TV.words IntKind.u32 (64 : Nat) w_2) ∧
 Ext h h_4 ∧
 Vc.Bind (newTV h_4 (TV.words IntKind.u32 (64 : Nat) (Ws.zero (64 : Nat))) (94 : Nat)) fun (h_5 : Array Obj) ↦
 Ext h h_5 ∧
 wok h_5 (Array.size h_4) (0 : Nat) (64 : Nat) ∧
 Vc.Bind (TV.put h_5 (Array.size h_4) (0 : Nat) (TV.words IntKind.u32 (64 : Nat) w_1))
 fun (h_6 : Array Obj) ↦
 Ext h h_6 ∧
 wok h_6 (Array.size h_1) (0 : Nat) (64 : Nat) ∧
 Vc.Bind (TV.put h_6 (Array.size h_1) (0 : Nat) (TV.words IntKind.u32 (64 : Nat) w_2))
 fun (h_7 : Array Obj) ↦
 Ext h h_7 ∧
 wok h_7 (Array.size h_2) (0 : Nat) (8 : Nat) ∧
 Vc.Bind (TV.put h_7 (Array.size h_2) (0 : Nat) (TV.words IntKind.u32 (8 : Nat) w))
 fun (h : Array Obj) ↦
 J
 (some (Loc.mk (Array.size h_4) (0 : Nat)), some (Loc.mk (Array.size h_1) (0 : Nat)),
 some (Loc.mk (Array.size h_2) (0 : Nat)))
 h) ∧
 Vc.Bind (newTV h_3 (TV.words IntKind.u32 (64 : Nat) (Ws.zero (64 : Nat))) (94 : Nat)) fun (h_4 : Array Obj) ↦
 Ext h h_4 ∧
 CallsH Try.prog (76 : Nat) (TVs.vals []) h_4 fun (v : Value) (h_5 : Array Obj) ↦
 ∃ (w_2 : Ws (64 : Nat)),
 v = TV.val (TV.words IntKind.u32 (64 : Nat) w_2) ∧
 Ext h h_5 ∧
 wok h_5 (Array.size h_3) (0 : Nat) (64 : Nat) ∧
 Vc.Bind (TV.put h_5 (Array.size h_3) (0 : Nat) (TV.words IntKind.u32 (64 : Nat) w_1))
 fun (h_6 : Array Obj) ↦
 Ext h h_6 ∧
 wok h_6 (Array.size h_1) (0 : Nat) (64 : Nat) ∧
 Vc.Bind (TV.put h_6 (Array.size h_1) (0 : Nat) (TV.words IntKind.u32 (64 : Nat) w_2))
 fun (h_7 : Array Obj) ↦
 Ext h h_7 ∧
 wok h_7 (Array.size h_2) (0 : Nat) (8 : Nat) ∧
 Vc.Bind (TV.put h_7 (Array.size h_2) (0 : Nat) (TV.words IntKind.u32 (8 : Nat) w))
 fun (h : Array Obj) ↦
 J
 (some (Loc.mk (Array.size h_3) (0 : Nat)), some (Loc.mk (Array.size h_1) (0 : Nat)),
 some (Loc.mk (Array.size h_2) (0 : Nat)))
 h) ∧
 Vc.Bind (newTV h_1 (TV.words IntKind.u32 (8 : Nat) (Ws.zero (8 : Nat))) (90 : Nat)) fun (h_2 : Array Obj) ↦
 Ext h h_2 ∧
 (CallsH Try.prog (76 : Nat) (TVs.vals []) h_2 fun (v : Value) (h_3 : Array Obj) ↦
 ∃ (w_2 : Ws (64 : Nat)),
 v = TV.val (TV.words IntKind.u32 (64 : Nat) w_2) ∧
 Ext h h_3 ∧
 (Vc.Bind (newTV h_3 (TV.words IntKind.u32 (64 : Nat) (Ws.zero (64 : Nat))) (94 : Nat)) fun (h_4 : Array Obj) ↦
 Ext h h_4 ∧
 Vc.Bind (newTV h_4 (TV.words IntKind.u32 (64 : Nat) (Ws.zero (64 : Nat))) (94 : Nat)) fun (h_5 : Array Obj) ↦
 Ext h h_5 ∧
 wok h_5 (Array.size h_3) (0 : Nat) (64 : Nat) ∧
 Vc.Bind (TV.put h_5 (Array.size h_3) (0 : Nat) (TV.words IntKind.u32 (64 : Nat) w_1)) fun (h_6 : Array Obj) ↦
 Ext h h_6 ∧
 wok h_6 (Array.size h_4) (0 : Nat) (64 : Nat) ∧
 Vc.Bind (TV.put h_6 (Array.size h_4) (0 : Nat) (TV.words IntKind.u32 (64 : Nat) w_2))
 fun (h_7 : Array Obj) ↦
 Ext h h_7 ∧
 wok h_7 (Array.size h_1) (0 : Nat) (8 : Nat) ∧
 Vc.Bind (TV.put h_7 (Array.size h_1) (0 : Nat) (TV.words IntKind.u32 (8 : Nat) w))
 fun (h : Array Obj) ↦
 J
 (some (Loc.mk (Array.size h_3) (0 : Nat)), some (Loc.mk (Array.size h_4) (0 : Nat)),
 some (Loc.mk (Array.size h_1) (0 : Nat)))
 h) ∧
 Vc.Bind (newTV h_3 (TV.words IntKind.u32 (64 : Nat) (Ws.zero (64 : Nat))) (94 : Nat)) fun (h_4 : Array Obj) ↦
 Ext h h_4 ∧
 Vc.Bind (newTV h_4 (TV.words IntKind.u32 (64 : Nat) (Ws.zero (64 : Nat))) (94 : Nat)) fun (h_5 : Array Obj) ↦
 Ext h h_5 ∧
 wok h_5 (Array.size h_4) (0 : Nat) (64 : Nat) ∧
 Vc.Bind (TV.put h_5 (Array.size h_4) (0 : Nat) (TV.words IntKind.u32 (64 : Nat) w_1)) fun (h_6 : Array Obj) ↦
 Ext h h_6 ∧
 wok h_6 (Array.size h_3) (0 : Nat) (64 : Nat) ∧
 Vc.Bind (TV.put h_6 (Array.size h_3) (0 : Nat) (TV.words IntKind.u32 (64 : Nat) w_2))
 fun (h_7 : Array Obj) ↦
 Ext h h_7 ∧
 wok h_7 (Array.size h_1) (0 : Nat) (8 : Nat) ∧
 Vc.Bind (TV.put h_7 (Array.size h_1) (0 : Nat) (TV.words IntKind.u32 (8 : Nat) w))
 fun (h : Array Obj) ↦
 J
 (some (Loc.mk (Array.size h_4) (0 : Nat)), some (Loc.mk (Array.size h_3) (0 : Nat)),
 some (Loc.mk (Array.size h_1) (0 : Nat)))
 h) ∧
 (Vc.Bind (newTV h_2 (TV.words IntKind.u32 (64 : Nat) (Ws.zero (64 : Nat))) (94 : Nat)) fun (h_3 : Array Obj) ↦
 Ext h h_3 ∧
 (CallsH Try.prog (76 : Nat) (TVs.vals []) h_3 fun (v : Value) (h_4 : Array Obj) ↦
 ∃ (w_2 : Ws (64 : Nat)),
 v = TV.val (TV.words IntKind.u32 (64 : Nat) w_2) ∧
 Ext h h_4 ∧
 Vc.Bind (newTV h_4 (TV.words IntKind.u32 (64 : Nat) (Ws.zero (64 : Nat))) (94 : Nat)) fun (h_5 : Array Obj) ↦
 Ext h h_5 ∧
 wok h_5 (Array.size h_2) (0 : Nat) (64 : Nat) ∧
 Vc.Bind (TV.put h_5 (Array.size h_2) (0 : Nat) (TV.words IntKind.u32 (64 : Nat) w_1))
 fun (h_6 : Array Obj) ↦
 Ext h h_6 ∧
 wok h_6 (Array.size h_4) (0 : Nat) (64 : Nat) ∧
 Vc.Bind (TV.put h_6 (Array.size h_4) (0 : Nat) (TV.words IntKind.u32 (64 : Nat) w_2))
 fun (h_7 : Array Obj) ↦
 Ext h h_7 ∧
 wok h_7 (Array.size h_1) (0 : Nat) (8 : Nat) ∧
 Vc.Bind (TV.put h_7 (Array.size h_1) (0 : Nat) (TV.words IntKind.u32 (8 : Nat) w))
 fun (h : Array Obj) ↦
 J
 (some (Loc.mk (Array.size h_2) (0 : Nat)), some (Loc.mk (Array.size h_4) (0 : Nat)),
 some (Loc.mk (Array.size h_1) (0 : Nat)))
 h) ∧
 Vc.Bind (newTV h_3 (TV.words IntKind.u32 (64 : Nat) (Ws.zero (64 : Nat))) (94 : Nat)) fun (h_4 : Array Obj) ↦
 Ext h h_4 ∧
 CallsH Try.prog (76 : Nat) (TVs.vals []) h_4 fun (v : Value) (h_5 : Array Obj) ↦
 ∃ (w_2 : Ws (64 : Nat)),
 v = TV.val (TV.words IntKind.u32 (64 : Nat) w_2) ∧
 Ext h h_5 ∧
 wok h_5 (Array.size h_2) (0 : Nat) (64 : Nat) ∧
 Vc.Bind (TV.put h_5 (Array.size h_2) (0 : Nat) (TV.words IntKind.u32 (64 : Nat) w_1))
 fun (h_6 : Array Obj) ↦
 Ext h h_6 ∧
 wok h_6 (Array.size h_3) (0 : Nat) (64 : Nat) ∧
 Vc.Bind (TV.put h_6 (Array.size h_3) (0 : Nat) (TV.words IntKind.u32 (64 : Nat) w_2))
 fun (h_7 : Array Obj) ↦
 Ext h h_7 ∧
 wok h_7 (Array.size h_1) (0 : Nat) (8 : Nat) ∧
 Vc.Bind (TV.put h_7 (Array.size h_1) (0 : Nat) (TV.words IntKind.u32 (8 : Nat) w))
 fun (h : Array Obj) ↦
 J
 (some (Loc.mk (Array.size h_2) (0 : Nat)), some (Loc.mk (Array.size h_3) (0 : Nat)),
 some (Loc.mk (Array.size h_1) (0 : Nat)))
 h) ∧
 Vc.Bind (newTV h_2 (TV.words IntKind.u32 (64 : Nat) (Ws.zero (64 : Nat))) (94 : Nat)) fun (h_3 : Array Obj) ↦
 Ext h h_3 ∧
 (CallsH Try.prog (76 : Nat) (TVs.vals []) h_3 fun (v : Value) (h_4 : Array Obj) ↦
 ∃ (w_2 : Ws (64 : Nat)),
 v = TV.val (TV.words IntKind.u32 (64 : Nat) w_2) ∧
 Ext h h_4 ∧
 Vc.Bind (newTV h_4 (TV.words IntKind.u32 (64 : Nat) (Ws.zero (64 : Nat))) (94 : Nat)) fun (h_5 : Array Obj) ↦
 Ext h h_5 ∧
 wok h_5 (Array.size h_4) (0 : Nat) (64 : Nat) ∧
 Vc.Bind (TV.put h_5 (Array.size h_4) (0 : Nat) (TV.words IntKind.u32 (64 : Nat) w_1))
 fun (h_6 : Array Obj) ↦
 Ext h h_6 ∧
 wok h_6 (Array.size h_2) (0 : Nat) (64 : Nat) ∧
 Vc.Bind (TV.put h_6 (Array.size h_2) (0 : Nat) (TV.words IntKind.u32 (64 : Nat) w_2))
 fun (h_7 : Array Obj) ↦
 Ext h h_7 ∧
 wok h_7 (Array.size h_1) (0 : Nat) (8 : Nat) ∧
 Vc.Bind (TV.put h_7 (Array.size h_1) (0 : Nat) (TV.words IntKind.u32 (8 : Nat) w))
 fun (h : Array Obj) ↦
 J
 (some (Loc.mk (Array.size h_4) (0 : Nat)), some (Loc.mk (Array.size h_2) (0 : Nat)),
 some (Loc.mk (Array.size h_1) (0 : Nat)))
 h) ∧
 Vc.Bind (newTV h_3 (TV.words IntKind.u32 (64 : Nat) (Ws.zero (64 : Nat))) (94 : Nat)) fun (h_4 : Array Obj) ↦
 Ext h h_4 ∧
 CallsH Try.prog (76 : Nat) (TVs.vals []) h_4 fun (v : Value) (h_5 : Array Obj) ↦
 ∃ (w_2 : Ws (64 : Nat)),
 v = TV.val (TV.words IntKind.u32 (64 : Nat) w_2) ∧
 Ext h h_5 ∧
 wok h_5 (Array.size h_3) (0 : Nat) (64 : Nat) ∧
 Vc.Bind (TV.put h_5 (Array.size h_3) (0 : Nat) (TV.words IntKind.u32 (64 : Nat) w_1))
 fun (h_6 : Array Obj) ↦
 Ext h h_6 ∧
 wok h_6 (Array.size h_2) (0 : Nat) (64 : Nat) ∧
 Vc.Bind (TV.put h_6 (Array.size h_2) (0 : Nat) (TV.words IntKind.u32 (64 : Nat) w_2))
 fun (h_7 : Array Obj) ↦
 Ext h h_7 ∧
 wok h_7 (Array.size h_1) (0 : Nat) (8 : Nat) ∧
 Vc.Bind (TV.put h_7 (Array.size h_1) (0 : Nat) (TV.words IntKind.u32 (8 : Nat) w))
 fun (h : Array Obj) ↦
 J
 (some (Loc.mk (Array.size h_3) (0 : Nat)), some (Loc.mk (Array.size h_2) (0 : Nat)),
 some (Loc.mk (Array.size h_1) (0 : Nat)))
 h) ∧
 (Vc.Bind (newTV h (TV.words IntKind.u32 (64 : Nat) (Ws.zero (64 : Nat))) (94 : Nat)) fun (h_1 : Array Obj) ↦
 Ext h h_1 ∧
 (CallsH Try.prog (75 : Nat) (TVs.vals [TV.slice b]) h_1 fun (v : Value) (h_2 : Array Obj) ↦
 ∃ (w_1 : Ws (64 : Nat)),
 v = TV.val (TV.words IntKind.u32 (64 : Nat) w_1) ∧
 Ext h h_2 ∧
 (CallsH Try.prog (76 : Nat) (TVs.vals []) h_2 fun (v : Value) (h_3 : Array Obj) ↦
 ∃ (w_2 : Ws (64 : Nat)),
 v = TV.val (TV.words IntKind.u32 (64 : Nat) w_2) ∧
 Ext h h_3 ∧
 (Vc.Bind (newTV h_3 (TV.words IntKind.u32 (64 : Nat) (Ws.zero (64 : Nat))) (94 : Nat)) fun (h_4 : Array Obj) ↦
 Ext h h_4 ∧
 Vc.Bind (newTV h_4 (TV.words IntKind.u32 (8 : Nat) (Ws.zero (8 : Nat))) (90 : Nat)) fun (h_5 : Array Obj) ↦
 Ext h h_5 ∧
 wok h_5 (Array.size h) (0 : Nat) (64 : Nat) ∧
 Vc.Bind (TV.put h_5 (Array.size h) (0 : Nat) (TV.words IntKind.u32 (64 : Nat) w_1)) fun (h_6 : Array Obj) ↦
 Ext h h_6 ∧
 wok h_6 (Array.size h_3) (0 : Nat) (64 : Nat) ∧
 Vc.Bind (TV.put h_6 (Array.size h_3) (0 : Nat) (TV.words IntKind.u32 (64 : Nat) w_2))
 fun (h_7 : Array Obj) ↦
 Ext h h_7 ∧
 wok h_7 (Array.size h_4) (0 : Nat) (8 : Nat) ∧
 Vc.Bind (TV.put h_7 (Array.size h_4) (0 : Nat) (TV.words IntKind.u32 (8 : Nat) w))
 fun (h_8 : Array Obj) ↦
 J
 (some (Loc.mk (Array.size h) (0 : Nat)), some (Loc.mk (Array.size h_3) (0 : Nat)),
 some (Loc.mk (Array.size h_4) (0 : Nat)))
 h_8) ∧
 Vc.Bind (newTV h_3 (TV.words IntKind.u32 (8 : Nat) (Ws.zero (8 : Nat))) (90 : Nat)) fun (h_4 : Array Obj) ↦
 Ext h h_4 ∧
 Vc.Bind (newTV h_4 (TV.words IntKind.u32 (64 : Nat) (Ws.zero (64 : Nat))) (94 : Nat)) fun (h_5 : Array Obj) ↦
 Ext h h_5 ∧
 wok h_5 (Array.size h) (0 : Nat) (64 : Nat) ∧
 Vc.Bind (TV.put h_5 (Array.size h) (0 : Nat) (TV.words IntKind.u32 (64 : Nat) w_1)) fun (h_6 : Array Obj) ↦
 Ext h h_6 ∧
 wok h_6 (Array.size h_4) (0 : Nat) (64 : Nat) ∧
 Vc.Bind (TV.put h_6 (Array.size h_4) (0 : Nat) (TV.words IntKind.u32 (64 : Nat) w_2))
 fun (h_7 : Array Obj) ↦
 Ext h h_7 ∧
 wok h_7 (Array.size h_3) (0 : Nat) (8 : Nat) ∧
 Vc.Bind (TV.put h_7 (Array.size h_3) (0 : Nat) (TV.words IntKind.u32 (8 : Nat) w))
 fun (h_8 : Array Obj) ↦
 J
 (some (Loc.mk (Array.size h) (0 : Nat)), some (Loc.mk (Array.size h_4) (0 : Nat)),
 some (Loc.mk (Array.size h_3) (0 : Nat)))
 h_8) ∧
 (Vc.Bind (newTV h_2 (TV.words IntKind.u32 (64 : Nat) (Ws.zero (64 : Nat))) (94 : Nat)) fun (h_3 : Array Obj) ↦
 Ext h h_3 ∧
 (CallsH Try.prog (76 : Nat) (TVs.vals []) h_3 fun (v : Value) (h_4 : Array Obj) ↦
 ∃ (w_2 : Ws (64 : Nat)),
 v = TV.val (TV.words IntKind.u32 (64 : Nat) w_2) ∧
 Ext h h_4 ∧
 Vc.Bind (newTV h_4 (TV.words IntKind.u32 (8 : Nat) (Ws.zero (8 : Nat))) (90 : Nat)) fun (h_5 : Array Obj) ↦
 Ext h h_5 ∧
 wok h_5 (Array.size h) (0 : Nat) (64 : Nat) ∧
 Vc.Bind (TV.put h_5 (Array.size h) (0 : Nat) (TV.words IntKind.u32 (64 : Nat) w_1)) fun (h_6 : Array Obj) ↦
 Ext h h_6 ∧
 wok h_6 (Array.size h_2) (0 : Nat) (64 : Nat) ∧
 Vc.Bind (TV.put h_6 (Array.size h_2) (0 : Nat) (TV.words IntKind.u32 (64 : Nat) w_2))
 fun (h_7 : Array Obj) ↦
 Ext h h_7 ∧
 wok h_7 (Array.size h_4) (0 : Nat) (8 : Nat) ∧
 Vc.Bind (TV.put h_7 (Array.size h_4) (0 : Nat) (TV.words IntKind.u32 (8 : Nat) w))
 fun (h_8 : Array Obj) ↦
 J
 (some (Loc.mk (Array.size h) (0 : Nat)), some (Loc.mk (Array.size h_2) (0 : Nat)),
 some (Loc.mk (Array.size h_4) (0 : Nat)))
 h_8) ∧
 Vc.Bind (newTV h_3 (TV.words IntKind.u32 (8 : Nat) (Ws.zero (8 : Nat))) (90 : Nat)) fun (h_4 : Array Obj) ↦
 Ext h h_4 ∧
 CallsH Try.prog (76 : Nat) (TVs.vals []) h_4 fun (v : Value) (h_5 : Array Obj) ↦
 ∃ (w_2 : Ws (64 : Nat)),
 v = TV.val (TV.words IntKind.u32 (64 : Nat) w_2) ∧
 Ext h h_5 ∧
 wok h_5 (Array.size h) (0 : Nat) (64 : Nat) ∧
 Vc.Bind (TV.put h_5 (Array.size h) (0 : Nat) (TV.words IntKind.u32 (64 : Nat) w_1)) fun (h_6 : Array Obj) ↦
 Ext h h_6 ∧
 wok h_6 (Array.size h_2) (0 : Nat) (64 : Nat) ∧
 Vc.Bind (TV.put h_6 (Array.size h_2) (0 : Nat) (TV.words IntKind.u32 (64 : Nat) w_2))
 fun (h_7 : Array Obj) ↦
 Ext h h_7 ∧
 wok h_7 (Array.size h_3) (0 : Nat) (8 : Nat) ∧
 Vc.Bind (TV.put h_7 (Array.size h_3) (0 : Nat) (TV.words IntKind.u32 (8 : Nat) w))
 fun (h_8 : Array Obj) ↦
 J
 (some (Loc.mk (Array.size h) (0 : Nat)), some (Loc.mk (Array.size h_2) (0 : Nat)),
 some (Loc.mk (Array.size h_3) (0 : Nat)))
 h_8) ∧
 Vc.Bind (newTV h_2 (TV.words IntKind.u32 (8 : Nat) (Ws.zero (8 : Nat))) (90 : Nat)) fun (h_3 : Array Obj) ↦
 Ext h h_3 ∧
 (CallsH Try.prog (76 : Nat) (TVs.vals []) h_3 fun (v : Value) (h_4 : Array Obj) ↦
 ∃ (w_2 : Ws (64 : Nat)),
 v = TV.val (TV.words IntKind.u32 (64 : Nat) w_2) ∧
 Ext h h_4 ∧
 Vc.Bind (newTV h_4 (TV.words IntKind.u32 (64 : Nat) (Ws.zero (64 : Nat))) (94 : Nat)) fun (h_5 : Array Obj) ↦
 Ext h h_5 ∧
 wok h_5 (Array.size h) (0 : Nat) (64 : Nat) ∧
 Vc.Bind (TV.put h_5 (Array.size h) (0 : Nat) (TV.words IntKind.u32 (64 : Nat) w_1)) fun (h_6 : Array Obj) ↦
 Ext h h_6 ∧
 wok h_6 (Array.size h_4) (0 : Nat) (64 : Nat) ∧
 Vc.Bind (TV.put h_6 (Array.size h_4) (0 : Nat) (TV.words IntKind.u32 (64 : Nat) w_2))
 fun (h_7 : Array Obj) ↦
 Ext h h_7 ∧
 wok h_7 (Array.size h_2) (0 : Nat) (8 : Nat) ∧
 Vc.Bind (TV.put h_7 (Array.size h_2) (0 : Nat) (TV.words IntKind.u32 (8 : Nat) w))
 fun (h_8 : Array Obj) ↦
 J
 (some (Loc.mk (Array.size h) (0 : Nat)), some (Loc.mk (Array.size h_4) (0 : Nat)),
 some (Loc.mk (Array.size h_2) (0 : Nat)))
 h_8) ∧
 Vc.Bind (newTV h_3 (TV.words IntKind.u32 (64 : Nat) (Ws.zero (64 : Nat))) (94 : Nat)) fun (h_4 : Array Obj) ↦
 Ext h h_4 ∧
 CallsH Try.prog (76 : Nat) (TVs.vals []) h_4 fun (v : Value) (h_5 : Array Obj) ↦
 ∃ (w_2 : Ws (64 : Nat)),
 v = TV.val (TV.words IntKind.u32 (64 : Nat) w_2) ∧
 Ext h h_5 ∧
 wok h_5 (Array.size h) (0 : Nat) (64 : Nat) ∧
 Vc.Bind (TV.put h_5 (Array.size h) (0 : Nat) (TV.words IntKind.u32 (64 : Nat) w_1)) fun (h_6 : Array Obj) ↦
 Ext h h_6 ∧
 wok h_6 (Array.size h_3) (0 : Nat) (64 : Nat) ∧
 Vc.Bind (TV.put h_6 (Array.size h_3) (0 : Nat) (TV.words IntKind.u32 (64 : Nat) w_2))
 fun (h_7 : Array Obj) ↦
 Ext h h_7 ∧
 wok h_7 (Array.size h_2) (0 : Nat) (8 : Nat) ∧
 Vc.Bind (TV.put h_7 (Array.size h_2) (0 : Nat) (TV.words IntKind.u32 (8 : Nat) w))
 fun (h_8 : Array Obj) ↦
 J
 (some (Loc.mk (Array.size h) (0 : Nat)), some (Loc.mk (Array.size h_3) (0 : Nat)),
 some (Loc.mk (Array.size h_2) (0 : Nat)))
 h_8) ∧
 (Vc.Bind (newTV h_1 (TV.words IntKind.u32 (64 : Nat) (Ws.zero (64 : Nat))) (94 : Nat)) fun (h_2 : Array Obj) ↦
 Ext h h_2 ∧
 (CallsH Try.prog (75 : Nat) (TVs.vals [TV.slice b]) h_2 fun (v : Value) (h_3 : Array Obj) ↦
 ∃ (w_1 : Ws (64 : Nat)),
 v = TV.val (TV.words IntKind.u32 (64 : Nat) w_1) ∧
 Ext h h_3 ∧
 (CallsH Try.prog (76 : Nat) (TVs.vals []) h_3 fun (v : Value) (h_4 : Array Obj) ↦
 ∃ (w_2 : Ws (64 : Nat)),
 v = TV.val (TV.words IntKind.u32 (64 : Nat) w_2) ∧
 Ext h h_4 ∧
 Vc.Bind (newTV h_4 (TV.words IntKind.u32 (8 : Nat) (Ws.zero (8 : Nat))) (90 : Nat)) fun (h_5 : Array Obj) ↦
 Ext h h_5 ∧
 wok h_5 (Array.size h) (0 : Nat) (64 : Nat) ∧
 Vc.Bind (TV.put h_5 (Array.size h) (0 : Nat) (TV.words IntKind.u32 (64 : Nat) w_1)) fun (h_6 : Array Obj) ↦
 Ext h h_6 ∧
 wok h_6 (Array.size h_1) (0 : Nat) (64 : Nat) ∧
 Vc.Bind (TV.put h_6 (Array.size h_1) (0 : Nat) (TV.words IntKind.u32 (64 : Nat) w_2))
 fun (h_7 : Array Obj) ↦
 Ext h h_7 ∧
 wok h_7 (Array.size h_4) (0 : Nat) (8 : Nat) ∧
 Vc.Bind (TV.put h_7 (Array.size h_4) (0 : Nat) (TV.words IntKind.u32 (8 : Nat) w))
 fun (h_8 : Array Obj) ↦
 J
 (some (Loc.mk (Array.size h) (0 : Nat)), some (Loc.mk (Array.size h_1) (0 : Nat)),
 some (Loc.mk (Array.size h_4) (0 : Nat)))
 h_8) ∧
 Vc.Bind (newTV h_3 (TV.words IntKind.u32 (8 : Nat) (Ws.zero (8 : Nat))) (90 : Nat)) fun (h_4 : Array Obj) ↦
 Ext h h_4 ∧
 CallsH Try.prog (76 : Nat) (TVs.vals []) h_4 fun (v : Value) (h_5 : Array Obj) ↦
 ∃ (w_2 : Ws (64 : Nat)),
 v = TV.val (TV.words IntKind.u32 (64 : Nat) w_2) ∧
 Ext h h_5 ∧
 wok h_5 (Array.size h) (0 : Nat) (64 : Nat) ∧
 Vc.Bind (TV.put h_5 (Array.size h) (0 : Nat) (TV.words IntKind.u32 (64 : Nat) w_1)) fun (h_6 : Array Obj) ↦
 Ext h h_6 ∧
 wok h_6 (Array.size h_1) (0 : Nat) (64 : Nat) ∧
 Vc.Bind (TV.put h_6 (Array.size h_1) (0 : Nat) (TV.words IntKind.u32 (64 : Nat) w_2))
 fun (h_7 : Array Obj) ↦
 Ext h h_7 ∧
 wok h_7 (Array.size h_3) (0 : Nat) (8 : Nat) ∧
 Vc.Bind (TV.put h_7 (Array.size h_3) (0 : Nat) (TV.words IntKind.u32 (8 : Nat) w))
 fun (h_8 : Array Obj) ↦
 J
 (some (Loc.mk (Array.size h) (0 : Nat)), some (Loc.mk (Array.size h_1) (0 : Nat)),
 some (Loc.mk (Array.size h_3) (0 : Nat)))
 h_8) ∧
 Vc.Bind (newTV h_2 (TV.words IntKind.u32 (8 : Nat) (Ws.zero (8 : Nat))) (90 : Nat)) fun (h_3 : Array Obj) ↦
 Ext h h_3 ∧
 CallsH Try.prog (75 : Nat) (TVs.vals [TV.slice b]) h_3 fun (v : Value) (h_4 : Array Obj) ↦
 ∃ (w_1 : Ws (64 : Nat)),
 v = TV.val (TV.words IntKind.u32 (64 : Nat) w_1) ∧
 Ext h h_4 ∧
 CallsH Try.prog (76 : Nat) (TVs.vals []) h_4 fun (v : Value) (h_5 : Array Obj) ↦
 ∃ (w_2 : Ws (64 : Nat)),
 v = TV.val (TV.words IntKind.u32 (64 : Nat) w_2) ∧
 Ext h h_5 ∧
 wok h_5 (Array.size h) (0 : Nat) (64 : Nat) ∧
 Vc.Bind (TV.put h_5 (Array.size h) (0 : Nat) (TV.words IntKind.u32 (64 : Nat) w_1)) fun (h_6 : Array Obj) ↦
 Ext h h_6 ∧
 wok h_6 (Array.size h_1) (0 : Nat) (64 : Nat) ∧
 Vc.Bind (TV.put h_6 (Array.size h_1) (0 : Nat) (TV.words IntKind.u32 (64 : Nat) w_2))
 fun (h_7 : Array Obj) ↦
 Ext h h_7 ∧
 wok h_7 (Array.size h_2) (0 : Nat) (8 : Nat) ∧
 Vc.Bind (TV.put h_7 (Array.size h_2) (0 : Nat) (TV.words IntKind.u32 (8 : Nat) w))
 fun (h_8 : Array Obj) ↦
 J
 (some (Loc.mk (Array.size h) (0 : Nat)), some (Loc.mk (Array.size h_1) (0 : Nat)),
 some (Loc.mk (Array.size h_2) (0 : Nat)))
 h_8) ∧
 Vc.Bind (newTV h_1 (TV.words IntKind.u32 (8 : Nat) (Ws.zero (8 : Nat))) (90 : Nat)) fun (h_2 : Array Obj) ↦
 Ext h h_2 ∧
 (CallsH Try.prog (75 : Nat) (TVs.vals [TV.slice b]) h_2 fun (v : Value) (h_3 : Array Obj) ↦
 ∃ (w_1 : Ws (64 : Nat)),
 v = TV.val (TV.words IntKind.u32 (64 : Nat) w_1) ∧
 Ext h h_3 ∧
 (CallsH Try.prog (76 : Nat) (TVs.vals []) h_3 fun (v : Value) (h_4 : Array Obj) ↦
 ∃ (w_2 : Ws (64 : Nat)),
 v = TV.val (TV.words IntKind.u32 (64 : Nat) w_2) ∧
 Ext h h_4 ∧
 Vc.Bind (newTV h_4 (TV.words IntKind.u32 (64 : Nat) (Ws.zero (64 : Nat))) (94 : Nat)) fun (h_5 : Array Obj) ↦
 Ext h h_5 ∧
 wok h_5 (Array.size h) (0 : Nat) (64 : Nat) ∧
 Vc.Bind (TV.put h_5 (Array.size h) (0 : Nat) (TV.words IntKind.u32 (64 : Nat) w_1)) fun (h_6 : Array Obj) ↦
 Ext h h_6 ∧
 wok h_6 (Array.size h_4) (0 : Nat) (64 : Nat) ∧
 Vc.Bind (TV.put h_6 (Array.size h_4) (0 : Nat) (TV.words IntKind.u32 (64 : Nat) w_2))
 fun (h_7 : Array Obj) ↦
 Ext h h_7 ∧
 wok h_7 (Array.size h_1) (0 : Nat) (8 : Nat) ∧
 Vc.Bind (TV.put h_7 (Array.size h_1) (0 : Nat) (TV.words IntKind.u32 (8 : Nat) w))
 fun (h_8 : Array Obj) ↦
 J
 (some (Loc.mk (Array.size h) (0 : Nat)), some (Loc.mk (Array.size h_4) (0 : Nat)),
 some (Loc.mk (Array.size h_1) (0 : Nat)))
 h_8) ∧
 Vc.Bind (newTV h_3 (TV.words IntKind.u32 (64 : Nat) (Ws.zero (64 : Nat))) (94 : Nat)) fun (h_4 : Array Obj) ↦
 Ext h h_4 ∧
 CallsH Try.prog (76 : Nat) (TVs.vals []) h_4 fun (v : Value) (h_5 : Array Obj) ↦
 ∃ (w_2 : Ws (64 : Nat)),
 v = TV.val (TV.words IntKind.u32 (64 : Nat) w_2) ∧
 Ext h h_5 ∧
 wok h_5 (Array.size h) (0 : Nat) (64 : Nat) ∧
 Vc.Bind (TV.put h_5 (Array.size h) (0 : Nat) (TV.words IntKind.u32 (64 : Nat) w_1)) fun (h_6 : Array Obj) ↦
 Ext h h_6 ∧
 wok h_6 (Array.size h_3) (0 : Nat) (64 : Nat) ∧
 Vc.Bind (TV.put h_6 (Array.size h_3) (0 : Nat) (TV.words IntKind.u32 (64 : Nat) w_2))
 fun (h_7 : Array Obj) ↦
 Ext h h_7 ∧
 wok h_7 (Array.size h_1) (0 : Nat) (8 : Nat) ∧
 Vc.Bind (TV.put h_7 (Array.size h_1) (0 : Nat) (TV.words IntKind.u32 (8 : Nat) w))
 fun (h_8 : Array Obj) ↦
 J
 (some (Loc.mk (Array.size h) (0 : Nat)), some (Loc.mk (Array.size h_3) (0 : Nat)),
 some (Loc.mk (Array.size h_1) (0 : Nat)))
 h_8) ∧
 Vc.Bind (newTV h_2 (TV.words IntKind.u32 (64 : Nat) (Ws.zero (64 : Nat))) (94 : Nat)) fun (h_3 : Array Obj) ↦
 Ext h h_3 ∧
 CallsH Try.prog (75 : Nat) (TVs.vals [TV.slice b]) h_3 fun (v : Value) (h_4 : Array Obj) ↦
 ∃ (w_1 : Ws (64 : Nat)),
 v = TV.val (TV.words IntKind.u32 (64 : Nat) w_1) ∧
 Ext h h_4 ∧
 CallsH Try.prog (76 : Nat) (TVs.vals []) h_4 fun (v : Value) (h_5 : Array Obj) ↦
 ∃ (w_2 : Ws (64 : Nat)),
 v = TV.val (TV.words IntKind.u32 (64 : Nat) w_2) ∧
 Ext h h_5 ∧
 wok h_5 (Array.size h) (0 : Nat) (64 : Nat) ∧
 Vc.Bind (TV.put h_5 (Array.size h) (0 : Nat) (TV.words IntKind.u32 (64 : Nat) w_1)) fun (h_6 : Array Obj) ↦
 Ext h h_6 ∧
 wok h_6 (Array.size h_2) (0 : Nat) (64 : Nat) ∧
 Vc.Bind (TV.put h_6 (Array.size h_2) (0 : Nat) (TV.words IntKind.u32 (64 : Nat) w_2))
 fun (h_7 : Array Obj) ↦
 Ext h h_7 ∧
 wok h_7 (Array.size h_1) (0 : Nat) (8 : Nat) ∧
 Vc.Bind (TV.put h_7 (Array.size h_1) (0 : Nat) (TV.words IntKind.u32 (8 : Nat) w))
 fun (h_8 : Array Obj) ↦
 J
 (some (Loc.mk (Array.size h) (0 : Nat)), some (Loc.mk (Array.size h_2) (0 : Nat)),
 some (Loc.mk (Array.size h_1) (0 : Nat)))
 h_8) ∧
 (Vc.Bind (newTV h (TV.words IntKind.u32 (64 : Nat) (Ws.zero (64 : Nat))) (94 : Nat)) fun (h_1 : Array Obj) ↦
 Ext h h_1 ∧
 (CallsH Try.prog (75 : Nat) (TVs.vals [TV.slice b]) h_1 fun (v : Value) (h_2 : Array Obj) ↦
 ∃ (w_1 : Ws (64 : Nat)),
 v = TV.val (TV.words IntKind.u32 (64 : Nat) w_1) ∧
 Ext h h_2 ∧
 (CallsH Try.prog (76 : Nat) (TVs.vals []) h_2 fun (v : Value) (h_3 : Array Obj) ↦
 ∃ (w_2 : Ws (64 : Nat)),
 v = TV.val (TV.words IntKind.u32 (64 : Nat) w_2) ∧
 Ext h h_3 ∧
 (Vc.Bind (newTV h_3 (TV.words IntKind.u32 (64 : Nat) (Ws.zero (64 : Nat))) (94 : Nat)) fun (h_4 : Array Obj) ↦
 Ext h h_4 ∧
 Vc.Bind (newTV h_4 (TV.words IntKind.u32 (8 : Nat) (Ws.zero (8 : Nat))) (90 : Nat)) fun (h_5 : Array Obj) ↦
 Ext h h_5 ∧
 wok h_5 (Array.size h_3) (0 : Nat) (64 : Nat) ∧
 Vc.Bind (TV.put h_5 (Array.size h_3) (0 : Nat) (TV.words IntKind.u32 (64 : Nat) w_1)) fun (h_6 : Array Obj) ↦
 Ext h h_6 ∧
 wok h_6 (Array.size h) (0 : Nat) (64 : Nat) ∧
 Vc.Bind (TV.put h_6 (Array.size h) (0 : Nat) (TV.words IntKind.u32 (64 : Nat) w_2))
 fun (h_7 : Array Obj) ↦
 Ext h h_7 ∧
 wok h_7 (Array.size h_4) (0 : Nat) (8 : Nat) ∧
 Vc.Bind (TV.put h_7 (Array.size h_4) (0 : Nat) (TV.words IntKind.u32 (8 : Nat) w))
 fun (h_8 : Array Obj) ↦
 J
 (some (Loc.mk (Array.size h_3) (0 : Nat)), some (Loc.mk (Array.size h) (0 : Nat)),
 some (Loc.mk (Array.size h_4) (0 : Nat)))
 h_8) ∧
 Vc.Bind (newTV h_3 (TV.words IntKind.u32 (8 : Nat) (Ws.zero (8 : Nat))) (90 : Nat)) fun (h_4 : Array Obj) ↦
 Ext h h_4 ∧
 Vc.Bind (newTV h_4 (TV.words IntKind.u32 (64 : Nat) (Ws.zero (64 : Nat))) (94 : Nat)) fun (h_5 : Array Obj) ↦
 Ext h h_5 ∧
 wok h_5 (Array.size h_4) (0 : Nat) (64 : Nat) ∧
 Vc.Bind (TV.put h_5 (Array.size h_4) (0 : Nat) (TV.words IntKind.u32 (64 : Nat) w_1)) fun (h_6 : Array Obj) ↦
 Ext h h_6 ∧
 wok h_6 (Array.size h) (0 : Nat) (64 : Nat) ∧
 Vc.Bind (TV.put h_6 (Array.size h) (0 : Nat) (TV.words IntKind.u32 (64 : Nat) w_2))
 fun (h_7 : Array Obj) ↦
 Ext h h_7 ∧
 wok h_7 (Array.size h_3) (0 : Nat) (8 : Nat) ∧
 Vc.Bind (TV.put h_7 (Array.size h_3) (0 : Nat) (TV.words IntKind.u32 (8 : Nat) w))
 fun (h_8 : Array Obj) ↦
 J
 (some (Loc.mk (Array.size h_4) (0 : Nat)), some (Loc.mk (Array.size h) (0 : Nat)),
 some (Loc.mk (Array.size h_3) (0 : Nat)))
 h_8) ∧
 (Vc.Bind (newTV h_2 (TV.words IntKind.u32 (64 : Nat) (Ws.zero (64 : Nat))) (94 : Nat)) fun (h_3 : Array Obj) ↦
 Ext h h_3 ∧
 (CallsH Try.prog (76 : Nat) (TVs.vals []) h_3 fun (v : Value) (h_4 : Array Obj) ↦
 ∃ (w_2 : Ws (64 : Nat)),
 v = TV.val (TV.words IntKind.u32 (64 : Nat) w_2) ∧
 Ext h h_4 ∧
 Vc.Bind (newTV h_4 (TV.words IntKind.u32 (8 : Nat) (Ws.zero (8 : Nat))) (90 : Nat)) fun (h_5 : Array Obj) ↦
 Ext h h_5 ∧
 wok h_5 (Array.size h_2) (0 : Nat) (64 : Nat) ∧
 Vc.Bind (TV.put h_5 (Array.size h_2) (0 : Nat) (TV.words IntKind.u32 (64 : Nat) w_1))
 fun (h_6 : Array Obj) ↦
 Ext h h_6 ∧
 wok h_6 (Array.size h) (0 : Nat) (64 : Nat) ∧
 Vc.Bind (TV.put h_6 (Array.size h) (0 : Nat) (TV.words IntKind.u32 (64 : Nat) w_2))
 fun (h_7 : Array Obj) ↦
 Ext h h_7 ∧
 wok h_7 (Array.size h_4) (0 : Nat) (8 : Nat) ∧
 Vc.Bind (TV.put h_7 (Array.size h_4) (0 : Nat) (TV.words IntKind.u32 (8 : Nat) w))
 fun (h_8 : Array Obj) ↦
 J
 (some (Loc.mk (Array.size h_2) (0 : Nat)), some (Loc.mk (Array.size h) (0 : Nat)),
 some (Loc.mk (Array.size h_4) (0 : Nat)))
 h_8) ∧
 Vc.Bind (newTV h_3 (TV.words IntKind.u32 (8 : Nat) (Ws.zero (8 : Nat))) (90 : Nat)) fun (h_4 : Array Obj) ↦
 Ext h h_4 ∧
 CallsH Try.prog (76 : Nat) (TVs.vals []) h_4 fun (v : Value) (h_5 : Array Obj) ↦
 ∃ (w_2 : Ws (64 : Nat)),
 v = TV.val (TV.words IntKind.u32 (64 : Nat) w_2) ∧
 Ext h h_5 ∧
 wok h_5 (Array.size h_2) (0 : Nat) (64 : Nat) ∧
 Vc.Bind (TV.put h_5 (Array.size h_2) (0 : Nat) (TV.words IntKind.u32 (64 : Nat) w_1))
 fun (h_6 : Array Obj) ↦
 Ext h h_6 ∧
 wok h_6 (Array.size h) (0 : Nat) (64 : Nat) ∧
 Vc.Bind (TV.put h_6 (Array.size h) (0 : Nat) (TV.words IntKind.u32 (64 : Nat) w_2))
 fun (h_7 : Array Obj) ↦
 Ext h h_7 ∧
 wok h_7 (Array.size h_3) (0 : Nat) (8 : Nat) ∧
 Vc.Bind (TV.put h_7 (Array.size h_3) (0 : Nat) (TV.words IntKind.u32 (8 : Nat) w))
 fun (h_8 : Array Obj) ↦
 J
 (some (Loc.mk (Array.size h_2) (0 : Nat)), some (Loc.mk (Array.size h) (0 : Nat)),
 some (Loc.mk (Array.size h_3) (0 : Nat)))
 h_8) ∧
 Vc.Bind (newTV h_2 (TV.words IntKind.u32 (8 : Nat) (Ws.zero (8 : Nat))) (90 : Nat)) fun (h_3 : Array Obj) ↦
 Ext h h_3 ∧
 (CallsH Try.prog (76 : Nat) (TVs.vals []) h_3 fun (v : Value) (h_4 : Array Obj) ↦
 ∃ (w_2 : Ws (64 : Nat)),
 v = TV.val (TV.words IntKind.u32 (64 : Nat) w_2) ∧
 Ext h h_4 ∧
 Vc.Bind (newTV h_4 (TV.words IntKind.u32 (64 : Nat) (Ws.zero (64 : Nat))) (94 : Nat)) fun (h_5 : Array Obj) ↦
 Ext h h_5 ∧
 wok h_5 (Array.size h_4) (0 : Nat) (64 : Nat) ∧
 Vc.Bind (TV.put h_5 (Array.size h_4) (0 : Nat) (TV.words IntKind.u32 (64 : Nat) w_1))
 fun (h_6 : Array Obj) ↦
 Ext h h_6 ∧
 wok h_6 (Array.size h) (0 : Nat) (64 : Nat) ∧
 Vc.Bind (TV.put h_6 (Array.size h) (0 : Nat) (TV.words IntKind.u32 (64 : Nat) w_2))
 fun (h_7 : Array Obj) ↦
 Ext h h_7 ∧
 wok h_7 (Array.size h_2) (0 : Nat) (8 : Nat) ∧
 Vc.Bind (TV.put h_7 (Array.size h_2) (0 : Nat) (TV.words IntKind.u32 (8 : Nat) w))
 fun (h_8 : Array Obj) ↦
 J
 (some (Loc.mk (Array.size h_4) (0 : Nat)), some (Loc.mk (Array.size h) (0 : Nat)),
 some (Loc.mk (Array.size h_2) (0 : Nat)))
 h_8) ∧
 Vc.Bind (newTV h_3 (TV.words IntKind.u32 (64 : Nat) (Ws.zero (64 : Nat))) (94 : Nat)) fun (h_4 : Array Obj) ↦
 Ext h h_4 ∧
 CallsH Try.prog (76 : Nat) (TVs.vals []) h_4 fun (v : Value) (h_5 : Array Obj) ↦
 ∃ (w_2 : Ws (64 : Nat)),
 v = TV.val (TV.words IntKind.u32 (64 : Nat) w_2) ∧
 Ext h h_5 ∧
 wok h_5 (Array.size h_3) (0 : Nat) (64 : Nat) ∧
 Vc.Bind (TV.put h_5 (Array.size h_3) (0 : Nat) (TV.words IntKind.u32 (64 : Nat) w_1))
 fun (h_6 : Array Obj) ↦
 Ext h h_6 ∧
 wok h_6 (Array.size h) (0 : Nat) (64 : Nat) ∧
 Vc.Bind (TV.put h_6 (Array.size h) (0 : Nat) (TV.words IntKind.u32 (64 : Nat) w_2))
 fun (h_7 : Array Obj) ↦
 Ext h h_7 ∧
 wok h_7 (Array.size h_2) (0 : Nat) (8 : Nat) ∧
 Vc.Bind (TV.put h_7 (Array.size h_2) (0 : Nat) (TV.words IntKind.u32 (8 : Nat) w))
 fun (h_8 : Array Obj) ↦
 J
 (some (Loc.mk (Array.size h_3) (0 : Nat)), some (Loc.mk (Array.size h) (0 : Nat)),
 some (Loc.mk (Array.size h_2) (0 : Nat)))
 h_8) ∧
 (Vc.Bind (newTV h_1 (TV.words IntKind.u32 (64 : Nat) (Ws.zero (64 : Nat))) (94 : Nat)) fun (h_2 : Array Obj) ↦
 Ext h h_2 ∧
 (CallsH Try.prog (75 : Nat) (TVs.vals [TV.slice b]) h_2 fun (v : Value) (h_3 : Array Obj) ↦
 ∃ (w_1 : Ws (64 : Nat)),
 v = TV.val (TV.words IntKind.u32 (64 : Nat) w_1) ∧
 Ext h h_3 ∧
 (CallsH Try.prog (76 : Nat) (TVs.vals []) h_3 fun (v : Value) (h_4 : Array Obj) ↦
 ∃ (w_2 : Ws (64 : Nat)),
 v = TV.val (TV.words IntKind.u32 (64 : Nat) w_2) ∧
 Ext h h_4 ∧
 Vc.Bind (newTV h_4 (TV.words IntKind.u32 (8 : Nat) (Ws.zero (8 : Nat))) (90 : Nat)) fun (h_5 : Array Obj) ↦
 Ext h h_5 ∧
 wok h_5 (Array.size h_1) (0 : Nat) (64 : Nat) ∧
 Vc.Bind (TV.put h_5 (Array.size h_1) (0 : Nat) (TV.words IntKind.u32 (64 : Nat) w_1))
 fun (h_6 : Array Obj) ↦
 Ext h h_6 ∧
 wok h_6 (Array.size h) (0 : Nat) (64 : Nat) ∧
 Vc.Bind (TV.put h_6 (Array.size h) (0 : Nat) (TV.words IntKind.u32 (64 : Nat) w_2))
 fun (h_7 : Array Obj) ↦
 Ext h h_7 ∧
 wok h_7 (Array.size h_4) (0 : Nat) (8 : Nat) ∧
 Vc.Bind (TV.put h_7 (Array.size h_4) (0 : Nat) (TV.words IntKind.u32 (8 : Nat) w))
 fun (h_8 : Array Obj) ↦
 J
 (some (Loc.mk (Array.size h_1) (0 : Nat)), some (Loc.mk (Array.size h) (0 : Nat)),
 some (Loc.mk (Array.size h_4) (0 : Nat)))
 h_8) ∧
 Vc.Bind (newTV h_3 (TV.words IntKind.u32 (8 : Nat) (Ws.zero (8 : Nat))) (90 : Nat)) fun (h_4 : Array Obj) ↦
 Ext h h_4 ∧
 CallsH Try.prog (76 : Nat) (TVs.vals []) h_4 fun (v : Value) (h_5 : Array Obj) ↦
 ∃ (w_2 : Ws (64 : Nat)),
 v = TV.val (TV.words IntKind.u32 (64 : Nat) w_2) ∧
 Ext h h_5 ∧
 wok h_5 (Array.size h_1) (0 : Nat) (64 : Nat) ∧
 Vc.Bind (TV.put h_5 (Array.size h_1) (0 : Nat) (TV.words IntKind.u32 (64 : Nat) w_1))
 fun (h_6 : Array Obj) ↦
 Ext h h_6 ∧
 wok h_6 (Array.size h) (0 : Nat) (64 : Nat) ∧
 Vc.Bind (TV.put h_6 (Array.size h) (0 : Nat) (TV.words IntKind.u32 (64 : Nat) w_2))
 fun (h_7 : Array Obj) ↦
 Ext h h_7 ∧
 wok h_7 (Array.size h_3) (0 : Nat) (8 : Nat) ∧
 Vc.Bind (TV.put h_7 (Array.size h_3) (0 : Nat) (TV.words IntKind.u32 (8 : Nat) w))
 fun (h_8 : Array Obj) ↦
 J
 (some (Loc.mk (Array.size h_1) (0 : Nat)), some (Loc.mk (Array.size h) (0 : Nat)),
 some (Loc.mk (Array.size h_3) (0 : Nat)))
 h_8) ∧
 Vc.Bind (newTV h_2 (TV.words IntKind.u32 (8 : Nat) (Ws.zero (8 : Nat))) (90 : Nat)) fun (h_3 : Array Obj) ↦
 Ext h h_3 ∧
 CallsH Try.prog (75 : Nat) (TVs.vals [TV.slice b]) h_3 fun (v : Value) (h_4 : Array Obj) ↦
 ∃ (w_1 : Ws (64 : Nat)),
 v = TV.val (TV.words IntKind.u32 (64 : Nat) w_1) ∧
 Ext h h_4 ∧
 CallsH Try.prog (76 : Nat) (TVs.vals []) h_4 fun (v : Value) (h_5 : Array Obj) ↦
 ∃ (w_2 : Ws (64 : Nat)),
 v = TV.val (TV.words IntKind.u32 (64 : Nat) w_2) ∧
 Ext h h_5 ∧
 wok h_5 (Array.size h_1) (0 : Nat) (64 : Nat) ∧
 Vc.Bind (TV.put h_5 (Array.size h_1) (0 : Nat) (TV.words IntKind.u32 (64 : Nat) w_1)) fun (h_6 : Array Obj) ↦
 Ext h h_6 ∧
 wok h_6 (Array.size h) (0 : Nat) (64 : Nat) ∧
 Vc.Bind (TV.put h_6 (Array.size h) (0 : Nat) (TV.words IntKind.u32 (64 : Nat) w_2))
 fun (h_7 : Array Obj) ↦
 Ext h h_7 ∧
 wok h_7 (Array.size h_2) (0 : Nat) (8 : Nat) ∧
 Vc.Bind (TV.put h_7 (Array.size h_2) (0 : Nat) (TV.words IntKind.u32 (8 : Nat) w))
 fun (h_8 : Array Obj) ↦
 J
 (some (Loc.mk (Array.size h_1) (0 : Nat)), some (Loc.mk (Array.size h) (0 : Nat)),
 some (Loc.mk (Array.size h_2) (0 : Nat)))
 h_8) ∧
 Vc.Bind (newTV h_1 (TV.words IntKind.u32 (8 : Nat) (Ws.zero (8 : Nat))) (90 : Nat)) fun (h_2 : Array Obj) ↦
 Ext h h_2 ∧
 (CallsH Try.prog (75 : Nat) (TVs.vals [TV.slice b]) h_2 fun (v : Value) (h_3 : Array Obj) ↦
 ∃ (w_1 : Ws (64 : Nat)),
 v = TV.val (TV.words IntKind.u32 (64 : Nat) w_1) ∧
 Ext h h_3 ∧
 (CallsH Try.prog (76 : Nat) (TVs.vals []) h_3 fun (v : Value) (h_4 : Array Obj) ↦
 ∃ (w_2 : Ws (64 : Nat)),
 v = TV.val (TV.words IntKind.u32 (64 : Nat) w_2) ∧
 Ext h h_4 ∧
 Vc.Bind (newTV h_4 (TV.words IntKind.u32 (64 : Nat) (Ws.zero (64 : Nat))) (94 : Nat)) fun (h_5 : Array Obj) ↦
 Ext h h_5 ∧
 wok h_5 (Array.size h_4) (0 : Nat) (64 : Nat) ∧
 Vc.Bind (TV.put h_5 (Array.size h_4) (0 : Nat) (TV.words IntKind.u32 (64 : Nat) w_1))
 fun (h_6 : Array Obj) ↦
 Ext h h_6 ∧
 wok h_6 (Array.size h) (0 : Nat) (64 : Nat) ∧
 Vc.Bind (TV.put h_6 (Array.size h) (0 : Nat) (TV.words IntKind.u32 (64 : Nat) w_2))
 fun (h_7 : Array Obj) ↦
 Ext h h_7 ∧
 wok h_7 (Array.size h_1) (0 : Nat) (8 : Nat) ∧
 Vc.Bind (TV.put h_7 (Array.size h_1) (0 : Nat) (TV.words IntKind.u32 (8 : Nat) w))
 fun (h_8 : Array Obj) ↦
 J
 (some (Loc.mk (Array.size h_4) (0 : Nat)), some (Loc.mk (Array.size h) (0 : Nat)),
 some (Loc.mk (Array.size h_1) (0 : Nat)))
 h_8) ∧
 Vc.Bind (newTV h_3 (TV.words IntKind.u32 (64 : Nat) (Ws.zero (64 : Nat))) (94 : Nat)) fun (h_4 : Array Obj) ↦
 Ext h h_4 ∧
 CallsH Try.prog (76 : Nat) (TVs.vals []) h_4 fun (v : Value) (h_5 : Array Obj) ↦
 ∃ (w_2 : Ws (64 : Nat)),
 v = TV.val (TV.words IntKind.u32 (64 : Nat) w_2) ∧
 Ext h h_5 ∧
 wok h_5 (Array.size h_3) (0 : Nat) (64 : Nat) ∧
 Vc.Bind (TV.put h_5 (Array.size h_3) (0 : Nat) (TV.words IntKind.u32 (64 : Nat) w_1))
 fun (h_6 : Array Obj) ↦
 Ext h h_6 ∧
 wok h_6 (Array.size h) (0 : Nat) (64 : Nat) ∧
 Vc.Bind (TV.put h_6 (Array.size h) (0 : Nat) (TV.words IntKind.u32 (64 : Nat) w_2))
 fun (h_7 : Array Obj) ↦
 Ext h h_7 ∧
 wok h_7 (Array.size h_1) (0 : Nat) (8 : Nat) ∧
 Vc.Bind (TV.put h_7 (Array.size h_1) (0 : Nat) (TV.words IntKind.u32 (8 : Nat) w))
 fun (h_8 : Array Obj) ↦
 J
 (some (Loc.mk (Array.size h_3) (0 : Nat)), some (Loc.mk (Array.size h) (0 : Nat)),
 some (Loc.mk (Array.size h_1) (0 : Nat)))
 h_8) ∧
 Vc.Bind (newTV h_2 (TV.words IntKind.u32 (64 : Nat) (Ws.zero (64 : Nat))) (94 : Nat)) fun (h_3 : Array Obj) ↦
 Ext h h_3 ∧
 CallsH Try.prog (75 : Nat) (TVs.vals [TV.slice b]) h_3 fun (v : Value) (h_4 : Array Obj) ↦
 ∃ (w_1 : Ws (64 : Nat)),
 v = TV.val (TV.words IntKind.u32 (64 : Nat) w_1) ∧
 Ext h h_4 ∧
 CallsH Try.prog (76 : Nat) (TVs.vals []) h_4 fun (v : Value) (h_5 : Array Obj) ↦
 ∃ (w_2 : Ws (64 : Nat)),
 v = TV.val (TV.words IntKind.u32 (64 : Nat) w_2) ∧
 Ext h h_5 ∧
 wok h_5 (Array.size h_2) (0 : Nat) (64 : Nat) ∧
 Vc.Bind (TV.put h_5 (Array.size h_2) (0 : Nat) (TV.words IntKind.u32 (64 : Nat) w_1)) fun (h_6 : Array Obj) ↦
 Ext h h_6 ∧
 wok h_6 (Array.size h) (0 : Nat) (64 : Nat) ∧
 Vc.Bind (TV.put h_6 (Array.size h) (0 : Nat) (TV.words IntKind.u32 (64 : Nat) w_2))
 fun (h_7 : Array Obj) ↦
 Ext h h_7 ∧
 wok h_7 (Array.size h_1) (0 : Nat) (8 : Nat) ∧
 Vc.Bind (TV.put h_7 (Array.size h_1) (0 : Nat) (TV.words IntKind.u32 (8 : Nat) w))
 fun (h_8 : Array Obj) ↦
 J
 (some (Loc.mk (Array.size h_2) (0 : Nat)), some (Loc.mk (Array.size h) (0 : Nat)),
 some (Loc.mk (Array.size h_1) (0 : Nat)))
 h_8) ∧
 Vc.Bind (newTV h (TV.words IntKind.u32 (8 : Nat) (Ws.zero (8 : Nat))) (90 : Nat)) fun (h_1 : Array Obj) ↦
 Ext h h_1 ∧
 (CallsH Try.prog (75 : Nat) (TVs.vals [TV.slice b]) h_1 fun (v : Value) (h_2 : Array Obj) ↦
 ∃ (w_1 : Ws (64 : Nat)),
 v = TV.val (TV.words IntKind.u32 (64 : Nat) w_1) ∧
 Ext h h_2 ∧
 (CallsH Try.prog (76 : Nat) (TVs.vals []) h_2 fun (v : Value) (h_3 : Array Obj) ↦
 ∃ (w_2 : Ws (64 : Nat)),
 v = TV.val (TV.words IntKind.u32 (64 : Nat) w_2) ∧
 Ext h h_3 ∧
 (Vc.Bind (newTV h_3 (TV.words IntKind.u32 (64 : Nat) (Ws.zero (64 : Nat))) (94 : Nat)) fun (h_4 : Array Obj) ↦
 Ext h h_4 ∧
 Vc.Bind (newTV h_4 (TV.words IntKind.u32 (64 : Nat) (Ws.zero (64 : Nat))) (94 : Nat)) fun (h_5 : Array Obj) ↦
 Ext h h_5 ∧
 wok h_5 (Array.size h_3) (0 : Nat) (64 : Nat) ∧
 Vc.Bind (TV.put h_5 (Array.size h_3) (0 : Nat) (TV.words IntKind.u32 (64 : Nat) w_1)) fun (h_6 : Array Obj) ↦
 Ext h h_6 ∧
 wok h_6 (Array.size h_4) (0 : Nat) (64 : Nat) ∧
 Vc.Bind (TV.put h_6 (Array.size h_4) (0 : Nat) (TV.words IntKind.u32 (64 : Nat) w_2))
 fun (h_7 : Array Obj) ↦
 Ext h h_7 ∧
 wok h_7 (Array.size h) (0 : Nat) (8 : Nat) ∧
 Vc.Bind (TV.put h_7 (Array.size h) (0 : Nat) (TV.words IntKind.u32 (8 : Nat) w))
 fun (h_8 : Array Obj) ↦
 J
 (some (Loc.mk (Array.size h_3) (0 : Nat)), some (Loc.mk (Array.size h_4) (0 : Nat)),
 some (Loc.mk (Array.size h) (0 : Nat)))
 h_8) ∧
 Vc.Bind (newTV h_3 (TV.words IntKind.u32 (64 : Nat) (Ws.zero (64 : Nat))) (94 : Nat)) fun (h_4 : Array Obj) ↦
 Ext h h_4 ∧
 Vc.Bind (newTV h_4 (TV.words IntKind.u32 (64 : Nat) (Ws.zero (64 : Nat))) (94 : Nat)) fun (h_5 : Array Obj) ↦
 Ext h h_5 ∧
 wok h_5 (Array.size h_4) (0 : Nat) (64 : Nat) ∧
 Vc.Bind (TV.put h_5 (Array.size h_4) (0 : Nat) (TV.words IntKind.u32 (64 : Nat) w_1)) fun (h_6 : Array Obj) ↦
 Ext h h_6 ∧
 wok h_6 (Array.size h_3) (0 : Nat) (64 : Nat) ∧
 Vc.Bind (TV.put h_6 (Array.size h_3) (0 : Nat) (TV.words IntKind.u32 (64 : Nat) w_2))
 fun (h_7 : Array Obj) ↦
 Ext h h_7 ∧
 wok h_7 (Array.size h) (0 : Nat) (8 : Nat) ∧
 Vc.Bind (TV.put h_7 (Array.size h) (0 : Nat) (TV.words IntKind.u32 (8 : Nat) w))
 fun (h_8 : Array Obj) ↦
 J
 (some (Loc.mk (Array.size h_4) (0 : Nat)), some (Loc.mk (Array.size h_3) (0 : Nat)),
 some (Loc.mk (Array.size h) (0 : Nat)))
 h_8) ∧
 (Vc.Bind (newTV h_2 (TV.words IntKind.u32 (64 : Nat) (Ws.zero (64 : Nat))) (94 : Nat)) fun (h_3 : Array Obj) ↦
 Ext h h_3 ∧
 (CallsH Try.prog (76 : Nat) (TVs.vals []) h_3 fun (v : Value) (h_4 : Array Obj) ↦
 ∃ (w_2 : Ws (64 : Nat)),
 v = TV.val (TV.words IntKind.u32 (64 : Nat) w_2) ∧
 Ext h h_4 ∧
 Vc.Bind (newTV h_4 (TV.words IntKind.u32 (64 : Nat) (Ws.zero (64 : Nat))) (94 : Nat)) fun (h_5 : Array Obj) ↦
 Ext h h_5 ∧
 wok h_5 (Array.size h_2) (0 : Nat) (64 : Nat) ∧
 Vc.Bind (TV.put h_5 (Array.size h_2) (0 : Nat) (TV.words IntKind.u32 (64 : Nat) w_1))
 fun (h_6 : Array Obj) ↦
 Ext h h_6 ∧
 wok h_6 (Array.size h_4) (0 : Nat) (64 : Nat) ∧
 Vc.Bind (TV.put h_6 (Array.size h_4) (0 : Nat) (TV.words IntKind.u32 (64 : Nat) w_2))
 fun (h_7 : Array Obj) ↦
 Ext h h_7 ∧
 wok h_7 (Array.size h) (0 : Nat) (8 : Nat) ∧
 Vc.Bind (TV.put h_7 (Array.size h) (0 : Nat) (TV.words IntKind.u32 (8 : Nat) w))
 fun (h_8 : Array Obj) ↦
 J
 (some (Loc.mk (Array.size h_2) (0 : Nat)), some (Loc.mk (Array.size h_4) (0 : Nat)),
 some (Loc.mk (Array.size h) (0 : Nat)))
 h_8) ∧
 Vc.Bind (newTV h_3 (TV.words IntKind.u32 (64 : Nat) (Ws.zero (64 : Nat))) (94 : Nat)) fun (h_4 : Array Obj) ↦
 Ext h h_4 ∧
 CallsH Try.prog (76 : Nat) (TVs.vals []) h_4 fun (v : Value) (h_5 : Array Obj) ↦
 ∃ (w_2 : Ws (64 : Nat)),
 v = TV.val (TV.words IntKind.u32 (64 : Nat) w_2) ∧
 Ext h h_5 ∧
 wok h_5 (Array.size h_2) (0 : Nat) (64 : Nat) ∧
 Vc.Bind (TV.put h_5 (Array.size h_2) (0 : Nat) (TV.words IntKind.u32 (64 : Nat) w_1))
 fun (h_6 : Array Obj) ↦
 Ext h h_6 ∧
 wok h_6 (Array.size h_3) (0 : Nat) (64 : Nat) ∧
 Vc.Bind (TV.put h_6 (Array.size h_3) (0 : Nat) (TV.words IntKind.u32 (64 : Nat) w_2))
 fun (h_7 : Array Obj) ↦
 Ext h h_7 ∧
 wok h_7 (Array.size h) (0 : Nat) (8 : Nat) ∧
 Vc.Bind (TV.put h_7 (Array.size h) (0 : Nat) (TV.words IntKind.u32 (8 : Nat) w))
 fun (h_8 : Array Obj) ↦
 J
 (some (Loc.mk (Array.size h_2) (0 : Nat)), some (Loc.mk (Array.size h_3) (0 : Nat)),
 some (Loc.mk (Array.size h) (0 : Nat)))
 h_8) ∧
 Vc.Bind (newTV h_2 (TV.words IntKind.u32 (64 : Nat) (Ws.zero (64 : Nat))) (94 : Nat)) fun (h_3 : Array Obj) ↦
 Ext h h_3 ∧
 (CallsH Try.prog (76 : Nat) (TVs.vals []) h_3 fun (v : Value) (h_4 : Array Obj) ↦
 ∃ (w_2 : Ws (64 : Nat)),
 v = TV.val (TV.words IntKind.u32 (64 : Nat) w_2) ∧
 Ext h h_4 ∧
 Vc.Bind (newTV h_4 (TV.words IntKind.u32 (64 : Nat) (Ws.zero (64 : Nat))) (94 : Nat)) fun (h_5 : Array Obj) ↦
 Ext h h_5 ∧
 wok h_5 (Array.size h_4) (0 : Nat) (64 : Nat) ∧
 Vc.Bind (TV.put h_5 (Array.size h_4) (0 : Nat) (TV.words IntKind.u32 (64 : Nat) w_1))
 fun (h_6 : Array Obj) ↦
 Ext h h_6 ∧
 wok h_6 (Array.size h_2) (0 : Nat) (64 : Nat) ∧
 Vc.Bind (TV.put h_6 (Array.size h_2) (0 : Nat) (TV.words IntKind.u32 (64 : Nat) w_2))
 fun (h_7 : Array Obj) ↦
 Ext h h_7 ∧
 wok h_7 (Array.size h) (0 : Nat) (8 : Nat) ∧
 Vc.Bind (TV.put h_7 (Array.size h) (0 : Nat) (TV.words IntKind.u32 (8 : Nat) w))
 fun (h_8 : Array Obj) ↦
 J
 (some (Loc.mk (Array.size h_4) (0 : Nat)), some (Loc.mk (Array.size h_2) (0 : Nat)),
 some (Loc.mk (Array.size h) (0 : Nat)))
 h_8) ∧
 Vc.Bind (newTV h_3 (TV.words IntKind.u32 (64 : Nat) (Ws.zero (64 : Nat))) (94 : Nat)) fun (h_4 : Array Obj) ↦
 Ext h h_4 ∧
 CallsH Try.prog (76 : Nat) (TVs.vals []) h_4 fun (v : Value) (h_5 : Array Obj) ↦
 ∃ (w_2 : Ws (64 : Nat)),
 v = TV.val (TV.words IntKind.u32 (64 : Nat) w_2) ∧
 Ext h h_5 ∧
 wok h_5 (Array.size h_3) (0 : Nat) (64 : Nat) ∧
 Vc.Bind (TV.put h_5 (Array.size h_3) (0 : Nat) (TV.words IntKind.u32 (64 : Nat) w_1))
 fun (h_6 : Array Obj) ↦
 Ext h h_6 ∧
 wok h_6 (Array.size h_2) (0 : Nat) (64 : Nat) ∧
 Vc.Bind (TV.put h_6 (Array.size h_2) (0 : Nat) (TV.words IntKind.u32 (64 : Nat) w_2))
 fun (h_7 : Array Obj) ↦
 Ext h h_7 ∧
 wok h_7 (Array.size h) (0 : Nat) (8 : Nat) ∧
 Vc.Bind (TV.put h_7 (Array.size h) (0 : Nat) (TV.words IntKind.u32 (8 : Nat) w))
 fun (h_8 : Array Obj) ↦
 J
 (some (Loc.mk (Array.size h_3) (0 : Nat)), some (Loc.mk (Array.size h_2) (0 : Nat)),
 some (Loc.mk (Array.size h) (0 : Nat)))
 h_8) ∧
 (Vc.Bind (newTV h_1 (TV.words IntKind.u32 (64 : Nat) (Ws.zero (64 : Nat))) (94 : Nat)) fun (h_2 : Array Obj) ↦
 Ext h h_2 ∧
 (CallsH Try.prog (75 : Nat) (TVs.vals [TV.slice b]) h_2 fun (v : Value) (h_3 : Array Obj) ↦
 ∃ (w_1 : Ws (64 : Nat)),
 v = TV.val (TV.words IntKind.u32 (64 : Nat) w_1) ∧
 Ext h h_3 ∧
 (CallsH Try.prog (76 : Nat) (TVs.vals []) h_3 fun (v : Value) (h_4 : Array Obj) ↦
 ∃ (w_2 : Ws (64 : Nat)),
 v = TV.val (TV.words IntKind.u32 (64 : Nat) w_2) ∧
 Ext h h_4 ∧
 Vc.Bind (newTV h_4 (TV.words IntKind.u32 (64 : Nat) (Ws.zero (64 : Nat))) (94 : Nat)) fun (h_5 : Array Obj) ↦
 Ext h h_5 ∧
 wok h_5 (Array.size h_1) (0 : Nat) (64 : Nat) ∧
 Vc.Bind (TV.put h_5 (Array.size h_1) (0 : Nat) (TV.words IntKind.u32 (64 : Nat) w_1))
 fun (h_6 : Array Obj) ↦
 Ext h h_6 ∧
 wok h_6 (Array.size h_4) (0 : Nat) (64 : Nat) ∧
 Vc.Bind (TV.put h_6 (Array.size h_4) (0 : Nat) (TV.words IntKind.u32 (64 : Nat) w_2))
 fun (h_7 : Array Obj) ↦
 Ext h h_7 ∧
 wok h_7 (Array.size h) (0 : Nat) (8 : Nat) ∧
 Vc.Bind (TV.put h_7 (Array.size h) (0 : Nat) (TV.words IntKind.u32 (8 : Nat) w))
 fun (h_8 : Array Obj) ↦
 J
 (some (Loc.mk (Array.size h_1) (0 : Nat)), some (Loc.mk (Array.size h_4) (0 : Nat)),
 some (Loc.mk (Array.size h) (0 : Nat)))
 h_8) ∧
 Vc.Bind (newTV h_3 (TV.words IntKind.u32 (64 : Nat) (Ws.zero (64 : Nat))) (94 : Nat)) fun (h_4 : Array Obj) ↦
 Ext h h_4 ∧
 CallsH Try.prog (76 : Nat) (TVs.vals []) h_4 fun (v : Value) (h_5 : Array Obj) ↦
 ∃ (w_2 : Ws (64 : Nat)),
 v = TV.val (TV.words IntKind.u32 (64 : Nat) w_2) ∧
 Ext h h_5 ∧
 wok h_5 (Array.size h_1) (0 : Nat) (64 : Nat) ∧
 Vc.Bind (TV.put h_5 (Array.size h_1) (0 : Nat) (TV.words IntKind.u32 (64 : Nat) w_1))
 fun (h_6 : Array Obj) ↦
 Ext h h_6 ∧
 wok h_6 (Array.size h_3) (0 : Nat) (64 : Nat) ∧
 Vc.Bind (TV.put h_6 (Array.size h_3) (0 : Nat) (TV.words IntKind.u32 (64 : Nat) w_2))
 fun (h_7 : Array Obj) ↦
 Ext h h_7 ∧
 wok h_7 (Array.size h) (0 : Nat) (8 : Nat) ∧
 Vc.Bind (TV.put h_7 (Array.size h) (0 : Nat) (TV.words IntKind.u32 (8 : Nat) w))
 fun (h_8 : Array Obj) ↦
 J
 (some (Loc.mk (Array.size h_1) (0 : Nat)), some (Loc.mk (Array.size h_3) (0 : Nat)),
 some (Loc.mk (Array.size h) (0 : Nat)))
 h_8) ∧
 Vc.Bind (newTV h_2 (TV.words IntKind.u32 (64 : Nat) (Ws.zero (64 : Nat))) (94 : Nat)) fun (h_3 : Array Obj) ↦
 Ext h h_3 ∧
 CallsH Try.prog (75 : Nat) (TVs.vals [TV.slice b]) h_3 fun (v : Value) (h_4 : Array Obj) ↦
 ∃ (w_1 : Ws (64 : Nat)),
 v = TV.val (TV.words IntKind.u32 (64 : Nat) w_1) ∧
 Ext h h_4 ∧
 CallsH Try.prog (76 : Nat) (TVs.vals []) h_4 fun (v : Value) (h_5 : Array Obj) ↦
 ∃ (w_2 : Ws (64 : Nat)),
 v = TV.val (TV.words IntKind.u32 (64 : Nat) w_2) ∧
 Ext h h_5 ∧
 wok h_5 (Array.size h_1) (0 : Nat) (64 : Nat) ∧
 Vc.Bind (TV.put h_5 (Array.size h_1) (0 : Nat) (TV.words IntKind.u32 (64 : Nat) w_1)) fun (h_6 : Array Obj) ↦
 Ext h h_6 ∧
 wok h_6 (Array.size h_2) (0 : Nat) (64 : Nat) ∧
 Vc.Bind (TV.put h_6 (Array.size h_2) (0 : Nat) (TV.words IntKind.u32 (64 : Nat) w_2))
 fun (h_7 : Array Obj) ↦
 Ext h h_7 ∧
 wok h_7 (Array.size h) (0 : Nat) (8 : Nat) ∧
 Vc.Bind (TV.put h_7 (Array.size h) (0 : Nat) (TV.words IntKind.u32 (8 : Nat) w))
 fun (h_8 : Array Obj) ↦
 J
 (some (Loc.mk (Array.size h_1) (0 : Nat)), some (Loc.mk (Array.size h_2) (0 : Nat)),
 some (Loc.mk (Array.size h) (0 : Nat)))
 h_8) ∧
 Vc.Bind (newTV h_1 (TV.words IntKind.u32 (64 : Nat) (Ws.zero (64 : Nat))) (94 : Nat)) fun (h_2 : Array Obj) ↦
 Ext h h_2 ∧
 (CallsH Try.prog (75 : Nat) (TVs.vals [TV.slice b]) h_2 fun (v : Value) (h_3 : Array Obj) ↦
 ∃ (w_1 : Ws (64 : Nat)),
 v = TV.val (TV.words IntKind.u32 (64 : Nat) w_1) ∧
 Ext h h_3 ∧
 (CallsH Try.prog (76 : Nat) (TVs.vals []) h_3 fun (v : Value) (h_4 : Array Obj) ↦
 ∃ (w_2 : Ws (64 : Nat)),
 v = TV.val (TV.words IntKind.u32 (64 : Nat) w_2) ∧
 Ext h h_4 ∧
 Vc.Bind (newTV h_4 (TV.words IntKind.u32 (64 : Nat) (Ws.zero (64 : Nat))) (94 : Nat)) fun (h_5 : Array Obj) ↦
 Ext h h_5 ∧
 wok h_5 (Array.size h_4) (0 : Nat) (64 : Nat) ∧
 Vc.Bind (TV.put h_5 (Array.size h_4) (0 : Nat) (TV.words IntKind.u32 (64 : Nat) w_1))
 fun (h_6 : Array Obj) ↦
 Ext h h_6 ∧
 wok h_6 (Array.size h_1) (0 : Nat) (64 : Nat) ∧
 Vc.Bind (TV.put h_6 (Array.size h_1) (0 : Nat) (TV.words IntKind.u32 (64 : Nat) w_2))
 fun (h_7 : Array Obj) ↦
 Ext h h_7 ∧
 wok h_7 (Array.size h) (0 : Nat) (8 : Nat) ∧
 Vc.Bind (TV.put h_7 (Array.size h) (0 : Nat) (TV.words IntKind.u32 (8 : Nat) w))
 fun (h_8 : Array Obj) ↦
 J
 (some (Loc.mk (Array.size h_4) (0 : Nat)), some (Loc.mk (Array.size h_1) (0 : Nat)),
 some (Loc.mk (Array.size h) (0 : Nat)))
 h_8) ∧
 Vc.Bind (newTV h_3 (TV.words IntKind.u32 (64 : Nat) (Ws.zero (64 : Nat))) (94 : Nat)) fun (h_4 : Array Obj) ↦
 Ext h h_4 ∧
 CallsH Try.prog (76 : Nat) (TVs.vals []) h_4 fun (v : Value) (h_5 : Array Obj) ↦
 ∃ (w_2 : Ws (64 : Nat)),
 v = TV.val (TV.words IntKind.u32 (64 : Nat) w_2) ∧
 Ext h h_5 ∧
 wok h_5 (Array.size h_3) (0 : Nat) (64 : Nat) ∧
 Vc.Bind (TV.put h_5 (Array.size h_3) (0 : Nat) (TV.words IntKind.u32 (64 : Nat) w_1))
 fun (h_6 : Array Obj) ↦
 Ext h h_6 ∧
 wok h_6 (Array.size h_1) (0 : Nat) (64 : Nat) ∧
 Vc.Bind (TV.put h_6 (Array.size h_1) (0 : Nat) (TV.words IntKind.u32 (64 : Nat) w_2))
 fun (h_7 : Array Obj) ↦
 Ext h h_7 ∧
 wok h_7 (Array.size h) (0 : Nat) (8 : Nat) ∧
 Vc.Bind (TV.put h_7 (Array.size h) (0 : Nat) (TV.words IntKind.u32 (8 : Nat) w))
 fun (h_8 : Array Obj) ↦
 J
 (some (Loc.mk (Array.size h_3) (0 : Nat)), some (Loc.mk (Array.size h_1) (0 : Nat)),
 some (Loc.mk (Array.size h) (0 : Nat)))
 h_8) ∧
 Vc.Bind (newTV h_2 (TV.words IntKind.u32 (64 : Nat) (Ws.zero (64 : Nat))) (94 : Nat)) fun (h_3 : Array Obj) ↦
 Ext h h_3 ∧
 CallsH Try.prog (75 : Nat) (TVs.vals [TV.slice b]) h_3 fun (v : Value) (h_4 : Array Obj) ↦
 ∃ (w_1 : Ws (64 : Nat)),
 v = TV.val (TV.words IntKind.u32 (64 : Nat) w_1) ∧
 Ext h h_4 ∧
 CallsH Try.prog (76 : Nat) (TVs.vals []) h_4 fun (v : Value) (h_5 : Array Obj) ↦
 ∃ (w_2 : Ws (64 : Nat)),
 v = TV.val (TV.words IntKind.u32 (64 : Nat) w_2) ∧
 Ext h h_5 ∧
 wok h_5 (Array.size h_2) (0 : Nat) (64 : Nat) ∧
 Vc.Bind (TV.put h_5 (Array.size h_2) (0 : Nat) (TV.words IntKind.u32 (64 : Nat) w_1)) fun (h_6 : Array Obj) ↦
 Ext h h_6 ∧
 wok h_6 (Array.size h_1) (0 : Nat) (64 : Nat) ∧
 Vc.Bind (TV.put h_6 (Array.size h_1) (0 : Nat) (TV.words IntKind.u32 (64 : Nat) w_2))
 fun (h_7 : Array Obj) ↦
 Ext h h_7 ∧
 wok h_7 (Array.size h) (0 : Nat) (8 : Nat) ∧
 Vc.Bind (TV.put h_7 (Array.size h) (0 : Nat) (TV.words IntKind.u32 (8 : Nat) w))
 fun (h_8 : Array Obj) ↦
 J
 (some (Loc.mk (Array.size h_2) (0 : Nat)), some (Loc.mk (Array.size h_1) (0 : Nat)),
 some (Loc.mk (Array.size h) (0 : Nat)))
 h_8

theorem sha_state_take_calls (s_ : Option Go.Vc.Loc) (b : Sl) (h : Heap) (R : Value → Heap → Prop) (H : sha_state_take_vc s_ b h R) : CallsH Try.prog 68 (TVs.vals [TV.ptr s_, TV.slice b]) h R :=
 vcFn_sound (C := ctx) ctx_ok (fn := Try.f68) Try.func68 ((by kernel_rfl : sha_state_take_vc s_ b h R = vcFn ctx Try.f68 [TV.ptr s_, TV.slice b] h R) ▸ H)


end Go.Proofs.Ytgdhddignbkloaa

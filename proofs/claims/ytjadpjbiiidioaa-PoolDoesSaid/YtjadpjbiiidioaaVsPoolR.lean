/- The conditions of functions, as the generator reckons them out, each with the proof that it is that. -/
import Derived.Test.YtjadpjbiiidioaaCtx
namespace Go.Proofs.Ytjadpjbiiidioaa
open Go Go.Vc
set_option maxRecDepth 100000
set_option linter.unusedVariables false

def tollerref15_New_vc (most : Int) (quota : Int) (h : Heap) (R : Value → Heap → Prop) : Prop :=
 Vc.Bind (newTV h (TV.agg [TV.slice Sl.nil, TV.int IntKind.i64 most, TV.int IntKind.i64 quota]) (59 : Nat)) fun (h_1 : Array Obj) ↦
 If (decide ((1 : Int) ≤ most))
 (If (decide (most ≤ (64 : Int)))
 (If (decide ((1 : Int) ≤ quota)) (R (TV.val (TV.tup [TV.ptr (some (Loc.mk (Array.size h) (0 : Nat))), TV.bool (decide (quota ≤ (64 : Int)))])) h_1)
 (R (TV.val (TV.tup [TV.ptr (some (Loc.mk (Array.size h) (0 : Nat))), TV.bool false])) h_1))
 (R (TV.val (TV.tup [TV.ptr (some (Loc.mk (Array.size h) (0 : Nat))), TV.bool false])) h_1))
 (R (TV.val (TV.tup [TV.ptr (some (Loc.mk (Array.size h) (0 : Nat))), TV.bool false])) h_1)

theorem tollerref15_New_calls (most : Int) (quota : Int) (h : Heap) (R : Value → Heap → Prop) (H : tollerref15_New_vc most quota h R) : CallsH Try.prog 24 (TVs.vals [TV.int IntKind.i64 most, TV.int IntKind.i64 quota]) h R :=
 vcFn_sound (C := ctx) ctx_ok (fn := Try.f24) Try.func24 ((by kernel_rfl : tollerref15_New_vc most quota h R = vcFn ctx Try.f24 [TV.int IntKind.i64 most, TV.int IntKind.i64 quota] h R) ▸ H)


def tollerref15_Pool_Of_vc (p : Option Go.Vc.Loc) (peer : Int) (h : Heap) (R : Value → Heap → Prop) : Prop :=
 Nn p fun (l : Go.Vc.Loc) ↦
 ∃ (s : Sl),
 at1 h l.b l.o (slVal s) ∧
 Go.Vc.Loop ((0 : Int), (0 : Int)) h fun (s_1 : Int × Int) (h : Array Obj) (K : Int × Int → Array Obj → Prop) ↦
 If (decide (s_1.snd < (↑s.len : Int)))
 ((0 : Int) ≤ s_1.snd ∧
 s_1.snd < (↑s.len : Int) ∧
 Nn s.a fun (l : Go.Vc.Loc) ↦
 ∃ (n : Int),
 ∃ (b : Bs (32 : Nat)),
 ∃ (n_1 : Int),
 ∃ (b_1 : Bs (32 : Nat)),
 ∃ (s : List UInt8),
 (at1 h l.b (l.o + Int.toNat s_1.snd * (67 : Nat)) (Value.int IntKind.i64 n) ∧
 atBytes h l.b (l.o + Int.toNat s_1.snd * (67 : Nat) + (1 : Nat)) (32 : Nat) b ∧
 at1 h l.b (l.o + Int.toNat s_1.snd * (67 : Nat) + (1 : Nat) + (32 : Nat)) (Value.int IntKind.i64 n_1) ∧
 atBytes h l.b (l.o + Int.toNat s_1.snd * (67 : Nat) + (1 : Nat) + (32 : Nat) + (1 : Nat)) (32 : Nat) b_1 ∧
 at1 h l.b (l.o + Int.toNat s_1.snd * (67 : Nat) + (1 : Nat) + (32 : Nat) + (1 : Nat) + (32 : Nat))
 (Value.string (ByteArray.mk (List.toArray s)))) ∧
 Vc.Bind
 (newTV h
 (TV.agg
 [TV.int IntKind.i64 (0 : Int), TV.bytes (32 : Nat) (Bs.zero (32 : Nat)), TV.int IntKind.i64 (0 : Int),
 TV.bytes (32 : Nat) (Bs.zero (32 : Nat)), TV.str []])
 (68 : Nat))
 fun (h_1 : Array Obj) ↦
 wok h_1 (Array.size h) (0 : Nat) (67 : Nat) ∧
 Vc.Bind
 (TV.put h_1 (Array.size h) (0 : Nat)
 (TV.agg [TV.int IntKind.i64 n, TV.bytes (32 : Nat) b, TV.int IntKind.i64 n_1, TV.bytes (32 : Nat) b_1, TV.str s]))
 fun (h_2 : Array Obj) ↦
 ∃ (n : Int),
 at1 h_2 (Array.size h) (33 : Nat) (Value.int IntKind.i64 n) ∧
 If (decide (n = peer))
 (K (IntKind.wrap IntKind.i64 (s_1.fst + (1 : Int)), IntKind.wrap IntKind.i64 (s_1.snd + (1 : Int))) h_2)
 (K (s_1.fst, IntKind.wrap IntKind.i64 (s_1.snd + (1 : Int))) h_2))
 (R (TV.val (TV.int IntKind.i64 s_1.fst)) h)

theorem tollerref15_Pool_Of_calls (p : Option Go.Vc.Loc) (peer : Int) (h : Heap) (R : Value → Heap → Prop) (H : tollerref15_Pool_Of_vc p peer h R) : CallsH Try.prog 26 (TVs.vals [TV.ptr p, TV.int IntKind.i64 peer]) h R :=
 vcFn_sound (C := ctx) ctx_ok (fn := Try.f26) Try.func26 ((by kernel_rfl : tollerref15_Pool_Of_vc p peer h R = vcFn ctx Try.f26 [TV.ptr p, TV.int IntKind.i64 peer] h R) ▸ H)


def tollerref15_Pool_Has_vc (p : Option Go.Vc.Loc) (root : Bs (32 : Nat)) (h : Heap) (R : Value → Heap → Prop) : Prop :=
 Vc.Bind (newTV h (TV.bytes (32 : Nat) root) (30 : Nat)) fun (h_1 : Array Obj) ↦
 Nn p fun (l : Go.Vc.Loc) ↦
 ∃ (s : Sl),
 at1 h_1 l.b l.o (slVal s) ∧
 Go.Vc.Loop (false, (0 : Int)) h_1 fun (s_1 : Bool × Int) (h_2 : Array Obj) (K : Bool × Int → Array Obj → Prop) ↦
 If (decide (s_1.snd < (↑s.len : Int)))
 ((0 : Int) ≤ s_1.snd ∧
 s_1.snd < (↑s.len : Int) ∧
 Nn s.a fun (l : Go.Vc.Loc) ↦
 ∃ (n : Int),
 ∃ (b : Bs (32 : Nat)),
 ∃ (n_1 : Int),
 ∃ (b_1 : Bs (32 : Nat)),
 ∃ (s : List UInt8),
 (at1 h_2 l.b (l.o + Int.toNat s_1.snd * (67 : Nat)) (Value.int IntKind.i64 n) ∧
 atBytes h_2 l.b (l.o + Int.toNat s_1.snd * (67 : Nat) + (1 : Nat)) (32 : Nat) b ∧
 at1 h_2 l.b (l.o + Int.toNat s_1.snd * (67 : Nat) + (1 : Nat) + (32 : Nat)) (Value.int IntKind.i64 n_1) ∧
 atBytes h_2 l.b (l.o + Int.toNat s_1.snd * (67 : Nat) + (1 : Nat) + (32 : Nat) + (1 : Nat)) (32 : Nat) b_1 ∧
 at1 h_2 l.b (l.o + Int.toNat s_1.snd * (67 : Nat) + (1 : Nat) + (32 : Nat) + (1 : Nat) + (32 : Nat))
 (Value.string (ByteArray.mk (List.toArray s)))) ∧
 Vc.Bind
 (newTV h_2
 (TV.agg
 [TV.int IntKind.i64 (0 : Int), TV.bytes (32 : Nat) (Bs.zero (32 : Nat)), TV.int IntKind.i64 (0 : Int),
 TV.bytes (32 : Nat) (Bs.zero (32 : Nat)), TV.str []])
 (68 : Nat))
 fun (h_3 : Array Obj) ↦
 wok h_3 (Array.size h_2) (0 : Nat) (67 : Nat) ∧
 Vc.Bind
 (TV.put h_3 (Array.size h_2) (0 : Nat)
 (TV.agg [TV.int IntKind.i64 n, TV.bytes (32 : Nat) b, TV.int IntKind.i64 n_1, TV.bytes (32 : Nat) b_1, TV.str s]))
 fun (h_4 : Array Obj) ↦
 ∃ (b : Bs (32 : Nat)),
 atBytes h_4 (Array.size h_2) (1 : Nat) (32 : Nat) b ∧
 ∃ (b_2 : Bs (32 : Nat)),
 atBytes h_4 (Array.size h) (0 : Nat) (32 : Nat) b_2 ∧
 If (decide (b.l = b_2.l)) (R (TV.val (TV.bool true)) h_4)
 (K (s_1.fst, IntKind.wrap IntKind.i64 (s_1.snd + (1 : Int))) h_4))
 (R (TV.val (TV.bool false)) h_2)

theorem tollerref15_Pool_Has_calls (p : Option Go.Vc.Loc) (root : Bs (32 : Nat)) (h : Heap) (R : Value → Heap → Prop) (H : tollerref15_Pool_Has_vc p root h R) : CallsH Try.prog 28 (TVs.vals [TV.ptr p, TV.bytes (32 : Nat) root]) h R :=
 vcFn_sound (C := ctx) ctx_ok (fn := Try.f28) Try.func28 ((by kernel_rfl : tollerref15_Pool_Has_vc p root h R = vcFn ctx Try.f28 [TV.ptr p, TV.bytes (32 : Nat) root] h R) ▸ H)


def tollerref15_Before_vc (a_Slot : Int) (a_Root : Bs (32 : Nat)) (a_Peer : Int) (a_For : Bs (32 : Nat)) (a_Text : List UInt8) (b_Slot : Int) (b_Root : Bs (32 : Nat)) (b_Peer : Int) (b_For : Bs (32 : Nat)) (b_Text : List UInt8) (h : Heap) (R : Value → Heap → Prop) : Prop :=
 Vc.Bind
 (newTV h (TV.agg [TV.int IntKind.i64 a_Slot, TV.bytes (32 : Nat) a_Root, TV.int IntKind.i64 a_Peer, TV.bytes (32 : Nat) a_For, TV.str a_Text]) (68 : Nat))
 fun (h_1 : Array Obj) ↦
 Vc.Bind
 (newTV h_1 (TV.agg [TV.int IntKind.i64 b_Slot, TV.bytes (32 : Nat) b_Root, TV.int IntKind.i64 b_Peer, TV.bytes (32 : Nat) b_For, TV.str b_Text]) (68 : Nat))
 fun (h_2 : Array Obj) ↦
 ∃ (n : Int),
 at1 h_2 (Array.size h) (0 : Nat) (Value.int IntKind.i64 n) ∧
 ∃ (n_1 : Int),
 at1 h_2 (Array.size h_1) (0 : Nat) (Value.int IntKind.i64 n_1) ∧
 If (!decide (n = n_1))
 (∃ (n : Int),
 at1 h_2 (Array.size h) (0 : Nat) (Value.int IntKind.i64 n) ∧
 ∃ (n_2 : Int), at1 h_2 (Array.size h_1) (0 : Nat) (Value.int IntKind.i64 n_2) ∧ R (TV.val (TV.bool (decide (n < n_2)))) h_2)
 (∃ (b : Bs (32 : Nat)),
 atBytes h_2 (Array.size h) (1 : Nat) (32 : Nat) b ∧
 ∃ (b_1 : Bs (32 : Nat)),
 atBytes h_2 (Array.size h_1) (1 : Nat) (32 : Nat) b_1 ∧
 CallsH Try.prog (60 : Nat) (TVs.vals [TV.bytes (32 : Nat) b, TV.bytes (32 : Nat) b_1]) h_2 fun (v : Value) (h : Array Obj) ↦
 ∃ (b : Bool), v = TV.val (TV.bool b) ∧ R (TV.val (TV.bool b)) h)

theorem tollerref15_Before_calls (a_Slot : Int) (a_Root : Bs (32 : Nat)) (a_Peer : Int) (a_For : Bs (32 : Nat)) (a_Text : List UInt8) (b_Slot : Int) (b_Root : Bs (32 : Nat)) (b_Peer : Int) (b_For : Bs (32 : Nat)) (b_Text : List UInt8) (h : Heap) (R : Value → Heap → Prop) (H : tollerref15_Before_vc a_Slot a_Root a_Peer a_For a_Text b_Slot b_Root b_Peer b_For b_Text h R) : CallsH Try.prog 49 (TVs.vals [TV.agg [TV.int IntKind.i64 a_Slot, TV.bytes (32 : Nat) a_Root, TV.int IntKind.i64 a_Peer, TV.bytes (32 : Nat) a_For, TV.str a_Text], TV.agg [TV.int IntKind.i64 b_Slot, TV.bytes (32 : Nat) b_Root, TV.int IntKind.i64 b_Peer, TV.bytes (32 : Nat) b_For, TV.str b_Text]]) h R :=
 vcFn_sound (C := ctx) ctx_ok (fn := Try.f49) Try.func49 ((by kernel_rfl : tollerref15_Before_vc a_Slot a_Root a_Peer a_For a_Text b_Slot b_Root b_Peer b_For b_Text h R = vcFn ctx Try.f49 [TV.agg [TV.int IntKind.i64 a_Slot, TV.bytes (32 : Nat) a_Root, TV.int IntKind.i64 a_Peer, TV.bytes (32 : Nat) a_For, TV.str a_Text], TV.agg [TV.int IntKind.i64 b_Slot, TV.bytes (32 : Nat) b_Root, TV.int IntKind.i64 b_Peer, TV.bytes (32 : Nat) b_For, TV.str b_Text]] h R) ▸ H)


def tollerref03_Less_vc (a : Bs (32 : Nat)) (b : Bs (32 : Nat)) (h : Heap) (R : Value → Heap → Prop) : Prop :=
 Vc.Bind (newTV h (TV.bytes (32 : Nat) a) (30 : Nat)) fun (h_1 : Array Obj) ↦
 Vc.Bind (newTV h_1 (TV.bytes (32 : Nat) b) (30 : Nat)) fun (h_2 : Array Obj) ↦
 Go.Vc.Loop (false, (0 : Int)) h_2 fun (s : Bool × Int) (h_3 : Array Obj) (K : Bool × Int → Array Obj → Prop) ↦
 If (decide (s.snd < (32 : Int)))
 ((0 : Int) ≤ s.snd ∧
 s.snd < (↑(32 : Nat) : Int) ∧
 ∃ (n : Int),
 at1 h_3 (Array.size h) ((0 : Nat) + Int.toNat s.snd * (1 : Nat)) (Value.int IntKind.u8 n) ∧
 (0 : Int) ≤ s.snd ∧
 s.snd < (↑(32 : Nat) : Int) ∧
 ∃ (n_1 : Int),
 at1 h_3 (Array.size h_1) ((0 : Nat) + Int.toNat s.snd * (1 : Nat)) (Value.int IntKind.u8 n_1) ∧
 If (!decide (n = n_1))
 ((0 : Int) ≤ s.snd ∧
 s.snd < (↑(32 : Nat) : Int) ∧
 ∃ (n : Int),
 at1 h_3 (Array.size h) ((0 : Nat) + Int.toNat s.snd * (1 : Nat)) (Value.int IntKind.u8 n) ∧
 (0 : Int) ≤ s.snd ∧
 s.snd < (↑(32 : Nat) : Int) ∧
 ∃ (n_2 : Int),
 at1 h_3 (Array.size h_1) ((0 : Nat) + Int.toNat s.snd * (1 : Nat)) (Value.int IntKind.u8 n_2) ∧
 R (TV.val (TV.bool (decide (n < n_2)))) h_3)
 (K (s.fst, IntKind.wrap IntKind.i64 (s.snd + (1 : Int))) h_3))
 (R (TV.val (TV.bool false)) h_3)

theorem tollerref03_Less_calls (a : Bs (32 : Nat)) (b : Bs (32 : Nat)) (h : Heap) (R : Value → Heap → Prop) (H : tollerref03_Less_vc a b h R) : CallsH Try.prog 60 (TVs.vals [TV.bytes (32 : Nat) a, TV.bytes (32 : Nat) b]) h R :=
 vcFn_sound (C := ctx) ctx_ok (fn := Try.f60) Try.func60 ((by kernel_rfl : tollerref03_Less_vc a b h R = vcFn ctx Try.f60 [TV.bytes (32 : Nat) a, TV.bytes (32 : Nat) b] h R) ▸ H)


def tollerref15_Pool_Put_vc (p : Option Go.Vc.Loc) (x_Slot : Int) (x_Root : Bs (32 : Nat)) (x_Peer : Int) (x_For : Bs (32 : Nat)) (x_Text : List UInt8) (h : Heap) (R : Value → Heap → Prop) : Prop :=
 Vc.Bind
 (newTV h (TV.agg [TV.int IntKind.i64 x_Slot, TV.bytes (32 : Nat) x_Root, TV.int IntKind.i64 x_Peer, TV.bytes (32 : Nat) x_For, TV.str x_Text]) (68 : Nat))
 fun (h_1 : Array Obj) ↦
 Vc.Bind
 (newTV h_1
 (TV.agg
 [TV.int IntKind.i64 (0 : Int), TV.bytes (32 : Nat) (Bs.zero (32 : Nat)), TV.int IntKind.i64 (0 : Int), TV.bytes (32 : Nat) (Bs.zero (32 : Nat)),
 TV.str []])
 (68 : Nat))
 fun (h_2 : Array Obj) ↦
 ∃ (b : Bs (32 : Nat)),
 atBytes h_2 (Array.size h) (1 : Nat) (32 : Nat) b ∧
 CallsH Try.prog (28 : Nat) (TVs.vals [TV.ptr p, TV.bytes (32 : Nat) b]) h_2 fun (v : Value) (h_3 : Array Obj) ↦
 ∃ (b : Bool),
 v = TV.val (TV.bool b) ∧
 If b
 (wok h_3 (Array.size h_1) (0 : Nat) (67 : Nat) ∧
 Vc.Bind
 (TV.put h_3 (Array.size h_1) (0 : Nat)
 (TV.agg
 [TV.int IntKind.i64 (0 : Int), TV.bytes (32 : Nat) (Bs.zero (32 : Nat)), TV.int IntKind.i64 (0 : Int),
 TV.bytes (32 : Nat) (Bs.zero (32 : Nat)), TV.str []]))
 fun (h : Array Obj) ↦
 ∃ (n : Int),
 ∃ (b : Bs (32 : Nat)),
 ∃ (n_1 : Int),
 ∃ (b_1 : Bs (32 : Nat)),
 ∃ (s : List UInt8),
 (at1 h (Array.size h_1) (0 : Nat) (Value.int IntKind.i64 n) ∧
 atBytes h (Array.size h_1) (1 : Nat) (32 : Nat) b ∧
 at1 h (Array.size h_1) (33 : Nat) (Value.int IntKind.i64 n_1) ∧
 atBytes h (Array.size h_1) (34 : Nat) (32 : Nat) b_1 ∧
 at1 h (Array.size h_1) (66 : Nat) (Value.string (ByteArray.mk (List.toArray s)))) ∧
 R
 (TV.val
 (TV.tup
 [TV.int IntKind.i64 (9 : Int),
 TV.agg [TV.int IntKind.i64 n, TV.bytes (32 : Nat) b, TV.int IntKind.i64 n_1, TV.bytes (32 : Nat) b_1, TV.str s]]))
 h)
 (∃ (n : Int),
 at1 h_3 (Array.size h) (33 : Nat) (Value.int IntKind.i64 n) ∧
 Nn p fun (l : Go.Vc.Loc) ↦
 ∃ (n_1 : Int),
 at1 h_3 l.b (l.o + (2 : Nat)) (Value.int IntKind.i64 n_1) ∧
 CallsH Try.prog (26 : Nat) (TVs.vals [TV.ptr p, TV.int IntKind.i64 n]) h_3 fun (v : Value) (h_4 : Array Obj) ↦
 ∃ (n : Int),
 v = TV.val (TV.int IntKind.i64 n) ∧
 Ext h_3 h_4 ∧
 If (decide (n_1 ≤ n))
 (wok h_4 (Array.size h_1) (0 : Nat) (67 : Nat) ∧
 Vc.Bind
 (TV.put h_4 (Array.size h_1) (0 : Nat)
 (TV.agg
 [TV.int IntKind.i64 (0 : Int), TV.bytes (32 : Nat) (Bs.zero (32 : Nat)), TV.int IntKind.i64 (0 : Int),
 TV.bytes (32 : Nat) (Bs.zero (32 : Nat)), TV.str []]))
 fun (h : Array Obj) ↦
 ∃ (n : Int),
 ∃ (b : Bs (32 : Nat)),
 ∃ (n_2 : Int),
 ∃ (b_1 : Bs (32 : Nat)),
 ∃ (s : List UInt8),
 (at1 h (Array.size h_1) (0 : Nat) (Value.int IntKind.i64 n) ∧
 atBytes h (Array.size h_1) (1 : Nat) (32 : Nat) b ∧
 at1 h (Array.size h_1) (33 : Nat) (Value.int IntKind.i64 n_2) ∧
 atBytes h (Array.size h_1) (34 : Nat) (32 : Nat) b_1 ∧
 at1 h (Array.size h_1) (66 : Nat) (Value.string (ByteArray.mk (List.toArray s)))) ∧
 R
 (TV.val
 (TV.tup
 [TV.int IntKind.i64 (11 : Int),
 TV.agg
 [TV.int IntKind.i64 n, TV.bytes (32 : Nat) b, TV.int IntKind.i64 n_2, TV.bytes (32 : Nat) b_1,
 TV.str s]]))
 h)
 (Nn p fun (l : Go.Vc.Loc) ↦
 ∃ (s : Sl),
 at1 h_4 l.b l.o (slVal s) ∧
 Join
 (fun (s_1 : Int) (h_5 : Array Obj) ↦
 Go.Vc.Loop (0 : Int) h_5 fun (s_2 : Int) (h_6 : Array Obj) (K : Int → Array Obj → Prop) ↦
 If (decide (s_2 < (↑s.len : Int)))
 (∃ (n : Int),
 ∃ (b : Bs (32 : Nat)),
 ∃ (n_2 : Int),
 ∃ (b_1 : Bs (32 : Nat)),
 ∃ (s_3 : List UInt8),
 (at1 h_6 (Array.size h) (0 : Nat) (Value.int IntKind.i64 n) ∧
 atBytes h_6 (Array.size h) (1 : Nat) (32 : Nat) b ∧
 at1 h_6 (Array.size h) (33 : Nat) (Value.int IntKind.i64 n_2) ∧
 atBytes h_6 (Array.size h) (34 : Nat) (32 : Nat) b_1 ∧
 at1 h_6 (Array.size h) (66 : Nat) (Value.string (ByteArray.mk (List.toArray s_3)))) ∧
 Nn p fun (l : Go.Vc.Loc) ↦
 ∃ (s_4 : Sl),
 at1 h_6 l.b l.o (slVal s_4) ∧
 (0 : Int) ≤ s_2 ∧
 s_2 < (↑s_4.len : Int) ∧
 Nn s_4.a fun (l : Go.Vc.Loc) ↦
 ∃ (n_3 : Int),
 ∃ (b_2 : Bs (32 : Nat)),
 ∃ (n_4 : Int),
 ∃ (b_3 : Bs (32 : Nat)),
 ∃ (s_5 : List UInt8),
 (at1 h_6 l.b (l.o + Int.toNat s_2 * (67 : Nat))
 (Value.int IntKind.i64 n_3) ∧
 atBytes h_6 l.b (l.o + Int.toNat s_2 * (67 : Nat) + (1 : Nat))
 (32 : Nat) b_2 ∧
 at1 h_6 l.b
 (l.o + Int.toNat s_2 * (67 : Nat) + (1 : Nat) + (32 : Nat))
 (Value.int IntKind.i64 n_4) ∧
 atBytes h_6 l.b
 (l.o + Int.toNat s_2 * (67 : Nat) + (1 : Nat) + (32 : Nat) +
 (1 : Nat))
 (32 : Nat) b_3 ∧
 at1 h_6 l.b
 (l.o + Int.toNat s_2 * (67 : Nat) + (1 : Nat) + (32 : Nat) +
 (1 : Nat) +
 (32 : Nat))
 (Value.string (ByteArray.mk (List.toArray s_5)))) ∧
 CallsH Try.prog (49 : Nat)
 (TVs.vals
 [TV.agg
 [TV.int IntKind.i64 n, TV.bytes (32 : Nat) b,
 TV.int IntKind.i64 n_2, TV.bytes (32 : Nat) b_1, TV.str s_3],
 TV.agg
 [TV.int IntKind.i64 n_3, TV.bytes (32 : Nat) b_2,
 TV.int IntKind.i64 n_4, TV.bytes (32 : Nat) b_3, TV.str s_5]])
 h_6 fun (v : Value) (h_7 : Array Obj) ↦
 ∃ (b : Bool),
 v = TV.val (TV.bool b) ∧
 If (!b) (K (IntKind.wrap IntKind.i64 (s_2 + (1 : Int))) h_7)
 (Nn p fun (l : Go.Vc.Loc) ↦
 ∃ (s_6 : Sl),
 at1 h_7 l.b l.o (slVal s_6) ∧
 (0 : Int) ≤ s_2 ∧
 s_2 ≤ (↑s_6.cap : Int) ∧
 (0 : Int) ≤ s_2 ∧
 s_2 ≤ s_2 ∧
 ∃ (n : Int),
 ∃ (b : Bs (32 : Nat)),
 ∃ (n_5 : Int),
 ∃ (b_4 : Bs (32 : Nat)),
 ∃ (s_7 : List UInt8),
 (at1 h_7 (Array.size h) (0 : Nat)
 (Value.int IntKind.i64 n) ∧
 atBytes h_7 (Array.size h) (1 : Nat)
 (32 : Nat) b ∧
 at1 h_7 (Array.size h) (33 : Nat)
 (Value.int IntKind.i64 n_5) ∧
 atBytes h_7 (Array.size h)
 (34 : Nat) (32 : Nat) b_4 ∧
 at1 h_7 (Array.size h)
 (66 : Nat)
 (Value.string
 (ByteArray.mk
 (List.toArray s_7)))) ∧
 Nn p fun (l : Go.Vc.Loc) ↦
 ∃ (s_8 : Sl),
 at1 h_7 l.b l.o (slVal s_8) ∧
 (0 : Int) ≤ s_2 ∧
 s_2 ≤ (↑s_8.len : Int) ∧
 Ext h_7
 (Array.push h_7
 (row
 (TVs.cells
 [TV.agg
 [TV.int
 IntKind.i64
 n,
 TV.bytes
 (32 : Nat)
 b,
 TV.int
 IntKind.i64
 n_5,
 TV.bytes
 (32 : Nat)
 b_4,
 TV.str s_7]])
 (68 : Nat))) ∧
 ∃ (new : List Value),
 slAt
 (Array.push h_7
 (row
 (TVs.cells
 [TV.agg
 [TV.int
 IntKind.i64
 n,
 TV.bytes
 (32 :
 Nat)
 b,
 TV.int
 IntKind.i64
 n_5,
 TV.bytes
 (32 :
 Nat)
 b_4,
 TV.str
 s_7]])
 (68 : Nat)))
 (cutSl s_8
 (Int.toNat s_2)
 s_8.len (67 : Nat))
 (67 : Nat) new ∧
 (∀ (v : Value),
 v ∈ new →
 isOne v = true) ∧
 vcAppend
 Ytjadpjbiiidioaa.ctx
 (68 : Nat)
 (Sl.mk
 (some
 (Loc.mk
 (Array.size
 h_7)
 (0 : Nat)))
 (1 : Nat)
 (1 : Nat))
 (cutSl s_8
 (Int.toNat s_2)
 s_8.len
 (67 : Nat)).len
 new
 (Array.push h_7
 (row
 (TVs.cells
 [TV.agg
 [TV.int
 IntKind.i64
 n,
 TV.bytes
 (32 :
 Nat)
 b,
 TV.int
 IntKind.i64
 n_5,
 TV.bytes
 (32 :
 Nat)
 b_4,
 TV.str
 s_7]])
 (68 : Nat)))
 fun (s_9 : Sl)
 (h : Array Obj) ↦
 Ext
 (Array.push h_7
 (row
 (TVs.cells
 [TV.agg
 [TV.int
 IntKind.i64
 n,
 TV.bytes
 (32 :
 Nat)
 b,
 TV.int
 IntKind.i64
 n_5,
 TV.bytes
 (32 :
 Nat)
 b_4,
 TV.str
 s_7]])
 (68 : Nat)))
 h ∧
 ∃ (new :
 List Value),
 slAt h s_9
 (67 : Nat)
 new ∧
 (∀
 (v :
 Value),
 v ∈ new →
 isOne
 v =
 true) ∧
 vcAppend
 Ytjadpjbiiidioaa.ctx
 (68 : Nat)
 (cutSl
 (Sl.mk
 s_6.a
 s_6.len
 (Int.toNat
 s_2))
 (0 :
 Nat)
 (Int.toNat
 s_2)
 (67 :
 Nat))
 s_9.len
 new h
 fun
 (s_10 :
 Sl)
 (h :
 Array
 Obj) ↦
 Nn p
 fun
 (l :
 Go.Vc.Loc) ↦
 wok h
 l.b
 l.o
 (1 :
 Nat) ∧
 Vc.Bind
 (TV.put
 h
 l.b
 l.o
 (TV.slice
 s_10))
 fun
 (h :
 Array
 Obj) ↦
 Nn p
 fun
 (l :
 Go.Vc.Loc) ↦
 ∃
 (n
 :
 Int),
 at1
 h
 l.b
 (l.o +
 (1 :
 Nat))
 (Value.int
 IntKind.i64
 n) ∧
 If
 (decide
 ((↑s.len :
 Int) <
 n))
 (wok
 h
 (Array.size
 h_1)
 (0 :
 Nat)
 (67 :
 Nat) ∧
 Vc.Bind
 (TV.put
 h
 (Array.size
 h_1)
 (0 :
 Nat)
 (TV.agg
 [TV.int
 IntKind.i64
 (0 :
 Int),
 TV.bytes
 (32 :
 Nat)
 (Bs.zero
 (32 :
 Nat)),
 TV.int
 IntKind.i64
 (0 :
 Int),
 TV.bytes
 (32 :
 Nat)
 (Bs.zero
 (32 :
 Nat)),
 TV.str
 []]))
 fun
 (h :
 Array
 Obj) ↦
 ∃
 (n
 :
 Int),
 ∃
 (b
 :
 Bs
 (32 :
 Nat)),
 ∃
 (n_6
 :
 Int),
 ∃
 (b_5
 :
 Bs
 (32 :
 Nat)),
 ∃
 (s
 :
 List
 UInt8),
 (at1
 h
 (Array.size
 h_1)
 (0 :
 Nat)
 (Value.int
 IntKind.i64
 n) ∧
 atBytes
 h
 (Array.size
 h_1)
 (1 :
 Nat)
 (32 :
 Nat)
 b ∧
 at1
 h
 (Array.size
 h_1)
 (33 :
 Nat)
 (Value.int
 IntKind.i64
 n_6) ∧
 atBytes
 h
 (Array.size
 h_1)
 (34 :
 Nat)
 (32 :
 Nat)
 b_5 ∧
 at1
 h
 (Array.size
 h_1)
 (66 :
 Nat)
 (Value.string
 (ByteArray.mk
 (List.toArray
 s)))) ∧
 R
 (TV.val
 (TV.tup
 [TV.int
 IntKind.i64
 (1 :
 Int),
 TV.agg
 [TV.int
 IntKind.i64
 n,
 TV.bytes
 (32 :
 Nat)
 b,
 TV.int
 IntKind.i64
 n_6,
 TV.bytes
 (32 :
 Nat)
 b_5,
 TV.str
 s]]))
 h)
 (Nn
 p
 fun
 (l :
 Go.Vc.Loc) ↦
 ∃
 (s_11
 :
 Sl),
 at1
 h
 l.b
 l.o
 (slVal
 s_11) ∧
 (0 :
 Int) ≤
 (↑s.len :
 Int) ∧
 (↑s.len :
 Int) <
 (↑s_11.len :
 Int) ∧
 Nn
 s_11.a
 fun
 (l :
 Go.Vc.Loc) ↦
 ∃
 (n
 :
 Int),
 ∃
 (b
 :
 Bs
 (32 :
 Nat)),
 ∃
 (n_6
 :
 Int),
 ∃
 (b_5
 :
 Bs
 (32 :
 Nat)),
 ∃
 (s_12
 :
 List
 UInt8),
 (at1
 h
 l.b
 (l.o +
 Int.toNat
 (↑s.len :
 Int) *
 (67 :
 Nat))
 (Value.int
 IntKind.i64
 n) ∧
 atBytes
 h
 l.b
 (l.o +
 Int.toNat
 (↑s.len :
 Int) *
 (67 :
 Nat) +
 (1 :
 Nat))
 (32 :
 Nat)
 b ∧
 at1
 h
 l.b
 (l.o +
 Int.toNat
 (↑s.len :
 Int) *
 (67 :
 Nat) +
 (1 :
 Nat) +
 (32 :
 Nat))
 (Value.int
 IntKind.i64
 n_6) ∧
 atBytes
 h
 l.b
 (l.o +
 Int.toNat
 (↑s.len :
 Int) *
 (67 :
 Nat) +
 (1 :
 Nat) +
 (32 :
 Nat) +
 (1 :
 Nat))
 (32 :
 Nat)
 b_5 ∧
 at1
 h
 l.b
 (l.o +
 Int.toNat
 (↑s.len :
 Int) *
 (67 :
 Nat) +
 (1 :
 Nat) +
 (32 :
 Nat) +
 (1 :
 Nat) +
 (32 :
 Nat))
 (Value.string
 (ByteArray.mk
 (List.toArray
 s_12)))) ∧
 Vc.Bind
 (newTV
 h
 (TV.agg
 [TV.int
 IntKind.i64
 (0 :
 Int),
 TV.bytes
 (32 :
 Nat)
 (Bs.zero
 (32 :
 Nat)),
 TV.int
 IntKind.i64
 (0 :
 Int),
 TV.bytes
 (32 :
 Nat)
 (Bs.zero
 (32 :
 Nat)),
 TV.str
 []])
 (68 :
 Nat))
 fun
 (h_8 :
 Array
 Obj) ↦
 wok
 h_8
 (Array.size
 h)
 (0 :
 Nat)
 (67 :
 Nat) ∧
 Vc.Bind
 (TV.put
 h_8
 (Array.size
 h)
 (0 :
 Nat)
 (TV.agg
 [TV.int
 IntKind.i64
 n,
 TV.bytes
 (32 :
 Nat)
 b,
 TV.int
 IntKind.i64
 n_6,
 TV.bytes
 (32 :
 Nat)
 b_5,
 TV.str
 s_12]))
 fun
 (h_9 :
 Array
 Obj) ↦
 Nn
 p
 fun
 (l :
 Go.Vc.Loc) ↦
 ∃
 (s_13
 :
 Sl),
 at1
 h_9
 l.b
 l.o
 (slVal
 s_13) ∧
 (0 :
 Int) ≤
 (↑s.len :
 Int) ∧
 (↑s.len :
 Int) ≤
 (↑s_13.cap :
 Int) ∧
 (0 :
 Int) ≤
 (↑s.len :
 Int) ∧
 (↑s.len :
 Int) ≤
 (↑s.len :
 Int) ∧
 Nn
 p
 fun
 (l :
 Go.Vc.Loc) ↦
 wok
 h_9
 l.b
 l.o
 (1 :
 Nat) ∧
 Vc.Bind
 (TV.put
 h_9
 l.b
 l.o
 (TV.slice
 (cutSl
 (Sl.mk
 s_13.a
 s_13.len
 (Int.toNat
 (↑s.len :
 Int)))
 (0 :
 Nat)
 (Int.toNat
 (↑s.len :
 Int))
 (67 :
 Nat))))
 fun
 (h_10 :
 Array
 Obj) ↦
 ∃
 (n
 :
 Int),
 ∃
 (b
 :
 Bs
 (32 :
 Nat)),
 ∃
 (n_7
 :
 Int),
 ∃
 (b_6
 :
 Bs
 (32 :
 Nat)),
 ∃
 (s
 :
 List
 UInt8),
 (at1
 h_10
 (Array.size
 h)
 (0 :
 Nat)
 (Value.int
 IntKind.i64
 n) ∧
 atBytes
 h_10
 (Array.size
 h)
 (1 :
 Nat)
 (32 :
 Nat)
 b ∧
 at1
 h_10
 (Array.size
 h)
 (33 :
 Nat)
 (Value.int
 IntKind.i64
 n_7) ∧
 atBytes
 h_10
 (Array.size
 h)
 (34 :
 Nat)
 (32 :
 Nat)
 b_6 ∧
 at1
 h_10
 (Array.size
 h)
 (66 :
 Nat)
 (Value.string
 (ByteArray.mk
 (List.toArray
 s)))) ∧
 wok
 h_10
 (Array.size
 h_1)
 (0 :
 Nat)
 (67 :
 Nat) ∧
 Vc.Bind
 (TV.put
 h_10
 (Array.size
 h_1)
 (0 :
 Nat)
 (TV.agg
 [TV.int
 IntKind.i64
 n,
 TV.bytes
 (32 :
 Nat)
 b,
 TV.int
 IntKind.i64
 n_7,
 TV.bytes
 (32 :
 Nat)
 b_6,
 TV.str
 s]))
 fun
 (h :
 Array
 Obj) ↦
 ∃
 (n
 :
 Int),
 ∃
 (b
 :
 Bs
 (32 :
 Nat)),
 ∃
 (n_8
 :
 Int),
 ∃
 (b_7
 :
 Bs
 (32 :
 Nat)),
 ∃
 (s
 :
 List
 UInt8),
 (at1
 h
 (Array.size
 h_1)
 (0 :
 Nat)
 (Value.int
 IntKind.i64
 n) ∧
 atBytes
 h
 (Array.size
 h_1)
 (1 :
 Nat)
 (32 :
 Nat)
 b ∧
 at1
 h
 (Array.size
 h_1)
 (33 :
 Nat)
 (Value.int
 IntKind.i64
 n_8) ∧
 atBytes
 h
 (Array.size
 h_1)
 (34 :
 Nat)
 (32 :
 Nat)
 b_7 ∧
 at1
 h
 (Array.size
 h_1)
 (66 :
 Nat)
 (Value.string
 (ByteArray.mk
 (List.toArray
 s)))) ∧
 R
 (TV.val
 (TV.tup
 [TV.int
 IntKind.i64
 (2 :
 Int),
 TV.agg
 [TV.int
 IntKind.i64
 n,
 TV.bytes
 (32 :
 Nat)
 b,
 TV.int
 IntKind.i64
 n_8,
 TV.bytes
 (32 :
 Nat)
 b_7,
 TV.str
 s]]))
 h)))
 (Nn p fun (l : Go.Vc.Loc) ↦
 ∃ (s_3 : Sl),
 at1 h_6 l.b l.o (slVal s_3) ∧
 (0 : Int) ≤ s_2 ∧
 s_2 ≤ (↑s_3.cap : Int) ∧
 (0 : Int) ≤ s_2 ∧
 s_2 ≤ s_2 ∧
 ∃ (n : Int),
 ∃ (b : Bs (32 : Nat)),
 ∃ (n_2 : Int),
 ∃ (b_1 : Bs (32 : Nat)),
 ∃ (s_4 : List UInt8),
 (at1 h_6 (Array.size h) (0 : Nat) (Value.int IntKind.i64 n) ∧
 atBytes h_6 (Array.size h) (1 : Nat) (32 : Nat) b ∧
 at1 h_6 (Array.size h) (33 : Nat) (Value.int IntKind.i64 n_2) ∧
 atBytes h_6 (Array.size h) (34 : Nat) (32 : Nat) b_1 ∧
 at1 h_6 (Array.size h) (66 : Nat)
 (Value.string (ByteArray.mk (List.toArray s_4)))) ∧
 Nn p fun (l : Go.Vc.Loc) ↦
 ∃ (s_5 : Sl),
 at1 h_6 l.b l.o (slVal s_5) ∧
 (0 : Int) ≤ s_2 ∧
 s_2 ≤ (↑s_5.len : Int) ∧
 Ext h_6
 (Array.push h_6
 (row
 (TVs.cells
 [TV.agg
 [TV.int IntKind.i64 n, TV.bytes (32 : Nat) b,
 TV.int IntKind.i64 n_2, TV.bytes (32 : Nat) b_1,
 TV.str s_4]])
 (68 : Nat))) ∧
 ∃ (new : List Value),
 slAt
 (Array.push h_6
 (row
 (TVs.cells
 [TV.agg
 [TV.int IntKind.i64 n, TV.bytes (32 : Nat) b,
 TV.int IntKind.i64 n_2, TV.bytes (32 : Nat) b_1,
 TV.str s_4]])
 (68 : Nat)))
 (cutSl s_5 (Int.toNat s_2) s_5.len (67 : Nat)) (67 : Nat) new ∧
 (∀ (v : Value), v ∈ new → isOne v = true) ∧
 vcAppend Ytjadpjbiiidioaa.ctx (68 : Nat)
 (Sl.mk (some (Loc.mk (Array.size h_6) (0 : Nat))) (1 : Nat)
 (1 : Nat))
 (cutSl s_5 (Int.toNat s_2) s_5.len (67 : Nat)).len new
 (Array.push h_6
 (row
 (TVs.cells
 [TV.agg
 [TV.int IntKind.i64 n, TV.bytes (32 : Nat) b,
 TV.int IntKind.i64 n_2, TV.bytes (32 : Nat) b_1,
 TV.str s_4]])
 (68 : Nat)))
 fun (s_6 : Sl) (h : Array Obj) ↦
 Ext
 (Array.push h_6
 (row
 (TVs.cells
 [TV.agg
 [TV.int IntKind.i64 n, TV.bytes (32 : Nat) b,
 TV.int IntKind.i64 n_2, TV.bytes (32 : Nat) b_1,
 TV.str s_4]])
 (68 : Nat)))
 h ∧
 ∃ (new : List Value),
 slAt h s_6 (67 : Nat) new ∧
 (∀ (v : Value), v ∈ new → isOne v = true) ∧
 vcAppend Ytjadpjbiiidioaa.ctx (68 : Nat)
 (cutSl (Sl.mk s_3.a s_3.len (Int.toNat s_2)) (0 : Nat)
 (Int.toNat s_2) (67 : Nat))
 s_6.len new h fun (s_7 : Sl) (h : Array Obj) ↦
 Nn p fun (l : Go.Vc.Loc) ↦
 wok h l.b l.o (1 : Nat) ∧
 Vc.Bind (TV.put h l.b l.o (TV.slice s_7))
 fun (h : Array Obj) ↦
 Nn p fun (l : Go.Vc.Loc) ↦
 ∃ (n : Int),
 at1 h l.b (l.o + (1 : Nat))
 (Value.int IntKind.i64 n) ∧
 If (decide ((↑s.len : Int) < n))
 (wok h (Array.size h_1) (0 : Nat)
 (67 : Nat) ∧
 Vc.Bind
 (TV.put h (Array.size h_1) (0 : Nat)
 (TV.agg
 [TV.int IntKind.i64 (0 : Int),
 TV.bytes (32 : Nat)
 (Bs.zero (32 : Nat)),
 TV.int IntKind.i64 (0 : Int),
 TV.bytes (32 : Nat)
 (Bs.zero (32 : Nat)),
 TV.str []]))
 fun (h : Array Obj) ↦
 ∃ (n : Int),
 ∃ (b : Bs (32 : Nat)),
 ∃ (n_3 : Int),
 ∃ (b_2 : Bs (32 : Nat)),
 ∃ (s : List UInt8),
 (at1 h (Array.size h_1)
 (0 : Nat)
 (Value.int
 IntKind.i64 n) ∧
 atBytes h
 (Array.size h_1)
 (1 : Nat)
 (32 : Nat) b ∧
 at1 h
 (Array.size h_1)
 (33 : Nat)
 (Value.int
 IntKind.i64
 n_3) ∧
 atBytes h
 (Array.size
 h_1)
 (34 : Nat)
 (32 : Nat)
 b_2 ∧
 at1 h
 (Array.size
 h_1)
 (66 : Nat)
 (Value.string
 (ByteArray.mk
 (List.toArray
 s)))) ∧
 R
 (TV.val
 (TV.tup
 [TV.int
 IntKind.i64
 (1 : Int),
 TV.agg
 [TV.int
 IntKind.i64
 n,
 TV.bytes
 (32 : Nat)
 b,
 TV.int
 IntKind.i64
 n_3,
 TV.bytes
 (32 : Nat)
 b_2,
 TV.str s]]))
 h)
 (Nn p fun (l : Go.Vc.Loc) ↦
 ∃ (s_8 : Sl),
 at1 h l.b l.o (slVal s_8) ∧
 (0 : Int) ≤ (↑s.len : Int) ∧
 (↑s.len : Int) <
 (↑s_8.len : Int) ∧
 Nn s_8.a fun (l : Go.Vc.Loc) ↦
 ∃ (n : Int),
 ∃ (b : Bs (32 : Nat)),
 ∃ (n_3 : Int),
 ∃ (b_2 :
 Bs (32 : Nat)),
 ∃ (s_9 :
 List UInt8),
 (at1 h l.b
 (l.o +
 Int.toNat
 (↑s.len :
 Int) *
 (67 :
 Nat))
 (Value.int
 IntKind.i64
 n) ∧
 atBytes h l.b
 (l.o +
 Int.toNat
 (↑s.len :
 Int) *
 (67 :
 Nat) +
 (1 :
 Nat))
 (32 : Nat)
 b ∧
 at1 h l.b
 (l.o +
 Int.toNat
 (↑s.len :
 Int) *
 (67 :
 Nat) +
 (1 :
 Nat) +
 (32 :
 Nat))
 (Value.int
 IntKind.i64
 n_3) ∧
 atBytes h
 l.b
 (l.o +
 Int.toNat
 (↑s.len :
 Int) *
 (67 :
 Nat) +
 (1 :
 Nat) +
 (32 :
 Nat) +
 (1 :
 Nat))
 (32 :
 Nat)
 b_2 ∧
 at1 h
 l.b
 (l.o +
 Int.toNat
 (↑s.len :
 Int) *
 (67 :
 Nat) +
 (1 :
 Nat) +
 (32 :
 Nat) +
 (1 :
 Nat) +
 (32 :
 Nat))
 (Value.string
 (ByteArray.mk
 (List.toArray
 s_9)))) ∧
 Vc.Bind
 (newTV h
 (TV.agg
 [TV.int
 IntKind.i64
 (0 :
 Int),
 TV.bytes
 (32 :
 Nat)
 (Bs.zero
 (32 :
 Nat)),
 TV.int
 IntKind.i64
 (0 :
 Int),
 TV.bytes
 (32 :
 Nat)
 (Bs.zero
 (32 :
 Nat)),
 TV.str
 []])
 (68 : Nat))
 fun
 (h_7 :
 Array
 Obj) ↦
 wok h_7
 (Array.size
 h)
 (0 : Nat)
 (67 :
 Nat) ∧
 Vc.Bind
 (TV.put
 h_7
 (Array.size
 h)
 (0 :
 Nat)
 (TV.agg
 [TV.int
 IntKind.i64
 n,
 TV.bytes
 (32 :
 Nat)
 b,
 TV.int
 IntKind.i64
 n_3,
 TV.bytes
 (32 :
 Nat)
 b_2,
 TV.str
 s_9]))
 fun
 (h_8 :
 Array
 Obj) ↦
 Nn p
 fun
 (l :
 Go.Vc.Loc) ↦
 ∃ (s_10
 : Sl),
 at1
 h_8
 l.b
 l.o
 (slVal
 s_10) ∧
 (0 :
 Int) ≤
 (↑s.len :
 Int) ∧
 (↑s.len :
 Int) ≤
 (↑s_10.cap :
 Int) ∧
 (0 :
 Int) ≤
 (↑s.len :
 Int) ∧
 (↑s.len :
 Int) ≤
 (↑s.len :
 Int) ∧
 Nn
 p
 fun
 (l :
 Go.Vc.Loc) ↦
 wok
 h_8
 l.b
 l.o
 (1 :
 Nat) ∧
 Vc.Bind
 (TV.put
 h_8
 l.b
 l.o
 (TV.slice
 (cutSl
 (Sl.mk
 s_10.a
 s_10.len
 (Int.toNat
 (↑s.len :
 Int)))
 (0 :
 Nat)
 (Int.toNat
 (↑s.len :
 Int))
 (67 :
 Nat))))
 fun
 (h_9 :
 Array
 Obj) ↦
 ∃
 (n
 :
 Int),
 ∃
 (b
 :
 Bs
 (32 :
 Nat)),
 ∃
 (n_4
 :
 Int),
 ∃
 (b_3
 :
 Bs
 (32 :
 Nat)),
 ∃
 (s
 :
 List
 UInt8),
 (at1
 h_9
 (Array.size
 h)
 (0 :
 Nat)
 (Value.int
 IntKind.i64
 n) ∧
 atBytes
 h_9
 (Array.size
 h)
 (1 :
 Nat)
 (32 :
 Nat)
 b ∧
 at1
 h_9
 (Array.size
 h)
 (33 :
 Nat)
 (Value.int
 IntKind.i64
 n_4) ∧
 atBytes
 h_9
 (Array.size
 h)
 (34 :
 Nat)
 (32 :
 Nat)
 b_3 ∧
 at1
 h_9
 (Array.size
 h)
 (66 :
 Nat)
 (Value.string
 (ByteArray.mk
 (List.toArray
 s)))) ∧
 wok
 h_9
 (Array.size
 h_1)
 (0 :
 Nat)
 (67 :
 Nat) ∧
 Vc.Bind
 (TV.put
 h_9
 (Array.size
 h_1)
 (0 :
 Nat)
 (TV.agg
 [TV.int
 IntKind.i64
 n,
 TV.bytes
 (32 :
 Nat)
 b,
 TV.int
 IntKind.i64
 n_4,
 TV.bytes
 (32 :
 Nat)
 b_3,
 TV.str
 s]))
 fun
 (h :
 Array
 Obj) ↦
 ∃
 (n
 :
 Int),
 ∃
 (b
 :
 Bs
 (32 :
 Nat)),
 ∃
 (n_5
 :
 Int),
 ∃
 (b_4
 :
 Bs
 (32 :
 Nat)),
 ∃
 (s
 :
 List
 UInt8),
 (at1
 h
 (Array.size
 h_1)
 (0 :
 Nat)
 (Value.int
 IntKind.i64
 n) ∧
 atBytes
 h
 (Array.size
 h_1)
 (1 :
 Nat)
 (32 :
 Nat)
 b ∧
 at1
 h
 (Array.size
 h_1)
 (33 :
 Nat)
 (Value.int
 IntKind.i64
 n_5) ∧
 atBytes
 h
 (Array.size
 h_1)
 (34 :
 Nat)
 (32 :
 Nat)
 b_4 ∧
 at1
 h
 (Array.size
 h_1)
 (66 :
 Nat)
 (Value.string
 (ByteArray.mk
 (List.toArray
 s)))) ∧
 R
 (TV.val
 (TV.tup
 [TV.int
 IntKind.i64
 (2 :
 Int),
 TV.agg
 [TV.int
 IntKind.i64
 n,
 TV.bytes
 (32 :
 Nat)
 b,
 TV.int
 IntKind.i64
 n_5,
 TV.bytes
 (32 :
 Nat)
 b_4,
 TV.str
 s]]))
 h)))
 fun (J : Int → Array Obj → Prop) ↦
 Nn p fun (l : Go.Vc.Loc) ↦
 ∃ (n : Int),
 at1 h_4 l.b (l.o + (1 : Nat)) (Value.int IntKind.i64 n) ∧
 If (decide (n ≤ (↑s.len : Int)))
 (∃ (n : Int),
 ∃ (b : Bs (32 : Nat)),
 ∃ (n_2 : Int),
 ∃ (b_1 : Bs (32 : Nat)),
 ∃ (s_1 : List UInt8),
 (at1 h_4 (Array.size h) (0 : Nat) (Value.int IntKind.i64 n) ∧
 atBytes h_4 (Array.size h) (1 : Nat) (32 : Nat) b ∧
 at1 h_4 (Array.size h) (33 : Nat) (Value.int IntKind.i64 n_2) ∧
 atBytes h_4 (Array.size h) (34 : Nat) (32 : Nat) b_1 ∧
 at1 h_4 (Array.size h) (66 : Nat) (Value.string (ByteArray.mk (List.toArray s_1)))) ∧
 Nn p fun (l : Go.Vc.Loc) ↦
 ∃ (s_2 : Sl),
 at1 h_4 l.b l.o (slVal s_2) ∧
 (0 : Int) ≤ IntKind.wrap IntKind.i64 ((↑s.len : Int) - (1 : Int)) ∧
 IntKind.wrap IntKind.i64 ((↑s.len : Int) - (1 : Int)) < (↑s_2.len : Int) ∧
 Nn s_2.a fun (l : Go.Vc.Loc) ↦
 ∃ (n_3 : Int),
 ∃ (b_2 : Bs (32 : Nat)),
 ∃ (n_4 : Int),
 ∃ (b_3 : Bs (32 : Nat)),
 ∃ (s_3 : List UInt8),
 (at1 h_4 l.b
 (l.o +
 Int.toNat
 (IntKind.wrap IntKind.i64 ((↑s.len : Int) - (1 : Int))) *
 (67 : Nat))
 (Value.int IntKind.i64 n_3) ∧
 atBytes h_4 l.b
 (l.o +
 Int.toNat
 (IntKind.wrap IntKind.i64 ((↑s.len : Int) - (1 : Int))) *
 (67 : Nat) +
 (1 : Nat))
 (32 : Nat) b_2 ∧
 at1 h_4 l.b
 (l.o +
 Int.toNat
 (IntKind.wrap IntKind.i64
 ((↑s.len : Int) - (1 : Int))) *
 (67 : Nat) +
 (1 : Nat) +
 (32 : Nat))
 (Value.int IntKind.i64 n_4) ∧
 atBytes h_4 l.b
 (l.o +
 Int.toNat
 (IntKind.wrap IntKind.i64
 ((↑s.len : Int) - (1 : Int))) *
 (67 : Nat) +
 (1 : Nat) +
 (32 : Nat) +
 (1 : Nat))
 (32 : Nat) b_3 ∧
 at1 h_4 l.b
 (l.o +
 Int.toNat
 (IntKind.wrap IntKind.i64
 ((↑s.len : Int) - (1 : Int))) *
 (67 : Nat) +
 (1 : Nat) +
 (32 : Nat) +
 (1 : Nat) +
 (32 : Nat))
 (Value.string (ByteArray.mk (List.toArray s_3)))) ∧
 CallsH Try.prog (49 : Nat)
 (TVs.vals
 [TV.agg
 [TV.int IntKind.i64 n, TV.bytes (32 : Nat) b,
 TV.int IntKind.i64 n_2, TV.bytes (32 : Nat) b_1, TV.str s_1],
 TV.agg
 [TV.int IntKind.i64 n_3, TV.bytes (32 : Nat) b_2,
 TV.int IntKind.i64 n_4, TV.bytes (32 : Nat) b_3, TV.str s_3]])
 h_4 fun (v : Value) (h : Array Obj) ↦
 ∃ (b : Bool),
 v = TV.val (TV.bool b) ∧
 If (!b)
 (wok h (Array.size h_1) (0 : Nat) (67 : Nat) ∧
 Vc.Bind
 (TV.put h (Array.size h_1) (0 : Nat)
 (TV.agg
 [TV.int IntKind.i64 (0 : Int),
 TV.bytes (32 : Nat) (Bs.zero (32 : Nat)),
 TV.int IntKind.i64 (0 : Int),
 TV.bytes (32 : Nat) (Bs.zero (32 : Nat)), TV.str []]))
 fun (h : Array Obj) ↦
 ∃ (n : Int),
 ∃ (b : Bs (32 : Nat)),
 ∃ (n_5 : Int),
 ∃ (b_4 : Bs (32 : Nat)),
 ∃ (s : List UInt8),
 (at1 h (Array.size h_1) (0 : Nat)
 (Value.int IntKind.i64 n) ∧
 atBytes h (Array.size h_1) (1 : Nat)
 (32 : Nat) b ∧
 at1 h (Array.size h_1) (33 : Nat)
 (Value.int IntKind.i64 n_5) ∧
 atBytes h (Array.size h_1) (34 : Nat)
 (32 : Nat) b_4 ∧
 at1 h (Array.size h_1) (66 : Nat)
 (Value.string
 (ByteArray.mk (List.toArray s)))) ∧
 R
 (TV.val
 (TV.tup
 [TV.int IntKind.i64 (12 : Int),
 TV.agg
 [TV.int IntKind.i64 n,
 TV.bytes (32 : Nat) b,
 TV.int IntKind.i64 n_5,
 TV.bytes (32 : Nat) b_4,
 TV.str s]]))
 h)
 (J (0 : Int) h))
 (J (0 : Int) h_4)))

theorem tollerref15_Pool_Put_calls (p : Option Go.Vc.Loc) (x_Slot : Int) (x_Root : Bs (32 : Nat)) (x_Peer : Int) (x_For : Bs (32 : Nat)) (x_Text : List UInt8) (h : Heap) (R : Value → Heap → Prop) (H : tollerref15_Pool_Put_vc p x_Slot x_Root x_Peer x_For x_Text h R) : CallsH Try.prog 42 (TVs.vals [TV.ptr p, TV.agg [TV.int IntKind.i64 x_Slot, TV.bytes (32 : Nat) x_Root, TV.int IntKind.i64 x_Peer, TV.bytes (32 : Nat) x_For, TV.str x_Text]]) h R :=
 vcFn_sound (C := ctx) ctx_ok (fn := Try.f42) Try.func42 ((by kernel_rfl : tollerref15_Pool_Put_vc p x_Slot x_Root x_Peer x_For x_Text h R = vcFn ctx Try.f42 [TV.ptr p, TV.agg [TV.int IntKind.i64 x_Slot, TV.bytes (32 : Nat) x_Root, TV.int IntKind.i64 x_Peer, TV.bytes (32 : Nat) x_For, TV.str x_Text]] h R) ▸ H)


end Go.Proofs.Ytjadpjbiiidioaa

/- The conditions of functions, as the generator reckons them out, each with the proof that it is that. -/
import Derived.Test.YtjadpjbiiidioaaCtx
namespace Go.Proofs.Ytjadpjbiiidioaa
open Go Go.Vc
set_option maxRecDepth 100000
set_option linter.unusedVariables false

def pool_Before_vc (a_Slot : Int) (a_Root : Bs (32 : Nat)) (a_Peer : Int) (a_For : Bs (32 : Nat)) (a_Text : List UInt8) (b_Slot : Int) (b_Root : Bs (32 : Nat)) (b_Peer : Int) (b_For : Bs (32 : Nat)) (b_Text : List UInt8) (h : Heap) (R : Value → Heap → Prop) : Prop :=
 Vc.Bind
 (newTV h (TV.agg [TV.int IntKind.i64 a_Slot, TV.bytes (32 : Nat) a_Root, TV.int IntKind.i64 a_Peer, TV.bytes (32 : Nat) a_For, TV.str a_Text]) (32 : Nat))
 fun (h_1 : Array Obj) ↦
 Vc.Bind
 (newTV h_1 (TV.agg [TV.int IntKind.i64 b_Slot, TV.bytes (32 : Nat) b_Root, TV.int IntKind.i64 b_Peer, TV.bytes (32 : Nat) b_For, TV.str b_Text]) (32 : Nat))
 fun (h_2 : Array Obj) ↦
 ∃ (n : Int),
 at1 h_2 (Array.size h) (0 : Nat) (Value.int IntKind.i64 n) ∧
 ∃ (n_1 : Int),
 at1 h_2 (Array.size h_1) (0 : Nat) (Value.int IntKind.i64 n_1) ∧
 If (decide (n < n_1)) (R (TV.val (TV.bool true)) h_2)
 (∃ (n : Int),
 at1 h_2 (Array.size h) (0 : Nat) (Value.int IntKind.i64 n) ∧
 ∃ (n_2 : Int),
 at1 h_2 (Array.size h_1) (0 : Nat) (Value.int IntKind.i64 n_2) ∧
 If (decide (n = n_2))
 (∃ (b : Bs (32 : Nat)),
 atBytes h_2 (Array.size h) (1 : Nat) (32 : Nat) b ∧
 ∃ (b_1 : Bs (32 : Nat)),
 atBytes h_2 (Array.size h_1) (1 : Nat) (32 : Nat) b_1 ∧
 CallsH Try.prog (39 : Nat) (TVs.vals [TV.bytes (32 : Nat) b, TV.bytes (32 : Nat) b_1]) h_2 fun (v : Value) (h : Array Obj) ↦
 ∃ (b : Bool), v = TV.val (TV.bool b) ∧ R (TV.val (TV.bool b)) h)
 (R (TV.val (TV.bool false)) h_2))

theorem pool_Before_calls (a_Slot : Int) (a_Root : Bs (32 : Nat)) (a_Peer : Int) (a_For : Bs (32 : Nat)) (a_Text : List UInt8) (b_Slot : Int) (b_Root : Bs (32 : Nat)) (b_Peer : Int) (b_For : Bs (32 : Nat)) (b_Text : List UInt8) (h : Heap) (R : Value → Heap → Prop) (H : pool_Before_vc a_Slot a_Root a_Peer a_For a_Text b_Slot b_Root b_Peer b_For b_Text h R) : CallsH Try.prog 19 (TVs.vals [TV.agg [TV.int IntKind.i64 a_Slot, TV.bytes (32 : Nat) a_Root, TV.int IntKind.i64 a_Peer, TV.bytes (32 : Nat) a_For, TV.str a_Text], TV.agg [TV.int IntKind.i64 b_Slot, TV.bytes (32 : Nat) b_Root, TV.int IntKind.i64 b_Peer, TV.bytes (32 : Nat) b_For, TV.str b_Text]]) h R :=
 vcFn_sound (C := ctx) ctx_ok (fn := Try.f19) Try.func19 ((by kernel_rfl : pool_Before_vc a_Slot a_Root a_Peer a_For a_Text b_Slot b_Root b_Peer b_For b_Text h R = vcFn ctx Try.f19 [TV.agg [TV.int IntKind.i64 a_Slot, TV.bytes (32 : Nat) a_Root, TV.int IntKind.i64 a_Peer, TV.bytes (32 : Nat) a_For, TV.str a_Text], TV.agg [TV.int IntKind.i64 b_Slot, TV.bytes (32 : Nat) b_Root, TV.int IntKind.i64 b_Peer, TV.bytes (32 : Nat) b_For, TV.str b_Text]] h R) ▸ H)


def sha_Less_vc (a : Bs (32 : Nat)) (b : Bs (32 : Nat)) (h : Heap) (R : Value → Heap → Prop) : Prop :=
 Vc.Bind (newTV h (TV.bytes (32 : Nat) a) (30 : Nat)) fun (h_1 : Array Obj) ↦
 Vc.Bind (newTV h_1 (TV.bytes (32 : Nat) b) (30 : Nat)) fun (h_2 : Array Obj) ↦
 ∃ (bs : List UInt8),
 strAt h_2 (cutSl (Sl.mk (some (Loc.mk (Array.size h) (0 : Nat))) (32 : Nat) (32 : Nat)) (0 : Nat) (32 : Nat) (1 : Nat)) bs ∧
 ∃ (bs_1 : List UInt8),
 strAt h_2 (cutSl (Sl.mk (some (Loc.mk (Array.size h_1) (0 : Nat))) (32 : Nat) (32 : Nat)) (0 : Nat) (32 : Nat) (1 : Nat)) bs_1 ∧
 R (TV.val (TV.bool (Op.bytesLess bs bs_1))) h_2

theorem sha_Less_calls (a : Bs (32 : Nat)) (b : Bs (32 : Nat)) (h : Heap) (R : Value → Heap → Prop) (H : sha_Less_vc a b h R) : CallsH Try.prog 39 (TVs.vals [TV.bytes (32 : Nat) a, TV.bytes (32 : Nat) b]) h R :=
 vcFn_sound (C := ctx) ctx_ok (fn := Try.f39) Try.func39 ((by kernel_rfl : sha_Less_vc a b h R = vcFn ctx Try.f39 [TV.bytes (32 : Nat) a, TV.bytes (32 : Nat) b] h R) ▸ H)


def pool_last_Len_vc (l_ : Sl) (h : Heap) (R : Value → Heap → Prop) : Prop :=
 R (TV.val (TV.int IntKind.i64 (↑l_.len : Int))) h

theorem pool_last_Len_calls (l_ : Sl) (h : Heap) (R : Value → Heap → Prop) (H : pool_last_Len_vc l_ h R) : CallsH Try.prog 40 (TVs.vals [TV.slice l_]) h R :=
 vcFn_sound (C := ctx) ctx_ok (fn := Try.f40) Try.func40 ((by kernel_rfl : pool_last_Len_vc l_ h R = vcFn ctx Try.f40 [TV.slice l_] h R) ▸ H)


def pool_last_Less_vc (l_ : Sl) (i : Int) (k : Int) (h : Heap) (R : Value → Heap → Prop) : Prop :=
 (0 : Int) ≤ k ∧
 k < (↑l_.len : Int) ∧
 Nn l_.a fun (l : Go.Vc.Loc) ↦
 ∃ (n : Int),
 ∃ (b : Bs (32 : Nat)),
 ∃ (n_1 : Int),
 ∃ (b_1 : Bs (32 : Nat)),
 ∃ (s : List UInt8),
 (at1 h l.b (l.o + Int.toNat k * (67 : Nat)) (Value.int IntKind.i64 n) ∧
 atBytes h l.b (l.o + Int.toNat k * (67 : Nat) + (1 : Nat)) (32 : Nat) b ∧
 at1 h l.b (l.o + Int.toNat k * (67 : Nat) + (1 : Nat) + (32 : Nat)) (Value.int IntKind.i64 n_1) ∧
 atBytes h l.b (l.o + Int.toNat k * (67 : Nat) + (1 : Nat) + (32 : Nat) + (1 : Nat)) (32 : Nat) b_1 ∧
 at1 h l.b (l.o + Int.toNat k * (67 : Nat) + (1 : Nat) + (32 : Nat) + (1 : Nat) + (32 : Nat))
 (Value.string (ByteArray.mk (List.toArray s)))) ∧
 (0 : Int) ≤ i ∧
 i < (↑l_.len : Int) ∧
 Nn l_.a fun (l : Go.Vc.Loc) ↦
 ∃ (n_2 : Int),
 ∃ (b_2 : Bs (32 : Nat)),
 ∃ (n_3 : Int),
 ∃ (b_3 : Bs (32 : Nat)),
 ∃ (s_1 : List UInt8),
 (at1 h l.b (l.o + Int.toNat i * (67 : Nat)) (Value.int IntKind.i64 n_2) ∧
 atBytes h l.b (l.o + Int.toNat i * (67 : Nat) + (1 : Nat)) (32 : Nat) b_2 ∧
 at1 h l.b (l.o + Int.toNat i * (67 : Nat) + (1 : Nat) + (32 : Nat)) (Value.int IntKind.i64 n_3) ∧
 atBytes h l.b (l.o + Int.toNat i * (67 : Nat) + (1 : Nat) + (32 : Nat) + (1 : Nat)) (32 : Nat) b_3 ∧
 at1 h l.b (l.o + Int.toNat i * (67 : Nat) + (1 : Nat) + (32 : Nat) + (1 : Nat) + (32 : Nat))
 (Value.string (ByteArray.mk (List.toArray s_1)))) ∧
 CallsH Try.prog (19 : Nat)
 (TVs.vals
 [TV.agg [TV.int IntKind.i64 n, TV.bytes (32 : Nat) b, TV.int IntKind.i64 n_1, TV.bytes (32 : Nat) b_1, TV.str s],
 TV.agg
 [TV.int IntKind.i64 n_2, TV.bytes (32 : Nat) b_2, TV.int IntKind.i64 n_3, TV.bytes (32 : Nat) b_3, TV.str s_1]])
 h fun (v : Value) (h : Heap) ↦ ∃ (b : Bool), v = TV.val (TV.bool b) ∧ R (TV.val (TV.bool b)) h

theorem pool_last_Less_calls (l_ : Sl) (i : Int) (k : Int) (h : Heap) (R : Value → Heap → Prop) (H : pool_last_Less_vc l_ i k h R) : CallsH Try.prog 83 (TVs.vals [TV.slice l_, TV.int IntKind.i64 i, TV.int IntKind.i64 k]) h R :=
 vcFn_sound (C := ctx) ctx_ok (fn := Try.f83) Try.func83 ((by kernel_rfl : pool_last_Less_vc l_ i k h R = vcFn ctx Try.f83 [TV.slice l_, TV.int IntKind.i64 i, TV.int IntKind.i64 k] h R) ▸ H)


def pool_last_Swap_vc (l_ : Sl) (i : Int) (k : Int) (h : Heap) (R : Value → Heap → Prop) : Prop :=
 (0 : Int) ≤ k ∧
 k < (↑l_.len : Int) ∧
 Nn l_.a fun (l : Go.Vc.Loc) ↦
 ∃ (n : Int),
 ∃ (b : Bs (32 : Nat)),
 ∃ (n_1 : Int),
 ∃ (b_1 : Bs (32 : Nat)),
 ∃ (s : List UInt8),
 (at1 h l.b (l.o + Int.toNat k * (67 : Nat)) (Value.int IntKind.i64 n) ∧
 atBytes h l.b (l.o + Int.toNat k * (67 : Nat) + (1 : Nat)) (32 : Nat) b ∧
 at1 h l.b (l.o + Int.toNat k * (67 : Nat) + (1 : Nat) + (32 : Nat)) (Value.int IntKind.i64 n_1) ∧
 atBytes h l.b (l.o + Int.toNat k * (67 : Nat) + (1 : Nat) + (32 : Nat) + (1 : Nat)) (32 : Nat) b_1 ∧
 at1 h l.b (l.o + Int.toNat k * (67 : Nat) + (1 : Nat) + (32 : Nat) + (1 : Nat) + (32 : Nat))
 (Value.string (ByteArray.mk (List.toArray s)))) ∧
 (0 : Int) ≤ i ∧
 i < (↑l_.len : Int) ∧
 Nn l_.a fun (l : Go.Vc.Loc) ↦
 ∃ (n_2 : Int),
 ∃ (b_2 : Bs (32 : Nat)),
 ∃ (n_3 : Int),
 ∃ (b_3 : Bs (32 : Nat)),
 ∃ (s_1 : List UInt8),
 (at1 h l.b (l.o + Int.toNat i * (67 : Nat)) (Value.int IntKind.i64 n_2) ∧
 atBytes h l.b (l.o + Int.toNat i * (67 : Nat) + (1 : Nat)) (32 : Nat) b_2 ∧
 at1 h l.b (l.o + Int.toNat i * (67 : Nat) + (1 : Nat) + (32 : Nat)) (Value.int IntKind.i64 n_3) ∧
 atBytes h l.b (l.o + Int.toNat i * (67 : Nat) + (1 : Nat) + (32 : Nat) + (1 : Nat)) (32 : Nat) b_3 ∧
 at1 h l.b (l.o + Int.toNat i * (67 : Nat) + (1 : Nat) + (32 : Nat) + (1 : Nat) + (32 : Nat))
 (Value.string (ByteArray.mk (List.toArray s_1)))) ∧
 (0 : Int) ≤ i ∧
 i < (↑l_.len : Int) ∧
 Nn l_.a fun (l : Go.Vc.Loc) ↦
 wok h l.b (l.o + Int.toNat i * (67 : Nat))
 (Nat.succ (Nat.add (1 : Nat) (Nat.add (32 : Nat) (Nat.add (1 : Nat) (32 : Nat))))) ∧
 Vc.Bind
 (TV.put h l.b (l.o + Int.toNat i * (67 : Nat))
 (TV.agg
 [TV.int IntKind.i64 n, TV.bytes (32 : Nat) b, TV.int IntKind.i64 n_1, TV.bytes (32 : Nat) b_1, TV.str s]))
 fun (h : Array Obj) ↦
 (0 : Int) ≤ k ∧
 k < (↑l_.len : Int) ∧
 Nn l_.a fun (l : Go.Vc.Loc) ↦
 wok h l.b (l.o + Int.toNat k * (67 : Nat))
 (Nat.succ (Nat.add (1 : Nat) (Nat.add (32 : Nat) (Nat.add (1 : Nat) (32 : Nat))))) ∧
 Vc.Bind
 (TV.put h l.b (l.o + Int.toNat k * (67 : Nat))
 (TV.agg
 [TV.int IntKind.i64 n_2, TV.bytes (32 : Nat) b_2, TV.int IntKind.i64 n_3, TV.bytes (32 : Nat) b_3,
 TV.str s_1]))
 fun (h : Array Obj) ↦ R (TV.val (TV.tup [])) h

theorem pool_last_Swap_calls (l_ : Sl) (i : Int) (k : Int) (h : Heap) (R : Value → Heap → Prop) (H : pool_last_Swap_vc l_ i k h R) : CallsH Try.prog 84 (TVs.vals [TV.slice l_, TV.int IntKind.i64 i, TV.int IntKind.i64 k]) h R :=
 vcFn_sound (C := ctx) ctx_ok (fn := Try.f84) Try.func84 ((by kernel_rfl : pool_last_Swap_vc l_ i k h R = vcFn ctx Try.f84 [TV.slice l_, TV.int IntKind.i64 i, TV.int IntKind.i64 k] h R) ▸ H)


def pool_last_Push_vc (l_ : Option Go.Vc.Loc) (x : Vc.One) (h : Heap) (R : Value → Heap → Prop) : Prop :=
 Nn l_ fun (l : Go.Vc.Loc) ↦
 ∃ (s : Sl),
 at1 h l.b l.o (slVal s) ∧
 ∃ (n : Int),
 ∃ (b : Bs (32 : Nat)),
 ∃ (n_1 : Int),
 ∃ (b_1 : Bs (32 : Nat)),
 ∃ (s_1 : List UInt8),
 x.v =
 Value.iface (32 : Nat)
 (TV.val (TV.agg [TV.int IntKind.i64 n, TV.bytes (32 : Nat) b, TV.int IntKind.i64 n_1, TV.bytes (32 : Nat) b_1, TV.str s_1])) ∧
 Ext h
 (Array.push h
 (row (TVs.cells [TV.agg [TV.int IntKind.i64 n, TV.bytes (32 : Nat) b, TV.int IntKind.i64 n_1, TV.bytes (32 : Nat) b_1, TV.str s_1]])
 (32 : Nat))) ∧
 ∃ (new : List Value),
 slAt
 (Array.push h
 (row (TVs.cells [TV.agg [TV.int IntKind.i64 n, TV.bytes (32 : Nat) b, TV.int IntKind.i64 n_1, TV.bytes (32 : Nat) b_1, TV.str s_1]])
 (32 : Nat)))
 (Sl.mk (some (Loc.mk (Array.size h) (0 : Nat))) (1 : Nat) (1 : Nat)) (67 : Nat) new ∧
 (∀ (v : Value), v ∈ new → isOne v = true) ∧
 vcAppend Ytjadpjbiiidioaa.ctx (32 : Nat) s (1 : Nat) new
 (Array.push h
 (row
 (TVs.cells [TV.agg [TV.int IntKind.i64 n, TV.bytes (32 : Nat) b, TV.int IntKind.i64 n_1, TV.bytes (32 : Nat) b_1, TV.str s_1]])
 (32 : Nat)))
 fun (s : Sl) (h : Array Obj) ↦
 Nn l_ fun (l : Go.Vc.Loc) ↦
 wok h l.b l.o (1 : Nat) ∧ Vc.Bind (TV.put h l.b l.o (TV.slice s)) fun (h : Array Obj) ↦ R (TV.val (TV.tup [])) h

theorem pool_last_Push_calls (l_ : Option Go.Vc.Loc) (x : Vc.One) (h : Heap) (R : Value → Heap → Prop) (H : pool_last_Push_vc l_ x h R) : CallsH Try.prog 85 (TVs.vals [TV.ptr l_, TV.one x]) h R :=
 vcFn_sound (C := ctx) ctx_ok (fn := Try.f85) Try.func85 ((by kernel_rfl : pool_last_Push_vc l_ x h R = vcFn ctx Try.f85 [TV.ptr l_, TV.one x] h R) ▸ H)


def container_heap_up_vc (h_ : Vc.One) (j : Int) (h : Heap) (R : Value → Heap → Prop) : Prop :=
 Go.Vc.Loop j h fun (s : Int) (h : Array Obj) (K : Int → Array Obj → Prop) ↦
 (2 : Int) ≠ (0 : Int) ∧
 If (decide (IntKind.wrap IntKind.i64 (Int.tdiv (IntKind.wrap IntKind.i64 (s - (1 : Int))) (2 : Int)) = s)) (R (TV.val (TV.tup [])) h)
 (∃ (t : Nat),
 ∃ (x : Value),
 ∃ (f : Nat),
 ∃ (rv : Value),
 h_.v = Value.iface t x ∧
 MethodAt Try.prog h t x "Less" f rv ∧
 CallsH Try.prog f
 (rv ::
 TVs.vals
 [TV.int IntKind.i64 s, TV.int IntKind.i64 (IntKind.wrap IntKind.i64 (Int.tdiv (IntKind.wrap IntKind.i64 (s - (1 : Int))) (2 : Int)))])
 h fun (v : Value) (h : Array Obj) ↦
 ∃ (b : Bool),
 v = TV.val (TV.bool b) ∧
 If (!b) (R (TV.val (TV.tup [])) h)
 (∃ (t : Nat),
 ∃ (x : Value),
 ∃ (f : Nat),
 ∃ (rv : Value),
 h_.v = Value.iface t x ∧
 MethodAt Try.prog h t x "Swap" f rv ∧
 CallsH Try.prog f
 (rv ::
 TVs.vals
 [TV.int IntKind.i64 (IntKind.wrap IntKind.i64 (Int.tdiv (IntKind.wrap IntKind.i64 (s - (1 : Int))) (2 : Int))),
 TV.int IntKind.i64 s])
 h fun (v : Value) (h : Array Obj) ↦
 v = TV.val (TV.tup []) ∧
 K (IntKind.wrap IntKind.i64 (Int.tdiv (IntKind.wrap IntKind.i64 (s - (1 : Int))) (2 : Int))) h))

theorem container_heap_up_calls (h_ : Vc.One) (j : Int) (h : Heap) (R : Value → Heap → Prop) (H : container_heap_up_vc h_ j h R) : CallsH Try.prog 44 (TVs.vals [TV.one h_, TV.int IntKind.i64 j]) h R :=
 vcFn_sound (C := ctx) ctx_ok (fn := Try.f44) Try.func44 ((by kernel_rfl : container_heap_up_vc h_ j h R = vcFn ctx Try.f44 [TV.one h_, TV.int IntKind.i64 j] h R) ▸ H)


def container_heap_down_vc (h_ : Vc.One) (i0 : Int) (n : Int) (h : Heap) (R : Value → Heap → Prop) : Prop :=
 Go.Vc.Loop i0 h fun (s : Int) (h : Array Obj) (K : Int → Array Obj → Prop) ↦
 Join
 (fun (s_1 : PUnit) (h : Array Obj) ↦
 Join
 (fun (s_2 : Int) (h : Array Obj) ↦
 ∃ (t : Nat),
 ∃ (x : Value),
 ∃ (f : Nat),
 ∃ (rv : Value),
 h_.v = Value.iface t x ∧
 MethodAt Try.prog h t x "Less" f rv ∧
 CallsH Try.prog f (rv :: TVs.vals [TV.int IntKind.i64 s_2, TV.int IntKind.i64 s]) h fun (v : Value) (h : Array Obj) ↦
 ∃ (b : Bool),
 v = TV.val (TV.bool b) ∧
 If (!b) (R (TV.val (TV.bool (decide (i0 < s)))) h)
 (∃ (t : Nat),
 ∃ (x : Value),
 ∃ (f : Nat),
 ∃ (rv : Value),
 h_.v = Value.iface t x ∧
 MethodAt Try.prog h t x "Swap" f rv ∧
 CallsH Try.prog f (rv :: TVs.vals [TV.int IntKind.i64 s, TV.int IntKind.i64 s_2]) h fun (v : Value) (h : Array Obj) ↦
 v = TV.val (TV.tup []) ∧ K s_2 h))
 fun (J : Int → Array Obj → Prop) ↦
 If (decide (IntKind.wrap IntKind.i64 (IntKind.wrap IntKind.i64 (IntKind.wrap IntKind.i64 ((2 : Int) * s) + (1 : Int)) + (1 : Int)) < n))
 (∃ (t : Nat),
 ∃ (x : Value),
 ∃ (f : Nat),
 ∃ (rv : Value),
 h_.v = Value.iface t x ∧
 MethodAt Try.prog h t x "Less" f rv ∧
 CallsH Try.prog f
 (rv ::
 TVs.vals
 [TV.int IntKind.i64
 (IntKind.wrap IntKind.i64 (IntKind.wrap IntKind.i64 (IntKind.wrap IntKind.i64 ((2 : Int) * s) + (1 : Int)) + (1 : Int))),
 TV.int IntKind.i64 (IntKind.wrap IntKind.i64 (IntKind.wrap IntKind.i64 ((2 : Int) * s) + (1 : Int)))])
 h fun (v : Value) (h : Array Obj) ↦
 ∃ (b : Bool),
 v = TV.val (TV.bool b) ∧
 If b (J (IntKind.wrap IntKind.i64 (IntKind.wrap IntKind.i64 (IntKind.wrap IntKind.i64 ((2 : Int) * s) + (1 : Int)) + (1 : Int))) h)
 (J (IntKind.wrap IntKind.i64 (IntKind.wrap IntKind.i64 ((2 : Int) * s) + (1 : Int))) h))
 (J (IntKind.wrap IntKind.i64 (IntKind.wrap IntKind.i64 ((2 : Int) * s) + (1 : Int))) h))
 fun (J : PUnit → Array Obj → Prop) ↦
 If (decide (n ≤ IntKind.wrap IntKind.i64 (IntKind.wrap IntKind.i64 ((2 : Int) * s) + (1 : Int)))) (R (TV.val (TV.bool (decide (i0 < s)))) h)
 (If (decide (IntKind.wrap IntKind.i64 (IntKind.wrap IntKind.i64 ((2 : Int) * s) + (1 : Int)) < (0 : Int))) (R (TV.val (TV.bool (decide (i0 < s)))) h)
 (J PUnit.unit h))

theorem container_heap_down_calls (h_ : Vc.One) (i0 : Int) (n : Int) (h : Heap) (R : Value → Heap → Prop) (H : container_heap_down_vc h_ i0 n h R) : CallsH Try.prog 45 (TVs.vals [TV.one h_, TV.int IntKind.i64 i0, TV.int IntKind.i64 n]) h R :=
 vcFn_sound (C := ctx) ctx_ok (fn := Try.f45) Try.func45 ((by kernel_rfl : container_heap_down_vc h_ i0 n h R = vcFn ctx Try.f45 [TV.one h_, TV.int IntKind.i64 i0, TV.int IntKind.i64 n] h R) ▸ H)


def container_heap_Push_vc (h_ : Vc.One) (x : Vc.One) (h : Heap) (R : Value → Heap → Prop) : Prop :=
 ∃ (t : Nat),
 ∃ (x_1 : Value),
 ∃ (f : Nat),
 ∃ (rv : Value),
 h_.v = Value.iface t x_1 ∧
 MethodAt Try.prog h t x_1 "Push" f rv ∧
 CallsH Try.prog f (rv :: TVs.vals [TV.one x]) h fun (v : Value) (h : Heap) ↦
 v = TV.val (TV.tup []) ∧
 ∃ (t : Nat),
 ∃ (x : Value),
 ∃ (f : Nat),
 ∃ (rv : Value),
 h_.v = Value.iface t x ∧
 MethodAt Try.prog h t x "Len" f rv ∧
 CallsH Try.prog f (rv :: TVs.vals []) h fun (v : Value) (h : Heap) ↦
 ∃ (n : Int),
 v = TV.val (TV.int IntKind.i64 n) ∧
 CallsH Try.prog (44 : Nat) (TVs.vals [TV.one h_, TV.int IntKind.i64 (IntKind.wrap IntKind.i64 (n - (1 : Int)))]) h
 fun (v : Value) (h : Heap) ↦ v = TV.val (TV.tup []) ∧ R (TV.val (TV.tup [])) h

theorem container_heap_Push_calls (h_ : Vc.One) (x : Vc.One) (h : Heap) (R : Value → Heap → Prop) (H : container_heap_Push_vc h_ x h R) : CallsH Try.prog 32 (TVs.vals [TV.one h_, TV.one x]) h R :=
 vcFn_sound (C := ctx) ctx_ok (fn := Try.f32) Try.func32 ((by kernel_rfl : container_heap_Push_vc h_ x h R = vcFn ctx Try.f32 [TV.one h_, TV.one x] h R) ▸ H)


def container_heap_Fix_vc (h_ : Vc.One) (i : Int) (h : Heap) (R : Value → Heap → Prop) : Prop :=
 ∃ (t : Nat),
 ∃ (x : Value),
 ∃ (f : Nat),
 ∃ (rv : Value),
 h_.v = Value.iface t x ∧
 MethodAt Try.prog h t x "Len" f rv ∧
 CallsH Try.prog f (rv :: TVs.vals []) h fun (v : Value) (h : Heap) ↦
 ∃ (n : Int),
 v = TV.val (TV.int IntKind.i64 n) ∧
 CallsH Try.prog (45 : Nat) (TVs.vals [TV.one h_, TV.int IntKind.i64 i, TV.int IntKind.i64 n]) h fun (v : Value) (h : Heap) ↦
 ∃ (b : Bool),
 v = TV.val (TV.bool b) ∧
 If (!b)
 (CallsH Try.prog (44 : Nat) (TVs.vals [TV.one h_, TV.int IntKind.i64 i]) h fun (v : Value) (h : Heap) ↦
 v = TV.val (TV.tup []) ∧ R (TV.val (TV.tup [])) h)
 (R (TV.val (TV.tup [])) h)

theorem container_heap_Fix_calls (h_ : Vc.One) (i : Int) (h : Heap) (R : Value → Heap → Prop) (H : container_heap_Fix_vc h_ i h R) : CallsH Try.prog 33 (TVs.vals [TV.one h_, TV.int IntKind.i64 i]) h R :=
 vcFn_sound (C := ctx) ctx_ok (fn := Try.f33) Try.func33 ((by kernel_rfl : container_heap_Fix_vc h_ i h R = vcFn ctx Try.f33 [TV.one h_, TV.int IntKind.i64 i] h R) ▸ H)


def container_heap_Init_vc (h_ : Vc.One) (h : Heap) (R : Value → Heap → Prop) : Prop :=
 ∃ (t : Nat),
 ∃ (x : Value),
 ∃ (f : Nat),
 ∃ (rv : Value),
 h_.v = Value.iface t x ∧
 MethodAt Try.prog h t x "Len" f rv ∧
 CallsH Try.prog f (rv :: TVs.vals []) h fun (v : Value) (h : Heap) ↦
 ∃ (n : Int),
 v = TV.val (TV.int IntKind.i64 n) ∧
 (2 : Int) ≠ (0 : Int) ∧
 Go.Vc.Loop (IntKind.wrap IntKind.i64 (IntKind.wrap IntKind.i64 (Int.tdiv n (2 : Int)) - (1 : Int))) h
 fun (s : Int) (h : Array Obj) (K : Int → Array Obj → Prop) ↦
 If (decide ((0 : Int) ≤ s))
 (CallsH Try.prog (45 : Nat) (TVs.vals [TV.one h_, TV.int IntKind.i64 s, TV.int IntKind.i64 n]) h fun (v : Value) (h : Array Obj) ↦
 ∃ (b : Bool), v = TV.val (TV.bool b) ∧ K (IntKind.wrap IntKind.i64 (s - (1 : Int))) h)
 (R (TV.val (TV.tup [])) h)

theorem container_heap_Init_calls (h_ : Vc.One) (h : Heap) (R : Value → Heap → Prop) (H : container_heap_Init_vc h_ h R) : CallsH Try.prog 41 (TVs.vals [TV.one h_]) h R :=
 vcFn_sound (C := ctx) ctx_ok (fn := Try.f41) Try.func41 ((by kernel_rfl : container_heap_Init_vc h_ h R = vcFn ctx Try.f41 [TV.one h_] h R) ▸ H)


def pool_Pool_Has_vc (p : Option Go.Vc.Loc) (root : Bs (32 : Nat)) (h : Heap) (R : Value → Heap → Prop) : Prop :=
 Vc.Bind (newTV h (TV.bytes (32 : Nat) root) (30 : Nat)) fun (h_1 : Array Obj) ↦
 If (!Option.isNone p)
 (Nn p fun (l : Go.Vc.Loc) ↦
 ∃ (s : Sl),
 at1 h_1 l.b l.o (slVal s) ∧
 CallsH Try.prog (37 : Nat) (TVs.vals [TV.slice s, TV.fn (Fn.func (38 : Nat)) [] [TV.ptr (some (Loc.mk (Array.size h) (0 : Nat)))]]) h_1
 fun (v : Value) (h : Array Obj) ↦ ∃ (b : Bool), v = TV.val (TV.bool b) ∧ R (TV.val (TV.bool b)) h)
 (R (TV.val (TV.bool false)) h_1)

theorem pool_Pool_Has_calls (p : Option Go.Vc.Loc) (root : Bs (32 : Nat)) (h : Heap) (R : Value → Heap → Prop) (H : pool_Pool_Has_vc p root h R) : CallsH Try.prog 18 (TVs.vals [TV.ptr p, TV.bytes (32 : Nat) root]) h R :=
 vcFn_sound (C := ctx) ctx_ok (fn := Try.f18) Try.func18 ((by kernel_rfl : pool_Pool_Has_vc p root h R = vcFn ctx Try.f18 [TV.ptr p, TV.bytes (32 : Nat) root] h R) ▸ H)


def slices_ContainsFunc_pool_last_pool_Item__vc (s_ : Sl) (f : Vc.One) (h : Heap) (R : Value → Heap → Prop) : Prop :=
 CallsH Try.prog (48 : Nat) (TVs.vals [TV.slice s_, TV.one f]) h fun (v : Value) (h : Heap) ↦
 ∃ (n : Int), v = TV.val (TV.int IntKind.i64 n) ∧ R (TV.val (TV.bool (decide ((0 : Int) ≤ n)))) h

theorem slices_ContainsFunc_pool_last_pool_Item__calls (s_ : Sl) (f : Vc.One) (h : Heap) (R : Value → Heap → Prop) (H : slices_ContainsFunc_pool_last_pool_Item__vc s_ f h R) : CallsH Try.prog 37 (TVs.vals [TV.slice s_, TV.one f]) h R :=
 vcFn_sound (C := ctx) ctx_ok (fn := Try.f37) Try.func37 ((by kernel_rfl : slices_ContainsFunc_pool_last_pool_Item__vc s_ f h R = vcFn ctx Try.f37 [TV.slice s_, TV.one f] h R) ▸ H)


def pool_Pool_Has_1_vc (x_Slot : Int) (x_Root : Bs (32 : Nat)) (x_Peer : Int) (x_For : Bs (32 : Nat)) (x_Text : List UInt8) (p : Option Go.Vc.Loc) (h : Heap) (R : Value → Heap → Prop) : Prop :=
 Vc.Bind
 (newTV h (TV.agg [TV.int IntKind.i64 x_Slot, TV.bytes (32 : Nat) x_Root, TV.int IntKind.i64 x_Peer, TV.bytes (32 : Nat) x_For, TV.str x_Text]) (32 : Nat))
 fun (h_1 : Array Obj) ↦
 ∃ (b : Bs (32 : Nat)),
 atBytes h_1 (Array.size h) (1 : Nat) (32 : Nat) b ∧
 Nn p fun (l : Go.Vc.Loc) ↦ ∃ (b_1 : Bs (32 : Nat)), atBytes h_1 l.b l.o (32 : Nat) b_1 ∧ R (TV.val (TV.bool (decide (b.1 = b_1.1)))) h_1

theorem pool_Pool_Has_1_calls (x_Slot : Int) (x_Root : Bs (32 : Nat)) (x_Peer : Int) (x_For : Bs (32 : Nat)) (x_Text : List UInt8) (p : Option Go.Vc.Loc) (h : Heap) (R : Value → Heap → Prop) (H : pool_Pool_Has_1_vc x_Slot x_Root x_Peer x_For x_Text p h R) : CallsH Try.prog 38 (TVs.vals [TV.agg [TV.int IntKind.i64 x_Slot, TV.bytes (32 : Nat) x_Root, TV.int IntKind.i64 x_Peer, TV.bytes (32 : Nat) x_For, TV.str x_Text], TV.ptr p]) h R :=
 vcFn_sound (C := ctx) ctx_ok (fn := Try.f38) Try.func38 ((by kernel_rfl : pool_Pool_Has_1_vc x_Slot x_Root x_Peer x_For x_Text p h R = vcFn ctx Try.f38 [TV.agg [TV.int IntKind.i64 x_Slot, TV.bytes (32 : Nat) x_Root, TV.int IntKind.i64 x_Peer, TV.bytes (32 : Nat) x_For, TV.str x_Text], TV.ptr p] h R) ▸ H)


def slices_IndexFunc_pool_last_pool_Item__vc (s_ : Sl) (f : Vc.One) (h : Heap) (R : Value → Heap → Prop) : Prop :=
 Go.Vc.Loop ((0 : Int), (0 : Int)) h fun (s : Int × Int) (h : Array Obj) (K : Int × Int → Array Obj → Prop) ↦
 If (decide (s.snd < (↑s_.len : Int)))
 ((0 : Int) ≤ s.snd ∧
 s.snd < (↑s_.len : Int) ∧
 Nn s_.a fun (l : Go.Vc.Loc) ↦
 ∃ (n : Int),
 ∃ (b : Bs (32 : Nat)),
 ∃ (n_1 : Int),
 ∃ (b_1 : Bs (32 : Nat)),
 ∃ (s_1 : List UInt8),
 (at1 h l.b (l.o + Int.toNat s.snd * (67 : Nat)) (Value.int IntKind.i64 n) ∧
 atBytes h l.b (l.o + Int.toNat s.snd * (67 : Nat) + (1 : Nat)) (32 : Nat) b ∧
 at1 h l.b (l.o + Int.toNat s.snd * (67 : Nat) + (1 : Nat) + (32 : Nat)) (Value.int IntKind.i64 n_1) ∧
 atBytes h l.b (l.o + Int.toNat s.snd * (67 : Nat) + (1 : Nat) + (32 : Nat) + (1 : Nat)) (32 : Nat) b_1 ∧
 at1 h l.b (l.o + Int.toNat s.snd * (67 : Nat) + (1 : Nat) + (32 : Nat) + (1 : Nat) + (32 : Nat))
 (Value.string (ByteArray.mk (List.toArray s_1)))) ∧
 ∃ (g : Nat),
 ∃ (first : Array Value),
 ∃ (cap : Array Value),
 f.v = Value.func (Fn.func g) first cap ∧
 EntP Try.prog g ∧
 CallsH Try.prog g
 (List.append
 (List.append first.toList
 (TVs.vals
 [TV.agg [TV.int IntKind.i64 n, TV.bytes (32 : Nat) b, TV.int IntKind.i64 n_1, TV.bytes (32 : Nat) b_1, TV.str s_1]]))
 cap.toList)
 h fun (v : Value) (h : Array Obj) ↦
 ∃ (b : Bool),
 v = TV.val (TV.bool b) ∧
 If b (R (TV.val (TV.int IntKind.i64 s.snd)) h) (K (s.fst, IntKind.wrap IntKind.i64 (s.snd + (1 : Int))) h))
 (R (TV.val (TV.int IntKind.i64 (-1 : Int))) h)

theorem slices_IndexFunc_pool_last_pool_Item__calls (s_ : Sl) (f : Vc.One) (h : Heap) (R : Value → Heap → Prop) (H : slices_IndexFunc_pool_last_pool_Item__vc s_ f h R) : CallsH Try.prog 48 (TVs.vals [TV.slice s_, TV.one f]) h R :=
 vcFn_sound (C := ctx) ctx_ok (fn := Try.f48) Try.func48 ((by kernel_rfl : slices_IndexFunc_pool_last_pool_Item__vc s_ f h R = vcFn ctx Try.f48 [TV.slice s_, TV.one f] h R) ▸ H)


def pool_New_vc (most : Int) (quota : Int) (h : Heap) (R : Value → Heap → Prop) : Prop :=
 If (decide (most < (1 : Int))) (R (TV.val (TV.ptr none)) h)
 (If (decide ((64 : Int) < most)) (R (TV.val (TV.ptr none)) h)
 (If (decide (quota < (1 : Int))) (R (TV.val (TV.ptr none)) h)
 (If (decide ((64 : Int) < quota)) (R (TV.val (TV.ptr none)) h)
 (Vc.Bind (newTV h (TV.agg [TV.slice Sl.nil, TV.int IntKind.i64 most, TV.int IntKind.i64 quota]) (64 : Nat)) fun (h_1 : Array Obj) ↦
 R (TV.val (TV.ptr (some (Loc.mk (Array.size h) (0 : Nat))))) h_1))))

theorem pool_New_calls (most : Int) (quota : Int) (h : Heap) (R : Value → Heap → Prop) (H : pool_New_vc most quota h R) : CallsH Try.prog 12 (TVs.vals [TV.int IntKind.i64 most, TV.int IntKind.i64 quota]) h R :=
 vcFn_sound (C := ctx) ctx_ok (fn := Try.f12) Try.func12 ((by kernel_rfl : pool_New_vc most quota h R = vcFn ctx Try.f12 [TV.int IntKind.i64 most, TV.int IntKind.i64 quota] h R) ▸ H)


def pool_Pool_Of_vc (p : Option Go.Vc.Loc) (peer : Int) (h : Heap) (R : Value → Heap → Prop) : Prop :=
 CallsH Try.prog (17 : Nat) (TVs.vals [TV.ptr p]) h fun (v : Value) (h : Heap) ↦
 ∃ (s : Sl),
 v = TV.val (TV.slice s) ∧
 Go.Vc.Loop ((0 : Int), (0 : Int)) h fun (s_1 : Int × Int) (h : Array Obj) (K : Int × Int → Array Obj → Prop) ↦
 If (decide (s_1.snd < (↑s.len : Int)))
 ((0 : Int) ≤ s_1.snd ∧
 s_1.snd < (↑s.len : Int) ∧
 Nn s.a fun (l : Go.Vc.Loc) ↦
 ∃ (n : Int),
 ∃ (b : Bs (32 : Nat)),
 ∃ (n_1 : Int),
 ∃ (b_1 : Bs (32 : Nat)),
 ∃ (s : List UInt8),
 (at1 h l.b (l.o + Int.toNat s_1.snd * (67 : Nat)) (Value.int IntKind.i64 n) ∧
 atBytes h l.b (l.o + Int.toNat s_1.snd * (67 : Nat) + (1 : Nat)) (32 : Nat) b ∧
 at1 h l.b (l.o + Int.toNat s_1.snd * (67 : Nat) + (1 : Nat) + (32 : Nat)) (Value.int IntKind.i64 n_1) ∧
 atBytes h l.b (l.o + Int.toNat s_1.snd * (67 : Nat) + (1 : Nat) + (32 : Nat) + (1 : Nat)) (32 : Nat) b_1 ∧
 at1 h l.b (l.o + Int.toNat s_1.snd * (67 : Nat) + (1 : Nat) + (32 : Nat) + (1 : Nat) + (32 : Nat))
 (Value.string (ByteArray.mk (List.toArray s)))) ∧
 Vc.Bind
 (newTV h
 (TV.agg
 [TV.int IntKind.i64 (0 : Int), TV.bytes (32 : Nat) (Bs.zero (32 : Nat)), TV.int IntKind.i64 (0 : Int),
 TV.bytes (32 : Nat) (Bs.zero (32 : Nat)), TV.str []])
 (32 : Nat))
 fun (h_1 : Array Obj) ↦
 wok h_1 (Array.size h) (0 : Nat) (Nat.succ (Nat.add (1 : Nat) (Nat.add (32 : Nat) (Nat.add (1 : Nat) (32 : Nat))))) ∧
 Vc.Bind
 (TV.put h_1 (Array.size h) (0 : Nat)
 (TV.agg [TV.int IntKind.i64 n, TV.bytes (32 : Nat) b, TV.int IntKind.i64 n_1, TV.bytes (32 : Nat) b_1, TV.str s]))
 fun (h_2 : Array Obj) ↦
 ∃ (n : Int),
 at1 h_2 (Array.size h) (33 : Nat) (Value.int IntKind.i64 n) ∧
 If (decide (n = peer))
 (K (IntKind.wrap IntKind.i64 (s_1.fst + (1 : Int)), IntKind.wrap IntKind.i64 (s_1.snd + (1 : Int))) h_2)
 (K (s_1.fst, IntKind.wrap IntKind.i64 (s_1.snd + (1 : Int))) h_2))
 (R (TV.val (TV.int IntKind.i64 s_1.fst)) h)

theorem pool_Pool_Of_calls (p : Option Go.Vc.Loc) (peer : Int) (h : Heap) (R : Value → Heap → Prop) (H : pool_Pool_Of_vc p peer h R) : CallsH Try.prog 20 (TVs.vals [TV.ptr p, TV.int IntKind.i64 peer]) h R :=
 vcFn_sound (C := ctx) ctx_ok (fn := Try.f20) Try.func20 ((by kernel_rfl : pool_Pool_Of_vc p peer h R = vcFn ctx Try.f20 [TV.ptr p, TV.int IntKind.i64 peer] h R) ▸ H)


def pool_Pool_Len_vc (p : Option Go.Vc.Loc) (h : Heap) (R : Value → Heap → Prop) : Prop :=
 If (Option.isNone p) (R (TV.val (TV.int IntKind.i64 (0 : Int))) h)
 (Nn p fun (l : Go.Vc.Loc) ↦
 ∃ (s : Sl),
 at1 h l.b l.o (slVal s) ∧
 CallsH Try.prog (40 : Nat) (TVs.vals [TV.slice s]) h fun (v : Value) (h : Heap) ↦
 ∃ (n : Int), v = TV.val (TV.int IntKind.i64 n) ∧ R (TV.val (TV.int IntKind.i64 n)) h)

theorem pool_Pool_Len_calls (p : Option Go.Vc.Loc) (h : Heap) (R : Value → Heap → Prop) (H : pool_Pool_Len_vc p h R) : CallsH Try.prog 21 (TVs.vals [TV.ptr p]) h R :=
 vcFn_sound (C := ctx) ctx_ok (fn := Try.f21) Try.func21 ((by kernel_rfl : pool_Pool_Len_vc p h R = vcFn ctx Try.f21 [TV.ptr p] h R) ▸ H)


def pool_Pool_All_vc (p : Option Go.Vc.Loc) (h : Heap) (R : Value → Heap → Prop) : Prop :=
 If (Option.isNone p) (R (TV.val (TV.slice Sl.nil)) h)
 (Nn p fun (l : Go.Vc.Loc) ↦
 ∃ (s : Sl),
 at1 h l.b l.o (slVal s) ∧
 CallsH Try.prog (34 : Nat) (TVs.vals [TV.slice s]) h fun (v : Value) (h : Heap) ↦
 ∃ (s : Sl),
 v = TV.val (TV.slice s) ∧
 CallsH Try.prog (35 : Nat) (TVs.vals [TV.slice s, TV.fn (Fn.func (36 : Nat)) [] []]) h fun (v : Value) (h : Heap) ↦
 v = TV.val (TV.tup []) ∧ R (TV.val (TV.slice s)) h)

theorem pool_Pool_All_calls (p : Option Go.Vc.Loc) (h : Heap) (R : Value → Heap → Prop) (H : pool_Pool_All_vc p h R) : CallsH Try.prog 17 (TVs.vals [TV.ptr p]) h R :=
 vcFn_sound (C := ctx) ctx_ok (fn := Try.f17) Try.func17 ((by kernel_rfl : pool_Pool_All_vc p h R = vcFn ctx Try.f17 [TV.ptr p] h R) ▸ H)


def slices_Clone___pool_Item_pool_Item__vc (s_ : Sl) (h : Heap) (R : Value → Heap → Prop) : Prop :=
 If (Option.isNone s_.a) (R (TV.val (TV.slice Sl.nil)) h)
 (∃ (new : List Value),
 slAt (Array.push h (row (TVs.cells []) (32 : Nat))) s_ (67 : Nat) new ∧
 (∀ (v : Value), v ∈ new → isOne v = true) ∧
 vcAppend Ytjadpjbiiidioaa.ctx (32 : Nat) (Sl.mk (some (Loc.mk (Array.size h) (0 : Nat))) (0 : Nat) (0 : Nat)) s_.len new
 (Array.push h (row (TVs.cells []) (32 : Nat))) fun (s : Sl) (h : Array Obj) ↦ R (TV.val (TV.slice s)) h)

theorem slices_Clone___pool_Item_pool_Item__calls (s_ : Sl) (h : Heap) (R : Value → Heap → Prop) (H : slices_Clone___pool_Item_pool_Item__vc s_ h R) : CallsH Try.prog 34 (TVs.vals [TV.slice s_]) h R :=
 vcFn_sound (C := ctx) ctx_ok (fn := Try.f34) Try.func34 ((by kernel_rfl : slices_Clone___pool_Item_pool_Item__vc s_ h R = vcFn ctx Try.f34 [TV.slice s_] h R) ▸ H)


def pool_Pool_All_1_vc (a_Slot : Int) (a_Root : Bs (32 : Nat)) (a_Peer : Int) (a_For : Bs (32 : Nat)) (a_Text : List UInt8) (b_Slot : Int) (b_Root : Bs (32 : Nat)) (b_Peer : Int) (b_For : Bs (32 : Nat)) (b_Text : List UInt8) (h : Heap) (R : Value → Heap → Prop) : Prop :=
 Vc.Bind
 (newTV h (TV.agg [TV.int IntKind.i64 a_Slot, TV.bytes (32 : Nat) a_Root, TV.int IntKind.i64 a_Peer, TV.bytes (32 : Nat) a_For, TV.str a_Text]) (32 : Nat))
 fun (h_1 : Array Obj) ↦
 Vc.Bind
 (newTV h_1 (TV.agg [TV.int IntKind.i64 b_Slot, TV.bytes (32 : Nat) b_Root, TV.int IntKind.i64 b_Peer, TV.bytes (32 : Nat) b_For, TV.str b_Text]) (32 : Nat))
 fun (h_2 : Array Obj) ↦
 ∃ (n : Int),
 ∃ (b : Bs (32 : Nat)),
 ∃ (n_1 : Int),
 ∃ (b_1 : Bs (32 : Nat)),
 ∃ (s : List UInt8),
 (at1 h_2 (Array.size h) (0 : Nat) (Value.int IntKind.i64 n) ∧
 atBytes h_2 (Array.size h) (1 : Nat) (32 : Nat) b ∧
 at1 h_2 (Array.size h) (33 : Nat) (Value.int IntKind.i64 n_1) ∧
 atBytes h_2 (Array.size h) (34 : Nat) (32 : Nat) b_1 ∧ at1 h_2 (Array.size h) (66 : Nat) (Value.string (ByteArray.mk (List.toArray s)))) ∧
 ∃ (n_2 : Int),
 ∃ (b_2 : Bs (32 : Nat)),
 ∃ (n_3 : Int),
 ∃ (b_3 : Bs (32 : Nat)),
 ∃ (s_1 : List UInt8),
 (at1 h_2 (Array.size h_1) (0 : Nat) (Value.int IntKind.i64 n_2) ∧
 atBytes h_2 (Array.size h_1) (1 : Nat) (32 : Nat) b_2 ∧
 at1 h_2 (Array.size h_1) (33 : Nat) (Value.int IntKind.i64 n_3) ∧
 atBytes h_2 (Array.size h_1) (34 : Nat) (32 : Nat) b_3 ∧
 at1 h_2 (Array.size h_1) (66 : Nat) (Value.string (ByteArray.mk (List.toArray s_1)))) ∧
 CallsH Try.prog (19 : Nat)
 (TVs.vals
 [TV.agg [TV.int IntKind.i64 n, TV.bytes (32 : Nat) b, TV.int IntKind.i64 n_1, TV.bytes (32 : Nat) b_1, TV.str s],
 TV.agg [TV.int IntKind.i64 n_2, TV.bytes (32 : Nat) b_2, TV.int IntKind.i64 n_3, TV.bytes (32 : Nat) b_3, TV.str s_1]])
 h_2 fun (v : Value) (h_3 : Array Obj) ↦
 ∃ (b : Bool),
 v = TV.val (TV.bool b) ∧
 If b (R (TV.val (TV.int IntKind.i64 (-1 : Int))) h_3)
 (∃ (n : Int),
 ∃ (b : Bs (32 : Nat)),
 ∃ (n_4 : Int),
 ∃ (b_4 : Bs (32 : Nat)),
 ∃ (s : List UInt8),
 (at1 h_3 (Array.size h_1) (0 : Nat) (Value.int IntKind.i64 n) ∧
 atBytes h_3 (Array.size h_1) (1 : Nat) (32 : Nat) b ∧
 at1 h_3 (Array.size h_1) (33 : Nat) (Value.int IntKind.i64 n_4) ∧
 atBytes h_3 (Array.size h_1) (34 : Nat) (32 : Nat) b_4 ∧
 at1 h_3 (Array.size h_1) (66 : Nat) (Value.string (ByteArray.mk (List.toArray s)))) ∧
 ∃ (n_5 : Int),
 ∃ (b_5 : Bs (32 : Nat)),
 ∃ (n_6 : Int),
 ∃ (b_6 : Bs (32 : Nat)),
 ∃ (s_2 : List UInt8),
 (at1 h_3 (Array.size h) (0 : Nat) (Value.int IntKind.i64 n_5) ∧
 atBytes h_3 (Array.size h) (1 : Nat) (32 : Nat) b_5 ∧
 at1 h_3 (Array.size h) (33 : Nat) (Value.int IntKind.i64 n_6) ∧
 atBytes h_3 (Array.size h) (34 : Nat) (32 : Nat) b_6 ∧
 at1 h_3 (Array.size h) (66 : Nat) (Value.string (ByteArray.mk (List.toArray s_2)))) ∧
 CallsH Try.prog (19 : Nat)
 (TVs.vals
 [TV.agg
 [TV.int IntKind.i64 n, TV.bytes (32 : Nat) b, TV.int IntKind.i64 n_4,
 TV.bytes (32 : Nat) b_4, TV.str s],
 TV.agg
 [TV.int IntKind.i64 n_5, TV.bytes (32 : Nat) b_5, TV.int IntKind.i64 n_6,
 TV.bytes (32 : Nat) b_6, TV.str s_2]])
 h_3 fun (v : Value) (h : Array Obj) ↦
 ∃ (b : Bool),
 v = TV.val (TV.bool b) ∧
 If b (R (TV.val (TV.int IntKind.i64 (1 : Int))) h)
 (R (TV.val (TV.int IntKind.i64 (0 : Int))) h))

theorem pool_Pool_All_1_calls (a_Slot : Int) (a_Root : Bs (32 : Nat)) (a_Peer : Int) (a_For : Bs (32 : Nat)) (a_Text : List UInt8) (b_Slot : Int) (b_Root : Bs (32 : Nat)) (b_Peer : Int) (b_For : Bs (32 : Nat)) (b_Text : List UInt8) (h : Heap) (R : Value → Heap → Prop) (H : pool_Pool_All_1_vc a_Slot a_Root a_Peer a_For a_Text b_Slot b_Root b_Peer b_For b_Text h R) : CallsH Try.prog 36 (TVs.vals [TV.agg [TV.int IntKind.i64 a_Slot, TV.bytes (32 : Nat) a_Root, TV.int IntKind.i64 a_Peer, TV.bytes (32 : Nat) a_For, TV.str a_Text], TV.agg [TV.int IntKind.i64 b_Slot, TV.bytes (32 : Nat) b_Root, TV.int IntKind.i64 b_Peer, TV.bytes (32 : Nat) b_For, TV.str b_Text]]) h R :=
 vcFn_sound (C := ctx) ctx_ok (fn := Try.f36) Try.func36 ((by kernel_rfl : pool_Pool_All_1_vc a_Slot a_Root a_Peer a_For a_Text b_Slot b_Root b_Peer b_For b_Text h R = vcFn ctx Try.f36 [TV.agg [TV.int IntKind.i64 a_Slot, TV.bytes (32 : Nat) a_Root, TV.int IntKind.i64 a_Peer, TV.bytes (32 : Nat) a_For, TV.str a_Text], TV.agg [TV.int IntKind.i64 b_Slot, TV.bytes (32 : Nat) b_Root, TV.int IntKind.i64 b_Peer, TV.bytes (32 : Nat) b_For, TV.str b_Text]] h R) ▸ H)


def pool_Pool_Take_vc (p : Option Go.Vc.Loc) (is : Vc.One) (h : Heap) (R : Value → Heap → Prop) : Prop :=
 If (Option.isNone p) (R (TV.val (TV.slice Sl.nil)) h)
 (CallsH Try.prog (17 : Nat) (TVs.vals [TV.ptr p]) h fun (v : Value) (h : Heap) ↦
 ∃ (s : Sl),
 v = TV.val (TV.slice s) ∧
 Go.Vc.Loop (Sl.mk none (0 : Nat) (0 : Nat), Sl.mk none (0 : Nat) (0 : Nat), (0 : Int)) h
 fun (s_1 : Sl × Sl × Int) (h : Array Obj) (K : Sl × Sl × Int → Array Obj → Prop) ↦
 If (decide (s_1.snd.snd < (↑s.len : Int)))
 ((0 : Int) ≤ s_1.snd.snd ∧
 s_1.snd.snd < (↑s.len : Int) ∧
 Nn s.a fun (l : Go.Vc.Loc) ↦
 ∃ (n : Int),
 ∃ (b : Bs (32 : Nat)),
 ∃ (n_1 : Int),
 ∃ (b_1 : Bs (32 : Nat)),
 ∃ (s_2 : List UInt8),
 (at1 h l.b (l.o + Int.toNat s_1.snd.snd * (67 : Nat)) (Value.int IntKind.i64 n) ∧
 atBytes h l.b (l.o + Int.toNat s_1.snd.snd * (67 : Nat) + (1 : Nat)) (32 : Nat) b ∧
 at1 h l.b (l.o + Int.toNat s_1.snd.snd * (67 : Nat) + (1 : Nat) + (32 : Nat)) (Value.int IntKind.i64 n_1) ∧
 atBytes h l.b (l.o + Int.toNat s_1.snd.snd * (67 : Nat) + (1 : Nat) + (32 : Nat) + (1 : Nat)) (32 : Nat) b_1 ∧
 at1 h l.b (l.o + Int.toNat s_1.snd.snd * (67 : Nat) + (1 : Nat) + (32 : Nat) + (1 : Nat) + (32 : Nat))
 (Value.string (ByteArray.mk (List.toArray s_2)))) ∧
 Vc.Bind
 (newTV h
 (TV.agg
 [TV.int IntKind.i64 (0 : Int), TV.bytes (32 : Nat) (Bs.zero (32 : Nat)), TV.int IntKind.i64 (0 : Int),
 TV.bytes (32 : Nat) (Bs.zero (32 : Nat)), TV.str []])
 (32 : Nat))
 fun (h_1 : Array Obj) ↦
 wok h_1 (Array.size h) (0 : Nat) (Nat.succ (Nat.add (1 : Nat) (Nat.add (32 : Nat) (Nat.add (1 : Nat) (32 : Nat))))) ∧
 Vc.Bind
 (TV.put h_1 (Array.size h) (0 : Nat)
 (TV.agg [TV.int IntKind.i64 n, TV.bytes (32 : Nat) b, TV.int IntKind.i64 n_1, TV.bytes (32 : Nat) b_1, TV.str s_2]))
 fun (h_2 : Array Obj) ↦
 ∃ (n : Int),
 ∃ (b : Bs (32 : Nat)),
 ∃ (n_2 : Int),
 ∃ (b_2 : Bs (32 : Nat)),
 ∃ (s_3 : List UInt8),
 (at1 h_2 (Array.size h) (0 : Nat) (Value.int IntKind.i64 n) ∧
 atBytes h_2 (Array.size h) (1 : Nat) (32 : Nat) b ∧
 at1 h_2 (Array.size h) (33 : Nat) (Value.int IntKind.i64 n_2) ∧
 atBytes h_2 (Array.size h) (34 : Nat) (32 : Nat) b_2 ∧
 at1 h_2 (Array.size h) (66 : Nat) (Value.string (ByteArray.mk (List.toArray s_3)))) ∧
 ∃ (g : Nat),
 ∃ (first : Array Value),
 ∃ (cap : Array Value),
 is.v = Value.func (Fn.func g) first cap ∧
 EntP Try.prog g ∧
 CallsH Try.prog g
 (List.append
 (List.append first.toList
 (TVs.vals
 [TV.agg
 [TV.int IntKind.i64 n, TV.bytes (32 : Nat) b, TV.int IntKind.i64 n_2,
 TV.bytes (32 : Nat) b_2, TV.str s_3]]))
 cap.toList)
 h_2 fun (v : Value) (h_3 : Array Obj) ↦
 ∃ (b : Bool),
 v = TV.val (TV.bool b) ∧
 If b
 (∃ (n : Int),
 ∃ (b : Bs (32 : Nat)),
 ∃ (n_3 : Int),
 ∃ (b_3 : Bs (32 : Nat)),
 ∃ (s_4 : List UInt8),
 (at1 h_3 (Array.size h) (0 : Nat) (Value.int IntKind.i64 n) ∧
 atBytes h_3 (Array.size h) (1 : Nat) (32 : Nat) b ∧
 at1 h_3 (Array.size h) (33 : Nat) (Value.int IntKind.i64 n_3) ∧
 atBytes h_3 (Array.size h) (34 : Nat) (32 : Nat) b_3 ∧
 at1 h_3 (Array.size h) (66 : Nat)
 (Value.string (ByteArray.mk (List.toArray s_4)))) ∧
 ∃ (new : List Value),
 slAt
 (Array.push h_3
 (row
 (TVs.cells
 [TV.agg
 [TV.int IntKind.i64 n, TV.bytes (32 : Nat) b,
 TV.int IntKind.i64 n_3, TV.bytes (32 : Nat) b_3, TV.str s_4]])
 (32 : Nat)))
 (Sl.mk (some (Loc.mk (Array.size h_3) (0 : Nat))) (1 : Nat) (1 : Nat))
 (67 : Nat) new ∧
 (∀ (v : Value), v ∈ new → isOne v = true) ∧
 vcAppend Ytjadpjbiiidioaa.ctx (32 : Nat) s_1.fst (1 : Nat) new
 (Array.push h_3
 (row
 (TVs.cells
 [TV.agg
 [TV.int IntKind.i64 n, TV.bytes (32 : Nat) b,
 TV.int IntKind.i64 n_3, TV.bytes (32 : Nat) b_3, TV.str s_4]])
 (32 : Nat)))
 fun (s_5 : Sl) (h : Array Obj) ↦
 K (s_5, s_1.snd.fst, IntKind.wrap IntKind.i64 (s_1.snd.snd + (1 : Int)))
 h)
 (∃ (n : Int),
 ∃ (b : Bs (32 : Nat)),
 ∃ (n_3 : Int),
 ∃ (b_3 : Bs (32 : Nat)),
 ∃ (s_4 : List UInt8),
 (at1 h_3 (Array.size h) (0 : Nat) (Value.int IntKind.i64 n) ∧
 atBytes h_3 (Array.size h) (1 : Nat) (32 : Nat) b ∧
 at1 h_3 (Array.size h) (33 : Nat) (Value.int IntKind.i64 n_3) ∧
 atBytes h_3 (Array.size h) (34 : Nat) (32 : Nat) b_3 ∧
 at1 h_3 (Array.size h) (66 : Nat)
 (Value.string (ByteArray.mk (List.toArray s_4)))) ∧
 ∃ (new : List Value),
 slAt
 (Array.push h_3
 (row
 (TVs.cells
 [TV.agg
 [TV.int IntKind.i64 n, TV.bytes (32 : Nat) b,
 TV.int IntKind.i64 n_3, TV.bytes (32 : Nat) b_3, TV.str s_4]])
 (32 : Nat)))
 (Sl.mk (some (Loc.mk (Array.size h_3) (0 : Nat))) (1 : Nat) (1 : Nat))
 (67 : Nat) new ∧
 (∀ (v : Value), v ∈ new → isOne v = true) ∧
 vcAppend Ytjadpjbiiidioaa.ctx (32 : Nat) s_1.snd.fst (1 : Nat) new
 (Array.push h_3
 (row
 (TVs.cells
 [TV.agg
 [TV.int IntKind.i64 n, TV.bytes (32 : Nat) b,
 TV.int IntKind.i64 n_3, TV.bytes (32 : Nat) b_3, TV.str s_4]])
 (32 : Nat)))
 fun (s_5 : Sl) (h : Array Obj) ↦
 K (s_1.fst, s_5, IntKind.wrap IntKind.i64 (s_1.snd.snd + (1 : Int))) h))
 (Nn p fun (l : Go.Vc.Loc) ↦
 wok h l.b l.o (1 : Nat) ∧
 Vc.Bind (TV.put h l.b l.o (TV.slice s_1.snd.fst)) fun (h : Array Obj) ↦
 Nn p fun (l : Go.Vc.Loc) ↦
 CallsH Try.prog (41 : Nat)
 (TVs.vals
 [TV.one
 (Vc.One.mk (Value.iface (66 : Nat) (TV.val (TV.ptr (some (Loc.mk l.b l.o)))))
 (vcPack._proof_1 (66 : Nat) (TV.ptr (some (Loc.mk l.b l.o)))))])
 h fun (v : Value) (h : Array Obj) ↦ v = TV.val (TV.tup []) ∧ R (TV.val (TV.slice s_1.fst)) h))

theorem pool_Pool_Take_calls (p : Option Go.Vc.Loc) (is : Vc.One) (h : Heap) (R : Value → Heap → Prop) (H : pool_Pool_Take_vc p is h R) : CallsH Try.prog 22 (TVs.vals [TV.ptr p, TV.one is]) h R :=
 vcFn_sound (C := ctx) ctx_ok (fn := Try.f22) Try.func22 ((by kernel_rfl : pool_Pool_Take_vc p is h R = vcFn ctx Try.f22 [TV.ptr p, TV.one is] h R) ▸ H)


def pool_Pool_Put_vc (p : Option Go.Vc.Loc) (x_Slot : Int) (x_Root : Bs (32 : Nat)) (x_Peer : Int) (x_For : Bs (32 : Nat)) (x_Text : List UInt8) (h : Heap) (R : Value → Heap → Prop) : Prop :=
 Vc.Bind
 (newTV h (TV.agg [TV.int IntKind.i64 x_Slot, TV.bytes (32 : Nat) x_Root, TV.int IntKind.i64 x_Peer, TV.bytes (32 : Nat) x_For, TV.str x_Text]) (32 : Nat))
 fun (h_1 : Array Obj) ↦
 Vc.Bind
 (newTV h_1
 (TV.agg
 [TV.int IntKind.i64 (0 : Int), TV.bytes (32 : Nat) (Bs.zero (32 : Nat)), TV.int IntKind.i64 (0 : Int), TV.bytes (32 : Nat) (Bs.zero (32 : Nat)),
 TV.str []])
 (32 : Nat))
 fun (h_2 : Array Obj) ↦
 If (Option.isNone p)
 (wok h_2 (Array.size h_1) (0 : Nat) (67 : Nat) ∧
 Vc.Bind
 (TV.put h_2 (Array.size h_1) (0 : Nat)
 (TV.agg
 [TV.int IntKind.i64 (0 : Int), TV.bytes (32 : Nat) (Bs.zero (32 : Nat)), TV.int IntKind.i64 (0 : Int), TV.bytes (32 : Nat) (Bs.zero (32 : Nat)),
 TV.str []]))
 fun (h : Array Obj) ↦
 ∃ (n : Int),
 ∃ (b : Bs (32 : Nat)),
 ∃ (n_1 : Int),
 ∃ (b_1 : Bs (32 : Nat)),
 ∃ (s : List UInt8),
 (at1 h (Array.size h_1) (0 : Nat) (Value.int IntKind.i64 n) ∧
 atBytes h (Array.size h_1) (1 : Nat) (32 : Nat) b ∧
 at1 h (Array.size h_1) (33 : Nat) (Value.int IntKind.i64 n_1) ∧
 atBytes h (Array.size h_1) (34 : Nat) (32 : Nat) b_1 ∧
 at1 h (Array.size h_1) (66 : Nat) (Value.string (ByteArray.mk (List.toArray s)))) ∧
 R
 (TV.val
 (TV.tup
 [TV.int IntKind.i64 (12 : Int),
 TV.agg [TV.int IntKind.i64 n, TV.bytes (32 : Nat) b, TV.int IntKind.i64 n_1, TV.bytes (32 : Nat) b_1, TV.str s]]))
 h)
 (∃ (b : Bs (32 : Nat)),
 atBytes h_2 (Array.size h) (1 : Nat) (32 : Nat) b ∧
 CallsH Try.prog (18 : Nat) (TVs.vals [TV.ptr p, TV.bytes (32 : Nat) b]) h_2 fun (v : Value) (h_3 : Array Obj) ↦
 ∃ (b : Bool),
 v = TV.val (TV.bool b) ∧
 If b
 (wok h_3 (Array.size h_1) (0 : Nat) (67 : Nat) ∧
 Vc.Bind
 (TV.put h_3 (Array.size h_1) (0 : Nat)
 (TV.agg
 [TV.int IntKind.i64 (0 : Int), TV.bytes (32 : Nat) (Bs.zero (32 : Nat)), TV.int IntKind.i64 (0 : Int),
 TV.bytes (32 : Nat) (Bs.zero (32 : Nat)), TV.str []]))
 fun (h : Array Obj) ↦
 ∃ (n : Int),
 ∃ (b : Bs (32 : Nat)),
 ∃ (n_1 : Int),
 ∃ (b_1 : Bs (32 : Nat)),
 ∃ (s : List UInt8),
 (at1 h (Array.size h_1) (0 : Nat) (Value.int IntKind.i64 n) ∧
 atBytes h (Array.size h_1) (1 : Nat) (32 : Nat) b ∧
 at1 h (Array.size h_1) (33 : Nat) (Value.int IntKind.i64 n_1) ∧
 atBytes h (Array.size h_1) (34 : Nat) (32 : Nat) b_1 ∧
 at1 h (Array.size h_1) (66 : Nat) (Value.string (ByteArray.mk (List.toArray s)))) ∧
 R
 (TV.val
 (TV.tup
 [TV.int IntKind.i64 (9 : Int),
 TV.agg [TV.int IntKind.i64 n, TV.bytes (32 : Nat) b, TV.int IntKind.i64 n_1, TV.bytes (32 : Nat) b_1, TV.str s]]))
 h)
 (∃ (n : Int),
 at1 h_3 (Array.size h) (33 : Nat) (Value.int IntKind.i64 n) ∧
 Nn p fun (l : Go.Vc.Loc) ↦
 ∃ (n_1 : Int),
 at1 h_3 l.b (l.o + (2 : Nat)) (Value.int IntKind.i64 n_1) ∧
 CallsH Try.prog (20 : Nat) (TVs.vals [TV.ptr p, TV.int IntKind.i64 n]) h_3 fun (v : Value) (h_4 : Array Obj) ↦
 ∃ (n : Int),
 v = TV.val (TV.int IntKind.i64 n) ∧
 Ext h_3 h_4 ∧
 If (decide (n_1 ≤ n))
 (wok h_4 (Array.size h_1) (0 : Nat) (67 : Nat) ∧
 Vc.Bind
 (TV.put h_4 (Array.size h_1) (0 : Nat)
 (TV.agg
 [TV.int IntKind.i64 (0 : Int), TV.bytes (32 : Nat) (Bs.zero (32 : Nat)), TV.int IntKind.i64 (0 : Int),
 TV.bytes (32 : Nat) (Bs.zero (32 : Nat)), TV.str []]))
 fun (h : Array Obj) ↦
 ∃ (n : Int),
 ∃ (b : Bs (32 : Nat)),
 ∃ (n_2 : Int),
 ∃ (b_1 : Bs (32 : Nat)),
 ∃ (s : List UInt8),
 (at1 h (Array.size h_1) (0 : Nat) (Value.int IntKind.i64 n) ∧
 atBytes h (Array.size h_1) (1 : Nat) (32 : Nat) b ∧
 at1 h (Array.size h_1) (33 : Nat) (Value.int IntKind.i64 n_2) ∧
 atBytes h (Array.size h_1) (34 : Nat) (32 : Nat) b_1 ∧
 at1 h (Array.size h_1) (66 : Nat) (Value.string (ByteArray.mk (List.toArray s)))) ∧
 R
 (TV.val
 (TV.tup
 [TV.int IntKind.i64 (11 : Int),
 TV.agg
 [TV.int IntKind.i64 n, TV.bytes (32 : Nat) b, TV.int IntKind.i64 n_2, TV.bytes (32 : Nat) b_1,
 TV.str s]]))
 h)
 (Nn p fun (l : Go.Vc.Loc) ↦
 ∃ (n : Int),
 at1 h_4 l.b (l.o + (1 : Nat)) (Value.int IntKind.i64 n) ∧
 CallsH Try.prog (21 : Nat) (TVs.vals [TV.ptr p]) h_4 fun (v : Value) (h_5 : Array Obj) ↦
 ∃ (n_2 : Int),
 v = TV.val (TV.int IntKind.i64 n_2) ∧
 Ext h_4 h_5 ∧
 If (decide (n_2 < n))
 (Nn p fun (l : Go.Vc.Loc) ↦
 ∃ (n : Int),
 ∃ (b : Bs (32 : Nat)),
 ∃ (n_3 : Int),
 ∃ (b_1 : Bs (32 : Nat)),
 ∃ (s : List UInt8),
 (at1 h_5 (Array.size h) (0 : Nat) (Value.int IntKind.i64 n) ∧
 atBytes h_5 (Array.size h) (1 : Nat) (32 : Nat) b ∧
 at1 h_5 (Array.size h) (33 : Nat) (Value.int IntKind.i64 n_3) ∧
 atBytes h_5 (Array.size h) (34 : Nat) (32 : Nat) b_1 ∧
 at1 h_5 (Array.size h) (66 : Nat) (Value.string (ByteArray.mk (List.toArray s)))) ∧
 CallsH Try.prog (32 : Nat)
 (TVs.vals
 [TV.one
 (Vc.One.mk (Value.iface (66 : Nat) (TV.val (TV.ptr (some (Loc.mk l.b l.o)))))
 (vcPack._proof_1 (66 : Nat) (TV.ptr (some (Loc.mk l.b l.o))))),
 TV.one
 (Vc.One.mk
 (Value.iface (32 : Nat)
 (TV.val
 (TV.agg
 [TV.int IntKind.i64 n, TV.bytes (32 : Nat) b, TV.int IntKind.i64 n_3,
 TV.bytes (32 : Nat) b_1, TV.str s])))
 (vcPack._proof_1 (32 : Nat)
 (TV.agg
 [TV.int IntKind.i64 n, TV.bytes (32 : Nat) b, TV.int IntKind.i64 n_3,
 TV.bytes (32 : Nat) b_1, TV.str s])))])
 h_5 fun (v : Value) (h : Array Obj) ↦
 v = TV.val (TV.tup []) ∧
 wok h (Array.size h_1) (0 : Nat) (67 : Nat) ∧
 Vc.Bind
 (TV.put h (Array.size h_1) (0 : Nat)
 (TV.agg
 [TV.int IntKind.i64 (0 : Int), TV.bytes (32 : Nat) (Bs.zero (32 : Nat)),
 TV.int IntKind.i64 (0 : Int), TV.bytes (32 : Nat) (Bs.zero (32 : Nat)),
 TV.str []]))
 fun (h : Array Obj) ↦
 ∃ (n : Int),
 ∃ (b : Bs (32 : Nat)),
 ∃ (n_4 : Int),
 ∃ (b_2 : Bs (32 : Nat)),
 ∃ (s : List UInt8),
 (at1 h (Array.size h_1) (0 : Nat) (Value.int IntKind.i64 n) ∧
 atBytes h (Array.size h_1) (1 : Nat) (32 : Nat) b ∧
 at1 h (Array.size h_1) (33 : Nat) (Value.int IntKind.i64 n_4) ∧
 atBytes h (Array.size h_1) (34 : Nat) (32 : Nat) b_2 ∧
 at1 h (Array.size h_1) (66 : Nat)
 (Value.string (ByteArray.mk (List.toArray s)))) ∧
 R
 (TV.val
 (TV.tup
 [TV.int IntKind.i64 (1 : Int),
 TV.agg
 [TV.int IntKind.i64 n, TV.bytes (32 : Nat) b,
 TV.int IntKind.i64 n_4, TV.bytes (32 : Nat) b_2,
 TV.str s]]))
 h)
 (∃ (n : Int),
 ∃ (b : Bs (32 : Nat)),
 ∃ (n_3 : Int),
 ∃ (b_1 : Bs (32 : Nat)),
 ∃ (s : List UInt8),
 (at1 h_5 (Array.size h) (0 : Nat) (Value.int IntKind.i64 n) ∧
 atBytes h_5 (Array.size h) (1 : Nat) (32 : Nat) b ∧
 at1 h_5 (Array.size h) (33 : Nat) (Value.int IntKind.i64 n_3) ∧
 atBytes h_5 (Array.size h) (34 : Nat) (32 : Nat) b_1 ∧
 at1 h_5 (Array.size h) (66 : Nat) (Value.string (ByteArray.mk (List.toArray s)))) ∧
 Nn p fun (l : Go.Vc.Loc) ↦
 ∃ (s_1 : Sl),
 at1 h_5 l.b l.o (slVal s_1) ∧
 (0 : Int) ≤ (0 : Int) ∧
 (0 : Int) < (↑s_1.len : Int) ∧
 Nn s_1.a fun (l : Go.Vc.Loc) ↦
 ∃ (n_4 : Int),
 ∃ (b_2 : Bs (32 : Nat)),
 ∃ (n_5 : Int),
 ∃ (b_3 : Bs (32 : Nat)),
 ∃ (s_2 : List UInt8),
 (at1 h_5 l.b (l.o + Int.toNat (0 : Int) * (67 : Nat))
 (Value.int IntKind.i64 n_4) ∧
 atBytes h_5 l.b (l.o + Int.toNat (0 : Int) * (67 : Nat) + (1 : Nat))
 (32 : Nat) b_2 ∧
 at1 h_5 l.b
 (l.o + Int.toNat (0 : Int) * (67 : Nat) + (1 : Nat) +
 (32 : Nat))
 (Value.int IntKind.i64 n_5) ∧
 atBytes h_5 l.b
 (l.o + Int.toNat (0 : Int) * (67 : Nat) + (1 : Nat) +
 (32 : Nat) +
 (1 : Nat))
 (32 : Nat) b_3 ∧
 at1 h_5 l.b
 (l.o + Int.toNat (0 : Int) * (67 : Nat) + (1 : Nat) +
 (32 : Nat) +
 (1 : Nat) +
 (32 : Nat))
 (Value.string (ByteArray.mk (List.toArray s_2)))) ∧
 CallsH Try.prog (19 : Nat)
 (TVs.vals
 [TV.agg
 [TV.int IntKind.i64 n, TV.bytes (32 : Nat) b,
 TV.int IntKind.i64 n_3, TV.bytes (32 : Nat) b_1, TV.str s],
 TV.agg
 [TV.int IntKind.i64 n_4, TV.bytes (32 : Nat) b_2,
 TV.int IntKind.i64 n_5, TV.bytes (32 : Nat) b_3,
 TV.str s_2]])
 h_5 fun (v : Value) (h_6 : Array Obj) ↦
 ∃ (b : Bool),
 v = TV.val (TV.bool b) ∧
 If (!b)
 (wok h_6 (Array.size h_1) (0 : Nat) (67 : Nat) ∧
 Vc.Bind
 (TV.put h_6 (Array.size h_1) (0 : Nat)
 (TV.agg
 [TV.int IntKind.i64 (0 : Int),
 TV.bytes (32 : Nat) (Bs.zero (32 : Nat)),
 TV.int IntKind.i64 (0 : Int),
 TV.bytes (32 : Nat) (Bs.zero (32 : Nat)),
 TV.str []]))
 fun (h : Array Obj) ↦
 ∃ (n : Int),
 ∃ (b : Bs (32 : Nat)),
 ∃ (n_6 : Int),
 ∃ (b_4 : Bs (32 : Nat)),
 ∃ (s : List UInt8),
 (at1 h (Array.size h_1) (0 : Nat)
 (Value.int IntKind.i64 n) ∧
 atBytes h (Array.size h_1) (1 : Nat)
 (32 : Nat) b ∧
 at1 h (Array.size h_1) (33 : Nat)
 (Value.int IntKind.i64 n_6) ∧
 atBytes h (Array.size h_1) (34 : Nat)
 (32 : Nat) b_4 ∧
 at1 h (Array.size h_1) (66 : Nat)
 (Value.string
 (ByteArray.mk
 (List.toArray s)))) ∧
 R
 (TV.val
 (TV.tup
 [TV.int IntKind.i64 (12 : Int),
 TV.agg
 [TV.int IntKind.i64 n,
 TV.bytes (32 : Nat) b,
 TV.int IntKind.i64 n_6,
 TV.bytes (32 : Nat) b_4,
 TV.str s]]))
 h)
 (Nn p fun (l : Go.Vc.Loc) ↦
 ∃ (s : Sl),
 at1 h_6 l.b l.o (slVal s) ∧
 (0 : Int) ≤ (0 : Int) ∧
 (0 : Int) < (↑s.len : Int) ∧
 Nn s.a fun (l : Go.Vc.Loc) ↦
 ∃ (n : Int),
 ∃ (b : Bs (32 : Nat)),
 ∃ (n_6 : Int),
 ∃ (b_4 : Bs (32 : Nat)),
 ∃ (s : List UInt8),
 (at1 h_6 l.b
 (l.o +
 Int.toNat (0 : Int) *
 (67 : Nat))
 (Value.int IntKind.i64 n) ∧
 atBytes h_6 l.b
 (l.o +
 Int.toNat (0 : Int) *
 (67 : Nat) +
 (1 : Nat))
 (32 : Nat) b ∧
 at1 h_6 l.b
 (l.o +
 Int.toNat (0 : Int) *
 (67 : Nat) +
 (1 : Nat) +
 (32 : Nat))
 (Value.int IntKind.i64 n_6) ∧
 atBytes h_6 l.b
 (l.o +
 Int.toNat
 (0 : Int) *
 (67 : Nat) +
 (1 : Nat) +
 (32 : Nat) +
 (1 : Nat))
 (32 : Nat) b_4 ∧
 at1 h_6 l.b
 (l.o +
 Int.toNat
 (0 : Int) *
 (67 : Nat) +
 (1 : Nat) +
 (32 : Nat) +
 (1 : Nat) +
 (32 : Nat))
 (Value.string
 (ByteArray.mk
 (List.toArray s)))) ∧
 Vc.Bind
 (newTV h_6
 (TV.agg
 [TV.int IntKind.i64 (0 : Int),
 TV.bytes (32 : Nat)
 (Bs.zero (32 : Nat)),
 TV.int IntKind.i64 (0 : Int),
 TV.bytes (32 : Nat)
 (Bs.zero (32 : Nat)),
 TV.str []])
 (32 : Nat))
 fun (h_7 : Array Obj) ↦
 wok h_7 (Array.size h_6) (0 : Nat)
 (Nat.succ
 (Nat.add (1 : Nat)
 (Nat.add (32 : Nat)
 (Nat.add (1 : Nat)
 (32 : Nat))))) ∧
 Vc.Bind
 (TV.put h_7 (Array.size h_6)
 (0 : Nat)
 (TV.agg
 [TV.int IntKind.i64 n,
 TV.bytes (32 : Nat) b,
 TV.int IntKind.i64 n_6,
 TV.bytes (32 : Nat) b_4,
 TV.str s]))
 fun (h_8 : Array Obj) ↦
 Nn p fun (l : Go.Vc.Loc) ↦
 ∃ (s : Sl),
 at1 h_8 l.b l.o (slVal s) ∧
 ∃ (n : Int),
 ∃ (b : Bs (32 : Nat)),
 ∃ (n_7 : Int),
 ∃ (b_5 :
 Bs (32 : Nat)),
 ∃ (s_3 :
 List UInt8),
 (at1 h_8
 (Array.size
 h)
 (0 : Nat)
 (Value.int
 IntKind.i64
 n) ∧
 atBytes h_8
 (Array.size
 h)
 (1 :
 Nat)
 (32 :
 Nat)
 b ∧
 at1 h_8
 (Array.size
 h)
 (33 :
 Nat)
 (Value.int
 IntKind.i64
 n_7) ∧
 atBytes
 h_8
 (Array.size
 h)
 (34 :
 Nat)
 (32 :
 Nat)
 b_5 ∧
 at1
 h_8
 (Array.size
 h)
 (66 :
 Nat)
 (Value.string
 (ByteArray.mk
 (List.toArray
 s_3)))) ∧
 (0 : Int) ≤
 (0 :
 Int) ∧
 (0 : Int) <
 (↑s.len :
 Int) ∧
 Nn s.a
 fun
 (l :
 Go.Vc.Loc) ↦
 wok h_8
 l.b
 (l.o +
 Int.toNat
 (0 :
 Int) *
 (67 :
 Nat))
 (Nat.succ
 (Nat.add
 (1 :
 Nat)
 (Nat.add
 (32 :
 Nat)
 (Nat.add
 (1 :
 Nat)
 (32 :
 Nat))))) ∧
 Vc.Bind
 (TV.put
 h_8
 l.b
 (l.o +
 Int.toNat
 (0 :
 Int) *
 (67 :
 Nat))
 (TV.agg
 [TV.int
 IntKind.i64
 n,
 TV.bytes
 (32 :
 Nat)
 b,
 TV.int
 IntKind.i64
 n_7,
 TV.bytes
 (32 :
 Nat)
 b_5,
 TV.str
 s_3]))
 fun
 (h :
 Array
 Obj) ↦
 Nn p
 fun
 (l :
 Go.Vc.Loc) ↦
 CallsH
 Try.prog
 (33 :
 Nat)
 (TVs.vals
 [TV.one
 (Vc.One.mk
 (Value.iface
 (66 :
 Nat)
 (TV.val
 (TV.ptr
 (some
 (Loc.mk
 l.b
 l.o)))))
 (vcPack._proof_1
 (66 :
 Nat)
 (TV.ptr
 (some
 (Loc.mk
 l.b
 l.o))))),
 TV.int
 IntKind.i64
 (0 :
 Int)])
 h
 fun
 (v :
 Value)
 (h :
 Array
 Obj) ↦
 v =
 TV.val
 (TV.tup
 []) ∧
 ∃
 (n
 :
 Int),
 ∃
 (b
 :
 Bs
 (32 :
 Nat)),
 ∃
 (n_8
 :
 Int),
 ∃
 (b_6
 :
 Bs
 (32 :
 Nat)),
 ∃
 (s
 :
 List
 UInt8),
 (at1
 h
 (Array.size
 h_6)
 (0 :
 Nat)
 (Value.int
 IntKind.i64
 n) ∧
 atBytes
 h
 (Array.size
 h_6)
 (1 :
 Nat)
 (32 :
 Nat)
 b ∧
 at1
 h
 (Array.size
 h_6)
 (33 :
 Nat)
 (Value.int
 IntKind.i64
 n_8) ∧
 atBytes
 h
 (Array.size
 h_6)
 (34 :
 Nat)
 (32 :
 Nat)
 b_6 ∧
 at1
 h
 (Array.size
 h_6)
 (66 :
 Nat)
 (Value.string
 (ByteArray.mk
 (List.toArray
 s)))) ∧
 wok
 h
 (Array.size
 h_1)
 (0 :
 Nat)
 (Nat.succ
 (Nat.add
 (1 :
 Nat)
 (Nat.add
 (32 :
 Nat)
 (Nat.add
 (1 :
 Nat)
 (32 :
 Nat))))) ∧
 Vc.Bind
 (TV.put
 h
 (Array.size
 h_1)
 (0 :
 Nat)
 (TV.agg
 [TV.int
 IntKind.i64
 n,
 TV.bytes
 (32 :
 Nat)
 b,
 TV.int
 IntKind.i64
 n_8,
 TV.bytes
 (32 :
 Nat)
 b_6,
 TV.str
 s]))
 fun
 (h :
 Array
 Obj) ↦
 ∃
 (n
 :
 Int),
 ∃
 (b
 :
 Bs
 (32 :
 Nat)),
 ∃
 (n_9
 :
 Int),
 ∃
 (b_7
 :
 Bs
 (32 :
 Nat)),
 ∃
 (s
 :
 List
 UInt8),
 (at1
 h
 (Array.size
 h_1)
 (0 :
 Nat)
 (Value.int
 IntKind.i64
 n) ∧
 atBytes
 h
 (Array.size
 h_1)
 (1 :
 Nat)
 (32 :
 Nat)
 b ∧
 at1
 h
 (Array.size
 h_1)
 (33 :
 Nat)
 (Value.int
 IntKind.i64
 n_9) ∧
 atBytes
 h
 (Array.size
 h_1)
 (34 :
 Nat)
 (32 :
 Nat)
 b_7 ∧
 at1
 h
 (Array.size
 h_1)
 (66 :
 Nat)
 (Value.string
 (ByteArray.mk
 (List.toArray
 s)))) ∧
 R
 (TV.val
 (TV.tup
 [TV.int
 IntKind.i64
 (2 :
 Int),
 TV.agg
 [TV.int
 IntKind.i64
 n,
 TV.bytes
 (32 :
 Nat)
 b,
 TV.int
 IntKind.i64
 n_9,
 TV.bytes
 (32 :
 Nat)
 b_7,
 TV.str
 s]]))
 h)))))

theorem pool_Pool_Put_calls (p : Option Go.Vc.Loc) (x_Slot : Int) (x_Root : Bs (32 : Nat)) (x_Peer : Int) (x_For : Bs (32 : Nat)) (x_Text : List UInt8) (h : Heap) (R : Value → Heap → Prop) (H : pool_Pool_Put_vc p x_Slot x_Root x_Peer x_For x_Text h R) : CallsH Try.prog 13 (TVs.vals [TV.ptr p, TV.agg [TV.int IntKind.i64 x_Slot, TV.bytes (32 : Nat) x_Root, TV.int IntKind.i64 x_Peer, TV.bytes (32 : Nat) x_For, TV.str x_Text]]) h R :=
 vcFn_sound (C := ctx) ctx_ok (fn := Try.f13) Try.func13 ((by kernel_rfl : pool_Pool_Put_vc p x_Slot x_Root x_Peer x_For x_Text h R = vcFn ctx Try.f13 [TV.ptr p, TV.agg [TV.int IntKind.i64 x_Slot, TV.bytes (32 : Nat) x_Root, TV.int IntKind.i64 x_Peer, TV.bytes (32 : Nat) x_For, TV.str x_Text]] h R) ▸ H)


end Go.Proofs.Ytjadpjbiiidioaa

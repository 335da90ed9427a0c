/- Texts that the proof needs, joined: VsSealC, SealC, SealD, VsSealE, SealE, VsSealOwn, SealF, RefE, RefF, VsSealSums, SealG, VsSealI, SealI, VsSealJ, SealJ. -/
import Derived.Test.YtgdhddignbkloaaPkC

section
/- The conditions of functions, as the generator reckons them out, each with the proof that it is that. -/
namespace Go.Proofs.Ytgdhddignbkloaa
open Go Go.Vc
set_option maxRecDepth 100000
set_option linter.unusedVariables false

def seal_Tag_vc (c_Validators : Sl) (c_Epoch : Int) (c_Committee : Int) (c_Nodes : Int) (c_Orphans : Int) (c_Early : Int) (c_Quota : Int) (c_Peers : Int) (c_Bytes : Int) (c_Window : Int) (c_Ban : Int) (c_Decay : Int) (m_Kind : Int) (m_Slot : Int) (m_Target : Bs (32 : Nat)) (m_Member : Int) (m_Body : Int) (m_Bits : Sl) (m_Tag : Bs (16 : Nat)) (h : Heap) (R : Value → Heap → Prop) : Prop :=
 Vc.Bind
 (newTV h
 (TV.agg
 [TV.slice c_Validators, TV.int IntKind.i64 c_Epoch, TV.int IntKind.i64 c_Committee, TV.int IntKind.i64 c_Nodes, TV.int IntKind.i64 c_Orphans,
 TV.int IntKind.i64 c_Early, TV.int IntKind.i64 c_Quota, TV.int IntKind.i64 c_Peers, TV.int IntKind.i64 c_Bytes, TV.int IntKind.i64 c_Window,
 TV.int IntKind.i64 c_Ban, TV.int IntKind.i64 c_Decay])
 (24 : Nat))
 fun (h_1 : Array Obj) ↦
 Vc.Bind
 (newTV h_1
 (TV.agg
 [TV.int IntKind.i64 m_Kind, TV.int IntKind.i64 m_Slot, TV.bytes (32 : Nat) m_Target, TV.int IntKind.i64 m_Member, TV.int IntKind.u64 m_Body,
 TV.slice m_Bits, TV.bytes (16 : Nat) m_Tag])
 (32 : Nat))
 fun (h_2 : Array Obj) ↦
 Vc.Bind (newTV h_2 (TV.bytes (16 : Nat) (Bs.zero (16 : Nat))) (30 : Nat)) fun (h_3 : Array Obj) ↦
 ∃ (s : Sl),
 ∃ (n : Int),
 ∃ (n_1 : Int),
 ∃ (n_2 : Int),
 ∃ (n_3 : Int),
 ∃ (n_4 : Int),
 ∃ (n_5 : Int),
 ∃ (n_6 : Int),
 ∃ (n_7 : Int),
 ∃ (n_8 : Int),
 ∃ (n_9 : Int),
 ∃ (n_10 : Int),
 (at1 h_3 (Array.size h) (0 : Nat) (slVal s) ∧
 at1 h_3 (Array.size h) (1 : Nat) (Value.int IntKind.i64 n) ∧
 at1 h_3 (Array.size h) (2 : Nat) (Value.int IntKind.i64 n_1) ∧
 at1 h_3 (Array.size h) (3 : Nat) (Value.int IntKind.i64 n_2) ∧
 at1 h_3 (Array.size h) (4 : Nat) (Value.int IntKind.i64 n_3) ∧
 at1 h_3 (Array.size h) (5 : Nat) (Value.int IntKind.i64 n_4) ∧
 at1 h_3 (Array.size h) (6 : Nat) (Value.int IntKind.i64 n_5) ∧
 at1 h_3 (Array.size h) (7 : Nat) (Value.int IntKind.i64 n_6) ∧
 at1 h_3 (Array.size h) (8 : Nat) (Value.int IntKind.i64 n_7) ∧
 at1 h_3 (Array.size h) (9 : Nat) (Value.int IntKind.i64 n_8) ∧
 at1 h_3 (Array.size h) (10 : Nat) (Value.int IntKind.i64 n_9) ∧
 at1 h_3 (Array.size h) (11 : Nat) (Value.int IntKind.i64 n_10)) ∧
 ∃ (n_11 : Int),
 ∃ (n_12 : Int),
 ∃ (b : Bs (32 : Nat)),
 ∃ (n_13 : Int),
 ∃ (n_14 : Int),
 ∃ (s_1 : Sl),
 ∃ (b_1 : Bs (16 : Nat)),
 (at1 h_3 (Array.size h_1) (0 : Nat) (Value.int IntKind.i64 n_11) ∧
 at1 h_3 (Array.size h_1) (1 : Nat) (Value.int IntKind.i64 n_12) ∧
 atBytes h_3 (Array.size h_1) (2 : Nat) (32 : Nat) b ∧
 at1 h_3 (Array.size h_1) (34 : Nat) (Value.int IntKind.i64 n_13) ∧
 at1 h_3 (Array.size h_1) (35 : Nat) (Value.int IntKind.u64 n_14) ∧
 at1 h_3 (Array.size h_1) (36 : Nat) (slVal s_1) ∧
 atBytes h_3 (Array.size h_1) (37 : Nat) (16 : Nat) b_1) ∧
 CallsH Try.prog (14 : Nat)
 (TVs.vals
 [TV.agg
 [TV.slice s, TV.int IntKind.i64 n, TV.int IntKind.i64 n_1, TV.int IntKind.i64 n_2,
 TV.int IntKind.i64 n_3, TV.int IntKind.i64 n_4, TV.int IntKind.i64 n_5, TV.int IntKind.i64 n_6,
 TV.int IntKind.i64 n_7, TV.int IntKind.i64 n_8, TV.int IntKind.i64 n_9, TV.int IntKind.i64 n_10],
 TV.agg
 [TV.int IntKind.i64 n_11, TV.int IntKind.i64 n_12, TV.bytes (32 : Nat) b, TV.int IntKind.i64 n_13,
 TV.int IntKind.u64 n_14, TV.slice s_1, TV.bytes (16 : Nat) b_1]])
 h_3 fun (v : Value) (h_4 : Array Obj) ↦
 ∃ (s : Sl),
 ∃ (b : Bool),
 v = TV.val (TV.tup [TV.slice s, TV.bool b]) ∧
 If (!b)
 (wok h_4 (Array.size h_2) (0 : Nat) (16 : Nat) ∧
 Vc.Bind (TV.put h_4 (Array.size h_2) (0 : Nat) (TV.bytes (16 : Nat) (Bs.zero (16 : Nat))))
 fun (h : Array Obj) ↦
 ∃ (b : Bs (16 : Nat)),
 atBytes h (Array.size h_2) (0 : Nat) (16 : Nat) b ∧
 R (TV.val (TV.tup [TV.bytes (16 : Nat) b, TV.bool false])) h)
 (Go.Vc.Loop (Sl.mk none (0 : Nat) (0 : Nat), (0 : Int)) h_4
 fun (s_2 : Sl × Int) (h_5 : Array Obj) (K : Sl × Int → Array Obj → Prop) ↦
 If (decide (s_2.snd < (↑s.len : Int)))
 ((0 : Int) ≤ s_2.snd ∧
 s_2.snd < (↑s.len : Int) ∧
 Nn s.a fun (l : Go.Vc.Loc) ↦
 ∃ (n : Int),
 at1 h_5 l.b (l.o + Int.toNat s_2.snd * (1 : Nat)) (Value.int IntKind.i64 n) ∧
 ∃ (s : Sl),
 at1 h_5 (Array.size h) (0 : Nat) (slVal s) ∧
 (0 : Int) ≤ n ∧
 n < (↑s.len : Int) ∧
 Nn s.a fun (l : Go.Vc.Loc) ↦
 ∃ (s : List UInt8),
 at1 h_5 l.b (l.o + Int.toNat n * (2 : Nat) + (1 : Nat))
 (Value.string (ByteArray.mk (List.toArray s))) ∧
 ∃ (n_15 : Int),
 ∃ (n_16 : Int),
 ∃ (b : Bs (32 : Nat)),
 ∃ (n_17 : Int),
 ∃ (n_18 : Int),
 ∃ (s_3 : Sl),
 ∃ (b_2 : Bs (16 : Nat)),
 (at1 h_5 (Array.size h_1) (0 : Nat)
 (Value.int IntKind.i64 n_15) ∧
 at1 h_5 (Array.size h_1) (1 : Nat)
 (Value.int IntKind.i64 n_16) ∧
 atBytes h_5 (Array.size h_1) (2 : Nat) (32 : Nat) b ∧
 at1 h_5 (Array.size h_1) (34 : Nat)
 (Value.int IntKind.i64 n_17) ∧
 at1 h_5 (Array.size h_1) (35 : Nat)
 (Value.int IntKind.u64 n_18) ∧
 at1 h_5 (Array.size h_1) (36 : Nat)
 (slVal s_3) ∧
 atBytes h_5 (Array.size h_1) (37 : Nat)
 (16 : Nat) b_2) ∧
 CallsH Try.prog (29 : Nat)
 (TVs.vals
 [TV.agg
 [TV.int IntKind.i64 n_15, TV.int IntKind.i64 n_16,
 TV.bytes (32 : Nat) b, TV.int IntKind.i64 n_17,
 TV.int IntKind.u64 n_18, TV.slice s_3,
 TV.bytes (16 : Nat) b_2],
 TV.int IntKind.i64 n])
 h_5 fun (v : Value) (h : Array Obj) ↦
 ∃ (n : Int),
 ∃ (n_19 : Int),
 ∃ (b : Bs (32 : Nat)),
 ∃ (n_20 : Int),
 ∃ (n_21 : Int),
 ∃ (s_4 : Sl),
 ∃ (b_3 : Bs (16 : Nat)),
 v =
 TV.val
 (TV.agg
 [TV.int IntKind.i64 n,
 TV.int IntKind.i64 n_19,
 TV.bytes (32 : Nat) b,
 TV.int IntKind.i64 n_20,
 TV.int IntKind.u64 n_21,
 TV.slice s_4,
 TV.bytes (16 : Nat) b_3]) ∧
 Ext h_5 h ∧
 CallsH Try.prog (28 : Nat)
 (TVs.vals
 [TV.agg
 [TV.int IntKind.i64 n,
 TV.int IntKind.i64 n_19,
 TV.bytes (32 : Nat) b,
 TV.int IntKind.i64 n_20,
 TV.int IntKind.u64 n_21,
 TV.slice s_4,
 TV.bytes (16 : Nat) b_3]])
 h
 fun (v : Value) (h_6 : Array Obj) ↦
 ∃ (s_5 : List UInt8),
 v = TV.val (TV.str s_5) ∧
 Ext h h_6 ∧
 Ext h_6
 (Array.push h_6
 (row
 (TVs.cells
 [TV.str s_5])
 (9 : Nat))) ∧
 CallsH Try.prog (27 : Nat)
 (TVs.vals
 [TV.str s,
 TV.slice
 (Sl.mk
 (some
 (Loc.mk
 (Array.size
 h_6)
 (0 : Nat)))
 (1 : Nat)
 (1 : Nat))])
 (Array.push h_6
 (row
 (TVs.cells
 [TV.str s_5])
 (9 : Nat)))
 fun (v : Value)
 (h : Array Obj) ↦
 ∃ (b : Bs (16 : Nat)),
 v =
 TV.val
 (TV.bytes
 (16 : Nat) b) ∧
 ∃ (new : List Value),
 slAt
 (Array.push h
 (row
 (TVs.cells
 [TV.bytes
 (16 :
 Nat)
 b])
 (30 : Nat)))
 (Sl.mk
 (some
 (Loc.mk
 (Array.size
 h)
 (0 :
 Nat)))
 (1 : Nat)
 (1 : Nat))
 (16 : Nat) new ∧
 (∀ (v : Value),
 v ∈ new →
 isOne v =
 true) ∧
 vcAppend
 Ytgdhddignbkloaa.ctx
 (30 : Nat)
 s_2.fst
 (1 : Nat) new
 (Array.push h
 (row
 (TVs.cells
 [TV.bytes
 (16 :
 Nat)
 b])
 (30 :
 Nat)))
 fun (s : Sl)
 (h :
 Array
 Obj) ↦
 K
 (s,
 IntKind.wrap
 IntKind.i64
 (s_2.snd +
 (1 :
 Int)))
 h)
 (CallsH Try.prog (13 : Nat) (TVs.vals [TV.slice s_2.fst]) h_5 fun (v : Value) (h : Array Obj) ↦
 ∃ (b : Bs (16 : Nat)),
 v = TV.val (TV.bytes (16 : Nat) b) ∧
 wok h (Array.size h_2) (0 : Nat) (16 : Nat) ∧
 Vc.Bind (TV.put h (Array.size h_2) (0 : Nat) (TV.bytes (16 : Nat) b))
 fun (h : Array Obj) ↦
 ∃ (b : Bs (16 : Nat)),
 atBytes h (Array.size h_2) (0 : Nat) (16 : Nat) b ∧
 R (TV.val (TV.tup [TV.bytes (16 : Nat) b, TV.bool true])) h))

theorem seal_Tag_calls (c_Validators : Sl) (c_Epoch : Int) (c_Committee : Int) (c_Nodes : Int) (c_Orphans : Int) (c_Early : Int) (c_Quota : Int) (c_Peers : Int) (c_Bytes : Int) (c_Window : Int) (c_Ban : Int) (c_Decay : Int) (m_Kind : Int) (m_Slot : Int) (m_Target : Bs (32 : Nat)) (m_Member : Int) (m_Body : Int) (m_Bits : Sl) (m_Tag : Bs (16 : Nat)) (h : Heap) (R : Value → Heap → Prop) (H : seal_Tag_vc c_Validators c_Epoch c_Committee c_Nodes c_Orphans c_Early c_Quota c_Peers c_Bytes c_Window c_Ban c_Decay m_Kind m_Slot m_Target m_Member m_Body m_Bits m_Tag h R) : CallsH Try.prog 11 (TVs.vals [TV.agg [TV.slice c_Validators, TV.int IntKind.i64 c_Epoch, TV.int IntKind.i64 c_Committee, TV.int IntKind.i64 c_Nodes, TV.int IntKind.i64 c_Orphans, TV.int IntKind.i64 c_Early, TV.int IntKind.i64 c_Quota, TV.int IntKind.i64 c_Peers, TV.int IntKind.i64 c_Bytes, TV.int IntKind.i64 c_Window, TV.int IntKind.i64 c_Ban, TV.int IntKind.i64 c_Decay], TV.agg [TV.int IntKind.i64 m_Kind, TV.int IntKind.i64 m_Slot, TV.bytes (32 : Nat) m_Target, TV.int IntKind.i64 m_Member, TV.int IntKind.u64 m_Body, TV.slice m_Bits, TV.bytes (16 : Nat) m_Tag]]) h R :=
 vcFn_sound (C := ctx) ctx_ok (fn := Try.f11) Try.func11 ((by kernel_rfl : seal_Tag_vc c_Validators c_Epoch c_Committee c_Nodes c_Orphans c_Early c_Quota c_Peers c_Bytes c_Window c_Ban c_Decay m_Kind m_Slot m_Target m_Member m_Body m_Bits m_Tag h R = vcFn ctx Try.f11 [TV.agg [TV.slice c_Validators, TV.int IntKind.i64 c_Epoch, TV.int IntKind.i64 c_Committee, TV.int IntKind.i64 c_Nodes, TV.int IntKind.i64 c_Orphans, TV.int IntKind.i64 c_Early, TV.int IntKind.i64 c_Quota, TV.int IntKind.i64 c_Peers, TV.int IntKind.i64 c_Bytes, TV.int IntKind.i64 c_Window, TV.int IntKind.i64 c_Ban, TV.int IntKind.i64 c_Decay], TV.agg [TV.int IntKind.i64 m_Kind, TV.int IntKind.i64 m_Slot, TV.bytes (32 : Nat) m_Target, TV.int IntKind.i64 m_Member, TV.int IntKind.u64 m_Body, TV.slice m_Bits, TV.bytes (16 : Nat) m_Tag]] h R) ▸ H)


def seal_Votes_vc (c_Validators : Sl) (c_Epoch : Int) (c_Committee : Int) (c_Nodes : Int) (c_Orphans : Int) (c_Early : Int) (c_Quota : Int) (c_Peers : Int) (c_Bytes : Int) (c_Window : Int) (c_Ban : Int) (c_Decay : Int) (m_Kind : Int) (m_Slot : Int) (m_Target : Bs (32 : Nat)) (m_Member : Int) (m_Body : Int) (m_Bits : Sl) (m_Tag : Bs (16 : Nat)) (h : Heap) (R : Value → Heap → Prop) : Prop :=
 Vc.Bind
 (newTV h
 (TV.agg
 [TV.slice c_Validators, TV.int IntKind.i64 c_Epoch, TV.int IntKind.i64 c_Committee, TV.int IntKind.i64 c_Nodes, TV.int IntKind.i64 c_Orphans,
 TV.int IntKind.i64 c_Early, TV.int IntKind.i64 c_Quota, TV.int IntKind.i64 c_Peers, TV.int IntKind.i64 c_Bytes, TV.int IntKind.i64 c_Window,
 TV.int IntKind.i64 c_Ban, TV.int IntKind.i64 c_Decay])
 (24 : Nat))
 fun (h_1 : Array Obj) ↦
 Vc.Bind
 (newTV h_1
 (TV.agg
 [TV.int IntKind.i64 m_Kind, TV.int IntKind.i64 m_Slot, TV.bytes (32 : Nat) m_Target, TV.int IntKind.i64 m_Member, TV.int IntKind.u64 m_Body,
 TV.slice m_Bits, TV.bytes (16 : Nat) m_Tag])
 (32 : Nat))
 fun (h_2 : Array Obj) ↦
 ∃ (s : Sl),
 ∃ (n : Int),
 ∃ (n_1 : Int),
 ∃ (n_2 : Int),
 ∃ (n_3 : Int),
 ∃ (n_4 : Int),
 ∃ (n_5 : Int),
 ∃ (n_6 : Int),
 ∃ (n_7 : Int),
 ∃ (n_8 : Int),
 ∃ (n_9 : Int),
 ∃ (n_10 : Int),
 (at1 h_2 (Array.size h) (0 : Nat) (slVal s) ∧
 at1 h_2 (Array.size h) (1 : Nat) (Value.int IntKind.i64 n) ∧
 at1 h_2 (Array.size h) (2 : Nat) (Value.int IntKind.i64 n_1) ∧
 at1 h_2 (Array.size h) (3 : Nat) (Value.int IntKind.i64 n_2) ∧
 at1 h_2 (Array.size h) (4 : Nat) (Value.int IntKind.i64 n_3) ∧
 at1 h_2 (Array.size h) (5 : Nat) (Value.int IntKind.i64 n_4) ∧
 at1 h_2 (Array.size h) (6 : Nat) (Value.int IntKind.i64 n_5) ∧
 at1 h_2 (Array.size h) (7 : Nat) (Value.int IntKind.i64 n_6) ∧
 at1 h_2 (Array.size h) (8 : Nat) (Value.int IntKind.i64 n_7) ∧
 at1 h_2 (Array.size h) (9 : Nat) (Value.int IntKind.i64 n_8) ∧
 at1 h_2 (Array.size h) (10 : Nat) (Value.int IntKind.i64 n_9) ∧
 at1 h_2 (Array.size h) (11 : Nat) (Value.int IntKind.i64 n_10)) ∧
 ∃ (n_11 : Int),
 ∃ (n_12 : Int),
 ∃ (b : Bs (32 : Nat)),
 ∃ (n_13 : Int),
 ∃ (n_14 : Int),
 ∃ (s_1 : Sl),
 ∃ (b_1 : Bs (16 : Nat)),
 (at1 h_2 (Array.size h_1) (0 : Nat) (Value.int IntKind.i64 n_11) ∧
 at1 h_2 (Array.size h_1) (1 : Nat) (Value.int IntKind.i64 n_12) ∧
 atBytes h_2 (Array.size h_1) (2 : Nat) (32 : Nat) b ∧
 at1 h_2 (Array.size h_1) (34 : Nat) (Value.int IntKind.i64 n_13) ∧
 at1 h_2 (Array.size h_1) (35 : Nat) (Value.int IntKind.u64 n_14) ∧
 at1 h_2 (Array.size h_1) (36 : Nat) (slVal s_1) ∧
 atBytes h_2 (Array.size h_1) (37 : Nat) (16 : Nat) b_1) ∧
 CallsH Try.prog (14 : Nat)
 (TVs.vals
 [TV.agg
 [TV.slice s, TV.int IntKind.i64 n, TV.int IntKind.i64 n_1, TV.int IntKind.i64 n_2, TV.int IntKind.i64 n_3,
 TV.int IntKind.i64 n_4, TV.int IntKind.i64 n_5, TV.int IntKind.i64 n_6, TV.int IntKind.i64 n_7,
 TV.int IntKind.i64 n_8, TV.int IntKind.i64 n_9, TV.int IntKind.i64 n_10],
 TV.agg
 [TV.int IntKind.i64 n_11, TV.int IntKind.i64 n_12, TV.bytes (32 : Nat) b, TV.int IntKind.i64 n_13,
 TV.int IntKind.u64 n_14, TV.slice s_1, TV.bytes (16 : Nat) b_1]])
 h_2 fun (v : Value) (h : Array Obj) ↦
 ∃ (s : Sl),
 ∃ (b : Bool),
 v = TV.val (TV.tup [TV.slice s, TV.bool b]) ∧
 Join
 (fun (s_2 : Sl) (h : Array Obj) ↦
 Go.Vc.Loop (Sl.mk none (0 : Nat) (0 : Nat), (0 : Int)) h
 fun (s_3 : Sl × Int) (h : Array Obj) (K : Sl × Int → Array Obj → Prop) ↦
 If (decide (s_3.snd < (↑s.len : Int)))
 ((0 : Int) ≤ s_3.snd ∧
 s_3.snd < (↑s.len : Int) ∧
 Nn s.a fun (l : Go.Vc.Loc) ↦
 ∃ (n : Int),
 at1 h l.b (l.o + Int.toNat s_3.snd * (1 : Nat)) (Value.int IntKind.i64 n) ∧
 ∃ (n_15 : Int),
 at1 h (Array.size h_1) (1 : Nat) (Value.int IntKind.i64 n_15) ∧
 ∃ (b : Bs (32 : Nat)),
 atBytes h (Array.size h_1) (2 : Nat) (32 : Nat) b ∧
 ∃ (new : List Value),
 slAt
 (Array.push h
 (row
 (TVs.cells
 [TV.agg
 [TV.int IntKind.i64 n, TV.int IntKind.i64 n_15,
 TV.bytes (32 : Nat) b]])
 (41 : Nat)))
 (Sl.mk (some (Loc.mk (Array.size h) (0 : Nat))) (1 : Nat) (1 : Nat))
 (34 : Nat) new ∧
 (∀ (v : Value), v ∈ new → isOne v = true) ∧
 vcAppend Ytgdhddignbkloaa.ctx (41 : Nat) s_3.fst (1 : Nat) new
 (Array.push h
 (row
 (TVs.cells
 [TV.agg
 [TV.int IntKind.i64 n, TV.int IntKind.i64 n_15,
 TV.bytes (32 : Nat) b]])
 (41 : Nat)))
 fun (s : Sl) (h : Array Obj) ↦
 K (s, IntKind.wrap IntKind.i64 (s_3.snd + (1 : Int))) h)
 (R (TV.val (TV.slice s_3.fst)) h))
 fun (J : Sl → Array Obj → Prop) ↦
 If (!b) (R (TV.val (TV.slice Sl.nil)) h)
 (∃ (n : Int),
 at1 h (Array.size h_1) (0 : Nat) (Value.int IntKind.i64 n) ∧
 If (decide (n = (1 : Int))) (R (TV.val (TV.slice Sl.nil)) h)
 (J (Sl.mk none (0 : Nat) (0 : Nat)) h))

theorem seal_Votes_calls (c_Validators : Sl) (c_Epoch : Int) (c_Committee : Int) (c_Nodes : Int) (c_Orphans : Int) (c_Early : Int) (c_Quota : Int) (c_Peers : Int) (c_Bytes : Int) (c_Window : Int) (c_Ban : Int) (c_Decay : Int) (m_Kind : Int) (m_Slot : Int) (m_Target : Bs (32 : Nat)) (m_Member : Int) (m_Body : Int) (m_Bits : Sl) (m_Tag : Bs (16 : Nat)) (h : Heap) (R : Value → Heap → Prop) (H : seal_Votes_vc c_Validators c_Epoch c_Committee c_Nodes c_Orphans c_Early c_Quota c_Peers c_Bytes c_Window c_Ban c_Decay m_Kind m_Slot m_Target m_Member m_Body m_Bits m_Tag h R) : CallsH Try.prog 12 (TVs.vals [TV.agg [TV.slice c_Validators, TV.int IntKind.i64 c_Epoch, TV.int IntKind.i64 c_Committee, TV.int IntKind.i64 c_Nodes, TV.int IntKind.i64 c_Orphans, TV.int IntKind.i64 c_Early, TV.int IntKind.i64 c_Quota, TV.int IntKind.i64 c_Peers, TV.int IntKind.i64 c_Bytes, TV.int IntKind.i64 c_Window, TV.int IntKind.i64 c_Ban, TV.int IntKind.i64 c_Decay], TV.agg [TV.int IntKind.i64 m_Kind, TV.int IntKind.i64 m_Slot, TV.bytes (32 : Nat) m_Target, TV.int IntKind.i64 m_Member, TV.int IntKind.u64 m_Body, TV.slice m_Bits, TV.bytes (16 : Nat) m_Tag]]) h R :=
 vcFn_sound (C := ctx) ctx_ok (fn := Try.f12) Try.func12 ((by kernel_rfl : seal_Votes_vc c_Validators c_Epoch c_Committee c_Nodes c_Orphans c_Early c_Quota c_Peers c_Bytes c_Window c_Ban c_Decay m_Kind m_Slot m_Target m_Member m_Body m_Bits m_Tag h R = vcFn ctx Try.f12 [TV.agg [TV.slice c_Validators, TV.int IntKind.i64 c_Epoch, TV.int IntKind.i64 c_Committee, TV.int IntKind.i64 c_Nodes, TV.int IntKind.i64 c_Orphans, TV.int IntKind.i64 c_Early, TV.int IntKind.i64 c_Quota, TV.int IntKind.i64 c_Peers, TV.int IntKind.i64 c_Bytes, TV.int IntKind.i64 c_Window, TV.int IntKind.i64 c_Ban, TV.int IntKind.i64 c_Decay], TV.agg [TV.int IntKind.i64 m_Kind, TV.int IntKind.i64 m_Slot, TV.bytes (32 : Nat) m_Target, TV.int IntKind.i64 m_Member, TV.int IntKind.u64 m_Body, TV.slice m_Bits, TV.bytes (16 : Nat) m_Tag]] h R) ▸ H)


def seal_Speakers_vc (c_Validators : Sl) (c_Epoch : Int) (c_Committee : Int) (c_Nodes : Int) (c_Orphans : Int) (c_Early : Int) (c_Quota : Int) (c_Peers : Int) (c_Bytes : Int) (c_Window : Int) (c_Ban : Int) (c_Decay : Int) (m_Kind : Int) (m_Slot : Int) (m_Target : Bs (32 : Nat)) (m_Member : Int) (m_Body : Int) (m_Bits : Sl) (m_Tag : Bs (16 : Nat)) (h : Heap) (R : Value → Heap → Prop) : Prop :=
 Vc.Bind
 (newTV h
 (TV.agg
 [TV.slice c_Validators, TV.int IntKind.i64 c_Epoch, TV.int IntKind.i64 c_Committee, TV.int IntKind.i64 c_Nodes, TV.int IntKind.i64 c_Orphans,
 TV.int IntKind.i64 c_Early, TV.int IntKind.i64 c_Quota, TV.int IntKind.i64 c_Peers, TV.int IntKind.i64 c_Bytes, TV.int IntKind.i64 c_Window,
 TV.int IntKind.i64 c_Ban, TV.int IntKind.i64 c_Decay])
 (24 : Nat))
 fun (h_1 : Array Obj) ↦
 Vc.Bind
 (newTV h_1
 (TV.agg
 [TV.int IntKind.i64 m_Kind, TV.int IntKind.i64 m_Slot, TV.bytes (32 : Nat) m_Target, TV.int IntKind.i64 m_Member, TV.int IntKind.u64 m_Body,
 TV.slice m_Bits, TV.bytes (16 : Nat) m_Tag])
 (32 : Nat))
 fun (h_2 : Array Obj) ↦
 ∃ (n : Int),
 ∃ (n_1 : Int),
 ∃ (b : Bs (32 : Nat)),
 ∃ (n_2 : Int),
 ∃ (n_3 : Int),
 ∃ (s : Sl),
 ∃ (b_1 : Bs (16 : Nat)),
 (at1 h_2 (Array.size h_1) (0 : Nat) (Value.int IntKind.i64 n) ∧
 at1 h_2 (Array.size h_1) (1 : Nat) (Value.int IntKind.i64 n_1) ∧
 atBytes h_2 (Array.size h_1) (2 : Nat) (32 : Nat) b ∧
 at1 h_2 (Array.size h_1) (34 : Nat) (Value.int IntKind.i64 n_2) ∧
 at1 h_2 (Array.size h_1) (35 : Nat) (Value.int IntKind.u64 n_3) ∧
 at1 h_2 (Array.size h_1) (36 : Nat) (slVal s) ∧ atBytes h_2 (Array.size h_1) (37 : Nat) (16 : Nat) b_1) ∧
 CallsH Try.prog (30 : Nat)
 (TVs.vals
 [TV.agg
 [TV.int IntKind.i64 n, TV.int IntKind.i64 n_1, TV.bytes (32 : Nat) b, TV.int IntKind.i64 n_2, TV.int IntKind.u64 n_3, TV.slice s,
 TV.bytes (16 : Nat) b_1]])
 h_2 fun (v : Value) (h_3 : Array Obj) ↦
 ∃ (b : Bool),
 v = TV.val (TV.bool b) ∧
 If (!b) (R (TV.val (TV.tup [TV.slice Sl.nil, TV.bool false])) h_3)
 (∃ (n : Int),
 at1 h_3 (Array.size h_1) (0 : Nat) (Value.int IntKind.i64 n) ∧
 If (decide (n = (3 : Int)))
 (∃ (s : Sl),
 ∃ (n : Int),
 ∃ (n_4 : Int),
 ∃ (n_5 : Int),
 ∃ (n_6 : Int),
 ∃ (n_7 : Int),
 ∃ (n_8 : Int),
 ∃ (n_9 : Int),
 ∃ (n_10 : Int),
 ∃ (n_11 : Int),
 ∃ (n_12 : Int),
 ∃ (n_13 : Int),
 (at1 h_3 (Array.size h) (0 : Nat) (slVal s) ∧
 at1 h_3 (Array.size h) (1 : Nat) (Value.int IntKind.i64 n) ∧
 at1 h_3 (Array.size h) (2 : Nat) (Value.int IntKind.i64 n_4) ∧
 at1 h_3 (Array.size h) (3 : Nat) (Value.int IntKind.i64 n_5) ∧
 at1 h_3 (Array.size h) (4 : Nat) (Value.int IntKind.i64 n_6) ∧
 at1 h_3 (Array.size h) (5 : Nat) (Value.int IntKind.i64 n_7) ∧
 at1 h_3 (Array.size h) (6 : Nat) (Value.int IntKind.i64 n_8) ∧
 at1 h_3 (Array.size h) (7 : Nat) (Value.int IntKind.i64 n_9) ∧
 at1 h_3 (Array.size h) (8 : Nat) (Value.int IntKind.i64 n_10) ∧
 at1 h_3 (Array.size h) (9 : Nat) (Value.int IntKind.i64 n_11) ∧
 at1 h_3 (Array.size h) (10 : Nat) (Value.int IntKind.i64 n_12) ∧
 at1 h_3 (Array.size h) (11 : Nat) (Value.int IntKind.i64 n_13)) ∧
 ∃ (n_14 : Int),
 at1 h_3 (Array.size h_1) (1 : Nat) (Value.int IntKind.i64 n_14) ∧
 ∃ (s_1 : Sl),
 at1 h_3 (Array.size h_1) (36 : Nat) (slVal s_1) ∧
 CallsH Try.prog (31 : Nat)
 (TVs.vals
 [TV.agg
 [TV.slice s, TV.int IntKind.i64 n, TV.int IntKind.i64 n_4, TV.int IntKind.i64 n_5,
 TV.int IntKind.i64 n_6, TV.int IntKind.i64 n_7, TV.int IntKind.i64 n_8,
 TV.int IntKind.i64 n_9, TV.int IntKind.i64 n_10, TV.int IntKind.i64 n_11,
 TV.int IntKind.i64 n_12, TV.int IntKind.i64 n_13],
 TV.int IntKind.i64 n_14, TV.slice s_1])
 h_3 fun (v : Value) (h : Array Obj) ↦
 ∃ (s : Sl),
 ∃ (b : Bool),
 v = TV.val (TV.tup [TV.slice s, TV.bool b]) ∧
 R (TV.val (TV.tup [TV.slice s, TV.bool b])) h)
 (∃ (n : Int),
 at1 h_3 (Array.size h_1) (0 : Nat) (Value.int IntKind.i64 n) ∧
 If (decide (n = (1 : Int)))
 (∃ (s : Sl),
 ∃ (n : Int),
 ∃ (n_4 : Int),
 ∃ (n_5 : Int),
 ∃ (n_6 : Int),
 ∃ (n_7 : Int),
 ∃ (n_8 : Int),
 ∃ (n_9 : Int),
 ∃ (n_10 : Int),
 ∃ (n_11 : Int),
 ∃ (n_12 : Int),
 ∃ (n_13 : Int),
 (at1 h_3 (Array.size h) (0 : Nat) (slVal s) ∧
 at1 h_3 (Array.size h) (1 : Nat) (Value.int IntKind.i64 n) ∧
 at1 h_3 (Array.size h) (2 : Nat) (Value.int IntKind.i64 n_4) ∧
 at1 h_3 (Array.size h) (3 : Nat) (Value.int IntKind.i64 n_5) ∧
 at1 h_3 (Array.size h) (4 : Nat) (Value.int IntKind.i64 n_6) ∧
 at1 h_3 (Array.size h) (5 : Nat) (Value.int IntKind.i64 n_7) ∧
 at1 h_3 (Array.size h) (6 : Nat) (Value.int IntKind.i64 n_8) ∧
 at1 h_3 (Array.size h) (7 : Nat) (Value.int IntKind.i64 n_9) ∧
 at1 h_3 (Array.size h) (8 : Nat) (Value.int IntKind.i64 n_10) ∧
 at1 h_3 (Array.size h) (9 : Nat) (Value.int IntKind.i64 n_11) ∧
 at1 h_3 (Array.size h) (10 : Nat) (Value.int IntKind.i64 n_12) ∧
 at1 h_3 (Array.size h) (11 : Nat) (Value.int IntKind.i64 n_13)) ∧
 ∃ (n_14 : Int),
 at1 h_3 (Array.size h_1) (1 : Nat) (Value.int IntKind.i64 n_14) ∧
 ∃ (n_15 : Int),
 at1 h_3 (Array.size h_1) (34 : Nat) (Value.int IntKind.i64 n_15) ∧
 CallsH Try.prog (32 : Nat)
 (TVs.vals
 [TV.agg
 [TV.slice s, TV.int IntKind.i64 n, TV.int IntKind.i64 n_4,
 TV.int IntKind.i64 n_5, TV.int IntKind.i64 n_6, TV.int IntKind.i64 n_7,
 TV.int IntKind.i64 n_8, TV.int IntKind.i64 n_9, TV.int IntKind.i64 n_10,
 TV.int IntKind.i64 n_11, TV.int IntKind.i64 n_12, TV.int IntKind.i64 n_13],
 TV.int IntKind.i64 n_14])
 h_3 fun (v : Value) (h_4 : Array Obj) ↦
 ∃ (n : Int),
 v = TV.val (TV.int IntKind.i64 n) ∧
 Ext h_3 h_4 ∧
 If (!decide (n = n_15))
 (If (!decide (n = n_15))
 (R (TV.val (TV.tup [TV.slice Sl.nil, TV.bool false])) h_4)
 (∃ (n : Int),
 at1 h_4 (Array.size h_1) (34 : Nat) (Value.int IntKind.i64 n) ∧
 R
 (TV.val
 (TV.tup
 [TV.slice
 (Sl.mk (some (Loc.mk (Array.size h_4) (0 : Nat))) (1 : Nat)
 (1 : Nat)),
 TV.bool true]))
 (Array.push h_4
 (row (TVs.cells [TV.int IntKind.i64 n]) (3 : Nat)))))
 (∃ (s : Sl),
 ∃ (n : Int),
 ∃ (n_16 : Int),
 ∃ (n_17 : Int),
 ∃ (n_18 : Int),
 ∃ (n_19 : Int),
 ∃ (n_20 : Int),
 ∃ (n_21 : Int),
 ∃ (n_22 : Int),
 ∃ (n_23 : Int),
 ∃ (n_24 : Int),
 ∃ (n_25 : Int),
 (at1 h_4 (Array.size h) (0 : Nat) (slVal s) ∧
 at1 h_4 (Array.size h) (1 : Nat)
 (Value.int IntKind.i64 n) ∧
 at1 h_4 (Array.size h) (2 : Nat)
 (Value.int IntKind.i64 n_16) ∧
 at1 h_4 (Array.size h) (3 : Nat)
 (Value.int IntKind.i64 n_17) ∧
 at1 h_4 (Array.size h) (4 : Nat)
 (Value.int IntKind.i64 n_18) ∧
 at1 h_4 (Array.size h) (5 : Nat)
 (Value.int IntKind.i64 n_19) ∧
 at1 h_4 (Array.size h) (6 : Nat)
 (Value.int IntKind.i64 n_20) ∧
 at1 h_4 (Array.size h) (7 : Nat)
 (Value.int IntKind.i64 n_21) ∧
 at1 h_4 (Array.size h) (8 : Nat)
 (Value.int IntKind.i64 n_22) ∧
 at1 h_4 (Array.size h) (9 : Nat)
 (Value.int IntKind.i64
 n_23) ∧
 at1 h_4 (Array.size h)
 (10 : Nat)
 (Value.int IntKind.i64
 n_24) ∧
 at1 h_4 (Array.size h)
 (11 : Nat)
 (Value.int IntKind.i64
 n_25)) ∧
 ∃ (n_26 : Int),
 at1 h_4 (Array.size h_1) (1 : Nat)
 (Value.int IntKind.i64 n_26) ∧
 ∃ (n_27 : Int),
 at1 h_4 (Array.size h_1) (34 : Nat)
 (Value.int IntKind.i64 n_27) ∧
 CallsH Try.prog (33 : Nat)
 (TVs.vals
 [TV.agg
 [TV.slice s, TV.int IntKind.i64 n,
 TV.int IntKind.i64 n_16,
 TV.int IntKind.i64 n_17,
 TV.int IntKind.i64 n_18,
 TV.int IntKind.i64 n_19,
 TV.int IntKind.i64 n_20,
 TV.int IntKind.i64 n_21,
 TV.int IntKind.i64 n_22,
 TV.int IntKind.i64 n_23,
 TV.int IntKind.i64 n_24,
 TV.int IntKind.i64 n_25],
 TV.int IntKind.i64 n_26,
 TV.int IntKind.i64 n_27])
 h_4 fun (v : Value) (h : Array Obj) ↦
 ∃ (n : Int),
 v = TV.val (TV.int IntKind.i64 n) ∧
 If (decide (n < (0 : Int)))
 (R
 (TV.val
 (TV.tup
 [TV.slice Sl.nil,
 TV.bool false]))
 h)
 (∃ (n : Int),
 at1 h (Array.size h_1)
 (34 : Nat)
 (Value.int IntKind.i64 n) ∧
 R
 (TV.val
 (TV.tup
 [TV.slice
 (Sl.mk
 (some
 (Loc.mk
 (Array.size h)
 (0 : Nat)))
 (1 : Nat)
 (1 : Nat)),
 TV.bool true]))
 (Array.push h
 (row
 (TVs.cells
 [TV.int IntKind.i64
 n])
 (3 : Nat))))))
 (∃ (s : Sl),
 ∃ (n : Int),
 ∃ (n_4 : Int),
 ∃ (n_5 : Int),
 ∃ (n_6 : Int),
 ∃ (n_7 : Int),
 ∃ (n_8 : Int),
 ∃ (n_9 : Int),
 ∃ (n_10 : Int),
 ∃ (n_11 : Int),
 ∃ (n_12 : Int),
 ∃ (n_13 : Int),
 (at1 h_3 (Array.size h) (0 : Nat) (slVal s) ∧
 at1 h_3 (Array.size h) (1 : Nat) (Value.int IntKind.i64 n) ∧
 at1 h_3 (Array.size h) (2 : Nat) (Value.int IntKind.i64 n_4) ∧
 at1 h_3 (Array.size h) (3 : Nat) (Value.int IntKind.i64 n_5) ∧
 at1 h_3 (Array.size h) (4 : Nat) (Value.int IntKind.i64 n_6) ∧
 at1 h_3 (Array.size h) (5 : Nat) (Value.int IntKind.i64 n_7) ∧
 at1 h_3 (Array.size h) (6 : Nat) (Value.int IntKind.i64 n_8) ∧
 at1 h_3 (Array.size h) (7 : Nat) (Value.int IntKind.i64 n_9) ∧
 at1 h_3 (Array.size h) (8 : Nat) (Value.int IntKind.i64 n_10) ∧
 at1 h_3 (Array.size h) (9 : Nat) (Value.int IntKind.i64 n_11) ∧
 at1 h_3 (Array.size h) (10 : Nat) (Value.int IntKind.i64 n_12) ∧
 at1 h_3 (Array.size h) (11 : Nat) (Value.int IntKind.i64 n_13)) ∧
 ∃ (n_14 : Int),
 at1 h_3 (Array.size h_1) (1 : Nat) (Value.int IntKind.i64 n_14) ∧
 ∃ (n_15 : Int),
 at1 h_3 (Array.size h_1) (34 : Nat) (Value.int IntKind.i64 n_15) ∧
 CallsH Try.prog (33 : Nat)
 (TVs.vals
 [TV.agg
 [TV.slice s, TV.int IntKind.i64 n, TV.int IntKind.i64 n_4,
 TV.int IntKind.i64 n_5, TV.int IntKind.i64 n_6, TV.int IntKind.i64 n_7,
 TV.int IntKind.i64 n_8, TV.int IntKind.i64 n_9, TV.int IntKind.i64 n_10,
 TV.int IntKind.i64 n_11, TV.int IntKind.i64 n_12, TV.int IntKind.i64 n_13],
 TV.int IntKind.i64 n_14, TV.int IntKind.i64 n_15])
 h_3 fun (v : Value) (h : Array Obj) ↦
 ∃ (n : Int),
 v = TV.val (TV.int IntKind.i64 n) ∧
 If (decide (n < (0 : Int)))
 (R (TV.val (TV.tup [TV.slice Sl.nil, TV.bool false])) h)
 (∃ (n : Int),
 at1 h (Array.size h_1) (34 : Nat) (Value.int IntKind.i64 n) ∧
 R
 (TV.val
 (TV.tup
 [TV.slice
 (Sl.mk (some (Loc.mk (Array.size h) (0 : Nat))) (1 : Nat)
 (1 : Nat)),
 TV.bool true]))
 (Array.push h (row (TVs.cells [TV.int IntKind.i64 n]) (3 : Nat)))))))

theorem seal_Speakers_calls (c_Validators : Sl) (c_Epoch : Int) (c_Committee : Int) (c_Nodes : Int) (c_Orphans : Int) (c_Early : Int) (c_Quota : Int) (c_Peers : Int) (c_Bytes : Int) (c_Window : Int) (c_Ban : Int) (c_Decay : Int) (m_Kind : Int) (m_Slot : Int) (m_Target : Bs (32 : Nat)) (m_Member : Int) (m_Body : Int) (m_Bits : Sl) (m_Tag : Bs (16 : Nat)) (h : Heap) (R : Value → Heap → Prop) (H : seal_Speakers_vc c_Validators c_Epoch c_Committee c_Nodes c_Orphans c_Early c_Quota c_Peers c_Bytes c_Window c_Ban c_Decay m_Kind m_Slot m_Target m_Member m_Body m_Bits m_Tag h R) : CallsH Try.prog 14 (TVs.vals [TV.agg [TV.slice c_Validators, TV.int IntKind.i64 c_Epoch, TV.int IntKind.i64 c_Committee, TV.int IntKind.i64 c_Nodes, TV.int IntKind.i64 c_Orphans, TV.int IntKind.i64 c_Early, TV.int IntKind.i64 c_Quota, TV.int IntKind.i64 c_Peers, TV.int IntKind.i64 c_Bytes, TV.int IntKind.i64 c_Window, TV.int IntKind.i64 c_Ban, TV.int IntKind.i64 c_Decay], TV.agg [TV.int IntKind.i64 m_Kind, TV.int IntKind.i64 m_Slot, TV.bytes (32 : Nat) m_Target, TV.int IntKind.i64 m_Member, TV.int IntKind.u64 m_Body, TV.slice m_Bits, TV.bytes (16 : Nat) m_Tag]]) h R :=
 vcFn_sound (C := ctx) ctx_ok (fn := Try.f14) Try.func14 ((by kernel_rfl : seal_Speakers_vc c_Validators c_Epoch c_Committee c_Nodes c_Orphans c_Early c_Quota c_Peers c_Bytes c_Window c_Ban c_Decay m_Kind m_Slot m_Target m_Member m_Body m_Bits m_Tag h R = vcFn ctx Try.f14 [TV.agg [TV.slice c_Validators, TV.int IntKind.i64 c_Epoch, TV.int IntKind.i64 c_Committee, TV.int IntKind.i64 c_Nodes, TV.int IntKind.i64 c_Orphans, TV.int IntKind.i64 c_Early, TV.int IntKind.i64 c_Quota, TV.int IntKind.i64 c_Peers, TV.int IntKind.i64 c_Bytes, TV.int IntKind.i64 c_Window, TV.int IntKind.i64 c_Ban, TV.int IntKind.i64 c_Decay], TV.agg [TV.int IntKind.i64 m_Kind, TV.int IntKind.i64 m_Slot, TV.bytes (32 : Nat) m_Target, TV.int IntKind.i64 m_Member, TV.int IntKind.u64 m_Body, TV.slice m_Bits, TV.bytes (16 : Nat) m_Tag]] h R) ▸ H)


def seal_Check_vc (c_Validators : Sl) (c_Epoch : Int) (c_Committee : Int) (c_Nodes : Int) (c_Orphans : Int) (c_Early : Int) (c_Quota : Int) (c_Peers : Int) (c_Bytes : Int) (c_Window : Int) (c_Ban : Int) (c_Decay : Int) (m_Kind : Int) (m_Slot : Int) (m_Target : Bs (32 : Nat)) (m_Member : Int) (m_Body : Int) (m_Bits : Sl) (m_Tag : Bs (16 : Nat)) (h : Heap) (R : Value → Heap → Prop) : Prop :=
 Vc.Bind
 (newTV h
 (TV.agg
 [TV.slice c_Validators, TV.int IntKind.i64 c_Epoch, TV.int IntKind.i64 c_Committee, TV.int IntKind.i64 c_Nodes, TV.int IntKind.i64 c_Orphans,
 TV.int IntKind.i64 c_Early, TV.int IntKind.i64 c_Quota, TV.int IntKind.i64 c_Peers, TV.int IntKind.i64 c_Bytes, TV.int IntKind.i64 c_Window,
 TV.int IntKind.i64 c_Ban, TV.int IntKind.i64 c_Decay])
 (24 : Nat))
 fun (h_1 : Array Obj) ↦
 Vc.Bind
 (newTV h_1
 (TV.agg
 [TV.int IntKind.i64 m_Kind, TV.int IntKind.i64 m_Slot, TV.bytes (32 : Nat) m_Target, TV.int IntKind.i64 m_Member, TV.int IntKind.u64 m_Body,
 TV.slice m_Bits, TV.bytes (16 : Nat) m_Tag])
 (32 : Nat))
 fun (h_2 : Array Obj) ↦
 ∃ (s : Sl),
 ∃ (n : Int),
 ∃ (n_1 : Int),
 ∃ (n_2 : Int),
 ∃ (n_3 : Int),
 ∃ (n_4 : Int),
 ∃ (n_5 : Int),
 ∃ (n_6 : Int),
 ∃ (n_7 : Int),
 ∃ (n_8 : Int),
 ∃ (n_9 : Int),
 ∃ (n_10 : Int),
 (at1 h_2 (Array.size h) (0 : Nat) (slVal s) ∧
 at1 h_2 (Array.size h) (1 : Nat) (Value.int IntKind.i64 n) ∧
 at1 h_2 (Array.size h) (2 : Nat) (Value.int IntKind.i64 n_1) ∧
 at1 h_2 (Array.size h) (3 : Nat) (Value.int IntKind.i64 n_2) ∧
 at1 h_2 (Array.size h) (4 : Nat) (Value.int IntKind.i64 n_3) ∧
 at1 h_2 (Array.size h) (5 : Nat) (Value.int IntKind.i64 n_4) ∧
 at1 h_2 (Array.size h) (6 : Nat) (Value.int IntKind.i64 n_5) ∧
 at1 h_2 (Array.size h) (7 : Nat) (Value.int IntKind.i64 n_6) ∧
 at1 h_2 (Array.size h) (8 : Nat) (Value.int IntKind.i64 n_7) ∧
 at1 h_2 (Array.size h) (9 : Nat) (Value.int IntKind.i64 n_8) ∧
 at1 h_2 (Array.size h) (10 : Nat) (Value.int IntKind.i64 n_9) ∧
 at1 h_2 (Array.size h) (11 : Nat) (Value.int IntKind.i64 n_10)) ∧
 ∃ (n_11 : Int),
 ∃ (n_12 : Int),
 ∃ (b : Bs (32 : Nat)),
 ∃ (n_13 : Int),
 ∃ (n_14 : Int),
 ∃ (s_1 : Sl),
 ∃ (b_1 : Bs (16 : Nat)),
 (at1 h_2 (Array.size h_1) (0 : Nat) (Value.int IntKind.i64 n_11) ∧
 at1 h_2 (Array.size h_1) (1 : Nat) (Value.int IntKind.i64 n_12) ∧
 atBytes h_2 (Array.size h_1) (2 : Nat) (32 : Nat) b ∧
 at1 h_2 (Array.size h_1) (34 : Nat) (Value.int IntKind.i64 n_13) ∧
 at1 h_2 (Array.size h_1) (35 : Nat) (Value.int IntKind.u64 n_14) ∧
 at1 h_2 (Array.size h_1) (36 : Nat) (slVal s_1) ∧
 atBytes h_2 (Array.size h_1) (37 : Nat) (16 : Nat) b_1) ∧
 CallsH Try.prog (11 : Nat)
 (TVs.vals
 [TV.agg
 [TV.slice s, TV.int IntKind.i64 n, TV.int IntKind.i64 n_1, TV.int IntKind.i64 n_2, TV.int IntKind.i64 n_3,
 TV.int IntKind.i64 n_4, TV.int IntKind.i64 n_5, TV.int IntKind.i64 n_6, TV.int IntKind.i64 n_7,
 TV.int IntKind.i64 n_8, TV.int IntKind.i64 n_9, TV.int IntKind.i64 n_10],
 TV.agg
 [TV.int IntKind.i64 n_11, TV.int IntKind.i64 n_12, TV.bytes (32 : Nat) b, TV.int IntKind.i64 n_13,
 TV.int IntKind.u64 n_14, TV.slice s_1, TV.bytes (16 : Nat) b_1]])
 h_2 fun (v : Value) (h : Array Obj) ↦
 ∃ (b : Bs (16 : Nat)),
 ∃ (b_2 : Bool),
 v = TV.val (TV.tup [TV.bytes (16 : Nat) b, TV.bool b_2]) ∧
 Vc.Bind (newTV h (TV.bytes (16 : Nat) (Bs.zero (16 : Nat))) (30 : Nat)) fun (h_3 : Array Obj) ↦
 wok h_3 (Array.size h) (0 : Nat) (16 : Nat) ∧
 Vc.Bind (TV.put h_3 (Array.size h) (0 : Nat) (TV.bytes (16 : Nat) b)) fun (h_4 : Array Obj) ↦
 If b_2
 (∃ (b : Bs (16 : Nat)),
 atBytes h_4 (Array.size h) (0 : Nat) (16 : Nat) b ∧
 ∃ (b_3 : Bs (16 : Nat)),
 atBytes h_4 (Array.size h_1) (37 : Nat) (16 : Nat) b_3 ∧
 R (TV.val (TV.bool (decide (b.l = b_3.l)))) h_4)
 (R (TV.val (TV.bool false)) h_4)

theorem seal_Check_calls (c_Validators : Sl) (c_Epoch : Int) (c_Committee : Int) (c_Nodes : Int) (c_Orphans : Int) (c_Early : Int) (c_Quota : Int) (c_Peers : Int) (c_Bytes : Int) (c_Window : Int) (c_Ban : Int) (c_Decay : Int) (m_Kind : Int) (m_Slot : Int) (m_Target : Bs (32 : Nat)) (m_Member : Int) (m_Body : Int) (m_Bits : Sl) (m_Tag : Bs (16 : Nat)) (h : Heap) (R : Value → Heap → Prop) (H : seal_Check_vc c_Validators c_Epoch c_Committee c_Nodes c_Orphans c_Early c_Quota c_Peers c_Bytes c_Window c_Ban c_Decay m_Kind m_Slot m_Target m_Member m_Body m_Bits m_Tag h R) : CallsH Try.prog 17 (TVs.vals [TV.agg [TV.slice c_Validators, TV.int IntKind.i64 c_Epoch, TV.int IntKind.i64 c_Committee, TV.int IntKind.i64 c_Nodes, TV.int IntKind.i64 c_Orphans, TV.int IntKind.i64 c_Early, TV.int IntKind.i64 c_Quota, TV.int IntKind.i64 c_Peers, TV.int IntKind.i64 c_Bytes, TV.int IntKind.i64 c_Window, TV.int IntKind.i64 c_Ban, TV.int IntKind.i64 c_Decay], TV.agg [TV.int IntKind.i64 m_Kind, TV.int IntKind.i64 m_Slot, TV.bytes (32 : Nat) m_Target, TV.int IntKind.i64 m_Member, TV.int IntKind.u64 m_Body, TV.slice m_Bits, TV.bytes (16 : Nat) m_Tag]]) h R :=
 vcFn_sound (C := ctx) ctx_ok (fn := Try.f17) Try.func17 ((by kernel_rfl : seal_Check_vc c_Validators c_Epoch c_Committee c_Nodes c_Orphans c_Early c_Quota c_Peers c_Bytes c_Window c_Ban c_Decay m_Kind m_Slot m_Target m_Member m_Body m_Bits m_Tag h R = vcFn ctx Try.f17 [TV.agg [TV.slice c_Validators, TV.int IntKind.i64 c_Epoch, TV.int IntKind.i64 c_Committee, TV.int IntKind.i64 c_Nodes, TV.int IntKind.i64 c_Orphans, TV.int IntKind.i64 c_Early, TV.int IntKind.i64 c_Quota, TV.int IntKind.i64 c_Peers, TV.int IntKind.i64 c_Bytes, TV.int IntKind.i64 c_Window, TV.int IntKind.i64 c_Ban, TV.int IntKind.i64 c_Decay], TV.agg [TV.int IntKind.i64 m_Kind, TV.int IntKind.i64 m_Slot, TV.bytes (32 : Nat) m_Target, TV.int IntKind.i64 m_Member, TV.int IntKind.u64 m_Body, TV.slice m_Bits, TV.bytes (16 : Nat) m_Tag]] h R) ▸ H)


def seal_Sign_vc (c_Validators : Sl) (c_Epoch : Int) (c_Committee : Int) (c_Nodes : Int) (c_Orphans : Int) (c_Early : Int) (c_Quota : Int) (c_Peers : Int) (c_Bytes : Int) (c_Window : Int) (c_Ban : Int) (c_Decay : Int) (m_Kind : Int) (m_Slot : Int) (m_Target : Bs (32 : Nat)) (m_Member : Int) (m_Body : Int) (m_Bits : Sl) (m_Tag : Bs (16 : Nat)) (h : Heap) (R : Value → Heap → Prop) : Prop :=
 Vc.Bind
 (newTV h
 (TV.agg
 [TV.slice c_Validators, TV.int IntKind.i64 c_Epoch, TV.int IntKind.i64 c_Committee, TV.int IntKind.i64 c_Nodes, TV.int IntKind.i64 c_Orphans,
 TV.int IntKind.i64 c_Early, TV.int IntKind.i64 c_Quota, TV.int IntKind.i64 c_Peers, TV.int IntKind.i64 c_Bytes, TV.int IntKind.i64 c_Window,
 TV.int IntKind.i64 c_Ban, TV.int IntKind.i64 c_Decay])
 (24 : Nat))
 fun (h_1 : Array Obj) ↦
 Vc.Bind
 (newTV h_1
 (TV.agg
 [TV.int IntKind.i64 m_Kind, TV.int IntKind.i64 m_Slot, TV.bytes (32 : Nat) m_Target, TV.int IntKind.i64 m_Member, TV.int IntKind.u64 m_Body,
 TV.slice m_Bits, TV.bytes (16 : Nat) m_Tag])
 (32 : Nat))
 fun (h_2 : Array Obj) ↦
 Vc.Bind
 (newTV h_2
 (TV.agg
 [TV.int IntKind.i64 (0 : Int), TV.int IntKind.i64 (0 : Int), TV.bytes (32 : Nat) (Bs.zero (32 : Nat)), TV.int IntKind.i64 (0 : Int),
 TV.int IntKind.u64 (0 : Int), TV.slice Sl.nil, TV.bytes (16 : Nat) (Bs.zero (16 : Nat))])
 (32 : Nat))
 fun (h_3 : Array Obj) ↦
 ∃ (s : Sl),
 ∃ (n : Int),
 ∃ (n_1 : Int),
 ∃ (n_2 : Int),
 ∃ (n_3 : Int),
 ∃ (n_4 : Int),
 ∃ (n_5 : Int),
 ∃ (n_6 : Int),
 ∃ (n_7 : Int),
 ∃ (n_8 : Int),
 ∃ (n_9 : Int),
 ∃ (n_10 : Int),
 (at1 h_3 (Array.size h) (0 : Nat) (slVal s) ∧
 at1 h_3 (Array.size h) (1 : Nat) (Value.int IntKind.i64 n) ∧
 at1 h_3 (Array.size h) (2 : Nat) (Value.int IntKind.i64 n_1) ∧
 at1 h_3 (Array.size h) (3 : Nat) (Value.int IntKind.i64 n_2) ∧
 at1 h_3 (Array.size h) (4 : Nat) (Value.int IntKind.i64 n_3) ∧
 at1 h_3 (Array.size h) (5 : Nat) (Value.int IntKind.i64 n_4) ∧
 at1 h_3 (Array.size h) (6 : Nat) (Value.int IntKind.i64 n_5) ∧
 at1 h_3 (Array.size h) (7 : Nat) (Value.int IntKind.i64 n_6) ∧
 at1 h_3 (Array.size h) (8 : Nat) (Value.int IntKind.i64 n_7) ∧
 at1 h_3 (Array.size h) (9 : Nat) (Value.int IntKind.i64 n_8) ∧
 at1 h_3 (Array.size h) (10 : Nat) (Value.int IntKind.i64 n_9) ∧
 at1 h_3 (Array.size h) (11 : Nat) (Value.int IntKind.i64 n_10)) ∧
 ∃ (n_11 : Int),
 ∃ (n_12 : Int),
 ∃ (b : Bs (32 : Nat)),
 ∃ (n_13 : Int),
 ∃ (n_14 : Int),
 ∃ (s_1 : Sl),
 ∃ (b_1 : Bs (16 : Nat)),
 (at1 h_3 (Array.size h_1) (0 : Nat) (Value.int IntKind.i64 n_11) ∧
 at1 h_3 (Array.size h_1) (1 : Nat) (Value.int IntKind.i64 n_12) ∧
 atBytes h_3 (Array.size h_1) (2 : Nat) (32 : Nat) b ∧
 at1 h_3 (Array.size h_1) (34 : Nat) (Value.int IntKind.i64 n_13) ∧
 at1 h_3 (Array.size h_1) (35 : Nat) (Value.int IntKind.u64 n_14) ∧
 at1 h_3 (Array.size h_1) (36 : Nat) (slVal s_1) ∧
 atBytes h_3 (Array.size h_1) (37 : Nat) (16 : Nat) b_1) ∧
 CallsH Try.prog (11 : Nat)
 (TVs.vals
 [TV.agg
 [TV.slice s, TV.int IntKind.i64 n, TV.int IntKind.i64 n_1, TV.int IntKind.i64 n_2,
 TV.int IntKind.i64 n_3, TV.int IntKind.i64 n_4, TV.int IntKind.i64 n_5, TV.int IntKind.i64 n_6,
 TV.int IntKind.i64 n_7, TV.int IntKind.i64 n_8, TV.int IntKind.i64 n_9, TV.int IntKind.i64 n_10],
 TV.agg
 [TV.int IntKind.i64 n_11, TV.int IntKind.i64 n_12, TV.bytes (32 : Nat) b, TV.int IntKind.i64 n_13,
 TV.int IntKind.u64 n_14, TV.slice s_1, TV.bytes (16 : Nat) b_1]])
 h_3 fun (v : Value) (h : Array Obj) ↦
 ∃ (b : Bs (16 : Nat)),
 ∃ (b_2 : Bool),
 v = TV.val (TV.tup [TV.bytes (16 : Nat) b, TV.bool b_2]) ∧
 Vc.Bind (newTV h (TV.bytes (16 : Nat) (Bs.zero (16 : Nat))) (30 : Nat)) fun (h_4 : Array Obj) ↦
 wok h_4 (Array.size h) (0 : Nat) (16 : Nat) ∧
 Vc.Bind (TV.put h_4 (Array.size h) (0 : Nat) (TV.bytes (16 : Nat) b)) fun (h_5 : Array Obj) ↦
 If (!b_2)
 (wok h_5 (Array.size h_2) (0 : Nat) (53 : Nat) ∧
 Vc.Bind
 (TV.put h_5 (Array.size h_2) (0 : Nat)
 (TV.agg
 [TV.int IntKind.i64 (0 : Int), TV.int IntKind.i64 (0 : Int),
 TV.bytes (32 : Nat) (Bs.zero (32 : Nat)), TV.int IntKind.i64 (0 : Int),
 TV.int IntKind.u64 (0 : Int), TV.slice Sl.nil,
 TV.bytes (16 : Nat) (Bs.zero (16 : Nat))]))
 fun (h : Array Obj) ↦
 ∃ (n : Int),
 ∃ (n_15 : Int),
 ∃ (b : Bs (32 : Nat)),
 ∃ (n_16 : Int),
 ∃ (n_17 : Int),
 ∃ (s : Sl),
 ∃ (b_3 : Bs (16 : Nat)),
 (at1 h (Array.size h_2) (0 : Nat) (Value.int IntKind.i64 n) ∧
 at1 h (Array.size h_2) (1 : Nat) (Value.int IntKind.i64 n_15) ∧
 atBytes h (Array.size h_2) (2 : Nat) (32 : Nat) b ∧
 at1 h (Array.size h_2) (34 : Nat) (Value.int IntKind.i64 n_16) ∧
 at1 h (Array.size h_2) (35 : Nat) (Value.int IntKind.u64 n_17) ∧
 at1 h (Array.size h_2) (36 : Nat) (slVal s) ∧
 atBytes h (Array.size h_2) (37 : Nat) (16 : Nat) b_3) ∧
 R
 (TV.val
 (TV.tup
 [TV.agg
 [TV.int IntKind.i64 n, TV.int IntKind.i64 n_15,
 TV.bytes (32 : Nat) b, TV.int IntKind.i64 n_16,
 TV.int IntKind.u64 n_17, TV.slice s, TV.bytes (16 : Nat) b_3],
 TV.bool false]))
 h)
 (∃ (b : Bs (16 : Nat)),
 atBytes h_5 (Array.size h) (0 : Nat) (16 : Nat) b ∧
 wok h_5 (Array.size h_1) (37 : Nat) (16 : Nat) ∧
 Vc.Bind (TV.put h_5 (Array.size h_1) (37 : Nat) (TV.bytes (16 : Nat) b))
 fun (h : Array Obj) ↦
 ∃ (n : Int),
 ∃ (n_15 : Int),
 ∃ (b : Bs (32 : Nat)),
 ∃ (n_16 : Int),
 ∃ (n_17 : Int),
 ∃ (s : Sl),
 ∃ (b_3 : Bs (16 : Nat)),
 (at1 h (Array.size h_1) (0 : Nat) (Value.int IntKind.i64 n) ∧
 at1 h (Array.size h_1) (1 : Nat) (Value.int IntKind.i64 n_15) ∧
 atBytes h (Array.size h_1) (2 : Nat) (32 : Nat) b ∧
 at1 h (Array.size h_1) (34 : Nat) (Value.int IntKind.i64 n_16) ∧
 at1 h (Array.size h_1) (35 : Nat) (Value.int IntKind.u64 n_17) ∧
 at1 h (Array.size h_1) (36 : Nat) (slVal s) ∧
 atBytes h (Array.size h_1) (37 : Nat) (16 : Nat) b_3) ∧
 wok h (Array.size h_2) (0 : Nat) (53 : Nat) ∧
 Vc.Bind
 (TV.put h (Array.size h_2) (0 : Nat)
 (TV.agg
 [TV.int IntKind.i64 n, TV.int IntKind.i64 n_15,
 TV.bytes (32 : Nat) b, TV.int IntKind.i64 n_16,
 TV.int IntKind.u64 n_17, TV.slice s,
 TV.bytes (16 : Nat) b_3]))
 fun (h : Array Obj) ↦
 ∃ (n : Int),
 ∃ (n_18 : Int),
 ∃ (b : Bs (32 : Nat)),
 ∃ (n_19 : Int),
 ∃ (n_20 : Int),
 ∃ (s : Sl),
 ∃ (b_4 : Bs (16 : Nat)),
 (at1 h (Array.size h_2) (0 : Nat)
 (Value.int IntKind.i64 n) ∧
 at1 h (Array.size h_2) (1 : Nat)
 (Value.int IntKind.i64 n_18) ∧
 atBytes h (Array.size h_2) (2 : Nat) (32 : Nat)
 b ∧
 at1 h (Array.size h_2) (34 : Nat)
 (Value.int IntKind.i64 n_19) ∧
 at1 h (Array.size h_2) (35 : Nat)
 (Value.int IntKind.u64 n_20) ∧
 at1 h (Array.size h_2) (36 : Nat)
 (slVal s) ∧
 atBytes h (Array.size h_2) (37 : Nat)
 (16 : Nat) b_4) ∧
 R
 (TV.val
 (TV.tup
 [TV.agg
 [TV.int IntKind.i64 n,
 TV.int IntKind.i64 n_18,
 TV.bytes (32 : Nat) b,
 TV.int IntKind.i64 n_19,
 TV.int IntKind.u64 n_20, TV.slice s,
 TV.bytes (16 : Nat) b_4],
 TV.bool true]))
 h)

theorem seal_Sign_calls (c_Validators : Sl) (c_Epoch : Int) (c_Committee : Int) (c_Nodes : Int) (c_Orphans : Int) (c_Early : Int) (c_Quota : Int) (c_Peers : Int) (c_Bytes : Int) (c_Window : Int) (c_Ban : Int) (c_Decay : Int) (m_Kind : Int) (m_Slot : Int) (m_Target : Bs (32 : Nat)) (m_Member : Int) (m_Body : Int) (m_Bits : Sl) (m_Tag : Bs (16 : Nat)) (h : Heap) (R : Value → Heap → Prop) (H : seal_Sign_vc c_Validators c_Epoch c_Committee c_Nodes c_Orphans c_Early c_Quota c_Peers c_Bytes c_Window c_Ban c_Decay m_Kind m_Slot m_Target m_Member m_Body m_Bits m_Tag h R) : CallsH Try.prog 22 (TVs.vals [TV.agg [TV.slice c_Validators, TV.int IntKind.i64 c_Epoch, TV.int IntKind.i64 c_Committee, TV.int IntKind.i64 c_Nodes, TV.int IntKind.i64 c_Orphans, TV.int IntKind.i64 c_Early, TV.int IntKind.i64 c_Quota, TV.int IntKind.i64 c_Peers, TV.int IntKind.i64 c_Bytes, TV.int IntKind.i64 c_Window, TV.int IntKind.i64 c_Ban, TV.int IntKind.i64 c_Decay], TV.agg [TV.int IntKind.i64 m_Kind, TV.int IntKind.i64 m_Slot, TV.bytes (32 : Nat) m_Target, TV.int IntKind.i64 m_Member, TV.int IntKind.u64 m_Body, TV.slice m_Bits, TV.bytes (16 : Nat) m_Tag]]) h R :=
 vcFn_sound (C := ctx) ctx_ok (fn := Try.f22) Try.func22 ((by kernel_rfl : seal_Sign_vc c_Validators c_Epoch c_Committee c_Nodes c_Orphans c_Early c_Quota c_Peers c_Bytes c_Window c_Ban c_Decay m_Kind m_Slot m_Target m_Member m_Body m_Bits m_Tag h R = vcFn ctx Try.f22 [TV.agg [TV.slice c_Validators, TV.int IntKind.i64 c_Epoch, TV.int IntKind.i64 c_Committee, TV.int IntKind.i64 c_Nodes, TV.int IntKind.i64 c_Orphans, TV.int IntKind.i64 c_Early, TV.int IntKind.i64 c_Quota, TV.int IntKind.i64 c_Peers, TV.int IntKind.i64 c_Bytes, TV.int IntKind.i64 c_Window, TV.int IntKind.i64 c_Ban, TV.int IntKind.i64 c_Decay], TV.agg [TV.int IntKind.i64 m_Kind, TV.int IntKind.i64 m_Slot, TV.bytes (32 : Nat) m_Target, TV.int IntKind.i64 m_Member, TV.int IntKind.u64 m_Body, TV.slice m_Bits, TV.bytes (16 : Nat) m_Tag]] h R) ▸ H)


end Go.Proofs.Ytgdhddignbkloaa
end

section
/- A message's bytes, who speaks, its tag, what is signed and checked, its votes. -/
namespace Go.Proofs.Ytgdhddignbkloaa.Board
open Go Go.Vc
section
variable {R : Value → Heap → Prop} {h : Heap}

/-- A message's bytes without its tag. -/
def plainF (m : Ms) (row : List Bool) : List UInt8 :=
  (([UInt8.ofNat (IntKind.wrap .u8 m.kind).toNat] ++ leF (IntKind.wrap .u64 m.slot) 4) ++ m.target.l) ++
    if m.kind = 1 then leF (IntKind.wrap .u64 m.member) 2 ++ leF m.body 8 else if m.kind = 2 then leF (IntKind.wrap .u64 m.member) 2 else if m.kind = 3 then bitF row else []

theorem leF_len (n : Int) (k : Nat) : (leF n k).length = k := leF_length k n
theorem bitF_len (row : List Bool) : (bitF row).length = row.length / 8 + 1 := by simp [bitF, bitS, bitG_length]

theorem plainF_len (m : Ms) (row : List Bool) : (plainF m row).length ≤ 60 + row.length := by
  unfold plainF
  simp only [List.length_append, leF_len, m.target.h, List.length_singleton]
  split
  · simp only [List.length_append, leF_len]; omega
  · split
    · simp only [leF_len]; omega
    · split
      · rw [bitF_len]; omega
      · simp only [List.length_nil]; omega

theorem elems_bytes {b o n c : Nat} {x : Bs n} (a : atBytes h b o n x) : Elems 1 h ⟨some ⟨b, o⟩, n, c⟩ (bys x.l) := by
  refine ⟨by rw [List.length_map, x.h], (fun hn => by cases hn), fun l hl i t ht => ?_⟩
  obtain rfl := Option.some.inj hl
  rw [List.getElem?_map] at ht
  obtain ⟨u, hu, rfl⟩ := Option.map_eq_some_iff.1 ht
  have hi : i < n := by rw [← x.h]; exact (List.getElem?_eq_some_iff.1 hu).1
  have := a i hi
  rw [List.getD_eq_getElem?_getD, hu] at this
  show at1 _ _ _ _
  rw [Nat.mul_one]
  exact this

theorem app_loose {e : TypeId} {s : Sl} {n : Nat} {new : List Value} {K : Sl → Heap → Prop} (H : vcAppend ctx e s n new h K) : vcAppend ctxL e s n new h K := H

theorem put_n {T : TypeId} {b n : Nat} {t0 t : TV} {K : Heap → Prop} (v : Var T h b t0) (hn : n = t0.size) (hs : t.size = t0.size) (hk : ∀ h1, Var T h1 b t → Only (· = b) h h1 → h1.size = h.size → K h1) : wok h b 0 n ∧ Bind (t.put h b 0) K := by
  subst hn
  exact put_in v hs hk

theorem app_bytesN {Q : Nat → Prop} {s : Sl} {bs us : List UInt8} {n : Nat} {K : Sl → Heap → Prop} (hn : n = us.length) (r : Row Q h s bs) (hl : bs.length + us.length < 10000)
    (hk : ∀ s' h', Row Q h' s' (bs ++ us) → Only (In s) h h' → (∀ l, s'.a = some l → (∃ l', s.a = some l' ∧ l'.b = l.b) ∨ h.size ≤ l.b) → K s' h') :
    vcAppend ctx 5 s n (us.map fun c => Value.int .u8 (c.toNat : Int)) h K := by
  subst hn
  exact app_bytes r hl hk

theorem bind_of {h1 : Heap} {K : Heap → Prop} (hk : K h1) : Bind h1 K := hk

set_option maxRecDepth 100000 in
theorem plain_spec {m : Ms} {row : List Bool} (e : Elems 1 h m.bits (bools row)) (hl : row.length < 500) (hr : ∀ h', Ext h h' → R (TV.str (plainF m row)).val h') : CallsH Try.prog 28 (TVs.vals [m.tv]) h R := by
  apply wire_Plain_calls m.kind m.slot m.target m.member m.body m.bits m.tag
  unfold wire_Plain_vc
  have el : row.length = m.bits.len := by have := e.len; rwa [List.length_map] at this
  refine newTV_in fun h1 v1 x1 s1 => ?_
  have at1' := v1.at (t := m.tv)
  obtain ⟨a0, a1, a2, a3, a4, a5, a6⟩ := at1'
  have hw := wrap_u8_range m.kind
  have xp := Ext.push h1 (Vc.row (TVs.cells [TV.int .u8 (IntKind.wrap .u8 m.kind)]) 5)
  have r1 : Row (fun i => h.size < i) (h1.push (Vc.row (TVs.cells [TV.int .u8 (IntKind.wrap .u8 m.kind)]) 5)) ⟨some ⟨h1.size, 0⟩, 1, 1⟩ [UInt8.ofNat (IntKind.wrap .u8 m.kind).toNat] := by
    have o := Own.new (T := 5) (sz := 1) h1 [TV.int .u8 (IntKind.wrap .u8 m.kind)] (fun t ht => by
      simp only [List.mem_cons, List.not_mem_nil, or_false] at ht
      subst ht; rfl)
    have e1 : byTV (UInt8.ofNat (IntKind.wrap .u8 m.kind).toNat) = TV.int .u8 (IntKind.wrap .u8 m.kind) := by
      unfold byTV
      rw [UInt8.toNat_ofNat']
      congr 1
      omega
    refine ⟨?_, fun l hl => ?_, fun i hi => ?_⟩
    · have e2 : bys [UInt8.ofNat (IntKind.wrap .u8 m.kind).toNat] = [TV.int .u8 (IntKind.wrap .u8 m.kind)] := by simp [bys, e1]
      rw [e2]
      exact o
    · obtain rfl := Option.some.inj hl
      show h.size < h1.size
      omega
    · rw [Array.size_push] at hi
      omega
  refine ⟨_, a0, _, at1_ext xp a1, ?_⟩
  refine put_spec_le (k := 4) r1 (by simp) (by decide) fun h2 s2 r2 o2 => ⟨_, rfl, ?_⟩
  have x2 : Ext h1 h2 := Only.cut xp o2 fun i hi => by omega
  have hc : cutSl (Sl.mk (some (Vc.Loc.mk h.size 2)) 32 32) 0 32 1 = ⟨some ⟨h.size, 2⟩, 32, 32⟩ := rfl
  rw [hc]
  refine ⟨m.target.l.map fun c => Value.int .u8 (c.toNat : Int), by rw [← bys_cells]; exact (elems_bytes (atBytes_ext x2 a2)).cells (bys_size _) (by decide), bcells_one m.target.l, app_loose ?_⟩
  refine app_bytesN m.target.h.symm r2 (by rw [List.length_append, leF_len, List.length_singleton, m.target.h]; decide) fun s3 h3 r3 f3 b3 => ?_
  have f3 := r2.cut f3
  have x3 : Ext h1 h3 := Only.cut xp (o2.trans f3) fun i hi => by omega
  have x03 := x1.trans x3
  have v3 : Var 32 h3 h.size m.tv := v1.ext x3
  have at3 := v3.at
  obtain ⟨b0, b1, b2, b3, b4, b5, b6⟩ := at3
  have l3 : (([UInt8.ofNat (IntKind.wrap .u8 m.kind).toNat] ++ leF (IntKind.wrap .u64 m.slot) 4) ++ m.target.l).length = 37 := by
    rw [List.length_append, List.length_append, leF_len, List.length_singleton, m.target.h]
  refine ⟨_, b0, If.dec.2 ⟨fun k1 => ?_, fun k1 => If.dec.2 ⟨fun k2 => ?_, fun k2 => If.dec.2 ⟨fun k3 => ?_, fun k3 => ?_⟩⟩⟩⟩
  · refine ⟨h1, x3, _, a3, _, a4, ?_⟩
    refine put_spec_le (k := 2) r3 (by rw [l3]; decide) (by decide) fun h4 s4 r4 o4 => ⟨_, rfl, Only.cut x3 o4 fun i hi => by omega, ?_⟩
    refine put_spec_le (k := 8) r4 (by rw [List.length_append, l3, leF_len]; decide) (by decide) fun h5 s5 r5 o5 => ⟨_, rfl, _, r5.str, ?_⟩
    have := hr h5 (Only.cut x03 (o4.trans o5) fun i hi => by omega)
    unfold plainF at this
    rw [if_pos k1, ← List.append_assoc] at this
    exact this
  · refine ⟨_, b3, ?_⟩
    refine put_spec_le (k := 2) r3 (by rw [l3]; decide) (by decide) fun h4 s4 r4 o4 => ⟨_, rfl, _, r4.str, ?_⟩
    have := hr h4 (Only.cut x03 o4 fun i hi => by omega)
    unfold plainF at this
    rw [if_neg k1, if_pos k2] at this
    exact this
  · refine ⟨_, b5, ?_⟩
    refine bput_spec r3 (by rw [l3]; decide) (by omega) el (fun h' o' => e.ext (Only.cut x03 o' fun i hi => by omega)) fun h4 s4 r4 o4 => ⟨_, rfl, _, r4.str, ?_⟩
    have := hr h4 (Only.cut x03 o4 fun i hi => by omega)
    unfold plainF at this
    rw [if_neg k1, if_neg k2, if_pos k3] at this
    exact this
  · have := hr h3 x03
    unfold plainF at this
    rw [if_neg k1, if_neg k2, if_neg k3, List.append_nil] at this
    exact ⟨_, r3.str, this⟩

/-! ### What one speaker's tag is of -/

def oneF (m : Ms) (who : Int) : Ms := if m.kind = 3 then ⟨2, m.slot, m.target, who, 0, Sl.nil, Bs.zero 16⟩ else m
def oneR (m : Ms) (row : List Bool) : List Bool := if m.kind = 3 then [] else row

theorem one_spec {m : Ms} {who : Int} (hr : ∀ h', Ext h h' → R (oneF m who).tv.val h') : CallsH Try.prog 29 (TVs.vals [m.tv, .int .i64 who]) h R := by
  apply seal_one_calls m.kind m.slot m.target m.member m.body m.bits m.tag who
  unfold seal_one_vc
  refine newTV_in fun h1 v1 x1 s1 => newTV_in fun h2 v2 x2 s2 => ?_
  have w1 : Var 32 h2 h.size m.tv := v1.ext x2
  have v2 : Var 32 h2 h1.size zeroM.tv := v2
  have at1' := w1.at
  obtain ⟨a0, a1, a2, a3, a4, a5, a6⟩ := at1'
  refine ⟨_, a0, If.dec.2 ⟨fun k => ⟨_, a1, _, a2, ?_⟩, fun k => ms_at w1 ?_⟩⟩
  · have he : oneF m who = ⟨2, m.slot, m.target, who, 0, Sl.nil, Bs.zero 16⟩ := if_pos k
    refine put_n v2 (t := (Ms.mk 2 m.slot m.target who 0 Sl.nil (Bs.zero 16)).tv) mssz1 mssz fun h3 v3 f3 s3 => ?_
    refine ms_at (m := Ms.mk 2 m.slot m.target who 0 Sl.nil (Bs.zero 16)) v3 ?_
    have := hr h3 (Only.cut (x1.trans x2) f3 fun i hi => by omega)
    rw [he] at this
    exact this
  · have he : oneF m who = m := if_neg k
    refine put_n v2 (t := m.tv) mssz1 mssz fun h3 v3 f3 s3 => ?_
    refine ms_at v3 ?_
    have := hr h3 (Only.cut (x1.trans x2) f3 fun i hi => by omega)
    rw [he] at this
    exact this

/-! ### Who speaks -/

/-- Who speaks in a message, and whether they can. -/
noncomputable def speakF (n : Nat) (com : Int) (m : Ms) (row : List Bool) : List Int × Bool :=
  if goodF m row = false then ([], false)
  else if m.kind = 3 then (if mem n com m.slot = [] ∨ row.length ≠ (mem n com m.slot).length then ([], false) else (pk (mem n com m.slot) row, true))
  else if m.kind = 1 ∧ firstOf (mem n com m.slot) ≠ m.member then ([], false)
  else if idx (mem n com m.slot) m.member 0 < 0 then ([], false) else ([m.member], true)

theorem nil_ints (h : Heap) : Elems 1 h Sl.nil (ints []) := Elems.nil_ 1 h

theorem one_ints (h : Heap) (x : Int) : Elems 1 (h.push (Vc.row (TVs.cells [TV.int .i64 x]) 3)) ⟨some ⟨h.size, 0⟩, 1, 1⟩ (ints [x]) :=
  (Own.new (T := 3) (sz := 1) h [TV.int .i64 x] (fun t ht => by
    simp only [List.mem_cons, List.not_mem_nil, or_false] at ht
    subst ht; rfl)).elems

theorem speak_spec {c : Cf} {m : Ms} {row : List Bool} (hv : c.vals.len < 900) (e : Elems 1 h m.bits (bools row)) (hl : row.length < 100000)
    (hr : ∀ h' s', Elems 1 h' s' (ints (speakF c.vals.len c.com m row).1) → Ext h h' → R (TV.tup [.slice s', .bool (speakF c.vals.len c.com m row).2]).val h') : CallsH Try.prog 14 (TVs.vals [c.tv, m.tv]) h R := by
  apply seal_Speakers_calls c.vals c.ep c.com c.no c.orp c.ear c.quo c.pe c.by_ c.win c.ban c.dec m.kind m.slot m.target m.member m.body m.bits m.tag
  unfold seal_Speakers_vc
  refine newTV_in fun h1 v1 x1 s1 => newTV_in fun h2 v2 x2 s2 => ?_
  have v1 : Var 24 h1 h.size c.tv := v1
  have v2 : Var 32 h2 h1.size m.tv := v2
  have x02 := x1.trans x2
  refine ms_at v2 (mgood_spec (e.ext x02) hl fun h3 x3 => ⟨_, rfl, ?_⟩)
  have x03 := x02.trans x3
  have w1 : Var 24 h3 h.size c.tv := (v1.ext x2).ext x3
  have w2 : Var 32 h3 h1.size m.tv := v2.ext x3
  have at2 := w2.at
  obtain ⟨a0, a1, a2, a3, a4, a5, a6⟩ := at2
  have bad : ∀ h', Ext h h' → speakF c.vals.len c.com m row = ([], false) → R (TV.tup [.slice Sl.nil, .bool false]).val h' := fun h' x hs => by
    have := hr h' Sl.nil (by rw [hs]; exact nil_ints h') x
    rw [hs] at this
    exact this
  refine If.split (fun hg => bad h3 x03 ?_) fun hg => ⟨_, a0, If.dec.2 ⟨fun k3 => ?_, fun k3 => ⟨_, a0, ?_⟩⟩⟩
  · unfold speakF
    rw [if_pos (by simpa using hg)]
  · have hg : ¬ goodF m row = false := by simpa using hg
    refine cf_at w1 ⟨_, a1, _, a5, ?_⟩
    refine pick_spec (c := c) hv (e.ext x03) (fun h4 x4 hn => ⟨_, _, rfl, bad h4 (x03.trans x4) ?_⟩) fun h4 s4 o4 x4 hy1 hy2 => ⟨_, _, rfl, ?_⟩
    · unfold speakF
      rw [if_neg hg, if_pos k3, if_pos hn]
    · have hs : speakF c.vals.len c.com m row = (pk (mem c.vals.len c.com m.slot) row, true) := by
        unfold speakF
        rw [if_neg hg, if_pos k3, if_neg (fun hx => hx.elim hy1 (fun hx => hx hy2))]
      have := hr h4 s4 (by rw [hs]; exact o4.elems) (x03.trans x4)
      rw [hs] at this
      exact this
  · have hg : ¬ goodF m row = false := by simpa using hg
    have last : ∀ h4, Ext h3 h4 → (¬ (m.kind = 1 ∧ firstOf (mem c.vals.len c.com m.slot) ≠ m.member)) → CallsH Try.prog 33 (TVs.vals [c.tv, .int .i64 m.slot, .int .i64 m.member]) h4 fun v h => ∃ (n : Int), v = TV.val (TV.int .i64 n) ∧ If (decide (n < 0)) (R (TV.val (TV.tup [TV.slice Sl.nil, TV.bool false])) h) (∃ (n : Int), at1 h h1.size 34 (.int .i64 n) ∧ R (TV.val (TV.tup [TV.slice (Sl.mk (some (Vc.Loc.mk h.size 0)) 1 1), TV.bool true])) (h.push (Vc.row (TVs.cells [TV.int .i64 n]) 3))) := by
      intro h4 x4 hk
      refine place_spec (c := c) hv fun h5 x5 => ⟨_, rfl, If.dec.2 ⟨fun hi => bad h5 ((x03.trans x4).trans x5) ?_, fun hi => ⟨m.member, at1_ext x5 (at1_ext x4 a3), ?_⟩⟩⟩
      · unfold speakF
        rw [if_neg hg, if_neg k3, if_neg hk, if_pos hi]
      · have hs : speakF c.vals.len c.com m row = ([m.member], true) := by
          unfold speakF
          rw [if_neg hg, if_neg k3, if_neg hk, if_neg hi]
        have := hr _ ⟨some ⟨h5.size, 0⟩, 1, 1⟩ (by rw [hs]; exact one_ints h5 m.member) (((x03.trans x4).trans x5).trans (Ext.push _ _))
        rw [hs] at this
        exact this
    refine If.dec.2 ⟨fun k1 => ?_, fun k1 => ?_⟩
    · refine cf_at w1 ⟨_, a1, _, a3, ?_⟩
      refine proposer_spec (c := c) hv fun h4 x4 => ⟨_, rfl, x4, ?_⟩
      have w14 := w1.ext x4
      refine If.split (fun hp => If.split (fun hp => bad h4 (x03.trans x4) ?_) fun hn => absurd hp (by rw [hn]; decide)) fun hp => ?_
      · unfold speakF
        rw [if_neg hg, if_neg k3, if_pos ⟨k1, by simpa using hp⟩]
      · refine cf_at w14 ⟨_, at1_ext x4 a1, _, at1_ext x4 a3, ?_⟩
        exact last h4 x4 fun hx => hx.2 (by simpa using hp)
    · refine cf_at w1 ⟨_, a1, _, a3, ?_⟩
      exact last h3 (Ext.refl _) fun hx => k1 hx.1

theorem pk_sub : ∀ (l : List Int) (row : List Bool) (x : Int), x ∈ pk l row → x ∈ l
  | [], _, x, h => by simp [pk] at h
  | _ :: _, [], x, h => by simp [pk] at h
  | y :: l, b :: row, x, h => by
    unfold pk at h
    split at h
    · rcases List.mem_cons.1 h with h1 | h1
      · exact List.mem_cons.2 (.inl h1)
      · exact List.mem_cons.2 (.inr (pk_sub l row x h1))
    · exact List.mem_cons.2 (.inr (pk_sub l row x h))

theorem mem_range {n : Nat} {com slot x : Int} (h : x ∈ mem n com slot) : 0 ≤ x ∧ x < n := by
  by_cases hs : slot < 0 ∨ 1073741824 < slot
  · rw [mem_out hs] at h; cases h
  · rw [mem_eq (by omega) (by omega)] at h
    exact whos_mem (List.mem_of_mem_take h)

theorem speak_mem {n : Nat} {com : Int} {m : Ms} {row : List Bool} {x : Int} (h : x ∈ (speakF n com m row).1) : x ∈ mem n com m.slot := by
  unfold speakF at h
  split at h
  · cases h
  · split at h
    · split at h
      · cases h
      · exact pk_sub _ _ _ h
    · split at h
      · cases h
      · split at h
        · cases h
        · rename_i hi
          simp only [List.mem_singleton] at h
          subst h
          apply Classical.byContradiction
          intro hn
          rw [idx_out _ _ _ hn] at hi
          exact hi (by decide)

theorem speak_len {n : Nat} {com : Int} {m : Ms} {row : List Bool} : (speakF n com m row).1.length ≤ n + 1 := by
  have hp : ∀ (l : List Int) (row : List Bool), (pk l row).length ≤ l.length := by
    intro l
    induction l with
    | nil => intro row; simp [pk]
    | cons y l ih =>
      intro row
      cases row with
      | nil => simp [pk]
      | cons b row =>
        unfold pk
        split
        · simp [ih row]
        · have := ih row; simp; omega
  unfold speakF
  split
  · simp
  · split
    · split
      · simp
      · have := hp (mem n com m.slot) row
        have := mem_length n com m.slot
        show (pk _ _).length ≤ _
        omega
    · split
      · simp
      · split <;> simp

end
end Go.Proofs.Ytgdhddignbkloaa.Board
end

section
/- A message's tag, what is signed and checked, its votes. -/
namespace Go.Proofs.Ytgdhddignbkloaa.Board
open Go Go.Vc
section
variable {R : Value → Heap → Prop} {h : Heap}

def keyAt (L : List Vd) (i : Int) : List UInt8 := (L.getD i.toNat ⟨0, []⟩).key
/-- The tag of one who speaks. -/
def tag1 (L : List Vd) (m : Ms) (row : List Bool) (i : Int) : Bs 16 := macF (keyAt L i) (plainF (oneF m i) (oneR m row))
noncomputable def tagF (n : Nat) (com : Int) (L : List Vd) (m : Ms) (row : List Bool) : Bs 16 × Bool :=
  if (speakF n com m row).2 = true then (joinF ((speakF n com m row).1.map (tag1 L m row)) (Bs.zero 16), true) else (Bs.zero 16, false)

theorem bytes30 : (ctx.ti 30).bytes = 16 := by kernel_rfl
theorem size30 : (ctx.ti 30).size = 16 := by kernel_rfl
theorem zsize30 : (ctx.ti 30).z.size = 16 := by kernel_rfl

theorem one_elems {m : Ms} {row : List Bool} {h' : Heap} (e : Elems 1 h' m.bits (bools row)) (who : Int) : Elems 1 h' (oneF m who).bits (bools (oneR m row)) := by
  unfold oneF oneR
  split
  · exact Elems.nil_ 1 h'
  · exact e

theorem oneR_len (m : Ms) (row : List Bool) : (oneR m row).length ≤ row.length := by
  unfold oneR
  split <;> simp

set_option maxRecDepth 100000 in
theorem tag_spec {c : Cf} {m : Ms} {row : List Bool} {L : List Vd} (hv : c.vals.len < 900) (ev : Elems 2 h c.vals (vds L)) (hkey : ∀ v ∈ L, v.key.length ≤ 64) (e : Elems 1 h m.bits (bools row)) (hl : row.length < 500)
    (hr : ∀ h', Ext h h' → R (TV.tup [.bytes 16 (tagF c.vals.len c.com L m row).1, .bool (tagF c.vals.len c.com L m row).2]).val h') : CallsH Try.prog 11 (TVs.vals [c.tv, m.tv]) h R := by
  apply seal_Tag_calls c.vals c.ep c.com c.no c.orp c.ear c.quo c.pe c.by_ c.win c.ban c.dec m.kind m.slot m.target m.member m.body m.bits m.tag
  unfold seal_Tag_vc
  have lv : L.length = c.vals.len := by have := ev.len; rwa [List.length_map] at this
  refine newTV_in fun h1 v1 x1 s1 => newTV_in fun h2 v2 x2 s2 => newTV_in fun h3 v3 x3 s3 => ?_
  have v1 : Var 24 h3 h.size c.tv := (Var.ext (t := c.tv) v1 x2).ext x3
  have v2 : Var 32 h3 h1.size m.tv := Var.ext (t := m.tv) v2 x3
  have x03 := (x1.trans x2).trans x3
  refine cf_at v1 (ms_at v2 (speak_spec hv (e.ext x03) (by omega) fun h4 s4 e4 x4 => ⟨_, _, rfl, ?_⟩))
  have x04 := x03.trans x4
  have w1 := v1.ext x4
  have w2 := v2.ext x4
  have w3 := v3.ext x4
  refine If.split (fun hb => ?_) fun hb => ?_
  · have ht : tagF c.vals.len c.com L m row = (Bs.zero 16, false) := by
      unfold tagF
      rw [if_neg (by simpa using hb)]
    refine put_n w3 (t := .bytes 16 (Bs.zero 16)) rfl rfl fun h5 v5 f5 s5 => ⟨_, v5.bytes, ?_⟩
    have := hr h5 (Only.cut x04 f5 fun i hi => by have := x1.size; have := x2.size; omega)
    rw [ht] at this
    exact this
  · have hb : (speakF c.vals.len c.com m row).2 = true := by simpa using hb
    have ht : tagF c.vals.len c.com L m row = (joinF ((speakF c.vals.len c.com m row).1.map (tag1 L m row)) (Bs.zero 16), true) := by
      unfold tagF
      rw [if_pos hb]
    have hrange : ∀ x ∈ (speakF c.vals.len c.com m row).1, 0 ≤ x ∧ x < c.vals.len := fun x hx => mem_range (speak_mem hx)
    have hlen := speak_len (n := c.vals.len) (com := c.com) (m := m) (row := row)
    generalize (speakF c.vals.len c.com m row).1 = l at e4 ht hrange hlen
    have el := ints_len e4
    refine ⟨fun σ hh => 0 ≤ σ.2 ∧ σ.2 ≤ s4.len ∧ Own 30 16 hh σ.1 (tags ((l.take σ.2.toNat).map (tag1 L m row))) ∧ (∀ p, σ.1.a = some p → h4.size ≤ p.b) ∧ Ext h4 hh, fun σ _ => ((s4.len : Int) - σ.2).toNat,
      ⟨Int.le_refl 0, by first | omega | (dsimp only; omega), Own.nil _ _ _, (fun p hp => by cases hp), Ext.refl _⟩, ?_⟩
    rintro ⟨t, i⟩ h5 ⟨i0, i1, o5, b5, x5⟩
    dsimp only at i0 i1 o5 b5 x5 ⊢
    refine If.dec.2 ⟨fun hi => ?_, fun hi => ?_⟩
    · refine read_int (e4.ext x5) i0 (by omega) fun x hx => ?_
      have hxr := hrange x (List.mem_of_getElem? hx)
      refine ⟨c.vals, (w1.ext x5).at.1, ?_⟩
      refine ((ev.ext x04).ext x5).read hxr.1 (by omega) fun lv' tv hla htv hat => ?_
      rw [List.getElem?_map] at htv
      obtain ⟨vd, hvd, rfl⟩ := Option.map_eq_some_iff.1 htv
      have hky : keyAt L x = vd.key := by unfold keyAt; rw [List.getD_eq_getElem?_getD, hvd]; rfl
      have hk64 := hkey vd (List.mem_of_getElem? hvd)
      refine ⟨vd.key, hat.2, ms_at (w2.ext x5) ?_⟩
      have e5 : Elems 1 h5 m.bits (bools row) := (e.ext x04).ext x5
      refine one_spec (m := m) (who := x) fun h6 x6 => ⟨_, _, _, _, _, _, _, rfl, x6, ?_⟩
      have hol := oneR_len m row
      refine plain_spec (m := oneF m x) (one_elems (e5.ext x6) x) (by omega) fun h7 x7 => ⟨_, rfl, x7, Ext.push _ _, ?_⟩
      have hpl := plainF_len (oneF m x) (oneR m row)
      refine macof_spec (ts := [plainF (oneF m x) (oneR m row)]) hk64 (strs_elems (T := 9) h7 [plainF (oneF m x) (oneR m row)]) (by simp only [List.flatten_cons, List.flatten_nil, List.append_nil]; omega) (by simp) fun h8 x8 => ⟨_, rfl, ?_⟩
      have hf1 : [plainF (oneF m x) (oneR m row)].flatten = plainF (oneF m x) (oneR m row) := by simp
      rw [hf1]
      have x58 : Ext h5 h8 := ((x6.trans x7).trans (Ext.push _ _)).trans x8
      have o8 := o5.ext x58
      have tl := o8.len
      rw [List.length_map, List.length_map, List.length_take] at tl
      have hx' : macF vd.key (plainF (oneF m x) (oneR m row)) = tag1 L m row x := by unfold tag1; rw [hky]
      refine append1 (C := ctx) (T := 30) (sz := 16) (x := .bytes 16 (macF vd.key (plainF (oneF m x) (oneR m row)))) size30 zsize30 (by rw [bytes30]; decide) (by rw [bytes30]; omega) o8 rfl rfl fun s9 h9 o9 f9 b9 => ?_
      rw [wrap_i64 (n := i + 1) (by omega) (by omega)]
      have x9 : Ext h4 h9 := Only.cut (x5.trans x58) f9 fun j ⟨p, hp, hj⟩ => by have := b5 p hp; omega
      have z8 := (x5.trans x58).size
      refine ⟨⟨by omega, by omega, ?_, fun p hp => ?_, x9⟩, by first | omega | (dsimp only; omega)⟩
      · rw [show (i + 1).toNat = i.toNat + 1 by omega, take_snoc hx, List.map_append, List.map_cons, List.map_nil, ← hx']
        simpa [tags] using o9
      · rcases b9 p hp with ⟨p', h1', h2'⟩ | h1'
        · have := b5 p' h1'; omega
        · omega
    · have hall : l.take i.toNat = l := List.take_of_length_le (by omega)
      rw [hall] at o5
      refine join_spec o5.elems (by rw [List.length_map]; omega) fun h6 x6 => ⟨_, rfl, ?_⟩
      have x06 := (x04.trans x5).trans x6
      refine put_n ((w3.ext x5).ext x6) (t := .bytes 16 (joinF (l.map (tag1 L m row)) (Bs.zero 16))) rfl rfl fun h7 v7 f7 s7 => ⟨_, v7.bytes, ?_⟩
      have := hr h7 (Only.cut x06 f7 fun j hj => by have := x1.size; have := x2.size; omega)
      rw [ht] at this
      exact this

/-! ### Checked, signed -/

noncomputable def checkF (n : Nat) (com : Int) (L : List Vd) (m : Ms) (row : List Bool) : Bool := (tagF n com L m row).2 && decide ((tagF n com L m row).1.l = m.tag.l)

theorem check_spec {c : Cf} {m : Ms} {row : List Bool} {L : List Vd} (hv : c.vals.len < 900) (ev : Elems 2 h c.vals (vds L)) (hkey : ∀ v ∈ L, v.key.length ≤ 64) (e : Elems 1 h m.bits (bools row)) (hl : row.length < 500)
    (hr : ∀ h', Ext h h' → R (TV.bool (checkF c.vals.len c.com L m row)).val h') : CallsH Try.prog 17 (TVs.vals [c.tv, m.tv]) h R := by
  apply seal_Check_calls c.vals c.ep c.com c.no c.orp c.ear c.quo c.pe c.by_ c.win c.ban c.dec m.kind m.slot m.target m.member m.body m.bits m.tag
  unfold seal_Check_vc
  refine newTV_in fun h1 v1 x1 s1 => newTV_in fun h2 v2 x2 s2 => ?_
  have v1 : Var 24 h2 h.size c.tv := Var.ext (t := c.tv) v1 x2
  have v2 : Var 32 h2 h1.size m.tv := v2
  have x02 := x1.trans x2
  refine cf_at v1 (ms_at v2 (tag_spec hv (ev.ext x02) hkey (e.ext x02) hl fun h3 x3 => ⟨_, _, rfl, ?_⟩))
  refine newTV_in fun h4 v4 x4 s4 => put_n v4 (t := .bytes 16 (tagF c.vals.len c.com L m row).1) rfl rfl fun h5 v5 f5 s5 => ?_
  have x35 : Ext h3 h5 := Only.cut x4 f5 fun i hi => by omega
  have x05 := (x02.trans x3).trans x35
  have hr5 := hr h5 x05
  unfold checkF at hr5
  refine If.split (fun hb => ?_) fun hb => ?_
  · rw [hb, Bool.true_and] at hr5
    have w2 := (v2.ext x3).ext x35
    exact ⟨_, v5.bytes, m.tag, w2.at.2.2.2.2.2.2, hr5⟩
  · rw [hb, Bool.false_and] at hr5
    exact hr5

noncomputable def signF (n : Nat) (com : Int) (L : List Vd) (m : Ms) (row : List Bool) : Ms × Bool :=
  if (tagF n com L m row).2 = true then ({ m with tag := (tagF n com L m row).1 }, true) else (zeroM, false)

set_option maxRecDepth 100000 in
theorem sign_spec {c : Cf} {m : Ms} {row : List Bool} {L : List Vd} (hv : c.vals.len < 900) (ev : Elems 2 h c.vals (vds L)) (hkey : ∀ v ∈ L, v.key.length ≤ 64) (e : Elems 1 h m.bits (bools row)) (hl : row.length < 500)
    (hr : ∀ h', Ext h h' → R (TV.tup [(signF c.vals.len c.com L m row).1.tv, .bool (signF c.vals.len c.com L m row).2]).val h') : CallsH Try.prog 22 (TVs.vals [c.tv, m.tv]) h R := by
  apply seal_Sign_calls c.vals c.ep c.com c.no c.orp c.ear c.quo c.pe c.by_ c.win c.ban c.dec m.kind m.slot m.target m.member m.body m.bits m.tag
  unfold seal_Sign_vc
  refine newTV_in fun h1 v1 x1 s1 => newTV_in fun h2 v2 x2 s2 => newTV_in fun h3 v3 x3 s3 => ?_
  have v1 : Var 24 h3 h.size c.tv := (Var.ext (t := c.tv) v1 x2).ext x3
  have v2 : Var 32 h3 h1.size m.tv := Var.ext (t := m.tv) v2 x3
  have v3 : Var 32 h3 h2.size zeroM.tv := v3
  have x03 := (x1.trans x2).trans x3
  refine cf_at v1 (ms_at v2 (tag_spec hv (ev.ext x03) hkey (e.ext x03) hl fun h4 x4 => ⟨_, _, rfl, ?_⟩))
  have z1 := x1.size
  have z2 := x2.size
  have z3 := x3.size
  have z4 := x4.size
  refine newTV_in fun h5 v5 x5 s5 => put_n v5 (t := .bytes 16 (tagF c.vals.len c.com L m row).1) rfl rfl fun h6 v6 f6 s6 => ?_
  have x46 : Ext h4 h6 := Only.cut x5 f6 fun i hi => by omega
  have x06 := (x03.trans x4).trans x46
  have w2 : Var 32 h6 h1.size m.tv := (v2.ext x4).ext x46
  have w3 : Var 32 h6 h2.size zeroM.tv := (v3.ext x4).ext x46
  refine If.split (fun hb => ?_) fun hb => ⟨_, v6.bytes, ?_⟩
  · have hs : signF c.vals.len c.com L m row = (zeroM, false) := by
      unfold signF
      rw [if_neg (by simpa using hb)]
    refine put_n w3 (t := zeroM.tv) mssz1 mssz fun h7 v7 f7 s7 => ms_at v7 ?_
    have := hr h7 (Only.cut x06 f7 fun i hi => by omega)
    rw [hs] at this
    exact this
  · have hs : signF c.vals.len c.com L m row = ({ m with tag := (tagF c.vals.len c.com L m row).1 }, true) := by
      unfold signF
      rw [if_pos (by simpa using hb)]
    refine field_in (i := 6) (t := .bytes 16 (tagF c.vals.len c.com L m row).1) (t0 := .bytes 16 m.tag) w2 rfl rfl rfl rfl fun h7 v7 f7 s7 => ?_
    have v7 : Var 32 h7 h1.size ({ m with tag := (tagF c.vals.len c.com L m row).1 } : Ms).tv := v7
    have x07 : Ext h h7 := Only.cut x06 f7 fun i hi => by omega
    refine ms_at v7 ?_
    have w3' : Var 32 h7 h2.size zeroM.tv := w3.only f7 (by omega)
    refine put_n w3' (t := ({ m with tag := (tagF c.vals.len c.com L m row).1 } : Ms).tv) mssz1 mssz fun h8 v8 f8 s8 => ms_at v8 ?_
    have := hr h8 (Only.cut x07 f8 fun i hi => by omega)
    rw [hs] at this
    exact this

/-! ### Votes -/

structure Vt where
  who : Int
  slot : Int
  target : Bs 32
def Vt.tv (v : Vt) : TV := .agg [.int .i64 v.who, .int .i64 v.slot, .bytes 32 v.target]
abbrev vts (l : List Vt) : List TV := l.map Vt.tv
theorem Vt.size (v : Vt) : v.tv.size = 34 := by simp only [Vt.tv, TV.size, TVs.size]
theorem Vt.plain (v : Vt) : v.tv.plain = true := by simp only [Vt.tv, TV.plain, TVs.plain, Bool.and_self]

noncomputable def votesF (n : Nat) (com : Int) (m : Ms) (row : List Bool) : List Vt :=
  if (speakF n com m row).2 = false ∨ m.kind = 1 then [] else (speakF n com m row).1.map fun i => ⟨i, m.slot, m.target⟩

theorem bytes41 : (ctx.ti 41).bytes = 48 := by kernel_rfl
theorem size41 : (ctx.ti 41).size = 34 := by kernel_rfl
theorem zsize41 : (ctx.ti 41).z.size = 34 := by kernel_rfl

theorem votes_spec {c : Cf} {m : Ms} {row : List Bool} (hv : c.vals.len < 900) (e : Elems 1 h m.bits (bools row)) (hl : row.length < 500)
    (hr : ∀ h' s', Elems 34 h' s' (vts (votesF c.vals.len c.com m row)) → Ext h h' → R (TV.slice s').val h') : CallsH Try.prog 12 (TVs.vals [c.tv, m.tv]) h R := by
  apply seal_Votes_calls c.vals c.ep c.com c.no c.orp c.ear c.quo c.pe c.by_ c.win c.ban c.dec m.kind m.slot m.target m.member m.body m.bits m.tag
  unfold seal_Votes_vc
  refine newTV_in fun h1 v1 x1 s1 => newTV_in fun h2 v2 x2 s2 => ?_
  have v1 : Var 24 h2 h.size c.tv := Var.ext (t := c.tv) v1 x2
  have v2 : Var 32 h2 h1.size m.tv := v2
  have x02 := x1.trans x2
  refine cf_at v1 (ms_at v2 (speak_spec hv (e.ext x02) (by omega) fun h3 s3 e3 x3 => ⟨_, _, rfl, ?_⟩))
  have x03 := x02.trans x3
  have w2 := v2.ext x3
  intro J HJ
  refine If.split (fun hb => ?_) fun hb => ⟨_, w2.at.1, If.dec.2 ⟨fun hk => ?_, fun hk => HJ _ _ ?_⟩⟩
  · have hs : votesF c.vals.len c.com m row = [] := if_pos (.inl (by simpa using hb))
    exact hr h3 Sl.nil (by rw [hs]; exact Elems.nil_ _ _) x03
  · have hs : votesF c.vals.len c.com m row = [] := if_pos (.inr hk)
    exact hr h3 Sl.nil (by rw [hs]; exact Elems.nil_ _ _) x03
  · have hb : (speakF c.vals.len c.com m row).2 = true := by simpa using hb
    have hs : votesF c.vals.len c.com m row = (speakF c.vals.len c.com m row).1.map fun i => ⟨i, m.slot, m.target⟩ := if_neg (by rw [hb]; rintro (h | h); cases h; exact hk h)
    have hlen := speak_len (n := c.vals.len) (com := c.com) (m := m) (row := row)
    generalize (speakF c.vals.len c.com m row).1 = l at e3 hs hlen
    have el := ints_len e3
    refine ⟨fun σ hh => 0 ≤ σ.2 ∧ σ.2 ≤ s3.len ∧ Own 41 34 hh σ.1 (vts ((l.take σ.2.toNat).map fun i => ⟨i, m.slot, m.target⟩)) ∧ (∀ p, σ.1.a = some p → h3.size ≤ p.b) ∧ Ext h3 hh, fun σ _ => ((s3.len : Int) - σ.2).toNat,
      ⟨Int.le_refl 0, by first | omega | (dsimp only; omega), Own.nil _ _ _, (fun p hp => by cases hp), Ext.refl _⟩, ?_⟩
    rintro ⟨t, i⟩ h5 ⟨i0, i1, o5, b5, x5⟩
    dsimp only at i0 i1 o5 b5 x5 ⊢
    refine If.dec.2 ⟨fun hi => ?_, fun hi => ?_⟩
    · refine read_int (e3.ext x5) i0 (by omega) fun x hx => ?_
      have w5 := w2.ext x5
      refine ⟨_, w5.at.2.1, _, w5.at.2.2.1, ?_⟩
      have tl := o5.len
      rw [List.length_map, List.length_map, List.length_take] at tl
      refine append1 (C := ctx) (T := 41) (sz := 34) (x := Vt.tv ⟨x, m.slot, m.target⟩) size41 zsize41 (by rw [bytes41]; decide) (by rw [bytes41]; omega) o5 (Vt.size _) (Vt.plain _) fun s9 h9 o9 f9 b9 => ?_
      rw [wrap_i64 (n := i + 1) (by omega) (by omega)]
      have x9 : Ext h3 h9 := Only.cut x5 f9 fun j ⟨p, hp, hj⟩ => by have := b5 p hp; omega
      have z5 := x5.size
      refine ⟨⟨by omega, by omega, ?_, fun p hp => ?_, x9⟩, by first | omega | (dsimp only; omega)⟩
      · rw [show (i + 1).toNat = i.toNat + 1 by omega, take_snoc hx, List.map_append]
        simpa [vts] using o9
      · rcases b9 p hp with ⟨p', h1', h2'⟩ | h1'
        · have := b5 p' h1'; omega
        · omega
    · have hall : l.take i.toNat = l := List.take_of_length_le (by omega)
      rw [hall] at o5
      refine hr h5 t ?_ (x03.trans x5)
      rw [hs]
      exact o5.elems

end
end Go.Proofs.Ytgdhddignbkloaa.Board
end

section
/- The conditions of functions, as the generator reckons them out, each with the proof that it is that. -/
namespace Go.Proofs.Ytgdhddignbkloaa
open Go Go.Vc
set_option maxRecDepth 100000
set_option linter.unusedVariables false

def tollerlaw08_alive_vc (h : Heap) (R : Value → Heap → Prop) : Prop :=
 Vc.Bind
 (newTV (Array.push h (row (TVs.cells [TV.agg [TV.int IntKind.i64 (5 : Int), TV.str (ByteArray.mk #[(107 : UInt8)]).data.toList]]) (59 : Nat)))
 (TV.agg
 [TV.slice Sl.nil, TV.int IntKind.i64 (0 : Int), TV.int IntKind.i64 (0 : Int), TV.int IntKind.i64 (0 : Int), TV.int IntKind.i64 (0 : Int),
 TV.int IntKind.i64 (0 : Int), TV.int IntKind.i64 (0 : Int), TV.int IntKind.i64 (0 : Int), TV.int IntKind.i64 (0 : Int), TV.int IntKind.i64 (0 : Int),
 TV.int IntKind.i64 (0 : Int), TV.int IntKind.i64 (0 : Int)])
 (24 : Nat))
 fun (h_1 : Array Obj) ↦
 wok h_1 (Array.size (Array.push h (row (TVs.cells [TV.agg [TV.int IntKind.i64 (5 : Int), TV.str (ByteArray.mk #[(107 : UInt8)]).data.toList]]) (59 : Nat))))
 (0 : Nat) (12 : Nat) ∧
 Vc.Bind
 (TV.put h_1
 (Array.size (Array.push h (row (TVs.cells [TV.agg [TV.int IntKind.i64 (5 : Int), TV.str (ByteArray.mk #[(107 : UInt8)]).data.toList]]) (59 : Nat))))
 (0 : Nat)
 (TV.agg
 [TV.slice (Sl.mk (some (Loc.mk (Array.size h) (0 : Nat))) (1 : Nat) (1 : Nat)), TV.int IntKind.i64 (4 : Int), TV.int IntKind.i64 (1 : Int),
 TV.int IntKind.i64 (1 : Int), TV.int IntKind.i64 (1 : Int), TV.int IntKind.i64 (1 : Int), TV.int IntKind.i64 (1 : Int),
 TV.int IntKind.i64 (1 : Int), TV.int IntKind.i64 (1 : Int), TV.int IntKind.i64 (1 : Int), TV.int IntKind.i64 (1 : Int),
 TV.int IntKind.i64 (1 : Int)]))
 fun (h_2 : Array Obj) ↦
 ∃ (s : Sl),
 ∃ (n : Int),
 ∃ (n_1 : Int),
 ∃ (n_2 : Int),
 ∃ (n_3 : Int),
 ∃ (n_4 : Int),
 ∃ (n_5 : Int),
 ∃ (n_6 : Int),
 ∃ (n_7 : Int),
 ∃ (n_8 : Int),
 ∃ (n_9 : Int),
 ∃ (n_10 : Int),
 (at1 h_2
 (Array.size
 (Array.push h
 (row (TVs.cells [TV.agg [TV.int IntKind.i64 (5 : Int), TV.str (ByteArray.mk #[(107 : UInt8)]).data.toList]])
 (59 : Nat))))
 (0 : Nat) (slVal s) ∧
 at1 h_2
 (Array.size
 (Array.push h
 (row (TVs.cells [TV.agg [TV.int IntKind.i64 (5 : Int), TV.str (ByteArray.mk #[(107 : UInt8)]).data.toList]])
 (59 : Nat))))
 (1 : Nat) (Value.int IntKind.i64 n) ∧
 at1 h_2
 (Array.size
 (Array.push h
 (row (TVs.cells [TV.agg [TV.int IntKind.i64 (5 : Int), TV.str (ByteArray.mk #[(107 : UInt8)]).data.toList]])
 (59 : Nat))))
 (2 : Nat) (Value.int IntKind.i64 n_1) ∧
 at1 h_2
 (Array.size
 (Array.push h
 (row (TVs.cells [TV.agg [TV.int IntKind.i64 (5 : Int), TV.str (ByteArray.mk #[(107 : UInt8)]).data.toList]])
 (59 : Nat))))
 (3 : Nat) (Value.int IntKind.i64 n_2) ∧
 at1 h_2
 (Array.size
 (Array.push h
 (row (TVs.cells [TV.agg [TV.int IntKind.i64 (5 : Int), TV.str (ByteArray.mk #[(107 : UInt8)]).data.toList]])
 (59 : Nat))))
 (4 : Nat) (Value.int IntKind.i64 n_3) ∧
 at1 h_2
 (Array.size
 (Array.push h
 (row (TVs.cells [TV.agg [TV.int IntKind.i64 (5 : Int), TV.str (ByteArray.mk #[(107 : UInt8)]).data.toList]])
 (59 : Nat))))
 (5 : Nat) (Value.int IntKind.i64 n_4) ∧
 at1 h_2
 (Array.size
 (Array.push h
 (row (TVs.cells [TV.agg [TV.int IntKind.i64 (5 : Int), TV.str (ByteArray.mk #[(107 : UInt8)]).data.toList]])
 (59 : Nat))))
 (6 : Nat) (Value.int IntKind.i64 n_5) ∧
 at1 h_2
 (Array.size
 (Array.push h
 (row
 (TVs.cells [TV.agg [TV.int IntKind.i64 (5 : Int), TV.str (ByteArray.mk #[(107 : UInt8)]).data.toList]])
 (59 : Nat))))
 (7 : Nat) (Value.int IntKind.i64 n_6) ∧
 at1 h_2
 (Array.size
 (Array.push h
 (row
 (TVs.cells
 [TV.agg [TV.int IntKind.i64 (5 : Int), TV.str (ByteArray.mk #[(107 : UInt8)]).data.toList]])
 (59 : Nat))))
 (8 : Nat) (Value.int IntKind.i64 n_7) ∧
 at1 h_2
 (Array.size
 (Array.push h
 (row
 (TVs.cells
 [TV.agg [TV.int IntKind.i64 (5 : Int), TV.str (ByteArray.mk #[(107 : UInt8)]).data.toList]])
 (59 : Nat))))
 (9 : Nat) (Value.int IntKind.i64 n_8) ∧
 at1 h_2
 (Array.size
 (Array.push h
 (row
 (TVs.cells
 [TV.agg [TV.int IntKind.i64 (5 : Int), TV.str (ByteArray.mk #[(107 : UInt8)]).data.toList]])
 (59 : Nat))))
 (10 : Nat) (Value.int IntKind.i64 n_9) ∧
 at1 h_2
 (Array.size
 (Array.push h
 (row
 (TVs.cells
 [TV.agg [TV.int IntKind.i64 (5 : Int), TV.str (ByteArray.mk #[(107 : UInt8)]).data.toList]])
 (59 : Nat))))
 (11 : Nat) (Value.int IntKind.i64 n_10)) ∧
 CallsH Try.prog (22 : Nat)
 (TVs.vals
 [TV.agg
 [TV.slice s, TV.int IntKind.i64 n, TV.int IntKind.i64 n_1, TV.int IntKind.i64 n_2, TV.int IntKind.i64 n_3,
 TV.int IntKind.i64 n_4, TV.int IntKind.i64 n_5, TV.int IntKind.i64 n_6, TV.int IntKind.i64 n_7,
 TV.int IntKind.i64 n_8, TV.int IntKind.i64 n_9, TV.int IntKind.i64 n_10],
 TV.agg
 [TV.int IntKind.i64 (1 : Int), TV.int IntKind.i64 (3 : Int), TV.bytes (32 : Nat) (Bs.zero (32 : Nat)),
 TV.int IntKind.i64 (0 : Int), TV.int IntKind.u64 (0 : Int), TV.slice Sl.nil,
 TV.bytes (16 : Nat) (Bs.zero (16 : Nat))]])
 h_2 fun (v : Value) (h_3 : Array Obj) ↦
 ∃ (n : Int),
 ∃ (n_11 : Int),
 ∃ (b : Bs (32 : Nat)),
 ∃ (n_12 : Int),
 ∃ (n_13 : Int),
 ∃ (s : Sl),
 ∃ (b_1 : Bs (16 : Nat)),
 ∃ (b_2 : Bool),
 v =
 TV.val
 (TV.tup
 [TV.agg
 [TV.int IntKind.i64 n, TV.int IntKind.i64 n_11, TV.bytes (32 : Nat) b, TV.int IntKind.i64 n_12,
 TV.int IntKind.u64 n_13, TV.slice s, TV.bytes (16 : Nat) b_1],
 TV.bool b_2]) ∧
 Vc.Bind
 (newTV h_3
 (TV.agg
 [TV.int IntKind.i64 (0 : Int), TV.int IntKind.i64 (0 : Int), TV.bytes (32 : Nat) (Bs.zero (32 : Nat)),
 TV.int IntKind.i64 (0 : Int), TV.int IntKind.u64 (0 : Int), TV.slice Sl.nil,
 TV.bytes (16 : Nat) (Bs.zero (16 : Nat))])
 (32 : Nat))
 fun (h_4 : Array Obj) ↦
 wok h_4 (Array.size h_3) (0 : Nat) (53 : Nat) ∧
 Vc.Bind
 (TV.put h_4 (Array.size h_3) (0 : Nat)
 (TV.agg
 [TV.int IntKind.i64 n, TV.int IntKind.i64 n_11, TV.bytes (32 : Nat) b, TV.int IntKind.i64 n_12,
 TV.int IntKind.u64 n_13, TV.slice s, TV.bytes (16 : Nat) b_1]))
 fun (h_5 : Array Obj) ↦
 ∃ (s : Sl),
 ∃ (n : Int),
 ∃ (n_14 : Int),
 ∃ (n_15 : Int),
 ∃ (n_16 : Int),
 ∃ (n_17 : Int),
 ∃ (n_18 : Int),
 ∃ (n_19 : Int),
 ∃ (n_20 : Int),
 ∃ (n_21 : Int),
 ∃ (n_22 : Int),
 ∃ (n_23 : Int),
 (at1 h_5
 (Array.size
 (Array.push h
 (row
 (TVs.cells
 [TV.agg
 [TV.int IntKind.i64 (5 : Int),
 TV.str (ByteArray.mk #[(107 : UInt8)]).data.toList]])
 (59 : Nat))))
 (0 : Nat) (slVal s) ∧
 at1 h_5
 (Array.size
 (Array.push h
 (row
 (TVs.cells
 [TV.agg
 [TV.int IntKind.i64 (5 : Int),
 TV.str (ByteArray.mk #[(107 : UInt8)]).data.toList]])
 (59 : Nat))))
 (1 : Nat) (Value.int IntKind.i64 n) ∧
 at1 h_5
 (Array.size
 (Array.push h
 (row
 (TVs.cells
 [TV.agg
 [TV.int IntKind.i64 (5 : Int),
 TV.str (ByteArray.mk #[(107 : UInt8)]).data.toList]])
 (59 : Nat))))
 (2 : Nat) (Value.int IntKind.i64 n_14) ∧
 at1 h_5
 (Array.size
 (Array.push h
 (row
 (TVs.cells
 [TV.agg
 [TV.int IntKind.i64 (5 : Int),
 TV.str
 (ByteArray.mk #[(107 : UInt8)]).data.toList]])
 (59 : Nat))))
 (3 : Nat) (Value.int IntKind.i64 n_15) ∧
 at1 h_5
 (Array.size
 (Array.push h
 (row
 (TVs.cells
 [TV.agg
 [TV.int IntKind.i64 (5 : Int),
 TV.str
 (ByteArray.mk #[(107 : UInt8)]).data.toList]])
 (59 : Nat))))
 (4 : Nat) (Value.int IntKind.i64 n_16) ∧
 at1 h_5
 (Array.size
 (Array.push h
 (row
 (TVs.cells
 [TV.agg
 [TV.int IntKind.i64 (5 : Int),
 TV.str
 (ByteArray.mk #[(107 : UInt8)]).data.toList]])
 (59 : Nat))))
 (5 : Nat) (Value.int IntKind.i64 n_17) ∧
 at1 h_5
 (Array.size
 (Array.push h
 (row
 (TVs.cells
 [TV.agg
 [TV.int IntKind.i64 (5 : Int),
 TV.str
 (ByteArray.mk
 #[(107 : UInt8)]).data.toList]])
 (59 : Nat))))
 (6 : Nat) (Value.int IntKind.i64 n_18) ∧
 at1 h_5
 (Array.size
 (Array.push h
 (row
 (TVs.cells
 [TV.agg
 [TV.int IntKind.i64 (5 : Int),
 TV.str
 (ByteArray.mk
 #[(107 : UInt8)]).data.toList]])
 (59 : Nat))))
 (7 : Nat) (Value.int IntKind.i64 n_19) ∧
 at1 h_5
 (Array.size
 (Array.push h
 (row
 (TVs.cells
 [TV.agg
 [TV.int IntKind.i64 (5 : Int),
 TV.str
 (ByteArray.mk
 #[(107 : UInt8)]).data.toList]])
 (59 : Nat))))
 (8 : Nat) (Value.int IntKind.i64 n_20) ∧
 at1 h_5
 (Array.size
 (Array.push h
 (row
 (TVs.cells
 [TV.agg
 [TV.int IntKind.i64 (5 : Int),
 TV.str
 (ByteArray.mk
 #[(107 : UInt8)]).data.toList]])
 (59 : Nat))))
 (9 : Nat) (Value.int IntKind.i64 n_21) ∧
 at1 h_5
 (Array.size
 (Array.push h
 (row
 (TVs.cells
 [TV.agg
 [TV.int IntKind.i64 (5 : Int),
 TV.str
 (ByteArray.mk
 #[(107 :
 UInt8)]).data.toList]])
 (59 : Nat))))
 (10 : Nat) (Value.int IntKind.i64 n_22) ∧
 at1 h_5
 (Array.size
 (Array.push h
 (row
 (TVs.cells
 [TV.agg
 [TV.int IntKind.i64 (5 : Int),
 TV.str
 (ByteArray.mk
 #[(107 :
 UInt8)]).data.toList]])
 (59 : Nat))))
 (11 : Nat) (Value.int IntKind.i64 n_23)) ∧
 CallsH Try.prog (12 : Nat)
 (TVs.vals
 [TV.agg
 [TV.slice s, TV.int IntKind.i64 n, TV.int IntKind.i64 n_14,
 TV.int IntKind.i64 n_15, TV.int IntKind.i64 n_16,
 TV.int IntKind.i64 n_17, TV.int IntKind.i64 n_18,
 TV.int IntKind.i64 n_19, TV.int IntKind.i64 n_20,
 TV.int IntKind.i64 n_21, TV.int IntKind.i64 n_22,
 TV.int IntKind.i64 n_23],
 TV.agg
 [TV.int IntKind.i64 (3 : Int), TV.int IntKind.i64 (3 : Int),
 TV.bytes (32 : Nat) (Bs.zero (32 : Nat)),
 TV.int IntKind.i64 (0 : Int), TV.int IntKind.u64 (0 : Int),
 TV.slice
 (Sl.mk (some (Loc.mk (Array.size h_5) (0 : Nat))) (1 : Nat)
 (1 : Nat)),
 TV.bytes (16 : Nat) (Bs.zero (16 : Nat))]])
 (Array.push h_5 (row (TVs.cells [TV.bool true]) (4 : Nat)))
 fun (v : Value) (h_6 : Array Obj) ↦
 ∃ (s : Sl),
 v = TV.val (TV.slice s) ∧
 If b_2
 (∃ (s_1 : Sl),
 ∃ (n : Int),
 ∃ (n_24 : Int),
 ∃ (n_25 : Int),
 ∃ (n_26 : Int),
 ∃ (n_27 : Int),
 ∃ (n_28 : Int),
 ∃ (n_29 : Int),
 ∃ (n_30 : Int),
 ∃ (n_31 : Int),
 ∃ (n_32 : Int),
 ∃ (n_33 : Int),
 (at1 h_6
 (Array.size
 (Array.push h
 (row
 (TVs.cells
 [TV.agg
 [TV.int IntKind.i64
 (5 : Int),
 TV.str
 (ByteArray.mk
 #[(107 :
 UInt8)]).data.toList]])
 (59 : Nat))))
 (0 : Nat) (slVal s_1) ∧
 at1 h_6
 (Array.size
 (Array.push h
 (row
 (TVs.cells
 [TV.agg
 [TV.int IntKind.i64
 (5 : Int),
 TV.str
 (ByteArray.mk
 #[(107 :
 UInt8)]).data.toList]])
 (59 : Nat))))
 (1 : Nat)
 (Value.int IntKind.i64 n) ∧
 at1 h_6
 (Array.size
 (Array.push h
 (row
 (TVs.cells
 [TV.agg
 [TV.int IntKind.i64
 (5 : Int),
 TV.str
 (ByteArray.mk
 #[(107 :
 UInt8)]).data.toList]])
 (59 : Nat))))
 (2 : Nat)
 (Value.int IntKind.i64 n_24) ∧
 at1 h_6
 (Array.size
 (Array.push h
 (row
 (TVs.cells
 [TV.agg
 [TV.int IntKind.i64
 (5 : Int),
 TV.str
 (ByteArray.mk
 #[(107 :
 UInt8)]).data.toList]])
 (59 : Nat))))
 (3 : Nat)
 (Value.int IntKind.i64 n_25) ∧
 at1 h_6
 (Array.size
 (Array.push h
 (row
 (TVs.cells
 [TV.agg
 [TV.int
 IntKind.i64
 (5 : Int),
 TV.str
 (ByteArray.mk
 #[(107 :
 UInt8)]).data.toList]])
 (59 : Nat))))
 (4 : Nat)
 (Value.int IntKind.i64 n_26) ∧
 at1 h_6
 (Array.size
 (Array.push h
 (row
 (TVs.cells
 [TV.agg
 [TV.int
 IntKind.i64
 (5 : Int),
 TV.str
 (ByteArray.mk
 #[(107 :
 UInt8)]).data.toList]])
 (59 : Nat))))
 (5 : Nat)
 (Value.int IntKind.i64
 n_27) ∧
 at1 h_6
 (Array.size
 (Array.push h
 (row
 (TVs.cells
 [TV.agg
 [TV.int
 IntKind.i64
 (5 : Int),
 TV.str
 (ByteArray.mk
 #[(107 :
 UInt8)]).data.toList]])
 (59 : Nat))))
 (6 : Nat)
 (Value.int IntKind.i64
 n_28) ∧
 at1 h_6
 (Array.size
 (Array.push h
 (row
 (TVs.cells
 [TV.agg
 [TV.int
 IntKind.i64
 (5 :
 Int),
 TV.str
 (ByteArray.mk
 #[(107 :
 UInt8)]).data.toList]])
 (59 : Nat))))
 (7 : Nat)
 (Value.int IntKind.i64
 n_29) ∧
 at1 h_6
 (Array.size
 (Array.push h
 (row
 (TVs.cells
 [TV.agg
 [TV.int
 IntKind.i64
 (5 :
 Int),
 TV.str
 (ByteArray.mk
 #[(107 :
 UInt8)]).data.toList]])
 (59 : Nat))))
 (8 : Nat)
 (Value.int IntKind.i64
 n_30) ∧
 at1 h_6
 (Array.size
 (Array.push h
 (row
 (TVs.cells
 [TV.agg
 [TV.int
 IntKind.i64
 (5 :
 Int),
 TV.str
 (ByteArray.mk
 #[(107 :
 UInt8)]).data.toList]])
 (59 : Nat))))
 (9 : Nat)
 (Value.int
 IntKind.i64
 n_31) ∧
 at1 h_6
 (Array.size
 (Array.push h
 (row
 (TVs.cells
 [TV.agg
 [TV.int
 IntKind.i64
 (5 :
 Int),
 TV.str
 (ByteArray.mk
 #[(107 :
 UInt8)]).data.toList]])
 (59 :
 Nat))))
 (10 : Nat)
 (Value.int
 IntKind.i64
 n_32) ∧
 at1 h_6
 (Array.size
 (Array.push h
 (row
 (TVs.cells
 [TV.agg
 [TV.int
 IntKind.i64
 (5 :
 Int),
 TV.str
 (ByteArray.mk
 #[(107 :
 UInt8)]).data.toList]])
 (59 :
 Nat))))
 (11 : Nat)
 (Value.int
 IntKind.i64
 n_33)) ∧
 ∃ (n_34 : Int),
 ∃ (n_35 : Int),
 ∃ (b : Bs (32 : Nat)),
 ∃ (n_36 : Int),
 ∃ (n_37 : Int),
 ∃ (s_2 : Sl),
 ∃ (b_3 : Bs (16 : Nat)),
 (at1 h_6 (Array.size h_3)
 (0 : Nat)
 (Value.int IntKind.i64
 n_34) ∧
 at1 h_6 (Array.size h_3)
 (1 : Nat)
 (Value.int
 IntKind.i64
 n_35) ∧
 atBytes h_6
 (Array.size h_3)
 (2 : Nat)
 (32 : Nat) b ∧
 at1 h_6
 (Array.size h_3)
 (34 : Nat)
 (Value.int
 IntKind.i64
 n_36) ∧
 at1 h_6
 (Array.size
 h_3)
 (35 : Nat)
 (Value.int
 IntKind.u64
 n_37) ∧
 at1 h_6
 (Array.size
 h_3)
 (36 : Nat)
 (slVal
 s_2) ∧
 atBytes h_6
 (Array.size
 h_3)
 (37 : Nat)
 (16 : Nat)
 b_3) ∧
 CallsH Try.prog (17 : Nat)
 (TVs.vals
 [TV.agg
 [TV.slice s_1,
 TV.int
 IntKind.i64 n,
 TV.int
 IntKind.i64
 n_24,
 TV.int
 IntKind.i64
 n_25,
 TV.int
 IntKind.i64
 n_26,
 TV.int
 IntKind.i64
 n_27,
 TV.int
 IntKind.i64
 n_28,
 TV.int
 IntKind.i64
 n_29,
 TV.int
 IntKind.i64
 n_30,
 TV.int
 IntKind.i64
 n_31,
 TV.int
 IntKind.i64
 n_32,
 TV.int
 IntKind.i64
 n_33],
 TV.agg
 [TV.int
 IntKind.i64
 n_34,
 TV.int
 IntKind.i64
 n_35,
 TV.bytes
 (32 : Nat) b,
 TV.int
 IntKind.i64
 n_36,
 TV.int
 IntKind.u64
 n_37,
 TV.slice s_2,
 TV.bytes
 (16 : Nat)
 b_3]])
 h_6
 fun (v : Value)
 (h : Array Obj) ↦
 ∃ (b : Bool),
 v =
 TV.val
 (TV.bool b) ∧
 If b
 (∃ (b :
 Bs (16 : Nat)),
 atBytes h
 (Array.size
 h_3)
 (37 : Nat)
 (16 : Nat)
 b ∧
 If
 (!decide
 (b.l =
 (Bs.zero
 (16 :
 Nat)).l))
 (If
 (decide
 ((↑s.len :
 Int) =
 (1 :
 Int)))
 ((0 :
 Int) ≤
 (0 :
 Int) ∧
 (0 :
 Int) <
 (↑s.len :
 Int) ∧
 Nn s.a
 fun
 (l :
 Go.Vc.Loc) ↦
 ∃ (n
 :
 Int),
 at1
 h
 l.b
 (l.o +
 Int.toNat
 (0 :
 Int) *
 (34 :
 Nat) +
 (1 :
 Nat))
 (Value.int
 IntKind.i64
 n) ∧
 R
 (TV.val
 (TV.bool
 (decide
 (n =
 (3 :
 Int)))))
 h)
 (R
 (TV.val
 (TV.bool
 false))
 h))
 (R
 (TV.val
 (TV.bool
 false))
 h))
 (R
 (TV.val
 (TV.bool
 false))
 h))
 (R (TV.val (TV.bool false)) h_6)

theorem tollerlaw08_alive_calls (h : Heap) (R : Value → Heap → Prop) (H : tollerlaw08_alive_vc h R) : CallsH Try.prog 9 (TVs.vals []) h R :=
 vcFn_sound (C := ctx) ctx_ok (fn := Try.f9) Try.func9 ((by kernel_rfl : tollerlaw08_alive_vc h R = vcFn ctx Try.f9 [] h R) ▸ H)


def tollerlaw08_great_vc (c_Validators : Sl) (c_Epoch : Int) (c_Committee : Int) (c_Nodes : Int) (c_Orphans : Int) (c_Early : Int) (c_Quota : Int) (c_Peers : Int) (c_Bytes : Int) (c_Window : Int) (c_Ban : Int) (c_Decay : Int) (m_Kind : Int) (m_Slot : Int) (m_Target : Bs (32 : Nat)) (m_Member : Int) (m_Body : Int) (m_Bits : Sl) (m_Tag : Bs (16 : Nat)) (h : Heap) (R : Value → Heap → Prop) : Prop :=
 Vc.Bind
 (newTV h
 (TV.agg
 [TV.slice c_Validators, TV.int IntKind.i64 c_Epoch, TV.int IntKind.i64 c_Committee, TV.int IntKind.i64 c_Nodes, TV.int IntKind.i64 c_Orphans,
 TV.int IntKind.i64 c_Early, TV.int IntKind.i64 c_Quota, TV.int IntKind.i64 c_Peers, TV.int IntKind.i64 c_Bytes, TV.int IntKind.i64 c_Window,
 TV.int IntKind.i64 c_Ban, TV.int IntKind.i64 c_Decay])
 (24 : Nat))
 fun (h_1 : Array Obj) ↦
 Vc.Bind
 (newTV h_1
 (TV.agg
 [TV.int IntKind.i64 m_Kind, TV.int IntKind.i64 m_Slot, TV.bytes (32 : Nat) m_Target, TV.int IntKind.i64 m_Member, TV.int IntKind.u64 m_Body,
 TV.slice m_Bits, TV.bytes (16 : Nat) m_Tag])
 (32 : Nat))
 fun (h_2 : Array Obj) ↦
 ∃ (s : Sl),
 ∃ (n : Int),
 ∃ (n_1 : Int),
 ∃ (n_2 : Int),
 ∃ (n_3 : Int),
 ∃ (n_4 : Int),
 ∃ (n_5 : Int),
 ∃ (n_6 : Int),
 ∃ (n_7 : Int),
 ∃ (n_8 : Int),
 ∃ (n_9 : Int),
 ∃ (n_10 : Int),
 (at1 h_2 (Array.size h) (0 : Nat) (slVal s) ∧
 at1 h_2 (Array.size h) (1 : Nat) (Value.int IntKind.i64 n) ∧
 at1 h_2 (Array.size h) (2 : Nat) (Value.int IntKind.i64 n_1) ∧
 at1 h_2 (Array.size h) (3 : Nat) (Value.int IntKind.i64 n_2) ∧
 at1 h_2 (Array.size h) (4 : Nat) (Value.int IntKind.i64 n_3) ∧
 at1 h_2 (Array.size h) (5 : Nat) (Value.int IntKind.i64 n_4) ∧
 at1 h_2 (Array.size h) (6 : Nat) (Value.int IntKind.i64 n_5) ∧
 at1 h_2 (Array.size h) (7 : Nat) (Value.int IntKind.i64 n_6) ∧
 at1 h_2 (Array.size h) (8 : Nat) (Value.int IntKind.i64 n_7) ∧
 at1 h_2 (Array.size h) (9 : Nat) (Value.int IntKind.i64 n_8) ∧
 at1 h_2 (Array.size h) (10 : Nat) (Value.int IntKind.i64 n_9) ∧
 at1 h_2 (Array.size h) (11 : Nat) (Value.int IntKind.i64 n_10)) ∧
 CallsH Try.prog (24 : Nat)
 (TVs.vals
 [TV.agg
 [TV.slice s, TV.int IntKind.i64 n, TV.int IntKind.i64 n_1, TV.int IntKind.i64 n_2, TV.int IntKind.i64 n_3,
 TV.int IntKind.i64 n_4, TV.int IntKind.i64 n_5, TV.int IntKind.i64 n_6, TV.int IntKind.i64 n_7, TV.int IntKind.i64 n_8,
 TV.int IntKind.i64 n_9, TV.int IntKind.i64 n_10]])
 h_2 fun (v : Value) (h_3 : Array Obj) ↦
 ∃ (b : Bool),
 v = TV.val (TV.bool b) ∧
 If b (R (TV.val (TV.bool true)) h_3)
 (∃ (s : Sl),
 ∃ (n : Int),
 ∃ (n_11 : Int),
 ∃ (n_12 : Int),
 ∃ (n_13 : Int),
 ∃ (n_14 : Int),
 ∃ (n_15 : Int),
 ∃ (n_16 : Int),
 ∃ (n_17 : Int),
 ∃ (n_18 : Int),
 ∃ (n_19 : Int),
 ∃ (n_20 : Int),
 (at1 h_3 (Array.size h) (0 : Nat) (slVal s) ∧
 at1 h_3 (Array.size h) (1 : Nat) (Value.int IntKind.i64 n) ∧
 at1 h_3 (Array.size h) (2 : Nat) (Value.int IntKind.i64 n_11) ∧
 at1 h_3 (Array.size h) (3 : Nat) (Value.int IntKind.i64 n_12) ∧
 at1 h_3 (Array.size h) (4 : Nat) (Value.int IntKind.i64 n_13) ∧
 at1 h_3 (Array.size h) (5 : Nat) (Value.int IntKind.i64 n_14) ∧
 at1 h_3 (Array.size h) (6 : Nat) (Value.int IntKind.i64 n_15) ∧
 at1 h_3 (Array.size h) (7 : Nat) (Value.int IntKind.i64 n_16) ∧
 at1 h_3 (Array.size h) (8 : Nat) (Value.int IntKind.i64 n_17) ∧
 at1 h_3 (Array.size h) (9 : Nat) (Value.int IntKind.i64 n_18) ∧
 at1 h_3 (Array.size h) (10 : Nat) (Value.int IntKind.i64 n_19) ∧
 at1 h_3 (Array.size h) (11 : Nat) (Value.int IntKind.i64 n_20)) ∧
 CallsH Try.prog (25 : Nat)
 (TVs.vals
 [TV.agg
 [TV.slice s, TV.int IntKind.i64 n, TV.int IntKind.i64 n_11, TV.int IntKind.i64 n_12,
 TV.int IntKind.i64 n_13, TV.int IntKind.i64 n_14, TV.int IntKind.i64 n_15,
 TV.int IntKind.i64 n_16, TV.int IntKind.i64 n_17, TV.int IntKind.i64 n_18,
 TV.int IntKind.i64 n_19, TV.int IntKind.i64 n_20]])
 h_3 fun (v : Value) (h : Array Obj) ↦
 ∃ (b : Bool),
 v = TV.val (TV.bool b) ∧
 If (!b) (R (TV.val (TV.bool true)) h)
 (∃ (s : Sl),
 at1 h (Array.size h_1) (36 : Nat) (slVal s) ∧
 R (TV.val (TV.bool (decide ((200 : Int) < (↑s.len : Int))))) h))

theorem tollerlaw08_great_calls (c_Validators : Sl) (c_Epoch : Int) (c_Committee : Int) (c_Nodes : Int) (c_Orphans : Int) (c_Early : Int) (c_Quota : Int) (c_Peers : Int) (c_Bytes : Int) (c_Window : Int) (c_Ban : Int) (c_Decay : Int) (m_Kind : Int) (m_Slot : Int) (m_Target : Bs (32 : Nat)) (m_Member : Int) (m_Body : Int) (m_Bits : Sl) (m_Tag : Bs (16 : Nat)) (h : Heap) (R : Value → Heap → Prop) (H : tollerlaw08_great_vc c_Validators c_Epoch c_Committee c_Nodes c_Orphans c_Early c_Quota c_Peers c_Bytes c_Window c_Ban c_Decay m_Kind m_Slot m_Target m_Member m_Body m_Bits m_Tag h R) : CallsH Try.prog 10 (TVs.vals [TV.agg [TV.slice c_Validators, TV.int IntKind.i64 c_Epoch, TV.int IntKind.i64 c_Committee, TV.int IntKind.i64 c_Nodes, TV.int IntKind.i64 c_Orphans, TV.int IntKind.i64 c_Early, TV.int IntKind.i64 c_Quota, TV.int IntKind.i64 c_Peers, TV.int IntKind.i64 c_Bytes, TV.int IntKind.i64 c_Window, TV.int IntKind.i64 c_Ban, TV.int IntKind.i64 c_Decay], TV.agg [TV.int IntKind.i64 m_Kind, TV.int IntKind.i64 m_Slot, TV.bytes (32 : Nat) m_Target, TV.int IntKind.i64 m_Member, TV.int IntKind.u64 m_Body, TV.slice m_Bits, TV.bytes (16 : Nat) m_Tag]]) h R :=
 vcFn_sound (C := ctx) ctx_ok (fn := Try.f10) Try.func10 ((by kernel_rfl : tollerlaw08_great_vc c_Validators c_Epoch c_Committee c_Nodes c_Orphans c_Early c_Quota c_Peers c_Bytes c_Window c_Ban c_Decay m_Kind m_Slot m_Target m_Member m_Body m_Bits m_Tag h R = vcFn ctx Try.f10 [TV.agg [TV.slice c_Validators, TV.int IntKind.i64 c_Epoch, TV.int IntKind.i64 c_Committee, TV.int IntKind.i64 c_Nodes, TV.int IntKind.i64 c_Orphans, TV.int IntKind.i64 c_Early, TV.int IntKind.i64 c_Quota, TV.int IntKind.i64 c_Peers, TV.int IntKind.i64 c_Bytes, TV.int IntKind.i64 c_Window, TV.int IntKind.i64 c_Ban, TV.int IntKind.i64 c_Decay], TV.agg [TV.int IntKind.i64 m_Kind, TV.int IntKind.i64 m_Slot, TV.bytes (32 : Nat) m_Target, TV.int IntKind.i64 m_Member, TV.int IntKind.u64 m_Body, TV.slice m_Bits, TV.bytes (16 : Nat) m_Tag]] h R) ▸ H)


def tollerref08_Same_vc (a : Sl) (b : Sl) (h : Heap) (R : Value → Heap → Prop) : Prop :=
 If (!decide ((↑a.len : Int) = (↑b.len : Int))) (R (TV.val (TV.bool false)) h)
 (Go.Vc.Loop (false, (0 : Int)) h fun (s : Bool × Int) (h : Array Obj) (K : Bool × Int → Array Obj → Prop) ↦
 If (decide (s.snd < (↑a.len : Int)))
 ((0 : Int) ≤ s.snd ∧
 s.snd < (↑a.len : Int) ∧
 Nn a.a fun (l : Go.Vc.Loc) ↦
 ∃ (n : Int),
 ∃ (n_1 : Int),
 ∃ (b_1 : Bs (32 : Nat)),
 (at1 h l.b (l.o + Int.toNat s.snd * (34 : Nat)) (Value.int IntKind.i64 n) ∧
 at1 h l.b (l.o + Int.toNat s.snd * (34 : Nat) + (1 : Nat)) (Value.int IntKind.i64 n_1) ∧
 atBytes h l.b (l.o + Int.toNat s.snd * (34 : Nat) + (1 : Nat) + (1 : Nat)) (32 : Nat) b_1) ∧
 (0 : Int) ≤ s.snd ∧
 s.snd < (↑b.len : Int) ∧
 Nn b.a fun (l : Go.Vc.Loc) ↦
 ∃ (n_2 : Int),
 ∃ (n_3 : Int),
 ∃ (b : Bs (32 : Nat)),
 (at1 h l.b (l.o + Int.toNat s.snd * (34 : Nat)) (Value.int IntKind.i64 n_2) ∧
 at1 h l.b (l.o + Int.toNat s.snd * (34 : Nat) + (1 : Nat)) (Value.int IntKind.i64 n_3) ∧
 atBytes h l.b (l.o + Int.toNat s.snd * (34 : Nat) + (1 : Nat) + (1 : Nat)) (32 : Nat) b) ∧
 If (!(decide (n = n_2) && (decide (n_1 = n_3) && (decide (b_1.l = b.l) && true)))) (R (TV.val (TV.bool false)) h)
 (K (s.fst, IntKind.wrap IntKind.i64 (s.snd + (1 : Int))) h))
 (R (TV.val (TV.bool true)) h))

theorem tollerref08_Same_calls (a : Sl) (b : Sl) (h : Heap) (R : Value → Heap → Prop) (H : tollerref08_Same_vc a b h R) : CallsH Try.prog 16 (TVs.vals [TV.slice a, TV.slice b]) h R :=
 vcFn_sound (C := ctx) ctx_ok (fn := Try.f16) Try.func16 ((by kernel_rfl : tollerref08_Same_vc a b h R = vcFn ctx Try.f16 [TV.slice a, TV.slice b] h R) ▸ H)


end Go.Proofs.Ytgdhddignbkloaa
end

section
/- That something is done at all; who may play; rows of votes are the same. -/
namespace Go.Proofs.Ytgdhddignbkloaa.Board
open Go Go.Vc

/-- What a message's tag is plays no part. -/
theorem tag1_tag (L : List Vd) (m : Ms) (row : List Bool) (t : Bs 16) (i : Int) : tag1 L { m with tag := t } row i = tag1 L m row i := by
  unfold tag1 oneF oneR
  by_cases h : m.kind = 3
  · simp only [if_pos h]
  · simp only [if_neg h]
    rfl

theorem speak_tag (n : Nat) (com : Int) (m : Ms) (row : List Bool) (t : Bs 16) : speakF n com { m with tag := t } row = speakF n com m row := rfl

theorem tagF_tag (n : Nat) (com : Int) (L : List Vd) (m : Ms) (row : List Bool) (t : Bs 16) : tagF n com L { m with tag := t } row = tagF n com L m row := by
  unfold tagF
  rw [speak_tag, show tag1 L { m with tag := t } row = tag1 L m row from funext fun i => tag1_tag L m row t i]

theorem votes_tag (n : Nat) (com : Int) (m : Ms) (row : List Bool) (t : Bs 16) : votesF n com { m with tag := t } row = votesF n com m row := rfl

def aM : Ms := ⟨1, 3, Bs.zero 32, 0, 0, Sl.nil, Bs.zero 16⟩
def aL : List Vd := [⟨5, [107]⟩]

set_option maxRecDepth 1000000 in
set_option maxHeartbeats 4000000 in
theorem alive_tag : (joinF [tag1 aL aM [] 0] (Bs.zero 16)).l ≠ (Bs.zero 16).l := by decide +kernel

theorem mem1 : mem 1 1 3 = [0] := by
  rw [mem_eq (by decide) (by decide)]
  have h := whos_perm 3 1
  have h2 : whos 3 1 = [0] := by
    have : (List.range 1).map (fun (i : Nat) => (i : Int)) = [0] := rfl
    rw [this] at h
    exact List.perm_singleton.1 h
  rw [h2]
  rfl

theorem alive_speak : speakF 1 1 aM [] = ([0], true) := by
  unfold speakF
  rw [show mem 1 1 aM.slot = [0] from mem1]
  decide

theorem alive_votes (b : Sl) : votesF 1 1 ⟨3, 3, Bs.zero 32, 0, 0, b, Bs.zero 16⟩ [true] = [⟨0, 3, Bs.zero 32⟩] := by
  unfold votesF speakF
  have hg : goodF ⟨3, 3, Bs.zero 32, 0, 0, b, Bs.zero 16⟩ [true] = true := rfl
  rw [hg, show mem 1 1 (Ms.mk 3 3 (Bs.zero 32) 0 0 b (Bs.zero 16)).slot = [0] from mem1]
  simp [pk]

section
variable {R : Value → Heap → Prop} {h : Heap}

theorem zsz {c : Cf} : 12 = c.tv.size := cfsz1

set_option maxRecDepth 100000 in
theorem alive_spec (hr : ∀ h', Ext h h' → R (TV.bool true).val h') : CallsH Try.prog 9 (TVs.vals []) h R := by
  apply tollerlaw08_alive_calls
  unfold tollerlaw08_alive_vc
  have xp := Ext.push h (Vc.row (TVs.cells [Vd.tv ⟨5, [107]⟩]) 59)
  have ov := (Own.new (T := 59) (sz := 2) h [Vd.tv ⟨5, [107]⟩] (fun t ht => by
    simp only [List.mem_cons, List.not_mem_nil, or_false] at ht
    subst ht; exact Vd.size _)).elems
  have zp : (h.push (Vc.row (TVs.cells [Vd.tv ⟨5, [107]⟩]) 59)).size = h.size + 1 := Array.size_push ..
  generalize hcc : (Cf.mk ⟨some ⟨h.size, 0⟩, 1, 1⟩ 4 1 1 1 1 1 1 1 1 1 1) = cc
  have hvals : cc.vals = ⟨some ⟨h.size, 0⟩, 1, 1⟩ := by rw [← hcc]
  have hcom : cc.com = 1 := by rw [← hcc]
  refine newTV_in fun h1 v1 x1 s1 => ?_
  have v1 : Var 24 h1 (h.push (Vc.row (TVs.cells [Vd.tv ⟨5, [107]⟩]) 59)).size zeroC.tv := v1
  refine put_n v1 (t := (Cf.mk ⟨some ⟨h.size, 0⟩, 1, 1⟩ 4 1 1 1 1 1 1 1 1 1 1).tv) cfsz1 cfsz fun h2 v2 f2 s2 => ?_
  rw [hcc] at v2
  have xp2 : Ext (h.push (Vc.row (TVs.cells [Vd.tv ⟨5, [107]⟩]) 59)) h2 := Only.cut x1 f2 fun i hi => by rw [hi]; exact Nat.le_refl _
  have x2 : Ext h h2 := xp.trans xp2
  have ev2 : Elems 2 h2 cc.vals (vds aL) := by rw [hvals]; exact ov.ext xp2
  have hkey : ∀ v ∈ aL, v.key.length ≤ 64 := by decide
  have hv : cc.vals.len < 900 := by rw [hvals]; show 1 < 900; decide
  have hn1 : cc.vals.len = 1 := by rw [hvals]
  have hsign : signF cc.vals.len cc.com aL aM [] = ({ aM with tag := joinF [tag1 aL aM [] 0] (Bs.zero 16) }, true) := by
    rw [hn1, hcom]
    unfold signF tagF
    rw [alive_speak]
    rfl
  refine cf_at v2 ?_
  refine sign_spec (c := cc) (m := aM) (row := []) hv ev2 hkey (Elems.nil_ 1 h2) (by decide) fun h3 x3 => ?_
  rw [hsign]
  refine ⟨_, _, _, _, _, _, _, _, rfl, ?_⟩
  have hT := alive_tag
  generalize hTT : joinF [tag1 aL aM [] 0] (Bs.zero 16) = T at hsign hT ⊢
  refine newTV_in fun h4 v4 x4 s4 => ?_
  have v4 : Var 32 h4 h3.size zeroM.tv := v4
  refine put_n v4 (t := ({ aM with tag := T } : Ms).tv) mssz1 mssz fun h5 v5 f5 s5 => ?_
  have x35 : Ext h3 h5 := Only.cut x4 f5 fun i hi => by omega
  have x25 := x3.trans x35
  refine cf_at (v2.ext x25) ?_
  have eb : Elems 1 (h5.push (Vc.row (TVs.cells [TV.bool true]) 4)) ⟨some ⟨h5.size, 0⟩, 1, 1⟩ (bools [true]) := (Own.new (T := 4) (sz := 1) h5 [TV.bool true] (fun t ht => by
    simp only [List.mem_cons, List.not_mem_nil, or_false] at ht
    subst ht; rfl)).elems
  refine votes_spec (c := cc) (m := ⟨3, 3, Bs.zero 32, 0, 0, ⟨some ⟨h5.size, 0⟩, 1, 1⟩, Bs.zero 16⟩) (row := [true]) hv eb (by decide) fun h6 s6 e6 x6 => ⟨_, rfl, ?_⟩
  rw [hn1, hcom, alive_votes] at e6
  have x56 := (Ext.push h5 (Vc.row (TVs.cells [TV.bool true]) 4)).trans x6
  have x26 := x25.trans x56
  have l6 : s6.len = 1 := e6.len.symm
  refine If.yes (cf_at (v2.ext x26) (ms_at (v5.ext x56) ?_))
  refine check_spec (c := cc) (m := { aM with tag := T }) (row := []) hv (ev2.ext x26) hkey (Elems.nil_ 1 h6) (by decide) fun h7 x7 => ⟨_, rfl, ?_⟩
  have hck : checkF cc.vals.len cc.com aL { aM with tag := T } [] = true := by
    unfold checkF
    rw [tagF_tag, hn1, hcom]
    unfold tagF
    rw [alive_speak, if_pos rfl]
    show (true && decide ((joinF [tag1 aL aM [] 0] (Bs.zero 16)).l = T.l)) = true
    rw [hTT]
    simp
  rw [hck]
  have v57 := (v5.ext x56).ext x7
  refine If.yes ⟨T, v57.at.2.2.2.2.2.2, ?_⟩
  rw [decide_eq_false hT]
  refine If.yes ?_
  refine If.dec.2 ⟨fun _ => ?_, fun hx => absurd (show ((s6.len : Nat) : Int) = 1 by omega) hx⟩
  refine (e6.ext x7).read (i := 0) (by decide) (by rw [l6]; decide) fun l t hla ht ha => ?_
  obtain rfl := Option.some.inj ht
  refine ⟨3, ha.2.1, ?_⟩
  exact hr h7 ((x2.trans x26).trans x7)

end
end Go.Proofs.Ytgdhddignbkloaa.Board
end

section
/- The conditions of functions, as the generator reckons them out, each with the proof that it is that. -/
namespace Go.Proofs.Ytgdhddignbkloaa
open Go Go.Vc
set_option maxRecDepth 100000
set_option linter.unusedVariables false

def tollerlaw08_SealOwn_vc (c_Validators : Sl) (c_Epoch : Int) (c_Committee : Int) (c_Nodes : Int) (c_Orphans : Int) (c_Early : Int) (c_Quota : Int) (c_Peers : Int) (c_Bytes : Int) (c_Window : Int) (c_Ban : Int) (c_Decay : Int) (m_Kind : Int) (m_Slot : Int) (m_Target : Bs (32 : Nat)) (m_Member : Int) (m_Body : Int) (m_Bits : Sl) (m_Tag : Bs (16 : Nat)) (t : Bs (16 : Nat)) (h : Heap) (R : Value → Heap → Prop) : Prop :=
 Vc.Bind
 (newTV h
 (TV.agg
 [TV.slice c_Validators, TV.int IntKind.i64 c_Epoch, TV.int IntKind.i64 c_Committee, TV.int IntKind.i64 c_Nodes, TV.int IntKind.i64 c_Orphans,
 TV.int IntKind.i64 c_Early, TV.int IntKind.i64 c_Quota, TV.int IntKind.i64 c_Peers, TV.int IntKind.i64 c_Bytes, TV.int IntKind.i64 c_Window,
 TV.int IntKind.i64 c_Ban, TV.int IntKind.i64 c_Decay])
 (24 : Nat))
 fun (h_1 : Array Obj) ↦
 Vc.Bind
 (newTV h_1
 (TV.agg
 [TV.int IntKind.i64 m_Kind, TV.int IntKind.i64 m_Slot, TV.bytes (32 : Nat) m_Target, TV.int IntKind.i64 m_Member, TV.int IntKind.u64 m_Body,
 TV.slice m_Bits, TV.bytes (16 : Nat) m_Tag])
 (32 : Nat))
 fun (h_2 : Array Obj) ↦
 Vc.Bind (newTV h_2 (TV.bytes (16 : Nat) t) (30 : Nat)) fun (h_3 : Array Obj) ↦
 CallsH Try.prog (9 : Nat) (TVs.vals []) h_3 fun (v : Value) (h_4 : Array Obj) ↦
 ∃ (b : Bool),
 v = TV.val (TV.bool b) ∧
 If (!b) (R (TV.val (TV.bool false)) h_4)
 (∃ (s : Sl),
 ∃ (n : Int),
 ∃ (n_1 : Int),
 ∃ (n_2 : Int),
 ∃ (n_3 : Int),
 ∃ (n_4 : Int),
 ∃ (n_5 : Int),
 ∃ (n_6 : Int),
 ∃ (n_7 : Int),
 ∃ (n_8 : Int),
 ∃ (n_9 : Int),
 ∃ (n_10 : Int),
 (at1 h_4 (Array.size h) (0 : Nat) (slVal s) ∧
 at1 h_4 (Array.size h) (1 : Nat) (Value.int IntKind.i64 n) ∧
 at1 h_4 (Array.size h) (2 : Nat) (Value.int IntKind.i64 n_1) ∧
 at1 h_4 (Array.size h) (3 : Nat) (Value.int IntKind.i64 n_2) ∧
 at1 h_4 (Array.size h) (4 : Nat) (Value.int IntKind.i64 n_3) ∧
 at1 h_4 (Array.size h) (5 : Nat) (Value.int IntKind.i64 n_4) ∧
 at1 h_4 (Array.size h) (6 : Nat) (Value.int IntKind.i64 n_5) ∧
 at1 h_4 (Array.size h) (7 : Nat) (Value.int IntKind.i64 n_6) ∧
 at1 h_4 (Array.size h) (8 : Nat) (Value.int IntKind.i64 n_7) ∧
 at1 h_4 (Array.size h) (9 : Nat) (Value.int IntKind.i64 n_8) ∧
 at1 h_4 (Array.size h) (10 : Nat) (Value.int IntKind.i64 n_9) ∧
 at1 h_4 (Array.size h) (11 : Nat) (Value.int IntKind.i64 n_10)) ∧
 ∃ (n_11 : Int),
 ∃ (n_12 : Int),
 ∃ (b : Bs (32 : Nat)),
 ∃ (n_13 : Int),
 ∃ (n_14 : Int),
 ∃ (s_1 : Sl),
 ∃ (b_1 : Bs (16 : Nat)),
 (at1 h_4 (Array.size h_1) (0 : Nat) (Value.int IntKind.i64 n_11) ∧
 at1 h_4 (Array.size h_1) (1 : Nat) (Value.int IntKind.i64 n_12) ∧
 atBytes h_4 (Array.size h_1) (2 : Nat) (32 : Nat) b ∧
 at1 h_4 (Array.size h_1) (34 : Nat) (Value.int IntKind.i64 n_13) ∧
 at1 h_4 (Array.size h_1) (35 : Nat) (Value.int IntKind.u64 n_14) ∧
 at1 h_4 (Array.size h_1) (36 : Nat) (slVal s_1) ∧
 atBytes h_4 (Array.size h_1) (37 : Nat) (16 : Nat) b_1) ∧
 CallsH Try.prog (10 : Nat)
 (TVs.vals
 [TV.agg
 [TV.slice s, TV.int IntKind.i64 n, TV.int IntKind.i64 n_1, TV.int IntKind.i64 n_2,
 TV.int IntKind.i64 n_3, TV.int IntKind.i64 n_4, TV.int IntKind.i64 n_5,
 TV.int IntKind.i64 n_6, TV.int IntKind.i64 n_7, TV.int IntKind.i64 n_8,
 TV.int IntKind.i64 n_9, TV.int IntKind.i64 n_10],
 TV.agg
 [TV.int IntKind.i64 n_11, TV.int IntKind.i64 n_12, TV.bytes (32 : Nat) b,
 TV.int IntKind.i64 n_13, TV.int IntKind.u64 n_14, TV.slice s_1, TV.bytes (16 : Nat) b_1]])
 h_4 fun (v : Value) (h_5 : Array Obj) ↦
 ∃ (b : Bool),
 v = TV.val (TV.bool b) ∧
 If b (R (TV.val (TV.bool true)) h_5)
 (∃ (n : Int),
 ∃ (n_15 : Int),
 ∃ (b : Bs (32 : Nat)),
 ∃ (n_16 : Int),
 ∃ (n_17 : Int),
 ∃ (s : Sl),
 ∃ (b_2 : Bs (16 : Nat)),
 (at1 h_5 (Array.size h_1) (0 : Nat) (Value.int IntKind.i64 n) ∧
 at1 h_5 (Array.size h_1) (1 : Nat) (Value.int IntKind.i64 n_15) ∧
 atBytes h_5 (Array.size h_1) (2 : Nat) (32 : Nat) b ∧
 at1 h_5 (Array.size h_1) (34 : Nat) (Value.int IntKind.i64 n_16) ∧
 at1 h_5 (Array.size h_1) (35 : Nat) (Value.int IntKind.u64 n_17) ∧
 at1 h_5 (Array.size h_1) (36 : Nat) (slVal s) ∧
 atBytes h_5 (Array.size h_1) (37 : Nat) (16 : Nat) b_2) ∧
 Vc.Bind
 (newTV h_5
 (TV.agg
 [TV.int IntKind.i64 (0 : Int), TV.int IntKind.i64 (0 : Int),
 TV.bytes (32 : Nat) (Bs.zero (32 : Nat)), TV.int IntKind.i64 (0 : Int),
 TV.int IntKind.u64 (0 : Int), TV.slice Sl.nil,
 TV.bytes (16 : Nat) (Bs.zero (16 : Nat))])
 (32 : Nat))
 fun (h_6 : Array Obj) ↦
 wok h_6 (Array.size h_5) (0 : Nat) (53 : Nat) ∧
 Vc.Bind
 (TV.put h_6 (Array.size h_5) (0 : Nat)
 (TV.agg
 [TV.int IntKind.i64 n, TV.int IntKind.i64 n_15, TV.bytes (32 : Nat) b,
 TV.int IntKind.i64 n_16, TV.int IntKind.u64 n_17, TV.slice s,
 TV.bytes (16 : Nat) b_2]))
 fun (h_7 : Array Obj) ↦
 ∃ (b : Bs (16 : Nat)),
 atBytes h_7 (Array.size h_2) (0 : Nat) (16 : Nat) b ∧
 wok h_7 (Array.size h_5) (37 : Nat) (16 : Nat) ∧
 Vc.Bind
 (TV.put h_7 (Array.size h_5) (37 : Nat) (TV.bytes (16 : Nat) b))
 fun (h_8 : Array Obj) ↦
 ∃ (s : Sl),
 ∃ (n : Int),
 ∃ (n_18 : Int),
 ∃ (n_19 : Int),
 ∃ (n_20 : Int),
 ∃ (n_21 : Int),
 ∃ (n_22 : Int),
 ∃ (n_23 : Int),
 ∃ (n_24 : Int),
 ∃ (n_25 : Int),
 ∃ (n_26 : Int),
 ∃ (n_27 : Int),
 (at1 h_8 (Array.size h) (0 : Nat)
 (slVal s) ∧
 at1 h_8 (Array.size h) (1 : Nat)
 (Value.int IntKind.i64 n) ∧
 at1 h_8 (Array.size h) (2 : Nat)
 (Value.int IntKind.i64 n_18) ∧
 at1 h_8 (Array.size h) (3 : Nat)
 (Value.int IntKind.i64 n_19) ∧
 at1 h_8 (Array.size h) (4 : Nat)
 (Value.int IntKind.i64
 n_20) ∧
 at1 h_8 (Array.size h)
 (5 : Nat)
 (Value.int IntKind.i64
 n_21) ∧
 at1 h_8 (Array.size h)
 (6 : Nat)
 (Value.int IntKind.i64
 n_22) ∧
 at1 h_8 (Array.size h)
 (7 : Nat)
 (Value.int IntKind.i64
 n_23) ∧
 at1 h_8 (Array.size h)
 (8 : Nat)
 (Value.int
 IntKind.i64
 n_24) ∧
 at1 h_8 (Array.size h)
 (9 : Nat)
 (Value.int
 IntKind.i64
 n_25) ∧
 at1 h_8
 (Array.size h)
 (10 : Nat)
 (Value.int
 IntKind.i64
 n_26) ∧
 at1 h_8
 (Array.size h)
 (11 : Nat)
 (Value.int
 IntKind.i64
 n_27)) ∧
 ∃ (n_28 : Int),
 ∃ (n_29 : Int),
 ∃ (b : Bs (32 : Nat)),
 ∃ (n_30 : Int),
 ∃ (n_31 : Int),
 ∃ (s_2 : Sl),
 ∃ (b_3 : Bs (16 : Nat)),
 (at1 h_8 (Array.size h_1)
 (0 : Nat)
 (Value.int
 IntKind.i64
 n_28) ∧
 at1 h_8
 (Array.size h_1)
 (1 : Nat)
 (Value.int
 IntKind.i64
 n_29) ∧
 atBytes h_8
 (Array.size h_1)
 (2 : Nat)
 (32 : Nat) b ∧
 at1 h_8
 (Array.size
 h_1)
 (34 : Nat)
 (Value.int
 IntKind.i64
 n_30) ∧
 at1 h_8
 (Array.size
 h_1)
 (35 : Nat)
 (Value.int
 IntKind.u64
 n_31) ∧
 at1 h_8
 (Array.size
 h_1)
 (36 : Nat)
 (slVal
 s_2) ∧
 atBytes h_8
 (Array.size
 h_1)
 (37 : Nat)
 (16 : Nat)
 b_3) ∧
 CallsH Try.prog
 (11 : Nat)
 (TVs.vals
 [TV.agg
 [TV.slice s,
 TV.int
 IntKind.i64
 n,
 TV.int
 IntKind.i64
 n_18,
 TV.int
 IntKind.i64
 n_19,
 TV.int
 IntKind.i64
 n_20,
 TV.int
 IntKind.i64
 n_21,
 TV.int
 IntKind.i64
 n_22,
 TV.int
 IntKind.i64
 n_23,
 TV.int
 IntKind.i64
 n_24,
 TV.int
 IntKind.i64
 n_25,
 TV.int
 IntKind.i64
 n_26,
 TV.int
 IntKind.i64
 n_27],
 TV.agg
 [TV.int
 IntKind.i64
 n_28,
 TV.int
 IntKind.i64
 n_29,
 TV.bytes
 (32 : Nat)
 b,
 TV.int
 IntKind.i64
 n_30,
 TV.int
 IntKind.u64
 n_31,
 TV.slice s_2,
 TV.bytes
 (16 : Nat)
 b_3]])
 h_8
 fun (v : Value)
 (h_9 : Array Obj) ↦
 ∃ (b : Bs (16 : Nat)),
 ∃ (b_4 : Bool),
 v =
 TV.val
 (TV.tup
 [TV.bytes
 (16 :
 Nat)
 b,
 TV.bool
 b_4]) ∧
 Vc.Bind
 (newTV h_9
 (TV.bytes
 (16 : Nat)
 (Bs.zero
 (16 :
 Nat)))
 (30 : Nat))
 fun
 (h_10 :
 Array
 Obj) ↦
 wok h_10
 (Array.size
 h_9)
 (0 : Nat)
 (16 :
 Nat) ∧
 Vc.Bind
 (TV.put
 h_10
 (Array.size
 h_9)
 (0 :
 Nat)
 (TV.bytes
 (16 :
 Nat)
 b))
 fun
 (h_11 :
 Array
 Obj) ↦
 ∃ (s :
 Sl),
 ∃ (n :
 Int),
 ∃
 (n_32
 :
 Int),
 ∃
 (n_33
 :
 Int),
 ∃
 (n_34
 :
 Int),
 ∃
 (n_35
 :
 Int),
 ∃
 (n_36
 :
 Int),
 ∃
 (n_37
 :
 Int),
 ∃
 (n_38
 :
 Int),
 ∃
 (n_39
 :
 Int),
 ∃
 (n_40
 :
 Int),
 ∃
 (n_41
 :
 Int),
 (at1
 h_11
 (Array.size
 h)
 (0 :
 Nat)
 (slVal
 s) ∧
 at1
 h_11
 (Array.size
 h)
 (1 :
 Nat)
 (Value.int
 IntKind.i64
 n) ∧
 at1
 h_11
 (Array.size
 h)
 (2 :
 Nat)
 (Value.int
 IntKind.i64
 n_32) ∧
 at1
 h_11
 (Array.size
 h)
 (3 :
 Nat)
 (Value.int
 IntKind.i64
 n_33) ∧
 at1
 h_11
 (Array.size
 h)
 (4 :
 Nat)
 (Value.int
 IntKind.i64
 n_34) ∧
 at1
 h_11
 (Array.size
 h)
 (5 :
 Nat)
 (Value.int
 IntKind.i64
 n_35) ∧
 at1
 h_11
 (Array.size
 h)
 (6 :
 Nat)
 (Value.int
 IntKind.i64
 n_36) ∧
 at1
 h_11
 (Array.size
 h)
 (7 :
 Nat)
 (Value.int
 IntKind.i64
 n_37) ∧
 at1
 h_11
 (Array.size
 h)
 (8 :
 Nat)
 (Value.int
 IntKind.i64
 n_38) ∧
 at1
 h_11
 (Array.size
 h)
 (9 :
 Nat)
 (Value.int
 IntKind.i64
 n_39) ∧
 at1
 h_11
 (Array.size
 h)
 (10 :
 Nat)
 (Value.int
 IntKind.i64
 n_40) ∧
 at1
 h_11
 (Array.size
 h)
 (11 :
 Nat)
 (Value.int
 IntKind.i64
 n_41)) ∧
 ∃
 (n_42
 :
 Int),
 ∃
 (n_43
 :
 Int),
 ∃
 (b
 :
 Bs
 (32 :
 Nat)),
 ∃
 (n_44
 :
 Int),
 ∃
 (n_45
 :
 Int),
 ∃
 (s_3
 :
 Sl),
 ∃
 (b_5
 :
 Bs
 (16 :
 Nat)),
 (at1
 h_11
 (Array.size
 h_5)
 (0 :
 Nat)
 (Value.int
 IntKind.i64
 n_42) ∧
 at1
 h_11
 (Array.size
 h_5)
 (1 :
 Nat)
 (Value.int
 IntKind.i64
 n_43) ∧
 atBytes
 h_11
 (Array.size
 h_5)
 (2 :
 Nat)
 (32 :
 Nat)
 b ∧
 at1
 h_11
 (Array.size
 h_5)
 (34 :
 Nat)
 (Value.int
 IntKind.i64
 n_44) ∧
 at1
 h_11
 (Array.size
 h_5)
 (35 :
 Nat)
 (Value.int
 IntKind.u64
 n_45) ∧
 at1
 h_11
 (Array.size
 h_5)
 (36 :
 Nat)
 (slVal
 s_3) ∧
 atBytes
 h_11
 (Array.size
 h_5)
 (37 :
 Nat)
 (16 :
 Nat)
 b_5) ∧
 CallsH
 Try.prog
 (11 :
 Nat)
 (TVs.vals
 [TV.agg
 [TV.slice
 s,
 TV.int
 IntKind.i64
 n,
 TV.int
 IntKind.i64
 n_32,
 TV.int
 IntKind.i64
 n_33,
 TV.int
 IntKind.i64
 n_34,
 TV.int
 IntKind.i64
 n_35,
 TV.int
 IntKind.i64
 n_36,
 TV.int
 IntKind.i64
 n_37,
 TV.int
 IntKind.i64
 n_38,
 TV.int
 IntKind.i64
 n_39,
 TV.int
 IntKind.i64
 n_40,
 TV.int
 IntKind.i64
 n_41],
 TV.agg
 [TV.int
 IntKind.i64
 n_42,
 TV.int
 IntKind.i64
 n_43,
 TV.bytes
 (32 :
 Nat)
 b,
 TV.int
 IntKind.i64
 n_44,
 TV.int
 IntKind.u64
 n_45,
 TV.slice
 s_3,
 TV.bytes
 (16 :
 Nat)
 b_5]])
 h_11
 fun
 (v :
 Value)
 (h_12 :
 Array
 Obj) ↦
 ∃
 (b
 :
 Bs
 (16 :
 Nat)),
 ∃
 (b_6
 :
 Bool),
 v =
 TV.val
 (TV.tup
 [TV.bytes
 (16 :
 Nat)
 b,
 TV.bool
 b_6]) ∧
 Vc.Bind
 (newTV
 h_12
 (TV.bytes
 (16 :
 Nat)
 (Bs.zero
 (16 :
 Nat)))
 (30 :
 Nat))
 fun
 (h_13 :
 Array
 Obj) ↦
 wok
 h_13
 (Array.size
 h_12)
 (0 :
 Nat)
 (16 :
 Nat) ∧
 Vc.Bind
 (TV.put
 h_13
 (Array.size
 h_12)
 (0 :
 Nat)
 (TV.bytes
 (16 :
 Nat)
 b))
 fun
 (h_14 :
 Array
 Obj) ↦
 ∃
 (s
 :
 Sl),
 ∃
 (n
 :
 Int),
 ∃
 (n_46
 :
 Int),
 ∃
 (n_47
 :
 Int),
 ∃
 (n_48
 :
 Int),
 ∃
 (n_49
 :
 Int),
 ∃
 (n_50
 :
 Int),
 ∃
 (n_51
 :
 Int),
 ∃
 (n_52
 :
 Int),
 ∃
 (n_53
 :
 Int),
 ∃
 (n_54
 :
 Int),
 ∃
 (n_55
 :
 Int),
 (at1
 h_14
 (Array.size
 h)
 (0 :
 Nat)
 (slVal
 s) ∧
 at1
 h_14
 (Array.size
 h)
 (1 :
 Nat)
 (Value.int
 IntKind.i64
 n) ∧
 at1
 h_14
 (Array.size
 h)
 (2 :
 Nat)
 (Value.int
 IntKind.i64
 n_46) ∧
 at1
 h_14
 (Array.size
 h)
 (3 :
 Nat)
 (Value.int
 IntKind.i64
 n_47) ∧
 at1
 h_14
 (Array.size
 h)
 (4 :
 Nat)
 (Value.int
 IntKind.i64
 n_48) ∧
 at1
 h_14
 (Array.size
 h)
 (5 :
 Nat)
 (Value.int
 IntKind.i64
 n_49) ∧
 at1
 h_14
 (Array.size
 h)
 (6 :
 Nat)
 (Value.int
 IntKind.i64
 n_50) ∧
 at1
 h_14
 (Array.size
 h)
 (7 :
 Nat)
 (Value.int
 IntKind.i64
 n_51) ∧
 at1
 h_14
 (Array.size
 h)
 (8 :
 Nat)
 (Value.int
 IntKind.i64
 n_52) ∧
 at1
 h_14
 (Array.size
 h)
 (9 :
 Nat)
 (Value.int
 IntKind.i64
 n_53) ∧
 at1
 h_14
 (Array.size
 h)
 (10 :
 Nat)
 (Value.int
 IntKind.i64
 n_54) ∧
 at1
 h_14
 (Array.size
 h)
 (11 :
 Nat)
 (Value.int
 IntKind.i64
 n_55)) ∧
 ∃
 (n_56
 :
 Int),
 ∃
 (n_57
 :
 Int),
 ∃
 (b
 :
 Bs
 (32 :
 Nat)),
 ∃
 (n_58
 :
 Int),
 ∃
 (n_59
 :
 Int),
 ∃
 (s_4
 :
 Sl),
 ∃
 (b_7
 :
 Bs
 (16 :
 Nat)),
 (at1
 h_14
 (Array.size
 h_1)
 (0 :
 Nat)
 (Value.int
 IntKind.i64
 n_56) ∧
 at1
 h_14
 (Array.size
 h_1)
 (1 :
 Nat)
 (Value.int
 IntKind.i64
 n_57) ∧
 atBytes
 h_14
 (Array.size
 h_1)
 (2 :
 Nat)
 (32 :
 Nat)
 b ∧
 at1
 h_14
 (Array.size
 h_1)
 (34 :
 Nat)
 (Value.int
 IntKind.i64
 n_58) ∧
 at1
 h_14
 (Array.size
 h_1)
 (35 :
 Nat)
 (Value.int
 IntKind.u64
 n_59) ∧
 at1
 h_14
 (Array.size
 h_1)
 (36 :
 Nat)
 (slVal
 s_4) ∧
 atBytes
 h_14
 (Array.size
 h_1)
 (37 :
 Nat)
 (16 :
 Nat)
 b_7) ∧
 CallsH
 Try.prog
 (14 :
 Nat)
 (TVs.vals
 [TV.agg
 [TV.slice
 s,
 TV.int
 IntKind.i64
 n,
 TV.int
 IntKind.i64
 n_46,
 TV.int
 IntKind.i64
 n_47,
 TV.int
 IntKind.i64
 n_48,
 TV.int
 IntKind.i64
 n_49,
 TV.int
 IntKind.i64
 n_50,
 TV.int
 IntKind.i64
 n_51,
 TV.int
 IntKind.i64
 n_52,
 TV.int
 IntKind.i64
 n_53,
 TV.int
 IntKind.i64
 n_54,
 TV.int
 IntKind.i64
 n_55],
 TV.agg
 [TV.int
 IntKind.i64
 n_56,
 TV.int
 IntKind.i64
 n_57,
 TV.bytes
 (32 :
 Nat)
 b,
 TV.int
 IntKind.i64
 n_58,
 TV.int
 IntKind.u64
 n_59,
 TV.slice
 s_4,
 TV.bytes
 (16 :
 Nat)
 b_7]])
 h_14
 fun
 (v :
 Value)
 (h_15 :
 Array
 Obj) ↦
 ∃
 (s
 :
 Sl),
 ∃
 (b
 :
 Bool),
 v =
 TV.val
 (TV.tup
 [TV.slice
 s,
 TV.bool
 b]) ∧
 ∃
 (s_5
 :
 Sl),
 ∃
 (n
 :
 Int),
 ∃
 (n_60
 :
 Int),
 ∃
 (n_61
 :
 Int),
 ∃
 (n_62
 :
 Int),
 ∃
 (n_63
 :
 Int),
 ∃
 (n_64
 :
 Int),
 ∃
 (n_65
 :
 Int),
 ∃
 (n_66
 :
 Int),
 ∃
 (n_67
 :
 Int),
 ∃
 (n_68
 :
 Int),
 ∃
 (n_69
 :
 Int),
 (at1
 h_15
 (Array.size
 h)
 (0 :
 Nat)
 (slVal
 s_5) ∧
 at1
 h_15
 (Array.size
 h)
 (1 :
 Nat)
 (Value.int
 IntKind.i64
 n) ∧
 at1
 h_15
 (Array.size
 h)
 (2 :
 Nat)
 (Value.int
 IntKind.i64
 n_60) ∧
 at1
 h_15
 (Array.size
 h)
 (3 :
 Nat)
 (Value.int
 IntKind.i64
 n_61) ∧
 at1
 h_15
 (Array.size
 h)
 (4 :
 Nat)
 (Value.int
 IntKind.i64
 n_62) ∧
 at1
 h_15
 (Array.size
 h)
 (5 :
 Nat)
 (Value.int
 IntKind.i64
 n_63) ∧
 at1
 h_15
 (Array.size
 h)
 (6 :
 Nat)
 (Value.int
 IntKind.i64
 n_64) ∧
 at1
 h_15
 (Array.size
 h)
 (7 :
 Nat)
 (Value.int
 IntKind.i64
 n_65) ∧
 at1
 h_15
 (Array.size
 h)
 (8 :
 Nat)
 (Value.int
 IntKind.i64
 n_66) ∧
 at1
 h_15
 (Array.size
 h)
 (9 :
 Nat)
 (Value.int
 IntKind.i64
 n_67) ∧
 at1
 h_15
 (Array.size
 h)
 (10 :
 Nat)
 (Value.int
 IntKind.i64
 n_68) ∧
 at1
 h_15
 (Array.size
 h)
 (11 :
 Nat)
 (Value.int
 IntKind.i64
 n_69)) ∧
 ∃
 (n_70
 :
 Int),
 ∃
 (n_71
 :
 Int),
 ∃
 (b_8
 :
 Bs
 (32 :
 Nat)),
 ∃
 (n_72
 :
 Int),
 ∃
 (n_73
 :
 Int),
 ∃
 (s_6
 :
 Sl),
 ∃
 (b_9
 :
 Bs
 (16 :
 Nat)),
 (at1
 h_15
 (Array.size
 h_5)
 (0 :
 Nat)
 (Value.int
 IntKind.i64
 n_70) ∧
 at1
 h_15
 (Array.size
 h_5)
 (1 :
 Nat)
 (Value.int
 IntKind.i64
 n_71) ∧
 atBytes
 h_15
 (Array.size
 h_5)
 (2 :
 Nat)
 (32 :
 Nat)
 b_8 ∧
 at1
 h_15
 (Array.size
 h_5)
 (34 :
 Nat)
 (Value.int
 IntKind.i64
 n_72) ∧
 at1
 h_15
 (Array.size
 h_5)
 (35 :
 Nat)
 (Value.int
 IntKind.u64
 n_73) ∧
 at1
 h_15
 (Array.size
 h_5)
 (36 :
 Nat)
 (slVal
 s_6) ∧
 atBytes
 h_15
 (Array.size
 h_5)
 (37 :
 Nat)
 (16 :
 Nat)
 b_9) ∧
 CallsH
 Try.prog
 (14 :
 Nat)
 (TVs.vals
 [TV.agg
 [TV.slice
 s_5,
 TV.int
 IntKind.i64
 n,
 TV.int
 IntKind.i64
 n_60,
 TV.int
 IntKind.i64
 n_61,
 TV.int
 IntKind.i64
 n_62,
 TV.int
 IntKind.i64
 n_63,
 TV.int
 IntKind.i64
 n_64,
 TV.int
 IntKind.i64
 n_65,
 TV.int
 IntKind.i64
 n_66,
 TV.int
 IntKind.i64
 n_67,
 TV.int
 IntKind.i64
 n_68,
 TV.int
 IntKind.i64
 n_69],
 TV.agg
 [TV.int
 IntKind.i64
 n_70,
 TV.int
 IntKind.i64
 n_71,
 TV.bytes
 (32 :
 Nat)
 b_8,
 TV.int
 IntKind.i64
 n_72,
 TV.int
 IntKind.u64
 n_73,
 TV.slice
 s_6,
 TV.bytes
 (16 :
 Nat)
 b_9]])
 h_15
 fun
 (v :
 Value)
 (h_16 :
 Array
 Obj) ↦
 ∃
 (s_7
 :
 Sl),
 ∃
 (b_10
 :
 Bool),
 v =
 TV.val
 (TV.tup
 [TV.slice
 s_7,
 TV.bool
 b_10]) ∧
 ∃
 (b_11
 :
 Bs
 (16 :
 Nat)),
 atBytes
 h_16
 (Array.size
 h_9)
 (0 :
 Nat)
 (16 :
 Nat)
 b_11 ∧
 ∃
 (b_12
 :
 Bs
 (16 :
 Nat)),
 atBytes
 h_16
 (Array.size
 h_12)
 (0 :
 Nat)
 (16 :
 Nat)
 b_12 ∧
 If
 (decide
 (b_11.l =
 b_12.l))
 (If
 (b_4 ==
 b_6)
 (If
 (b ==
 b_10)
 (If
 (b_4 ==
 b)
 (CallsH
 Try.prog
 (15 :
 Nat)
 (TVs.vals
 [TV.slice
 s,
 TV.slice
 s_7])
 h_16
 fun
 (v :
 Value)
 (h_17 :
 Array
 Obj) ↦
 ∃
 (b
 :
 Bool),
 v =
 TV.val
 (TV.bool
 b) ∧
 If
 b
 (∃
 (s
 :
 Sl),
 ∃
 (n
 :
 Int),
 ∃
 (n_74
 :
 Int),
 ∃
 (n_75
 :
 Int),
 ∃
 (n_76
 :
 Int),
 ∃
 (n_77
 :
 Int),
 ∃
 (n_78
 :
 Int),
 ∃
 (n_79
 :
 Int),
 ∃
 (n_80
 :
 Int),
 ∃
 (n_81
 :
 Int),
 ∃
 (n_82
 :
 Int),
 ∃
 (n_83
 :
 Int),
 (at1
 h_17
 (Array.size
 h)
 (0 :
 Nat)
 (slVal
 s) ∧
 at1
 h_17
 (Array.size
 h)
 (1 :
 Nat)
 (Value.int
 IntKind.i64
 n) ∧
 at1
 h_17
 (Array.size
 h)
 (2 :
 Nat)
 (Value.int
 IntKind.i64
 n_74) ∧
 at1
 h_17
 (Array.size
 h)
 (3 :
 Nat)
 (Value.int
 IntKind.i64
 n_75) ∧
 at1
 h_17
 (Array.size
 h)
 (4 :
 Nat)
 (Value.int
 IntKind.i64
 n_76) ∧
 at1
 h_17
 (Array.size
 h)
 (5 :
 Nat)
 (Value.int
 IntKind.i64
 n_77) ∧
 at1
 h_17
 (Array.size
 h)
 (6 :
 Nat)
 (Value.int
 IntKind.i64
 n_78) ∧
 at1
 h_17
 (Array.size
 h)
 (7 :
 Nat)
 (Value.int
 IntKind.i64
 n_79) ∧
 at1
 h_17
 (Array.size
 h)
 (8 :
 Nat)
 (Value.int
 IntKind.i64
 n_80) ∧
 at1
 h_17
 (Array.size
 h)
 (9 :
 Nat)
 (Value.int
 IntKind.i64
 n_81) ∧
 at1
 h_17
 (Array.size
 h)
 (10 :
 Nat)
 (Value.int
 IntKind.i64
 n_82) ∧
 at1
 h_17
 (Array.size
 h)
 (11 :
 Nat)
 (Value.int
 IntKind.i64
 n_83)) ∧
 ∃
 (n_84
 :
 Int),
 ∃
 (n_85
 :
 Int),
 ∃
 (b
 :
 Bs
 (32 :
 Nat)),
 ∃
 (n_86
 :
 Int),
 ∃
 (n_87
 :
 Int),
 ∃
 (s_8
 :
 Sl),
 ∃
 (b_13
 :
 Bs
 (16 :
 Nat)),
 (at1
 h_17
 (Array.size
 h_1)
 (0 :
 Nat)
 (Value.int
 IntKind.i64
 n_84) ∧
 at1
 h_17
 (Array.size
 h_1)
 (1 :
 Nat)
 (Value.int
 IntKind.i64
 n_85) ∧
 atBytes
 h_17
 (Array.size
 h_1)
 (2 :
 Nat)
 (32 :
 Nat)
 b ∧
 at1
 h_17
 (Array.size
 h_1)
 (34 :
 Nat)
 (Value.int
 IntKind.i64
 n_86) ∧
 at1
 h_17
 (Array.size
 h_1)
 (35 :
 Nat)
 (Value.int
 IntKind.u64
 n_87) ∧
 at1
 h_17
 (Array.size
 h_1)
 (36 :
 Nat)
 (slVal
 s_8) ∧
 atBytes
 h_17
 (Array.size
 h_1)
 (37 :
 Nat)
 (16 :
 Nat)
 b_13) ∧
 ∃
 (s_9
 :
 Sl),
 ∃
 (n_88
 :
 Int),
 ∃
 (n_89
 :
 Int),
 ∃
 (n_90
 :
 Int),
 ∃
 (n_91
 :
 Int),
 ∃
 (n_92
 :
 Int),
 ∃
 (n_93
 :
 Int),
 ∃
 (n_94
 :
 Int),
 ∃
 (n_95
 :
 Int),
 ∃
 (n_96
 :
 Int),
 ∃
 (n_97
 :
 Int),
 ∃
 (n_98
 :
 Int),
 (at1
 h_17
 (Array.size
 h)
 (0 :
 Nat)
 (slVal
 s_9) ∧
 at1
 h_17
 (Array.size
 h)
 (1 :
 Nat)
 (Value.int
 IntKind.i64
 n_88) ∧
 at1
 h_17
 (Array.size
 h)
 (2 :
 Nat)
 (Value.int
 IntKind.i64
 n_89) ∧
 at1
 h_17
 (Array.size
 h)
 (3 :
 Nat)
 (Value.int
 IntKind.i64
 n_90) ∧
 at1
 h_17
 (Array.size
 h)
 (4 :
 Nat)
 (Value.int
 IntKind.i64
 n_91) ∧
 at1
 h_17
 (Array.size
 h)
 (5 :
 Nat)
 (Value.int
 IntKind.i64
 n_92) ∧
 at1
 h_17
 (Array.size
 h)
 (6 :
 Nat)
 (Value.int
 IntKind.i64
 n_93) ∧
 at1
 h_17
 (Array.size
 h)
 (7 :
 Nat)
 (Value.int
 IntKind.i64
 n_94) ∧
 at1
 h_17
 (Array.size
 h)
 (8 :
 Nat)
 (Value.int
 IntKind.i64
 n_95) ∧
 at1
 h_17
 (Array.size
 h)
 (9 :
 Nat)
 (Value.int
 IntKind.i64
 n_96) ∧
 at1
 h_17
 (Array.size
 h)
 (10 :
 Nat)
 (Value.int
 IntKind.i64
 n_97) ∧
 at1
 h_17
 (Array.size
 h)
 (11 :
 Nat)
 (Value.int
 IntKind.i64
 n_98)) ∧
 ∃
 (n_99
 :
 Int),
 ∃
 (n_100
 :
 Int),
 ∃
 (b_14
 :
 Bs
 (32 :
 Nat)),
 ∃
 (n_101
 :
 Int),
 ∃
 (n_102
 :
 Int),
 ∃
 (s_10
 :
 Sl),
 ∃
 (b_15
 :
 Bs
 (16 :
 Nat)),
 (at1
 h_17
 (Array.size
 h_5)
 (0 :
 Nat)
 (Value.int
 IntKind.i64
 n_99) ∧
 at1
 h_17
 (Array.size
 h_5)
 (1 :
 Nat)
 (Value.int
 IntKind.i64
 n_100) ∧
 atBytes
 h_17
 (Array.size
 h_5)
 (2 :
 Nat)
 (32 :
 Nat)
 b_14 ∧
 at1
 h_17
 (Array.size
 h_5)
 (34 :
 Nat)
 (Value.int
 IntKind.i64
 n_101) ∧
 at1
 h_17
 (Array.size
 h_5)
 (35 :
 Nat)
 (Value.int
 IntKind.u64
 n_102) ∧
 at1
 h_17
 (Array.size
 h_5)
 (36 :
 Nat)
 (slVal
 s_10) ∧
 atBytes
 h_17
 (Array.size
 h_5)
 (37 :
 Nat)
 (16 :
 Nat)
 b_15) ∧
 CallsH
 Try.prog
 (12 :
 Nat)
 (TVs.vals
 [TV.agg
 [TV.slice
 s,
 TV.int
 IntKind.i64
 n,
 TV.int
 IntKind.i64
 n_74,
 TV.int
 IntKind.i64
 n_75,
 TV.int
 IntKind.i64
 n_76,
 TV.int
 IntKind.i64
 n_77,
 TV.int
 IntKind.i64
 n_78,
 TV.int
 IntKind.i64
 n_79,
 TV.int
 IntKind.i64
 n_80,
 TV.int
 IntKind.i64
 n_81,
 TV.int
 IntKind.i64
 n_82,
 TV.int
 IntKind.i64
 n_83],
 TV.agg
 [TV.int
 IntKind.i64
 n_84,
 TV.int
 IntKind.i64
 n_85,
 TV.bytes
 (32 :
 Nat)
 b,
 TV.int
 IntKind.i64
 n_86,
 TV.int
 IntKind.u64
 n_87,
 TV.slice
 s_8,
 TV.bytes
 (16 :
 Nat)
 b_13]])
 h_17
 fun
 (v :
 Value)
 (h_18 :
 Array
 Obj) ↦
 ∃
 (s
 :
 Sl),
 v =
 TV.val
 (TV.slice
 s) ∧
 Ext
 h_17
 h_18 ∧
 CallsH
 Try.prog
 (12 :
 Nat)
 (TVs.vals
 [TV.agg
 [TV.slice
 s_9,
 TV.int
 IntKind.i64
 n_88,
 TV.int
 IntKind.i64
 n_89,
 TV.int
 IntKind.i64
 n_90,
 TV.int
 IntKind.i64
 n_91,
 TV.int
 IntKind.i64
 n_92,
 TV.int
 IntKind.i64
 n_93,
 TV.int
 IntKind.i64
 n_94,
 TV.int
 IntKind.i64
 n_95,
 TV.int
 IntKind.i64
 n_96,
 TV.int
 IntKind.i64
 n_97,
 TV.int
 IntKind.i64
 n_98],
 TV.agg
 [TV.int
 IntKind.i64
 n_99,
 TV.int
 IntKind.i64
 n_100,
 TV.bytes
 (32 :
 Nat)
 b_14,
 TV.int
 IntKind.i64
 n_101,
 TV.int
 IntKind.u64
 n_102,
 TV.slice
 s_10,
 TV.bytes
 (16 :
 Nat)
 b_15]])
 h_18
 fun
 (v :
 Value)
 (h_19 :
 Array
 Obj) ↦
 ∃
 (s_11
 :
 Sl),
 v =
 TV.val
 (TV.slice
 s_11) ∧
 CallsH
 Try.prog
 (16 :
 Nat)
 (TVs.vals
 [TV.slice
 s,
 TV.slice
 s_11])
 h_19
 fun
 (v :
 Value)
 (h_20 :
 Array
 Obj) ↦
 ∃
 (b
 :
 Bool),
 v =
 TV.val
 (TV.bool
 b) ∧
 If
 b
 (∃
 (s
 :
 Sl),
 ∃
 (n
 :
 Int),
 ∃
 (n_103
 :
 Int),
 ∃
 (n_104
 :
 Int),
 ∃
 (n_105
 :
 Int),
 ∃
 (n_106
 :
 Int),
 ∃
 (n_107
 :
 Int),
 ∃
 (n_108
 :
 Int),
 ∃
 (n_109
 :
 Int),
 ∃
 (n_110
 :
 Int),
 ∃
 (n_111
 :
 Int),
 ∃
 (n_112
 :
 Int),
 (at1
 h_20
 (Array.size
 h)
 (0 :
 Nat)
 (slVal
 s) ∧
 at1
 h_20
 (Array.size
 h)
 (1 :
 Nat)
 (Value.int
 IntKind.i64
 n) ∧
 at1
 h_20
 (Array.size
 h)
 (2 :
 Nat)
 (Value.int
 IntKind.i64
 n_103) ∧
 at1
 h_20
 (Array.size
 h)
 (3 :
 Nat)
 (Value.int
 IntKind.i64
 n_104) ∧
 at1
 h_20
 (Array.size
 h)
 (4 :
 Nat)
 (Value.int
 IntKind.i64
 n_105) ∧
 at1
 h_20
 (Array.size
 h)
 (5 :
 Nat)
 (Value.int
 IntKind.i64
 n_106) ∧
 at1
 h_20
 (Array.size
 h)
 (6 :
 Nat)
 (Value.int
 IntKind.i64
 n_107) ∧
 at1
 h_20
 (Array.size
 h)
 (7 :
 Nat)
 (Value.int
 IntKind.i64
 n_108) ∧
 at1
 h_20
 (Array.size
 h)
 (8 :
 Nat)
 (Value.int
 IntKind.i64
 n_109) ∧
 at1
 h_20
 (Array.size
 h)
 (9 :
 Nat)
 (Value.int
 IntKind.i64
 n_110) ∧
 at1
 h_20
 (Array.size
 h)
 (10 :
 Nat)
 (Value.int
 IntKind.i64
 n_111) ∧
 at1
 h_20
 (Array.size
 h)
 (11 :
 Nat)
 (Value.int
 IntKind.i64
 n_112)) ∧
 ∃
 (n_113
 :
 Int),
 ∃
 (n_114
 :
 Int),
 ∃
 (b
 :
 Bs
 (32 :
 Nat)),
 ∃
 (n_115
 :
 Int),
 ∃
 (n_116
 :
 Int),
 ∃
 (s_12
 :
 Sl),
 ∃
 (b_16
 :
 Bs
 (16 :
 Nat)),
 (at1
 h_20
 (Array.size
 h_5)
 (0 :
 Nat)
 (Value.int
 IntKind.i64
 n_113) ∧
 at1
 h_20
 (Array.size
 h_5)
 (1 :
 Nat)
 (Value.int
 IntKind.i64
 n_114) ∧
 atBytes
 h_20
 (Array.size
 h_5)
 (2 :
 Nat)
 (32 :
 Nat)
 b ∧
 at1
 h_20
 (Array.size
 h_5)
 (34 :
 Nat)
 (Value.int
 IntKind.i64
 n_115) ∧
 at1
 h_20
 (Array.size
 h_5)
 (35 :
 Nat)
 (Value.int
 IntKind.u64
 n_116) ∧
 at1
 h_20
 (Array.size
 h_5)
 (36 :
 Nat)
 (slVal
 s_12) ∧
 atBytes
 h_20
 (Array.size
 h_5)
 (37 :
 Nat)
 (16 :
 Nat)
 b_16) ∧
 CallsH
 Try.prog
 (17 :
 Nat)
 (TVs.vals
 [TV.agg
 [TV.slice
 s,
 TV.int
 IntKind.i64
 n,
 TV.int
 IntKind.i64
 n_103,
 TV.int
 IntKind.i64
 n_104,
 TV.int
 IntKind.i64
 n_105,
 TV.int
 IntKind.i64
 n_106,
 TV.int
 IntKind.i64
 n_107,
 TV.int
 IntKind.i64
 n_108,
 TV.int
 IntKind.i64
 n_109,
 TV.int
 IntKind.i64
 n_110,
 TV.int
 IntKind.i64
 n_111,
 TV.int
 IntKind.i64
 n_112],
 TV.agg
 [TV.int
 IntKind.i64
 n_113,
 TV.int
 IntKind.i64
 n_114,
 TV.bytes
 (32 :
 Nat)
 b,
 TV.int
 IntKind.i64
 n_115,
 TV.int
 IntKind.u64
 n_116,
 TV.slice
 s_12,
 TV.bytes
 (16 :
 Nat)
 b_16]])
 h_20
 fun
 (v :
 Value)
 (h :
 Array
 Obj) ↦
 ∃
 (b
 :
 Bool),
 v =
 TV.val
 (TV.bool
 b) ∧
 If
 b_4
 (∃
 (b_17
 :
 Bs
 (16 :
 Nat)),
 atBytes
 h
 (Array.size
 h_2)
 (0 :
 Nat)
 (16 :
 Nat)
 b_17 ∧
 ∃
 (b_18
 :
 Bs
 (16 :
 Nat)),
 atBytes
 h
 (Array.size
 h_9)
 (0 :
 Nat)
 (16 :
 Nat)
 b_18 ∧
 R
 (TV.val
 (TV.bool
 (b ==
 decide
 (b_17.l =
 b_18.l))))
 h)
 (R
 (TV.val
 (TV.bool
 (b ==
 false)))
 h))
 (R
 (TV.val
 (TV.bool
 false))
 h_20))
 (R
 (TV.val
 (TV.bool
 false))
 h_17))
 (R
 (TV.val
 (TV.bool
 false))
 h_16))
 (R
 (TV.val
 (TV.bool
 false))
 h_16))
 (R
 (TV.val
 (TV.bool
 false))
 h_16))
 (R
 (TV.val
 (TV.bool
 false))
 h_16)))

theorem tollerlaw08_SealOwn_calls (c_Validators : Sl) (c_Epoch : Int) (c_Committee : Int) (c_Nodes : Int) (c_Orphans : Int) (c_Early : Int) (c_Quota : Int) (c_Peers : Int) (c_Bytes : Int) (c_Window : Int) (c_Ban : Int) (c_Decay : Int) (m_Kind : Int) (m_Slot : Int) (m_Target : Bs (32 : Nat)) (m_Member : Int) (m_Body : Int) (m_Bits : Sl) (m_Tag : Bs (16 : Nat)) (t : Bs (16 : Nat)) (h : Heap) (R : Value → Heap → Prop) (H : tollerlaw08_SealOwn_vc c_Validators c_Epoch c_Committee c_Nodes c_Orphans c_Early c_Quota c_Peers c_Bytes c_Window c_Ban c_Decay m_Kind m_Slot m_Target m_Member m_Body m_Bits m_Tag t h R) : CallsH Try.prog 4 (TVs.vals [TV.agg [TV.slice c_Validators, TV.int IntKind.i64 c_Epoch, TV.int IntKind.i64 c_Committee, TV.int IntKind.i64 c_Nodes, TV.int IntKind.i64 c_Orphans, TV.int IntKind.i64 c_Early, TV.int IntKind.i64 c_Quota, TV.int IntKind.i64 c_Peers, TV.int IntKind.i64 c_Bytes, TV.int IntKind.i64 c_Window, TV.int IntKind.i64 c_Ban, TV.int IntKind.i64 c_Decay], TV.agg [TV.int IntKind.i64 m_Kind, TV.int IntKind.i64 m_Slot, TV.bytes (32 : Nat) m_Target, TV.int IntKind.i64 m_Member, TV.int IntKind.u64 m_Body, TV.slice m_Bits, TV.bytes (16 : Nat) m_Tag], TV.bytes (16 : Nat) t]) h R :=
 vcFn_sound (C := ctx) ctx_ok (fn := Try.f4) Try.func4 ((by kernel_rfl : tollerlaw08_SealOwn_vc c_Validators c_Epoch c_Committee c_Nodes c_Orphans c_Early c_Quota c_Peers c_Bytes c_Window c_Ban c_Decay m_Kind m_Slot m_Target m_Member m_Body m_Bits m_Tag t h R = vcFn ctx Try.f4 [TV.agg [TV.slice c_Validators, TV.int IntKind.i64 c_Epoch, TV.int IntKind.i64 c_Committee, TV.int IntKind.i64 c_Nodes, TV.int IntKind.i64 c_Orphans, TV.int IntKind.i64 c_Early, TV.int IntKind.i64 c_Quota, TV.int IntKind.i64 c_Peers, TV.int IntKind.i64 c_Bytes, TV.int IntKind.i64 c_Window, TV.int IntKind.i64 c_Ban, TV.int IntKind.i64 c_Decay], TV.agg [TV.int IntKind.i64 m_Kind, TV.int IntKind.i64 m_Slot, TV.bytes (32 : Nat) m_Target, TV.int IntKind.i64 m_Member, TV.int IntKind.u64 m_Body, TV.slice m_Bits, TV.bytes (16 : Nat) m_Tag], TV.bytes (16 : Nat) t] h R) ▸ H)


end Go.Proofs.Ytgdhddignbkloaa
end

section
/- Who may play, with their keys; rows of votes are the same; SealOwn. -/
namespace Go.Proofs.Ytgdhddignbkloaa.Board
open Go Go.Vc
section
variable {R : Value → Heap → Prop} {h : Heap} {c : Cf}

/-- A key that can be. -/
def KeyOk (v : Vd) : Prop := 1 ≤ v.key.length ∧ v.key.length ≤ 32

theorem total2_spec {s : Sl} {L : List Vd} (e : Elems 2 h s (vds L)) (hl : s.len < 100000) (hr : ∀ h' n b, Ext h h' → (b = true → ∀ v ∈ L, KeyOk v) → R (TV.tup [.int .i64 n, .bool b]).val h') : CallsH Try.prog 42 (TVs.vals [.slice s]) h R := by
  apply tollerref05_Total_calls
  unfold tollerref05_Total_vc
  have el : L.length = s.len := by have := e.len; rwa [List.length_map] at this
  refine ⟨fun σ hh => 0 ≤ σ.2.2.2 ∧ σ.2.2.2 ≤ s.len ∧ Ext h hh ∧ ∀ v ∈ L.take σ.2.2.2.toNat, KeyOk v, fun σ _ => ((s.len : Int) - σ.2.2.2).toNat, ⟨Int.le_refl 0, by first | omega | (dsimp only; omega), Ext.refl _, fun v hv => by simp at hv⟩, ?_⟩
  rintro ⟨a1, a2, a3, i⟩ h2 ⟨i0, i1, x2, hk⟩
  dsimp only at i0 i1 hk ⊢
  have no : (false = true → ∀ v ∈ L, KeyOk v) := fun hx => by cases hx
  refine If.dec.2 ⟨fun hi => ?_, fun hi => hr h2 _ _ x2 (fun _ => ?_)⟩
  · refine read_vd (e.ext x2) i0 (by omega) fun x hx => newTV_in fun h3 v3 x3 s3 => put_in v3 (t := x.tv) rfl fun h4 v4 o4 s4 => ?_
    have x4 : Ext h h4 := x2.trans (Only.cut x3 o4 fun i hi => by omega)
    refine ⟨x.stake, v4.at1 rfl, If.dec.2 ⟨fun _ => hr h4 _ _ x4 no, fun _ => ⟨x.key, v4.at1 rfl, If.dec.2 ⟨fun _ => hr h4 _ _ x4 no, fun k1 => ⟨x.key, v4.at1 rfl, If.dec.2 ⟨fun _ => hr h4 _ _ x4 no, fun k2 => ⟨x.stake, v4.at1 rfl, If.dec.2 ⟨fun _ => hr h4 _ _ x4 no, fun _ => ?_⟩⟩⟩⟩⟩⟩⟩⟩
    rw [wrap_i64 (n := i + 1) (by omega) (by omega)]
    refine ⟨⟨by first | omega | (dsimp only; omega), by first | omega | (dsimp only; omega), x4, ?_⟩, by first | omega | (dsimp only; omega)⟩
    try dsimp only
    rw [show (i + 1).toNat = i.toNat + 1 by omega, take_snoc hx]
    intro v hv
    rcases List.mem_append.1 hv with h1 | h1
    · exact hk v h1
    · rw [List.mem_singleton.1 h1]
      exact ⟨by omega, by omega⟩
  · rwa [List.take_of_length_le (by omega)] at hk

/-- What of a configuration that can be is of use here. -/
structure Fine2 (c : Cf) (L : List Vd) : Prop where
  fine : Fine c
  keys : ∀ v ∈ L, KeyOk v

theorem good2_spec {L : List Vd} (e : Elems 2 h c.vals (vds L)) (hv : c.vals.len ≤ 100) (hn : ∀ h', Ext h h' → R (TV.bool false).val h') (hy : ∀ h', Ext h h' → Fine2 c L → R (TV.bool true).val h') : CallsH Try.prog 25 (TVs.vals [c.tv]) h R := by
  apply tollerref05_Good_calls c.vals c.ep c.com c.no c.orp c.ear c.quo c.pe c.by_ c.win c.ban c.dec
  unfold tollerref05_Good_vc
  refine newTV_in fun h1 v1 x1 s1 => ?_
  refine ⟨c.vals, c.ep, c.com, c.no, c.orp, c.ear, c.quo, c.pe, c.by_, c.win, c.ban, c.dec, v1.at, ?_⟩
  refine numbers_spec (c := c) fun h2 s2 e2 x2 => ⟨_, rfl, ?_⟩
  have x02 := x1.trans x2
  have el := ints_len e2
  have hl24 : (nums c).length = 24 := rfl
  refine ⟨fun σ hh => 0 ≤ σ.2 ∧ σ.2 ≤ 24 ∧ σ.2 % 2 = 0 ∧ hh = h2 ∧ (∀ j : Nat, j < σ.2.toNat → j % 2 = 0 → ∀ x y, (nums c)[j]? = some x → (nums c)[j + 1]? = some y → 1 ≤ x ∧ x ≤ y), fun σ _ => ((24 : Int) - σ.2).toNat,
    ⟨Int.le_refl 0, by decide, by decide, rfl, fun j hj => by simp at hj⟩, ?_⟩
  rintro ⟨f, i⟩ hh ⟨i0, i1, i2, rfl, hall⟩
  dsimp only at i0 i1 i2 hall ⊢
  refine If.dec.2 ⟨fun hi => ?_, fun hi => ?_⟩
  · refine read_int e2 i0 (by omega) fun x hx => If.dec.2 ⟨fun _ => hn _ x02, fun hx1 => ?_⟩
    rw [wrap_i64 (n := i + 1) (by omega) (by omega), wrap_i64 (n := i + 2) (by omega) (by omega)]
    refine read_int e2 i0 (by omega) fun x' hx' => read_int e2 (i := i + 1) (by omega) (by omega) fun y hy' => If.dec.2 ⟨fun _ => hn _ x02, fun hxy => ?_⟩
    rw [hx] at hx'
    injection hx' with hx'
    subst hx'
    refine ⟨⟨by first | omega | (dsimp only; omega), by first | omega | (dsimp only; omega), by first | omega | (dsimp only; omega), rfl, fun j hj h2' => ?_⟩, by first | omega | (dsimp only; omega)⟩
    try dsimp only at hj
    by_cases hji : j < i.toNat
    · exact hall j hji h2'
    · have hj2 : j = i.toNat := by omega
      subst hj2
      intro a b ha hb
      rw [hx] at ha
      injection ha with ha
      have hi1 : (i + 1).toNat = i.toNat + 1 := by omega
      rw [hi1] at hy'
      rw [hy'] at hb
      injection hb with hb
      omega
  · refine ⟨c.vals, (v1.ext x2).at1 rfl, total2_spec (e.ext x02) (by omega) fun h3 n b x3 hk => ⟨n, b, rfl, ?_⟩⟩
    have hi3 : i.toNat = 24 := by omega
    rw [hi3] at hall
    have h2 := hall 2 (by decide) (by decide) c.com (mn 16 (c.vals.len : Int)) rfl rfl
    have h22 := hall 22 (by decide) (by decide) (c.vals.len : Int) 64 rfl rfl
    rw [mn_eq] at h2
    cases b with
    | false => exact hn h3 (x02.trans x3)
    | true => exact hy h3 (x02.trans x3) ⟨⟨h2.1, by omega, by omega, by omega⟩, hk rfl⟩

/-- More than is played? -/
theorem great8_spec {L : List Vd} {m : Ms} {row : List Bool} (e : Elems 2 h c.vals (vds L)) (em : Elems 1 h m.bits (bools row)) (hy : ∀ h', Ext h h' → R (TV.bool true).val h') (hn : ∀ h', Ext h h' → Fine2 c L → row.length ≤ 200 → R (TV.bool false).val h') :
    CallsH Try.prog 10 (TVs.vals [c.tv, m.tv]) h R := by
  apply tollerlaw08_great_calls c.vals c.ep c.com c.no c.orp c.ear c.quo c.pe c.by_ c.win c.ban c.dec m.kind m.slot m.target m.member m.body m.bits m.tag
  unfold tollerlaw08_great_vc
  have el : row.length = m.bits.len := by have := em.len; rwa [List.length_map] at this
  refine newTV_in fun h1 v1 x1 s1 => newTV_in fun h2 v2 x2 s2 => ?_
  have v1 : Var 24 h2 h.size c.tv := Var.ext (t := c.tv) v1 x2
  have v2 : Var 32 h2 h1.size m.tv := v2
  have x02 := x1.trans x2
  refine cf_at v1 (great_spec (c := c) (e.ext x02) (fun h3 x3 => ⟨_, rfl, If.yes (hy h3 (x02.trans x3))⟩) fun h3 x3 h100 => ⟨_, rfl, If.no ?_⟩)
  have x03 := x02.trans x3
  refine cf_at (v1.ext x3) (good2_spec (c := c) (e.ext x03) h100 (fun h4 x4 => ⟨_, rfl, If.yes (hy h4 (x03.trans x4))⟩) fun h4 x4 hf => ⟨_, rfl, If.no ?_⟩)
  have x04 := x03.trans x4
  have w2 := (v2.ext x3).ext x4
  refine ⟨m.bits, w2.at.2.2.2.2.2.1, ?_⟩
  by_cases hb : (200 : Int) < (m.bits.len : Int)
  · rw [decide_eq_true hb]
    exact hy h4 x04
  · rw [decide_eq_false hb]
    exact hn h4 x04 hf (by omega)

/-- Two rows of the same votes are the same. -/
theorem vsame_spec {s t : Sl} {l : List Vt} (e : Elems 34 h s (vts l)) (k : Elems 34 h t (vts l)) (hl : l.length < 100000) (hr : R (TV.bool true).val h) : CallsH Try.prog 16 (TVs.vals [.slice s, .slice t]) h R := by
  apply tollerref08_Same_calls
  unfold tollerref08_Same_vc
  have es : l.length = s.len := by have := e.len; rwa [List.length_map] at this
  have et : l.length = t.len := by have := k.len; rwa [List.length_map] at this
  refine If.split (fun hb => ?_) fun _ => ?_
  · have : ((s.len : Nat) : Int) = ((t.len : Nat) : Int) := by omega
    simp [this] at hb
  refine ⟨fun σ hh => 0 ≤ σ.2 ∧ σ.2 ≤ s.len ∧ hh = h, fun σ _ => ((s.len : Int) - σ.2).toNat, ⟨Int.le_refl 0, by first | omega | (dsimp only; omega), rfl⟩, ?_⟩
  rintro ⟨f, i⟩ hh ⟨i0, i1, rfl⟩
  dsimp only at i0 i1 ⊢
  refine If.dec.2 ⟨fun hi => ?_, fun hi => hr⟩
  refine e.read i0 hi fun l1 t1 ha1 ht1 at1' => ?_
  rw [List.getElem?_map] at ht1
  obtain ⟨x, hx, rfl⟩ := Option.map_eq_some_iff.1 ht1
  refine ⟨x.who, x.slot, x.target, at1', k.read i0 (by omega) fun l2 t2 ha2 ht2 at2' => ?_⟩
  rw [List.getElem?_map] at ht2
  obtain ⟨y, hy, rfl⟩ := Option.map_eq_some_iff.1 ht2
  rw [hx] at hy
  obtain rfl := Option.some.inj hy
  refine ⟨x.who, x.slot, x.target, at2', ?_⟩
  have : (!(decide (x.who = x.who) && (decide (x.slot = x.slot) && (decide (x.target.l = x.target.l) && true)))) = false := by simp
  rw [this]
  refine If.no ?_
  rw [wrap_i64 (n := i + 1) (by omega) (by omega)]
  exact ⟨⟨by first | omega | (dsimp only; omega), by first | omega | (dsimp only; omega), rfl⟩, by first | omega | (dsimp only; omega)⟩

theorem votes_len {n : Nat} {com : Int} {m : Ms} {row : List Bool} : (votesF n com m row).length ≤ n + 1 := by
  unfold votesF
  split
  · simp
  · rw [List.length_map]; exact speak_len

theorem keys64 {L : List Vd} (hk : ∀ v ∈ L, KeyOk v) : ∀ v ∈ L, v.key.length ≤ 64 := fun v hv => by have := (hk v hv).2; omega

theorem speak_tag_ok (n : Nat) (com : Int) (L : List Vd) (m : Ms) (row : List Bool) : (tagF n com L m row).2 = (speakF n com m row).2 := by
  unfold tagF
  split
  · rename_i h; exact h.symm
  · rename_i h; simp at h; exact h.symm

/-- WHAT A MESSAGE'S TAG IS PLAYS NO PART. -/
theorem sealOwn_spec {m : Ms} {t : Bs 16} (hc : ∃ L, Elems 2 h c.vals (vds L)) (hm : ∃ row, Elems 1 h m.bits (bools row)) (hr : ∀ h', Ext h h' → R (TV.bool true).val h') : CallsH Try.prog 4 (TVs.vals [c.tv, m.tv, .bytes 16 t]) h R := by
  obtain ⟨L, e⟩ := hc
  obtain ⟨row, em⟩ := hm
  apply tollerlaw08_SealOwn_calls c.vals c.ep c.com c.no c.orp c.ear c.quo c.pe c.by_ c.win c.ban c.dec m.kind m.slot m.target m.member m.body m.bits m.tag
  unfold tollerlaw08_SealOwn_vc
  refine newTV_in fun h1 v1 x1 s1 => newTV_in fun h2 v2 x2 s2 => newTV_in fun h3 v3 x3 s3 => ?_
  have v1 : Var 24 h3 h.size c.tv := (Var.ext (t := c.tv) v1 x2).ext x3
  have v2 : Var 32 h3 h1.size m.tv := Var.ext (t := m.tv) v2 x3
  have x03 := (x1.trans x2).trans x3
  refine alive_spec fun h4 x4 => ⟨_, rfl, If.no ?_⟩
  have x04 := x03.trans x4
  have v14 := v1.ext x4
  have v24 := v2.ext x4
  refine cf_at v14 (ms_at v24 (great8_spec (e.ext x04) (em.ext x04) (fun h5 x5 => ⟨_, rfl, If.yes (hr h5 (x04.trans x5))⟩) fun h5 x5 hf h200 => ⟨_, rfl, If.no ?_⟩))
  have x05 := x04.trans x5
  have hv : c.vals.len < 900 := by have := hf.fine.len; omega
  have hk := keys64 hf.keys
  have v15 := v14.ext x5
  have v25 := v24.ext x5
  refine ms_at v25 (newTV_in fun h6 v6 x6 s6 => put_n (t0 := zeroM.tv) v6 (t := m.tv) mssz1 mssz fun h7 v7 f7 s7 => ?_)
  have x57 : Ext h5 h7 := Only.cut x6 f7 fun i hi => by omega
  have v37 : Var 30 h7 h2.size (.bytes 16 t) := ((v3.ext x4).ext x5).ext x57
  refine ⟨t, v37.bytes, ?_⟩
  refine field_in (i := 6) (t := .bytes 16 t) (t0 := .bytes 16 m.tag) v7 rfl rfl rfl rfl fun h8 v8 f8 s8 => ?_
  have v8 : Var 32 h8 h5.size ({ m with tag := t } : Ms).tv := v8
  have x58 : Ext h5 h8 := Only.cut x57 f8 fun i hi => by omega
  have x08 := x05.trans x58
  refine cf_at (v15.ext x58) (ms_at (v25.ext x58) (tag_spec hv (e.ext x08) hk (em.ext x08) (by omega) fun h9 x9 => ⟨_, _, rfl, ?_⟩))
  have x09 := x08.trans x9
  refine newTV_in fun h10 v10 x10 s10 => put_n v10 (t := .bytes 16 (tagF c.vals.len c.com L m row).1) rfl rfl fun h11 v11 f11 s11 => ?_
  have x911 : Ext h9 h11 := Only.cut x10 f11 fun i hi => by omega
  have x011 := x09.trans x911
  have x811 := x9.trans x911
  have x511 := x58.trans x811
  refine cf_at (v15.ext x511) (ms_at (v8.ext x811) (tag_spec (m := { m with tag := t }) hv (e.ext x011) hk (em.ext x011) (by omega) fun h12 x12 => ⟨_, _, rfl, ?_⟩))
  rw [tagF_tag]
  refine newTV_in fun h13 v13 x13 s13 => put_n v13 (t := .bytes 16 (tagF c.vals.len c.com L m row).1) rfl rfl fun h14 v14' f14 s14 => ?_
  have x1214 : Ext h12 h14 := Only.cut x13 f14 fun i hi => by omega
  have x1114 := x12.trans x1214
  have x014 := x011.trans x1114
  have x514 := x511.trans x1114
  have x814 := x811.trans x1114
  refine cf_at (v15.ext x514) (ms_at (v25.ext x514) (speak_spec hv (em.ext x014) (by omega) fun h15 s15 e15 x15 => ⟨_, _, rfl, ?_⟩))
  have x515 := x514.trans x15
  have x815 := x814.trans x15
  have x015 := x014.trans x15
  refine cf_at (v15.ext x515) (ms_at (v8.ext x815) (speak_spec (m := { m with tag := t }) hv (em.ext x015) (by omega) fun h16 s16 e16 x16 => ⟨_, _, rfl, ?_⟩))
  have x516 := x515.trans x16
  have x816 := x815.trans x16
  have x016 := x015.trans x16
  rw [speak_tag] at e16 ⊢
  have w11 : Var 30 h16 h9.size (.bytes 16 (tagF c.vals.len c.com L m row).1) := ((v11.ext x1114).ext x15).ext x16
  have w14 : Var 30 h16 h12.size (.bytes 16 (tagF c.vals.len c.com L m row).1) := (v14'.ext x15).ext x16
  refine ⟨_, w11.bytes, _, w14.bytes, ?_⟩
  rw [speak_tag_ok]
  refine If.dec.2 ⟨fun _ => ?_, fun hx => absurd rfl hx⟩
  have yes : ∀ (b : Bool) (p q : Prop), p → If (b == b) p q := fun b p q hp => by cases b <;> exact hp
  refine yes _ _ _ (yes _ _ _ (yes _ _ _ ?_))
  refine same_spec (e15.ext x16) e16 (by have := speak_len (n := c.vals.len) (com := c.com) (m := m) (row := row); omega) ⟨_, rfl, ?_⟩
  rw [decide_eq_true rfl]
  refine If.yes (cf_at (v15.ext x516) (ms_at (v25.ext x516) (cf_at (v15.ext x516) (ms_at (v8.ext x816) ?_))))
  refine votes_spec (m := m) hv (em.ext x016) (by omega) fun h17 s17 e17 x17 => ⟨_, rfl, x17, ?_⟩
  have x017 := x016.trans x17
  refine votes_spec (m := { m with tag := t }) hv (em.ext x017) (by omega) fun h18 s18 e18 x18 => ⟨_, rfl, ?_⟩
  rw [votes_tag] at e18
  refine vsame_spec (e17.ext x18) e18 (by have := votes_len (n := c.vals.len) (com := c.com) (m := m) (row := row); omega) ⟨_, rfl, If.yes ?_⟩
  have x1618 := x17.trans x18
  have x018 := x016.trans x1618
  refine cf_at ((v15.ext x516).ext x1618) (ms_at ((v8.ext x816).ext x1618) (check_spec (m := { m with tag := t }) hv (e.ext x018) hk (em.ext x018) (by omega) fun h19 x19 => ⟨_, rfl, ?_⟩))
  have hend := hr h19 (x018.trans x19)
  unfold checkF
  rw [tagF_tag, speak_tag_ok]
  refine If.split (fun hb => ?_) fun hb => ?_
  · refine ⟨_, ((((v37.only f8 (by have := x4.size; have := x5.size; omega)).ext (x816.trans x1618)).ext x19)).bytes, _, ((w11.ext x1618).ext x19).bytes, ?_⟩
    rw [hb, Bool.true_and]
    have : (decide ((tagF c.vals.len c.com L m row).1.l = t.l) == decide (t.l = (tagF c.vals.len c.com L m row).1.l)) = true := by
      by_cases hx : (tagF c.vals.len c.com L m row).1.l = t.l
      · rw [decide_eq_true hx, decide_eq_true hx.symm]; rfl
      · rw [decide_eq_false hx, decide_eq_false (fun hy => hx hy.symm)]; rfl
    show R (TV.bool (decide ((tagF c.vals.len c.com L m row).1.l = t.l) == decide (t.l = (tagF c.vals.len c.com L m row).1.l))).val h19
    rw [this]
    exact hend
  · rw [hb, Bool.false_and]
    exact hend

end
end Go.Proofs.Ytgdhddignbkloaa.Board
end

section
/- The document's lots, and the choice of the least one by one. -/
namespace Go.Proofs.Ytgdhddignbkloaa.Board
open Go Go.Vc
set_option maxRecDepth 100000

/-! ### A number's bytes -/

def leR (n : Int) : Nat → List UInt8
  | 0 => []
  | k + 1 => UInt8.ofNat (IntKind.wrap .u8 (Int.tmod n 256)).toNat :: leR (IntKind.wrap .u64 (Int.tdiv n 256)) k

theorem leR_length : ∀ (k : Nat) (n : Int), (leR n k).length = k
  | 0, _ => rfl
  | k + 1, n => by simp [leR, leR_length k]

theorem leR_eq : ∀ (k : Nat) (n : Int), 0 ≤ n → n < 18446744073709551616 → leR n k = leF n k
  | 0, _, _, _ => rfl
  | k + 1, n, h0, h1 => by
    have e1 : Int.tmod n 256 = n % 256 := Int.tmod_eq_emod_of_nonneg h0
    have e2 : Int.tdiv n 256 = n / 256 := Int.tdiv_eq_ediv_of_nonneg h0
    have e3 : Int.fdiv n ((2 : Int) ^ min (Int.toNat 8) (IntKind.bits .u64)) = n / 256 := by
      show Int.fdiv n 256 = n / 256
      exact Int.fdiv_eq_ediv_of_nonneg n (by decide)
    rw [leR, leF, e1, e2, e3, wrap_u64_small (n := n / 256) (by omega) (by omega), leR_eq k (n / 256) (by omega) (by omega), wrap_u8, wrap_u8]
    congr 3
    omega

section
variable {R : Value → Heap → Prop} {h : Heap} {c : Cf}

theorem docput_spec : ∀ (k : Nat) (n : Int) (h : Heap) (R : Value → Heap → Prop), k ≤ 8 → (∀ h', Ext h h' → R (TV.str (leR n k)).val h') → CallsH Try.prog 44 (TVs.vals [.int .u64 n, .int .i64 (k : Int)]) h R
  | 0, n, h, R, _, hr => by
    apply tollerref01_Put_calls
    unfold tollerref01_Put_vc
    exact If.dec.2 ⟨fun _ => hr h (Ext.refl _), fun hn => absurd (by decide) hn⟩
  | k + 1, n, h, R, hk, hr => by
    apply tollerref01_Put_calls
    unfold tollerref01_Put_vc
    refine If.dec.2 ⟨fun hn => by omega, fun _ => ⟨by decide, by decide, ?_⟩⟩
    have hm : IntKind.wrap .i64 (mn ((k + 1 : Nat) : Int) 8 - 1) = (k : Int) := by
      rw [mn_eq, wrap_i64 (by omega) (by omega)]
      omega
    rw [hm]
    have hw := wrap_u8_range (Int.tmod n 256)
    have hl := leR_length k (IntKind.wrap .u64 (Int.tdiv n 256))
    refine ⟨⟨Ext.push _ _, _, str1 hw.1 hw.2, docput_spec k _ _ _ (by omega) fun h1 x1 => ⟨_, rfl, x1, ?_, ?_⟩⟩, docput_spec k _ _ _ (by omega) fun h1 x1 => ⟨_, rfl, x1, Ext.push _ _, _, str1 hw.1 hw.2, ?_, ?_⟩⟩
    · rw [hl, List.length_singleton]; omega
    · exact hr h1 ((Ext.push _ _).trans x1)
    · rw [hl, List.length_singleton]; omega
    · exact hr _ (x1.trans (Ext.push _ _))

theorem docless_spec {a b : Bs 32} (hr : ∀ h', Ext h h' → R (TV.bool (Op.bytesLess a.l b.l)).val h') : CallsH Try.prog 45 (TVs.vals [.bytes 32 a, .bytes 32 b]) h R := by
  apply tollerref03_Less_calls
  unfold tollerref03_Less_vc
  refine newTV_in fun h1 v1 x1 s1 => newTV_in fun h2 v2 x2 s2 => ?_
  have v1' := v1.ext x2
  have byte_at : ∀ {h : Heap} {b : Nat} {x : Bs 32} {i : Nat}, Var 26 h b (.bytes 32 x) → (hi : i < 32) → at1 h b (0 + i * 1) (.int .u8 ((x.l[i]'(by rw [x.h]; exact hi)).toNat : Int)) := by
    intro h b x i v hi
    have := v.bytes i hi
    rw [Nat.mul_one]
    unfold at1
    rw [this]
    have hl : i < x.l.length := by rw [x.h]; exact hi
    simp [List.getD, hl]
  refine ⟨fun s hh => 0 ≤ s.2 ∧ s.2 ≤ 32 ∧ hh = h2 ∧ Op.bytesLess a.l b.l = Op.bytesLess (a.l.drop s.2.toNat) (b.l.drop s.2.toNat), fun s _ => ((32 : Int) - s.2).toNat, ⟨by simp, by simp, rfl, by simp⟩, ?_⟩
  rintro ⟨x, i⟩ hh ⟨i0, i1, rfl, hl⟩
  simp only at i0 i1 hl ⊢
  have ha := a.h
  have hb := b.h
  refine If.dec.2 ⟨fun hi => ?_, fun hi => ?_⟩
  · have ni : i.toNat < 32 := by omega
    have da : a.l.drop i.toNat = a.l[i.toNat] :: a.l.drop (i.toNat + 1) := List.drop_eq_getElem_cons (by omega)
    have db : b.l.drop i.toNat = b.l[i.toNat] :: b.l.drop (i.toNat + 1) := List.drop_eq_getElem_cons (by omega)
    rw [da, db] at hl
    simp only [Op.bytesLess] at hl
    refine ⟨i0, hi, _, byte_at v1' ni, i0, hi, _, byte_at v2 ni, ?_⟩
    refine If.split (fun hne => ?_) (fun he => ?_)
    · refine ⟨i0, hi, _, byte_at v1' ni, i0, hi, _, byte_at v2 ni, ?_⟩
      have hne' : (a.l[i.toNat] == b.l[i.toNat]) = false := by
        rw [beq_eq_false_iff_ne]
        intro hx
        rw [hx] at hne
        simp at hne
      rw [hne', Bool.false_and, Bool.or_false] at hl
      have : Op.bytesLess a.l b.l = decide (((a.l[i.toNat]).toNat : Int) < ((b.l[i.toNat]).toNat : Int)) := by
        rw [hl]
        refine decide_eq_decide.2 ?_
        rw [UInt8.lt_iff_toNat_lt]
        omega
      rw [← this]
      exact hr _ (x1.trans x2)
    · have he' : a.l[i.toNat] = b.l[i.toNat] := by
        simp only [Bool.not_eq_false', decide_eq_true_eq] at he
        exact UInt8.toNat_inj.1 (by omega)
      rw [wrap_i64 (by omega) (by omega)]
      refine ⟨⟨by omega, by omega, by trivial, ?_⟩, by first | omega | (dsimp only; omega)⟩
      have hi' : (i + 1).toNat = i.toNat + 1 := by omega
      rw [hi', hl, he']
      have : ¬ (b.l[i.toNat] < b.l[i.toNat]) := UInt8.lt_irrefl _
      simp [this]
  · have hi' : i.toNat = 32 := by omega
    rw [hi', List.drop_eq_nil_of_le (by omega), List.drop_eq_nil_of_le (by omega)] at hl
    simp only [Op.bytesLess] at hl
    rw [hl] at hr
    exact hr _ (x1.trans x2)

theorem board_length : board.length = 5 := by decide

theorem lens11 : rlens 11 8 = lens 11 8 := by decide +kernel

theorem wrap_u64_range (n : Int) : 0 ≤ IntKind.wrap .u64 n ∧ IntKind.wrap .u64 n < 18446744073709551616 := by
  have : IntKind.wrap .u64 n = n % 18446744073709551616 := by
    unfold IntKind.wrap
    show (if (false && _) = true then _ else n % 2 ^ 64) = n % 18446744073709551616
    simp
  rw [this]
  omega

/-- The document's lot is the program's. -/
theorem doc_lot (slot who : Int) : docF ((board ++ leR (IntKind.wrap .u64 slot) 4) ++ leR (IntKind.wrap .u64 who) 2) = lotF slot who := by
  have w1 := wrap_u64_range slot
  have w2 := wrap_u64_range who
  rw [leR_eq 4 _ w1.1 w1.2, leR_eq 2 _ w2.1 w2.2]
  unfold lotF ofF
  have l4 := leF_length 4 (IntKind.wrap .u64 slot)
  have l2 := leF_length 2 (IntKind.wrap .u64 who)
  have hflat : [board, ([] ++ leF (IntKind.wrap .u64 slot) 4) ++ leF (IntKind.wrap .u64 who) 2].flatten = (board ++ leF (IntKind.wrap .u64 slot) 4) ++ leF (IntKind.wrap .u64 who) 2 := by simp
  have hcnt : cntF [board, ([] ++ leF (IntKind.wrap .u64 slot) 4) ++ leF (IntKind.wrap .u64 who) 2] 0 = 11 := by
    have h6 : ((([] ++ leF (IntKind.wrap .u64 slot) 4) ++ leF (IntKind.wrap .u64 who) 2).length : Int) = 6 := by
      rw [List.length_append, List.nil_append, l4, l2]; rfl
    rw [cntF, cntF, cntF, h6, board_length]
    decide +kernel
  rw [hflat, hcnt]
  have hlen : ((board ++ leF (IntKind.wrap .u64 slot) 4) ++ leF (IntKind.wrap .u64 who) 2).length = 11 := by
    rw [List.length_append, List.length_append, l4, l2, board_length]
  generalize (board ++ leF (IntKind.wrap .u64 slot) 4) ++ leF (IntKind.wrap .u64 who) 2 = t at *
  have hp : padF t = fullF t 11 := by
    unfold padF fullF
    rw [hlen]
    show ((t ++ [128]) ++ List.replicate (padK 11) 0) ++ rlens 11 8 = _
    rw [lens11]
    rfl
  have hpl : (padF t).length = 64 := by rw [padF_length, hlen]; rfl
  unfold docF
  rw [hpl]
  show outF (takeF firstW (((padF t).drop (64 * 0)).take 64)) 8 = _
  rw [Nat.mul_zero, List.drop_zero, List.take_of_length_le (by omega), hp]

end

/-! ### The least of those that are left -/

def seatOf (slot : Int) (j : Nat) : Seat := ⟨lotF slot (j : Int), (j : Int)⟩

theorem mem_sorted {slot : Int} {n : Nat} {x : Seat} (h : x ∈ sorted slot n) : ∃ j, j < n ∧ x = seatOf slot j := by
  have := (sorted_perm slot n).mem_iff.1 h
  unfold sts at this
  obtain ⟨j, hj, rfl⟩ := List.mem_map.1 this
  exact ⟨j, List.mem_range.1 hj, rfl⟩

theorem seat_in {slot : Int} {n j : Nat} (h : j < n) : seatOf slot j ∈ sorted slot n := by
  refine (sorted_perm slot n).mem_iff.2 ?_
  unfold sts
  exact List.mem_map.2 ⟨j, List.mem_range.2 h, rfl⟩

/-- The least of those among the first i that are left. -/
def Best (slot : Int) (un : Nat → Bool) (i : Nat) (best : Int) : Prop :=
  (best = -1 ∧ ∀ j, j < i → un j = false) ∨ ∃ b : Nat, best = (b : Int) ∧ b < i ∧ un b = true ∧ ∀ j, j < i → un j = true → j ≠ b → sb (seatOf slot b) (seatOf slot j)

theorem Best.skip {slot : Int} {un : Nat → Bool} {i : Nat} {best : Int} (B : Best slot un i best) (hu : un i = false) : Best slot un (i + 1) best := by
  rcases B with ⟨hb, hall⟩ | ⟨b, hb, hbi, hub, hall⟩
  · refine .inl ⟨hb, fun j hj => ?_⟩
    by_cases hji : j = i
    · rw [hji]; exact hu
    · exact hall j (by omega)
  · refine .inr ⟨b, hb, by omega, hub, fun j hj huj hjb => ?_⟩
    by_cases hji : j = i
    · rw [hji, hu] at huj; cases huj
    · exact hall j (by omega) huj hjb

theorem Best.first {slot : Int} {un : Nat → Bool} {i : Nat} {best : Int} (B : Best slot un i best) (hn : best < 0) (hu : un i = true) : Best slot un (i + 1) (i : Int) := by
  rcases B with ⟨_, hall⟩ | ⟨b, hb, _⟩
  · refine .inr ⟨i, rfl, by omega, hu, fun j hj huj hjb => ?_⟩
    rw [hall j (by omega)] at huj
    cases huj
  · omega

theorem Best.less {slot : Int} {un : Nat → Bool} {i b : Nat} (B : Best slot un i (b : Int)) (hu : un i = true) (hl : Op.bytesLess (lotF slot (i : Int)).l (lotF slot (b : Int)).l = true) : Best slot un (i + 1) (i : Int) := by
  rcases B with ⟨hb, _⟩ | ⟨b', hb, hbi, hub, hall⟩
  · omega
  · have : b' = b := by omega
    subst this
    have h1 : sb (seatOf slot i) (seatOf slot b') := .inl hl
    refine .inr ⟨i, rfl, by omega, hu, fun j hj huj hji => ?_⟩
    by_cases hjb : j = b'
    · rw [hjb]; exact h1
    · exact sb_trans h1 (hall j (by omega) huj hjb)

theorem Best.keep {slot : Int} {un : Nat → Bool} {i b : Nat} (B : Best slot un i (b : Int)) (hl : Op.bytesLess (lotF slot (i : Int)).l (lotF slot (b : Int)).l = false) : Best slot un (i + 1) (b : Int) := by
  rcases B with ⟨hb, _⟩ | ⟨b', hb, hbi, hub, hall⟩
  · omega
  · have : b' = b := by omega
    subst this
    refine .inr ⟨b', rfl, by omega, hub, fun j hj huj hjb => ?_⟩
    by_cases hji : j = i
    · subst hji
      rcases sb_total (x := seatOf slot b') (y := seatOf slot j) (by show (b' : Int) ≠ j; omega) with h1 | h1
      · exact h1
      · rcases h1 with h1 | ⟨_, h1⟩
        · have : Op.bytesLess (lotF slot (j : Int)).l (lotF slot (b' : Int)).l = true := h1
          rw [hl] at this
          cases this
        · have : (j : Int) < (b' : Int) := h1
          omega
    · exact hall j (by omega) huj hjb

/-- Who is left behind the first k of all in order. -/
noncomputable def left (slot : Int) (n k : Nat) (j : Nat) : Bool := !decide ((j : Int) ∈ (whos slot n).take k)

theorem whos_get {slot : Int} {n k : Nat} (hk : k < n) : ∃ j : Nat, j < n ∧ (sorted slot n)[k]? = some (seatOf slot j) ∧ (whos slot n)[k]? = some (j : Int) := by
  have hl := sorted_length slot n
  have hg : (sorted slot n)[k]? = some (sorted slot n)[k] := List.getElem?_eq_getElem (by omega)
  obtain ⟨j, hj, e⟩ := mem_sorted (List.getElem_mem (by omega : k < (sorted slot n).length))
  refine ⟨j, hj, by rw [hg, e], ?_⟩
  unfold whos
  rw [List.getElem?_map, hg, e]
  rfl

theorem take_mem {l : List Int} {k : Nat} {x : Int} (hn : l.Nodup) (hx : l[k]? = some x) : x ∉ l.take k := by
  intro h
  obtain ⟨i, hi⟩ := List.getElem?_of_mem h
  rw [List.getElem?_take] at hi
  split at hi
  · rename_i hik
    have hkl := (List.getElem?_eq_some_iff.1 hx).1
    have := (List.getElem?_inj (by omega) hn).1 (hi.trans hx.symm)
    omega
  · cases hi

theorem Best.done {slot : Int} {n k : Nat} {best : Int} (hk : k < n) (B : Best slot (left slot n k) n best) : ∃ b : Nat, b < n ∧ best = (b : Int) ∧ (whos slot n)[k]? = some (b : Int) := by
  obtain ⟨j0, hj0, hs0, hw0⟩ := whos_get (slot := slot) hk
  have hnd := whos_nodup slot n
  have hu0 : left slot n k j0 = true := by
    unfold left
    rw [decide_eq_false (take_mem hnd hw0)]
    rfl
  rcases B with ⟨_, hall⟩ | ⟨b, hb, hbn, hub, hall⟩
  · rw [hall j0 hj0] at hu0; cases hu0
  · refine ⟨b, hbn, hb, ?_⟩
    by_cases h0 : j0 = b
    · rw [← h0]; exact hw0
    · exfalso
      have h1 := hall j0 hj0 hu0 h0
      -- b stands behind the k-th
      have hbl : (b : Int) ∉ (whos slot n).take k := by
        unfold left at hub
        simpa using hub
      obtain ⟨i, hi⟩ := List.getElem?_of_mem (seat_in (slot := slot) hbn)
      have hwi : (whos slot n)[i]? = some (b : Int) := by
        unfold whos
        rw [List.getElem?_map, hi]
        rfl
      have hik : k < i := by
        rcases Nat.lt_trichotomy i k with h2 | h2 | h2
        · refine absurd (List.mem_of_getElem? (i := i) ?_) hbl
          rw [List.getElem?_take, if_pos h2]
          exact hwi
        · rw [h2, hw0] at hwi
          injection hwi with hwi
          omega
        · exact h2
      have hp := List.pairwise_iff_getElem.1 (sorted_pair slot n) k i (List.getElem?_eq_some_iff.1 hs0).1 (List.getElem?_eq_some_iff.1 hi).1 hik
      rw [(List.getElem?_eq_some_iff.1 hs0).2, (List.getElem?_eq_some_iff.1 hi).2] at hp
      exact hp h1

theorem left_succ {slot : Int} {n k b : Nat} (hw : (whos slot n)[k]? = some (b : Int)) (j : Nat) : left slot n (k + 1) j = if j = b then false else left slot n k j := by
  unfold left
  rw [take_snoc hw]
  by_cases hj : j = b
  · subst hj
    rw [if_pos rfl]
    simp
  · rw [if_neg hj]
    have : (j : Int) ≠ (b : Int) := by omega
    simp [this]

end Go.Proofs.Ytgdhddignbkloaa.Board
end

section
/- The document's committee. -/
namespace Go.Proofs.Ytgdhddignbkloaa.Board
open Go Go.Vc

theorem bytes47 : (ctx.ti 26).bytes = 32 := by kernel_rfl
theorem size47 : (ctx.ti 26).size = 32 := by kernel_rfl
theorem zsize47 : (ctx.ti 26).z.size = 32 := by kernel_rfl

abbrev lots (slot : Int) (n : Nat) : List TV := (List.range n).map fun (j : Nat) => TV.bytes 32 (lotF slot (j : Int))

theorem lots_succ (slot : Int) (n : Nat) : lots slot (n + 1) = lots slot n ++ [TV.bytes 32 (lotF slot (n : Int))] := by
  unfold lots
  rw [List.range_succ, List.map_append]
  rfl

noncomputable def flags (slot : Int) (n k : Nat) : List Bool := (List.range n).map fun j => !left slot n k j

theorem flags_zero (slot : Int) (n : Nat) : flags slot n 0 = List.replicate n false := by
  unfold flags left
  apply List.ext_getElem (by simp)
  intro j h1 h2
  simp

theorem flags_get {slot : Int} {n k j : Nat} (hj : j < n) : (flags slot n k)[j]? = some (!left slot n k j) := by
  unfold flags
  rw [List.getElem?_map, List.getElem?_range hj]
  rfl

theorem flags_set {slot : Int} {n k b : Nat} (hw : (whos slot n)[k]? = some (b : Int)) : (flags slot n k).set b true = flags slot n (k + 1) := by
  unfold flags
  apply List.ext_getElem (by simp)
  intro j h1 h2
  simp only [List.length_map, List.length_range] at h2
  rw [List.getElem_set]
  simp only [List.getElem_map, List.getElem_range]
  rw [left_succ hw]
  by_cases hj : b = j
  · subst hj
    simp
  · rw [if_neg hj, if_neg (fun e => hj e.symm)]

section
variable {R : Value → Heap → Prop} {h : Heap} {c : Cf}

theorem lot_at {s : Sl} {slot : Int} {n m : Nat} {i : Int} (hm : m = s.len) (e : Elems 32 h s (lots slot n)) (i0 : 0 ≤ i) (i1 : i < n) {K : Bs 32 → Prop} (hk : K (lotF slot i)) :
    0 ≤ i ∧ i < (m : Int) ∧ Nn s.a fun (l : Vc.Loc) => ∃ (b : Bs 32), atBytes h l.b (l.o + i.toNat * 32) 32 b ∧ K b := by
  subst hm
  have hl := e.len
  rw [List.length_map, List.length_range] at hl
  refine e.read i0 (by omega) fun l t hla ht ha => ?_
  rw [List.getElem?_map, List.getElem?_range (by omega)] at ht
  injection ht with ht
  subst ht
  have hc : ((i.toNat : Nat) : Int) = i := by omega
  have ha2 : TV.at h l.b (l.o + i.toNat * 32) (TV.bytes 32 (lotF slot ((i.toNat : Nat) : Int))) := ha
  rw [hc] at ha2
  exact ⟨_, ha2, hk⟩

theorem own_bool {s : Sl} {l : List Bool} {i : Int} {b : Nat} (o : Own 4 1 h s (bools l)) (hs : s.a = some ⟨b, 0⟩) (i0 : 0 ≤ i) (i1 : i < l.length) {K : Bool → Prop} (hk : ∀ x, l[i.toNat]? = some x → K x) :
    ∃ (x : Bool), at1 h b (0 + i.toNat * 1) (.bool x) ∧ K x := by
  have hl := o.len
  rw [List.length_map] at hl
  have := read_bool o.elems i0 i1 hk
  rw [hs] at this
  obtain ⟨_, _, hx⟩ := this
  exact hx

set_option maxRecDepth 100000 in
set_option maxHeartbeats 1000000 in
theorem docmembers_spec {slot : Int} (f : Fine c) (hr : ∀ h' s', Own 3 1 h' s' (ints (mem c.vals.len c.com slot)) → Ext h h' → (∀ l, s'.a = some l → h.size ≤ l.b) → R (TV.slice s').val h') :
    CallsH Try.prog 26 (TVs.vals [c.tv, .int .i64 slot]) h R := by
  apply tollerref06_Members_calls c.vals c.ep c.com c.no c.orp c.ear c.quo c.pe c.by_ c.win c.ban c.dec slot
  unfold tollerref06_Members_vc
  refine newTV_in fun h1 v1 x1 s1 => ?_
  intro J hJ
  have none_ : slot < 0 ∨ 1073741824 < slot → R (TV.val (TV.slice Sl.nil)) h1 := fun hb => by
    refine hr h1 Sl.nil ?_ x1 (fun l hl => by cases hl)
    rw [mem_out hb]
    exact Own.nil _ _ _
  refine If.dec.2 ⟨fun hb => none_ (.inl hb), fun hb => If.dec.2 ⟨fun hb2 => none_ (.inr hb2), fun hb2 => hJ _ _ ?_⟩⟩
  clear hJ none_
  have f1 := f.com1
  have f2 := f.com2
  have f3 := f.com3
  have f4 := f.len
  have far : ∀ hh, Only (fun i => h.size < i) h1 hh → Ext h hh := fun hh o => Only.cut x1 o fun i hi => by omega
  have var : ∀ hh, Only (fun i => h.size < i) h1 hh → Var 24 hh h.size c.tv := fun hh o => v1.only o (Nat.lt_irrefl _)
  refine ⟨c.vals, v1.at1 rfl, ?_⟩
  refine ⟨fun σ hh => 0 ≤ σ.2 ∧ σ.2 ≤ c.vals.len ∧ Own 26 32 hh σ.1 (lots slot σ.2.toNat) ∧ (∀ l, σ.1.a = some l → h.size < l.b) ∧ Only (fun i => h.size < i) h1 hh, fun σ _ => ((c.vals.len : Int) - σ.2).toNat,
    ⟨Int.le_refl 0, by first | omega | (dsimp only; omega), Own.nil _ _ _, (fun l hl => by cases hl), Only.refl _ _⟩, ?_⟩
  rintro ⟨s, i⟩ h2 ⟨i0, i1, o2, b2, f2'⟩
  dsimp only at i0 i1 o2 b2 ⊢
  have z2 := f2'.size
  refine If.dec.2 ⟨fun hi => ?_, fun hi => ?_⟩
  · have lb := board_length
    have l4 := leR_length 4 (IntKind.wrap .u64 slot)
    have l2 := leR_length 2 (IntKind.wrap .u64 i)
    refine docput_spec 4 _ _ _ (by decide) fun h3 x3 => ⟨_, rfl, by show ((board.length + _ : Nat) : Int) ≤ _; rw [l4, lb]; decide, docput_spec 2 _ _ _ (by decide) fun h4 x4 => ⟨_, rfl, ?_, ?_⟩⟩
    · show (((board ++ _).length + _ : Nat) : Int) ≤ _
      rw [List.length_append, l4, l2, lb]
      decide
    refine docof_spec (s := (board ++ leR (IntKind.wrap .u64 slot) 4) ++ leR (IntKind.wrap .u64 i) 2) (by rw [List.length_append, List.length_append, l4, l2, lb]; decide) fun h5 x5 => ⟨_, rfl, ?_⟩
    have x25 := (x3.trans x4).trans x5
    have o5 := o2.ext x25
    have hlen := o5.len
    rw [List.length_map, List.length_range] at hlen
    rw [doc_lot]
    refine append1 (C := ctx) (T := 26) (sz := 32) (x := .bytes 32 (lotF slot i)) size47 zsize47 (by rw [bytes47]; decide) (by rw [bytes47]; omega) o5 rfl rfl fun s6 h6 o6 f6 b6 => ?_
    rw [wrap_i64 (n := i + 1) (by omega) (by omega)]
    have hi1 : (i + 1).toNat = i.toNat + 1 := by omega
    have z5 := x25.size
    refine ⟨⟨by first | omega | (dsimp only; omega), by first | omega | (dsimp only; omega), ?_, fun l hl => ?_, ?_⟩, by first | omega | (dsimp only; omega)⟩
    · rw [hi1, lots_succ]
      have hcast : ((i.toNat : Nat) : Int) = i := by omega
      rw [hcast]
      exact o6
    · rcases b6 l hl with ⟨l', h9, h10⟩ | h9
      · rw [← h10]; exact b2 l' h9
      · omega
    · refine f2'.trans ((Only.of_ext x25).trans (f6.mono fun j ⟨l, hl, e⟩ => ?_))
      rw [← e]; exact b2 l hl
  have hi2 : i.toNat = c.vals.len := by omega
  rw [hi2] at o2
  have hslen := o2.len
  rw [List.length_map, List.length_range] at hslen
  have hsn : Int.toNat (s.len : Int) = s.len := Int.toNat_natCast _
  refine ⟨by omega, Int.le_refl _, by omega, by omega, ?_⟩
  rw [hsn, ← hslen]
  have ob := Own.new (T := 4) (sz := 1) h2 (List.replicate c.vals.len (TV.bool false)) (fun t ht => by rw [List.eq_of_mem_replicate ht]; rfl)
  rw [List.length_replicate, ← zeros_rep] at ob
  have xp := Ext.push h2 (row_ c.vals.len)
  have szp : (Array.push h2 (row_ c.vals.len)).size = h2.size + 1 := by simp
  change Own 4 1 (Array.push h2 (row_ c.vals.len)) _ _ at ob
  show Vc.Loop _ (Array.push h2 (row_ c.vals.len)) _
  generalize Array.push h2 (row_ c.vals.len) = hp at *
  have x0p : Only (fun i => h.size < i) h1 hp := f2'.trans (Only.of_ext xp)
  have sepL : ∀ l, s.a = some l → l.b < h2.size := o2.lt
  have hb2s : h.size < h2.size := by omega
  rw [show List.replicate c.vals.len (TV.bool false) = bools (flags slot c.vals.len 0) by rw [flags_zero]; simp [bools]] at ob
  refine ⟨fun t hh => ∃ k : Nat, (k : Int) ≤ c.com ∧ Own 3 1 hh t (ints ((whos slot c.vals.len).take k)) ∧ (∀ l, t.a = some l → h2.size < l.b) ∧ Own 4 1 hh ⟨some ⟨h2.size, 0⟩, c.vals.len, c.vals.len⟩ (bools (flags slot c.vals.len k)) ∧ Only (fun i => h2.size ≤ i) hp hh, fun t _ => (c.com - (t.len : Int)).toNat,
    ⟨0, by omega, Own.nil _ _ _, (fun l hl => by cases hl), ob, Only.refl _ _⟩, ?_⟩
  rintro t h3 ⟨k, hk, ot, bt, of3, f3'⟩
  have x03 : Only (fun i => h.size < i) h1 h3 := x0p.trans (f3'.mono fun i hi => by omega)
  have v3 := var h3 x03
  have tl := ot.len
  have htk : ((whos slot c.vals.len).take k).length = k := by rw [List.length_take, whos_length]; omega
  rw [List.length_map, htk] at tl
  have z3 := f3'.size
  have hmq := mem_eq (n := c.vals.len) (com := c.com) (slot := slot) (by omega) (by omega)
  have fin : ∀ hh, Ext h3 hh → (k : Int) = c.com → R (TV.slice t).val hh := fun hh x hkc => by
    refine hr hh t ?_ ((far h3 x03).trans x) (fun l hl => by have := bt l hl; omega)
    rw [hmq, show (min (max c.com 0) (c.vals.len : Int)).toNat = k by omega]
    exact ot.ext x
  refine ⟨c.com, v3.at1 rfl, If.dec.2 ⟨fun hlt => ?_, fun hge => fin h3 (Ext.refl _) (by omega)⟩⟩
  have hkn : k < c.vals.len := by omega
  have ol3 : Own 26 32 h3 s (lots slot c.vals.len) := (o2.ext xp).only f3' (fun l hl => by have := sepL l hl; omega)
  refine ⟨fun σ hh => 0 ≤ σ.2 ∧ σ.2 ≤ c.vals.len ∧ Ext h3 hh ∧ Best slot (left slot c.vals.len k) σ.2.toNat σ.1, fun σ _ => ((c.vals.len : Int) - σ.2).toNat, ⟨Int.le_refl 0, by first | omega | (dsimp only; omega), Ext.refl _, .inl ⟨rfl, fun j hj => absurd hj (by simp)⟩⟩, ?_⟩
  rintro ⟨best, i'⟩ h4 ⟨j0, j1, x4, B⟩
  dsimp only at j0 j1 B ⊢
  refine If.dec.2 ⟨fun hi' => ?_, fun hi' => ?_⟩
  · have hi1 : (i' + 1).toNat = i'.toNat + 1 := by omega
    have hcast : ((i'.toNat : Nat) : Int) = i' := by omega
    rw [wrap_i64 (n := i' + 1) (by omega) (by omega)]
    have hn0 : Int.toNat (c.vals.len : Int) = c.vals.len := Int.toNat_natCast _
    refine ⟨j0, by first | omega | (rw [hn0]; omega), own_bool (of3.ext x4) rfl j0 (by unfold flags; rw [List.length_map, List.length_range]; omega) fun x hx => ?_⟩
    rw [flags_get (by omega)] at hx
    injection hx with hx
    have next : ∀ (hh : Heap) (b' : Int), Ext h3 hh → Best slot (left slot c.vals.len k) (i'.toNat + 1) b' → ((0 ≤ i' + 1 ∧ i' + 1 ≤ c.vals.len ∧ Ext h3 hh ∧ Best slot (left slot c.vals.len k) (i' + 1).toNat b') ∧ ((c.vals.len : Int) - (i' + 1)).toNat < ((c.vals.len : Int) - i').toNat) :=
      fun hh b' xh Bh => ⟨⟨by omega, by omega, xh, by rw [hi1]; exact Bh⟩, by omega⟩
    cases hu : left slot c.vals.len k i'.toNat with
    | false =>
      rw [hu] at hx
      subst hx
      exact If.no (next h4 best x4 (B.skip hu))
    | true =>
      rw [hu] at hx
      subst hx
      refine If.yes (If.dec.2 ⟨fun hneg => ?_, fun hpos => ?_⟩)
      · have := B.first hneg hu
        rw [hcast] at this
        exact next h4 i' x4 this
      · obtain ⟨b, hbb⟩ : ∃ b : Nat, best = (b : Int) := ⟨best.toNat, by omega⟩
        subst hbb
        have hbn : b < i'.toNat := by
          rcases B with ⟨hb', _⟩ | ⟨b', hb', hlt', _⟩
          · omega
          · omega
        have ol4 := ol3.ext x4
        refine lot_at hslen ol4.elems j0 (by omega) ?_
        refine lot_at hslen ol4.elems (by omega) (by omega) ?_
        refine docless_spec fun h5 x5 => ⟨_, rfl, ?_⟩
        rw [← hcast] 
        cases hl : Op.bytesLess (lotF slot ((i'.toNat : Nat) : Int)).l (lotF slot (b : Int)).l with
        | true =>
          have := B.less hu hl
          rw [hcast] at this ⊢
          exact If.yes (next h5 i' (x4.trans x5) this)
        | false =>
          have := B.keep hl
          rw [hcast]
          exact If.no (next h5 _ (x4.trans x5) this)
  have hi2' : i'.toNat = c.vals.len := by omega
  rw [hi2'] at B
  obtain ⟨b, hbn, hbb, hw⟩ := B.done hkn
  subst hbb
  refine If.dec.2 ⟨fun hneg => by omega, fun _ => ?_⟩
  have hput := (of3.ext x4).put_in (t := .bool true) (i := (b : Int)) (n := 1) (K := fun hh => ∃ new, slAt (hh.push (row (TVs.cells [TV.int .i64 (b : Int)]) 3)) (Sl.mk (some (Vc.Loc.mk hh.size 0)) 1 1) 1 new ∧ (∀ v ∈ new, isOne v = true) ∧
      vcAppend ctx 3 t 1 new (hh.push (row (TVs.cells [TV.int .i64 (b : Int)]) 3)) fun (s_ : Sl) (h_ : Heap) => (∃ k : Nat, (k : Int) ≤ c.com ∧ Own 3 1 h_ s_ (ints ((whos slot c.vals.len).take k)) ∧ (∀ l, s_.a = some l → h2.size < l.b) ∧ Own 4 1 h_ ⟨some ⟨h2.size, 0⟩, c.vals.len, c.vals.len⟩ (bools (flags slot c.vals.len k)) ∧ Only (fun i => h2.size ≤ i) hp h_) ∧ (c.com - (s_.len : Int)).toNat < (c.com - (t.len : Int)).toNat)
      (by omega) (by unfold flags; rw [List.length_map, List.length_map, List.length_range]; omega) rfl rfl fun h5 o5 f5 s5 => ?_
  · have hn0 : Int.toNat (c.vals.len : Int) = c.vals.len := Int.toNat_natCast _
    refine ⟨by omega, by first | omega | (rw [hn0]; omega), ?_⟩
    exact hput.2.2
  · have f5' : Only (· = h2.size) h4 h5 := f5.mono fun i ⟨l, hl, e⟩ => by cases hl; exact e.symm
    have hfl : (bools (flags slot c.vals.len k)).set ((b : Int)).toNat (TV.bool true) = bools (flags slot c.vals.len (k + 1)) := by
      rw [Int.toNat_natCast, ← flags_set hw]
      unfold bools
      rw [List.map_set]
    rw [hfl] at o5
    have ot5 := (ot.ext x4).only f5' (fun l hl => by have := bt l hl; omega)
    refine append1 (C := ctx) (T := 3) (sz := 1) (x := .int .i64 (b : Int)) size3 zsize3 (by rw [bytes3]; decide) (by rw [bytes3]; omega) ot5 rfl rfl fun s6 h6 o6 f6 b6 => ?_
    have z5 := f5'.size
    have z4 := x4.size
    have hp2 : h2.size < hp.size := by omega
    have l6 := o6.len
    rw [List.length_append, List.length_map, htk, List.length_singleton] at l6
    refine ⟨⟨k + 1, by omega, ?_, fun l hl => ?_, ?_, ?_⟩, by omega⟩
    · rw [take_snoc hw]
      simp only [ints, List.map_append, List.map_cons, List.map_nil] at o6 ⊢
      exact o6
    · rcases b6 l hl with ⟨l', h9, h10⟩ | h9
      · rw [← h10]; exact bt l' h9
      · omega
    · refine o5.only f6 fun l hl hx => ?_
      obtain ⟨l', hl', e⟩ := hx
      cases hl
      have := bt l' hl'
      have e' : l'.b = h2.size := e
      omega
    · refine f3'.trans ((Only.of_ext x4).trans ((f5'.mono fun i hi => by omega).trans (f6.mono fun i ⟨l, hl, e⟩ => ?_)))
      have := bt l hl
      omega

theorem docplace_spec {slot who : Int} (f : Fine c) (hr : ∀ h', Ext h h' → R (TV.int .i64 (idx (mem c.vals.len c.com slot) who 0)).val h') : CallsH Try.prog 36 (TVs.vals [c.tv, .int .i64 slot, .int .i64 who]) h R := by
  apply tollerref06_Place_calls c.vals c.ep c.com c.no c.orp c.ear c.quo c.pe c.by_ c.win c.ban c.dec slot who
  unfold tollerref06_Place_vc
  have f4 := f.len
  refine newTV_in fun h1 v1 x1 s1 => cf_at v1 (docmembers_spec f fun h2 s2 o2 x2 _ => ⟨_, rfl, ?_⟩)
  have hr2 := hr h2 (x1.trans x2)
  have ml := mem_length c.vals.len c.com slot
  have el := ints_len o2.elems
  generalize mem c.vals.len c.com slot = l at *
  refine ⟨fun σ hh => 0 ≤ σ.2 ∧ σ.2 ≤ s2.len ∧ hh = h2 ∧ idx l who 0 = idx (l.drop σ.2.toNat) who σ.2, fun σ _ => ((s2.len : Int) - σ.2).toNat, ⟨Int.le_refl 0, by first | omega | (dsimp only; omega), rfl, rfl⟩, ?_⟩
  rintro ⟨q, i⟩ hh ⟨i0, i1, hhe, ht⟩
  obtain rfl := hhe.symm
  dsimp only at i0 i1 ht ⊢
  refine If.dec.2 ⟨fun hi => ?_, fun hi => ?_⟩
  · refine read_int o2.elems i0 (by omega) fun x hx => ?_
    rw [drop_get hx, idx] at ht
    refine If.dec.2 ⟨fun hv => ?_, fun hv => ?_⟩
    · rw [if_pos hv.symm] at ht
      rw [ht] at hr2
      exact hr2
    · rw [if_neg (fun e => hv e.symm)] at ht
      rw [wrap_i64 (n := i + 1) (by omega) (by omega)]
      have hi1 : (i + 1).toNat = i.toNat + 1 := by omega
      refine ⟨⟨by first | omega | (dsimp only; omega), by first | omega | (dsimp only; omega), rfl, ?_⟩, by first | omega | (dsimp only; omega)⟩
      try dsimp only
      rw [hi1]
      exact ht
  · have hi2 : l.drop i.toNat = [] := List.drop_eq_nil_of_le (by omega)
    rw [hi2, idx] at ht
    rw [ht] at hr2
    exact hr2

theorem docpick_spec {slot : Int} {bits : Sl} {row : List Bool} (f : Fine c) (e : Elems 1 h bits (bools row))
    (hn : ∀ h', Ext h h' → (mem c.vals.len c.com slot = [] ∨ row.length ≠ (mem c.vals.len c.com slot).length) → R (TV.tup [.slice Sl.nil, .bool false]).val h')
    (hy : ∀ h' s', Own 3 1 h' s' (ints (pk (mem c.vals.len c.com slot) row)) → Ext h h' → (∀ l, s'.a = some l → h.size ≤ l.b) → mem c.vals.len c.com slot ≠ [] → row.length = (mem c.vals.len c.com slot).length → R (TV.tup [.slice s', .bool true]).val h') :
    CallsH Try.prog 35 (TVs.vals [c.tv, .int .i64 slot, .slice bits]) h R := by
  apply tollerref06_Pick_calls c.vals c.ep c.com c.no c.orp c.ear c.quo c.pe c.by_ c.win c.ban c.dec slot bits
  unfold tollerref06_Pick_vc
  have f4 := f.len
  refine newTV_in fun h1 v1 x1 s1 => cf_at v1 (docmembers_spec f fun h2 s2 o2 x2 _ => ⟨_, rfl, ?_⟩)
  have x02 := x1.trans x2
  have el := ints_len o2.elems
  have ml := mem_length c.vals.len c.com slot
  generalize mem c.vals.len c.com slot = l at *
  have bl : row.length = bits.len := by have := e.len; rwa [List.length_map] at this
  intro J hJ
  refine If.split (fun hb => ?_) fun hb => If.dec.2 ⟨fun h0 => hn h2 x02 (.inl (List.eq_nil_of_length_eq_zero (by omega))), fun h0 => ?_⟩
  · refine hn h2 x02 (.inr fun hx => ?_)
    rw [bl, el] at hx
    simp [hx] at hb
  · have hbl : bits.len = s2.len := by
      have : ((s2.len : Nat) : Int) = ((bits.len : Nat) : Int) := by simpa using hb
      omega
    refine hJ _ _ ?_
    refine ⟨fun σ hh => 0 ≤ σ.2 ∧ σ.2 ≤ s2.len ∧ Own 3 1 hh σ.1 (ints (pk (l.take σ.2.toNat) (row.take σ.2.toNat))) ∧ (∀ p, σ.1.a = some p → h2.size ≤ p.b) ∧ Ext h2 hh ∧ σ.1.len ≤ σ.2.toNat, fun σ _ => ((s2.len : Int) - σ.2).toNat,
      ⟨Int.le_refl 0, by first | omega | (dsimp only; omega), Own.nil _ _ _, (fun p hp => by cases hp), Ext.refl _, Nat.zero_le _⟩, ?_⟩
    rintro ⟨t, i⟩ h3 ⟨i0, i1, o3, b3, x3, tl⟩
    dsimp only at i0 i1 o3 b3 tl ⊢
    refine If.dec.2 ⟨fun hi => ?_, fun hi => ?_⟩
    · refine read_bool ((e.ext x02).ext x3) i0 (by omega) fun b hb2 => ?_
      have hi1 : (i + 1).toNat = i.toNat + 1 := by omega
      obtain ⟨x, hx⟩ : ∃ x, l[i.toNat]? = some x := ⟨_, List.getElem?_eq_getElem (by omega)⟩
      have hpk := pk_snoc (l.take i.toNat) (row.take i.toNat) x b (by rw [List.length_take, List.length_take]; omega)
      rw [← take_snoc hx, ← take_snoc hb2] at hpk
      rw [wrap_i64 (n := i + 1) (by omega) (by omega)]
      have z3 := x3.size
      cases b with
      | false =>
        refine If.no ⟨⟨by first | omega | (dsimp only; omega), by first | omega | (dsimp only; omega), ?_, b3, x3, by first | omega | (dsimp only; omega)⟩, by first | omega | (dsimp only; omega)⟩
        try dsimp only
        rw [hi1, hpk]
        simpa using o3
      | true =>
        have hlen := o3.len
        rw [List.length_map] at hlen
        refine If.yes (read_int (o2.elems.ext x3) i0 (by omega) fun x' hx' => ?_)
        obtain rfl : x = x' := by rw [hx] at hx'; injection hx'
        refine append1 (C := ctx) (T := 3) (sz := 1) (x := .int .i64 x) size3 zsize3 (by rw [bytes3]; decide) (by rw [bytes3]; omega) o3 rfl rfl fun s4 h4 o4 f4 b4 => ?_
        have hlen4 := o4.len
        rw [List.length_append, List.length_map, List.length_singleton] at hlen4
        refine ⟨⟨by first | omega | (dsimp only; omega), by first | omega | (dsimp only; omega), ?_, fun p hp => ?_, ?_, by first | omega | (dsimp only; omega)⟩, by first | omega | (dsimp only; omega)⟩
        · try dsimp only
          rw [hi1, hpk]
          simp only [ints, if_true, List.map_append, List.map_cons, List.map_nil] at o4 ⊢
          exact o4
        · rcases b4 p hp with ⟨l', h9, h10⟩ | h9
          · rw [← h10]; exact b3 l' h9
          · omega
        · refine Only.cut x3 f4 fun j ⟨p, hp, ej⟩ => ?_
          rw [← ej]; exact b3 p hp
    · have hi2 : i.toNat = l.length := by omega
      have hi3 : row.length = l.length := by omega
      rw [hi2, List.take_length, ← hi3, List.take_length] at o3
      exact hy h3 t o3 (x02.trans x3) (fun p hp => Nat.le_trans x02.size (b3 p hp)) (fun hx => by subst hx; simp at el; omega) hi3

end
end Go.Proofs.Ytgdhddignbkloaa.Board
end

section
/- The conditions of functions, as the generator reckons them out, each with the proof that it is that. -/
namespace Go.Proofs.Ytgdhddignbkloaa
open Go Go.Vc
set_option maxRecDepth 100000
set_option linter.unusedVariables false

def tollerlaw08_SealSums_vc (c_Validators : Sl) (c_Epoch : Int) (c_Committee : Int) (c_Nodes : Int) (c_Orphans : Int) (c_Early : Int) (c_Quota : Int) (c_Peers : Int) (c_Bytes : Int) (c_Window : Int) (c_Ban : Int) (c_Decay : Int) (m_Kind : Int) (m_Slot : Int) (m_Target : Bs (32 : Nat)) (m_Member : Int) (m_Body : Int) (m_Bits : Sl) (m_Tag : Bs (16 : Nat)) (turn : Int) (h : Heap) (R : Value → Heap → Prop) : Prop :=
 Vc.Bind
 (newTV h
 (TV.agg
 [TV.slice c_Validators, TV.int IntKind.i64 c_Epoch, TV.int IntKind.i64 c_Committee, TV.int IntKind.i64 c_Nodes, TV.int IntKind.i64 c_Orphans,
 TV.int IntKind.i64 c_Early, TV.int IntKind.i64 c_Quota, TV.int IntKind.i64 c_Peers, TV.int IntKind.i64 c_Bytes, TV.int IntKind.i64 c_Window,
 TV.int IntKind.i64 c_Ban, TV.int IntKind.i64 c_Decay])
 (24 : Nat))
 fun (h_1 : Array Obj) ↦
 Vc.Bind
 (newTV h_1
 (TV.agg
 [TV.int IntKind.i64 m_Kind, TV.int IntKind.i64 m_Slot, TV.bytes (32 : Nat) m_Target, TV.int IntKind.i64 m_Member, TV.int IntKind.u64 m_Body,
 TV.slice m_Bits, TV.bytes (16 : Nat) m_Tag])
 (32 : Nat))
 fun (h_2 : Array Obj) ↦
 CallsH Try.prog (9 : Nat) (TVs.vals []) h_2 fun (v : Value) (h_3 : Array Obj) ↦
 ∃ (b : Bool),
 v = TV.val (TV.bool b) ∧
 If (!b) (R (TV.val (TV.bool false)) h_3)
 (Join
 (fun (s : Bool) (h_4 : Array Obj) ↦
 ∃ (s_1 : Sl),
 ∃ (n : Int),
 ∃ (n_1 : Int),
 ∃ (n_2 : Int),
 ∃ (n_3 : Int),
 ∃ (n_4 : Int),
 ∃ (n_5 : Int),
 ∃ (n_6 : Int),
 ∃ (n_7 : Int),
 ∃ (n_8 : Int),
 ∃ (n_9 : Int),
 ∃ (n_10 : Int),
 (at1 h_4 (Array.size h) (0 : Nat) (slVal s_1) ∧
 at1 h_4 (Array.size h) (1 : Nat) (Value.int IntKind.i64 n) ∧
 at1 h_4 (Array.size h) (2 : Nat) (Value.int IntKind.i64 n_1) ∧
 at1 h_4 (Array.size h) (3 : Nat) (Value.int IntKind.i64 n_2) ∧
 at1 h_4 (Array.size h) (4 : Nat) (Value.int IntKind.i64 n_3) ∧
 at1 h_4 (Array.size h) (5 : Nat) (Value.int IntKind.i64 n_4) ∧
 at1 h_4 (Array.size h) (6 : Nat) (Value.int IntKind.i64 n_5) ∧
 at1 h_4 (Array.size h) (7 : Nat) (Value.int IntKind.i64 n_6) ∧
 at1 h_4 (Array.size h) (8 : Nat) (Value.int IntKind.i64 n_7) ∧
 at1 h_4 (Array.size h) (9 : Nat) (Value.int IntKind.i64 n_8) ∧
 at1 h_4 (Array.size h) (10 : Nat) (Value.int IntKind.i64 n_9) ∧
 at1 h_4 (Array.size h) (11 : Nat) (Value.int IntKind.i64 n_10)) ∧
 ∃ (n_11 : Int),
 ∃ (n_12 : Int),
 ∃ (b_1 : Bs (32 : Nat)),
 ∃ (n_13 : Int),
 ∃ (n_14 : Int),
 ∃ (s_2 : Sl),
 ∃ (b_2 : Bs (16 : Nat)),
 (at1 h_4 (Array.size h_1) (0 : Nat) (Value.int IntKind.i64 n_11) ∧
 at1 h_4 (Array.size h_1) (1 : Nat) (Value.int IntKind.i64 n_12) ∧
 atBytes h_4 (Array.size h_1) (2 : Nat) (32 : Nat) b_1 ∧
 at1 h_4 (Array.size h_1) (34 : Nat) (Value.int IntKind.i64 n_13) ∧
 at1 h_4 (Array.size h_1) (35 : Nat) (Value.int IntKind.u64 n_14) ∧
 at1 h_4 (Array.size h_1) (36 : Nat) (slVal s_2) ∧
 atBytes h_4 (Array.size h_1) (37 : Nat) (16 : Nat) b_2) ∧
 CallsH Try.prog (11 : Nat)
 (TVs.vals
 [TV.agg
 [TV.slice s_1, TV.int IntKind.i64 n, TV.int IntKind.i64 n_1, TV.int IntKind.i64 n_2,
 TV.int IntKind.i64 n_3, TV.int IntKind.i64 n_4, TV.int IntKind.i64 n_5,
 TV.int IntKind.i64 n_6, TV.int IntKind.i64 n_7, TV.int IntKind.i64 n_8,
 TV.int IntKind.i64 n_9, TV.int IntKind.i64 n_10],
 TV.agg
 [TV.int IntKind.i64 n_11, TV.int IntKind.i64 n_12, TV.bytes (32 : Nat) b_1,
 TV.int IntKind.i64 n_13, TV.int IntKind.u64 n_14, TV.slice s_2, TV.bytes (16 : Nat) b_2]])
 h_4 fun (v : Value) (h_5 : Array Obj) ↦
 ∃ (b_3 : Bs (16 : Nat)),
 ∃ (b_4 : Bool),
 v = TV.val (TV.tup [TV.bytes (16 : Nat) b_3, TV.bool b_4]) ∧
 Vc.Bind (newTV h_5 (TV.bytes (16 : Nat) (Bs.zero (16 : Nat))) (30 : Nat))
 fun (h_6 : Array Obj) ↦
 wok h_6 (Array.size h_5) (0 : Nat) (16 : Nat) ∧
 Vc.Bind (TV.put h_6 (Array.size h_5) (0 : Nat) (TV.bytes (16 : Nat) b_3))
 fun (h_7 : Array Obj) ↦
 ∃ (s_3 : Sl),
 ∃ (n_15 : Int),
 ∃ (n_16 : Int),
 ∃ (n_17 : Int),
 ∃ (n_18 : Int),
 ∃ (n_19 : Int),
 ∃ (n_20 : Int),
 ∃ (n_21 : Int),
 ∃ (n_22 : Int),
 ∃ (n_23 : Int),
 ∃ (n_24 : Int),
 ∃ (n_25 : Int),
 (at1 h_7 (Array.size h) (0 : Nat) (slVal s_3) ∧
 at1 h_7 (Array.size h) (1 : Nat)
 (Value.int IntKind.i64 n_15) ∧
 at1 h_7 (Array.size h) (2 : Nat)
 (Value.int IntKind.i64 n_16) ∧
 at1 h_7 (Array.size h) (3 : Nat)
 (Value.int IntKind.i64 n_17) ∧
 at1 h_7 (Array.size h) (4 : Nat)
 (Value.int IntKind.i64 n_18) ∧
 at1 h_7 (Array.size h) (5 : Nat)
 (Value.int IntKind.i64 n_19) ∧
 at1 h_7 (Array.size h) (6 : Nat)
 (Value.int IntKind.i64 n_20) ∧
 at1 h_7 (Array.size h) (7 : Nat)
 (Value.int IntKind.i64 n_21) ∧
 at1 h_7 (Array.size h) (8 : Nat)
 (Value.int IntKind.i64 n_22) ∧
 at1 h_7 (Array.size h) (9 : Nat)
 (Value.int IntKind.i64 n_23) ∧
 at1 h_7 (Array.size h) (10 : Nat)
 (Value.int IntKind.i64 n_24) ∧
 at1 h_7 (Array.size h) (11 : Nat)
 (Value.int IntKind.i64 n_25)) ∧
 ∃ (n_26 : Int),
 ∃ (n_27 : Int),
 ∃ (b_5 : Bs (32 : Nat)),
 ∃ (n_28 : Int),
 ∃ (n_29 : Int),
 ∃ (s_4 : Sl),
 ∃ (b_6 : Bs (16 : Nat)),
 (at1 h_7 (Array.size h_1) (0 : Nat)
 (Value.int IntKind.i64 n_26) ∧
 at1 h_7 (Array.size h_1) (1 : Nat)
 (Value.int IntKind.i64 n_27) ∧
 atBytes h_7 (Array.size h_1) (2 : Nat)
 (32 : Nat) b_5 ∧
 at1 h_7 (Array.size h_1) (34 : Nat)
 (Value.int IntKind.i64 n_28) ∧
 at1 h_7 (Array.size h_1) (35 : Nat)
 (Value.int IntKind.u64 n_29) ∧
 at1 h_7 (Array.size h_1) (36 : Nat)
 (slVal s_4) ∧
 atBytes h_7 (Array.size h_1)
 (37 : Nat) (16 : Nat) b_6) ∧
 CallsH Try.prog (12 : Nat)
 (TVs.vals
 [TV.agg
 [TV.slice s_3,
 TV.int IntKind.i64 n_15,
 TV.int IntKind.i64 n_16,
 TV.int IntKind.i64 n_17,
 TV.int IntKind.i64 n_18,
 TV.int IntKind.i64 n_19,
 TV.int IntKind.i64 n_20,
 TV.int IntKind.i64 n_21,
 TV.int IntKind.i64 n_22,
 TV.int IntKind.i64 n_23,
 TV.int IntKind.i64 n_24,
 TV.int IntKind.i64 n_25],
 TV.agg
 [TV.int IntKind.i64 n_26,
 TV.int IntKind.i64 n_27,
 TV.bytes (32 : Nat) b_5,
 TV.int IntKind.i64 n_28,
 TV.int IntKind.u64 n_29,
 TV.slice s_4,
 TV.bytes (16 : Nat) b_6]])
 h_7 fun (v : Value) (h_8 : Array Obj) ↦
 ∃ (s_5 : Sl),
 v = TV.val (TV.slice s_5) ∧
 If (!b_4)
 (R
 (TV.val
 (TV.bool
 (decide
 ((↑s_5.len : Int) =
 (0 : Int)))))
 h_8)
 (If
 (decide
 ((↑s_5.len : Int) = (0 : Int)))
 (R (TV.val (TV.bool false)) h_8)
 (Go.Vc.Loop
 (s,
 Sl.mk none (0 : Nat) (0 : Nat),
 (0 : Int))
 h_8
 fun (s_6 : Bool × Sl × Int)
 (h_9 : Array Obj)
 (K :
 Bool × Sl × Int →
 Array Obj → Prop) ↦
 If
 (decide
 (s_6.snd.snd <
 (↑s_5.len : Int)))
 (IntKind.wrap IntKind.u64
 (↑s_5.len : Int) ≠
 (0 : Int) ∧
 (↑s_5.len : Int) ≠ (0 : Int) ∧
 (0 : Int) ≤
 Int.tmod
 (IntKind.wrap
 IntKind.i64
 (s_6.snd.snd +
 IntKind.wrap
 IntKind.i64
 (Int.tmod
 (IntKind.wrap
 IntKind.u64
 turn)
 (IntKind.wrap
 IntKind.u64
 (↑s_5.len :
 Int)))))
 (↑s_5.len : Int) ∧
 Int.tmod
 (IntKind.wrap
 IntKind.i64
 (s_6.snd.snd +
 IntKind.wrap
 IntKind.i64
 (Int.tmod
 (IntKind.wrap
 IntKind.u64
 turn)
 (IntKind.wrap
 IntKind.u64
 (↑s_5.len :
 Int)))))
 (↑s_5.len : Int) <
 (↑s_5.len : Int) ∧
 Nn s_5.a
 fun (l : Go.Vc.Loc) ↦
 ∃ (n_30 : Int),
 ∃ (n_31 : Int),
 ∃ (b_7 :
 Bs (32 : Nat)),
 (at1 h_9 l.b
 (l.o +
 Int.toNat
 (Int.tmod
 (IntKind.wrap
 IntKind.i64
 (s_6.snd.snd +
 IntKind.wrap
 IntKind.i64
 (Int.tmod
 (IntKind.wrap
 IntKind.u64
 turn)
 (IntKind.wrap
 IntKind.u64
 (↑s_5.len :
 Int)))))
 (↑s_5.len :
 Int)) *
 (34 :
 Nat))
 (Value.int
 IntKind.i64
 n_30) ∧
 at1 h_9 l.b
 (l.o +
 Int.toNat
 (Int.tmod
 (IntKind.wrap
 IntKind.i64
 (s_6.snd.snd +
 IntKind.wrap
 IntKind.i64
 (Int.tmod
 (IntKind.wrap
 IntKind.u64
 turn)
 (IntKind.wrap
 IntKind.u64
 (↑s_5.len :
 Int)))))
 (↑s_5.len :
 Int)) *
 (34 :
 Nat) +
 (1 :
 Nat))
 (Value.int
 IntKind.i64
 n_31) ∧
 atBytes
 h_9 l.b
 (l.o +
 Int.toNat
 (Int.tmod
 (IntKind.wrap
 IntKind.i64
 (s_6.snd.snd +
 IntKind.wrap
 IntKind.i64
 (Int.tmod
 (IntKind.wrap
 IntKind.u64
 turn)
 (IntKind.wrap
 IntKind.u64
 (↑s_5.len :
 Int)))))
 (↑s_5.len :
 Int)) *
 (34 :
 Nat) +
 (1 :
 Nat) +
 (1 :
 Nat))
 (32 :
 Nat)
 b_7) ∧
 Vc.Bind
 (newTV h_9
 (TV.agg
 [TV.int
 IntKind.i64
 (0 :
 Int),
 TV.int
 IntKind.i64
 (0 :
 Int),
 TV.bytes
 (32 :
 Nat)
 (Bs.zero
 (32 :
 Nat))])
 (41 :
 Nat))
 fun
 (h_10 :
 Array
 Obj) ↦
 wok h_10
 (Array.size
 h_9)
 (0 :
 Nat)
 (34 :
 Nat) ∧
 Vc.Bind
 (TV.put
 h_10
 (Array.size
 h_9)
 (0 :
 Nat)
 (TV.agg
 [TV.int
 IntKind.i64
 n_30,
 TV.int
 IntKind.i64
 n_31,
 TV.bytes
 (32 :
 Nat)
 b_7]))
 fun
 (h_11 :
 Array
 Obj) ↦
 ∃ (n_32
 :
 Int),
 at1
 h_11
 (Array.size
 h_9)
 (1 :
 Nat)
 (Value.int
 IntKind.i64
 n_32) ∧
 ∃
 (b_8
 :
 Bs
 (32 :
 Nat)),
 atBytes
 h_11
 (Array.size
 h_9)
 (2 :
 Nat)
 (32 :
 Nat)
 b_8 ∧
 ∃
 (n_33
 :
 Int),
 at1
 h_11
 (Array.size
 h_9)
 (0 :
 Nat)
 (Value.int
 IntKind.i64
 n_33) ∧
 Vc.Bind
 (newTV
 h_11
 (TV.agg
 [TV.int
 IntKind.i64
 (0 :
 Int),
 TV.int
 IntKind.i64
 (0 :
 Int),
 TV.bytes
 (32 :
 Nat)
 (Bs.zero
 (32 :
 Nat)),
 TV.int
 IntKind.i64
 (0 :
 Int),
 TV.int
 IntKind.u64
 (0 :
 Int),
 TV.slice
 Sl.nil,
 TV.bytes
 (16 :
 Nat)
 (Bs.zero
 (16 :
 Nat))])
 (32 :
 Nat))
 fun
 (h_12 :
 Array
 Obj) ↦
 wok
 h_12
 (Array.size
 h_11)
 (0 :
 Nat)
 (53 :
 Nat) ∧
 Vc.Bind
 (TV.put
 h_12
 (Array.size
 h_11)
 (0 :
 Nat)
 (TV.agg
 [TV.int
 IntKind.i64
 (2 :
 Int),
 TV.int
 IntKind.i64
 n_32,
 TV.bytes
 (32 :
 Nat)
 b_8,
 TV.int
 IntKind.i64
 n_33,
 TV.int
 IntKind.u64
 (0 :
 Int),
 TV.slice
 Sl.nil,
 TV.bytes
 (16 :
 Nat)
 (Bs.zero
 (16 :
 Nat))]))
 fun
 (h_13 :
 Array
 Obj) ↦
 ∃
 (s_7
 :
 Sl),
 ∃
 (n_34
 :
 Int),
 ∃
 (n_35
 :
 Int),
 ∃
 (n_36
 :
 Int),
 ∃
 (n_37
 :
 Int),
 ∃
 (n_38
 :
 Int),
 ∃
 (n_39
 :
 Int),
 ∃
 (n_40
 :
 Int),
 ∃
 (n_41
 :
 Int),
 ∃
 (n_42
 :
 Int),
 ∃
 (n_43
 :
 Int),
 ∃
 (n_44
 :
 Int),
 (at1
 h_13
 (Array.size
 h)
 (0 :
 Nat)
 (slVal
 s_7) ∧
 at1
 h_13
 (Array.size
 h)
 (1 :
 Nat)
 (Value.int
 IntKind.i64
 n_34) ∧
 at1
 h_13
 (Array.size
 h)
 (2 :
 Nat)
 (Value.int
 IntKind.i64
 n_35) ∧
 at1
 h_13
 (Array.size
 h)
 (3 :
 Nat)
 (Value.int
 IntKind.i64
 n_36) ∧
 at1
 h_13
 (Array.size
 h)
 (4 :
 Nat)
 (Value.int
 IntKind.i64
 n_37) ∧
 at1
 h_13
 (Array.size
 h)
 (5 :
 Nat)
 (Value.int
 IntKind.i64
 n_38) ∧
 at1
 h_13
 (Array.size
 h)
 (6 :
 Nat)
 (Value.int
 IntKind.i64
 n_39) ∧
 at1
 h_13
 (Array.size
 h)
 (7 :
 Nat)
 (Value.int
 IntKind.i64
 n_40) ∧
 at1
 h_13
 (Array.size
 h)
 (8 :
 Nat)
 (Value.int
 IntKind.i64
 n_41) ∧
 at1
 h_13
 (Array.size
 h)
 (9 :
 Nat)
 (Value.int
 IntKind.i64
 n_42) ∧
 at1
 h_13
 (Array.size
 h)
 (10 :
 Nat)
 (Value.int
 IntKind.i64
 n_43) ∧
 at1
 h_13
 (Array.size
 h)
 (11 :
 Nat)
 (Value.int
 IntKind.i64
 n_44)) ∧
 ∃
 (n_45
 :
 Int),
 ∃
 (n_46
 :
 Int),
 ∃
 (b_9
 :
 Bs
 (32 :
 Nat)),
 ∃
 (n_47
 :
 Int),
 ∃
 (n_48
 :
 Int),
 ∃
 (s_8
 :
 Sl),
 ∃
 (b_10
 :
 Bs
 (16 :
 Nat)),
 (at1
 h_13
 (Array.size
 h_11)
 (0 :
 Nat)
 (Value.int
 IntKind.i64
 n_45) ∧
 at1
 h_13
 (Array.size
 h_11)
 (1 :
 Nat)
 (Value.int
 IntKind.i64
 n_46) ∧
 atBytes
 h_13
 (Array.size
 h_11)
 (2 :
 Nat)
 (32 :
 Nat)
 b_9 ∧
 at1
 h_13
 (Array.size
 h_11)
 (34 :
 Nat)
 (Value.int
 IntKind.i64
 n_47) ∧
 at1
 h_13
 (Array.size
 h_11)
 (35 :
 Nat)
 (Value.int
 IntKind.u64
 n_48) ∧
 at1
 h_13
 (Array.size
 h_11)
 (36 :
 Nat)
 (slVal
 s_8) ∧
 atBytes
 h_13
 (Array.size
 h_11)
 (37 :
 Nat)
 (16 :
 Nat)
 b_10) ∧
 CallsH
 Try.prog
 (11 :
 Nat)
 (TVs.vals
 [TV.agg
 [TV.slice
 s_7,
 TV.int
 IntKind.i64
 n_34,
 TV.int
 IntKind.i64
 n_35,
 TV.int
 IntKind.i64
 n_36,
 TV.int
 IntKind.i64
 n_37,
 TV.int
 IntKind.i64
 n_38,
 TV.int
 IntKind.i64
 n_39,
 TV.int
 IntKind.i64
 n_40,
 TV.int
 IntKind.i64
 n_41,
 TV.int
 IntKind.i64
 n_42,
 TV.int
 IntKind.i64
 n_43,
 TV.int
 IntKind.i64
 n_44],
 TV.agg
 [TV.int
 IntKind.i64
 n_45,
 TV.int
 IntKind.i64
 n_46,
 TV.bytes
 (32 :
 Nat)
 b_9,
 TV.int
 IntKind.i64
 n_47,
 TV.int
 IntKind.u64
 n_48,
 TV.slice
 s_8,
 TV.bytes
 (16 :
 Nat)
 b_10]])
 h_13
 fun
 (v :
 Value)
 (h_14 :
 Array
 Obj) ↦
 ∃
 (b_11
 :
 Bs
 (16 :
 Nat)),
 ∃
 (b_12
 :
 Bool),
 v =
 TV.val
 (TV.tup
 [TV.bytes
 (16 :
 Nat)
 b_11,
 TV.bool
 b_12]) ∧
 Vc.Bind
 (newTV
 h_14
 (TV.bytes
 (16 :
 Nat)
 (Bs.zero
 (16 :
 Nat)))
 (30 :
 Nat))
 fun
 (h_15 :
 Array
 Obj) ↦
 wok
 h_15
 (Array.size
 h_14)
 (0 :
 Nat)
 (16 :
 Nat) ∧
 Vc.Bind
 (TV.put
 h_15
 (Array.size
 h_14)
 (0 :
 Nat)
 (TV.bytes
 (16 :
 Nat)
 b_11))
 fun
 (h_16 :
 Array
 Obj) ↦
 ∃
 (s_9
 :
 Sl),
 ∃
 (n_49
 :
 Int),
 ∃
 (n_50
 :
 Int),
 ∃
 (n_51
 :
 Int),
 ∃
 (n_52
 :
 Int),
 ∃
 (n_53
 :
 Int),
 ∃
 (n_54
 :
 Int),
 ∃
 (n_55
 :
 Int),
 ∃
 (n_56
 :
 Int),
 ∃
 (n_57
 :
 Int),
 ∃
 (n_58
 :
 Int),
 ∃
 (n_59
 :
 Int),
 (at1
 h_16
 (Array.size
 h)
 (0 :
 Nat)
 (slVal
 s_9) ∧
 at1
 h_16
 (Array.size
 h)
 (1 :
 Nat)
 (Value.int
 IntKind.i64
 n_49) ∧
 at1
 h_16
 (Array.size
 h)
 (2 :
 Nat)
 (Value.int
 IntKind.i64
 n_50) ∧
 at1
 h_16
 (Array.size
 h)
 (3 :
 Nat)
 (Value.int
 IntKind.i64
 n_51) ∧
 at1
 h_16
 (Array.size
 h)
 (4 :
 Nat)
 (Value.int
 IntKind.i64
 n_52) ∧
 at1
 h_16
 (Array.size
 h)
 (5 :
 Nat)
 (Value.int
 IntKind.i64
 n_53) ∧
 at1
 h_16
 (Array.size
 h)
 (6 :
 Nat)
 (Value.int
 IntKind.i64
 n_54) ∧
 at1
 h_16
 (Array.size
 h)
 (7 :
 Nat)
 (Value.int
 IntKind.i64
 n_55) ∧
 at1
 h_16
 (Array.size
 h)
 (8 :
 Nat)
 (Value.int
 IntKind.i64
 n_56) ∧
 at1
 h_16
 (Array.size
 h)
 (9 :
 Nat)
 (Value.int
 IntKind.i64
 n_57) ∧
 at1
 h_16
 (Array.size
 h)
 (10 :
 Nat)
 (Value.int
 IntKind.i64
 n_58) ∧
 at1
 h_16
 (Array.size
 h)
 (11 :
 Nat)
 (Value.int
 IntKind.i64
 n_59)) ∧
 ∃
 (n_60
 :
 Int),
 ∃
 (n_61
 :
 Int),
 ∃
 (b_13
 :
 Bs
 (32 :
 Nat)),
 ∃
 (n_62
 :
 Int),
 ∃
 (n_63
 :
 Int),
 ∃
 (s_10
 :
 Sl),
 ∃
 (b_14
 :
 Bs
 (16 :
 Nat)),
 (at1
 h_16
 (Array.size
 h_11)
 (0 :
 Nat)
 (Value.int
 IntKind.i64
 n_60) ∧
 at1
 h_16
 (Array.size
 h_11)
 (1 :
 Nat)
 (Value.int
 IntKind.i64
 n_61) ∧
 atBytes
 h_16
 (Array.size
 h_11)
 (2 :
 Nat)
 (32 :
 Nat)
 b_13 ∧
 at1
 h_16
 (Array.size
 h_11)
 (34 :
 Nat)
 (Value.int
 IntKind.i64
 n_62) ∧
 at1
 h_16
 (Array.size
 h_11)
 (35 :
 Nat)
 (Value.int
 IntKind.u64
 n_63) ∧
 at1
 h_16
 (Array.size
 h_11)
 (36 :
 Nat)
 (slVal
 s_10) ∧
 atBytes
 h_16
 (Array.size
 h_11)
 (37 :
 Nat)
 (16 :
 Nat)
 b_14) ∧
 CallsH
 Try.prog
 (12 :
 Nat)
 (TVs.vals
 [TV.agg
 [TV.slice
 s_9,
 TV.int
 IntKind.i64
 n_49,
 TV.int
 IntKind.i64
 n_50,
 TV.int
 IntKind.i64
 n_51,
 TV.int
 IntKind.i64
 n_52,
 TV.int
 IntKind.i64
 n_53,
 TV.int
 IntKind.i64
 n_54,
 TV.int
 IntKind.i64
 n_55,
 TV.int
 IntKind.i64
 n_56,
 TV.int
 IntKind.i64
 n_57,
 TV.int
 IntKind.i64
 n_58,
 TV.int
 IntKind.i64
 n_59],
 TV.agg
 [TV.int
 IntKind.i64
 n_60,
 TV.int
 IntKind.i64
 n_61,
 TV.bytes
 (32 :
 Nat)
 b_13,
 TV.int
 IntKind.i64
 n_62,
 TV.int
 IntKind.u64
 n_63,
 TV.slice
 s_10,
 TV.bytes
 (16 :
 Nat)
 b_14]])
 h_16
 fun
 (v :
 Value)
 (h :
 Array
 Obj) ↦
 ∃
 (s_11
 :
 Sl),
 v =
 TV.val
 (TV.slice
 s_11) ∧
 If
 (!b_12)
 (R
 (TV.val
 (TV.bool
 false))
 h)
 (If
 (!decide
 ((↑s_11.len :
 Int) =
 (1 :
 Int)))
 (R
 (TV.val
 (TV.bool
 false))
 h)
 ((0 :
 Int) ≤
 (0 :
 Int) ∧
 (0 :
 Int) <
 (↑s_11.len :
 Int) ∧
 Nn
 s_11.a
 fun
 (l :
 Go.Vc.Loc) ↦
 ∃
 (n_64
 :
 Int),
 ∃
 (n_65
 :
 Int),
 ∃
 (b_15
 :
 Bs
 (32 :
 Nat)),
 (at1
 h
 l.b
 (l.o +
 Int.toNat
 (0 :
 Int) *
 (34 :
 Nat))
 (Value.int
 IntKind.i64
 n_64) ∧
 at1
 h
 l.b
 (l.o +
 Int.toNat
 (0 :
 Int) *
 (34 :
 Nat) +
 (1 :
 Nat))
 (Value.int
 IntKind.i64
 n_65) ∧
 atBytes
 h
 l.b
 (l.o +
 Int.toNat
 (0 :
 Int) *
 (34 :
 Nat) +
 (1 :
 Nat) +
 (1 :
 Nat))
 (32 :
 Nat)
 b_15) ∧
 ∃
 (n_66
 :
 Int),
 ∃
 (n_67
 :
 Int),
 ∃
 (b_16
 :
 Bs
 (32 :
 Nat)),
 (at1
 h
 (Array.size
 h_9)
 (0 :
 Nat)
 (Value.int
 IntKind.i64
 n_66) ∧
 at1
 h
 (Array.size
 h_9)
 (1 :
 Nat)
 (Value.int
 IntKind.i64
 n_67) ∧
 atBytes
 h
 (Array.size
 h_9)
 (2 :
 Nat)
 (32 :
 Nat)
 b_16) ∧
 If
 (!(decide
 (n_64 =
 n_66) &&
 (decide
 (n_65 =
 n_67) &&
 (decide
 (b_15.l =
 b_16.l) &&
 true))))
 (R
 (TV.val
 (TV.bool
 false))
 h)
 (∃
 (b_17
 :
 Bs
 (16 :
 Nat)),
 atBytes
 h
 (Array.size
 h_14)
 (0 :
 Nat)
 (16 :
 Nat)
 b_17 ∧
 ∃
 (new
 :
 List
 Value),
 slAt
 (Array.push
 h
 (row
 (TVs.cells
 [TV.bytes
 (16 :
 Nat)
 b_17])
 (30 :
 Nat)))
 (Sl.mk
 (some
 (Loc.mk
 (Array.size
 h)
 (0 :
 Nat)))
 (1 :
 Nat)
 (1 :
 Nat))
 (16 :
 Nat)
 new ∧
 (∀
 (v :
 Value),
 v ∈
 new →
 isOne
 v =
 true) ∧
 vcAppend
 Ytgdhddignbkloaa.ctx
 (30 :
 Nat)
 s_6.snd.fst
 (1 :
 Nat)
 new
 (Array.push
 h
 (row
 (TVs.cells
 [TV.bytes
 (16 :
 Nat)
 b_17])
 (30 :
 Nat)))
 fun
 (s_12 :
 Sl)
 (h :
 Array
 Obj) ↦
 K
 (s_6.fst,
 s_12,
 IntKind.wrap
 IntKind.i64
 (s_6.snd.snd +
 (1 :
 Int)))
 h))))
 (∃ (b_7 : Bs (16 : Nat)),
 atBytes h_9 (Array.size h_5)
 (0 : Nat) (16 : Nat) b_7 ∧
 CallsH Try.prog (13 : Nat)
 (TVs.vals
 [TV.slice s_6.snd.fst])
 h_9
 fun (v : Value)
 (h : Array Obj) ↦
 ∃ (b : Bs (16 : Nat)),
 v =
 TV.val
 (TV.bytes
 (16 : Nat) b) ∧
 Ext h_9 h ∧
 R
 (TV.val
 (TV.bool
 (decide
 (b.l =
 b_7.l))))
 h))))
 fun (J : Bool → Array Obj → Prop) ↦
 ∃ (s : Sl),
 ∃ (n : Int),
 ∃ (n_1 : Int),
 ∃ (n_2 : Int),
 ∃ (n_3 : Int),
 ∃ (n_4 : Int),
 ∃ (n_5 : Int),
 ∃ (n_6 : Int),
 ∃ (n_7 : Int),
 ∃ (n_8 : Int),
 ∃ (n_9 : Int),
 ∃ (n_10 : Int),
 (at1 h_3 (Array.size h) (0 : Nat) (slVal s) ∧
 at1 h_3 (Array.size h) (1 : Nat) (Value.int IntKind.i64 n) ∧
 at1 h_3 (Array.size h) (2 : Nat) (Value.int IntKind.i64 n_1) ∧
 at1 h_3 (Array.size h) (3 : Nat) (Value.int IntKind.i64 n_2) ∧
 at1 h_3 (Array.size h) (4 : Nat) (Value.int IntKind.i64 n_3) ∧
 at1 h_3 (Array.size h) (5 : Nat) (Value.int IntKind.i64 n_4) ∧
 at1 h_3 (Array.size h) (6 : Nat) (Value.int IntKind.i64 n_5) ∧
 at1 h_3 (Array.size h) (7 : Nat) (Value.int IntKind.i64 n_6) ∧
 at1 h_3 (Array.size h) (8 : Nat) (Value.int IntKind.i64 n_7) ∧
 at1 h_3 (Array.size h) (9 : Nat) (Value.int IntKind.i64 n_8) ∧
 at1 h_3 (Array.size h) (10 : Nat) (Value.int IntKind.i64 n_9) ∧
 at1 h_3 (Array.size h) (11 : Nat) (Value.int IntKind.i64 n_10)) ∧
 ∃ (n_11 : Int),
 ∃ (n_12 : Int),
 ∃ (b : Bs (32 : Nat)),
 ∃ (n_13 : Int),
 ∃ (n_14 : Int),
 ∃ (s_1 : Sl),
 ∃ (b_1 : Bs (16 : Nat)),
 (at1 h_3 (Array.size h_1) (0 : Nat) (Value.int IntKind.i64 n_11) ∧
 at1 h_3 (Array.size h_1) (1 : Nat) (Value.int IntKind.i64 n_12) ∧
 atBytes h_3 (Array.size h_1) (2 : Nat) (32 : Nat) b ∧
 at1 h_3 (Array.size h_1) (34 : Nat) (Value.int IntKind.i64 n_13) ∧
 at1 h_3 (Array.size h_1) (35 : Nat) (Value.int IntKind.u64 n_14) ∧
 at1 h_3 (Array.size h_1) (36 : Nat) (slVal s_1) ∧
 atBytes h_3 (Array.size h_1) (37 : Nat) (16 : Nat) b_1) ∧
 CallsH Try.prog (10 : Nat)
 (TVs.vals
 [TV.agg
 [TV.slice s, TV.int IntKind.i64 n, TV.int IntKind.i64 n_1, TV.int IntKind.i64 n_2,
 TV.int IntKind.i64 n_3, TV.int IntKind.i64 n_4, TV.int IntKind.i64 n_5,
 TV.int IntKind.i64 n_6, TV.int IntKind.i64 n_7, TV.int IntKind.i64 n_8,
 TV.int IntKind.i64 n_9, TV.int IntKind.i64 n_10],
 TV.agg
 [TV.int IntKind.i64 n_11, TV.int IntKind.i64 n_12, TV.bytes (32 : Nat) b,
 TV.int IntKind.i64 n_13, TV.int IntKind.u64 n_14, TV.slice s_1, TV.bytes (16 : Nat) b_1]])
 h_3 fun (v : Value) (h : Array Obj) ↦
 ∃ (b : Bool),
 v = TV.val (TV.bool b) ∧
 If b (R (TV.val (TV.bool true)) h)
 (∃ (n : Int),
 at1 h (Array.size h_1) (0 : Nat) (Value.int IntKind.i64 n) ∧
 If (!decide (n = (3 : Int))) (R (TV.val (TV.bool true)) h) (J false h)))

theorem tollerlaw08_SealSums_calls (c_Validators : Sl) (c_Epoch : Int) (c_Committee : Int) (c_Nodes : Int) (c_Orphans : Int) (c_Early : Int) (c_Quota : Int) (c_Peers : Int) (c_Bytes : Int) (c_Window : Int) (c_Ban : Int) (c_Decay : Int) (m_Kind : Int) (m_Slot : Int) (m_Target : Bs (32 : Nat)) (m_Member : Int) (m_Body : Int) (m_Bits : Sl) (m_Tag : Bs (16 : Nat)) (turn : Int) (h : Heap) (R : Value → Heap → Prop) (H : tollerlaw08_SealSums_vc c_Validators c_Epoch c_Committee c_Nodes c_Orphans c_Early c_Quota c_Peers c_Bytes c_Window c_Ban c_Decay m_Kind m_Slot m_Target m_Member m_Body m_Bits m_Tag turn h R) : CallsH Try.prog 3 (TVs.vals [TV.agg [TV.slice c_Validators, TV.int IntKind.i64 c_Epoch, TV.int IntKind.i64 c_Committee, TV.int IntKind.i64 c_Nodes, TV.int IntKind.i64 c_Orphans, TV.int IntKind.i64 c_Early, TV.int IntKind.i64 c_Quota, TV.int IntKind.i64 c_Peers, TV.int IntKind.i64 c_Bytes, TV.int IntKind.i64 c_Window, TV.int IntKind.i64 c_Ban, TV.int IntKind.i64 c_Decay], TV.agg [TV.int IntKind.i64 m_Kind, TV.int IntKind.i64 m_Slot, TV.bytes (32 : Nat) m_Target, TV.int IntKind.i64 m_Member, TV.int IntKind.u64 m_Body, TV.slice m_Bits, TV.bytes (16 : Nat) m_Tag], TV.int IntKind.i64 turn]) h R :=
 vcFn_sound (C := ctx) ctx_ok (fn := Try.f3) Try.func3 ((by kernel_rfl : tollerlaw08_SealSums_vc c_Validators c_Epoch c_Committee c_Nodes c_Orphans c_Early c_Quota c_Peers c_Bytes c_Window c_Ban c_Decay m_Kind m_Slot m_Target m_Member m_Body m_Bits m_Tag turn h R = vcFn ctx Try.f3 [TV.agg [TV.slice c_Validators, TV.int IntKind.i64 c_Epoch, TV.int IntKind.i64 c_Committee, TV.int IntKind.i64 c_Nodes, TV.int IntKind.i64 c_Orphans, TV.int IntKind.i64 c_Early, TV.int IntKind.i64 c_Quota, TV.int IntKind.i64 c_Peers, TV.int IntKind.i64 c_Bytes, TV.int IntKind.i64 c_Window, TV.int IntKind.i64 c_Ban, TV.int IntKind.i64 c_Decay], TV.agg [TV.int IntKind.i64 m_Kind, TV.int IntKind.i64 m_Slot, TV.bytes (32 : Nat) m_Target, TV.int IntKind.i64 m_Member, TV.int IntKind.u64 m_Body, TV.slice m_Bits, TV.bytes (16 : Nat) m_Tag], TV.int IntKind.i64 turn] h R) ▸ H)


end Go.Proofs.Ytgdhddignbkloaa
end

section
/- Tags joined in any order; what one vote of a sum is; SealSums. -/
namespace Go.Proofs.Ytgdhddignbkloaa.Board
open Go Go.Vc

theorem xb_xor (c d : UInt8) : xb c (d.toNat : Int) = c ^^^ d := by
  unfold xb xv
  apply UInt8.toNat_inj.1
  rw [UInt8.toNat_ofNat', wrap_u8]
  have hc : BitVec.ofInt (IntKind.bits .u8) (c.toNat : Int) = c.toBitVec := by
    apply BitVec.eq_of_toNat_eq
    show (BitVec.ofInt 8 (c.toNat : Int)).toNat = c.toNat
    rw [BitVec.ofInt_natCast, BitVec.toNat_ofNat]
    exact Nat.mod_eq_of_lt c.toNat_lt
  have hd : BitVec.ofInt (IntKind.bits .u8) (d.toNat : Int) = d.toBitVec := by
    apply BitVec.eq_of_toNat_eq
    show (BitVec.ofInt 8 (d.toNat : Int)).toNat = d.toNat
    rw [BitVec.ofInt_natCast, BitVec.toNat_ofNat]
    exact Nat.mod_eq_of_lt d.toNat_lt
  rw [hc, hd]
  have : (c.toBitVec ^^^ d.toBitVec).toNat = (c ^^^ d).toNat := rfl
  have hlt := (c ^^^ d).toNat_lt
  show (((c.toBitVec ^^^ d.toBitVec).toNat : Int) % 256).toNat % 2 ^ 8 = _
  rw [this]
  omega

theorem x16_get (a t : Bs 16) (j : Nat) (hj : j < 16) : getB (x16 a t) j = getB a j ^^^ getB t j := by
  unfold x16
  rw [fillB_get _ _ _ _ (Nat.le_refl _), if_pos hj, xb_xor]

theorem x16_comm (a s t : Bs 16) : x16 (x16 a s) t = x16 (x16 a t) s := by
  apply Bs.get_ext
  intro j hj
  rw [x16_get _ _ _ hj, x16_get _ _ _ hj, x16_get _ _ _ hj, x16_get _ _ _ hj, UInt8.xor_assoc, UInt8.xor_assoc, UInt8.xor_comm (getB s j)]

theorem x16_zero (t : Bs 16) : x16 (Bs.zero 16) t = t := by
  apply Bs.get_ext
  intro j hj
  rw [x16_get _ _ _ hj]
  have : getB (Bs.zero 16) j = 0 := by
    unfold getB Bs.zero
    rw [List.getD_eq_getElem?_getD, List.getElem?_replicate, if_pos hj]
    rfl
  rw [this, UInt8.zero_xor]

theorem joinF_perm {l k : List (Bs 16)} (h : l.Perm k) : ∀ a, joinF l a = joinF k a := by
  induction h with
  | nil => intro a; rfl
  | cons x _ ih => intro a; exact ih _
  | swap x y l => intro a; show joinF l (x16 (x16 a y) x) = joinF l (x16 (x16 a x) y); rw [x16_comm]
  | trans _ _ ih1 ih2 => intro a; rw [ih1, ih2]

/-- The vote that one would have alone. -/
def om (m : Ms) (who : Int) : Ms := ⟨2, m.slot, m.target, who, 0, Sl.nil, Bs.zero 16⟩

theorem idx_in : ∀ (l : List Int) (x k : Int), 0 ≤ k → x ∈ l → 0 ≤ idx l x k
  | [], x, k, _, h => by cases h
  | y :: l, x, k, hk, h => by
    unfold idx
    split
    · exact hk
    · rename_i hne
      rcases List.mem_cons.1 h with h1 | h1
      · exact absurd h1 hne
      · exact idx_in l x (k + 1) (by omega) h1

theorem good_slot {m : Ms} {row : List Bool} (hg : goodF m row = true) : 0 ≤ m.slot ∧ m.slot ≤ 1073741824 := by
  unfold goodF at hg
  simp only [Bool.and_eq_true, Bool.not_eq_true', Bool.or_eq_false_iff, decide_eq_false_iff_not] at hg
  obtain ⟨⟨⟨⟨⟨h1, h2⟩, _⟩, _⟩, _⟩, _⟩ := hg
  omega

theorem speak_good {n : Nat} {com : Int} {m : Ms} {row : List Bool} (h : (speakF n com m row).2 = true) : goodF m row = true := by
  cases hg : goodF m row with
  | true => rfl
  | false => unfold speakF at h; rw [if_pos hg] at h; cases h

theorem om_good {m : Ms} {row : List Bool} {who : Int} (hg : goodF m row = true) (h0 : 0 ≤ who) (h1 : who ≤ 65535) : goodF (om m who) [] = true := by
  have hs := good_slot hg
  unfold goodF om
  simp only [Bool.and_eq_true, Bool.not_eq_true', Bool.or_eq_false_iff, decide_eq_false_iff_not]
  refine ⟨⟨⟨⟨⟨by omega, by omega⟩, by omega⟩, by omega⟩, by simp⟩, by simp⟩

theorem om_speak {n : Nat} {com : Int} {m : Ms} {row : List Bool} {who : Int} (hn : n ≤ 64) (hok : (speakF n com m row).2 = true) (hw : who ∈ mem n com m.slot) : speakF n com (om m who) [] = ([who], true) := by
  have hr := mem_range hw
  have hg := om_good (who := who) (speak_good hok) hr.1 (by omega)
  have hi := idx_in _ _ 0 (Int.le_refl 0) hw
  unfold speakF
  rw [if_neg (by rw [hg]; decide), if_neg (by show ¬ ((2 : Int) = 3); decide), if_neg (fun hx => absurd hx.1 (by show ¬ ((2 : Int) = 1); decide))]
  show (if idx (mem n com m.slot) who 0 < 0 then _ else _) = _
  rw [if_neg (by omega)]
  rfl

theorem om_tag1 (L : List Vd) {m : Ms} (row : List Bool) (hk : m.kind = 3) (who : Int) : tag1 L (om m who) [] who = tag1 L m row who := by
  unfold tag1 oneF oneR
  rw [if_pos hk, if_pos hk, if_neg (by show ¬ ((2 : Int) = 3); decide), if_neg (by show ¬ ((2 : Int) = 3); decide)]
  rfl

theorem om_tag {n : Nat} {com : Int} {L : List Vd} {m : Ms} {row : List Bool} {who : Int} (hn : n ≤ 64) (hk : m.kind = 3) (hok : (speakF n com m row).2 = true) (hw : who ∈ mem n com m.slot) : tagF n com L (om m who) [] = (tag1 L m row who, true) := by
  unfold tagF
  rw [om_speak hn hok hw, if_pos rfl]
  show (x16 (Bs.zero 16) (tag1 L (om m who) [] who), true) = _
  rw [x16_zero, om_tag1 L row hk]

theorem om_votes {n : Nat} {com : Int} {m : Ms} {row : List Bool} {who : Int} (hn : n ≤ 64) (hok : (speakF n com m row).2 = true) (hw : who ∈ mem n com m.slot) : votesF n com (om m who) [] = [⟨who, m.slot, m.target⟩] := by
  unfold votesF
  rw [om_speak hn hok hw, if_neg (by rintro (h | h); cases h; exact absurd h (by show ¬ ((2 : Int) = 1); decide))]
  rfl

theorem pk_ne : ∀ (l : List Int) (row : List Bool), row.length = l.length → row.contains true = true → pk l row ≠ []
  | [], [], _, h => by simp at h
  | x :: l, b :: row, hl, h => by
    unfold pk
    cases b with
    | true => rw [if_pos rfl]; simp
    | false =>
      rw [if_neg (by decide)]
      refine pk_ne l row (by simpa using hl) ?_
      simpa using h

theorem sum_ne {n : Nat} {com : Int} {m : Ms} {row : List Bool} (hk : m.kind = 3) (hok : (speakF n com m row).2 = true) : (speakF n com m row).1 ≠ [] := by
  have hg := speak_good hok
  have hct : row.contains true = true := by
    unfold goodF at hg
    rw [if_pos hk] at hg
    simp only [Bool.and_eq_true] at hg
    exact hg.2.2.2
  unfold speakF at hok ⊢
  rw [if_neg (by rw [hg]; decide), if_pos hk] at hok ⊢
  split at hok
  · cases hok
  · rename_i hx
    rw [if_neg hx]
    refine pk_ne _ _ ?_ hct
    apply Classical.byContradiction
    intro h
    exact hx (.inr h)

theorem rot_get {α : Type} (V : List α) (k i : Nat) (hk : k < V.length) (hi : i < V.length) : (V.drop k ++ V.take k)[i]? = V[(i + k) % V.length]? := by
  rw [List.getElem?_append, List.length_drop]
  split
  · rename_i h
    rw [List.getElem?_drop, Nat.mod_eq_of_lt (by omega), Nat.add_comm]
  · rename_i h
    rw [List.getElem?_take, if_pos (by omega)]
    congr 1
    rw [Nat.mod_eq_sub_mod (by omega), Nat.mod_eq_of_lt (by omega)]
    omega

section
variable {R : Value → Heap → Prop} {h : Heap} {c : Cf}

theorem wrap_u64m (n : Int) : IntKind.wrap .u64 n = n % 18446744073709551616 := by
  unfold IntKind.wrap
  show (if (false && _) = true then _ else n % 2 ^ 64) = _
  simp

theorem bpl {n : Nat} {x : Bs n} : (TV.bytes n x).plain = true := by simp only [TV.plain]

theorem vtsz {v w : Vt} : v.tv.size = w.tv.size := by simp only [Vt.tv, TV.size, TVs.size]
theorem vtsz1 {v : Vt} : 34 = v.tv.size := by simp only [Vt.tv, TV.size, TVs.size]
/-- How far the row is turned. -/
def wrap64 (k : Nat) (turn : Int) (n : Nat) : Prop := IntKind.wrap .i64 (Int.tmod (IntKind.wrap .u64 turn) (IntKind.wrap .u64 (n : Int))) = (k : Int)
def zeroV : Vt := ⟨0, 0, Bs.zero 32⟩

set_option maxHeartbeats 1000000 in
/-- A SUM'S TAG IS THAT OF ITS VOTES, JOINED. -/
theorem sealSums_spec {m : Ms} {turn : Int} (hc : ∃ L, Elems 2 h c.vals (vds L)) (hm : ∃ row, Elems 1 h m.bits (bools row)) (hr : ∀ h', Ext h h' → R (TV.bool true).val h') : CallsH Try.prog 3 (TVs.vals [c.tv, m.tv, .int .i64 turn]) h R := by
  obtain ⟨L, e⟩ := hc
  obtain ⟨row, em⟩ := hm
  apply tollerlaw08_SealSums_calls c.vals c.ep c.com c.no c.orp c.ear c.quo c.pe c.by_ c.win c.ban c.dec m.kind m.slot m.target m.member m.body m.bits m.tag
  unfold tollerlaw08_SealSums_vc
  refine newTV_in fun h1 v1 x1 s1 => newTV_in fun h2 v2 x2 s2 => ?_
  have v1 : Var 24 h2 h.size c.tv := Var.ext (t := c.tv) v1 x2
  have v2 : Var 32 h2 h1.size m.tv := v2
  have x02 := x1.trans x2
  refine alive_spec fun h3 x3 => ⟨_, rfl, If.no ?_⟩
  have x03 := x02.trans x3
  have v13 := v1.ext x3
  have v23 := v2.ext x3
  intro J HJ
  refine cf_at v13 (ms_at v23 (great8_spec (e.ext x03) (em.ext x03) (fun h5 x5 => ⟨_, rfl, If.yes (hr h5 (x03.trans x5))⟩) fun h4 x4 hf h200 => ⟨_, rfl, If.no ?_⟩))
  have x04 := x03.trans x4
  have hlen := hf.fine.len
  have hv : c.vals.len < 900 := by omega
  have hk := keys64 hf.keys
  have v14 := v13.ext x4
  have v24 := v23.ext x4
  refine ⟨m.kind, v24.at.1, If.split (fun hb => hr h4 x04) fun hb => HJ _ _ ?_⟩
  clear HJ J
  have hk3 : m.kind = 3 := by simpa using hb
  refine cf_at v14 (ms_at v24 (tag_spec hv (e.ext x04) hk (em.ext x04) (by omega) fun h5 x5 => ⟨_, _, rfl, ?_⟩))
  refine newTV_in fun h6 v6 x6 s6 => put_n v6 (t := .bytes 16 (tagF c.vals.len c.com L m row).1) rfl rfl fun h7 v7 f7 s7 => ?_
  have x57 : Ext h5 h7 := Only.cut x6 f7 fun i hi => by omega
  have x47 := x5.trans x57
  have x07 := x04.trans x47
  refine cf_at (v14.ext x47) (ms_at (v24.ext x47) (votes_spec hv (em.ext x07) (by omega) fun h8 s8 e8 x8 => ⟨_, rfl, ?_⟩))
  have x08 := x07.trans x8
  have x48 := x47.trans x8
  have el8 := e8.len
  rw [List.length_map] at el8
  rw [speak_tag_ok]
  refine If.split (fun hb2 => ?_) fun hb2 => ?_
  · have hb2 : (speakF c.vals.len c.com m row).2 = false := by simpa using hb2
    have hz : votesF c.vals.len c.com m row = [] := if_pos (.inl hb2)
    rw [hz] at el8
    have : decide (((s8.len : Nat) : Int) = 0) = true := by rw [← el8]; rfl
    rw [this]
    exact hr h8 x08
  have hok : (speakF c.vals.len c.com m row).2 = true := by simpa using hb2
  have hvo : votesF c.vals.len c.com m row = (speakF c.vals.len c.com m row).1.map fun i => ⟨i, m.slot, m.target⟩ := if_neg (by rw [hok]; rintro (h | h); cases h; rw [hk3] at h; exact absurd h (by decide))
  have hne := sum_ne hk3 hok
  have hvl := votes_len (n := c.vals.len) (com := c.com) (m := m) (row := row)
  have hvlen : (votesF c.vals.len c.com m row).length ≠ 0 := by
    rw [hvo, List.length_map]
    intro h0
    exact hne (List.eq_nil_of_length_eq_zero h0)
  have hvmem : ∀ v ∈ votesF c.vals.len c.com m row, v.who ∈ mem c.vals.len c.com m.slot ∧ v.slot = m.slot ∧ v.target = m.target := by
    intro v hv
    rw [hvo] at hv
    obtain ⟨i, hi, rfl⟩ := List.mem_map.1 hv
    exact ⟨speak_mem hi, rfl, rfl⟩
  have htag : (tagF c.vals.len c.com L m row).1 = joinF ((votesF c.vals.len c.com m row).map fun v => tag1 L m row v.who) (Bs.zero 16) := by
    unfold tagF
    rw [if_pos hok, hvo, List.map_map]
    rfl
  generalize hVV : votesF c.vals.len c.com m row = V at e8 el8 hvlen hvmem htag hvl
  refine If.dec.2 ⟨fun h0 => by omega, fun h0 => ?_⟩
  -- how far the row is turned
  have hwn : IntKind.wrap .u64 (s8.len : Int) = (s8.len : Int) := by
    rw [wrap_u64m]
    omega
  have htr := wrap_u64_range turn
  obtain ⟨k, hkl, hkk⟩ : ∃ k : Nat, k < V.length ∧ wrap64 k turn s8.len := ⟨(IntKind.wrap .u64 turn % (s8.len : Int)).toNat, by
    have h1 := Int.emod_nonneg (IntKind.wrap .u64 turn) (show (s8.len : Int) ≠ 0 by omega)
    have h2 := Int.emod_lt_of_pos (IntKind.wrap .u64 turn) (show (0 : Int) < s8.len by omega)
    omega, by
    have h1 := Int.emod_nonneg (IntKind.wrap .u64 turn) (show (s8.len : Int) ≠ 0 by omega)
    have h2 := Int.emod_lt_of_pos (IntKind.wrap .u64 turn) (show (0 : Int) < s8.len by omega)
    unfold wrap64
    rw [hwn, Int.tmod_eq_emod_of_nonneg htr.1, wrap_i64 (by omega) (by omega)]
    omega⟩
  unfold wrap64 at hkk
  obtain ⟨W, hW⟩ : ∃ W, W = V.drop k ++ V.take k := ⟨_, rfl⟩
  have hWl : W.length = V.length := by rw [hW, List.length_append, List.length_drop, List.length_take]; omega
  have hWp : W.Perm V := by
    rw [hW]
    refine List.perm_append_comm.trans ?_
    rw [List.take_append_drop]
  refine ⟨fun σ hh => 0 ≤ σ.2.2 ∧ σ.2.2 ≤ s8.len ∧ Own 30 16 hh σ.2.1 (tags ((W.take σ.2.2.toNat).map fun v => tag1 L m row v.who)) ∧ (∀ p, σ.2.1.a = some p → h8.size ≤ p.b) ∧ Ext h8 hh, fun σ _ => ((s8.len : Int) - σ.2.2).toNat,
    ⟨Int.le_refl 0, by first | omega | (dsimp only; omega), Own.nil _ _ _, (fun p hp => by cases hp), Ext.refl _⟩, ?_⟩
  rintro ⟨fl, t, i⟩ h9 ⟨i0, i1, o9, b9, x9⟩
  dsimp only at i0 i1 o9 b9 x9 ⊢
  have x89 := x08.trans x9
  have x49 := x48.trans x9
  refine If.dec.2 ⟨fun hi => ?_, fun hi => ?_⟩
  · have hidx : Int.tmod (IntKind.wrap .i64 (i + IntKind.wrap .i64 (Int.tmod (IntKind.wrap .u64 turn) (IntKind.wrap .u64 (s8.len : Int))))) (s8.len : Int) = (((i.toNat + k) % V.length : Nat) : Int) := by
      rw [hkk, wrap_i64 (by omega) (by omega), Int.tmod_eq_emod_of_nonneg (by omega), show i + (k : Int) = ((i.toNat + k : Nat) : Int) by omega, ← el8]
      rfl
    rw [hidx]
    have hml := Nat.mod_lt (i.toNat + k) (show 0 < V.length by omega)
    refine ⟨by rw [hwn]; omega, by omega, ?_⟩
    refine (e8.ext x9).read (i := (((i.toNat + k) % V.length : Nat) : Int)) (by omega) (by omega) fun l1 t1 ha1 ht1 at1' => ?_
    rw [List.getElem?_map] at ht1
    obtain ⟨vv, hvv, rfl⟩ := Option.map_eq_some_iff.1 ht1
    rw [Int.toNat_natCast] at hvv
    have hWi : W[i.toNat]? = some vv := by rw [hW, rot_get V k i.toNat hkl (by omega)]; exact hvv
    have hmem := hvmem vv (List.mem_of_getElem? hvv)
    obtain ⟨who, sl, tg⟩ := vv
    dsimp only at hmem
    obtain ⟨hw, rfl, rfl⟩ := hmem
    refine ⟨who, m.slot, m.target, at1', ?_⟩
    refine newTV_in fun h10 v10 x10 s10 => put_n (t0 := zeroV.tv) v10 (t := Vt.tv ⟨who, m.slot, m.target⟩) vtsz1 vtsz fun h11 v11 f11 s11 => ?_
    have x911 : Ext h9 h11 := Only.cut x10 f11 fun i hi => by omega
    refine ⟨m.slot, v11.at.2.1, m.target, v11.at.2.2, who, v11.at.1, ?_⟩
    refine newTV_in fun h12 v12 x12 s12 => put_n (t0 := zeroM.tv) v12 (t := (om m who).tv) mssz1 mssz fun h13 v13' f13 s13 => ?_
    have x1113 : Ext h11 h13 := Only.cut x12 f13 fun i hi => by omega
    have x913 := x911.trans x1113
    have x013 := x89.trans x913
    refine cf_at (v14.ext (x49.trans x913)) (ms_at (m := om m who) v13' (tag_spec (m := om m who) (row := []) hv (e.ext x013) hk (Elems.nil_ 1 h13) (by decide) fun h14 x14 => ⟨_, _, rfl, ?_⟩))
    rw [om_tag hlen hk3 hok hw]
    refine newTV_in fun h15 v15 x15 s15 => put_n v15 (t := .bytes 16 (tag1 L m row who)) rfl bsz fun h16 v16 f16 s16 => ?_
    have x1416 : Ext h14 h16 := Only.cut x15 f16 fun i hi => by omega
    have x1316 := x14.trans x1416
    have x016 := x013.trans x1316
    refine cf_at ((v14.ext (x49.trans x913)).ext x1316) (ms_at (m := om m who) (Var.ext (t := (om m who).tv) v13' x1316) (votes_spec (m := om m who) (row := []) hv (Elems.nil_ 1 h16) (by decide) fun h17 s17 e17 x17 => ⟨_, rfl, ?_⟩))
    rw [om_votes hlen hok hw] at e17
    have l17 : s17.len = 1 := e17.len.symm
    have x1417 := x1416.trans x17
    have x1317 := x1316.trans x17
    have x917 := x913.trans x1317
    have z17 : decide (((s17.len : Nat) : Int) = 1) = true := decide_eq_true (by omega)
    refine If.no ?_
    rw [z17]
    refine If.no ?_
    refine e17.read (i := 0) (by decide) (by omega) fun l2 t2 ha2 ht2 at2' => ?_
    obtain rfl := Option.some.inj ht2
    refine ⟨who, m.slot, m.target, at2', who, m.slot, m.target, (((v11.ext x1113).ext x1317)).at, ?_⟩
    have hsame : (!(decide (who = who) && (decide (m.slot = m.slot) && (decide (m.target.l = m.target.l) && true)))) = false := by simp
    rw [hsame]
    refine If.no ⟨_, (v16.ext x17).bytes, ?_⟩
    have o17 := o9.ext x917
    have tl := o17.len
    rw [List.length_map, List.length_map, List.length_take] at tl
    refine append1 (C := ctx) (T := 30) (sz := 16) (x := .bytes 16 (tag1 L m row who)) size30 zsize30 (by rw [bytes30]; decide) (by rw [bytes30]; omega) o17 (bsz (y := Bs.zero 16)) bpl fun s18 h18 o18 f18 b18 => ?_
    rw [wrap_i64 (n := i + 1) (by omega) (by omega)]
    have x817 := x9.trans x917
    have z8 := x817.size
    refine ⟨⟨by omega, by omega, ?_, fun p hp => ?_, Only.cut x817 f18 fun j ⟨p, hp, hj⟩ => by have := b9 p hp; omega⟩, by first | omega | (dsimp only; omega)⟩
    · rw [show (i + 1).toNat = i.toNat + 1 by omega, take_snoc hWi, List.map_append, List.map_cons, List.map_nil]
      simpa [tags] using o18
    · rcases b18 p hp with ⟨p', h1', h2'⟩ | h1'
      · have := b9 p' h1'; omega
      · omega
  · have hall : W.take i.toNat = W := List.take_of_length_le (by omega)
    rw [hall] at o9
    refine ⟨_, (((v7.ext x8).ext x9)).bytes, join_spec o9.elems (by rw [List.length_map]; omega) fun h10 x10 => ⟨_, rfl, x10, ?_⟩⟩
    have hfin : joinF (W.map fun v => tag1 L m row v.who) (Bs.zero 16) = (tagF c.vals.len c.com L m row).1 := by
      rw [htag]
      exact joinF_perm (hWp.map _) _
    rw [hfin, decide_eq_true rfl]
    exact hr h10 (x89.trans x10)

end
end Go.Proofs.Ytgdhddignbkloaa.Board
end

section
/- The conditions of functions, as the generator reckons them out, each with the proof that it is that. -/
namespace Go.Proofs.Ytgdhddignbkloaa
open Go Go.Vc
set_option maxRecDepth 100000
set_option linter.unusedVariables false

def tollerref04_text_vc (r : Bs (32 : Nat)) (h : Heap) (R : Value → Heap → Prop) : Prop :=
 Vc.Bind (newTV h (TV.bytes (32 : Nat) r) (26 : Nat)) fun (h_1 : Array Obj) ↦
 ∃ (new : List Value),
 slAt (Array.push h_1 (row (TVs.cells []) (5 : Nat)))
 (cutSl (Sl.mk (some (Loc.mk (Array.size h) (0 : Nat))) (32 : Nat) (32 : Nat)) (0 : Nat) (32 : Nat) (1 : Nat)) (1 : Nat) new ∧
 (∀ (v : Value), v ∈ new → isOne v = true) ∧
 vcAppend Ytgdhddignbkloaa.ctx (5 : Nat) (Sl.mk (some (Loc.mk (Array.size h_1) (0 : Nat))) (0 : Nat) (0 : Nat))
 (cutSl (Sl.mk (some (Loc.mk (Array.size h) (0 : Nat))) (32 : Nat) (32 : Nat)) (0 : Nat) (32 : Nat) (1 : Nat)).len new
 (Array.push h_1 (row (TVs.cells []) (5 : Nat))) fun (s : Sl) (h : Array Obj) ↦ ∃ (bs : List UInt8), strAt h s bs ∧ R (TV.val (TV.str bs)) h

theorem tollerref04_text_calls (r : Bs (32 : Nat)) (h : Heap) (R : Value → Heap → Prop) (H : tollerref04_text_vc r h R) : CallsH Try.prog 53 (TVs.vals [TV.bytes (32 : Nat) r]) h R :=
 vcFn_sound (C := ctx) ctx_ok (fn := Try.f53) Try.func53 ((by kernel_rfl : tollerref04_text_vc r h R = vcFn ctx Try.f53 [TV.bytes (32 : Nat) r] h R) ▸ H)


def tollerref04_Of_vc (key : List UInt8) (s_ : List UInt8) (h : Heap) (R : Value → Heap → Prop) : Prop :=
 Vc.Bind (newTV h (TV.bytes (16 : Nat) (Bs.zero (16 : Nat))) (30 : Nat)) fun (h_1 : Array Obj) ↦
 Join
 (fun (s : List UInt8) (h_2 : Array Obj) ↦
 Go.Vc.Loop s h_2 fun (s : List UInt8) (h_3 : Array Obj) (K : List UInt8 → Array Obj → Prop) ↦
 If (decide ((↑(List.length s) : Int) < (64 : Int)))
 ((↑(List.length s + List.length (ByteArray.mk #[(0 : UInt8)]).data.toList) : Int) ≤ (9223372036854775807 : Int) ∧
 K (s ++ (ByteArray.mk #[(0 : UInt8)]).data.toList) h_3)
 (Go.Vc.Loop ((ByteArray.mk #[]).data.toList, (ByteArray.mk #[]).data.toList, (0 : Int)) h_3
 fun (s_1 : List UInt8 × List UInt8 × Int) (h_4 : Array Obj) (K : List UInt8 × List UInt8 × Int → Array Obj → Prop) ↦
 If (decide (s_1.snd.snd < (64 : Int)))
 ((0 : Int) ≤ s_1.snd.snd ∧
 s_1.snd.snd < (↑(List.length s) : Int) ∧
 ∃ (bs : List UInt8),
 strAt
 (Array.push h_4
 (row
 (TVs.cells
 [TV.int IntKind.u8
 (IntKind.wrap IntKind.u8
 (↑(BitVec.toNat
 (BitVec.ofInt (IntKind.bits IntKind.u8) (↑(UInt8.toNat (List.getD s (Int.toNat s_1.snd.snd) (0 : UInt8))) : Int) ^^^
 BitVec.ofInt (IntKind.bits IntKind.u8) (54 : Int))) :
 Int))])
 (5 : Nat)))
 (Sl.mk (some (Loc.mk (Array.size h_4) (0 : Nat))) (1 : Nat) (1 : Nat)) bs ∧
 (↑(List.length s_1.fst + List.length bs) : Int) ≤ (9223372036854775807 : Int) ∧
 (0 : Int) ≤ s_1.snd.snd ∧
 s_1.snd.snd < (↑(List.length s) : Int) ∧
 ∃ (bs_1 : List UInt8),
 strAt
 (Array.push
 (Array.push h_4
 (row
 (TVs.cells
 [TV.int IntKind.u8
 (IntKind.wrap IntKind.u8
 (↑(BitVec.toNat
 (BitVec.ofInt (IntKind.bits IntKind.u8)
 (↑(UInt8.toNat (List.getD s (Int.toNat s_1.snd.snd) (0 : UInt8))) : Int) ^^^
 BitVec.ofInt (IntKind.bits IntKind.u8) (54 : Int))) :
 Int))])
 (5 : Nat)))
 (row
 (TVs.cells
 [TV.int IntKind.u8
 (IntKind.wrap IntKind.u8
 (↑(BitVec.toNat
 (BitVec.ofInt (IntKind.bits IntKind.u8)
 (↑(UInt8.toNat (List.getD s (Int.toNat s_1.snd.snd) (0 : UInt8))) : Int) ^^^
 BitVec.ofInt (IntKind.bits IntKind.u8) (92 : Int))) :
 Int))])
 (5 : Nat)))
 (Sl.mk
 (some
 (Loc.mk
 (Array.size
 (Array.push h_4
 (row
 (TVs.cells
 [TV.int IntKind.u8
 (IntKind.wrap IntKind.u8
 (↑(BitVec.toNat
 (BitVec.ofInt (IntKind.bits IntKind.u8)
 (↑(UInt8.toNat (List.getD s (Int.toNat s_1.snd.snd) (0 : UInt8))) : Int) ^^^
 BitVec.ofInt (IntKind.bits IntKind.u8) (54 : Int))) :
 Int))])
 (5 : Nat))))
 (0 : Nat)))
 (1 : Nat) (1 : Nat))
 bs_1 ∧
 (↑(List.length s_1.snd.fst + List.length bs_1) : Int) ≤ (9223372036854775807 : Int) ∧
 K (s_1.fst ++ bs, s_1.snd.fst ++ bs_1, IntKind.wrap IntKind.i64 (s_1.snd.snd + (1 : Int)))
 (Array.push
 (Array.push h_4
 (row
 (TVs.cells
 [TV.int IntKind.u8
 (IntKind.wrap IntKind.u8
 (↑(BitVec.toNat
 (BitVec.ofInt (IntKind.bits IntKind.u8)
 (↑(UInt8.toNat (List.getD s (Int.toNat s_1.snd.snd) (0 : UInt8))) : Int) ^^^
 BitVec.ofInt (IntKind.bits IntKind.u8) (54 : Int))) :
 Int))])
 (5 : Nat)))
 (row
 (TVs.cells
 [TV.int IntKind.u8
 (IntKind.wrap IntKind.u8
 (↑(BitVec.toNat
 (BitVec.ofInt (IntKind.bits IntKind.u8)
 (↑(UInt8.toNat (List.getD s (Int.toNat s_1.snd.snd) (0 : UInt8))) : Int) ^^^
 BitVec.ofInt (IntKind.bits IntKind.u8) (92 : Int))) :
 Int))])
 (5 : Nat))))
 ((↑(List.length s_1.fst + List.length s_) : Int) ≤ (9223372036854775807 : Int) ∧
 CallsH Try.prog (43 : Nat) (TVs.vals [TV.str (s_1.fst ++ s_)]) h_4 fun (v : Value) (h_5 : Array Obj) ↦
 ∃ (b : Bs (32 : Nat)),
 v = TV.val (TV.bytes (32 : Nat) b) ∧
 CallsH Try.prog (53 : Nat) (TVs.vals [TV.bytes (32 : Nat) b]) h_5 fun (v : Value) (h_6 : Array Obj) ↦
 ∃ (s_2 : List UInt8),
 v = TV.val (TV.str s_2) ∧
 (↑(List.length s_1.snd.fst + List.length s_2) : Int) ≤ (9223372036854775807 : Int) ∧
 CallsH Try.prog (43 : Nat) (TVs.vals [TV.str (s_1.snd.fst ++ s_2)]) h_6 fun (v : Value) (h_7 : Array Obj) ↦
 ∃ (b : Bs (32 : Nat)),
 v = TV.val (TV.bytes (32 : Nat) b) ∧
 Vc.Bind (newTV h_7 (TV.bytes (32 : Nat) (Bs.zero (32 : Nat))) (26 : Nat)) fun (h_8 : Array Obj) ↦
 wok h_8 (Array.size h_7) (0 : Nat) (32 : Nat) ∧
 Vc.Bind (TV.put h_8 (Array.size h_7) (0 : Nat) (TV.bytes (32 : Nat) b)) fun (h_9 : Array Obj) ↦
 Vc.Bind (newTV h_9 (TV.bytes (16 : Nat) (Bs.zero (16 : Nat))) (30 : Nat)) fun (h_10 : Array Obj) ↦
 Go.Vc.Loop (0 : Int) h_10 fun (s : Int) (h_11 : Array Obj) (K : Int → Array Obj → Prop) ↦
 If (decide (s < (16 : Int)))
 ((0 : Int) ≤ s ∧
 s < (↑(32 : Nat) : Int) ∧
 ∃ (n : Int),
 at1 h_11 (Array.size h_7) ((0 : Nat) + Int.toNat s * (1 : Nat)) (Value.int IntKind.u8 n) ∧
 (0 : Int) ≤ s ∧
 s < (↑(16 : Nat) : Int) ∧
 wok h_11 (Array.size h_9) ((0 : Nat) + Int.toNat s * (1 : Nat)) (1 : Nat) ∧
 Vc.Bind (TV.put h_11 (Array.size h_9) ((0 : Nat) + Int.toNat s * (1 : Nat)) (TV.int IntKind.u8 n))
 fun (h : Array Obj) ↦ K (IntKind.wrap IntKind.i64 (s + (1 : Int))) h)
 (∃ (b : Bs (16 : Nat)),
 atBytes h_11 (Array.size h_9) (0 : Nat) (16 : Nat) b ∧
 wok h_11 (Array.size h) (0 : Nat) (16 : Nat) ∧
 Vc.Bind (TV.put h_11 (Array.size h) (0 : Nat) (TV.bytes (16 : Nat) b)) fun (h_12 : Array Obj) ↦
 ∃ (b : Bs (16 : Nat)),
 atBytes h_12 (Array.size h) (0 : Nat) (16 : Nat) b ∧ R (TV.val (TV.bytes (16 : Nat) b)) h_12))))
 fun (J : List UInt8 → Array Obj → Prop) ↦
 If (decide ((64 : Int) < (↑(List.length key) : Int)))
 (CallsH Try.prog (43 : Nat) (TVs.vals [TV.str key]) h_1 fun (v : Value) (h : Array Obj) ↦
 ∃ (b : Bs (32 : Nat)),
 v = TV.val (TV.bytes (32 : Nat) b) ∧
 CallsH Try.prog (53 : Nat) (TVs.vals [TV.bytes (32 : Nat) b]) h fun (v : Value) (h : Array Obj) ↦ ∃ (s : List UInt8), v = TV.val (TV.str s) ∧ J s h)
 (J key h_1)

theorem tollerref04_Of_calls (key : List UInt8) (s_ : List UInt8) (h : Heap) (R : Value → Heap → Prop) (H : tollerref04_Of_vc key s_ h R) : CallsH Try.prog 37 (TVs.vals [TV.str key, TV.str s_]) h R :=
 vcFn_sound (C := ctx) ctx_ok (fn := Try.f37) Try.func37 ((by kernel_rfl : tollerref04_Of_vc key s_ h R = vcFn ctx Try.f37 [TV.str key, TV.str s_] h R) ▸ H)


def tollerref04_Join_vc (l_ : Sl) (h : Heap) (R : Value → Heap → Prop) : Prop :=
 Vc.Bind (newTV h (TV.bytes (16 : Nat) (Bs.zero (16 : Nat))) (30 : Nat)) fun (h_1 : Array Obj) ↦
 Vc.Bind (newTV h_1 (TV.bytes (16 : Nat) (Bs.zero (16 : Nat))) (30 : Nat)) fun (h_2 : Array Obj) ↦
 Go.Vc.Loop (0 : Int) h_2 fun (s : Int) (h_3 : Array Obj) (K : Int → Array Obj → Prop) ↦
 If (decide (s < (16 : Int)))
 (Go.Vc.Loop (0 : Int) h_3 fun (s_1 : Int) (h : Array Obj) (K_1 : Int → Array Obj → Prop) ↦
 If (decide (s_1 < (↑l_.len : Int)))
 ((0 : Int) ≤ s_1 ∧
 s_1 < (↑l_.len : Int) ∧
 Nn l_.a fun (l : Go.Vc.Loc) ↦
 ∃ (b : Bs (16 : Nat)),
 atBytes h l.b (l.o + Int.toNat s_1 * (16 : Nat)) (16 : Nat) b ∧
 Vc.Bind (newTV h (TV.bytes (16 : Nat) (Bs.zero (16 : Nat))) (30 : Nat)) fun (h_4 : Array Obj) ↦
 wok h_4 (Array.size h) (0 : Nat) (16 : Nat) ∧
 Vc.Bind (TV.put h_4 (Array.size h) (0 : Nat) (TV.bytes (16 : Nat) b)) fun (h_5 : Array Obj) ↦
 (0 : Int) ≤ s ∧
 s < (↑(16 : Nat) : Int) ∧
 ∃ (n : Int),
 at1 h_5 (Array.size h_1) ((0 : Nat) + Int.toNat s * (1 : Nat)) (Value.int IntKind.u8 n) ∧
 (0 : Int) ≤ s ∧
 s < (↑(16 : Nat) : Int) ∧
 ∃ (n_1 : Int),
 at1 h_5 (Array.size h) ((0 : Nat) + Int.toNat s * (1 : Nat)) (Value.int IntKind.u8 n_1) ∧
 (0 : Int) ≤ s ∧
 s < (↑(16 : Nat) : Int) ∧
 wok h_5 (Array.size h_1) ((0 : Nat) + Int.toNat s * (1 : Nat)) (1 : Nat) ∧
 Vc.Bind
 (TV.put h_5 (Array.size h_1) ((0 : Nat) + Int.toNat s * (1 : Nat))
 (TV.int IntKind.u8
 (IntKind.wrap IntKind.u8
 (↑(BitVec.toNat
 (BitVec.ofInt (IntKind.bits IntKind.u8) n ^^^ BitVec.ofInt (IntKind.bits IntKind.u8) n_1)) :
 Int))))
 fun (h : Array Obj) ↦ K_1 (IntKind.wrap IntKind.i64 (s_1 + (1 : Int))) h)
 (K (IntKind.wrap IntKind.i64 (s + (1 : Int))) h))
 (∃ (b : Bs (16 : Nat)),
 atBytes h_3 (Array.size h_1) (0 : Nat) (16 : Nat) b ∧
 wok h_3 (Array.size h) (0 : Nat) (16 : Nat) ∧
 Vc.Bind (TV.put h_3 (Array.size h) (0 : Nat) (TV.bytes (16 : Nat) b)) fun (h_4 : Array Obj) ↦
 ∃ (b : Bs (16 : Nat)), atBytes h_4 (Array.size h) (0 : Nat) (16 : Nat) b ∧ R (TV.val (TV.bytes (16 : Nat) b)) h_4)

theorem tollerref04_Join_calls (l_ : Sl) (h : Heap) (R : Value → Heap → Prop) (H : tollerref04_Join_vc l_ h R) : CallsH Try.prog 39 (TVs.vals [TV.slice l_]) h R :=
 vcFn_sound (C := ctx) ctx_ok (fn := Try.f39) Try.func39 ((by kernel_rfl : tollerref04_Join_vc l_ h R = vcFn ctx Try.f39 [TV.slice l_] h R) ▸ H)


end Go.Proofs.Ytgdhddignbkloaa
end

section
/- The document's tags: the same as the program's. -/
namespace Go.Proofs.Ytgdhddignbkloaa.Board
open Go Go.Vc
section
variable {R : Value → Heap → Prop} {h : Heap}

set_option maxRecDepth 100000 in
theorem doctext_spec {r : Bs 32} (hr : ∀ h', Ext h h' → R (TV.str r.l).val h') : CallsH Try.prog 53 (TVs.vals [.bytes 32 r]) h R := by
  apply tollerref04_text_calls
  unfold tollerref04_text_vc
  refine newTV_in fun h1 v1 x1 s1 => ?_
  have xp := Ext.push h1 (Vc.row (TVs.cells []) 5)
  have hc : cutSl (Sl.mk (some (Vc.Loc.mk h.size 0)) 32 32) 0 32 1 = ⟨some ⟨h.size, 0⟩, 32, 32⟩ := rfl
  rw [hc]
  refine ⟨r.l.map fun c => Value.int .u8 (c.toNat : Int), by rw [← bys_cells]; exact (elems_bytes (v1.ext xp).bytes).cells (bys_size _) (by decide), bcells_one r.l, ?_⟩
  have r1 : Row (fun i => h.size < i) (h1.push (Vc.row (TVs.cells []) 5)) ⟨some ⟨h1.size, 0⟩, 0, 0⟩ [] := by
    refine ⟨Own.new (T := 5) (sz := 1) h1 [] (fun t ht => by cases ht), fun l hl => ?_, fun i hi => ?_⟩
    · obtain rfl := Option.some.inj hl
      show h.size < h1.size
      omega
    · rw [Array.size_push] at hi
      omega
  refine app_bytesN r.h.symm r1 (by rw [r.h]; decide) fun s2 h2 r2 f2 b2 => ⟨_, r2.str, ?_⟩
  exact hr h2 (x1.trans (Only.cut xp (r1.cut f2) fun i hi => by omega))

theorem padZ_l {key : List UInt8} (hk : key.length ≤ 64) : (padZ key).l = key ++ List.replicate (64 - key.length) 0 := by
  show (key ++ List.replicate 64 0).take 64 = _
  rw [List.take_append, List.take_of_length_le hk, List.take_replicate, Nat.min_eq_left (by omega)]

theorem xb_ofNat (c : UInt8) (x : Int) : UInt8.ofNat (IntKind.wrap .u8 ((BitVec.ofInt (IntKind.bits .u8) (c.toNat : Int) ^^^ BitVec.ofInt (IntKind.bits .u8) x).toNat : Int)).toNat = xb c x := rfl

theorem range_snoc {α : Type} (f : Nat → α) (n : Nat) : (List.range (n + 1)).map f = (List.range n).map f ++ [f n] := by
  rw [List.range_succ, List.map_append, List.map_cons, List.map_nil]

set_option maxRecDepth 100000 in
theorem docmac_spec {key s : List UInt8} (hk : key.length ≤ 64) (hl : s.length < 10000) (hr : ∀ h', Ext h h' → R (TV.bytes 16 (macF key s)).val h') : CallsH Try.prog 37 (TVs.vals [.str key, .str s]) h R := by
  apply tollerref04_Of_calls
  unfold tollerref04_Of_vc
  refine newTV_in fun h1 v1 x1 s1 => ?_
  intro J HJ
  refine If.dec.2 ⟨fun hlong => by omega, fun _ => HJ key h1 ?_⟩
  clear HJ J
  refine ⟨fun σ hh => h1 = hh ∧ σ.length ≤ 64 ∧ ∃ k, σ = key ++ List.replicate k 0, fun σ _ => 64 - σ.length, ⟨rfl, hk, 0, by simp⟩, ?_⟩
  rintro key1 hh ⟨rfl, hk1, k, hkk⟩
  refine If.dec.2 ⟨fun hlt => ⟨by show ((key1.length + 1 : Nat) : Int) ≤ _; omega, ⟨rfl, by rw [List.length_append]; show key1.length + 1 ≤ 64; omega, k + 1, ?_⟩, ?_⟩, fun hge => ?_⟩
  · rw [hkk, List.append_assoc]
    congr 1
    rw [List.replicate_succ']
  · show 64 - (key1 ++ [0]).length < 64 - key1.length
    rw [List.length_append, List.length_singleton]
    omega
  have hkz : key1 = (padZ key).l := by
    rw [padZ_l hk, hkk]
    have : key1.length = key.length + k := by rw [hkk, List.length_append, List.length_replicate]
    congr 2
    omega
  have hget : ∀ i, key1.getD i 0 = getB (padZ key) i := fun i => by rw [hkz]; rfl
  refine ⟨fun σ hh => 0 ≤ σ.2.2 ∧ σ.2.2 ≤ 64 ∧ Ext h1 hh ∧ σ.1 = (List.range σ.2.2.toNat).map (fun i => xb (getB (padZ key) i) 54) ∧ σ.2.1 = (List.range σ.2.2.toNat).map (fun i => xb (getB (padZ key) i) 92), fun σ _ => ((64 : Int) - σ.2.2).toNat,
    ⟨Int.le_refl 0, by decide, Ext.refl _, rfl, rfl⟩, ?_⟩
  rintro ⟨inn, out, i⟩ h2 ⟨i0, i1, x2, hin, hout⟩
  dsimp only at i0 i1 x2 hin hout ⊢
  have l1 : inn.length = i.toNat := by rw [hin]; simp
  have l2 : out.length = i.toNat := by rw [hout]; simp
  refine If.dec.2 ⟨fun hi => ?_, fun hi => ?_⟩
  · have hw54 := wrap_u8_range ((BitVec.ofInt (IntKind.bits .u8) ((key1.getD i.toNat 0).toNat : Int) ^^^ BitVec.ofInt (IntKind.bits .u8) 54).toNat : Int)
    have hw92 := wrap_u8_range ((BitVec.ofInt (IntKind.bits .u8) ((key1.getD i.toNat 0).toNat : Int) ^^^ BitVec.ofInt (IntKind.bits .u8) 92).toNat : Int)
    refine ⟨i0, by omega, _, str1 hw54.1 hw54.2, by rw [List.length_singleton]; omega, i0, by omega, _, str1 hw92.1 hw92.2, by rw [List.length_singleton]; omega, ?_⟩
    rw [wrap_i64 (n := i + 1) (by omega) (by omega)]
    refine ⟨⟨by omega, by omega, (x2.trans (Ext.push _ _)).trans (Ext.push _ _), ?_, ?_⟩, by first | omega | (dsimp only; omega)⟩
    · rw [xb_ofNat, hget, hin, show (i + 1).toNat = i.toNat + 1 by omega, range_snoc]
    · rw [xb_ofNat, hget, hout, show (i + 1).toNat = i.toNat + 1 by omega, range_snoc]
  have e64 : i.toNat = 64 := by omega
  rw [e64] at hin hout l1 l2
  have hin : inn = padL key 54 := hin
  have hout : out = padL key 92 := hout
  subst hin
  subst hout
  refine ⟨by omega, docof_spec (by rw [List.length_append, l1]; omega) fun h3 x3 => ⟨_, rfl, doctext_spec fun h4 x4 => ⟨_, rfl, by rw [l2, Bs.h]; decide, ?_⟩⟩⟩
  refine docof_spec (by rw [List.length_append, l2, Bs.h]; decide) fun h5 x5 => ⟨_, rfl, ?_⟩
  refine newTV_in fun h6 v6 x6 s6 => put_n v6 (t := .bytes 32 (docF (padL key 92 ++ (docF (padL key 54 ++ s)).l))) rfl bsz fun h7 v7 f7 s7 => ?_
  have x57 : Ext h5 h7 := Only.cut x6 f7 fun i hi => by omega
  refine newTV_in fun h8 v8 x8 s8 => ?_
  have v78 := v7.ext x8
  refine ⟨fun i hh => 0 ≤ i ∧ i ≤ 16 ∧ Only (· = h7.size) h8 hh ∧ Var 30 hh h7.size (.bytes 16 (fillB (getB (docF (padL key 92 ++ (docF (padL key 54 ++ s)).l))) (Bs.zero 16) i.toNat)), fun i _ => ((16 : Int) - i).toNat, ⟨Int.le_refl 0, by decide, Only.refl _ _, v8⟩, ?_⟩
  rintro i h9 ⟨i0, i1, f9, v9⟩
  have v79 : Var 26 h9 h5.size (.bytes 32 (docF (padL key 92 ++ (docF (padL key 54 ++ s)).l))) := v78.only f9 (by omega)
  refine If.dec.2 ⟨fun hi => ?_, fun hi => ?_⟩
  · have hb := byte_at v79 (i := i.toNat) (by omega)
    have hlt := (getB (docF (padL key 92 ++ (docF (padL key 54 ++ s)).l)) i.toNat).toNat_lt
    refine ⟨i0, by omega, _, hb, i0, by omega, ?_⟩
    refine put_byte v9 (i := i.toNat) (o := 0 + i.toNat * 1) (by omega) (by omega) (by omega) (by omega) fun h10 v10 f10 s10 => ?_
    rw [wrap_i64 (n := i + 1) (by omega) (by omega)]
    refine ⟨⟨by omega, by omega, f9.trans f10, ?_⟩, by first | omega | (dsimp only; omega)⟩
    rw [show (i + 1).toNat = i.toNat + 1 by omega]
    rw [Int.toNat_natCast, UInt8.ofNat_toNat] at v10
    exact v10
  · have e16 : i.toNat = 16 := by omega
    rw [e16] at v9
    have hcut : fillB (getB (docF (padL key 92 ++ (docF (padL key 54 ++ s)).l))) (Bs.zero 16) 16 = macF key s := by
      apply Bs.get_ext
      intro j hj
      rw [fillB_get _ _ _ _ (Nat.le_refl _), if_pos hj]
      unfold macF macI cut16 getB
      rw [List.getD_eq_getElem?_getD, List.getD_eq_getElem?_getD, List.getElem?_take, if_pos hj]
    rw [hcut] at v9
    have x59 : Ext h5 h9 := x57.trans (Only.cut x8 f9 fun i hi => by omega)
    have x19 := (((x2.trans x3).trans x4).trans x5).trans x59
    refine ⟨_, v9.bytes, put_n (v1.ext x19) (t := .bytes 16 (macF key s)) rfl bsz fun h10 v10 f10 s10 => ⟨_, v10.bytes, ?_⟩⟩
    exact hr h10 (Only.cut (x1.trans x19) f10 fun i hi => by omega)

theorem set_set_same {n : Nat} (b : Bs n) (i : Nat) (x y : UInt8) : (b.set i x).set i y = b.set i y := by
  apply Bs.ext'
  simp [Bs.set]

theorem set_getB {n : Nat} (b : Bs n) (i : Nat) : b.set i (getB b i) = b := by
  apply Bs.ext'
  unfold Bs.set getB
  by_cases hi : i < b.l.length
  · rw [List.getD_eq_getElem?_getD, List.getElem?_eq_getElem hi]
    simp
  · simp only
    rw [List.set_eq_of_length_le (by omega)]

theorem getB_set {n : Nat} (b : Bs n) {i : Nat} (x : UInt8) (hi : i < n) : getB (b.set i x) i = x := by
  unfold getB Bs.set
  rw [List.getD_eq_getElem?_getD, List.getElem?_set_self (by rw [b.h]; exact hi)]
  rfl

set_option maxRecDepth 100000 in
theorem docjoin_spec {s : Sl} {ts : List (Bs 16)} (e : Elems 16 h s (tags ts)) (hl : ts.length < 1000000) (hr : ∀ h', Ext h h' → R (TV.bytes 16 (joinF ts (Bs.zero 16))).val h') : CallsH Try.prog 39 (TVs.vals [.slice s]) h R := by
  apply tollerref04_Join_calls
  unfold tollerref04_Join_vc
  have elen := e.len
  rw [List.length_map] at elen
  refine newTV_in fun h1 v1 x1 s1 => newTV_in fun h2 v2 x2 s2 => ?_
  have hs1 : h.size < h1.size := by omega
  refine ⟨fun i hh => 0 ≤ i ∧ i ≤ 16 ∧ Only (· = h1.size) h2 hh ∧ Var 30 hh h1.size (.bytes 16 (fillB (getB (joinF ts (Bs.zero 16))) (Bs.zero 16) i.toNat)), fun i _ => ((16 : Int) - i).toNat, ⟨Int.le_refl 0, by decide, Only.refl _ _, v2⟩, ?_⟩
  rintro i h3 ⟨i0, i1, f3, v3⟩
  refine If.dec.2 ⟨fun hi => ?_, fun hi => ?_⟩
  · have hB0 : getB (fillB (getB (joinF ts (Bs.zero 16))) (Bs.zero 16) i.toNat) i.toNat = getB (Bs.zero 16) i.toNat := by rw [fillB_get _ _ _ _ (by omega), if_neg (by omega)]
    have hset0 : fillB (getB (joinF ts (Bs.zero 16))) (Bs.zero 16) i.toNat = (fillB (getB (joinF ts (Bs.zero 16))) (Bs.zero 16) i.toNat).set i.toNat (getB (joinF (ts.take 0) (Bs.zero 16)) i.toNat) := by
      show _ = Bs.set _ _ (getB (Bs.zero 16) i.toNat)
      rw [← hB0, set_getB]
    have hfill : fillB (getB (joinF ts (Bs.zero 16))) (Bs.zero 16) (i.toNat + 1) = (fillB (getB (joinF ts (Bs.zero 16))) (Bs.zero 16) i.toNat).set i.toNat (getB (joinF ts (Bs.zero 16)) i.toNat) := rfl
    generalize fillB (getB (joinF ts (Bs.zero 16))) (Bs.zero 16) i.toNat = B at v3 hset0 hfill
    refine ⟨fun j hh => 0 ≤ j ∧ j ≤ ts.length ∧ Only (fun b => b = h1.size) h2 hh ∧ Var 30 hh h1.size (.bytes 16 (B.set i.toNat (getB (joinF (ts.take j.toNat) (Bs.zero 16)) i.toNat))), fun j _ => ((ts.length : Int) - j).toNat, ⟨Int.le_refl 0, by omega, f3, by rw [hset0] at v3; exact v3⟩, ?_⟩
    rintro j h4 ⟨j0, j1, f4, v4⟩
    refine If.dec.2 ⟨fun hj => ?_, fun hj => ?_⟩
    · have e4 : Elems 16 h4 s (tags ts) := e.ext (Only.cut (x1.trans x2) f4 fun i hi => by omega)
      refine e4.read j0 (by omega) fun l t hla ht ha => ?_
      rw [List.getElem?_map] at ht
      obtain ⟨t', ht', rfl⟩ := Option.map_eq_some_iff.1 ht
      refine ⟨t', ha, ?_⟩
      refine newTV_in fun h5 v5 x5 s5 => put_n v5 (t := .bytes 16 t') rfl rfl fun h6 v6 f6 s6 => ?_
      have x46 : Ext h4 h6 := Only.cut x5 f6 fun i hi => by omega
      have hz4 := f4.size
      have v46 := v4.ext x46
      have hb := byte_at v46 (i := i.toNat) (by omega)
      rw [getB_set _ _ (by omega)] at hb
      have hb2 := byte_at v6 (i := i.toNat) (by omega)
      have hw : 0 ≤ xv ((getB (joinF (ts.take j.toNat) (Bs.zero 16)) i.toNat).toNat : Int) ((getB t' i.toNat).toNat : Int) ∧ xv ((getB (joinF (ts.take j.toNat) (Bs.zero 16)) i.toNat).toNat : Int) ((getB t' i.toNat).toNat : Int) < 256 := wrap_u8_range _
      refine ⟨i0, hi, _, hb, i0, hi, _, hb2, i0, hi, ?_⟩
      refine put_byte v46 (i := i.toNat) (o := 0 + i.toNat * 1) (by omega) (by omega) hw.1 hw.2 fun h7 v7 f7 s7 => ?_
      rw [wrap_i64 (n := j + 1) (by omega) (by omega)]
      refine ⟨⟨by omega, by omega, (f4.trans ((Only.of_ext x46).mono fun _ h => h)).trans f7, ?_⟩, by first | omega | (dsimp only; omega)⟩
      rw [set_set_same] at v7
      rw [show (j + 1).toNat = j.toNat + 1 by omega, take_snoc ht', joinF_snoc, x16_get _ _ _ (by omega), ← xb_xor]
      exact v7
    · have hall : ts.take j.toNat = ts := List.take_of_length_le (by omega)
      rw [hall] at v4
      rw [wrap_i64 (n := i + 1) (by omega) (by omega)]
      refine ⟨⟨by omega, by omega, f4, ?_⟩, by first | omega | (dsimp only; omega)⟩
      rw [show (i + 1).toNat = i.toNat + 1 by omega, hfill]
      exact v4
  · have e16 : i.toNat = 16 := by omega
    rw [e16] at v3
    have hfin : fillB (getB (joinF ts (Bs.zero 16))) (Bs.zero 16) 16 = joinF ts (Bs.zero 16) := by
      apply Bs.get_ext
      intro j hj
      rw [fillB_get _ _ _ _ (Nat.le_refl _), if_pos hj]
    rw [hfin] at v3
    have v13 : Var 30 h3 h.size (.bytes 16 (Bs.zero 16)) := (v1.ext x2).only f3 (by omega)
    refine ⟨_, v3.bytes, put_n v13 (t := .bytes 16 (joinF ts (Bs.zero 16))) rfl bsz fun h4 v4 f4 s4 => ⟨_, v4.bytes, ?_⟩⟩
    exact hr h4 (Only.cut (Only.cut (x1.trans x2) f3 fun i hi => by omega) f4 fun i hi => by omega)

end
end Go.Proofs.Ytgdhddignbkloaa.Board
end

section
/- The conditions of functions, as the generator reckons them out, each with the proof that it is that. -/
namespace Go.Proofs.Ytgdhddignbkloaa
open Go Go.Vc
set_option maxRecDepth 100000
set_option linter.unusedVariables false

def tollerref02_Bytes_vc (l_ : Sl) (h : Heap) (R : Value → Heap → Prop) : Prop :=
 ∃ (new : List Value),
 slAt (Array.push h (row (TVs.cells []) (4 : Nat))) l_ (1 : Nat) new ∧
 (∀ (v : Value), v ∈ new → isOne v = true) ∧
 vcAppend Ytgdhddignbkloaa.ctx (4 : Nat) (Sl.mk (some (Loc.mk (Array.size h) (0 : Nat))) (0 : Nat) (0 : Nat)) l_.len new
 (Array.push h (row (TVs.cells []) (4 : Nat))) fun (s : Sl) (h_1 : Array Obj) ↦
 ∃ (new : List Value),
 slAt (Array.push h_1 (row (TVs.cells [TV.bool true]) (4 : Nat))) (Sl.mk (some (Loc.mk (Array.size h_1) (0 : Nat))) (1 : Nat) (1 : Nat)) (1 : Nat)
 new ∧
 (∀ (v : Value), v ∈ new → isOne v = true) ∧
 vcAppend Ytgdhddignbkloaa.ctx (4 : Nat) s (1 : Nat) new (Array.push h_1 (row (TVs.cells [TV.bool true]) (4 : Nat)))
 fun (s_1 : Sl) (h_2 : Array Obj) ↦
 Go.Vc.Loop (Sl.mk none (0 : Nat) (0 : Nat), (0 : Int)) h_2 fun (s_2 : Sl × Int) (h_3 : Array Obj) (K : Sl × Int → Array Obj → Prop) ↦
 If (decide (s_2.snd < (↑s_1.len : Int)))
 ((0 : Int) ≤ s_2.snd ∧
 s_2.snd < (↑s_1.len : Int) ∧
 Nn s_1.a fun (l : Go.Vc.Loc) ↦
 ∃ (b : Bool),
 at1 h_3 l.b (l.o + Int.toNat s_2.snd * (1 : Nat)) (Value.bool b) ∧
 Join
 (fun (s_3 : Sl) (h_4 : Array Obj) ↦
 If b
 (Go.Vc.Loop ((1 : Int), (0 : Int)) h_4 fun (s_4 : Int × Int) (h_5 : Array Obj) (K_1 : Int × Int → Array Obj → Prop) ↦
 (8 : Int) ≠ (0 : Int) ∧
 If (decide (s_4.snd < Int.tmod s_2.snd (8 : Int)))
 (K_1 (IntKind.wrap IntKind.i64 ((2 : Int) * s_4.fst), IntKind.wrap IntKind.i64 (s_4.snd + (1 : Int))) h_5)
 ((0 : Int) ≤ IntKind.wrap IntKind.i64 ((↑s_3.len : Int) - (1 : Int)) ∧
 IntKind.wrap IntKind.i64 ((↑s_3.len : Int) - (1 : Int)) < (↑s_3.len : Int) ∧
 Nn s_3.a fun (l_1 : Go.Vc.Loc) ↦
 ∃ (n : Int),
 at1 h_5 l_1.b (l_1.o + Int.toNat (IntKind.wrap IntKind.i64 ((↑s_3.len : Int) - (1 : Int))) * (1 : Nat))
 (Value.int IntKind.u8 n) ∧
 (0 : Int) ≤ IntKind.wrap IntKind.i64 ((↑s_3.len : Int) - (1 : Int)) ∧
 IntKind.wrap IntKind.i64 ((↑s_3.len : Int) - (1 : Int)) < (↑s_3.len : Int) ∧
 Nn s_3.a fun (l_2 : Go.Vc.Loc) ↦
 wok h_5 l_2.b
 (l_2.o + Int.toNat (IntKind.wrap IntKind.i64 ((↑s_3.len : Int) - (1 : Int))) * (1 : Nat))
 (1 : Nat) ∧
 Vc.Bind
 (TV.put h_5 l_2.b
 (l_2.o + Int.toNat (IntKind.wrap IntKind.i64 ((↑s_3.len : Int) - (1 : Int))) * (1 : Nat))
 (TV.int IntKind.u8 (IntKind.wrap IntKind.u8 (n + IntKind.wrap IntKind.u8 s_4.fst))))
 fun (h : Array Obj) ↦ K (s_3, IntKind.wrap IntKind.i64 (s_2.snd + (1 : Int))) h))
 (K (s_3, IntKind.wrap IntKind.i64 (s_2.snd + (1 : Int))) h_4))
 fun (J : Sl → Array Obj → Prop) ↦
 (8 : Int) ≠ (0 : Int) ∧
 If (decide (Int.tmod s_2.snd (8 : Int) = (0 : Int)))
 (∃ (new : List Value),
 slAt (Array.push h_3 (row (TVs.cells [TV.int IntKind.u8 (0 : Int)]) (5 : Nat)))
 (Sl.mk (some (Loc.mk (Array.size h_3) (0 : Nat))) (1 : Nat) (1 : Nat)) (1 : Nat) new ∧
 (∀ (v : Value), v ∈ new → isOne v = true) ∧
 vcAppend Ytgdhddignbkloaa.ctx (5 : Nat) s_2.fst (1 : Nat) new
 (Array.push h_3 (row (TVs.cells [TV.int IntKind.u8 (0 : Int)]) (5 : Nat))) fun (s : Sl) (h : Array Obj) ↦ J s h)
 (J s_2.fst h_3))
 (∃ (bs : List UInt8), strAt h_3 s_2.fst bs ∧ R (TV.val (TV.str bs)) h_3)

theorem tollerref02_Bytes_calls (l_ : Sl) (h : Heap) (R : Value → Heap → Prop) (H : tollerref02_Bytes_vc l_ h R) : CallsH Try.prog 55 (TVs.vals [TV.slice l_]) h R :=
 vcFn_sound (C := ctx) ctx_ok (fn := Try.f55) Try.func55 ((by kernel_rfl : tollerref02_Bytes_vc l_ h R = vcFn ctx Try.f55 [TV.slice l_] h R) ▸ H)


def tollerref07_Good_vc (m_Kind : Int) (m_Slot : Int) (m_Target : Bs (32 : Nat)) (m_Member : Int) (m_Body : Int) (m_Bits : Sl) (m_Tag : Bs (16 : Nat)) (h : Heap) (R : Value → Heap → Prop) : Prop :=
 Vc.Bind
 (newTV h
 (TV.agg
 [TV.int IntKind.i64 m_Kind, TV.int IntKind.i64 m_Slot, TV.bytes (32 : Nat) m_Target, TV.int IntKind.i64 m_Member, TV.int IntKind.u64 m_Body,
 TV.slice m_Bits, TV.bytes (16 : Nat) m_Tag])
 (32 : Nat))
 fun (h_1 : Array Obj) ↦
 Join
 (fun (s : Bool × Bool × Bool) (h_2 : Array Obj) ↦
 ∃ (s : Sl),
 at1 h_2 (Array.size h) (36 : Nat) (slVal s) ∧
 Go.Vc.Loop ((0 : Int), (0 : Int)) h_2 fun (s_1 : Int × Int) (h_3 : Array Obj) (K : Int × Int → Array Obj → Prop) ↦
 If (decide (s_1.snd < (↑s.len : Int)))
 ((0 : Int) ≤ s_1.snd ∧
 s_1.snd < (↑s.len : Int) ∧
 Nn s.a fun (l : Go.Vc.Loc) ↦
 ∃ (b : Bool),
 at1 h_3 l.b (l.o + Int.toNat s_1.snd * (1 : Nat)) (Value.bool b) ∧
 If b (K (IntKind.wrap IntKind.i64 (s_1.fst + (1 : Int)), IntKind.wrap IntKind.i64 (s_1.snd + (1 : Int))) h_3)
 (K (s_1.fst, IntKind.wrap IntKind.i64 (s_1.snd + (1 : Int))) h_3))
 (∃ (n : Int),
 at1 h_3 (Array.size h) (0 : Nat) (Value.int IntKind.i64 n) ∧
 If (decide (n = (3 : Int)))
 (∃ (n : Int),
 at1 h_3 (Array.size h) (34 : Nat) (Value.int IntKind.i64 n) ∧
 If (decide (n = (0 : Int)))
 (∃ (n : Int),
 at1 h_3 (Array.size h) (35 : Nat) (Value.int IntKind.u64 n) ∧
 If (decide (n = (0 : Int)))
 (∃ (s : Sl),
 at1 h_3 (Array.size h) (36 : Nat) (slVal s) ∧
 If (decide ((↑s.len : Int) ≤ (16 : Int))) (R (TV.val (TV.bool (decide ((0 : Int) < s_1.fst)))) h_3)
 (R (TV.val (TV.bool false)) h_3))
 (R (TV.val (TV.bool false)) h_3))
 (R (TV.val (TV.bool false)) h_3))
 (∃ (s : Sl),
 at1 h_3 (Array.size h) (36 : Nat) (slVal s) ∧
 If (decide ((↑s.len : Int) = (0 : Int)))
 (∃ (n : Int),
 at1 h_3 (Array.size h) (0 : Nat) (Value.int IntKind.i64 n) ∧
 If (decide (n = (1 : Int))) (R (TV.val (TV.bool true)) h_3)
 (∃ (n : Int), at1 h_3 (Array.size h) (35 : Nat) (Value.int IntKind.u64 n) ∧ R (TV.val (TV.bool (decide (n = (0 : Int))))) h_3))
 (R (TV.val (TV.bool false)) h_3))))
 fun (J : Bool × Bool × Bool → Array Obj → Prop) ↦
 ∃ (n : Int),
 at1 h_1 (Array.size h) (0 : Nat) (Value.int IntKind.i64 n) ∧
 If (decide (n < (1 : Int))) (R (TV.val (TV.bool false)) h_1)
 (∃ (n_1 : Int),
 at1 h_1 (Array.size h) (0 : Nat) (Value.int IntKind.i64 n_1) ∧
 If (decide ((3 : Int) < n_1)) (R (TV.val (TV.bool false)) h_1)
 (∃ (n_2 : Int),
 at1 h_1 (Array.size h) (1 : Nat) (Value.int IntKind.i64 n_2) ∧
 If (decide (n_2 < (0 : Int))) (R (TV.val (TV.bool false)) h_1)
 (∃ (n_3 : Int),
 at1 h_1 (Array.size h) (1 : Nat) (Value.int IntKind.i64 n_3) ∧
 If (decide ((1073741824 : Int) < n_3)) (R (TV.val (TV.bool false)) h_1)
 (∃ (n_4 : Int),
 at1 h_1 (Array.size h) (34 : Nat) (Value.int IntKind.i64 n_4) ∧
 If (decide (n_4 < (0 : Int))) (R (TV.val (TV.bool false)) h_1)
 (∃ (n_5 : Int),
 at1 h_1 (Array.size h) (34 : Nat) (Value.int IntKind.i64 n_5) ∧
 If (decide ((65535 : Int) < n_5)) (R (TV.val (TV.bool false)) h_1) (J (false, decide (n < (1 : Int)), false) h_1))))))

theorem tollerref07_Good_calls (m_Kind : Int) (m_Slot : Int) (m_Target : Bs (32 : Nat)) (m_Member : Int) (m_Body : Int) (m_Bits : Sl) (m_Tag : Bs (16 : Nat)) (h : Heap) (R : Value → Heap → Prop) (H : tollerref07_Good_vc m_Kind m_Slot m_Target m_Member m_Body m_Bits m_Tag h R) : CallsH Try.prog 34 (TVs.vals [TV.agg [TV.int IntKind.i64 m_Kind, TV.int IntKind.i64 m_Slot, TV.bytes (32 : Nat) m_Target, TV.int IntKind.i64 m_Member, TV.int IntKind.u64 m_Body, TV.slice m_Bits, TV.bytes (16 : Nat) m_Tag]]) h R :=
 vcFn_sound (C := ctx) ctx_ok (fn := Try.f34) Try.func34 ((by kernel_rfl : tollerref07_Good_vc m_Kind m_Slot m_Target m_Member m_Body m_Bits m_Tag h R = vcFn ctx Try.f34 [TV.agg [TV.int IntKind.i64 m_Kind, TV.int IntKind.i64 m_Slot, TV.bytes (32 : Nat) m_Target, TV.int IntKind.i64 m_Member, TV.int IntKind.u64 m_Body, TV.slice m_Bits, TV.bytes (16 : Nat) m_Tag]] h R) ▸ H)


def tollerref08_Speakers_vc (c_Validators : Sl) (c_Epoch : Int) (c_Committee : Int) (c_Nodes : Int) (c_Orphans : Int) (c_Early : Int) (c_Quota : Int) (c_Peers : Int) (c_Bytes : Int) (c_Window : Int) (c_Ban : Int) (c_Decay : Int) (m_Kind : Int) (m_Slot : Int) (m_Target : Bs (32 : Nat)) (m_Member : Int) (m_Body : Int) (m_Bits : Sl) (m_Tag : Bs (16 : Nat)) (h : Heap) (R : Value → Heap → Prop) : Prop :=
 Vc.Bind
 (newTV h
 (TV.agg
 [TV.slice c_Validators, TV.int IntKind.i64 c_Epoch, TV.int IntKind.i64 c_Committee, TV.int IntKind.i64 c_Nodes, TV.int IntKind.i64 c_Orphans,
 TV.int IntKind.i64 c_Early, TV.int IntKind.i64 c_Quota, TV.int IntKind.i64 c_Peers, TV.int IntKind.i64 c_Bytes, TV.int IntKind.i64 c_Window,
 TV.int IntKind.i64 c_Ban, TV.int IntKind.i64 c_Decay])
 (24 : Nat))
 fun (h_1 : Array Obj) ↦
 Vc.Bind
 (newTV h_1
 (TV.agg
 [TV.int IntKind.i64 m_Kind, TV.int IntKind.i64 m_Slot, TV.bytes (32 : Nat) m_Target, TV.int IntKind.i64 m_Member, TV.int IntKind.u64 m_Body,
 TV.slice m_Bits, TV.bytes (16 : Nat) m_Tag])
 (32 : Nat))
 fun (h_2 : Array Obj) ↦
 ∃ (n : Int),
 ∃ (n_1 : Int),
 ∃ (b : Bs (32 : Nat)),
 ∃ (n_2 : Int),
 ∃ (n_3 : Int),
 ∃ (s : Sl),
 ∃ (b_1 : Bs (16 : Nat)),
 (at1 h_2 (Array.size h_1) (0 : Nat) (Value.int IntKind.i64 n) ∧
 at1 h_2 (Array.size h_1) (1 : Nat) (Value.int IntKind.i64 n_1) ∧
 atBytes h_2 (Array.size h_1) (2 : Nat) (32 : Nat) b ∧
 at1 h_2 (Array.size h_1) (34 : Nat) (Value.int IntKind.i64 n_2) ∧
 at1 h_2 (Array.size h_1) (35 : Nat) (Value.int IntKind.u64 n_3) ∧
 at1 h_2 (Array.size h_1) (36 : Nat) (slVal s) ∧ atBytes h_2 (Array.size h_1) (37 : Nat) (16 : Nat) b_1) ∧
 CallsH Try.prog (34 : Nat)
 (TVs.vals
 [TV.agg
 [TV.int IntKind.i64 n, TV.int IntKind.i64 n_1, TV.bytes (32 : Nat) b, TV.int IntKind.i64 n_2, TV.int IntKind.u64 n_3, TV.slice s,
 TV.bytes (16 : Nat) b_1]])
 h_2 fun (v : Value) (h_3 : Array Obj) ↦
 ∃ (b : Bool),
 v = TV.val (TV.bool b) ∧
 If (!b) (R (TV.val (TV.tup [TV.slice Sl.nil, TV.bool false])) h_3)
 (∃ (n : Int),
 at1 h_3 (Array.size h_1) (0 : Nat) (Value.int IntKind.i64 n) ∧
 If (decide (n = (3 : Int)))
 (∃ (s : Sl),
 ∃ (n : Int),
 ∃ (n_4 : Int),
 ∃ (n_5 : Int),
 ∃ (n_6 : Int),
 ∃ (n_7 : Int),
 ∃ (n_8 : Int),
 ∃ (n_9 : Int),
 ∃ (n_10 : Int),
 ∃ (n_11 : Int),
 ∃ (n_12 : Int),
 ∃ (n_13 : Int),
 (at1 h_3 (Array.size h) (0 : Nat) (slVal s) ∧
 at1 h_3 (Array.size h) (1 : Nat) (Value.int IntKind.i64 n) ∧
 at1 h_3 (Array.size h) (2 : Nat) (Value.int IntKind.i64 n_4) ∧
 at1 h_3 (Array.size h) (3 : Nat) (Value.int IntKind.i64 n_5) ∧
 at1 h_3 (Array.size h) (4 : Nat) (Value.int IntKind.i64 n_6) ∧
 at1 h_3 (Array.size h) (5 : Nat) (Value.int IntKind.i64 n_7) ∧
 at1 h_3 (Array.size h) (6 : Nat) (Value.int IntKind.i64 n_8) ∧
 at1 h_3 (Array.size h) (7 : Nat) (Value.int IntKind.i64 n_9) ∧
 at1 h_3 (Array.size h) (8 : Nat) (Value.int IntKind.i64 n_10) ∧
 at1 h_3 (Array.size h) (9 : Nat) (Value.int IntKind.i64 n_11) ∧
 at1 h_3 (Array.size h) (10 : Nat) (Value.int IntKind.i64 n_12) ∧
 at1 h_3 (Array.size h) (11 : Nat) (Value.int IntKind.i64 n_13)) ∧
 ∃ (n_14 : Int),
 at1 h_3 (Array.size h_1) (1 : Nat) (Value.int IntKind.i64 n_14) ∧
 ∃ (s_1 : Sl),
 at1 h_3 (Array.size h_1) (36 : Nat) (slVal s_1) ∧
 CallsH Try.prog (35 : Nat)
 (TVs.vals
 [TV.agg
 [TV.slice s, TV.int IntKind.i64 n, TV.int IntKind.i64 n_4, TV.int IntKind.i64 n_5,
 TV.int IntKind.i64 n_6, TV.int IntKind.i64 n_7, TV.int IntKind.i64 n_8,
 TV.int IntKind.i64 n_9, TV.int IntKind.i64 n_10, TV.int IntKind.i64 n_11,
 TV.int IntKind.i64 n_12, TV.int IntKind.i64 n_13],
 TV.int IntKind.i64 n_14, TV.slice s_1])
 h_3 fun (v : Value) (h : Array Obj) ↦
 ∃ (s : Sl),
 ∃ (b : Bool),
 v = TV.val (TV.tup [TV.slice s, TV.bool b]) ∧
 R (TV.val (TV.tup [TV.slice s, TV.bool b])) h)
 (∃ (s : Sl),
 ∃ (n : Int),
 ∃ (n_4 : Int),
 ∃ (n_5 : Int),
 ∃ (n_6 : Int),
 ∃ (n_7 : Int),
 ∃ (n_8 : Int),
 ∃ (n_9 : Int),
 ∃ (n_10 : Int),
 ∃ (n_11 : Int),
 ∃ (n_12 : Int),
 ∃ (n_13 : Int),
 (at1 h_3 (Array.size h) (0 : Nat) (slVal s) ∧
 at1 h_3 (Array.size h) (1 : Nat) (Value.int IntKind.i64 n) ∧
 at1 h_3 (Array.size h) (2 : Nat) (Value.int IntKind.i64 n_4) ∧
 at1 h_3 (Array.size h) (3 : Nat) (Value.int IntKind.i64 n_5) ∧
 at1 h_3 (Array.size h) (4 : Nat) (Value.int IntKind.i64 n_6) ∧
 at1 h_3 (Array.size h) (5 : Nat) (Value.int IntKind.i64 n_7) ∧
 at1 h_3 (Array.size h) (6 : Nat) (Value.int IntKind.i64 n_8) ∧
 at1 h_3 (Array.size h) (7 : Nat) (Value.int IntKind.i64 n_9) ∧
 at1 h_3 (Array.size h) (8 : Nat) (Value.int IntKind.i64 n_10) ∧
 at1 h_3 (Array.size h) (9 : Nat) (Value.int IntKind.i64 n_11) ∧
 at1 h_3 (Array.size h) (10 : Nat) (Value.int IntKind.i64 n_12) ∧
 at1 h_3 (Array.size h) (11 : Nat) (Value.int IntKind.i64 n_13)) ∧
 ∃ (n_14 : Int),
 at1 h_3 (Array.size h_1) (1 : Nat) (Value.int IntKind.i64 n_14) ∧
 ∃ (n_15 : Int),
 at1 h_3 (Array.size h_1) (34 : Nat) (Value.int IntKind.i64 n_15) ∧
 CallsH Try.prog (36 : Nat)
 (TVs.vals
 [TV.agg
 [TV.slice s, TV.int IntKind.i64 n, TV.int IntKind.i64 n_4, TV.int IntKind.i64 n_5,
 TV.int IntKind.i64 n_6, TV.int IntKind.i64 n_7, TV.int IntKind.i64 n_8,
 TV.int IntKind.i64 n_9, TV.int IntKind.i64 n_10, TV.int IntKind.i64 n_11,
 TV.int IntKind.i64 n_12, TV.int IntKind.i64 n_13],
 TV.int IntKind.i64 n_14, TV.int IntKind.i64 n_15])
 h_3 fun (v : Value) (h : Array Obj) ↦
 ∃ (n : Int),
 v = TV.val (TV.int IntKind.i64 n) ∧
 If (decide (n < (0 : Int))) (R (TV.val (TV.tup [TV.slice Sl.nil, TV.bool false])) h)
 (∃ (n_16 : Int),
 at1 h (Array.size h_1) (0 : Nat) (Value.int IntKind.i64 n_16) ∧
 If (decide (n_16 = (1 : Int)))
 (If (decide ((0 : Int) < n))
 (R (TV.val (TV.tup [TV.slice Sl.nil, TV.bool false])) h)
 (∃ (n : Int),
 at1 h (Array.size h_1) (34 : Nat) (Value.int IntKind.i64 n) ∧
 R
 (TV.val
 (TV.tup
 [TV.slice
 (Sl.mk (some (Loc.mk (Array.size h) (0 : Nat))) (1 : Nat)
 (1 : Nat)),
 TV.bool true]))
 (Array.push h (row (TVs.cells [TV.int IntKind.i64 n]) (3 : Nat)))))
 (∃ (n : Int),
 at1 h (Array.size h_1) (34 : Nat) (Value.int IntKind.i64 n) ∧
 R
 (TV.val
 (TV.tup
 [TV.slice
 (Sl.mk (some (Loc.mk (Array.size h) (0 : Nat))) (1 : Nat)
 (1 : Nat)),
 TV.bool true]))
 (Array.push h (row (TVs.cells [TV.int IntKind.i64 n]) (3 : Nat)))))))

theorem tollerref08_Speakers_calls (c_Validators : Sl) (c_Epoch : Int) (c_Committee : Int) (c_Nodes : Int) (c_Orphans : Int) (c_Early : Int) (c_Quota : Int) (c_Peers : Int) (c_Bytes : Int) (c_Window : Int) (c_Ban : Int) (c_Decay : Int) (m_Kind : Int) (m_Slot : Int) (m_Target : Bs (32 : Nat)) (m_Member : Int) (m_Body : Int) (m_Bits : Sl) (m_Tag : Bs (16 : Nat)) (h : Heap) (R : Value → Heap → Prop) (H : tollerref08_Speakers_vc c_Validators c_Epoch c_Committee c_Nodes c_Orphans c_Early c_Quota c_Peers c_Bytes c_Window c_Ban c_Decay m_Kind m_Slot m_Target m_Member m_Body m_Bits m_Tag h R) : CallsH Try.prog 18 (TVs.vals [TV.agg [TV.slice c_Validators, TV.int IntKind.i64 c_Epoch, TV.int IntKind.i64 c_Committee, TV.int IntKind.i64 c_Nodes, TV.int IntKind.i64 c_Orphans, TV.int IntKind.i64 c_Early, TV.int IntKind.i64 c_Quota, TV.int IntKind.i64 c_Peers, TV.int IntKind.i64 c_Bytes, TV.int IntKind.i64 c_Window, TV.int IntKind.i64 c_Ban, TV.int IntKind.i64 c_Decay], TV.agg [TV.int IntKind.i64 m_Kind, TV.int IntKind.i64 m_Slot, TV.bytes (32 : Nat) m_Target, TV.int IntKind.i64 m_Member, TV.int IntKind.u64 m_Body, TV.slice m_Bits, TV.bytes (16 : Nat) m_Tag]]) h R :=
 vcFn_sound (C := ctx) ctx_ok (fn := Try.f18) Try.func18 ((by kernel_rfl : tollerref08_Speakers_vc c_Validators c_Epoch c_Committee c_Nodes c_Orphans c_Early c_Quota c_Peers c_Bytes c_Window c_Ban c_Decay m_Kind m_Slot m_Target m_Member m_Body m_Bits m_Tag h R = vcFn ctx Try.f18 [TV.agg [TV.slice c_Validators, TV.int IntKind.i64 c_Epoch, TV.int IntKind.i64 c_Committee, TV.int IntKind.i64 c_Nodes, TV.int IntKind.i64 c_Orphans, TV.int IntKind.i64 c_Early, TV.int IntKind.i64 c_Quota, TV.int IntKind.i64 c_Peers, TV.int IntKind.i64 c_Bytes, TV.int IntKind.i64 c_Window, TV.int IntKind.i64 c_Ban, TV.int IntKind.i64 c_Decay], TV.agg [TV.int IntKind.i64 m_Kind, TV.int IntKind.i64 m_Slot, TV.bytes (32 : Nat) m_Target, TV.int IntKind.i64 m_Member, TV.int IntKind.u64 m_Body, TV.slice m_Bits, TV.bytes (16 : Nat) m_Tag]] h R) ▸ H)


end Go.Proofs.Ytgdhddignbkloaa
end

section
/- The document's messages: the same bytes, the same speakers, the same tags. -/
namespace Go.Proofs.Ytgdhddignbkloaa.Board
open Go Go.Vc
section
variable {R : Value → Heap → Prop} {h : Heap}

/-! ### Rows of bits -/

theorem or_add : ∀ k : Fin 8, ∀ c : Fin 256, c.val < 2 ^ k.val →
    IntKind.wrap .u8 ((BitVec.ofInt (IntKind.bits .u8) ((c.val : Nat) : Int) ||| BitVec.ofInt (IntKind.bits .u8) (IntKind.wrap .u8 (1 * 2 ^ min (Int.toNat ((k.val : Nat) : Int)) (IntKind.bits .u8)))).toNat : Int) = ((c.val + 2 ^ k.val : Nat) : Int) := by decide +kernel

theorem tmod8 (i : Nat) : Int.tmod (i : Int) 8 = ((i % 8 : Nat) : Int) := by
  rw [Int.tmod_eq_emod_of_nonneg (by omega)]
  rfl

theorem orv_add {c i : Nat} (hc : c < 2 ^ (i % 8)) : orv (c : Int) (i : Int) = ((c + 2 ^ (i % 8) : Nat) : Int) := by
  unfold orv
  rw [tmod8]
  have h8 : i % 8 < 8 := Nat.mod_lt _ (by decide)
  have h2 : 2 ^ (i % 8) ≤ 2 ^ 7 := Nat.pow_le_pow_right (by decide) (by omega)
  exact or_add ⟨i % 8, h8⟩ ⟨c, by omega⟩ hc

def bn (l : List UInt8) (j : Nat) : Nat := (l.getD j 0).toNat
theorem by8_bn (l : List UInt8) (j : Nat) : by8 l j = (bn l j : Int) := rfl

theorem bn_set {l : List UInt8} {i j : Nat} {x : UInt8} (hi : i < l.length) : bn (l.set i x) j = if i = j then x.toNat else bn l j := by
  unfold bn
  rw [List.getD_eq_getElem?_getD, List.getElem?_set]
  by_cases h1 : i = j
  · subst h1
    rw [if_pos rfl, if_pos rfl, if_pos hi]
    rfl
  · rw [if_neg h1, if_neg h1, ← List.getD_eq_getElem?_getD]

/-- Behind what is taken in all is 0; the byte at hand is small. -/
theorem bitG_small (row : List Bool) : ∀ (i : Nat), i ≤ row.length → ∀ j, bn (bitG row i) j < 2 ^ (i - 8 * j)
  | 0, _, j => by
    have : bn (bitG row 0) j = 0 := by
      unfold bn bitG
      rw [List.getD_eq_getElem?_getD, List.getElem?_replicate]
      split <;> rfl
    rw [this]
    exact Nat.two_pow_pos _
  | i + 1, hi, j => by
    have ih := bitG_small row i (by omega)
    have mono : 2 ^ (i - 8 * j) ≤ 2 ^ (i + 1 - 8 * j) := Nat.pow_le_pow_right (by decide) (by omega)
    unfold bitG
    split
    · have hq : i / 8 < (bitG row i).length := by rw [bitG_length]; omega
      unfold bitS
      rw [bn_set hq]
      split
      · rename_i hj
        have h1 := ih (i / 8)
        have e1 : i - 8 * (i / 8) = i % 8 := by omega
        rw [e1] at h1
        rw [by8_bn, orv_add h1, Int.toNat_natCast, UInt8.toNat_ofNat']
        have h2 : 2 ^ (i % 8) ≤ 2 ^ 7 := Nat.pow_le_pow_right (by decide) (by omega)
        have e2 : i + 1 - 8 * j = i % 8 + 1 := by omega
        rw [e2, Nat.pow_succ]
        rw [Nat.mod_eq_of_lt (by omega)]
        omega
      · exact Nat.lt_of_lt_of_le (ih j) mono
    · exact Nat.lt_of_lt_of_le (ih j) mono

/-- What the document has behind so many places. -/
def dG (row : List Bool) (i : Nat) : List UInt8 := (bitG row i).take ((i + 7) / 8)

theorem dG_length {row : List Bool} {i : Nat} (hi : i ≤ row.length + 1) : (dG row i).length = (i + 7) / 8 := by
  unfold dG
  rw [List.length_take, bitG_length]
  omega

/-- One place on, without a bit. -/
theorem dG_open {row : List Bool} {i : Nat} (hi : i ≤ row.length) : (bitG row i).take ((i + 8) / 8) = if i % 8 = 0 then dG row i ++ [0] else dG row i := by
  unfold dG
  split
  · rename_i h8
    have e1 : (i + 8) / 8 = i / 8 + 1 := by omega
    have e2 : (i + 7) / 8 = i / 8 := by omega
    have hq : i / 8 < (bitG row i).length := by rw [bitG_length]; omega
    have hs := bitG_small row i hi (i / 8)
    rw [show i - 8 * (i / 8) = 0 by omega] at hs
    rw [e1, e2, List.take_add_one, List.getElem?_eq_getElem hq]
    have h0 : bn (bitG row i) (i / 8) = 0 := by omega
    unfold bn at h0
    rw [List.getD_eq_getElem?_getD, List.getElem?_eq_getElem hq] at h0
    have : (bitG row i)[i / 8] = 0 := UInt8.toNat_inj.1 h0
    rw [this]
    rfl
  · rename_i h8
    have e1 : (i + 8) / 8 = (i + 7) / 8 := by omega
    rw [e1]

theorem b4 : (ctx.ti 4).bytes = 1 := by kernel_rfl
theorem sz4 : (ctx.ti 4).size = 1 := by kernel_rfl
theorem zz4 : (ctx.ti 4).z.size = 1 := by kernel_rfl

/-- What the document has behind so many places, the last bit with it. -/
def cG (row : List Bool) (i : Nat) : List UInt8 := if i ≤ row.length then dG row i else bitF row

theorem by8_take {l : List UInt8} {m j : Nat} (h : j < m) : by8 (l.take m) j = by8 l j := by
  unfold by8
  rw [List.getD_eq_getElem?_getD, List.getD_eq_getElem?_getD, List.getElem?_take, if_pos h]

theorem cG_no {row : List Bool} {i : Nat} (hi : i ≤ row.length) (hx : (row ++ [true])[i]? = some false) : cG row (i + 1) = (bitG row i).take ((i + 8) / 8) := by
  have hlt : i < row.length := by
    apply Classical.byContradiction
    intro hn
    have : i = row.length := by omega
    subst this
    simp at hx
  rw [List.getElem?_append_left hlt] at hx
  unfold cG dG
  rw [if_pos (by omega)]
  have hg : bitG row (i + 1) = bitG row i := by
    rw [bitG, if_neg]
    rw [List.getD_eq_getElem?_getD, hx]
    decide
  rw [hg]

theorem cG_yes {row : List Bool} {i : Nat} (hi : i ≤ row.length) (hx : (row ++ [true])[i]? = some true) : cG row (i + 1) = ((bitG row i).take ((i + 8) / 8)).set (i / 8) (UInt8.ofNat (bn (bitG row i) (i / 8) + 2 ^ (i % 8))) := by
  have hs := bitG_small row i hi (i / 8)
  rw [show i - 8 * (i / 8) = i % 8 by omega] at hs
  have hb : (bitS (bitG row i) i).take ((i + 8) / 8) = ((bitG row i).take ((i + 8) / 8)).set (i / 8) (UInt8.ofNat (bn (bitG row i) (i / 8) + 2 ^ (i % 8))) := by
    unfold bitS
    rw [by8_bn, orv_add hs, Int.toNat_natCast, List.take_set]
  by_cases hlt : i < row.length
  · rw [List.getElem?_append_left hlt] at hx
    unfold cG dG
    rw [if_pos (by omega)]
    have hg : bitG row (i + 1) = bitS (bitG row i) i := by
      rw [bitG, if_pos]
      rw [List.getD_eq_getElem?_getD, hx]
      rfl
    rw [hg]
    exact hb
  · have hin : i = row.length := by omega
    subst hin
    unfold cG
    rw [if_neg (by omega), ← hb]
    unfold bitF
    rw [List.take_of_length_le]
    simp [bitS, bitG_length]

set_option maxRecDepth 100000 in
theorem bytesof_spec {s : Sl} {row : List Bool} (e : Elems 1 h s (bools row)) (hl : row.length < 500) (hr : ∀ h', Ext h h' → R (TV.str (bitF row)).val h') : CallsH Try.prog 55 (TVs.vals [.slice s]) h R := by
  apply tollerref02_Bytes_calls
  unfold tollerref02_Bytes_vc
  have el : row.length = s.len := by have := e.len; rwa [List.length_map] at this
  have xp := Ext.push h (Vc.row (TVs.cells []) 4)
  refine appendN (C := ctx) (T := 4) (sz := 1) sz4 zz4 (by rw [b4]; decide) (by decide) (by rw [b4]; show (0 + s.len) * 1 ≤ _; omega) (Own.new (T := 4) (sz := 1) h [] (fun t ht => by cases ht)) (e.ext xp) (fun u hu => by obtain ⟨b, _, rfl⟩ := List.mem_map.1 hu; rfl) (fun u hu => by obtain ⟨b, _, rfl⟩ := List.mem_map.1 hu; rfl) fun s1 h1 o1 hl1 f1 b1 => ?_
  have x01 : Ext h h1 := Only.cut xp f1 fun i ⟨l, hl, hi⟩ => by
    obtain rfl := Option.some.inj hl
    rw [← hi]
    exact Nat.le_refl _
  have l1 : s1.len = row.length := by have := o1.len; rw [List.nil_append, List.length_map] at this; exact this.symm
  refine append1 (C := ctx) (T := 4) (sz := 1) (x := .bool true) sz4 zz4 (by rw [b4]; decide) (by rw [b4]; omega) o1 rfl rfl fun s2 h2 o2 f2 b2 => ?_
  have x02 : Ext h h2 := Only.cut x01 f2 fun i ⟨l, hl, hi⟩ => by
    rcases b1 l hl with ⟨l', hl', hi'⟩ | hi'
    · obtain rfl := Option.some.inj hl'
      rw [← hi, ← hi']
      exact Nat.le_refl _
    · rw [Array.size_push] at hi'
      omega
  have e2 : Elems 1 h2 s2 (bools (row ++ [true])) := by
    have := o2.elems
    simpa [bools] using this
  have l2 : s2.len = row.length + 1 := by have := e2.len; rw [List.length_map, List.length_append] at this; exact this.symm
  refine ⟨fun σ hh => 0 ≤ σ.2 ∧ σ.2 ≤ s2.len ∧ Row (fun b => h2.size ≤ b) hh σ.1 (cG row σ.2.toNat) ∧ Ext h2 hh, fun σ _ => ((s2.len : Int) - σ.2).toNat,
    ⟨Int.le_refl 0, by first | omega | (dsimp only; omega), ⟨Own.nil _ _ _, (fun l hl => by cases hl), fun i hi => hi⟩, Ext.refl _⟩, ?_⟩
  rintro ⟨out, i⟩ h3 ⟨i0, i1, r3, x3⟩
  dsimp only at i0 i1 r3 x3 ⊢
  refine If.dec.2 ⟨fun hi => ?_, fun hi => ?_⟩
  · refine read_bool (e2.ext x3) i0 (by rw [List.length_append, List.length_singleton]; omega) fun x hx => ?_
    have hin : i.toNat ≤ row.length := by omega
    have hcd : cG row i.toNat = dG row i.toNat := if_pos hin
    rw [hcd] at r3
    have hdl := dG_length (row := row) (i := i.toNat) (by omega)
    have htm : Int.tmod i 8 = ((i.toNat % 8 : Nat) : Int) := by
      have := tmod8 i.toNat
      rwa [show ((i.toNat : Nat) : Int) = i by omega] at this
    rw [wrap_i64 (n := i + 1) (by omega) (by omega)]
    have hi1 : (i + 1).toNat = i.toNat + 1 := by omega
    intro J HJ
    have step : ∀ (o : Sl) (h4 : Heap), Row (fun b => h2.size ≤ b) h4 o ((bitG row i.toNat).take ((i.toNat + 8) / 8)) → Ext h2 h4 → J o h4 := by
      intro o h4 r4 x4
      refine HJ o h4 ?_
      have hTl : ((bitG row i.toNat).take ((i.toNat + 8) / 8)).length = i.toNat / 8 + 1 := by rw [List.length_take, bitG_length]; omega
      have hol := r4.len
      rw [hTl] at hol
      cases x with
      | false =>
        refine If.no ⟨⟨by first | omega | (dsimp only; omega), by first | omega | (dsimp only; omega), ?_, x4⟩, by first | omega | (dsimp only; omega)⟩
        try dsimp only
        rw [hi1, cG_no hin hx]
        exact r4
      | true =>
        refine If.yes ?_
        refine ⟨fun σ hh => 0 ≤ σ.2 ∧ σ.2 ≤ Int.tmod i 8 ∧ h4 = hh ∧ σ.1 = ((2 ^ σ.2.toNat : Nat) : Int), fun σ _ => (Int.tmod i 8 - σ.2).toNat, ⟨Int.le_refl 0, by rw [htm]; exact Int.natCast_nonneg _, rfl, rfl⟩, ?_⟩
        rintro ⟨u, k⟩ hh ⟨k0, k1, rfl, hu⟩
        dsimp only at k0 k1 hu ⊢
        refine ⟨by decide, ?_⟩
        rw [htm] at k1 ⊢
        have hm8 : i.toNat % 8 < 8 := Nat.mod_lt _ (by decide)
        have hpow : 2 ^ k.toNat ≤ 2 ^ 7 := Nat.pow_le_pow_right (by decide) (by omega)
        obtain ⟨P, hP⟩ : ∃ P, P = 2 ^ k.toNat := ⟨_, rfl⟩
        rw [← hP] at hu hpow
        refine If.dec.2 ⟨fun hk => ?_, fun hk => ?_⟩
        · rw [wrap_i64 (n := 2 * u) (by omega) (by omega), wrap_i64 (n := k + 1) (by omega) (by omega)]
          refine ⟨⟨by omega, by omega, rfl, ?_⟩, by first | omega | (dsimp only; omega)⟩
          rw [hu, show (k + 1).toNat = k.toNat + 1 by omega, Nat.pow_succ, ← hP]
          omega
        · have hkk : k.toNat = i.toNat % 8 := by omega
          rw [hkk] at hP
          rw [wrap_i64 (n := (o.len : Int) - 1) (by omega) (by omega)]
          have hat : Int.toNat ((o.len : Int) - 1) = i.toNat / 8 := by omega
          have hsm := bitG_small row i.toNat hin (i.toNat / 8)
          rw [show i.toNat - 8 * (i.toNat / 8) = i.toNat % 8 by omega] at hsm
          refine byte_in (bs := (bitG row i.toNat).take ((i.toNat + 8) / 8)) r4.own.elems (by omega) (by rw [hTl]; omega) ?_
          rw [hat, by8_take (by omega), by8_bn]
          have hval : IntKind.wrap .u8 ((bn (bitG row i.toNat) (i.toNat / 8) : Int) + IntKind.wrap .u8 u) = ((bn (bitG row i.toNat) (i.toNat / 8) + 2 ^ (i.toNat % 8) : Nat) : Int) := by
            rw [hu, wrap_u8, wrap_u8, ← hP]
            rw [← hP] at hsm
            omega
          rw [hval, show i.toNat / 8 = ((o.len : Int) - 1).toNat from hat.symm]
          refine r4.set (i := (o.len : Int) - 1) (by omega) (by rw [hTl]; omega) (by omega) (by rw [hat]; omega) fun h5 r5 f5 => ?_
          refine ⟨⟨by first | omega | (dsimp only; omega), by first | omega | (dsimp only; omega), ?_, Only.cut x4 f5 fun j hj => hj⟩, by first | omega | (dsimp only; omega)⟩
          try dsimp only
          rw [hi1, cG_yes hin hx]
          rw [hat, Int.toNat_natCast] at r5
          exact r5
    clear HJ
    refine ⟨by decide, ?_⟩
    rw [htm]
    have hopen := dG_open (row := row) (i := i.toNat) hin
    refine If.dec.2 ⟨fun h8 => ?_, fun h8 => ?_⟩
    · rw [if_pos (by omega)] at hopen
      refine app_byte r3 (by omega) (by decide) (by decide) fun s4 h4 r4 f4 b4 => ?_
      refine step s4 h4 ?_ (Only.cut x3 (r3.cut f4) fun j hj => hj)
      rw [hopen]
      exact r4
    · rw [if_neg (by omega)] at hopen
      refine step out h3 ?_ x3
      rw [hopen]
      exact r3
  · have hin : i.toNat = row.length + 1 := by omega
    rw [hin] at r3
    have hc : cG row (row.length + 1) = bitF row := if_neg (by omega)
    rw [hc] at r3
    exact ⟨_, r3.str, hr h3 (x02.trans x3)⟩

/-! ### Whether a message can be -/

def yes : List Bool → Nat
  | [] => 0
  | b :: l => (if b = true then 1 else 0) + yes l

theorem yes_snoc : ∀ (l : List Bool) (b : Bool), yes (l ++ [b]) = yes l + if b = true then 1 else 0
  | [], b => by simp [yes]
  | a :: l, b => by rw [List.cons_append, yes, yes, yes_snoc l b]; omega

theorem yes_le : ∀ l : List Bool, yes l ≤ l.length
  | [] => Nat.le_refl _
  | b :: l => by have := yes_le l; rw [yes, List.length_cons]; split <;> omega

theorem yes_pos : ∀ l : List Bool, decide (0 < ((yes l : Nat) : Int)) = l.contains true
  | [] => by simp [yes]
  | b :: l => by
    have ih := yes_pos l
    rw [yes]
    cases b with
    | true => simp; omega
    | false => simp at ih ⊢; exact ih

theorem docgood_spec {m : Ms} {row : List Bool} (e : Elems 1 h m.bits (bools row)) (hl : row.length < 100000) (hr : ∀ h', Ext h h' → R (TV.bool (goodF m row)).val h') : CallsH Try.prog 34 (TVs.vals [m.tv]) h R := by
  apply tollerref07_Good_calls m.kind m.slot m.target m.member m.body m.bits m.tag
  unfold tollerref07_Good_vc
  have el : row.length = m.bits.len := by have := e.len; rwa [List.length_map] at this
  refine newTV_in fun h1 v1 x1 s1 => ?_
  have at0 := v1.at (t := m.tv)
  obtain ⟨a0, a1, a2, a3, a4, a5, a6⟩ := at0
  have hr1 := hr h1 x1
  intro J HJ
  have fin : ∀ b, 1 ≤ m.kind → m.kind ≤ 3 → m.slot ≥ 0 → m.slot ≤ 1073741824 → m.member ≥ 0 → m.member ≤ 65535 → J b h1 := by
    intro b k1 k2 g1 g2 g3 g4
    refine HJ b h1 ⟨m.bits, a5, ?_⟩
    refine ⟨fun σ hh => 0 ≤ σ.2 ∧ σ.2 ≤ m.bits.len ∧ hh = h1 ∧ σ.1 = ((yes (row.take σ.2.toNat) : Nat) : Int), fun σ _ => ((m.bits.len : Int) - σ.2).toNat, ⟨Int.le_refl 0, by first | omega | (dsimp only; omega), rfl, by simp [yes]⟩, ?_⟩
    rintro ⟨y, i⟩ hh ⟨i0, i1, rfl, hy⟩
    dsimp only at i0 i1 hy ⊢
    refine If.dec.2 ⟨fun hi => ?_, fun hi => ?_⟩
    · refine read_bool (e.ext x1) i0 (by omega) fun x hx => ?_
      have hys := yes_snoc (row.take i.toNat) x
      rw [← take_snoc hx] at hys
      have hyl := yes_le (row.take i.toNat)
      rw [List.length_take] at hyl
      rw [wrap_i64 (n := i + 1) (by omega) (by omega)]
      have hi1 : (i + 1).toNat = i.toNat + 1 := by omega
      cases x with
      | true =>
        rw [wrap_i64 (n := y + 1) (by omega) (by omega)]
        refine If.yes ⟨⟨by first | omega | (dsimp only; omega), by first | omega | (dsimp only; omega), rfl, ?_⟩, by first | omega | (dsimp only; omega)⟩
        try dsimp only
        rw [hi1, hys, if_pos rfl]
        omega
      | false =>
        refine If.no ⟨⟨by first | omega | (dsimp only; omega), by first | omega | (dsimp only; omega), rfl, ?_⟩, by first | omega | (dsimp only; omega)⟩
        try dsimp only
        rw [hi1, hys, if_neg (by decide)]
        omega
    · have hall : row.take i.toNat = row := List.take_of_length_le (by omega)
      rw [hall] at hy
      subst hy
      have hpos := yes_pos row
      have hpre : ∀ b5 : Bool, (!(decide (m.slot < 0) || decide (1073741824 < m.slot) || decide (m.member < 0) || decide (65535 < m.member) || b5)) = !b5 := by
        intro b5
        rw [decide_eq_false (show ¬ m.slot < 0 by omega), decide_eq_false (show ¬ 1073741824 < m.slot by omega), decide_eq_false (show ¬ m.member < 0 by omega), decide_eq_false (show ¬ 65535 < m.member by omega)]
        rfl
      unfold goodF at hr1
      rw [hpre] at hr1
      refine ⟨_, a0, If.dec.2 ⟨fun k3 => ?_, fun k3 => ?_⟩⟩
      · rw [if_pos k3, decide_eq_false (show ¬ m.kind = 1 by omega), ← hpos] at hr1
        refine ⟨_, a3, If.dec.2 ⟨fun g => ⟨_, a4, If.dec.2 ⟨fun g' => ⟨_, a5, If.dec.2 ⟨fun g'' => ?_, fun g'' => ?_⟩⟩, fun g' => ?_⟩⟩, fun g => ?_⟩⟩
        · rw [decide_eq_true g, decide_eq_true g', decide_eq_true (show row.length ≤ 16 by omega)] at hr1
          simpa using hr1
        · rw [decide_eq_true g, decide_eq_true g', decide_eq_false (show ¬ row.length ≤ 16 by omega)] at hr1
          simpa using hr1
        · rw [decide_eq_false g'] at hr1
          simpa using hr1
        · rw [decide_eq_false g] at hr1
          simpa using hr1
      · rw [if_neg k3] at hr1
        refine ⟨_, a5, If.dec.2 ⟨fun g => ⟨_, a0, If.dec.2 ⟨fun g' => ?_, fun g' => ⟨_, a4, ?_⟩⟩⟩, fun g => ?_⟩⟩
        · rw [decide_eq_true g', decide_eq_true (show row.length = 0 by omega)] at hr1
          simpa using hr1
        · rw [decide_eq_false g', decide_eq_true (show row.length = 0 by omega), decide_eq_true (show m.kind = 2 by omega)] at hr1
          simpa using hr1
        · rw [decide_eq_false (show ¬ row.length = 0 by omega)] at hr1
          simpa using hr1
  have bad : (m.kind < 1 ∨ 3 < m.kind ∨ m.slot < 0 ∨ 1073741824 < m.slot ∨ m.member < 0 ∨ 65535 < m.member) → R (TV.bool false).val h1 := by
    intro hb
    have : goodF m row = false := by
      unfold goodF
      rcases hb with hb | hb | hb | hb | hb | hb
      · rw [if_neg (by omega), decide_eq_false (show ¬ m.kind = 1 by omega), decide_eq_false (show ¬ m.kind = 2 by omega)]; simp
      · rw [if_neg (by omega), decide_eq_false (show ¬ m.kind = 1 by omega), decide_eq_false (show ¬ m.kind = 2 by omega)]; simp
      · simp [hb]
      · simp [hb]
      · simp [hb]
      · simp [hb]
    rw [this] at hr1
    exact hr1
  clear HJ
  exact ⟨_, a0, If.dec.2 ⟨fun g => bad (.inl g), fun g1 => ⟨_, a0, If.dec.2 ⟨fun g => bad (.inr (.inl g)), fun g2 => ⟨_, a1, If.dec.2 ⟨fun g => bad (.inr (.inr (.inl g))), fun g3 => ⟨_, a1, If.dec.2 ⟨fun g => bad (.inr (.inr (.inr (.inl g)))), fun g4 => ⟨_, a3, If.dec.2 ⟨fun g => bad (.inr (.inr (.inr (.inr (.inl g))))), fun g5 => ⟨_, a3, If.dec.2 ⟨fun g => bad (.inr (.inr (.inr (.inr (.inr g))))), fun g6 => fin _ (by omega) (by omega) (by omega) (by omega) (by omega) (by omega)⟩⟩⟩⟩⟩⟩⟩⟩⟩⟩⟩⟩

/-! ### Who speaks -/

theorem idx_first : ∀ (l : List Int) (x : Int), (idx l x 0 = 0 ↔ ∃ k, l = x :: k)
  | [], x => by simp [idx]
  | y :: l, x => by
    unfold idx
    constructor
    · intro hx
      split at hx
      · rename_i he; exact ⟨l, by rw [he]⟩
      · exfalso
        have : ∀ (l : List Int) (k : Int), 1 ≤ k → idx l x k ≠ 0 := by
          intro l
          induction l with
          | nil => intro k _; simp [idx]
          | cons z l ih =>
            intro k hk
            unfold idx
            split
            · omega
            · exact ih (k + 1) (by omega)
        exact this l 1 (by omega) hx
    · rintro ⟨k, hk⟩
      injection hk with h1 h2
      rw [if_pos h1.symm]

/-- The document's way to say who speaks. -/
theorem speak_doc {n : Nat} {com : Int} {m : Ms} {row : List Bool} (hg : goodF m row = true) (hk : m.kind ≠ 3) :
    speakF n com m row = if idx (mem n com m.slot) m.member 0 < 0 then ([], false) else if m.kind = 1 ∧ 0 < idx (mem n com m.slot) m.member 0 then ([], false) else ([m.member], true) := by
  unfold speakF
  rw [if_neg (by rw [hg]; decide), if_neg hk]
  have hm : 0 ≤ m.member := by
    unfold goodF at hg
    simp only [Bool.and_eq_true, Bool.not_eq_true', Bool.or_eq_false_iff, decide_eq_false_iff_not] at hg
    obtain ⟨⟨⟨⟨_, h1⟩, _⟩, _⟩, _⟩ := hg
    omega
  generalize mem n com m.slot = l
  have hf : firstOf l = m.member ↔ idx l m.member 0 = 0 := by
    rw [idx_first]
    constructor
    · intro h
      cases l with
      | nil =>
        have h' : (-1 : Int) = m.member := h
        omega
      | cons x l =>
        have h' : x = m.member := h
        exact ⟨l, by rw [h']⟩
    · rintro ⟨k, rfl⟩; rfl
  by_cases h1 : m.kind = 1
  · by_cases h2 : idx l m.member 0 < 0
    · have hA : m.kind = 1 ∧ firstOf l ≠ m.member := ⟨h1, fun h => by rw [hf] at h; omega⟩
      rw [if_pos hA, if_pos h2]
    · by_cases h3 : 0 < idx l m.member 0
      · have hA : m.kind = 1 ∧ firstOf l ≠ m.member := ⟨h1, fun h => by rw [hf] at h; omega⟩
        have hB : m.kind = 1 ∧ 0 < idx l m.member 0 := ⟨h1, h3⟩
        rw [if_pos hA, if_neg h2, if_pos hB]
      · have hA : ¬ (m.kind = 1 ∧ firstOf l ≠ m.member) := fun h => h.2 (hf.2 (by omega))
        have hB : ¬ (m.kind = 1 ∧ 0 < idx l m.member 0) := fun h => h3 h.2
        rw [if_neg hA, if_neg h2, if_neg h2, if_neg hB]
  · have hA : ¬ (m.kind = 1 ∧ firstOf l ≠ m.member) := fun h => h1 h.1
    have hB : ¬ (m.kind = 1 ∧ 0 < idx l m.member 0) := fun h => h1 h.1
    rw [if_neg hA]
    by_cases h2 : idx l m.member 0 < 0
    · rw [if_pos h2, if_pos h2]
    · rw [if_neg h2, if_neg h2, if_neg hB]

theorem docspeak_spec {c : Cf} {m : Ms} {row : List Bool} (f : Fine c) (e : Elems 1 h m.bits (bools row)) (hl : row.length < 100000)
    (hr : ∀ h' s', Elems 1 h' s' (ints (speakF c.vals.len c.com m row).1) → Ext h h' → (∀ l, s'.a = some l → h.size ≤ l.b) → R (TV.tup [.slice s', .bool (speakF c.vals.len c.com m row).2]).val h') : CallsH Try.prog 18 (TVs.vals [c.tv, m.tv]) h R := by
  apply tollerref08_Speakers_calls c.vals c.ep c.com c.no c.orp c.ear c.quo c.pe c.by_ c.win c.ban c.dec m.kind m.slot m.target m.member m.body m.bits m.tag
  unfold tollerref08_Speakers_vc
  refine newTV_in fun h1 v1 x1 s1 => newTV_in fun h2 v2 x2 s2 => ?_
  have v1 : Var 24 h2 h.size c.tv := Var.ext (t := c.tv) v1 x2
  have v2 : Var 32 h2 h1.size m.tv := v2
  have x02 := x1.trans x2
  refine ms_at v2 (docgood_spec (e.ext x02) hl fun h3 x3 => ⟨_, rfl, ?_⟩)
  have x03 := x02.trans x3
  have w1 := v1.ext x3
  have w2 := v2.ext x3
  have at2 := w2.at
  obtain ⟨a0, a1, a2, a3, a4, a5, a6⟩ := at2
  have bad : ∀ h', Ext h h' → speakF c.vals.len c.com m row = ([], false) → R (TV.tup [.slice Sl.nil, .bool false]).val h' := fun h' x hs => by
    have := hr h' Sl.nil (by rw [hs]; exact nil_ints h') x (fun l hl => by cases hl)
    rw [hs] at this
    exact this
  refine If.split (fun hg => bad h3 x03 ?_) fun hg => ⟨_, a0, If.dec.2 ⟨fun k3 => ?_, fun k3 => ?_⟩⟩
  · unfold speakF
    rw [if_pos (by simpa using hg)]
  · have hg : ¬ goodF m row = false := by simpa using hg
    refine cf_at w1 ⟨_, a1, _, a5, ?_⟩
    refine docpick_spec (c := c) f (e.ext x03) (fun h4 x4 hn => ⟨_, _, rfl, bad h4 (x03.trans x4) ?_⟩) fun h4 s4 o4 x4 l4 hy1 hy2 => ⟨_, _, rfl, ?_⟩
    · unfold speakF
      rw [if_neg hg, if_pos k3, if_pos hn]
    · have hs : speakF c.vals.len c.com m row = (pk (mem c.vals.len c.com m.slot) row, true) := by
        unfold speakF
        rw [if_neg hg, if_pos k3, if_neg (fun hx => hx.elim hy1 (fun hx => hx hy2))]
      have := hr h4 s4 (by rw [hs]; exact o4.elems) (x03.trans x4) (fun l hl => Nat.le_trans x03.size (l4 l hl))
      rw [hs] at this
      exact this
  · have hg : goodF m row = true := by simpa using hg
    have hs := speak_doc (n := c.vals.len) (com := c.com) hg k3
    have good : ∀ h', Ext h h' → speakF c.vals.len c.com m row = ([m.member], true) → R (TV.tup [.slice (Sl.mk (some (Vc.Loc.mk h'.size 0)) 1 1), .bool true]).val (h'.push (Vc.row (TVs.cells [TV.int .i64 m.member]) 3)) := fun h' x hs => by
      have := hr _ ⟨some ⟨h'.size, 0⟩, 1, 1⟩ (by rw [hs]; exact one_ints h' m.member) (x.trans (Ext.push _ _)) (fun l hl => by obtain rfl := Option.some.inj hl; exact x.size)
      rw [hs] at this
      exact this
    refine cf_at w1 ⟨_, a1, _, a3, ?_⟩
    refine docplace_spec (c := c) f fun h4 x4 => ⟨_, rfl, If.dec.2 ⟨fun hi => bad h4 (x03.trans x4) ?_, fun hi => ⟨_, at1_ext x4 a0, If.dec.2 ⟨fun k1 => If.dec.2 ⟨fun hp => bad h4 (x03.trans x4) ?_, fun hp => ⟨_, at1_ext x4 a3, good h4 (x03.trans x4) ?_⟩⟩, fun k1 => ⟨_, at1_ext x4 a3, good h4 (x03.trans x4) ?_⟩⟩⟩⟩⟩
    · rw [hs, if_pos hi]
    · rw [hs, if_neg hi, if_pos ⟨k1, hp⟩]
    · rw [hs, if_neg hi, if_neg (fun h => hp h.2)]
    · rw [hs, if_neg hi, if_neg (fun h => k1 h.1)]

end
end Go.Proofs.Ytgdhddignbkloaa.Board
end

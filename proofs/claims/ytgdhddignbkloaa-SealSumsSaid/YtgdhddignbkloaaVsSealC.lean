/- The conditions of functions, as the generator reckons them out, each with the proof that it is that. -/
import Derived.Test.YtgdhddignbkloaaCtx
namespace Go.Proofs.Ytgdhddignbkloaa
open Go Go.Vc
set_option maxRecDepth 100000
set_option linter.unusedVariables false

def seal_Tag_vc (c_Validators : Sl) (c_Epoch : Int) (c_Committee : Int) (c_Nodes : Int) (c_Orphans : Int) (c_Early : Int) (c_Quota : Int) (c_Peers : Int) (c_Bytes : Int) (c_Window : Int) (c_Ban : Int) (c_Decay : Int) (m_Kind : Int) (m_Slot : Int) (m_Target : Bs (32 : Nat)) (m_Member : Int) (m_Body : Int) (m_Bits : Sl) (m_Tag : Bs (16 : Nat)) (h : Heap) (R : Value → Heap → Prop) : Prop :=
 Vc.Bind
 (newTV h
 (TV.agg
 [TV.slice c_Validators, TV.int IntKind.i64 c_Epoch, TV.int IntKind.i64 c_Committee, TV.int IntKind.i64 c_Nodes, TV.int IntKind.i64 c_Orphans,
 TV.int IntKind.i64 c_Early, TV.int IntKind.i64 c_Quota, TV.int IntKind.i64 c_Peers, TV.int IntKind.i64 c_Bytes, TV.int IntKind.i64 c_Window,
 TV.int IntKind.i64 c_Ban, TV.int IntKind.i64 c_Decay])
 (24 : Nat))
 fun (h_1 : Array Obj) ↦
 Vc.Bind
 (newTV h_1
 (TV.agg
 [TV.int IntKind.i64 m_Kind, TV.int IntKind.i64 m_Slot, TV.bytes (32 : Nat) m_Target, TV.int IntKind.i64 m_Member, TV.int IntKind.u64 m_Body,
 TV.slice m_Bits, TV.bytes (16 : Nat) m_Tag])
 (32 : Nat))
 fun (h_2 : Array Obj) ↦
 Vc.Bind (newTV h_2 (TV.bytes (16 : Nat) (Bs.zero (16 : Nat))) (30 : Nat)) fun (h_3 : Array Obj) ↦
 ∃ (s : Sl),
 ∃ (n : Int),
 ∃ (n_1 : Int),
 ∃ (n_2 : Int),
 ∃ (n_3 : Int),
 ∃ (n_4 : Int),
 ∃ (n_5 : Int),
 ∃ (n_6 : Int),
 ∃ (n_7 : Int),
 ∃ (n_8 : Int),
 ∃ (n_9 : Int),
 ∃ (n_10 : Int),
 (at1 h_3 (Array.size h) (0 : Nat) (slVal s) ∧
 at1 h_3 (Array.size h) (1 : Nat) (Value.int IntKind.i64 n) ∧
 at1 h_3 (Array.size h) (2 : Nat) (Value.int IntKind.i64 n_1) ∧
 at1 h_3 (Array.size h) (3 : Nat) (Value.int IntKind.i64 n_2) ∧
 at1 h_3 (Array.size h) (4 : Nat) (Value.int IntKind.i64 n_3) ∧
 at1 h_3 (Array.size h) (5 : Nat) (Value.int IntKind.i64 n_4) ∧
 at1 h_3 (Array.size h) (6 : Nat) (Value.int IntKind.i64 n_5) ∧
 at1 h_3 (Array.size h) (7 : Nat) (Value.int IntKind.i64 n_6) ∧
 at1 h_3 (Array.size h) (8 : Nat) (Value.int IntKind.i64 n_7) ∧
 at1 h_3 (Array.size h) (9 : Nat) (Value.int IntKind.i64 n_8) ∧
 at1 h_3 (Array.size h) (10 : Nat) (Value.int IntKind.i64 n_9) ∧
 at1 h_3 (Array.size h) (11 : Nat) (Value.int IntKind.i64 n_10)) ∧
 ∃ (n_11 : Int),
 ∃ (n_12 : Int),
 ∃ (b : Bs (32 : Nat)),
 ∃ (n_13 : Int),
 ∃ (n_14 : Int),
 ∃ (s_1 : Sl),
 ∃ (b_1 : Bs (16 : Nat)),
 (at1 h_3 (Array.size h_1) (0 : Nat) (Value.int IntKind.i64 n_11) ∧
 at1 h_3 (Array.size h_1) (1 : Nat) (Value.int IntKind.i64 n_12) ∧
 atBytes h_3 (Array.size h_1) (2 : Nat) (32 : Nat) b ∧
 at1 h_3 (Array.size h_1) (34 : Nat) (Value.int IntKind.i64 n_13) ∧
 at1 h_3 (Array.size h_1) (35 : Nat) (Value.int IntKind.u64 n_14) ∧
 at1 h_3 (Array.size h_1) (36 : Nat) (slVal s_1) ∧
 atBytes h_3 (Array.size h_1) (37 : Nat) (16 : Nat) b_1) ∧
 CallsH Try.prog (14 : Nat)
 (TVs.vals
 [TV.agg
 [TV.slice s, TV.int IntKind.i64 n, TV.int IntKind.i64 n_1, TV.int IntKind.i64 n_2,
 TV.int IntKind.i64 n_3, TV.int IntKind.i64 n_4, TV.int IntKind.i64 n_5, TV.int IntKind.i64 n_6,
 TV.int IntKind.i64 n_7, TV.int IntKind.i64 n_8, TV.int IntKind.i64 n_9, TV.int IntKind.i64 n_10],
 TV.agg
 [TV.int IntKind.i64 n_11, TV.int IntKind.i64 n_12, TV.bytes (32 : Nat) b, TV.int IntKind.i64 n_13,
 TV.int IntKind.u64 n_14, TV.slice s_1, TV.bytes (16 : Nat) b_1]])
 h_3 fun (v : Value) (h_4 : Array Obj) ↦
 ∃ (s : Sl),
 ∃ (b : Bool),
 v = TV.val (TV.tup [TV.slice s, TV.bool b]) ∧
 If (!b)
 (wok h_4 (Array.size h_2) (0 : Nat) (16 : Nat) ∧
 Vc.Bind (TV.put h_4 (Array.size h_2) (0 : Nat) (TV.bytes (16 : Nat) (Bs.zero (16 : Nat))))
 fun (h : Array Obj) ↦
 ∃ (b : Bs (16 : Nat)),
 atBytes h (Array.size h_2) (0 : Nat) (16 : Nat) b ∧
 R (TV.val (TV.tup [TV.bytes (16 : Nat) b, TV.bool false])) h)
 (Go.Vc.Loop (Sl.mk none (0 : Nat) (0 : Nat), (0 : Int)) h_4
 fun (s_2 : Sl × Int) (h_5 : Array Obj) (K : Sl × Int → Array Obj → Prop) ↦
 If (decide (s_2.snd < (↑s.len : Int)))
 ((0 : Int) ≤ s_2.snd ∧
 s_2.snd < (↑s.len : Int) ∧
 Nn s.a fun (l : Go.Vc.Loc) ↦
 ∃ (n : Int),
 at1 h_5 l.b (l.o + Int.toNat s_2.snd * (1 : Nat)) (Value.int IntKind.i64 n) ∧
 ∃ (s : Sl),
 at1 h_5 (Array.size h) (0 : Nat) (slVal s) ∧
 (0 : Int) ≤ n ∧
 n < (↑s.len : Int) ∧
 Nn s.a fun (l : Go.Vc.Loc) ↦
 ∃ (s : List UInt8),
 at1 h_5 l.b (l.o + Int.toNat n * (2 : Nat) + (1 : Nat))
 (Value.string (ByteArray.mk (List.toArray s))) ∧
 ∃ (n_15 : Int),
 ∃ (n_16 : Int),
 ∃ (b : Bs (32 : Nat)),
 ∃ (n_17 : Int),
 ∃ (n_18 : Int),
 ∃ (s_3 : Sl),
 ∃ (b_2 : Bs (16 : Nat)),
 (at1 h_5 (Array.size h_1) (0 : Nat)
 (Value.int IntKind.i64 n_15) ∧
 at1 h_5 (Array.size h_1) (1 : Nat)
 (Value.int IntKind.i64 n_16) ∧
 atBytes h_5 (Array.size h_1) (2 : Nat) (32 : Nat) b ∧
 at1 h_5 (Array.size h_1) (34 : Nat)
 (Value.int IntKind.i64 n_17) ∧
 at1 h_5 (Array.size h_1) (35 : Nat)
 (Value.int IntKind.u64 n_18) ∧
 at1 h_5 (Array.size h_1) (36 : Nat)
 (slVal s_3) ∧
 atBytes h_5 (Array.size h_1) (37 : Nat)
 (16 : Nat) b_2) ∧
 CallsH Try.prog (29 : Nat)
 (TVs.vals
 [TV.agg
 [TV.int IntKind.i64 n_15, TV.int IntKind.i64 n_16,
 TV.bytes (32 : Nat) b, TV.int IntKind.i64 n_17,
 TV.int IntKind.u64 n_18, TV.slice s_3,
 TV.bytes (16 : Nat) b_2],
 TV.int IntKind.i64 n])
 h_5 fun (v : Value) (h : Array Obj) ↦
 ∃ (n : Int),
 ∃ (n_19 : Int),
 ∃ (b : Bs (32 : Nat)),
 ∃ (n_20 : Int),
 ∃ (n_21 : Int),
 ∃ (s_4 : Sl),
 ∃ (b_3 : Bs (16 : Nat)),
 v =
 TV.val
 (TV.agg
 [TV.int IntKind.i64 n,
 TV.int IntKind.i64 n_19,
 TV.bytes (32 : Nat) b,
 TV.int IntKind.i64 n_20,
 TV.int IntKind.u64 n_21,
 TV.slice s_4,
 TV.bytes (16 : Nat) b_3]) ∧
 Ext h_5 h ∧
 CallsH Try.prog (28 : Nat)
 (TVs.vals
 [TV.agg
 [TV.int IntKind.i64 n,
 TV.int IntKind.i64 n_19,
 TV.bytes (32 : Nat) b,
 TV.int IntKind.i64 n_20,
 TV.int IntKind.u64 n_21,
 TV.slice s_4,
 TV.bytes (16 : Nat) b_3]])
 h
 fun (v : Value) (h_6 : Array Obj) ↦
 ∃ (s_5 : List UInt8),
 v = TV.val (TV.str s_5) ∧
 Ext h h_6 ∧
 Ext h_6
 (Array.push h_6
 (row
 (TVs.cells
 [TV.str s_5])
 (9 : Nat))) ∧
 CallsH Try.prog (27 : Nat)
 (TVs.vals
 [TV.str s,
 TV.slice
 (Sl.mk
 (some
 (Loc.mk
 (Array.size
 h_6)
 (0 : Nat)))
 (1 : Nat)
 (1 : Nat))])
 (Array.push h_6
 (row
 (TVs.cells
 [TV.str s_5])
 (9 : Nat)))
 fun (v : Value)
 (h : Array Obj) ↦
 ∃ (b : Bs (16 : Nat)),
 v =
 TV.val
 (TV.bytes
 (16 : Nat) b) ∧
 ∃ (new : List Value),
 slAt
 (Array.push h
 (row
 (TVs.cells
 [TV.bytes
 (16 :
 Nat)
 b])
 (30 : Nat)))
 (Sl.mk
 (some
 (Loc.mk
 (Array.size
 h)
 (0 :
 Nat)))
 (1 : Nat)
 (1 : Nat))
 (16 : Nat) new ∧
 (∀ (v : Value),
 v ∈ new →
 isOne v =
 true) ∧
 vcAppend
 Ytgdhddignbkloaa.ctx
 (30 : Nat)
 s_2.fst
 (1 : Nat) new
 (Array.push h
 (row
 (TVs.cells
 [TV.bytes
 (16 :
 Nat)
 b])
 (30 :
 Nat)))
 fun (s : Sl)
 (h :
 Array
 Obj) ↦
 K
 (s,
 IntKind.wrap
 IntKind.i64
 (s_2.snd +
 (1 :
 Int)))
 h)
 (CallsH Try.prog (13 : Nat) (TVs.vals [TV.slice s_2.fst]) h_5 fun (v : Value) (h : Array Obj) ↦
 ∃ (b : Bs (16 : Nat)),
 v = TV.val (TV.bytes (16 : Nat) b) ∧
 wok h (Array.size h_2) (0 : Nat) (16 : Nat) ∧
 Vc.Bind (TV.put h (Array.size h_2) (0 : Nat) (TV.bytes (16 : Nat) b))
 fun (h : Array Obj) ↦
 ∃ (b : Bs (16 : Nat)),
 atBytes h (Array.size h_2) (0 : Nat) (16 : Nat) b ∧
 R (TV.val (TV.tup [TV.bytes (16 : Nat) b, TV.bool true])) h))

theorem seal_Tag_calls (c_Validators : Sl) (c_Epoch : Int) (c_Committee : Int) (c_Nodes : Int) (c_Orphans : Int) (c_Early : Int) (c_Quota : Int) (c_Peers : Int) (c_Bytes : Int) (c_Window : Int) (c_Ban : Int) (c_Decay : Int) (m_Kind : Int) (m_Slot : Int) (m_Target : Bs (32 : Nat)) (m_Member : Int) (m_Body : Int) (m_Bits : Sl) (m_Tag : Bs (16 : Nat)) (h : Heap) (R : Value → Heap → Prop) (H : seal_Tag_vc c_Validators c_Epoch c_Committee c_Nodes c_Orphans c_Early c_Quota c_Peers c_Bytes c_Window c_Ban c_Decay m_Kind m_Slot m_Target m_Member m_Body m_Bits m_Tag h R) : CallsH Try.prog 11 (TVs.vals [TV.agg [TV.slice c_Validators, TV.int IntKind.i64 c_Epoch, TV.int IntKind.i64 c_Committee, TV.int IntKind.i64 c_Nodes, TV.int IntKind.i64 c_Orphans, TV.int IntKind.i64 c_Early, TV.int IntKind.i64 c_Quota, TV.int IntKind.i64 c_Peers, TV.int IntKind.i64 c_Bytes, TV.int IntKind.i64 c_Window, TV.int IntKind.i64 c_Ban, TV.int IntKind.i64 c_Decay], TV.agg [TV.int IntKind.i64 m_Kind, TV.int IntKind.i64 m_Slot, TV.bytes (32 : Nat) m_Target, TV.int IntKind.i64 m_Member, TV.int IntKind.u64 m_Body, TV.slice m_Bits, TV.bytes (16 : Nat) m_Tag]]) h R :=
 vcFn_sound (C := ctx) ctx_ok (fn := Try.f11) Try.func11 ((by kernel_rfl : seal_Tag_vc c_Validators c_Epoch c_Committee c_Nodes c_Orphans c_Early c_Quota c_Peers c_Bytes c_Window c_Ban c_Decay m_Kind m_Slot m_Target m_Member m_Body m_Bits m_Tag h R = vcFn ctx Try.f11 [TV.agg [TV.slice c_Validators, TV.int IntKind.i64 c_Epoch, TV.int IntKind.i64 c_Committee, TV.int IntKind.i64 c_Nodes, TV.int IntKind.i64 c_Orphans, TV.int IntKind.i64 c_Early, TV.int IntKind.i64 c_Quota, TV.int IntKind.i64 c_Peers, TV.int IntKind.i64 c_Bytes, TV.int IntKind.i64 c_Window, TV.int IntKind.i64 c_Ban, TV.int IntKind.i64 c_Decay], TV.agg [TV.int IntKind.i64 m_Kind, TV.int IntKind.i64 m_Slot, TV.bytes (32 : Nat) m_Target, TV.int IntKind.i64 m_Member, TV.int IntKind.u64 m_Body, TV.slice m_Bits, TV.bytes (16 : Nat) m_Tag]] h R) ▸ H)


def seal_Votes_vc (c_Validators : Sl) (c_Epoch : Int) (c_Committee : Int) (c_Nodes : Int) (c_Orphans : Int) (c_Early : Int) (c_Quota : Int) (c_Peers : Int) (c_Bytes : Int) (c_Window : Int) (c_Ban : Int) (c_Decay : Int) (m_Kind : Int) (m_Slot : Int) (m_Target : Bs (32 : Nat)) (m_Member : Int) (m_Body : Int) (m_Bits : Sl) (m_Tag : Bs (16 : Nat)) (h : Heap) (R : Value → Heap → Prop) : Prop :=
 Vc.Bind
 (newTV h
 (TV.agg
 [TV.slice c_Validators, TV.int IntKind.i64 c_Epoch, TV.int IntKind.i64 c_Committee, TV.int IntKind.i64 c_Nodes, TV.int IntKind.i64 c_Orphans,
 TV.int IntKind.i64 c_Early, TV.int IntKind.i64 c_Quota, TV.int IntKind.i64 c_Peers, TV.int IntKind.i64 c_Bytes, TV.int IntKind.i64 c_Window,
 TV.int IntKind.i64 c_Ban, TV.int IntKind.i64 c_Decay])
 (24 : Nat))
 fun (h_1 : Array Obj) ↦
 Vc.Bind
 (newTV h_1
 (TV.agg
 [TV.int IntKind.i64 m_Kind, TV.int IntKind.i64 m_Slot, TV.bytes (32 : Nat) m_Target, TV.int IntKind.i64 m_Member, TV.int IntKind.u64 m_Body,
 TV.slice m_Bits, TV.bytes (16 : Nat) m_Tag])
 (32 : Nat))
 fun (h_2 : Array Obj) ↦
 ∃ (s : Sl),
 ∃ (n : Int),
 ∃ (n_1 : Int),
 ∃ (n_2 : Int),
 ∃ (n_3 : Int),
 ∃ (n_4 : Int),
 ∃ (n_5 : Int),
 ∃ (n_6 : Int),
 ∃ (n_7 : Int),
 ∃ (n_8 : Int),
 ∃ (n_9 : Int),
 ∃ (n_10 : Int),
 (at1 h_2 (Array.size h) (0 : Nat) (slVal s) ∧
 at1 h_2 (Array.size h) (1 : Nat) (Value.int IntKind.i64 n) ∧
 at1 h_2 (Array.size h) (2 : Nat) (Value.int IntKind.i64 n_1) ∧
 at1 h_2 (Array.size h) (3 : Nat) (Value.int IntKind.i64 n_2) ∧
 at1 h_2 (Array.size h) (4 : Nat) (Value.int IntKind.i64 n_3) ∧
 at1 h_2 (Array.size h) (5 : Nat) (Value.int IntKind.i64 n_4) ∧
 at1 h_2 (Array.size h) (6 : Nat) (Value.int IntKind.i64 n_5) ∧
 at1 h_2 (Array.size h) (7 : Nat) (Value.int IntKind.i64 n_6) ∧
 at1 h_2 (Array.size h) (8 : Nat) (Value.int IntKind.i64 n_7) ∧
 at1 h_2 (Array.size h) (9 : Nat) (Value.int IntKind.i64 n_8) ∧
 at1 h_2 (Array.size h) (10 : Nat) (Value.int IntKind.i64 n_9) ∧
 at1 h_2 (Array.size h) (11 : Nat) (Value.int IntKind.i64 n_10)) ∧
 ∃ (n_11 : Int),
 ∃ (n_12 : Int),
 ∃ (b : Bs (32 : Nat)),
 ∃ (n_13 : Int),
 ∃ (n_14 : Int),
 ∃ (s_1 : Sl),
 ∃ (b_1 : Bs (16 : Nat)),
 (at1 h_2 (Array.size h_1) (0 : Nat) (Value.int IntKind.i64 n_11) ∧
 at1 h_2 (Array.size h_1) (1 : Nat) (Value.int IntKind.i64 n_12) ∧
 atBytes h_2 (Array.size h_1) (2 : Nat) (32 : Nat) b ∧
 at1 h_2 (Array.size h_1) (34 : Nat) (Value.int IntKind.i64 n_13) ∧
 at1 h_2 (Array.size h_1) (35 : Nat) (Value.int IntKind.u64 n_14) ∧
 at1 h_2 (Array.size h_1) (36 : Nat) (slVal s_1) ∧
 atBytes h_2 (Array.size h_1) (37 : Nat) (16 : Nat) b_1) ∧
 CallsH Try.prog (14 : Nat)
 (TVs.vals
 [TV.agg
 [TV.slice s, TV.int IntKind.i64 n, TV.int IntKind.i64 n_1, TV.int IntKind.i64 n_2, TV.int IntKind.i64 n_3,
 TV.int IntKind.i64 n_4, TV.int IntKind.i64 n_5, TV.int IntKind.i64 n_6, TV.int IntKind.i64 n_7,
 TV.int IntKind.i64 n_8, TV.int IntKind.i64 n_9, TV.int IntKind.i64 n_10],
 TV.agg
 [TV.int IntKind.i64 n_11, TV.int IntKind.i64 n_12, TV.bytes (32 : Nat) b, TV.int IntKind.i64 n_13,
 TV.int IntKind.u64 n_14, TV.slice s_1, TV.bytes (16 : Nat) b_1]])
 h_2 fun (v : Value) (h : Array Obj) ↦
 ∃ (s : Sl),
 ∃ (b : Bool),
 v = TV.val (TV.tup [TV.slice s, TV.bool b]) ∧
 Join
 (fun (s_2 : Sl) (h : Array Obj) ↦
 Go.Vc.Loop (Sl.mk none (0 : Nat) (0 : Nat), (0 : Int)) h
 fun (s_3 : Sl × Int) (h : Array Obj) (K : Sl × Int → Array Obj → Prop) ↦
 If (decide (s_3.snd < (↑s.len : Int)))
 ((0 : Int) ≤ s_3.snd ∧
 s_3.snd < (↑s.len : Int) ∧
 Nn s.a fun (l : Go.Vc.Loc) ↦
 ∃ (n : Int),
 at1 h l.b (l.o + Int.toNat s_3.snd * (1 : Nat)) (Value.int IntKind.i64 n) ∧
 ∃ (n_15 : Int),
 at1 h (Array.size h_1) (1 : Nat) (Value.int IntKind.i64 n_15) ∧
 ∃ (b : Bs (32 : Nat)),
 atBytes h (Array.size h_1) (2 : Nat) (32 : Nat) b ∧
 ∃ (new : List Value),
 slAt
 (Array.push h
 (row
 (TVs.cells
 [TV.agg
 [TV.int IntKind.i64 n, TV.int IntKind.i64 n_15,
 TV.bytes (32 : Nat) b]])
 (41 : Nat)))
 (Sl.mk (some (Loc.mk (Array.size h) (0 : Nat))) (1 : Nat) (1 : Nat))
 (34 : Nat) new ∧
 (∀ (v : Value), v ∈ new → isOne v = true) ∧
 vcAppend Ytgdhddignbkloaa.ctx (41 : Nat) s_3.fst (1 : Nat) new
 (Array.push h
 (row
 (TVs.cells
 [TV.agg
 [TV.int IntKind.i64 n, TV.int IntKind.i64 n_15,
 TV.bytes (32 : Nat) b]])
 (41 : Nat)))
 fun (s : Sl) (h : Array Obj) ↦
 K (s, IntKind.wrap IntKind.i64 (s_3.snd + (1 : Int))) h)
 (R (TV.val (TV.slice s_3.fst)) h))
 fun (J : Sl → Array Obj → Prop) ↦
 If (!b) (R (TV.val (TV.slice Sl.nil)) h)
 (∃ (n : Int),
 at1 h (Array.size h_1) (0 : Nat) (Value.int IntKind.i64 n) ∧
 If (decide (n = (1 : Int))) (R (TV.val (TV.slice Sl.nil)) h)
 (J (Sl.mk none (0 : Nat) (0 : Nat)) h))

theorem seal_Votes_calls (c_Validators : Sl) (c_Epoch : Int) (c_Committee : Int) (c_Nodes : Int) (c_Orphans : Int) (c_Early : Int) (c_Quota : Int) (c_Peers : Int) (c_Bytes : Int) (c_Window : Int) (c_Ban : Int) (c_Decay : Int) (m_Kind : Int) (m_Slot : Int) (m_Target : Bs (32 : Nat)) (m_Member : Int) (m_Body : Int) (m_Bits : Sl) (m_Tag : Bs (16 : Nat)) (h : Heap) (R : Value → Heap → Prop) (H : seal_Votes_vc c_Validators c_Epoch c_Committee c_Nodes c_Orphans c_Early c_Quota c_Peers c_Bytes c_Window c_Ban c_Decay m_Kind m_Slot m_Target m_Member m_Body m_Bits m_Tag h R) : CallsH Try.prog 12 (TVs.vals [TV.agg [TV.slice c_Validators, TV.int IntKind.i64 c_Epoch, TV.int IntKind.i64 c_Committee, TV.int IntKind.i64 c_Nodes, TV.int IntKind.i64 c_Orphans, TV.int IntKind.i64 c_Early, TV.int IntKind.i64 c_Quota, TV.int IntKind.i64 c_Peers, TV.int IntKind.i64 c_Bytes, TV.int IntKind.i64 c_Window, TV.int IntKind.i64 c_Ban, TV.int IntKind.i64 c_Decay], TV.agg [TV.int IntKind.i64 m_Kind, TV.int IntKind.i64 m_Slot, TV.bytes (32 : Nat) m_Target, TV.int IntKind.i64 m_Member, TV.int IntKind.u64 m_Body, TV.slice m_Bits, TV.bytes (16 : Nat) m_Tag]]) h R :=
 vcFn_sound (C := ctx) ctx_ok (fn := Try.f12) Try.func12 ((by kernel_rfl : seal_Votes_vc c_Validators c_Epoch c_Committee c_Nodes c_Orphans c_Early c_Quota c_Peers c_Bytes c_Window c_Ban c_Decay m_Kind m_Slot m_Target m_Member m_Body m_Bits m_Tag h R = vcFn ctx Try.f12 [TV.agg [TV.slice c_Validators, TV.int IntKind.i64 c_Epoch, TV.int IntKind.i64 c_Committee, TV.int IntKind.i64 c_Nodes, TV.int IntKind.i64 c_Orphans, TV.int IntKind.i64 c_Early, TV.int IntKind.i64 c_Quota, TV.int IntKind.i64 c_Peers, TV.int IntKind.i64 c_Bytes, TV.int IntKind.i64 c_Window, TV.int IntKind.i64 c_Ban, TV.int IntKind.i64 c_Decay], TV.agg [TV.int IntKind.i64 m_Kind, TV.int IntKind.i64 m_Slot, TV.bytes (32 : Nat) m_Target, TV.int IntKind.i64 m_Member, TV.int IntKind.u64 m_Body, TV.slice m_Bits, TV.bytes (16 : Nat) m_Tag]] h R) ▸ H)


def seal_Speakers_vc (c_Validators : Sl) (c_Epoch : Int) (c_Committee : Int) (c_Nodes : Int) (c_Orphans : Int) (c_Early : Int) (c_Quota : Int) (c_Peers : Int) (c_Bytes : Int) (c_Window : Int) (c_Ban : Int) (c_Decay : Int) (m_Kind : Int) (m_Slot : Int) (m_Target : Bs (32 : Nat)) (m_Member : Int) (m_Body : Int) (m_Bits : Sl) (m_Tag : Bs (16 : Nat)) (h : Heap) (R : Value → Heap → Prop) : Prop :=
 Vc.Bind
 (newTV h
 (TV.agg
 [TV.slice c_Validators, TV.int IntKind.i64 c_Epoch, TV.int IntKind.i64 c_Committee, TV.int IntKind.i64 c_Nodes, TV.int IntKind.i64 c_Orphans,
 TV.int IntKind.i64 c_Early, TV.int IntKind.i64 c_Quota, TV.int IntKind.i64 c_Peers, TV.int IntKind.i64 c_Bytes, TV.int IntKind.i64 c_Window,
 TV.int IntKind.i64 c_Ban, TV.int IntKind.i64 c_Decay])
 (24 : Nat))
 fun (h_1 : Array Obj) ↦
 Vc.Bind
 (newTV h_1
 (TV.agg
 [TV.int IntKind.i64 m_Kind, TV.int IntKind.i64 m_Slot, TV.bytes (32 : Nat) m_Target, TV.int IntKind.i64 m_Member, TV.int IntKind.u64 m_Body,
 TV.slice m_Bits, TV.bytes (16 : Nat) m_Tag])
 (32 : Nat))
 fun (h_2 : Array Obj) ↦
 ∃ (n : Int),
 ∃ (n_1 : Int),
 ∃ (b : Bs (32 : Nat)),
 ∃ (n_2 : Int),
 ∃ (n_3 : Int),
 ∃ (s : Sl),
 ∃ (b_1 : Bs (16 : Nat)),
 (at1 h_2 (Array.size h_1) (0 : Nat) (Value.int IntKind.i64 n) ∧
 at1 h_2 (Array.size h_1) (1 : Nat) (Value.int IntKind.i64 n_1) ∧
 atBytes h_2 (Array.size h_1) (2 : Nat) (32 : Nat) b ∧
 at1 h_2 (Array.size h_1) (34 : Nat) (Value.int IntKind.i64 n_2) ∧
 at1 h_2 (Array.size h_1) (35 : Nat) (Value.int IntKind.u64 n_3) ∧
 at1 h_2 (Array.size h_1) (36 : Nat) (slVal s) ∧ atBytes h_2 (Array.size h_1) (37 : Nat) (16 : Nat) b_1) ∧
 CallsH Try.prog (30 : Nat)
 (TVs.vals
 [TV.agg
 [TV.int IntKind.i64 n, TV.int IntKind.i64 n_1, TV.bytes (32 : Nat) b, TV.int IntKind.i64 n_2, TV.int IntKind.u64 n_3, TV.slice s,
 TV.bytes (16 : Nat) b_1]])
 h_2 fun (v : Value) (h_3 : Array Obj) ↦
 ∃ (b : Bool),
 v = TV.val (TV.bool b) ∧
 If (!b) (R (TV.val (TV.tup [TV.slice Sl.nil, TV.bool false])) h_3)
 (∃ (n : Int),
 at1 h_3 (Array.size h_1) (0 : Nat) (Value.int IntKind.i64 n) ∧
 If (decide (n = (3 : Int)))
 (∃ (s : Sl),
 ∃ (n : Int),
 ∃ (n_4 : Int),
 ∃ (n_5 : Int),
 ∃ (n_6 : Int),
 ∃ (n_7 : Int),
 ∃ (n_8 : Int),
 ∃ (n_9 : Int),
 ∃ (n_10 : Int),
 ∃ (n_11 : Int),
 ∃ (n_12 : Int),
 ∃ (n_13 : Int),
 (at1 h_3 (Array.size h) (0 : Nat) (slVal s) ∧
 at1 h_3 (Array.size h) (1 : Nat) (Value.int IntKind.i64 n) ∧
 at1 h_3 (Array.size h) (2 : Nat) (Value.int IntKind.i64 n_4) ∧
 at1 h_3 (Array.size h) (3 : Nat) (Value.int IntKind.i64 n_5) ∧
 at1 h_3 (Array.size h) (4 : Nat) (Value.int IntKind.i64 n_6) ∧
 at1 h_3 (Array.size h) (5 : Nat) (Value.int IntKind.i64 n_7) ∧
 at1 h_3 (Array.size h) (6 : Nat) (Value.int IntKind.i64 n_8) ∧
 at1 h_3 (Array.size h) (7 : Nat) (Value.int IntKind.i64 n_9) ∧
 at1 h_3 (Array.size h) (8 : Nat) (Value.int IntKind.i64 n_10) ∧
 at1 h_3 (Array.size h) (9 : Nat) (Value.int IntKind.i64 n_11) ∧
 at1 h_3 (Array.size h) (10 : Nat) (Value.int IntKind.i64 n_12) ∧
 at1 h_3 (Array.size h) (11 : Nat) (Value.int IntKind.i64 n_13)) ∧
 ∃ (n_14 : Int),
 at1 h_3 (Array.size h_1) (1 : Nat) (Value.int IntKind.i64 n_14) ∧
 ∃ (s_1 : Sl),
 at1 h_3 (Array.size h_1) (36 : Nat) (slVal s_1) ∧
 CallsH Try.prog (31 : Nat)
 (TVs.vals
 [TV.agg
 [TV.slice s, TV.int IntKind.i64 n, TV.int IntKind.i64 n_4, TV.int IntKind.i64 n_5,
 TV.int IntKind.i64 n_6, TV.int IntKind.i64 n_7, TV.int IntKind.i64 n_8,
 TV.int IntKind.i64 n_9, TV.int IntKind.i64 n_10, TV.int IntKind.i64 n_11,
 TV.int IntKind.i64 n_12, TV.int IntKind.i64 n_13],
 TV.int IntKind.i64 n_14, TV.slice s_1])
 h_3 fun (v : Value) (h : Array Obj) ↦
 ∃ (s : Sl),
 ∃ (b : Bool),
 v = TV.val (TV.tup [TV.slice s, TV.bool b]) ∧
 R (TV.val (TV.tup [TV.slice s, TV.bool b])) h)
 (∃ (n : Int),
 at1 h_3 (Array.size h_1) (0 : Nat) (Value.int IntKind.i64 n) ∧
 If (decide (n = (1 : Int)))
 (∃ (s : Sl),
 ∃ (n : Int),
 ∃ (n_4 : Int),
 ∃ (n_5 : Int),
 ∃ (n_6 : Int),
 ∃ (n_7 : Int),
 ∃ (n_8 : Int),
 ∃ (n_9 : Int),
 ∃ (n_10 : Int),
 ∃ (n_11 : Int),
 ∃ (n_12 : Int),
 ∃ (n_13 : Int),
 (at1 h_3 (Array.size h) (0 : Nat) (slVal s) ∧
 at1 h_3 (Array.size h) (1 : Nat) (Value.int IntKind.i64 n) ∧
 at1 h_3 (Array.size h) (2 : Nat) (Value.int IntKind.i64 n_4) ∧
 at1 h_3 (Array.size h) (3 : Nat) (Value.int IntKind.i64 n_5) ∧
 at1 h_3 (Array.size h) (4 : Nat) (Value.int IntKind.i64 n_6) ∧
 at1 h_3 (Array.size h) (5 : Nat) (Value.int IntKind.i64 n_7) ∧
 at1 h_3 (Array.size h) (6 : Nat) (Value.int IntKind.i64 n_8) ∧
 at1 h_3 (Array.size h) (7 : Nat) (Value.int IntKind.i64 n_9) ∧
 at1 h_3 (Array.size h) (8 : Nat) (Value.int IntKind.i64 n_10) ∧
 at1 h_3 (Array.size h) (9 : Nat) (Value.int IntKind.i64 n_11) ∧
 at1 h_3 (Array.size h) (10 : Nat) (Value.int IntKind.i64 n_12) ∧
 at1 h_3 (Array.size h) (11 : Nat) (Value.int IntKind.i64 n_13)) ∧
 ∃ (n_14 : Int),
 at1 h_3 (Array.size h_1) (1 : Nat) (Value.int IntKind.i64 n_14) ∧
 ∃ (n_15 : Int),
 at1 h_3 (Array.size h_1) (34 : Nat) (Value.int IntKind.i64 n_15) ∧
 CallsH Try.prog (32 : Nat)
 (TVs.vals
 [TV.agg
 [TV.slice s, TV.int IntKind.i64 n, TV.int IntKind.i64 n_4,
 TV.int IntKind.i64 n_5, TV.int IntKind.i64 n_6, TV.int IntKind.i64 n_7,
 TV.int IntKind.i64 n_8, TV.int IntKind.i64 n_9, TV.int IntKind.i64 n_10,
 TV.int IntKind.i64 n_11, TV.int IntKind.i64 n_12, TV.int IntKind.i64 n_13],
 TV.int IntKind.i64 n_14])
 h_3 fun (v : Value) (h_4 : Array Obj) ↦
 ∃ (n : Int),
 v = TV.val (TV.int IntKind.i64 n) ∧
 Ext h_3 h_4 ∧
 If (!decide (n = n_15))
 (If (!decide (n = n_15))
 (R (TV.val (TV.tup [TV.slice Sl.nil, TV.bool false])) h_4)
 (∃ (n : Int),
 at1 h_4 (Array.size h_1) (34 : Nat) (Value.int IntKind.i64 n) ∧
 R
 (TV.val
 (TV.tup
 [TV.slice
 (Sl.mk (some (Loc.mk (Array.size h_4) (0 : Nat))) (1 : Nat)
 (1 : Nat)),
 TV.bool true]))
 (Array.push h_4
 (row (TVs.cells [TV.int IntKind.i64 n]) (3 : Nat)))))
 (∃ (s : Sl),
 ∃ (n : Int),
 ∃ (n_16 : Int),
 ∃ (n_17 : Int),
 ∃ (n_18 : Int),
 ∃ (n_19 : Int),
 ∃ (n_20 : Int),
 ∃ (n_21 : Int),
 ∃ (n_22 : Int),
 ∃ (n_23 : Int),
 ∃ (n_24 : Int),
 ∃ (n_25 : Int),
 (at1 h_4 (Array.size h) (0 : Nat) (slVal s) ∧
 at1 h_4 (Array.size h) (1 : Nat)
 (Value.int IntKind.i64 n) ∧
 at1 h_4 (Array.size h) (2 : Nat)
 (Value.int IntKind.i64 n_16) ∧
 at1 h_4 (Array.size h) (3 : Nat)
 (Value.int IntKind.i64 n_17) ∧
 at1 h_4 (Array.size h) (4 : Nat)
 (Value.int IntKind.i64 n_18) ∧
 at1 h_4 (Array.size h) (5 : Nat)
 (Value.int IntKind.i64 n_19) ∧
 at1 h_4 (Array.size h) (6 : Nat)
 (Value.int IntKind.i64 n_20) ∧
 at1 h_4 (Array.size h) (7 : Nat)
 (Value.int IntKind.i64 n_21) ∧
 at1 h_4 (Array.size h) (8 : Nat)
 (Value.int IntKind.i64 n_22) ∧
 at1 h_4 (Array.size h) (9 : Nat)
 (Value.int IntKind.i64
 n_23) ∧
 at1 h_4 (Array.size h)
 (10 : Nat)
 (Value.int IntKind.i64
 n_24) ∧
 at1 h_4 (Array.size h)
 (11 : Nat)
 (Value.int IntKind.i64
 n_25)) ∧
 ∃ (n_26 : Int),
 at1 h_4 (Array.size h_1) (1 : Nat)
 (Value.int IntKind.i64 n_26) ∧
 ∃ (n_27 : Int),
 at1 h_4 (Array.size h_1) (34 : Nat)
 (Value.int IntKind.i64 n_27) ∧
 CallsH Try.prog (33 : Nat)
 (TVs.vals
 [TV.agg
 [TV.slice s, TV.int IntKind.i64 n,
 TV.int IntKind.i64 n_16,
 TV.int IntKind.i64 n_17,
 TV.int IntKind.i64 n_18,
 TV.int IntKind.i64 n_19,
 TV.int IntKind.i64 n_20,
 TV.int IntKind.i64 n_21,
 TV.int IntKind.i64 n_22,
 TV.int IntKind.i64 n_23,
 TV.int IntKind.i64 n_24,
 TV.int IntKind.i64 n_25],
 TV.int IntKind.i64 n_26,
 TV.int IntKind.i64 n_27])
 h_4 fun (v : Value) (h : Array Obj) ↦
 ∃ (n : Int),
 v = TV.val (TV.int IntKind.i64 n) ∧
 If (decide (n < (0 : Int)))
 (R
 (TV.val
 (TV.tup
 [TV.slice Sl.nil,
 TV.bool false]))
 h)
 (∃ (n : Int),
 at1 h (Array.size h_1)
 (34 : Nat)
 (Value.int IntKind.i64 n) ∧
 R
 (TV.val
 (TV.tup
 [TV.slice
 (Sl.mk
 (some
 (Loc.mk
 (Array.size h)
 (0 : Nat)))
 (1 : Nat)
 (1 : Nat)),
 TV.bool true]))
 (Array.push h
 (row
 (TVs.cells
 [TV.int IntKind.i64
 n])
 (3 : Nat))))))
 (∃ (s : Sl),
 ∃ (n : Int),
 ∃ (n_4 : Int),
 ∃ (n_5 : Int),
 ∃ (n_6 : Int),
 ∃ (n_7 : Int),
 ∃ (n_8 : Int),
 ∃ (n_9 : Int),
 ∃ (n_10 : Int),
 ∃ (n_11 : Int),
 ∃ (n_12 : Int),
 ∃ (n_13 : Int),
 (at1 h_3 (Array.size h) (0 : Nat) (slVal s) ∧
 at1 h_3 (Array.size h) (1 : Nat) (Value.int IntKind.i64 n) ∧
 at1 h_3 (Array.size h) (2 : Nat) (Value.int IntKind.i64 n_4) ∧
 at1 h_3 (Array.size h) (3 : Nat) (Value.int IntKind.i64 n_5) ∧
 at1 h_3 (Array.size h) (4 : Nat) (Value.int IntKind.i64 n_6) ∧
 at1 h_3 (Array.size h) (5 : Nat) (Value.int IntKind.i64 n_7) ∧
 at1 h_3 (Array.size h) (6 : Nat) (Value.int IntKind.i64 n_8) ∧
 at1 h_3 (Array.size h) (7 : Nat) (Value.int IntKind.i64 n_9) ∧
 at1 h_3 (Array.size h) (8 : Nat) (Value.int IntKind.i64 n_10) ∧
 at1 h_3 (Array.size h) (9 : Nat) (Value.int IntKind.i64 n_11) ∧
 at1 h_3 (Array.size h) (10 : Nat) (Value.int IntKind.i64 n_12) ∧
 at1 h_3 (Array.size h) (11 : Nat) (Value.int IntKind.i64 n_13)) ∧
 ∃ (n_14 : Int),
 at1 h_3 (Array.size h_1) (1 : Nat) (Value.int IntKind.i64 n_14) ∧
 ∃ (n_15 : Int),
 at1 h_3 (Array.size h_1) (34 : Nat) (Value.int IntKind.i64 n_15) ∧
 CallsH Try.prog (33 : Nat)
 (TVs.vals
 [TV.agg
 [TV.slice s, TV.int IntKind.i64 n, TV.int IntKind.i64 n_4,
 TV.int IntKind.i64 n_5, TV.int IntKind.i64 n_6, TV.int IntKind.i64 n_7,
 TV.int IntKind.i64 n_8, TV.int IntKind.i64 n_9, TV.int IntKind.i64 n_10,
 TV.int IntKind.i64 n_11, TV.int IntKind.i64 n_12, TV.int IntKind.i64 n_13],
 TV.int IntKind.i64 n_14, TV.int IntKind.i64 n_15])
 h_3 fun (v : Value) (h : Array Obj) ↦
 ∃ (n : Int),
 v = TV.val (TV.int IntKind.i64 n) ∧
 If (decide (n < (0 : Int)))
 (R (TV.val (TV.tup [TV.slice Sl.nil, TV.bool false])) h)
 (∃ (n : Int),
 at1 h (Array.size h_1) (34 : Nat) (Value.int IntKind.i64 n) ∧
 R
 (TV.val
 (TV.tup
 [TV.slice
 (Sl.mk (some (Loc.mk (Array.size h) (0 : Nat))) (1 : Nat)
 (1 : Nat)),
 TV.bool true]))
 (Array.push h (row (TVs.cells [TV.int IntKind.i64 n]) (3 : Nat)))))))

theorem seal_Speakers_calls (c_Validators : Sl) (c_Epoch : Int) (c_Committee : Int) (c_Nodes : Int) (c_Orphans : Int) (c_Early : Int) (c_Quota : Int) (c_Peers : Int) (c_Bytes : Int) (c_Window : Int) (c_Ban : Int) (c_Decay : Int) (m_Kind : Int) (m_Slot : Int) (m_Target : Bs (32 : Nat)) (m_Member : Int) (m_Body : Int) (m_Bits : Sl) (m_Tag : Bs (16 : Nat)) (h : Heap) (R : Value → Heap → Prop) (H : seal_Speakers_vc c_Validators c_Epoch c_Committee c_Nodes c_Orphans c_Early c_Quota c_Peers c_Bytes c_Window c_Ban c_Decay m_Kind m_Slot m_Target m_Member m_Body m_Bits m_Tag h R) : CallsH Try.prog 14 (TVs.vals [TV.agg [TV.slice c_Validators, TV.int IntKind.i64 c_Epoch, TV.int IntKind.i64 c_Committee, TV.int IntKind.i64 c_Nodes, TV.int IntKind.i64 c_Orphans, TV.int IntKind.i64 c_Early, TV.int IntKind.i64 c_Quota, TV.int IntKind.i64 c_Peers, TV.int IntKind.i64 c_Bytes, TV.int IntKind.i64 c_Window, TV.int IntKind.i64 c_Ban, TV.int IntKind.i64 c_Decay], TV.agg [TV.int IntKind.i64 m_Kind, TV.int IntKind.i64 m_Slot, TV.bytes (32 : Nat) m_Target, TV.int IntKind.i64 m_Member, TV.int IntKind.u64 m_Body, TV.slice m_Bits, TV.bytes (16 : Nat) m_Tag]]) h R :=
 vcFn_sound (C := ctx) ctx_ok (fn := Try.f14) Try.func14 ((by kernel_rfl : seal_Speakers_vc c_Validators c_Epoch c_Committee c_Nodes c_Orphans c_Early c_Quota c_Peers c_Bytes c_Window c_Ban c_Decay m_Kind m_Slot m_Target m_Member m_Body m_Bits m_Tag h R = vcFn ctx Try.f14 [TV.agg [TV.slice c_Validators, TV.int IntKind.i64 c_Epoch, TV.int IntKind.i64 c_Committee, TV.int IntKind.i64 c_Nodes, TV.int IntKind.i64 c_Orphans, TV.int IntKind.i64 c_Early, TV.int IntKind.i64 c_Quota, TV.int IntKind.i64 c_Peers, TV.int IntKind.i64 c_Bytes, TV.int IntKind.i64 c_Window, TV.int IntKind.i64 c_Ban, TV.int IntKind.i64 c_Decay], TV.agg [TV.int IntKind.i64 m_Kind, TV.int IntKind.i64 m_Slot, TV.bytes (32 : Nat) m_Target, TV.int IntKind.i64 m_Member, TV.int IntKind.u64 m_Body, TV.slice m_Bits, TV.bytes (16 : Nat) m_Tag]] h R) ▸ H)


def seal_Check_vc (c_Validators : Sl) (c_Epoch : Int) (c_Committee : Int) (c_Nodes : Int) (c_Orphans : Int) (c_Early : Int) (c_Quota : Int) (c_Peers : Int) (c_Bytes : Int) (c_Window : Int) (c_Ban : Int) (c_Decay : Int) (m_Kind : Int) (m_Slot : Int) (m_Target : Bs (32 : Nat)) (m_Member : Int) (m_Body : Int) (m_Bits : Sl) (m_Tag : Bs (16 : Nat)) (h : Heap) (R : Value → Heap → Prop) : Prop :=
 Vc.Bind
 (newTV h
 (TV.agg
 [TV.slice c_Validators, TV.int IntKind.i64 c_Epoch, TV.int IntKind.i64 c_Committee, TV.int IntKind.i64 c_Nodes, TV.int IntKind.i64 c_Orphans,
 TV.int IntKind.i64 c_Early, TV.int IntKind.i64 c_Quota, TV.int IntKind.i64 c_Peers, TV.int IntKind.i64 c_Bytes, TV.int IntKind.i64 c_Window,
 TV.int IntKind.i64 c_Ban, TV.int IntKind.i64 c_Decay])
 (24 : Nat))
 fun (h_1 : Array Obj) ↦
 Vc.Bind
 (newTV h_1
 (TV.agg
 [TV.int IntKind.i64 m_Kind, TV.int IntKind.i64 m_Slot, TV.bytes (32 : Nat) m_Target, TV.int IntKind.i64 m_Member, TV.int IntKind.u64 m_Body,
 TV.slice m_Bits, TV.bytes (16 : Nat) m_Tag])
 (32 : Nat))
 fun (h_2 : Array Obj) ↦
 ∃ (s : Sl),
 ∃ (n : Int),
 ∃ (n_1 : Int),
 ∃ (n_2 : Int),
 ∃ (n_3 : Int),
 ∃ (n_4 : Int),
 ∃ (n_5 : Int),
 ∃ (n_6 : Int),
 ∃ (n_7 : Int),
 ∃ (n_8 : Int),
 ∃ (n_9 : Int),
 ∃ (n_10 : Int),
 (at1 h_2 (Array.size h) (0 : Nat) (slVal s) ∧
 at1 h_2 (Array.size h) (1 : Nat) (Value.int IntKind.i64 n) ∧
 at1 h_2 (Array.size h) (2 : Nat) (Value.int IntKind.i64 n_1) ∧
 at1 h_2 (Array.size h) (3 : Nat) (Value.int IntKind.i64 n_2) ∧
 at1 h_2 (Array.size h) (4 : Nat) (Value.int IntKind.i64 n_3) ∧
 at1 h_2 (Array.size h) (5 : Nat) (Value.int IntKind.i64 n_4) ∧
 at1 h_2 (Array.size h) (6 : Nat) (Value.int IntKind.i64 n_5) ∧
 at1 h_2 (Array.size h) (7 : Nat) (Value.int IntKind.i64 n_6) ∧
 at1 h_2 (Array.size h) (8 : Nat) (Value.int IntKind.i64 n_7) ∧
 at1 h_2 (Array.size h) (9 : Nat) (Value.int IntKind.i64 n_8) ∧
 at1 h_2 (Array.size h) (10 : Nat) (Value.int IntKind.i64 n_9) ∧
 at1 h_2 (Array.size h) (11 : Nat) (Value.int IntKind.i64 n_10)) ∧
 ∃ (n_11 : Int),
 ∃ (n_12 : Int),
 ∃ (b : Bs (32 : Nat)),
 ∃ (n_13 : Int),
 ∃ (n_14 : Int),
 ∃ (s_1 : Sl),
 ∃ (b_1 : Bs (16 : Nat)),
 (at1 h_2 (Array.size h_1) (0 : Nat) (Value.int IntKind.i64 n_11) ∧
 at1 h_2 (Array.size h_1) (1 : Nat) (Value.int IntKind.i64 n_12) ∧
 atBytes h_2 (Array.size h_1) (2 : Nat) (32 : Nat) b ∧
 at1 h_2 (Array.size h_1) (34 : Nat) (Value.int IntKind.i64 n_13) ∧
 at1 h_2 (Array.size h_1) (35 : Nat) (Value.int IntKind.u64 n_14) ∧
 at1 h_2 (Array.size h_1) (36 : Nat) (slVal s_1) ∧
 atBytes h_2 (Array.size h_1) (37 : Nat) (16 : Nat) b_1) ∧
 CallsH Try.prog (11 : Nat)
 (TVs.vals
 [TV.agg
 [TV.slice s, TV.int IntKind.i64 n, TV.int IntKind.i64 n_1, TV.int IntKind.i64 n_2, TV.int IntKind.i64 n_3,
 TV.int IntKind.i64 n_4, TV.int IntKind.i64 n_5, TV.int IntKind.i64 n_6, TV.int IntKind.i64 n_7,
 TV.int IntKind.i64 n_8, TV.int IntKind.i64 n_9, TV.int IntKind.i64 n_10],
 TV.agg
 [TV.int IntKind.i64 n_11, TV.int IntKind.i64 n_12, TV.bytes (32 : Nat) b, TV.int IntKind.i64 n_13,
 TV.int IntKind.u64 n_14, TV.slice s_1, TV.bytes (16 : Nat) b_1]])
 h_2 fun (v : Value) (h : Array Obj) ↦
 ∃ (b : Bs (16 : Nat)),
 ∃ (b_2 : Bool),
 v = TV.val (TV.tup [TV.bytes (16 : Nat) b, TV.bool b_2]) ∧
 Vc.Bind (newTV h (TV.bytes (16 : Nat) (Bs.zero (16 : Nat))) (30 : Nat)) fun (h_3 : Array Obj) ↦
 wok h_3 (Array.size h) (0 : Nat) (16 : Nat) ∧
 Vc.Bind (TV.put h_3 (Array.size h) (0 : Nat) (TV.bytes (16 : Nat) b)) fun (h_4 : Array Obj) ↦
 If b_2
 (∃ (b : Bs (16 : Nat)),
 atBytes h_4 (Array.size h) (0 : Nat) (16 : Nat) b ∧
 ∃ (b_3 : Bs (16 : Nat)),
 atBytes h_4 (Array.size h_1) (37 : Nat) (16 : Nat) b_3 ∧
 R (TV.val (TV.bool (decide (b.l = b_3.l)))) h_4)
 (R (TV.val (TV.bool false)) h_4)

theorem seal_Check_calls (c_Validators : Sl) (c_Epoch : Int) (c_Committee : Int) (c_Nodes : Int) (c_Orphans : Int) (c_Early : Int) (c_Quota : Int) (c_Peers : Int) (c_Bytes : Int) (c_Window : Int) (c_Ban : Int) (c_Decay : Int) (m_Kind : Int) (m_Slot : Int) (m_Target : Bs (32 : Nat)) (m_Member : Int) (m_Body : Int) (m_Bits : Sl) (m_Tag : Bs (16 : Nat)) (h : Heap) (R : Value → Heap → Prop) (H : seal_Check_vc c_Validators c_Epoch c_Committee c_Nodes c_Orphans c_Early c_Quota c_Peers c_Bytes c_Window c_Ban c_Decay m_Kind m_Slot m_Target m_Member m_Body m_Bits m_Tag h R) : CallsH Try.prog 17 (TVs.vals [TV.agg [TV.slice c_Validators, TV.int IntKind.i64 c_Epoch, TV.int IntKind.i64 c_Committee, TV.int IntKind.i64 c_Nodes, TV.int IntKind.i64 c_Orphans, TV.int IntKind.i64 c_Early, TV.int IntKind.i64 c_Quota, TV.int IntKind.i64 c_Peers, TV.int IntKind.i64 c_Bytes, TV.int IntKind.i64 c_Window, TV.int IntKind.i64 c_Ban, TV.int IntKind.i64 c_Decay], TV.agg [TV.int IntKind.i64 m_Kind, TV.int IntKind.i64 m_Slot, TV.bytes (32 : Nat) m_Target, TV.int IntKind.i64 m_Member, TV.int IntKind.u64 m_Body, TV.slice m_Bits, TV.bytes (16 : Nat) m_Tag]]) h R :=
 vcFn_sound (C := ctx) ctx_ok (fn := Try.f17) Try.func17 ((by kernel_rfl : seal_Check_vc c_Validators c_Epoch c_Committee c_Nodes c_Orphans c_Early c_Quota c_Peers c_Bytes c_Window c_Ban c_Decay m_Kind m_Slot m_Target m_Member m_Body m_Bits m_Tag h R = vcFn ctx Try.f17 [TV.agg [TV.slice c_Validators, TV.int IntKind.i64 c_Epoch, TV.int IntKind.i64 c_Committee, TV.int IntKind.i64 c_Nodes, TV.int IntKind.i64 c_Orphans, TV.int IntKind.i64 c_Early, TV.int IntKind.i64 c_Quota, TV.int IntKind.i64 c_Peers, TV.int IntKind.i64 c_Bytes, TV.int IntKind.i64 c_Window, TV.int IntKind.i64 c_Ban, TV.int IntKind.i64 c_Decay], TV.agg [TV.int IntKind.i64 m_Kind, TV.int IntKind.i64 m_Slot, TV.bytes (32 : Nat) m_Target, TV.int IntKind.i64 m_Member, TV.int IntKind.u64 m_Body, TV.slice m_Bits, TV.bytes (16 : Nat) m_Tag]] h R) ▸ H)


def seal_Sign_vc (c_Validators : Sl) (c_Epoch : Int) (c_Committee : Int) (c_Nodes : Int) (c_Orphans : Int) (c_Early : Int) (c_Quota : Int) (c_Peers : Int) (c_Bytes : Int) (c_Window : Int) (c_Ban : Int) (c_Decay : Int) (m_Kind : Int) (m_Slot : Int) (m_Target : Bs (32 : Nat)) (m_Member : Int) (m_Body : Int) (m_Bits : Sl) (m_Tag : Bs (16 : Nat)) (h : Heap) (R : Value → Heap → Prop) : Prop :=
 Vc.Bind
 (newTV h
 (TV.agg
 [TV.slice c_Validators, TV.int IntKind.i64 c_Epoch, TV.int IntKind.i64 c_Committee, TV.int IntKind.i64 c_Nodes, TV.int IntKind.i64 c_Orphans,
 TV.int IntKind.i64 c_Early, TV.int IntKind.i64 c_Quota, TV.int IntKind.i64 c_Peers, TV.int IntKind.i64 c_Bytes, TV.int IntKind.i64 c_Window,
 TV.int IntKind.i64 c_Ban, TV.int IntKind.i64 c_Decay])
 (24 : Nat))
 fun (h_1 : Array Obj) ↦
 Vc.Bind
 (newTV h_1
 (TV.agg
 [TV.int IntKind.i64 m_Kind, TV.int IntKind.i64 m_Slot, TV.bytes (32 : Nat) m_Target, TV.int IntKind.i64 m_Member, TV.int IntKind.u64 m_Body,
 TV.slice m_Bits, TV.bytes (16 : Nat) m_Tag])
 (32 : Nat))
 fun (h_2 : Array Obj) ↦
 Vc.Bind
 (newTV h_2
 (TV.agg
 [TV.int IntKind.i64 (0 : Int), TV.int IntKind.i64 (0 : Int), TV.bytes (32 : Nat) (Bs.zero (32 : Nat)), TV.int IntKind.i64 (0 : Int),
 TV.int IntKind.u64 (0 : Int), TV.slice Sl.nil, TV.bytes (16 : Nat) (Bs.zero (16 : Nat))])
 (32 : Nat))
 fun (h_3 : Array Obj) ↦
 ∃ (s : Sl),
 ∃ (n : Int),
 ∃ (n_1 : Int),
 ∃ (n_2 : Int),
 ∃ (n_3 : Int),
 ∃ (n_4 : Int),
 ∃ (n_5 : Int),
 ∃ (n_6 : Int),
 ∃ (n_7 : Int),
 ∃ (n_8 : Int),
 ∃ (n_9 : Int),
 ∃ (n_10 : Int),
 (at1 h_3 (Array.size h) (0 : Nat) (slVal s) ∧
 at1 h_3 (Array.size h) (1 : Nat) (Value.int IntKind.i64 n) ∧
 at1 h_3 (Array.size h) (2 : Nat) (Value.int IntKind.i64 n_1) ∧
 at1 h_3 (Array.size h) (3 : Nat) (Value.int IntKind.i64 n_2) ∧
 at1 h_3 (Array.size h) (4 : Nat) (Value.int IntKind.i64 n_3) ∧
 at1 h_3 (Array.size h) (5 : Nat) (Value.int IntKind.i64 n_4) ∧
 at1 h_3 (Array.size h) (6 : Nat) (Value.int IntKind.i64 n_5) ∧
 at1 h_3 (Array.size h) (7 : Nat) (Value.int IntKind.i64 n_6) ∧
 at1 h_3 (Array.size h) (8 : Nat) (Value.int IntKind.i64 n_7) ∧
 at1 h_3 (Array.size h) (9 : Nat) (Value.int IntKind.i64 n_8) ∧
 at1 h_3 (Array.size h) (10 : Nat) (Value.int IntKind.i64 n_9) ∧
 at1 h_3 (Array.size h) (11 : Nat) (Value.int IntKind.i64 n_10)) ∧
 ∃ (n_11 : Int),
 ∃ (n_12 : Int),
 ∃ (b : Bs (32 : Nat)),
 ∃ (n_13 : Int),
 ∃ (n_14 : Int),
 ∃ (s_1 : Sl),
 ∃ (b_1 : Bs (16 : Nat)),
 (at1 h_3 (Array.size h_1) (0 : Nat) (Value.int IntKind.i64 n_11) ∧
 at1 h_3 (Array.size h_1) (1 : Nat) (Value.int IntKind.i64 n_12) ∧
 atBytes h_3 (Array.size h_1) (2 : Nat) (32 : Nat) b ∧
 at1 h_3 (Array.size h_1) (34 : Nat) (Value.int IntKind.i64 n_13) ∧
 at1 h_3 (Array.size h_1) (35 : Nat) (Value.int IntKind.u64 n_14) ∧
 at1 h_3 (Array.size h_1) (36 : Nat) (slVal s_1) ∧
 atBytes h_3 (Array.size h_1) (37 : Nat) (16 : Nat) b_1) ∧
 CallsH Try.prog (11 : Nat)
 (TVs.vals
 [TV.agg
 [TV.slice s, TV.int IntKind.i64 n, TV.int IntKind.i64 n_1, TV.int IntKind.i64 n_2,
 TV.int IntKind.i64 n_3, TV.int IntKind.i64 n_4, TV.int IntKind.i64 n_5, TV.int IntKind.i64 n_6,
 TV.int IntKind.i64 n_7, TV.int IntKind.i64 n_8, TV.int IntKind.i64 n_9, TV.int IntKind.i64 n_10],
 TV.agg
 [TV.int IntKind.i64 n_11, TV.int IntKind.i64 n_12, TV.bytes (32 : Nat) b, TV.int IntKind.i64 n_13,
 TV.int IntKind.u64 n_14, TV.slice s_1, TV.bytes (16 : Nat) b_1]])
 h_3 fun (v : Value) (h : Array Obj) ↦
 ∃ (b : Bs (16 : Nat)),
 ∃ (b_2 : Bool),
 v = TV.val (TV.tup [TV.bytes (16 : Nat) b, TV.bool b_2]) ∧
 Vc.Bind (newTV h (TV.bytes (16 : Nat) (Bs.zero (16 : Nat))) (30 : Nat)) fun (h_4 : Array Obj) ↦
 wok h_4 (Array.size h) (0 : Nat) (16 : Nat) ∧
 Vc.Bind (TV.put h_4 (Array.size h) (0 : Nat) (TV.bytes (16 : Nat) b)) fun (h_5 : Array Obj) ↦
 If (!b_2)
 (wok h_5 (Array.size h_2) (0 : Nat) (53 : Nat) ∧
 Vc.Bind
 (TV.put h_5 (Array.size h_2) (0 : Nat)
 (TV.agg
 [TV.int IntKind.i64 (0 : Int), TV.int IntKind.i64 (0 : Int),
 TV.bytes (32 : Nat) (Bs.zero (32 : Nat)), TV.int IntKind.i64 (0 : Int),
 TV.int IntKind.u64 (0 : Int), TV.slice Sl.nil,
 TV.bytes (16 : Nat) (Bs.zero (16 : Nat))]))
 fun (h : Array Obj) ↦
 ∃ (n : Int),
 ∃ (n_15 : Int),
 ∃ (b : Bs (32 : Nat)),
 ∃ (n_16 : Int),
 ∃ (n_17 : Int),
 ∃ (s : Sl),
 ∃ (b_3 : Bs (16 : Nat)),
 (at1 h (Array.size h_2) (0 : Nat) (Value.int IntKind.i64 n) ∧
 at1 h (Array.size h_2) (1 : Nat) (Value.int IntKind.i64 n_15) ∧
 atBytes h (Array.size h_2) (2 : Nat) (32 : Nat) b ∧
 at1 h (Array.size h_2) (34 : Nat) (Value.int IntKind.i64 n_16) ∧
 at1 h (Array.size h_2) (35 : Nat) (Value.int IntKind.u64 n_17) ∧
 at1 h (Array.size h_2) (36 : Nat) (slVal s) ∧
 atBytes h (Array.size h_2) (37 : Nat) (16 : Nat) b_3) ∧
 R
 (TV.val
 (TV.tup
 [TV.agg
 [TV.int IntKind.i64 n, TV.int IntKind.i64 n_15,
 TV.bytes (32 : Nat) b, TV.int IntKind.i64 n_16,
 TV.int IntKind.u64 n_17, TV.slice s, TV.bytes (16 : Nat) b_3],
 TV.bool false]))
 h)
 (∃ (b : Bs (16 : Nat)),
 atBytes h_5 (Array.size h) (0 : Nat) (16 : Nat) b ∧
 wok h_5 (Array.size h_1) (37 : Nat) (16 : Nat) ∧
 Vc.Bind (TV.put h_5 (Array.size h_1) (37 : Nat) (TV.bytes (16 : Nat) b))
 fun (h : Array Obj) ↦
 ∃ (n : Int),
 ∃ (n_15 : Int),
 ∃ (b : Bs (32 : Nat)),
 ∃ (n_16 : Int),
 ∃ (n_17 : Int),
 ∃ (s : Sl),
 ∃ (b_3 : Bs (16 : Nat)),
 (at1 h (Array.size h_1) (0 : Nat) (Value.int IntKind.i64 n) ∧
 at1 h (Array.size h_1) (1 : Nat) (Value.int IntKind.i64 n_15) ∧
 atBytes h (Array.size h_1) (2 : Nat) (32 : Nat) b ∧
 at1 h (Array.size h_1) (34 : Nat) (Value.int IntKind.i64 n_16) ∧
 at1 h (Array.size h_1) (35 : Nat) (Value.int IntKind.u64 n_17) ∧
 at1 h (Array.size h_1) (36 : Nat) (slVal s) ∧
 atBytes h (Array.size h_1) (37 : Nat) (16 : Nat) b_3) ∧
 wok h (Array.size h_2) (0 : Nat) (53 : Nat) ∧
 Vc.Bind
 (TV.put h (Array.size h_2) (0 : Nat)
 (TV.agg
 [TV.int IntKind.i64 n, TV.int IntKind.i64 n_15,
 TV.bytes (32 : Nat) b, TV.int IntKind.i64 n_16,
 TV.int IntKind.u64 n_17, TV.slice s,
 TV.bytes (16 : Nat) b_3]))
 fun (h : Array Obj) ↦
 ∃ (n : Int),
 ∃ (n_18 : Int),
 ∃ (b : Bs (32 : Nat)),
 ∃ (n_19 : Int),
 ∃ (n_20 : Int),
 ∃ (s : Sl),
 ∃ (b_4 : Bs (16 : Nat)),
 (at1 h (Array.size h_2) (0 : Nat)
 (Value.int IntKind.i64 n) ∧
 at1 h (Array.size h_2) (1 : Nat)
 (Value.int IntKind.i64 n_18) ∧
 atBytes h (Array.size h_2) (2 : Nat) (32 : Nat)
 b ∧
 at1 h (Array.size h_2) (34 : Nat)
 (Value.int IntKind.i64 n_19) ∧
 at1 h (Array.size h_2) (35 : Nat)
 (Value.int IntKind.u64 n_20) ∧
 at1 h (Array.size h_2) (36 : Nat)
 (slVal s) ∧
 atBytes h (Array.size h_2) (37 : Nat)
 (16 : Nat) b_4) ∧
 R
 (TV.val
 (TV.tup
 [TV.agg
 [TV.int IntKind.i64 n,
 TV.int IntKind.i64 n_18,
 TV.bytes (32 : Nat) b,
 TV.int IntKind.i64 n_19,
 TV.int IntKind.u64 n_20, TV.slice s,
 TV.bytes (16 : Nat) b_4],
 TV.bool true]))
 h)

theorem seal_Sign_calls (c_Validators : Sl) (c_Epoch : Int) (c_Committee : Int) (c_Nodes : Int) (c_Orphans : Int) (c_Early : Int) (c_Quota : Int) (c_Peers : Int) (c_Bytes : Int) (c_Window : Int) (c_Ban : Int) (c_Decay : Int) (m_Kind : Int) (m_Slot : Int) (m_Target : Bs (32 : Nat)) (m_Member : Int) (m_Body : Int) (m_Bits : Sl) (m_Tag : Bs (16 : Nat)) (h : Heap) (R : Value → Heap → Prop) (H : seal_Sign_vc c_Validators c_Epoch c_Committee c_Nodes c_Orphans c_Early c_Quota c_Peers c_Bytes c_Window c_Ban c_Decay m_Kind m_Slot m_Target m_Member m_Body m_Bits m_Tag h R) : CallsH Try.prog 22 (TVs.vals [TV.agg [TV.slice c_Validators, TV.int IntKind.i64 c_Epoch, TV.int IntKind.i64 c_Committee, TV.int IntKind.i64 c_Nodes, TV.int IntKind.i64 c_Orphans, TV.int IntKind.i64 c_Early, TV.int IntKind.i64 c_Quota, TV.int IntKind.i64 c_Peers, TV.int IntKind.i64 c_Bytes, TV.int IntKind.i64 c_Window, TV.int IntKind.i64 c_Ban, TV.int IntKind.i64 c_Decay], TV.agg [TV.int IntKind.i64 m_Kind, TV.int IntKind.i64 m_Slot, TV.bytes (32 : Nat) m_Target, TV.int IntKind.i64 m_Member, TV.int IntKind.u64 m_Body, TV.slice m_Bits, TV.bytes (16 : Nat) m_Tag]]) h R :=
 vcFn_sound (C := ctx) ctx_ok (fn := Try.f22) Try.func22 ((by kernel_rfl : seal_Sign_vc c_Validators c_Epoch c_Committee c_Nodes c_Orphans c_Early c_Quota c_Peers c_Bytes c_Window c_Ban c_Decay m_Kind m_Slot m_Target m_Member m_Body m_Bits m_Tag h R = vcFn ctx Try.f22 [TV.agg [TV.slice c_Validators, TV.int IntKind.i64 c_Epoch, TV.int IntKind.i64 c_Committee, TV.int IntKind.i64 c_Nodes, TV.int IntKind.i64 c_Orphans, TV.int IntKind.i64 c_Early, TV.int IntKind.i64 c_Quota, TV.int IntKind.i64 c_Peers, TV.int IntKind.i64 c_Bytes, TV.int IntKind.i64 c_Window, TV.int IntKind.i64 c_Ban, TV.int IntKind.i64 c_Decay], TV.agg [TV.int IntKind.i64 m_Kind, TV.int IntKind.i64 m_Slot, TV.bytes (32 : Nat) m_Target, TV.int IntKind.i64 m_Member, TV.int IntKind.u64 m_Body, TV.slice m_Bits, TV.bytes (16 : Nat) m_Tag]] h R) ▸ H)


end Go.Proofs.Ytgdhddignbkloaa

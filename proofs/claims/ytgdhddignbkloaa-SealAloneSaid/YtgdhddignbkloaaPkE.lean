/- Texts that the proof needs, joined: VsSealK, SealK, VcU, VsSealIs, VsSealSigns, SealL, VsSealKeys, SealM, VsSealAlone, SealN, SealH, VcB2. -/
import Derived.Test.YtgdhddignbkloaaPkD

section
/- The conditions of functions, as the generator reckons them out, each with the proof that it is that. -/
namespace Go.Proofs.Ytgdhddignbkloaa
open Go Go.Vc
set_option maxRecDepth 100000
set_option linter.unusedVariables false

def tollerref07_text_vc (b : Sl) (h : Heap) (R : Value → Heap → Prop) : Prop :=
 ∃ (bs : List UInt8), strAt h b bs ∧ R (TV.val (TV.str bs)) h

theorem tollerref07_text_calls (b : Sl) (h : Heap) (R : Value → Heap → Prop) (H : tollerref07_text_vc b h R) : CallsH Try.prog 54 (TVs.vals [TV.slice b]) h R :=
 vcFn_sound (C := ctx) ctx_ok (fn := Try.f54) Try.func54 ((by kernel_rfl : tollerref07_text_vc b h R = vcFn ctx Try.f54 [TV.slice b] h R) ▸ H)


def tollerref07_Plain_vc (m_Kind : Int) (m_Slot : Int) (m_Target : Bs (32 : Nat)) (m_Member : Int) (m_Body : Int) (m_Bits : Sl) (m_Tag : Bs (16 : Nat)) (h : Heap) (R : Value → Heap → Prop) : Prop :=
 Vc.Bind
 (newTV h
 (TV.agg
 [TV.int IntKind.i64 m_Kind, TV.int IntKind.i64 m_Slot, TV.bytes (32 : Nat) m_Target, TV.int IntKind.i64 m_Member, TV.int IntKind.u64 m_Body,
 TV.slice m_Bits, TV.bytes (16 : Nat) m_Tag])
 (32 : Nat))
 fun (h_1 : Array Obj) ↦
 Join
 (fun (s : Int × Int × List UInt8 × Int × Int × List UInt8 × List UInt8 × Sl × Sl × Sl × List UInt8 × List UInt8 × List UInt8) (h_2 : Array Obj) ↦
 ∃ (n : Int),
 at1 h_2 (Array.size h) (0 : Nat) (Value.int IntKind.i64 n) ∧
 If (decide (n = (3 : Int)))
 (∃ (s_1 : Sl),
 at1 h_2 (Array.size h) (36 : Nat) (slVal s_1) ∧
 CallsH Try.prog (55 : Nat) (TVs.vals [TV.slice s_1]) h_2 fun (v : Value) (h_3 : Array Obj) ↦
 ∃ (s_2 : List UInt8),
 v = TV.val (TV.str s_2) ∧
 (↑(List.length s.snd.snd.snd.snd.snd.snd.snd.snd.snd.snd.snd.snd + List.length s_2) : Int) ≤ (9223372036854775807 : Int) ∧
 R (TV.val (TV.str (s.snd.snd.snd.snd.snd.snd.snd.snd.snd.snd.snd.snd ++ s_2))) h_3)
 (∃ (n : Int),
 at1 h_2 (Array.size h) (34 : Nat) (Value.int IntKind.i64 n) ∧
 CallsH Try.prog (44 : Nat) (TVs.vals [TV.int IntKind.u64 (IntKind.wrap IntKind.u64 n), TV.int IntKind.i64 (2 : Int)]) h_2
 fun (v : Value) (h_3 : Array Obj) ↦
 ∃ (s_1 : List UInt8),
 v = TV.val (TV.str s_1) ∧
 (↑(List.length s.snd.snd.snd.snd.snd.snd.snd.snd.snd.snd.snd.snd + List.length s_1) : Int) ≤ (9223372036854775807 : Int) ∧
 ∃ (n : Int),
 at1 h_3 (Array.size h) (0 : Nat) (Value.int IntKind.i64 n) ∧
 If (decide (n = (1 : Int)))
 (∃ (n : Int),
 at1 h_3 (Array.size h) (35 : Nat) (Value.int IntKind.u64 n) ∧
 CallsH Try.prog (44 : Nat) (TVs.vals [TV.int IntKind.u64 n, TV.int IntKind.i64 (8 : Int)]) h_3
 fun (v : Value) (h_4 : Array Obj) ↦
 ∃ (s_2 : List UInt8),
 v = TV.val (TV.str s_2) ∧
 (↑(List.length (s.snd.snd.snd.snd.snd.snd.snd.snd.snd.snd.snd.snd ++ s_1) + List.length s_2) : Int) ≤
 (9223372036854775807 : Int) ∧
 R (TV.val (TV.str (s.snd.snd.snd.snd.snd.snd.snd.snd.snd.snd.snd.snd ++ s_1 ++ s_2))) h_4)
 (R (TV.val (TV.str (s.snd.snd.snd.snd.snd.snd.snd.snd.snd.snd.snd.snd ++ s_1))) h_3)))
 fun (J : Int × Int × List UInt8 × Int × Int × List UInt8 × List UInt8 × Sl × Sl × Sl × List UInt8 × List UInt8 × List UInt8 → Array Obj → Prop) ↦
 ∃ (n : Int),
 at1 h_1 (Array.size h) (0 : Nat) (Value.int IntKind.i64 n) ∧
 ∃ (n_1 : Int),
 at1 h_1 (Array.size h) (1 : Nat) (Value.int IntKind.i64 n_1) ∧
 (CallsH Try.prog (44 : Nat) (TVs.vals [TV.int IntKind.u64 (IntKind.wrap IntKind.u64 n), TV.int IntKind.i64 (1 : Int)]) h_1
 fun (v : Value) (h_2 : Array Obj) ↦
 ∃ (s : List UInt8),
 v = TV.val (TV.str s) ∧
 Ext h_1 h_2 ∧
 (CallsH Try.prog (44 : Nat) (TVs.vals [TV.int IntKind.u64 (IntKind.wrap IntKind.u64 n_1), TV.int IntKind.i64 (4 : Int)]) h_2
 fun (v : Value) (h_3 : Array Obj) ↦
 ∃ (s_1 : List UInt8),
 v = TV.val (TV.str s_1) ∧
 (↑(List.length s + List.length s_1) : Int) ≤ (9223372036854775807 : Int) ∧
 Ext h_3 (Array.push h_3 (row (TVs.cells []) (5 : Nat))) ∧
 ∃ (new : List Value),
 slAt (Array.push h_3 (row (TVs.cells []) (5 : Nat)))
 (cutSl (Sl.mk (some (Loc.mk (Array.size h) (2 : Nat))) (32 : Nat) (32 : Nat)) (0 : Nat) (32 : Nat) (1 : Nat)) (1 : Nat)
 new ∧
 (∀ (v : Value), v ∈ new → isOne v = true) ∧
 vcAppend Ytgdhddignbkloaa.ctx (5 : Nat) (Sl.mk (some (Loc.mk (Array.size h_3) (0 : Nat))) (0 : Nat) (0 : Nat))
 (cutSl (Sl.mk (some (Loc.mk (Array.size h) (2 : Nat))) (32 : Nat) (32 : Nat)) (0 : Nat) (32 : Nat) (1 : Nat)).len new
 (Array.push h_3 (row (TVs.cells []) (5 : Nat))) fun (s_2 : Sl) (h_4 : Array Obj) ↦
 CallsH Try.prog (54 : Nat) (TVs.vals [TV.slice s_2]) h_4 fun (v : Value) (h_5 : Array Obj) ↦
 ∃ (s_3 : List UInt8),
 v = TV.val (TV.str s_3) ∧
 (↑(List.length (s ++ s_1) + List.length s_3) : Int) ≤ (9223372036854775807 : Int) ∧
 J
 (n, IntKind.wrap IntKind.u64 n, s, n_1, IntKind.wrap IntKind.u64 n_1, s_1, s ++ s_1,
 Sl.mk (some (Loc.mk (Array.size h_3) (0 : Nat))) (0 : Nat) (0 : Nat),
 cutSl (Sl.mk (some (Loc.mk (Array.size h) (2 : Nat))) (32 : Nat) (32 : Nat)) (0 : Nat) (32 : Nat)
 (1 : Nat),
 s_2, s_3, s ++ s_1 ++ s_3, s ++ s_1 ++ s_3)
 h_5) ∧
 Ext h_2 (Array.push h_2 (row (TVs.cells []) (5 : Nat))) ∧
 CallsH Try.prog (44 : Nat) (TVs.vals [TV.int IntKind.u64 (IntKind.wrap IntKind.u64 n_1), TV.int IntKind.i64 (4 : Int)])
 (Array.push h_2 (row (TVs.cells []) (5 : Nat))) fun (v : Value) (h_3 : Array Obj) ↦
 ∃ (s_1 : List UInt8),
 v = TV.val (TV.str s_1) ∧
 (↑(List.length s + List.length s_1) : Int) ≤ (9223372036854775807 : Int) ∧
 ∃ (new : List Value),
 slAt h_3 (cutSl (Sl.mk (some (Loc.mk (Array.size h) (2 : Nat))) (32 : Nat) (32 : Nat)) (0 : Nat) (32 : Nat) (1 : Nat))
 (1 : Nat) new ∧
 (∀ (v : Value), v ∈ new → isOne v = true) ∧
 vcAppend Ytgdhddignbkloaa.ctx (5 : Nat) (Sl.mk (some (Loc.mk (Array.size h_2) (0 : Nat))) (0 : Nat) (0 : Nat))
 (cutSl (Sl.mk (some (Loc.mk (Array.size h) (2 : Nat))) (32 : Nat) (32 : Nat)) (0 : Nat) (32 : Nat) (1 : Nat)).len new
 h_3 fun (s_2 : Sl) (h_4 : Array Obj) ↦
 CallsH Try.prog (54 : Nat) (TVs.vals [TV.slice s_2]) h_4 fun (v : Value) (h_5 : Array Obj) ↦
 ∃ (s_3 : List UInt8),
 v = TV.val (TV.str s_3) ∧
 (↑(List.length (s ++ s_1) + List.length s_3) : Int) ≤ (9223372036854775807 : Int) ∧
 J
 (n, IntKind.wrap IntKind.u64 n, s, n_1, IntKind.wrap IntKind.u64 n_1, s_1, s ++ s_1,
 Sl.mk (some (Loc.mk (Array.size h_2) (0 : Nat))) (0 : Nat) (0 : Nat),
 cutSl (Sl.mk (some (Loc.mk (Array.size h) (2 : Nat))) (32 : Nat) (32 : Nat)) (0 : Nat) (32 : Nat)
 (1 : Nat),
 s_2, s_3, s ++ s_1 ++ s_3, s ++ s_1 ++ s_3)
 h_5) ∧
 Ext h_1 (Array.push h_1 (row (TVs.cells []) (5 : Nat))) ∧
 CallsH Try.prog (44 : Nat) (TVs.vals [TV.int IntKind.u64 (IntKind.wrap IntKind.u64 n), TV.int IntKind.i64 (1 : Int)])
 (Array.push h_1 (row (TVs.cells []) (5 : Nat))) fun (v : Value) (h_2 : Array Obj) ↦
 ∃ (s : List UInt8),
 v = TV.val (TV.str s) ∧
 Ext (Array.push h_1 (row (TVs.cells []) (5 : Nat))) h_2 ∧
 CallsH Try.prog (44 : Nat) (TVs.vals [TV.int IntKind.u64 (IntKind.wrap IntKind.u64 n_1), TV.int IntKind.i64 (4 : Int)]) h_2
 fun (v : Value) (h_3 : Array Obj) ↦
 ∃ (s_1 : List UInt8),
 v = TV.val (TV.str s_1) ∧
 (↑(List.length s + List.length s_1) : Int) ≤ (9223372036854775807 : Int) ∧
 ∃ (new : List Value),
 slAt h_3 (cutSl (Sl.mk (some (Loc.mk (Array.size h) (2 : Nat))) (32 : Nat) (32 : Nat)) (0 : Nat) (32 : Nat) (1 : Nat))
 (1 : Nat) new ∧
 (∀ (v : Value), v ∈ new → isOne v = true) ∧
 vcAppend Ytgdhddignbkloaa.ctx (5 : Nat) (Sl.mk (some (Loc.mk (Array.size h_1) (0 : Nat))) (0 : Nat) (0 : Nat))
 (cutSl (Sl.mk (some (Loc.mk (Array.size h) (2 : Nat))) (32 : Nat) (32 : Nat)) (0 : Nat) (32 : Nat) (1 : Nat)).len new
 h_3 fun (s_2 : Sl) (h_4 : Array Obj) ↦
 CallsH Try.prog (54 : Nat) (TVs.vals [TV.slice s_2]) h_4 fun (v : Value) (h_5 : Array Obj) ↦
 ∃ (s_3 : List UInt8),
 v = TV.val (TV.str s_3) ∧
 (↑(List.length (s ++ s_1) + List.length s_3) : Int) ≤ (9223372036854775807 : Int) ∧
 J
 (n, IntKind.wrap IntKind.u64 n, s, n_1, IntKind.wrap IntKind.u64 n_1, s_1, s ++ s_1,
 Sl.mk (some (Loc.mk (Array.size h_1) (0 : Nat))) (0 : Nat) (0 : Nat),
 cutSl (Sl.mk (some (Loc.mk (Array.size h) (2 : Nat))) (32 : Nat) (32 : Nat)) (0 : Nat) (32 : Nat) (1 : Nat),
 s_2, s_3, s ++ s_1 ++ s_3, s ++ s_1 ++ s_3)
 h_5

theorem tollerref07_Plain_calls (m_Kind : Int) (m_Slot : Int) (m_Target : Bs (32 : Nat)) (m_Member : Int) (m_Body : Int) (m_Bits : Sl) (m_Tag : Bs (16 : Nat)) (h : Heap) (R : Value → Heap → Prop) (H : tollerref07_Plain_vc m_Kind m_Slot m_Target m_Member m_Body m_Bits m_Tag h R) : CallsH Try.prog 38 (TVs.vals [TV.agg [TV.int IntKind.i64 m_Kind, TV.int IntKind.i64 m_Slot, TV.bytes (32 : Nat) m_Target, TV.int IntKind.i64 m_Member, TV.int IntKind.u64 m_Body, TV.slice m_Bits, TV.bytes (16 : Nat) m_Tag]]) h R :=
 vcFn_sound (C := ctx) ctx_ok (fn := Try.f38) Try.func38 ((by kernel_rfl : tollerref07_Plain_vc m_Kind m_Slot m_Target m_Member m_Body m_Bits m_Tag h R = vcFn ctx Try.f38 [TV.agg [TV.int IntKind.i64 m_Kind, TV.int IntKind.i64 m_Slot, TV.bytes (32 : Nat) m_Target, TV.int IntKind.i64 m_Member, TV.int IntKind.u64 m_Body, TV.slice m_Bits, TV.bytes (16 : Nat) m_Tag]] h R) ▸ H)


def tollerref08_Tag_vc (c_Validators : Sl) (c_Epoch : Int) (c_Committee : Int) (c_Nodes : Int) (c_Orphans : Int) (c_Early : Int) (c_Quota : Int) (c_Peers : Int) (c_Bytes : Int) (c_Window : Int) (c_Ban : Int) (c_Decay : Int) (m_Kind : Int) (m_Slot : Int) (m_Target : Bs (32 : Nat)) (m_Member : Int) (m_Body : Int) (m_Bits : Sl) (m_Tag : Bs (16 : Nat)) (h : Heap) (R : Value → Heap → Prop) : Prop :=
 Vc.Bind
 (newTV h
 (TV.agg
 [TV.slice c_Validators, TV.int IntKind.i64 c_Epoch, TV.int IntKind.i64 c_Committee, TV.int IntKind.i64 c_Nodes, TV.int IntKind.i64 c_Orphans,
 TV.int IntKind.i64 c_Early, TV.int IntKind.i64 c_Quota, TV.int IntKind.i64 c_Peers, TV.int IntKind.i64 c_Bytes, TV.int IntKind.i64 c_Window,
 TV.int IntKind.i64 c_Ban, TV.int IntKind.i64 c_Decay])
 (24 : Nat))
 fun (h_1 : Array Obj) ↦
 Vc.Bind
 (newTV h_1
 (TV.agg
 [TV.int IntKind.i64 m_Kind, TV.int IntKind.i64 m_Slot, TV.bytes (32 : Nat) m_Target, TV.int IntKind.i64 m_Member, TV.int IntKind.u64 m_Body,
 TV.slice m_Bits, TV.bytes (16 : Nat) m_Tag])
 (32 : Nat))
 fun (h_2 : Array Obj) ↦
 Vc.Bind (newTV h_2 (TV.bytes (16 : Nat) (Bs.zero (16 : Nat))) (30 : Nat)) fun (h_3 : Array Obj) ↦
 ∃ (s : Sl),
 ∃ (n : Int),
 ∃ (n_1 : Int),
 ∃ (n_2 : Int),
 ∃ (n_3 : Int),
 ∃ (n_4 : Int),
 ∃ (n_5 : Int),
 ∃ (n_6 : Int),
 ∃ (n_7 : Int),
 ∃ (n_8 : Int),
 ∃ (n_9 : Int),
 ∃ (n_10 : Int),
 (at1 h_3 (Array.size h) (0 : Nat) (slVal s) ∧
 at1 h_3 (Array.size h) (1 : Nat) (Value.int IntKind.i64 n) ∧
 at1 h_3 (Array.size h) (2 : Nat) (Value.int IntKind.i64 n_1) ∧
 at1 h_3 (Array.size h) (3 : Nat) (Value.int IntKind.i64 n_2) ∧
 at1 h_3 (Array.size h) (4 : Nat) (Value.int IntKind.i64 n_3) ∧
 at1 h_3 (Array.size h) (5 : Nat) (Value.int IntKind.i64 n_4) ∧
 at1 h_3 (Array.size h) (6 : Nat) (Value.int IntKind.i64 n_5) ∧
 at1 h_3 (Array.size h) (7 : Nat) (Value.int IntKind.i64 n_6) ∧
 at1 h_3 (Array.size h) (8 : Nat) (Value.int IntKind.i64 n_7) ∧
 at1 h_3 (Array.size h) (9 : Nat) (Value.int IntKind.i64 n_8) ∧
 at1 h_3 (Array.size h) (10 : Nat) (Value.int IntKind.i64 n_9) ∧
 at1 h_3 (Array.size h) (11 : Nat) (Value.int IntKind.i64 n_10)) ∧
 ∃ (n_11 : Int),
 ∃ (n_12 : Int),
 ∃ (b : Bs (32 : Nat)),
 ∃ (n_13 : Int),
 ∃ (n_14 : Int),
 ∃ (s_1 : Sl),
 ∃ (b_1 : Bs (16 : Nat)),
 (at1 h_3 (Array.size h_1) (0 : Nat) (Value.int IntKind.i64 n_11) ∧
 at1 h_3 (Array.size h_1) (1 : Nat) (Value.int IntKind.i64 n_12) ∧
 atBytes h_3 (Array.size h_1) (2 : Nat) (32 : Nat) b ∧
 at1 h_3 (Array.size h_1) (34 : Nat) (Value.int IntKind.i64 n_13) ∧
 at1 h_3 (Array.size h_1) (35 : Nat) (Value.int IntKind.u64 n_14) ∧
 at1 h_3 (Array.size h_1) (36 : Nat) (slVal s_1) ∧
 atBytes h_3 (Array.size h_1) (37 : Nat) (16 : Nat) b_1) ∧
 CallsH Try.prog (18 : Nat)
 (TVs.vals
 [TV.agg
 [TV.slice s, TV.int IntKind.i64 n, TV.int IntKind.i64 n_1, TV.int IntKind.i64 n_2,
 TV.int IntKind.i64 n_3, TV.int IntKind.i64 n_4, TV.int IntKind.i64 n_5, TV.int IntKind.i64 n_6,
 TV.int IntKind.i64 n_7, TV.int IntKind.i64 n_8, TV.int IntKind.i64 n_9, TV.int IntKind.i64 n_10],
 TV.agg
 [TV.int IntKind.i64 n_11, TV.int IntKind.i64 n_12, TV.bytes (32 : Nat) b, TV.int IntKind.i64 n_13,
 TV.int IntKind.u64 n_14, TV.slice s_1, TV.bytes (16 : Nat) b_1]])
 h_3 fun (v : Value) (h_4 : Array Obj) ↦
 ∃ (s : Sl),
 ∃ (b : Bool),
 v = TV.val (TV.tup [TV.slice s, TV.bool b]) ∧
 If (!b)
 (wok h_4 (Array.size h_2) (0 : Nat) (16 : Nat) ∧
 Vc.Bind (TV.put h_4 (Array.size h_2) (0 : Nat) (TV.bytes (16 : Nat) (Bs.zero (16 : Nat))))
 fun (h : Array Obj) ↦
 ∃ (b : Bs (16 : Nat)),
 atBytes h (Array.size h_2) (0 : Nat) (16 : Nat) b ∧
 R (TV.val (TV.tup [TV.bytes (16 : Nat) b, TV.bool false])) h)
 (∃ (n : Int),
 at1 h_4 (Array.size h_1) (0 : Nat) (Value.int IntKind.i64 n) ∧
 If (!decide (n = (3 : Int)))
 (∃ (s : Sl),
 at1 h_4 (Array.size h) (0 : Nat) (slVal s) ∧
 ∃ (n : Int),
 at1 h_4 (Array.size h_1) (34 : Nat) (Value.int IntKind.i64 n) ∧
 (0 : Int) ≤ n ∧
 n < (↑s.len : Int) ∧
 Nn s.a fun (l : Go.Vc.Loc) ↦
 ∃ (s : List UInt8),
 at1 h_4 l.b (l.o + Int.toNat n * (2 : Nat) + (1 : Nat))
 (Value.string (ByteArray.mk (List.toArray s))) ∧
 ∃ (n : Int),
 ∃ (n_15 : Int),
 ∃ (b : Bs (32 : Nat)),
 ∃ (n_16 : Int),
 ∃ (n_17 : Int),
 ∃ (s_2 : Sl),
 ∃ (b_2 : Bs (16 : Nat)),
 (at1 h_4 (Array.size h_1) (0 : Nat) (Value.int IntKind.i64 n) ∧
 at1 h_4 (Array.size h_1) (1 : Nat)
 (Value.int IntKind.i64 n_15) ∧
 atBytes h_4 (Array.size h_1) (2 : Nat) (32 : Nat) b ∧
 at1 h_4 (Array.size h_1) (34 : Nat)
 (Value.int IntKind.i64 n_16) ∧
 at1 h_4 (Array.size h_1) (35 : Nat)
 (Value.int IntKind.u64 n_17) ∧
 at1 h_4 (Array.size h_1) (36 : Nat) (slVal s_2) ∧
 atBytes h_4 (Array.size h_1) (37 : Nat) (16 : Nat)
 b_2) ∧
 CallsH Try.prog (38 : Nat)
 (TVs.vals
 [TV.agg
 [TV.int IntKind.i64 n, TV.int IntKind.i64 n_15,
 TV.bytes (32 : Nat) b, TV.int IntKind.i64 n_16,
 TV.int IntKind.u64 n_17, TV.slice s_2,
 TV.bytes (16 : Nat) b_2]])
 h_4 fun (v : Value) (h : Array Obj) ↦
 ∃ (s_3 : List UInt8),
 v = TV.val (TV.str s_3) ∧
 Ext h_4 h ∧
 CallsH Try.prog (37 : Nat)
 (TVs.vals [TV.str s, TV.str s_3]) h
 fun (v : Value) (h : Array Obj) ↦
 ∃ (b : Bs (16 : Nat)),
 v = TV.val (TV.bytes (16 : Nat) b) ∧
 wok h (Array.size h_2) (0 : Nat) (16 : Nat) ∧
 Vc.Bind
 (TV.put h (Array.size h_2) (0 : Nat)
 (TV.bytes (16 : Nat) b))
 fun (h : Array Obj) ↦
 ∃ (b : Bs (16 : Nat)),
 atBytes h (Array.size h_2) (0 : Nat)
 (16 : Nat) b ∧
 R
 (TV.val
 (TV.tup
 [TV.bytes (16 : Nat) b,
 TV.bool true]))
 h)
 (Go.Vc.Loop (Sl.mk none (0 : Nat) (0 : Nat), (0 : Int)) h_4
 fun (s_2 : Sl × Int) (h_5 : Array Obj) (K : Sl × Int → Array Obj → Prop) ↦
 If (decide (s_2.snd < (↑s.len : Int)))
 ((0 : Int) ≤ s_2.snd ∧
 s_2.snd < (↑s.len : Int) ∧
 Nn s.a fun (l : Go.Vc.Loc) ↦
 ∃ (n : Int),
 at1 h_5 l.b (l.o + Int.toNat s_2.snd * (1 : Nat)) (Value.int IntKind.i64 n) ∧
 ∃ (s : Sl),
 at1 h_5 (Array.size h) (0 : Nat) (slVal s) ∧
 (0 : Int) ≤ n ∧
 n < (↑s.len : Int) ∧
 Nn s.a fun (l : Go.Vc.Loc) ↦
 ∃ (s : List UInt8),
 at1 h_5 l.b (l.o + Int.toNat n * (2 : Nat) + (1 : Nat))
 (Value.string (ByteArray.mk (List.toArray s))) ∧
 ∃ (n_15 : Int),
 at1 h_5 (Array.size h_1) (1 : Nat) (Value.int IntKind.i64 n_15) ∧
 ∃ (b : Bs (32 : Nat)),
 atBytes h_5 (Array.size h_1) (2 : Nat) (32 : Nat) b ∧
 CallsH Try.prog (38 : Nat)
 (TVs.vals
 [TV.agg
 [TV.int IntKind.i64 (2 : Int),
 TV.int IntKind.i64 n_15, TV.bytes (32 : Nat) b,
 TV.int IntKind.i64 n,
 TV.int IntKind.u64 (0 : Int), TV.slice Sl.nil,
 TV.bytes (16 : Nat) (Bs.zero (16 : Nat))]])
 h_5 fun (v : Value) (h : Array Obj) ↦
 ∃ (s_3 : List UInt8),
 v = TV.val (TV.str s_3) ∧
 Ext h_5 h ∧
 CallsH Try.prog (37 : Nat)
 (TVs.vals [TV.str s, TV.str s_3]) h
 fun (v : Value) (h : Array Obj) ↦
 ∃ (b : Bs (16 : Nat)),
 v = TV.val (TV.bytes (16 : Nat) b) ∧
 ∃ (new : List Value),
 slAt
 (Array.push h
 (row
 (TVs.cells [TV.bytes (16 : Nat) b])
 (30 : Nat)))
 (Sl.mk
 (some
 (Loc.mk (Array.size h) (0 : Nat)))
 (1 : Nat) (1 : Nat))
 (16 : Nat) new ∧
 (∀ (v : Value),
 v ∈ new → isOne v = true) ∧
 vcAppend Ytgdhddignbkloaa.ctx (30 : Nat)
 s_2.fst (1 : Nat) new
 (Array.push h
 (row
 (TVs.cells
 [TV.bytes (16 : Nat) b])
 (30 : Nat)))
 fun (s : Sl) (h : Array Obj) ↦
 K
 (s,
 IntKind.wrap IntKind.i64
 (s_2.snd + (1 : Int)))
 h)
 (CallsH Try.prog (39 : Nat) (TVs.vals [TV.slice s_2.fst]) h_5
 fun (v : Value) (h : Array Obj) ↦
 ∃ (b : Bs (16 : Nat)),
 v = TV.val (TV.bytes (16 : Nat) b) ∧
 wok h (Array.size h_2) (0 : Nat) (16 : Nat) ∧
 Vc.Bind (TV.put h (Array.size h_2) (0 : Nat) (TV.bytes (16 : Nat) b))
 fun (h : Array Obj) ↦
 ∃ (b : Bs (16 : Nat)),
 atBytes h (Array.size h_2) (0 : Nat) (16 : Nat) b ∧
 R (TV.val (TV.tup [TV.bytes (16 : Nat) b, TV.bool true])) h)))

theorem tollerref08_Tag_calls (c_Validators : Sl) (c_Epoch : Int) (c_Committee : Int) (c_Nodes : Int) (c_Orphans : Int) (c_Early : Int) (c_Quota : Int) (c_Peers : Int) (c_Bytes : Int) (c_Window : Int) (c_Ban : Int) (c_Decay : Int) (m_Kind : Int) (m_Slot : Int) (m_Target : Bs (32 : Nat)) (m_Member : Int) (m_Body : Int) (m_Bits : Sl) (m_Tag : Bs (16 : Nat)) (h : Heap) (R : Value → Heap → Prop) (H : tollerref08_Tag_vc c_Validators c_Epoch c_Committee c_Nodes c_Orphans c_Early c_Quota c_Peers c_Bytes c_Window c_Ban c_Decay m_Kind m_Slot m_Target m_Member m_Body m_Bits m_Tag h R) : CallsH Try.prog 19 (TVs.vals [TV.agg [TV.slice c_Validators, TV.int IntKind.i64 c_Epoch, TV.int IntKind.i64 c_Committee, TV.int IntKind.i64 c_Nodes, TV.int IntKind.i64 c_Orphans, TV.int IntKind.i64 c_Early, TV.int IntKind.i64 c_Quota, TV.int IntKind.i64 c_Peers, TV.int IntKind.i64 c_Bytes, TV.int IntKind.i64 c_Window, TV.int IntKind.i64 c_Ban, TV.int IntKind.i64 c_Decay], TV.agg [TV.int IntKind.i64 m_Kind, TV.int IntKind.i64 m_Slot, TV.bytes (32 : Nat) m_Target, TV.int IntKind.i64 m_Member, TV.int IntKind.u64 m_Body, TV.slice m_Bits, TV.bytes (16 : Nat) m_Tag]]) h R :=
 vcFn_sound (C := ctx) ctx_ok (fn := Try.f19) Try.func19 ((by kernel_rfl : tollerref08_Tag_vc c_Validators c_Epoch c_Committee c_Nodes c_Orphans c_Early c_Quota c_Peers c_Bytes c_Window c_Ban c_Decay m_Kind m_Slot m_Target m_Member m_Body m_Bits m_Tag h R = vcFn ctx Try.f19 [TV.agg [TV.slice c_Validators, TV.int IntKind.i64 c_Epoch, TV.int IntKind.i64 c_Committee, TV.int IntKind.i64 c_Nodes, TV.int IntKind.i64 c_Orphans, TV.int IntKind.i64 c_Early, TV.int IntKind.i64 c_Quota, TV.int IntKind.i64 c_Peers, TV.int IntKind.i64 c_Bytes, TV.int IntKind.i64 c_Window, TV.int IntKind.i64 c_Ban, TV.int IntKind.i64 c_Decay], TV.agg [TV.int IntKind.i64 m_Kind, TV.int IntKind.i64 m_Slot, TV.bytes (32 : Nat) m_Target, TV.int IntKind.i64 m_Member, TV.int IntKind.u64 m_Body, TV.slice m_Bits, TV.bytes (16 : Nat) m_Tag]] h R) ▸ H)


def tollerref08_Check_vc (c_Validators : Sl) (c_Epoch : Int) (c_Committee : Int) (c_Nodes : Int) (c_Orphans : Int) (c_Early : Int) (c_Quota : Int) (c_Peers : Int) (c_Bytes : Int) (c_Window : Int) (c_Ban : Int) (c_Decay : Int) (m_Kind : Int) (m_Slot : Int) (m_Target : Bs (32 : Nat)) (m_Member : Int) (m_Body : Int) (m_Bits : Sl) (m_Tag : Bs (16 : Nat)) (h : Heap) (R : Value → Heap → Prop) : Prop :=
 Vc.Bind
 (newTV h
 (TV.agg
 [TV.slice c_Validators, TV.int IntKind.i64 c_Epoch, TV.int IntKind.i64 c_Committee, TV.int IntKind.i64 c_Nodes, TV.int IntKind.i64 c_Orphans,
 TV.int IntKind.i64 c_Early, TV.int IntKind.i64 c_Quota, TV.int IntKind.i64 c_Peers, TV.int IntKind.i64 c_Bytes, TV.int IntKind.i64 c_Window,
 TV.int IntKind.i64 c_Ban, TV.int IntKind.i64 c_Decay])
 (24 : Nat))
 fun (h_1 : Array Obj) ↦
 Vc.Bind
 (newTV h_1
 (TV.agg
 [TV.int IntKind.i64 m_Kind, TV.int IntKind.i64 m_Slot, TV.bytes (32 : Nat) m_Target, TV.int IntKind.i64 m_Member, TV.int IntKind.u64 m_Body,
 TV.slice m_Bits, TV.bytes (16 : Nat) m_Tag])
 (32 : Nat))
 fun (h_2 : Array Obj) ↦
 ∃ (s : Sl),
 ∃ (n : Int),
 ∃ (n_1 : Int),
 ∃ (n_2 : Int),
 ∃ (n_3 : Int),
 ∃ (n_4 : Int),
 ∃ (n_5 : Int),
 ∃ (n_6 : Int),
 ∃ (n_7 : Int),
 ∃ (n_8 : Int),
 ∃ (n_9 : Int),
 ∃ (n_10 : Int),
 (at1 h_2 (Array.size h) (0 : Nat) (slVal s) ∧
 at1 h_2 (Array.size h) (1 : Nat) (Value.int IntKind.i64 n) ∧
 at1 h_2 (Array.size h) (2 : Nat) (Value.int IntKind.i64 n_1) ∧
 at1 h_2 (Array.size h) (3 : Nat) (Value.int IntKind.i64 n_2) ∧
 at1 h_2 (Array.size h) (4 : Nat) (Value.int IntKind.i64 n_3) ∧
 at1 h_2 (Array.size h) (5 : Nat) (Value.int IntKind.i64 n_4) ∧
 at1 h_2 (Array.size h) (6 : Nat) (Value.int IntKind.i64 n_5) ∧
 at1 h_2 (Array.size h) (7 : Nat) (Value.int IntKind.i64 n_6) ∧
 at1 h_2 (Array.size h) (8 : Nat) (Value.int IntKind.i64 n_7) ∧
 at1 h_2 (Array.size h) (9 : Nat) (Value.int IntKind.i64 n_8) ∧
 at1 h_2 (Array.size h) (10 : Nat) (Value.int IntKind.i64 n_9) ∧
 at1 h_2 (Array.size h) (11 : Nat) (Value.int IntKind.i64 n_10)) ∧
 ∃ (n_11 : Int),
 ∃ (n_12 : Int),
 ∃ (b : Bs (32 : Nat)),
 ∃ (n_13 : Int),
 ∃ (n_14 : Int),
 ∃ (s_1 : Sl),
 ∃ (b_1 : Bs (16 : Nat)),
 (at1 h_2 (Array.size h_1) (0 : Nat) (Value.int IntKind.i64 n_11) ∧
 at1 h_2 (Array.size h_1) (1 : Nat) (Value.int IntKind.i64 n_12) ∧
 atBytes h_2 (Array.size h_1) (2 : Nat) (32 : Nat) b ∧
 at1 h_2 (Array.size h_1) (34 : Nat) (Value.int IntKind.i64 n_13) ∧
 at1 h_2 (Array.size h_1) (35 : Nat) (Value.int IntKind.u64 n_14) ∧
 at1 h_2 (Array.size h_1) (36 : Nat) (slVal s_1) ∧
 atBytes h_2 (Array.size h_1) (37 : Nat) (16 : Nat) b_1) ∧
 CallsH Try.prog (19 : Nat)
 (TVs.vals
 [TV.agg
 [TV.slice s, TV.int IntKind.i64 n, TV.int IntKind.i64 n_1, TV.int IntKind.i64 n_2, TV.int IntKind.i64 n_3,
 TV.int IntKind.i64 n_4, TV.int IntKind.i64 n_5, TV.int IntKind.i64 n_6, TV.int IntKind.i64 n_7,
 TV.int IntKind.i64 n_8, TV.int IntKind.i64 n_9, TV.int IntKind.i64 n_10],
 TV.agg
 [TV.int IntKind.i64 n_11, TV.int IntKind.i64 n_12, TV.bytes (32 : Nat) b, TV.int IntKind.i64 n_13,
 TV.int IntKind.u64 n_14, TV.slice s_1, TV.bytes (16 : Nat) b_1]])
 h_2 fun (v : Value) (h : Array Obj) ↦
 ∃ (b : Bs (16 : Nat)),
 ∃ (b_2 : Bool),
 v = TV.val (TV.tup [TV.bytes (16 : Nat) b, TV.bool b_2]) ∧
 Vc.Bind (newTV h (TV.bytes (16 : Nat) (Bs.zero (16 : Nat))) (30 : Nat)) fun (h_3 : Array Obj) ↦
 wok h_3 (Array.size h) (0 : Nat) (16 : Nat) ∧
 Vc.Bind (TV.put h_3 (Array.size h) (0 : Nat) (TV.bytes (16 : Nat) b)) fun (h_4 : Array Obj) ↦
 If b_2
 (∃ (b : Bs (16 : Nat)),
 atBytes h_4 (Array.size h) (0 : Nat) (16 : Nat) b ∧
 ∃ (b_3 : Bs (16 : Nat)),
 atBytes h_4 (Array.size h_1) (37 : Nat) (16 : Nat) b_3 ∧
 R (TV.val (TV.bool (decide (b.l = b_3.l)))) h_4)
 (R (TV.val (TV.bool false)) h_4)

theorem tollerref08_Check_calls (c_Validators : Sl) (c_Epoch : Int) (c_Committee : Int) (c_Nodes : Int) (c_Orphans : Int) (c_Early : Int) (c_Quota : Int) (c_Peers : Int) (c_Bytes : Int) (c_Window : Int) (c_Ban : Int) (c_Decay : Int) (m_Kind : Int) (m_Slot : Int) (m_Target : Bs (32 : Nat)) (m_Member : Int) (m_Body : Int) (m_Bits : Sl) (m_Tag : Bs (16 : Nat)) (h : Heap) (R : Value → Heap → Prop) (H : tollerref08_Check_vc c_Validators c_Epoch c_Committee c_Nodes c_Orphans c_Early c_Quota c_Peers c_Bytes c_Window c_Ban c_Decay m_Kind m_Slot m_Target m_Member m_Body m_Bits m_Tag h R) : CallsH Try.prog 20 (TVs.vals [TV.agg [TV.slice c_Validators, TV.int IntKind.i64 c_Epoch, TV.int IntKind.i64 c_Committee, TV.int IntKind.i64 c_Nodes, TV.int IntKind.i64 c_Orphans, TV.int IntKind.i64 c_Early, TV.int IntKind.i64 c_Quota, TV.int IntKind.i64 c_Peers, TV.int IntKind.i64 c_Bytes, TV.int IntKind.i64 c_Window, TV.int IntKind.i64 c_Ban, TV.int IntKind.i64 c_Decay], TV.agg [TV.int IntKind.i64 m_Kind, TV.int IntKind.i64 m_Slot, TV.bytes (32 : Nat) m_Target, TV.int IntKind.i64 m_Member, TV.int IntKind.u64 m_Body, TV.slice m_Bits, TV.bytes (16 : Nat) m_Tag]]) h R :=
 vcFn_sound (C := ctx) ctx_ok (fn := Try.f20) Try.func20 ((by kernel_rfl : tollerref08_Check_vc c_Validators c_Epoch c_Committee c_Nodes c_Orphans c_Early c_Quota c_Peers c_Bytes c_Window c_Ban c_Decay m_Kind m_Slot m_Target m_Member m_Body m_Bits m_Tag h R = vcFn ctx Try.f20 [TV.agg [TV.slice c_Validators, TV.int IntKind.i64 c_Epoch, TV.int IntKind.i64 c_Committee, TV.int IntKind.i64 c_Nodes, TV.int IntKind.i64 c_Orphans, TV.int IntKind.i64 c_Early, TV.int IntKind.i64 c_Quota, TV.int IntKind.i64 c_Peers, TV.int IntKind.i64 c_Bytes, TV.int IntKind.i64 c_Window, TV.int IntKind.i64 c_Ban, TV.int IntKind.i64 c_Decay], TV.agg [TV.int IntKind.i64 m_Kind, TV.int IntKind.i64 m_Slot, TV.bytes (32 : Nat) m_Target, TV.int IntKind.i64 m_Member, TV.int IntKind.u64 m_Body, TV.slice m_Bits, TV.bytes (16 : Nat) m_Tag]] h R) ▸ H)


def tollerref08_Votes_vc (c_Validators : Sl) (c_Epoch : Int) (c_Committee : Int) (c_Nodes : Int) (c_Orphans : Int) (c_Early : Int) (c_Quota : Int) (c_Peers : Int) (c_Bytes : Int) (c_Window : Int) (c_Ban : Int) (c_Decay : Int) (m_Kind : Int) (m_Slot : Int) (m_Target : Bs (32 : Nat)) (m_Member : Int) (m_Body : Int) (m_Bits : Sl) (m_Tag : Bs (16 : Nat)) (h : Heap) (R : Value → Heap → Prop) : Prop :=
 Vc.Bind
 (newTV h
 (TV.agg
 [TV.slice c_Validators, TV.int IntKind.i64 c_Epoch, TV.int IntKind.i64 c_Committee, TV.int IntKind.i64 c_Nodes, TV.int IntKind.i64 c_Orphans,
 TV.int IntKind.i64 c_Early, TV.int IntKind.i64 c_Quota, TV.int IntKind.i64 c_Peers, TV.int IntKind.i64 c_Bytes, TV.int IntKind.i64 c_Window,
 TV.int IntKind.i64 c_Ban, TV.int IntKind.i64 c_Decay])
 (24 : Nat))
 fun (h_1 : Array Obj) ↦
 Vc.Bind
 (newTV h_1
 (TV.agg
 [TV.int IntKind.i64 m_Kind, TV.int IntKind.i64 m_Slot, TV.bytes (32 : Nat) m_Target, TV.int IntKind.i64 m_Member, TV.int IntKind.u64 m_Body,
 TV.slice m_Bits, TV.bytes (16 : Nat) m_Tag])
 (32 : Nat))
 fun (h_2 : Array Obj) ↦
 ∃ (s : Sl),
 ∃ (n : Int),
 ∃ (n_1 : Int),
 ∃ (n_2 : Int),
 ∃ (n_3 : Int),
 ∃ (n_4 : Int),
 ∃ (n_5 : Int),
 ∃ (n_6 : Int),
 ∃ (n_7 : Int),
 ∃ (n_8 : Int),
 ∃ (n_9 : Int),
 ∃ (n_10 : Int),
 (at1 h_2 (Array.size h) (0 : Nat) (slVal s) ∧
 at1 h_2 (Array.size h) (1 : Nat) (Value.int IntKind.i64 n) ∧
 at1 h_2 (Array.size h) (2 : Nat) (Value.int IntKind.i64 n_1) ∧
 at1 h_2 (Array.size h) (3 : Nat) (Value.int IntKind.i64 n_2) ∧
 at1 h_2 (Array.size h) (4 : Nat) (Value.int IntKind.i64 n_3) ∧
 at1 h_2 (Array.size h) (5 : Nat) (Value.int IntKind.i64 n_4) ∧
 at1 h_2 (Array.size h) (6 : Nat) (Value.int IntKind.i64 n_5) ∧
 at1 h_2 (Array.size h) (7 : Nat) (Value.int IntKind.i64 n_6) ∧
 at1 h_2 (Array.size h) (8 : Nat) (Value.int IntKind.i64 n_7) ∧
 at1 h_2 (Array.size h) (9 : Nat) (Value.int IntKind.i64 n_8) ∧
 at1 h_2 (Array.size h) (10 : Nat) (Value.int IntKind.i64 n_9) ∧
 at1 h_2 (Array.size h) (11 : Nat) (Value.int IntKind.i64 n_10)) ∧
 ∃ (n_11 : Int),
 ∃ (n_12 : Int),
 ∃ (b : Bs (32 : Nat)),
 ∃ (n_13 : Int),
 ∃ (n_14 : Int),
 ∃ (s_1 : Sl),
 ∃ (b_1 : Bs (16 : Nat)),
 (at1 h_2 (Array.size h_1) (0 : Nat) (Value.int IntKind.i64 n_11) ∧
 at1 h_2 (Array.size h_1) (1 : Nat) (Value.int IntKind.i64 n_12) ∧
 atBytes h_2 (Array.size h_1) (2 : Nat) (32 : Nat) b ∧
 at1 h_2 (Array.size h_1) (34 : Nat) (Value.int IntKind.i64 n_13) ∧
 at1 h_2 (Array.size h_1) (35 : Nat) (Value.int IntKind.u64 n_14) ∧
 at1 h_2 (Array.size h_1) (36 : Nat) (slVal s_1) ∧
 atBytes h_2 (Array.size h_1) (37 : Nat) (16 : Nat) b_1) ∧
 CallsH Try.prog (18 : Nat)
 (TVs.vals
 [TV.agg
 [TV.slice s, TV.int IntKind.i64 n, TV.int IntKind.i64 n_1, TV.int IntKind.i64 n_2, TV.int IntKind.i64 n_3,
 TV.int IntKind.i64 n_4, TV.int IntKind.i64 n_5, TV.int IntKind.i64 n_6, TV.int IntKind.i64 n_7,
 TV.int IntKind.i64 n_8, TV.int IntKind.i64 n_9, TV.int IntKind.i64 n_10],
 TV.agg
 [TV.int IntKind.i64 n_11, TV.int IntKind.i64 n_12, TV.bytes (32 : Nat) b, TV.int IntKind.i64 n_13,
 TV.int IntKind.u64 n_14, TV.slice s_1, TV.bytes (16 : Nat) b_1]])
 h_2 fun (v : Value) (h : Array Obj) ↦
 ∃ (s : Sl),
 ∃ (b : Bool),
 v = TV.val (TV.tup [TV.slice s, TV.bool b]) ∧
 Join
 (fun (s_2 : Sl) (h : Array Obj) ↦
 Go.Vc.Loop (Sl.mk none (0 : Nat) (0 : Nat), (0 : Int)) h
 fun (s_3 : Sl × Int) (h : Array Obj) (K : Sl × Int → Array Obj → Prop) ↦
 If (decide (s_3.snd < (↑s.len : Int)))
 ((0 : Int) ≤ s_3.snd ∧
 s_3.snd < (↑s.len : Int) ∧
 Nn s.a fun (l : Go.Vc.Loc) ↦
 ∃ (n : Int),
 at1 h l.b (l.o + Int.toNat s_3.snd * (1 : Nat)) (Value.int IntKind.i64 n) ∧
 ∃ (n_15 : Int),
 at1 h (Array.size h_1) (1 : Nat) (Value.int IntKind.i64 n_15) ∧
 ∃ (b : Bs (32 : Nat)),
 atBytes h (Array.size h_1) (2 : Nat) (32 : Nat) b ∧
 ∃ (new : List Value),
 slAt
 (Array.push h
 (row
 (TVs.cells
 [TV.agg
 [TV.int IntKind.i64 n, TV.int IntKind.i64 n_15,
 TV.bytes (32 : Nat) b]])
 (41 : Nat)))
 (Sl.mk (some (Loc.mk (Array.size h) (0 : Nat))) (1 : Nat) (1 : Nat))
 (34 : Nat) new ∧
 (∀ (v : Value), v ∈ new → isOne v = true) ∧
 vcAppend Ytgdhddignbkloaa.ctx (41 : Nat) s_3.fst (1 : Nat) new
 (Array.push h
 (row
 (TVs.cells
 [TV.agg
 [TV.int IntKind.i64 n, TV.int IntKind.i64 n_15,
 TV.bytes (32 : Nat) b]])
 (41 : Nat)))
 fun (s : Sl) (h : Array Obj) ↦
 K (s, IntKind.wrap IntKind.i64 (s_3.snd + (1 : Int))) h)
 (R (TV.val (TV.slice s_3.fst)) h))
 fun (J : Sl → Array Obj → Prop) ↦
 If (!b) (R (TV.val (TV.slice Sl.nil)) h)
 (∃ (n : Int),
 at1 h (Array.size h_1) (0 : Nat) (Value.int IntKind.i64 n) ∧
 If (decide (n = (1 : Int))) (R (TV.val (TV.slice Sl.nil)) h)
 (J (Sl.mk none (0 : Nat) (0 : Nat)) h))

theorem tollerref08_Votes_calls (c_Validators : Sl) (c_Epoch : Int) (c_Committee : Int) (c_Nodes : Int) (c_Orphans : Int) (c_Early : Int) (c_Quota : Int) (c_Peers : Int) (c_Bytes : Int) (c_Window : Int) (c_Ban : Int) (c_Decay : Int) (m_Kind : Int) (m_Slot : Int) (m_Target : Bs (32 : Nat)) (m_Member : Int) (m_Body : Int) (m_Bits : Sl) (m_Tag : Bs (16 : Nat)) (h : Heap) (R : Value → Heap → Prop) (H : tollerref08_Votes_vc c_Validators c_Epoch c_Committee c_Nodes c_Orphans c_Early c_Quota c_Peers c_Bytes c_Window c_Ban c_Decay m_Kind m_Slot m_Target m_Member m_Body m_Bits m_Tag h R) : CallsH Try.prog 21 (TVs.vals [TV.agg [TV.slice c_Validators, TV.int IntKind.i64 c_Epoch, TV.int IntKind.i64 c_Committee, TV.int IntKind.i64 c_Nodes, TV.int IntKind.i64 c_Orphans, TV.int IntKind.i64 c_Early, TV.int IntKind.i64 c_Quota, TV.int IntKind.i64 c_Peers, TV.int IntKind.i64 c_Bytes, TV.int IntKind.i64 c_Window, TV.int IntKind.i64 c_Ban, TV.int IntKind.i64 c_Decay], TV.agg [TV.int IntKind.i64 m_Kind, TV.int IntKind.i64 m_Slot, TV.bytes (32 : Nat) m_Target, TV.int IntKind.i64 m_Member, TV.int IntKind.u64 m_Body, TV.slice m_Bits, TV.bytes (16 : Nat) m_Tag]]) h R :=
 vcFn_sound (C := ctx) ctx_ok (fn := Try.f21) Try.func21 ((by kernel_rfl : tollerref08_Votes_vc c_Validators c_Epoch c_Committee c_Nodes c_Orphans c_Early c_Quota c_Peers c_Bytes c_Window c_Ban c_Decay m_Kind m_Slot m_Target m_Member m_Body m_Bits m_Tag h R = vcFn ctx Try.f21 [TV.agg [TV.slice c_Validators, TV.int IntKind.i64 c_Epoch, TV.int IntKind.i64 c_Committee, TV.int IntKind.i64 c_Nodes, TV.int IntKind.i64 c_Orphans, TV.int IntKind.i64 c_Early, TV.int IntKind.i64 c_Quota, TV.int IntKind.i64 c_Peers, TV.int IntKind.i64 c_Bytes, TV.int IntKind.i64 c_Window, TV.int IntKind.i64 c_Ban, TV.int IntKind.i64 c_Decay], TV.agg [TV.int IntKind.i64 m_Kind, TV.int IntKind.i64 m_Slot, TV.bytes (32 : Nat) m_Target, TV.int IntKind.i64 m_Member, TV.int IntKind.u64 m_Body, TV.slice m_Bits, TV.bytes (16 : Nat) m_Tag]] h R) ▸ H)


def tollerref07_Same_vc (a_Kind : Int) (a_Slot : Int) (a_Target : Bs (32 : Nat)) (a_Member : Int) (a_Body : Int) (a_Bits : Sl) (a_Tag : Bs (16 : Nat)) (b_Kind : Int) (b_Slot : Int) (b_Target : Bs (32 : Nat)) (b_Member : Int) (b_Body : Int) (b_Bits : Sl) (b_Tag : Bs (16 : Nat)) (h : Heap) (R : Value → Heap → Prop) : Prop :=
 Vc.Bind
 (newTV h
 (TV.agg
 [TV.int IntKind.i64 a_Kind, TV.int IntKind.i64 a_Slot, TV.bytes (32 : Nat) a_Target, TV.int IntKind.i64 a_Member, TV.int IntKind.u64 a_Body,
 TV.slice a_Bits, TV.bytes (16 : Nat) a_Tag])
 (32 : Nat))
 fun (h_1 : Array Obj) ↦
 Vc.Bind
 (newTV h_1
 (TV.agg
 [TV.int IntKind.i64 b_Kind, TV.int IntKind.i64 b_Slot, TV.bytes (32 : Nat) b_Target, TV.int IntKind.i64 b_Member, TV.int IntKind.u64 b_Body,
 TV.slice b_Bits, TV.bytes (16 : Nat) b_Tag])
 (32 : Nat))
 fun (h_2 : Array Obj) ↦
 ∃ (n : Int),
 at1 h_2 (Array.size h) (0 : Nat) (Value.int IntKind.i64 n) ∧
 ∃ (n_1 : Int),
 at1 h_2 (Array.size h_1) (0 : Nat) (Value.int IntKind.i64 n_1) ∧
 If (decide (n = n_1))
 (∃ (n : Int),
 at1 h_2 (Array.size h) (1 : Nat) (Value.int IntKind.i64 n) ∧
 ∃ (n_2 : Int),
 at1 h_2 (Array.size h_1) (1 : Nat) (Value.int IntKind.i64 n_2) ∧
 If (decide (n = n_2))
 (∃ (b : Bs (32 : Nat)),
 atBytes h_2 (Array.size h) (2 : Nat) (32 : Nat) b ∧
 ∃ (b_1 : Bs (32 : Nat)),
 atBytes h_2 (Array.size h_1) (2 : Nat) (32 : Nat) b_1 ∧
 If (decide (b.l = b_1.l))
 (∃ (n : Int),
 at1 h_2 (Array.size h) (34 : Nat) (Value.int IntKind.i64 n) ∧
 ∃ (n_3 : Int),
 at1 h_2 (Array.size h_1) (34 : Nat) (Value.int IntKind.i64 n_3) ∧
 If (decide (n = n_3))
 (∃ (n : Int),
 at1 h_2 (Array.size h) (35 : Nat) (Value.int IntKind.u64 n) ∧
 ∃ (n_4 : Int),
 at1 h_2 (Array.size h_1) (35 : Nat) (Value.int IntKind.u64 n_4) ∧
 If (decide (n = n_4))
 (∃ (b : Bs (16 : Nat)),
 atBytes h_2 (Array.size h) (37 : Nat) (16 : Nat) b ∧
 ∃ (b_2 : Bs (16 : Nat)),
 atBytes h_2 (Array.size h_1) (37 : Nat) (16 : Nat) b_2 ∧
 If (decide (b.l = b_2.l))
 (∃ (s : Sl),
 at1 h_2 (Array.size h) (36 : Nat) (slVal s) ∧
 ∃ (s_1 : Sl),
 at1 h_2 (Array.size h_1) (36 : Nat) (slVal s_1) ∧
 CallsH Try.prog (40 : Nat) (TVs.vals [TV.slice s, TV.slice s_1]) h_2
 fun (v : Value) (h : Array Obj) ↦
 ∃ (b : Bool), v = TV.val (TV.bool b) ∧ R (TV.val (TV.bool b)) h)
 (R (TV.val (TV.bool false)) h_2))
 (R (TV.val (TV.bool false)) h_2))
 (R (TV.val (TV.bool false)) h_2))
 (R (TV.val (TV.bool false)) h_2))
 (R (TV.val (TV.bool false)) h_2))
 (R (TV.val (TV.bool false)) h_2)

theorem tollerref07_Same_calls (a_Kind : Int) (a_Slot : Int) (a_Target : Bs (32 : Nat)) (a_Member : Int) (a_Body : Int) (a_Bits : Sl) (a_Tag : Bs (16 : Nat)) (b_Kind : Int) (b_Slot : Int) (b_Target : Bs (32 : Nat)) (b_Member : Int) (b_Body : Int) (b_Bits : Sl) (b_Tag : Bs (16 : Nat)) (h : Heap) (R : Value → Heap → Prop) (H : tollerref07_Same_vc a_Kind a_Slot a_Target a_Member a_Body a_Bits a_Tag b_Kind b_Slot b_Target b_Member b_Body b_Bits b_Tag h R) : CallsH Try.prog 23 (TVs.vals [TV.agg [TV.int IntKind.i64 a_Kind, TV.int IntKind.i64 a_Slot, TV.bytes (32 : Nat) a_Target, TV.int IntKind.i64 a_Member, TV.int IntKind.u64 a_Body, TV.slice a_Bits, TV.bytes (16 : Nat) a_Tag], TV.agg [TV.int IntKind.i64 b_Kind, TV.int IntKind.i64 b_Slot, TV.bytes (32 : Nat) b_Target, TV.int IntKind.i64 b_Member, TV.int IntKind.u64 b_Body, TV.slice b_Bits, TV.bytes (16 : Nat) b_Tag]]) h R :=
 vcFn_sound (C := ctx) ctx_ok (fn := Try.f23) Try.func23 ((by kernel_rfl : tollerref07_Same_vc a_Kind a_Slot a_Target a_Member a_Body a_Bits a_Tag b_Kind b_Slot b_Target b_Member b_Body b_Bits b_Tag h R = vcFn ctx Try.f23 [TV.agg [TV.int IntKind.i64 a_Kind, TV.int IntKind.i64 a_Slot, TV.bytes (32 : Nat) a_Target, TV.int IntKind.i64 a_Member, TV.int IntKind.u64 a_Body, TV.slice a_Bits, TV.bytes (16 : Nat) a_Tag], TV.agg [TV.int IntKind.i64 b_Kind, TV.int IntKind.i64 b_Slot, TV.bytes (32 : Nat) b_Target, TV.int IntKind.i64 b_Member, TV.int IntKind.u64 b_Body, TV.slice b_Bits, TV.bytes (16 : Nat) b_Tag]] h R) ▸ H)


def tollerref02_Same_vc (a : Sl) (b : Sl) (h : Heap) (R : Value → Heap → Prop) : Prop :=
 If (!decide ((↑a.len : Int) = (↑b.len : Int))) (R (TV.val (TV.bool false)) h)
 (Go.Vc.Loop (false, (0 : Int)) h fun (s : Bool × Int) (h : Array Obj) (K : Bool × Int → Array Obj → Prop) ↦
 If (decide (s.snd < (↑a.len : Int)))
 ((0 : Int) ≤ s.snd ∧
 s.snd < (↑a.len : Int) ∧
 Nn a.a fun (l : Go.Vc.Loc) ↦
 ∃ (b_1 : Bool),
 at1 h l.b (l.o + Int.toNat s.snd * (1 : Nat)) (Value.bool b_1) ∧
 (0 : Int) ≤ s.snd ∧
 s.snd < (↑b.len : Int) ∧
 Nn b.a fun (l : Go.Vc.Loc) ↦
 ∃ (b : Bool),
 at1 h l.b (l.o + Int.toNat s.snd * (1 : Nat)) (Value.bool b) ∧
 If (!b_1 == b) (R (TV.val (TV.bool false)) h) (K (s.fst, IntKind.wrap IntKind.i64 (s.snd + (1 : Int))) h))
 (R (TV.val (TV.bool true)) h))

theorem tollerref02_Same_calls (a : Sl) (b : Sl) (h : Heap) (R : Value → Heap → Prop) (H : tollerref02_Same_vc a b h R) : CallsH Try.prog 40 (TVs.vals [TV.slice a, TV.slice b]) h R :=
 vcFn_sound (C := ctx) ctx_ok (fn := Try.f40) Try.func40 ((by kernel_rfl : tollerref02_Same_vc a b h R = vcFn ctx Try.f40 [TV.slice a, TV.slice b] h R) ▸ H)


end Go.Proofs.Ytgdhddignbkloaa
end

section
/- The document's bytes, tags, checks and votes: the program's. -/
namespace Go.Proofs.Ytgdhddignbkloaa.Board
open Go Go.Vc
section
variable {R : Value → Heap → Prop} {h : Heap}

/-- What every message that comes in has. -/
def BodyOk (m : Ms) : Prop := 0 ≤ m.body ∧ m.body < 18446744073709551616

theorem kind_byte {n : Int} (h : n = 1 ∨ n = 2 ∨ n = 3) : leR (IntKind.wrap .u64 n) 1 = [UInt8.ofNat (IntKind.wrap .u8 n).toNat] := by
  rcases h with h | h | h <;> subst h <;> rfl

theorem good_kind {m : Ms} {row : List Bool} (hg : goodF m row = true) : m.kind = 1 ∨ m.kind = 2 ∨ m.kind = 3 := by
  by_cases h3 : m.kind = 3
  · exact .inr (.inr h3)
  · unfold goodF at hg
    rw [if_neg h3] at hg
    simp only [Bool.and_eq_true, Bool.or_eq_true, decide_eq_true_eq] at hg
    rcases hg.2.1 with h | h
    · exact .inl h
    · exact .inr (.inl h)

theorem empty_row {b : Nat} {hh : Heap} (hb : b < hh.size) : Row (fun i => b < i) (hh.push (Vc.row (TVs.cells []) 5)) ⟨some ⟨hh.size, 0⟩, 0, 0⟩ [] := by
  refine ⟨Own.new (T := 5) (sz := 1) hh [] (fun t ht => by cases ht), fun l hl => ?_, fun i hi => ?_⟩
  · obtain rfl := Option.some.inj hl
    exact hb
  · rw [Array.size_push] at hi
    omega

theorem Row.ext {Q : Nat → Prop} {h' : Heap} {s : Sl} {bs : List UInt8} (r : Row Q h s bs) (e : Ext h h') : Row Q h' s bs :=
  ⟨r.own.ext e, r.far, fun i hi => r.new i (Nat.le_trans e.size hi)⟩

theorem target_in {m : Ms} {b : Nat} {s : Sl} {K : Sl → Value → Heap → Prop} (v : Var 32 h b m.tv) (r : Row (fun i => b < i) h s []) (hk : ∀ s' h', Only (fun i => b < i) h h' → K s' (TV.str m.target.l).val h') :
    ∃ (new : List Value), slAt h (cutSl (Sl.mk (some (Vc.Loc.mk b 2)) 32 32) 0 32 1) 1 new ∧ (∀ (v : Value), v ∈ new → isOne v = true) ∧ vcAppend ctx 5 s (cutSl (Sl.mk (some (Vc.Loc.mk b 2)) 32 32) 0 32 1).len new h fun (s_2 : Sl) (h_4 : Array Obj) => CallsH Try.prog 54 (TVs.vals [TV.slice s_2]) h_4 (K s_2) := by
  obtain ⟨a0, a1, a2, a3, a4, a5, a6⟩ := v.at (t := m.tv)
  have hc : cutSl (Sl.mk (some (Vc.Loc.mk b 2)) 32 32) 0 32 1 = ⟨some ⟨b, 2⟩, 32, 32⟩ := rfl
  rw [hc]
  refine ⟨m.target.l.map fun c => Value.int .u8 (c.toNat : Int), by rw [← bys_cells]; exact (elems_bytes a2).cells (bys_size _) (by decide), bcells_one m.target.l, ?_⟩
  refine app_bytesN m.target.h.symm r (by rw [m.target.h]; decide) fun s3 h3 r3 f3 b3 => ?_
  apply tollerref07_text_calls
  exact ⟨_, r3.str, hk s3 h3 (r.cut f3)⟩

set_option maxRecDepth 100000 in
theorem docplain_spec {m : Ms} {row : List Bool} (e : Elems 1 h m.bits (bools row)) (hl : row.length < 500) (hk : m.kind = 1 ∨ m.kind = 2 ∨ m.kind = 3) (hb : BodyOk m) (hr : ∀ h', Ext h h' → R (TV.str (plainF m row)).val h') : CallsH Try.prog 38 (TVs.vals [m.tv]) h R := by
  apply tollerref07_Plain_calls m.kind m.slot m.target m.member m.body m.bits m.tag
  unfold tollerref07_Plain_vc
  refine newTV_in fun h1 v1 x1 s1 => ?_
  have v1 : Var 32 h1 h.size m.tv := v1
  obtain ⟨a0, a1, a2, a3, a4, a5, a6⟩ := v1.at (t := m.tv)
  intro J HJ
  obtain ⟨P, hP⟩ : ∃ P, P = ([UInt8.ofNat (IntKind.wrap .u8 m.kind).toNat] ++ leF (IntKind.wrap .u64 m.slot) 4) ++ m.target.l := ⟨_, rfl⟩
  have lP : P.length = 37 := by
    rw [hP, List.length_append, List.length_append, leF_len, List.length_singleton, m.target.h]
  have hw := wrap_u64_range m.member
  have hs := wrap_u64_range m.slot
  have fin : ∀ (s : Int × Int × List UInt8 × Int × Int × List UInt8 × List UInt8 × Sl × Sl × Sl × List UInt8 × List UInt8 × List UInt8) (h5 : Heap), Ext h1 h5 → s.2.2.2.2.2.2.2.2.2.2.2.2 = P → J s h5 := by
    intro s h5 x5 hsP
    refine HJ s h5 ?_
    dsimp only
    rw [hsP]
    have v5 := v1.ext x5
    obtain ⟨b0, b1, b2, b3, b4, b5, b6⟩ := v5.at (t := m.tv)
    have x05 := x1.trans x5
    refine ⟨_, b0, If.dec.2 ⟨fun k3 => ⟨_, b5, bytesof_spec (e.ext x05) hl fun h6 x6 => ⟨_, rfl, ?_, ?_⟩⟩, fun k3 => ⟨_, b3, docput_spec 2 _ _ _ (by decide) fun h6 x6 => ⟨_, rfl, ?_, _, at1_ext x6 b0, If.dec.2 ⟨fun k1 => ⟨_, at1_ext x6 b4, docput_spec 8 _ _ _ (by decide) fun h7 x7 => ⟨_, rfl, ?_, ?_⟩⟩, fun k1 => ?_⟩⟩⟩⟩⟩
    · rw [lP, bitF_len]; omega
    · have := hr h6 (x05.trans x6)
      unfold plainF at this
      rw [if_neg (by omega), if_neg (by omega), if_pos k3, ← hP] at this
      exact this
    · rw [lP, leR_length]; decide
    · rw [List.length_append, lP, leR_length, leR_length]; decide
    · have := hr h7 ((x05.trans x6).trans x7)
      unfold plainF at this
      rw [if_pos k1, ← hP, ← leR_eq 2 _ hw.1 hw.2, ← leR_eq 8 _ hb.1 hb.2, ← List.append_assoc] at this
      exact this
    · have := hr h6 (x05.trans x6)
      unfold plainF at this
      rw [if_neg k1, if_pos (by omega), ← hP, ← leR_eq 2 _ hw.1 hw.2] at this
      exact this
  clear HJ
  have l1 : ∀ n, (leR n 1).length = 1 := leR_length 1
  have l4 : ∀ n, (leR n 4).length = 4 := leR_length 4
  have lT := m.target.h
  have hPP : (leR (IntKind.wrap .u64 m.kind) 1 ++ leR (IntKind.wrap .u64 m.slot) 4) ++ m.target.l = P := by
    rw [hP, kind_byte hk, leR_eq 4 _ hs.1 hs.2]
  have len2 : ((leR (IntKind.wrap .u64 m.kind) 1).length + (leR (IntKind.wrap .u64 m.slot) 4).length : Nat) ≤ (9223372036854775807 : Int) := by rw [l1, l4]; decide
  have len3 : ((leR (IntKind.wrap .u64 m.kind) 1 ++ leR (IntKind.wrap .u64 m.slot) 4).length + m.target.l.length : Nat) ≤ (9223372036854775807 : Int) := by rw [List.length_append, l1, l4, lT]; decide
  refine ⟨_, a0, _, a1, ⟨docput_spec 1 _ _ _ (by decide) fun h2 x2 => ⟨_, rfl, x2, ⟨docput_spec 4 _ _ _ (by decide) fun h3 x3 => ⟨_, rfl, len2, Ext.push _ _, ?_⟩, Ext.push _ _, docput_spec 4 _ _ _ (by decide) fun h3 x3 => ⟨_, rfl, len2, ?_⟩⟩⟩, Ext.push _ _, docput_spec 1 _ _ _ (by decide) fun h2 x2 => ⟨_, rfl, x2, docput_spec 4 _ _ _ (by decide) fun h3 x3 => ⟨_, rfl, len2, ?_⟩⟩⟩⟩
  · have z2 := x2.size
    have z3 := x3.size
    have xx := (x2.trans x3).trans (Ext.push h3 (Vc.row (TVs.cells []) 5))
    exact target_in (v1.ext xx) (empty_row (by omega)) fun s4 h4 o4 => ⟨_, rfl, len3, fin _ h4 (Only.cut xx o4 fun i hi => by omega) hPP⟩
  · have z2 := x2.size
    have xx := (x2.trans (Ext.push h2 (Vc.row (TVs.cells []) 5))).trans x3
    exact target_in (v1.ext xx) ((empty_row (by omega)).ext x3) fun s4 h4 o4 => ⟨_, rfl, len3, fin _ h4 (Only.cut xx o4 fun i hi => by omega) hPP⟩
  · have xx := ((Ext.push h1 (Vc.row (TVs.cells []) 5)).trans x2).trans x3
    exact target_in (v1.ext xx) ((empty_row (by omega)).ext (x2.trans x3)) fun s4 h4 o4 => ⟨_, rfl, len3, fin _ h4 (Only.cut xx o4 fun i hi => by omega) hPP⟩

theorem b16 {x : Bs 16} : (TV.bytes 16 x).size = 16 := by simp only [TV.size]
theorem om_kind (m : Ms) (x : Int) : (om m x).kind = 1 ∨ (om m x).kind = 2 ∨ (om m x).kind = 3 := .inr (.inl rfl)
theorem om_body (m : Ms) (x : Int) : BodyOk (om m x) := ⟨Int.le_refl 0, by show (0 : Int) < _; decide⟩
theorem om_tag1' (L : List Vd) {m : Ms} (row : List Bool) (hk : m.kind = 3) (x : Int) : tag1 L m row x = macF (keyAt L x) (plainF (om m x) []) := by
  unfold tag1 oneF oneR
  rw [if_pos hk, if_pos hk]
  rfl

theorem tag_alone {n : Nat} {com : Int} {L : List Vd} {m : Ms} {row : List Bool} (hok : (speakF n com m row).2 = true) (hk : m.kind ≠ 3) : (speakF n com m row).1 = [m.member] ∧ tagF n com L m row = (macF (keyAt L m.member) (plainF m row), true) := by
  have hs := speak_doc (n := n) (com := com) (speak_good hok) hk
  have h1 : speakF n com m row = ([m.member], true) := by
    rw [hs] at hok ⊢
    split at hok
    · cases hok
    · rename_i h1
      rw [if_neg h1]
      split at hok
      · cases hok
      · rename_i h2
        rw [if_neg h2]
  refine ⟨by rw [h1], ?_⟩
  unfold tagF
  rw [h1, if_pos rfl]
  show (x16 (Bs.zero 16) (tag1 L m row m.member), true) = _
  rw [x16_zero]
  unfold tag1 oneF oneR
  rw [if_neg hk, if_neg hk]

/-- A vote's bytes. -/
theorem docvoteplain_spec {slot who : Int} {target : Bs 32} (hr : ∀ h', Ext h h' → R (TV.str (plainF ⟨2, slot, target, who, 0, Sl.nil, Bs.zero 16⟩ [])).val h') :
    CallsH Try.prog 38 (TVs.vals [.agg [.int .i64 2, .int .i64 slot, .bytes 32 target, .int .i64 who, .int .u64 0, .slice Sl.nil, .bytes 16 (Bs.zero 16)]]) h R :=
  docplain_spec (m := ⟨2, slot, target, who, 0, Sl.nil, Bs.zero 16⟩) (row := []) (Elems.nil_ 1 h) (by decide) (.inr (.inl rfl)) ⟨Int.le_refl 0, by show (0 : Int) < _; decide⟩ hr

set_option maxRecDepth 100000 in
set_option maxHeartbeats 400000 in
theorem doctag_spec {c : Cf} {m : Ms} {row : List Bool} {L : List Vd} (f : Fine c) (ev : Elems 2 h c.vals (vds L)) (hkey : ∀ v ∈ L, v.key.length ≤ 64) (e : Elems 1 h m.bits (bools row)) (hl : row.length < 500) (hbo : BodyOk m)
    (hr : ∀ h', Ext h h' → R (TV.tup [.bytes 16 (tagF c.vals.len c.com L m row).1, .bool (tagF c.vals.len c.com L m row).2]).val h') : CallsH Try.prog 19 (TVs.vals [c.tv, m.tv]) h R := by
  apply tollerref08_Tag_calls c.vals c.ep c.com c.no c.orp c.ear c.quo c.pe c.by_ c.win c.ban c.dec m.kind m.slot m.target m.member m.body m.bits m.tag
  unfold tollerref08_Tag_vc
  have lv : L.length = c.vals.len := by have := ev.len; rwa [List.length_map] at this
  have f4 := f.len
  refine newTV_in fun h1 v1 x1 s1 => newTV_in fun h2 v2 x2 s2 => newTV_in fun h3 v3 x3 s3 => ?_
  have v1 : Var 24 h3 h.size c.tv := (Var.ext (t := c.tv) v1 x2).ext x3
  have v2 : Var 32 h3 h1.size m.tv := Var.ext (t := m.tv) v2 x3
  have x03 := (x1.trans x2).trans x3
  refine cf_at v1 (ms_at v2 (docspeak_spec f (e.ext x03) (by omega) fun h4 s4 e4 x4 _ => ⟨_, _, rfl, ?_⟩))
  have x04 := x03.trans x4
  have w1 := v1.ext x4
  have w2 := v2.ext x4
  have w3 := v3.ext x4
  refine If.split (fun hb => ?_) fun hb => ?_
  · have ht : tagF c.vals.len c.com L m row = (Bs.zero 16, false) := by
      unfold tagF
      rw [if_neg (by simpa using hb)]
    refine put_n w3 (t := .bytes 16 (Bs.zero 16)) rfl rfl fun h5 v5 f5 s5 => ⟨_, v5.bytes, ?_⟩
    have := hr h5 (Only.cut x04 f5 fun i hi => by have := x1.size; have := x2.size; omega)
    rw [ht] at this
    exact this
  have hb : (speakF c.vals.len c.com m row).2 = true := by simpa using hb
  have hkk := good_kind (speak_good hb)
  refine ⟨_, w2.at.1, If.split (fun hk3 => ?_) fun hk3 => ?_⟩
  · have hk3 : m.kind ≠ 3 := by simpa using hk3
    obtain ⟨hs1, ht⟩ := tag_alone (L := L) hb hk3
    have hxr : 0 ≤ m.member ∧ m.member < c.vals.len := mem_range (speak_mem (x := m.member) (by rw [hs1]; exact List.mem_singleton.2 rfl))
    refine ⟨c.vals, w1.at.1, _, w2.at.2.2.2.1, ?_⟩
    refine (ev.ext x04).read hxr.1 (by omega) fun lv' tv hla htv hat => ?_
    rw [List.getElem?_map] at htv
    obtain ⟨vd, hvd, rfl⟩ := Option.map_eq_some_iff.1 htv
    have hky : keyAt L m.member = vd.key := by unfold keyAt; rw [List.getD_eq_getElem?_getD, hvd]; rfl
    have hk64 := hkey vd (List.mem_of_getElem? hvd)
    refine ⟨vd.key, hat.2, ms_at w2 ?_⟩
    have hpl := plainF_len m row
    refine docplain_spec (e.ext x04) hl hkk hbo fun h5 x5 => ⟨_, rfl, x5, docmac_spec hk64 (by omega) fun h6 x6 => ⟨_, rfl, ?_⟩⟩
    have x46 := x5.trans x6
    refine put_n (w3.ext x46) (t := .bytes 16 (macF vd.key (plainF m row))) rfl bsz fun h7 v7 f7 s7 => ⟨_, v7.bytes, ?_⟩
    have := hr h7 (Only.cut (x04.trans x46) f7 fun j hj => by have := x1.size; have := x2.size; omega)
    rw [ht, hky] at this
    exact this
  · have hk3 : m.kind = 3 := by simpa using hk3
    have ht : tagF c.vals.len c.com L m row = (joinF ((speakF c.vals.len c.com m row).1.map (tag1 L m row)) (Bs.zero 16), true) := by
      unfold tagF
      rw [if_pos hb]
    have hrange : ∀ x ∈ (speakF c.vals.len c.com m row).1, 0 ≤ x ∧ x < c.vals.len := fun x hx => mem_range (speak_mem hx)
    have hlen := speak_len (n := c.vals.len) (com := c.com) (m := m) (row := row)
    generalize (speakF c.vals.len c.com m row).1 = l at e4 ht hrange hlen
    have el := ints_len e4
    refine ⟨fun σ hh => 0 ≤ σ.2 ∧ σ.2 ≤ s4.len ∧ Own 30 16 hh σ.1 (tags ((l.take σ.2.toNat).map (tag1 L m row))) ∧ (∀ p, σ.1.a = some p → h4.size ≤ p.b) ∧ Ext h4 hh, fun σ _ => ((s4.len : Int) - σ.2).toNat,
      ⟨Int.le_refl 0, by first | omega | (dsimp only; omega), Own.nil _ _ _, (fun p hp => by cases hp), Ext.refl _⟩, ?_⟩
    rintro ⟨t, i⟩ h5 ⟨i0, i1, o5, b5, x5⟩
    dsimp only at i0 i1 o5 b5 x5 ⊢
    refine If.dec.2 ⟨fun hi => ?_, fun hi => ?_⟩
    · refine read_int (e4.ext x5) i0 (by omega) fun x hx => ?_
      have hxr := hrange x (List.mem_of_getElem? hx)
      refine ⟨c.vals, (w1.ext x5).at.1, ?_⟩
      refine ((ev.ext x04).ext x5).read hxr.1 (by omega) fun lv' tv hla htv hat => ?_
      rw [List.getElem?_map] at htv
      obtain ⟨vd, hvd, rfl⟩ := Option.map_eq_some_iff.1 htv
      have hky : keyAt L x = vd.key := by unfold keyAt; rw [List.getD_eq_getElem?_getD, hvd]; rfl
      have hk64 := hkey vd (List.mem_of_getElem? hvd)
      refine ⟨vd.key, hat.2, _, (w2.ext x5).at.2.1, _, (w2.ext x5).at.2.2.1, ?_⟩
      have hpl : (plainF ⟨2, m.slot, m.target, x, 0, Sl.nil, Bs.zero 16⟩ []).length ≤ 60 + ([] : List Bool).length := plainF_len _ _
      refine docvoteplain_spec fun h6 x6 => ⟨_, rfl, x6, ?_⟩
      refine docmac_spec hk64 (by simp only [List.length_nil] at hpl; omega) fun h7 x7 => ⟨_, rfl, ?_⟩
      have hx' : macF vd.key (plainF (om m x) []) = tag1 L m row x := by rw [om_tag1' L row hk3, hky]
      have x57 := x6.trans x7
      have o8 := o5.ext x57
      have tl := o8.len
      rw [List.length_map, List.length_map, List.length_take] at tl
      refine append1 (C := ctx) (T := 30) (sz := 16) (x := .bytes 16 (macF vd.key (plainF (om m x) []))) size30 zsize30 (by rw [bytes30]; decide) (by rw [bytes30]; omega) o8 b16 bpl fun s9 h9 o9 f9 b9 => ?_
      rw [wrap_i64 (n := i + 1) (by omega) (by omega)]
      have x9 : Ext h4 h9 := Only.cut (x5.trans x57) f9 fun j ⟨p, hp, hj⟩ => by have := b5 p hp; omega
      have z8 := (x5.trans x57).size
      refine ⟨⟨by omega, by omega, ?_, fun p hp => ?_, x9⟩, by first | omega | (dsimp only; omega)⟩
      · rw [show (i + 1).toNat = i.toNat + 1 by omega, take_snoc hx, List.map_append, List.map_cons, List.map_nil, ← hx']
        simpa [tags] using o9
      · rcases b9 p hp with ⟨p', h1', h2'⟩ | h1'
        · have := b5 p' h1'; omega
        · omega
    · have hall : l.take i.toNat = l := List.take_of_length_le (by omega)
      rw [hall] at o5
      refine docjoin_spec o5.elems (by rw [List.length_map]; omega) fun h6 x6 => ⟨_, rfl, ?_⟩
      have x06 := (x04.trans x5).trans x6
      refine put_n ((w3.ext x5).ext x6) (t := .bytes 16 (joinF (l.map (tag1 L m row)) (Bs.zero 16))) rfl rfl fun h7 v7 f7 s7 => ⟨_, v7.bytes, ?_⟩
      have := hr h7 (Only.cut x06 f7 fun j hj => by have := x1.size; have := x2.size; omega)
      rw [ht] at this
      exact this

theorem doccheck_spec {c : Cf} {m : Ms} {row : List Bool} {L : List Vd} (f : Fine c) (ev : Elems 2 h c.vals (vds L)) (hkey : ∀ v ∈ L, v.key.length ≤ 64) (e : Elems 1 h m.bits (bools row)) (hl : row.length < 500) (hbo : BodyOk m)
    (hr : ∀ h', Ext h h' → R (TV.bool (checkF c.vals.len c.com L m row)).val h') : CallsH Try.prog 20 (TVs.vals [c.tv, m.tv]) h R := by
  apply tollerref08_Check_calls c.vals c.ep c.com c.no c.orp c.ear c.quo c.pe c.by_ c.win c.ban c.dec m.kind m.slot m.target m.member m.body m.bits m.tag
  unfold tollerref08_Check_vc
  refine newTV_in fun h1 v1 x1 s1 => newTV_in fun h2 v2 x2 s2 => ?_
  have v1 : Var 24 h2 h.size c.tv := Var.ext (t := c.tv) v1 x2
  have v2 : Var 32 h2 h1.size m.tv := v2
  have x02 := x1.trans x2
  refine cf_at v1 (ms_at v2 (doctag_spec f (ev.ext x02) hkey (e.ext x02) hl hbo fun h3 x3 => ⟨_, _, rfl, ?_⟩))
  refine newTV_in fun h4 v4 x4 s4 => put_n v4 (t := .bytes 16 (tagF c.vals.len c.com L m row).1) rfl rfl fun h5 v5 f5 s5 => ?_
  have x35 : Ext h3 h5 := Only.cut x4 f5 fun i hi => by omega
  have x05 := (x02.trans x3).trans x35
  have hr5 := hr h5 x05
  unfold checkF at hr5
  refine If.split (fun hb => ?_) fun hb => ?_
  · rw [hb, Bool.true_and] at hr5
    have w2 := (v2.ext x3).ext x35
    exact ⟨_, v5.bytes, m.tag, w2.at.2.2.2.2.2.2, hr5⟩
  · rw [hb, Bool.false_and] at hr5
    exact hr5

theorem docvotes_spec {c : Cf} {m : Ms} {row : List Bool} (f : Fine c) (e : Elems 1 h m.bits (bools row)) (hl : row.length < 500)
    (hr : ∀ h' s', Elems 34 h' s' (vts (votesF c.vals.len c.com m row)) → Ext h h' → R (TV.slice s').val h') : CallsH Try.prog 21 (TVs.vals [c.tv, m.tv]) h R := by
  apply tollerref08_Votes_calls c.vals c.ep c.com c.no c.orp c.ear c.quo c.pe c.by_ c.win c.ban c.dec m.kind m.slot m.target m.member m.body m.bits m.tag
  unfold tollerref08_Votes_vc
  have f4 := f.len
  refine newTV_in fun h1 v1 x1 s1 => newTV_in fun h2 v2 x2 s2 => ?_
  have v1 : Var 24 h2 h.size c.tv := Var.ext (t := c.tv) v1 x2
  have v2 : Var 32 h2 h1.size m.tv := v2
  have x02 := x1.trans x2
  refine cf_at v1 (ms_at v2 (docspeak_spec f (e.ext x02) (by omega) fun h3 s3 e3 x3 _ => ⟨_, _, rfl, ?_⟩))
  have x03 := x02.trans x3
  have w2 := v2.ext x3
  intro J HJ
  refine If.split (fun hb => ?_) fun hb => ⟨_, w2.at.1, If.dec.2 ⟨fun hk => ?_, fun hk => HJ _ _ ?_⟩⟩
  · have hs : votesF c.vals.len c.com m row = [] := if_pos (.inl (by simpa using hb))
    exact hr h3 Sl.nil (by rw [hs]; exact Elems.nil_ _ _) x03
  · have hs : votesF c.vals.len c.com m row = [] := if_pos (.inr hk)
    exact hr h3 Sl.nil (by rw [hs]; exact Elems.nil_ _ _) x03
  · have hb : (speakF c.vals.len c.com m row).2 = true := by simpa using hb
    have hs : votesF c.vals.len c.com m row = (speakF c.vals.len c.com m row).1.map fun i => ⟨i, m.slot, m.target⟩ := if_neg (by rw [hb]; rintro (h | h); cases h; exact hk h)
    have hlen := speak_len (n := c.vals.len) (com := c.com) (m := m) (row := row)
    generalize (speakF c.vals.len c.com m row).1 = l at e3 hs hlen
    have el := ints_len e3
    refine ⟨fun σ hh => 0 ≤ σ.2 ∧ σ.2 ≤ s3.len ∧ Own 41 34 hh σ.1 (vts ((l.take σ.2.toNat).map fun i => ⟨i, m.slot, m.target⟩)) ∧ (∀ p, σ.1.a = some p → h3.size ≤ p.b) ∧ Ext h3 hh, fun σ _ => ((s3.len : Int) - σ.2).toNat,
      ⟨Int.le_refl 0, by first | omega | (dsimp only; omega), Own.nil _ _ _, (fun p hp => by cases hp), Ext.refl _⟩, ?_⟩
    rintro ⟨t, i⟩ h5 ⟨i0, i1, o5, b5, x5⟩
    dsimp only at i0 i1 o5 b5 x5 ⊢
    refine If.dec.2 ⟨fun hi => ?_, fun hi => ?_⟩
    · refine read_int (e3.ext x5) i0 (by omega) fun x hx => ?_
      have w5 := w2.ext x5
      refine ⟨_, w5.at.2.1, _, w5.at.2.2.1, ?_⟩
      have tl := o5.len
      rw [List.length_map, List.length_map, List.length_take] at tl
      refine append1 (C := ctx) (T := 41) (sz := 34) (x := Vt.tv ⟨x, m.slot, m.target⟩) size41 zsize41 (by rw [bytes41]; decide) (by rw [bytes41]; omega) o5 (Vt.size _) (Vt.plain _) fun s9 h9 o9 f9 b9 => ?_
      rw [wrap_i64 (n := i + 1) (by omega) (by omega)]
      have x9 : Ext h3 h9 := Only.cut x5 f9 fun j ⟨p, hp, hj⟩ => by have := b5 p hp; omega
      have z5 := x5.size
      refine ⟨⟨by omega, by omega, ?_, fun p hp => ?_, x9⟩, by first | omega | (dsimp only; omega)⟩
      · rw [show (i + 1).toNat = i.toNat + 1 by omega, take_snoc hx, List.map_append]
        simpa [vts] using o9
      · rcases b9 p hp with ⟨p', h1', h2'⟩ | h1'
        · have := b5 p' h1'; omega
        · omega
    · have hall : l.take i.toNat = l := List.take_of_length_le (by omega)
      rw [hall] at o5
      refine hr h5 t ?_ (x03.trans x5)
      rw [hs]
      exact o5.elems

/-! ### Two messages, the same -/

theorem bsame_spec {s t : Sl} {l : List Bool} (e : Elems 1 h s (bools l)) (k : Elems 1 h t (bools l)) (hl : l.length < 100000) (hr : R (TV.bool true).val h) : CallsH Try.prog 40 (TVs.vals [.slice s, .slice t]) h R := by
  apply tollerref02_Same_calls
  unfold tollerref02_Same_vc
  have es : l.length = s.len := by have := e.len; rwa [List.length_map] at this
  have et : l.length = t.len := by have := k.len; rwa [List.length_map] at this
  refine If.split (fun hb => ?_) fun _ => ?_
  · have : ((s.len : Nat) : Int) = ((t.len : Nat) : Int) := by omega
    simp [this] at hb
  refine ⟨fun σ hh => 0 ≤ σ.2 ∧ σ.2 ≤ s.len ∧ hh = h, fun σ _ => ((s.len : Int) - σ.2).toNat, ⟨Int.le_refl 0, by first | omega | (dsimp only; omega), rfl⟩, ?_⟩
  rintro ⟨f, i⟩ hh ⟨i0, i1, rfl⟩
  dsimp only at i0 i1 ⊢
  refine If.dec.2 ⟨fun hi => ?_, fun hi => hr⟩
  refine read_bool e i0 (by omega) fun x hx => read_bool k i0 (by omega) fun y hy => ?_
  rw [hx] at hy
  obtain rfl := Option.some.inj hy
  have : (!x == x) = false := by cases x <;> rfl
  rw [this]
  refine If.no ?_
  rw [wrap_i64 (n := i + 1) (by omega) (by omega)]
  exact ⟨⟨by first | omega | (dsimp only; omega), by first | omega | (dsimp only; omega), rfl⟩, by first | omega | (dsimp only; omega)⟩

/-- Two messages with the same parts, whatever slices hold their bits. -/
theorem msame_spec {a b : Ms} {row : List Bool} (e : Elems 1 h a.bits (bools row)) (k : Elems 1 h b.bits (bools row)) (hl : row.length < 100000) (h1 : a.kind = b.kind) (h2 : a.slot = b.slot) (h3 : a.target = b.target) (h4 : a.member = b.member) (h5 : a.body = b.body) (h6 : a.tag = b.tag)
    (hr : ∀ h', Ext h h' → R (TV.bool true).val h') : CallsH Try.prog 23 (TVs.vals [a.tv, b.tv]) h R := by
  apply tollerref07_Same_calls a.kind a.slot a.target a.member a.body a.bits a.tag b.kind b.slot b.target b.member b.body b.bits b.tag
  unfold tollerref07_Same_vc
  refine newTV_in fun h1' v1 x1 s1 => newTV_in fun h2' v2 x2 s2 => ?_
  have v1 : Var 32 h2' h.size a.tv := Var.ext (t := a.tv) v1 x2
  have v2 : Var 32 h2' h1'.size b.tv := v2
  obtain ⟨a0, a1, a2, a3, a4, a5, a6⟩ := v1.at (t := a.tv)
  obtain ⟨b0, b1, b2, b3, b4, b5, b6⟩ := v2.at (t := b.tv)
  have x02 := x1.trans x2
  refine ⟨_, a0, _, b0, If.dec.2 ⟨fun _ => ?_, fun hn => absurd h1 hn⟩⟩
  refine ⟨_, a1, _, b1, If.dec.2 ⟨fun _ => ?_, fun hn => absurd h2 hn⟩⟩
  refine ⟨_, a2, _, b2, If.dec.2 ⟨fun _ => ?_, fun hn => absurd (by rw [h3]) hn⟩⟩
  refine ⟨_, a3, _, b3, If.dec.2 ⟨fun _ => ?_, fun hn => absurd h4 hn⟩⟩
  refine ⟨_, a4, _, b4, If.dec.2 ⟨fun _ => ?_, fun hn => absurd h5 hn⟩⟩
  refine ⟨_, a6, _, b6, If.dec.2 ⟨fun _ => ?_, fun hn => absurd (by rw [h6]) hn⟩⟩
  exact ⟨_, a5, _, b5, bsame_spec (e.ext x02) (k.ext x02) hl ⟨_, rfl, hr h2' x02⟩⟩

end
end Go.Proofs.Ytgdhddignbkloaa.Board
end

section
/- Fields of elements that are written. -/
namespace Go.Vc
open Go

theorem list_cut {α : Type} (P C Q rest U : List α) (d n : Nat) (hd : d + n ≤ C.length) :
    (P ++ (C ++ Q) ++ rest).take (P.length + d) ++ U ++ (P ++ (C ++ Q) ++ rest).drop (P.length + d + n) = P ++ (C.take d ++ U ++ C.drop (d + n)) ++ Q ++ rest := by
  rw [Nat.add_assoc P.length d n, List.append_assoc P, List.take_length_add_append, List.drop_length_add_append, List.append_assoc C, List.take_append_of_le_length (by omega), List.drop_append_of_le_length (by omega)]
  simp only [List.append_assoc]

/-- A field of an element is written. -/
theorem Own.field_in {T : TypeId} {sz n d : Nat} {h : Heap} {s : Sl} {ts : List TV} {K : Heap → Prop} {u t t0 : TV} {i : Int} (o : Own T sz h s ts) (i0 : 0 ≤ i) (hg : ts[i.toNat]? = some t0) (hu : u.size = n)
    (hdn : d + n ≤ sz) (hc : t0.cells.take d ++ u.cells ++ t0.cells.drop (d + n) = t.cells)
    (hk : ∀ h1, Own T sz h1 s (ts.set i.toNat t) → Only (In s) h h1 → h1.size = h.size → K h1) :
    0 ≤ i ∧ i < (s.len : Int) ∧ Nn s.a fun l => wok h l.b (l.o + i.toNat * sz + d) n ∧ Bind (u.put h l.b (l.o + i.toNat * sz + d)) K := by
  have hi : i.toNat < ts.length := (List.getElem?_eq_some_iff.1 hg).1
  have hle := o.len
  have hlen := TVs.cells_uniform ts o.size
  have ht0 : t0.size = sz := o.size _ (List.mem_of_getElem? hg)
  have ht : t.size = sz := by
    rw [← TV.cells_length, ← hc, List.length_append, List.length_append, List.length_take, List.length_drop, TV.cells_length, TV.cells_length, ht0, hu]
    omega
  refine ⟨i0, by omega, ?_⟩
  rcases o.row with rfl | ⟨b, rest, ha, hb, hr⟩
  · simp only [Sl.nil] at hle
    omega
  · have hmul : i.toNat * sz + sz ≤ ts.length * sz := by
      have := Nat.mul_le_mul_right sz (show i.toNat + 1 ≤ ts.length by omega)
      rwa [Nat.succ_mul] at this
    have hl : i.toNat * sz + d + u.size ≤ (TVs.cells ts ++ rest).length := by rw [List.length_append, hlen, hu]; omega
    rw [ha]
    show wok h b (0 + i.toNat * sz + d) n ∧ Bind (u.put h b (0 + i.toNat * sz + d)) K
    rw [Nat.zero_add]
    refine ⟨wok_row hb (by rw [← hu]; exact hl), hk _ ?_ ((put_only hb hl).mono fun j hj => ⟨⟨b, 0⟩, ha, hj.symm⟩) (put_size hb hl)⟩
    have hp := put_row (t := u) hb hl
    refine ⟨fun v hv => ?_, by rw [List.length_set]; exact o.len, o.cap, .inr ⟨b, rest, ha, ?_, hr⟩⟩
    · rcases List.mem_or_eq_of_mem_set hv with h1 | rfl
      · exact o.size v h1
      · exact ht
    · have hA := cells_elem ts i.toNat t0 o.size ht0 hi
      have hself : ts.set i.toNat t0 = ts := by
        obtain ⟨h1, h2⟩ := List.getElem?_eq_some_iff.1 hg
        rw [← h2, List.set_getElem_self]
      rw [hself] at hA
      rw [hp, ← cells_elem ts i.toNat t o.size ht hi, ht, ← hc, ← hu]
      rw [ht0] at hA
      obtain ⟨P, hP⟩ : ∃ P, P = (TVs.cells ts).take (i.toNat * sz) := ⟨_, rfl⟩
      obtain ⟨Q, hQ⟩ : ∃ Q, Q = (TVs.cells ts).drop (i.toNat * sz + sz) := ⟨_, rfl⟩
      rw [← hP, ← hQ] at hA ⊢
      have hPl : P.length = i.toNat * sz := by rw [hP, List.length_take, hlen]; omega
      have := list_cut P t0.cells Q rest u.cells d u.size (by rw [TV.cells_length, ht0, hu]; exact hdn)
      rw [hPl] at this
      rw [← hA, List.append_assoc P, this]

theorem wf_u8 {n : Int} (h : (Lit.int .u8 n).wf = true) : 0 ≤ n ∧ n < 256 := by
  simp only [Lit.wf, Bool.and_eq_true, decide_eq_true_eq] at h
  have h0 : IntKind.u8.min ≤ n := h.1
  have h1 : n ≤ IntKind.u8.max := h.2
  have e0 : IntKind.u8.min = 0 := rfl
  have e1 : IntKind.u8.max = 255 := rfl
  omega

theorem wf_u64 {n : Int} (h : (Lit.int .u64 n).wf = true) : 0 ≤ n ∧ n < 18446744073709551616 := by
  simp only [Lit.wf, Bool.and_eq_true, decide_eq_true_eq] at h
  have h0 : IntKind.u64.min ≤ n := h.1
  have h1 : n ≤ IntKind.u64.max := h.2
  have e0 : IntKind.u64.min = 0 := rfl
  have e1 : IntKind.u64.max = 18446744073709551615 := rfl
  omega

end Go.Vc
end

section
/- The conditions of functions, as the generator reckons them out, each with the proof that it is that. -/
namespace Go.Proofs.Ytgdhddignbkloaa
open Go Go.Vc
set_option maxRecDepth 100000
set_option linter.unusedVariables false

def tollerlaw08_SealIs_vc (c_Validators : Sl) (c_Epoch : Int) (c_Committee : Int) (c_Nodes : Int) (c_Orphans : Int) (c_Early : Int) (c_Quota : Int) (c_Peers : Int) (c_Bytes : Int) (c_Window : Int) (c_Ban : Int) (c_Decay : Int) (m_Kind : Int) (m_Slot : Int) (m_Target : Bs (32 : Nat)) (m_Member : Int) (m_Body : Int) (m_Bits : Sl) (m_Tag : Bs (16 : Nat)) (h : Heap) (R : Value → Heap → Prop) : Prop :=
 Vc.Bind
 (newTV h
 (TV.agg
 [TV.slice c_Validators, TV.int IntKind.i64 c_Epoch, TV.int IntKind.i64 c_Committee, TV.int IntKind.i64 c_Nodes, TV.int IntKind.i64 c_Orphans,
 TV.int IntKind.i64 c_Early, TV.int IntKind.i64 c_Quota, TV.int IntKind.i64 c_Peers, TV.int IntKind.i64 c_Bytes, TV.int IntKind.i64 c_Window,
 TV.int IntKind.i64 c_Ban, TV.int IntKind.i64 c_Decay])
 (24 : Nat))
 fun (h_1 : Array Obj) ↦
 Vc.Bind
 (newTV h_1
 (TV.agg
 [TV.int IntKind.i64 m_Kind, TV.int IntKind.i64 m_Slot, TV.bytes (32 : Nat) m_Target, TV.int IntKind.i64 m_Member, TV.int IntKind.u64 m_Body,
 TV.slice m_Bits, TV.bytes (16 : Nat) m_Tag])
 (32 : Nat))
 fun (h_2 : Array Obj) ↦
 CallsH Try.prog (9 : Nat) (TVs.vals []) h_2 fun (v : Value) (h_3 : Array Obj) ↦
 ∃ (b : Bool),
 v = TV.val (TV.bool b) ∧
 If (!b) (R (TV.val (TV.bool false)) h_3)
 (∃ (s : Sl),
 ∃ (n : Int),
 ∃ (n_1 : Int),
 ∃ (n_2 : Int),
 ∃ (n_3 : Int),
 ∃ (n_4 : Int),
 ∃ (n_5 : Int),
 ∃ (n_6 : Int),
 ∃ (n_7 : Int),
 ∃ (n_8 : Int),
 ∃ (n_9 : Int),
 ∃ (n_10 : Int),
 (at1 h_3 (Array.size h) (0 : Nat) (slVal s) ∧
 at1 h_3 (Array.size h) (1 : Nat) (Value.int IntKind.i64 n) ∧
 at1 h_3 (Array.size h) (2 : Nat) (Value.int IntKind.i64 n_1) ∧
 at1 h_3 (Array.size h) (3 : Nat) (Value.int IntKind.i64 n_2) ∧
 at1 h_3 (Array.size h) (4 : Nat) (Value.int IntKind.i64 n_3) ∧
 at1 h_3 (Array.size h) (5 : Nat) (Value.int IntKind.i64 n_4) ∧
 at1 h_3 (Array.size h) (6 : Nat) (Value.int IntKind.i64 n_5) ∧
 at1 h_3 (Array.size h) (7 : Nat) (Value.int IntKind.i64 n_6) ∧
 at1 h_3 (Array.size h) (8 : Nat) (Value.int IntKind.i64 n_7) ∧
 at1 h_3 (Array.size h) (9 : Nat) (Value.int IntKind.i64 n_8) ∧
 at1 h_3 (Array.size h) (10 : Nat) (Value.int IntKind.i64 n_9) ∧
 at1 h_3 (Array.size h) (11 : Nat) (Value.int IntKind.i64 n_10)) ∧
 ∃ (n_11 : Int),
 ∃ (n_12 : Int),
 ∃ (b : Bs (32 : Nat)),
 ∃ (n_13 : Int),
 ∃ (n_14 : Int),
 ∃ (s_1 : Sl),
 ∃ (b_1 : Bs (16 : Nat)),
 (at1 h_3 (Array.size h_1) (0 : Nat) (Value.int IntKind.i64 n_11) ∧
 at1 h_3 (Array.size h_1) (1 : Nat) (Value.int IntKind.i64 n_12) ∧
 atBytes h_3 (Array.size h_1) (2 : Nat) (32 : Nat) b ∧
 at1 h_3 (Array.size h_1) (34 : Nat) (Value.int IntKind.i64 n_13) ∧
 at1 h_3 (Array.size h_1) (35 : Nat) (Value.int IntKind.u64 n_14) ∧
 at1 h_3 (Array.size h_1) (36 : Nat) (slVal s_1) ∧
 atBytes h_3 (Array.size h_1) (37 : Nat) (16 : Nat) b_1) ∧
 CallsH Try.prog (10 : Nat)
 (TVs.vals
 [TV.agg
 [TV.slice s, TV.int IntKind.i64 n, TV.int IntKind.i64 n_1, TV.int IntKind.i64 n_2,
 TV.int IntKind.i64 n_3, TV.int IntKind.i64 n_4, TV.int IntKind.i64 n_5, TV.int IntKind.i64 n_6,
 TV.int IntKind.i64 n_7, TV.int IntKind.i64 n_8, TV.int IntKind.i64 n_9,
 TV.int IntKind.i64 n_10],
 TV.agg
 [TV.int IntKind.i64 n_11, TV.int IntKind.i64 n_12, TV.bytes (32 : Nat) b, TV.int IntKind.i64 n_13,
 TV.int IntKind.u64 n_14, TV.slice s_1, TV.bytes (16 : Nat) b_1]])
 h_3 fun (v : Value) (h_4 : Array Obj) ↦
 ∃ (b : Bool),
 v = TV.val (TV.bool b) ∧
 If b (R (TV.val (TV.bool true)) h_4)
 (∃ (s : Sl),
 ∃ (n : Int),
 ∃ (n_15 : Int),
 ∃ (n_16 : Int),
 ∃ (n_17 : Int),
 ∃ (n_18 : Int),
 ∃ (n_19 : Int),
 ∃ (n_20 : Int),
 ∃ (n_21 : Int),
 ∃ (n_22 : Int),
 ∃ (n_23 : Int),
 ∃ (n_24 : Int),
 (at1 h_4 (Array.size h) (0 : Nat) (slVal s) ∧
 at1 h_4 (Array.size h) (1 : Nat) (Value.int IntKind.i64 n) ∧
 at1 h_4 (Array.size h) (2 : Nat) (Value.int IntKind.i64 n_15) ∧
 at1 h_4 (Array.size h) (3 : Nat) (Value.int IntKind.i64 n_16) ∧
 at1 h_4 (Array.size h) (4 : Nat) (Value.int IntKind.i64 n_17) ∧
 at1 h_4 (Array.size h) (5 : Nat)
 (Value.int IntKind.i64 n_18) ∧
 at1 h_4 (Array.size h) (6 : Nat)
 (Value.int IntKind.i64 n_19) ∧
 at1 h_4 (Array.size h) (7 : Nat)
 (Value.int IntKind.i64 n_20) ∧
 at1 h_4 (Array.size h) (8 : Nat)
 (Value.int IntKind.i64 n_21) ∧
 at1 h_4 (Array.size h) (9 : Nat)
 (Value.int IntKind.i64 n_22) ∧
 at1 h_4 (Array.size h) (10 : Nat)
 (Value.int IntKind.i64 n_23) ∧
 at1 h_4 (Array.size h) (11 : Nat)
 (Value.int IntKind.i64 n_24)) ∧
 ∃ (n_25 : Int),
 ∃ (n_26 : Int),
 ∃ (b : Bs (32 : Nat)),
 ∃ (n_27 : Int),
 ∃ (n_28 : Int),
 ∃ (s_2 : Sl),
 ∃ (b_2 : Bs (16 : Nat)),
 (at1 h_4 (Array.size h_1) (0 : Nat)
 (Value.int IntKind.i64 n_25) ∧
 at1 h_4 (Array.size h_1) (1 : Nat)
 (Value.int IntKind.i64 n_26) ∧
 atBytes h_4 (Array.size h_1) (2 : Nat) (32 : Nat)
 b ∧
 at1 h_4 (Array.size h_1) (34 : Nat)
 (Value.int IntKind.i64 n_27) ∧
 at1 h_4 (Array.size h_1) (35 : Nat)
 (Value.int IntKind.u64 n_28) ∧
 at1 h_4 (Array.size h_1) (36 : Nat)
 (slVal s_2) ∧
 atBytes h_4 (Array.size h_1) (37 : Nat)
 (16 : Nat) b_2) ∧
 CallsH Try.prog (14 : Nat)
 (TVs.vals
 [TV.agg
 [TV.slice s, TV.int IntKind.i64 n,
 TV.int IntKind.i64 n_15,
 TV.int IntKind.i64 n_16,
 TV.int IntKind.i64 n_17,
 TV.int IntKind.i64 n_18,
 TV.int IntKind.i64 n_19,
 TV.int IntKind.i64 n_20,
 TV.int IntKind.i64 n_21,
 TV.int IntKind.i64 n_22,
 TV.int IntKind.i64 n_23,
 TV.int IntKind.i64 n_24],
 TV.agg
 [TV.int IntKind.i64 n_25,
 TV.int IntKind.i64 n_26,
 TV.bytes (32 : Nat) b,
 TV.int IntKind.i64 n_27,
 TV.int IntKind.u64 n_28, TV.slice s_2,
 TV.bytes (16 : Nat) b_2]])
 h_4 fun (v : Value) (h_5 : Array Obj) ↦
 ∃ (s : Sl),
 ∃ (b : Bool),
 v = TV.val (TV.tup [TV.slice s, TV.bool b]) ∧
 ∃ (s_3 : Sl),
 ∃ (n : Int),
 ∃ (n_29 : Int),
 ∃ (n_30 : Int),
 ∃ (n_31 : Int),
 ∃ (n_32 : Int),
 ∃ (n_33 : Int),
 ∃ (n_34 : Int),
 ∃ (n_35 : Int),
 ∃ (n_36 : Int),
 ∃ (n_37 : Int),
 ∃ (n_38 : Int),
 (at1 h_5 (Array.size h)
 (0 : Nat)
 (slVal s_3) ∧
 at1 h_5
 (Array.size h)
 (1 : Nat)
 (Value.int
 IntKind.i64
 n) ∧
 at1 h_5
 (Array.size h)
 (2 : Nat)
 (Value.int
 IntKind.i64
 n_29) ∧
 at1 h_5
 (Array.size
 h)
 (3 : Nat)
 (Value.int
 IntKind.i64
 n_30) ∧
 at1 h_5
 (Array.size
 h)
 (4 : Nat)
 (Value.int
 IntKind.i64
 n_31) ∧
 at1 h_5
 (Array.size
 h)
 (5 :
 Nat)
 (Value.int
 IntKind.i64
 n_32) ∧
 at1 h_5
 (Array.size
 h)
 (6 :
 Nat)
 (Value.int
 IntKind.i64
 n_33) ∧
 at1 h_5
 (Array.size
 h)
 (7 :
 Nat)
 (Value.int
 IntKind.i64
 n_34) ∧
 at1
 h_5
 (Array.size
 h)
 (8 :
 Nat)
 (Value.int
 IntKind.i64
 n_35) ∧
 at1
 h_5
 (Array.size
 h)
 (9 :
 Nat)
 (Value.int
 IntKind.i64
 n_36) ∧
 at1
 h_5
 (Array.size
 h)
 (10 :
 Nat)
 (Value.int
 IntKind.i64
 n_37) ∧
 at1
 h_5
 (Array.size
 h)
 (11 :
 Nat)
 (Value.int
 IntKind.i64
 n_38)) ∧
 ∃ (n_39 : Int),
 ∃ (n_40 : Int),
 ∃ (b_3 :
 Bs (32 : Nat)),
 ∃ (n_41 : Int),
 ∃ (n_42 :
 Int),
 ∃ (s_4 :
 Sl),
 ∃ (b_4 :
 Bs
 (16 :
 Nat)),
 (at1 h_5
 (Array.size
 h_1)
 (0 :
 Nat)
 (Value.int
 IntKind.i64
 n_39) ∧
 at1
 h_5
 (Array.size
 h_1)
 (1 :
 Nat)
 (Value.int
 IntKind.i64
 n_40) ∧
 atBytes
 h_5
 (Array.size
 h_1)
 (2 :
 Nat)
 (32 :
 Nat)
 b_3 ∧
 at1
 h_5
 (Array.size
 h_1)
 (34 :
 Nat)
 (Value.int
 IntKind.i64
 n_41) ∧
 at1
 h_5
 (Array.size
 h_1)
 (35 :
 Nat)
 (Value.int
 IntKind.u64
 n_42) ∧
 at1
 h_5
 (Array.size
 h_1)
 (36 :
 Nat)
 (slVal
 s_4) ∧
 atBytes
 h_5
 (Array.size
 h_1)
 (37 :
 Nat)
 (16 :
 Nat)
 b_4) ∧
 CallsH
 Try.prog
 (18 :
 Nat)
 (TVs.vals
 [TV.agg
 [TV.slice
 s_3,
 TV.int
 IntKind.i64
 n,
 TV.int
 IntKind.i64
 n_29,
 TV.int
 IntKind.i64
 n_30,
 TV.int
 IntKind.i64
 n_31,
 TV.int
 IntKind.i64
 n_32,
 TV.int
 IntKind.i64
 n_33,
 TV.int
 IntKind.i64
 n_34,
 TV.int
 IntKind.i64
 n_35,
 TV.int
 IntKind.i64
 n_36,
 TV.int
 IntKind.i64
 n_37,
 TV.int
 IntKind.i64
 n_38],
 TV.agg
 [TV.int
 IntKind.i64
 n_39,
 TV.int
 IntKind.i64
 n_40,
 TV.bytes
 (32 :
 Nat)
 b_3,
 TV.int
 IntKind.i64
 n_41,
 TV.int
 IntKind.u64
 n_42,
 TV.slice
 s_4,
 TV.bytes
 (16 :
 Nat)
 b_4]])
 h_5
 fun
 (v :
 Value)
 (h_6 :
 Array
 Obj) ↦
 ∃
 (s_5
 :
 Sl),
 ∃
 (b_5
 :
 Bool),
 v =
 TV.val
 (TV.tup
 [TV.slice
 s_5,
 TV.bool
 b_5]) ∧
 ∃
 (s_6
 :
 Sl),
 ∃
 (n
 :
 Int),
 ∃
 (n_43
 :
 Int),
 ∃
 (n_44
 :
 Int),
 ∃
 (n_45
 :
 Int),
 ∃
 (n_46
 :
 Int),
 ∃
 (n_47
 :
 Int),
 ∃
 (n_48
 :
 Int),
 ∃
 (n_49
 :
 Int),
 ∃
 (n_50
 :
 Int),
 ∃
 (n_51
 :
 Int),
 ∃
 (n_52
 :
 Int),
 (at1
 h_6
 (Array.size
 h)
 (0 :
 Nat)
 (slVal
 s_6) ∧
 at1
 h_6
 (Array.size
 h)
 (1 :
 Nat)
 (Value.int
 IntKind.i64
 n) ∧
 at1
 h_6
 (Array.size
 h)
 (2 :
 Nat)
 (Value.int
 IntKind.i64
 n_43) ∧
 at1
 h_6
 (Array.size
 h)
 (3 :
 Nat)
 (Value.int
 IntKind.i64
 n_44) ∧
 at1
 h_6
 (Array.size
 h)
 (4 :
 Nat)
 (Value.int
 IntKind.i64
 n_45) ∧
 at1
 h_6
 (Array.size
 h)
 (5 :
 Nat)
 (Value.int
 IntKind.i64
 n_46) ∧
 at1
 h_6
 (Array.size
 h)
 (6 :
 Nat)
 (Value.int
 IntKind.i64
 n_47) ∧
 at1
 h_6
 (Array.size
 h)
 (7 :
 Nat)
 (Value.int
 IntKind.i64
 n_48) ∧
 at1
 h_6
 (Array.size
 h)
 (8 :
 Nat)
 (Value.int
 IntKind.i64
 n_49) ∧
 at1
 h_6
 (Array.size
 h)
 (9 :
 Nat)
 (Value.int
 IntKind.i64
 n_50) ∧
 at1
 h_6
 (Array.size
 h)
 (10 :
 Nat)
 (Value.int
 IntKind.i64
 n_51) ∧
 at1
 h_6
 (Array.size
 h)
 (11 :
 Nat)
 (Value.int
 IntKind.i64
 n_52)) ∧
 ∃
 (n_53
 :
 Int),
 ∃
 (n_54
 :
 Int),
 ∃
 (b_6
 :
 Bs
 (32 :
 Nat)),
 ∃
 (n_55
 :
 Int),
 ∃
 (n_56
 :
 Int),
 ∃
 (s_7
 :
 Sl),
 ∃
 (b_7
 :
 Bs
 (16 :
 Nat)),
 (at1
 h_6
 (Array.size
 h_1)
 (0 :
 Nat)
 (Value.int
 IntKind.i64
 n_53) ∧
 at1
 h_6
 (Array.size
 h_1)
 (1 :
 Nat)
 (Value.int
 IntKind.i64
 n_54) ∧
 atBytes
 h_6
 (Array.size
 h_1)
 (2 :
 Nat)
 (32 :
 Nat)
 b_6 ∧
 at1
 h_6
 (Array.size
 h_1)
 (34 :
 Nat)
 (Value.int
 IntKind.i64
 n_55) ∧
 at1
 h_6
 (Array.size
 h_1)
 (35 :
 Nat)
 (Value.int
 IntKind.u64
 n_56) ∧
 at1
 h_6
 (Array.size
 h_1)
 (36 :
 Nat)
 (slVal
 s_7) ∧
 atBytes
 h_6
 (Array.size
 h_1)
 (37 :
 Nat)
 (16 :
 Nat)
 b_7) ∧
 CallsH
 Try.prog
 (11 :
 Nat)
 (TVs.vals
 [TV.agg
 [TV.slice
 s_6,
 TV.int
 IntKind.i64
 n,
 TV.int
 IntKind.i64
 n_43,
 TV.int
 IntKind.i64
 n_44,
 TV.int
 IntKind.i64
 n_45,
 TV.int
 IntKind.i64
 n_46,
 TV.int
 IntKind.i64
 n_47,
 TV.int
 IntKind.i64
 n_48,
 TV.int
 IntKind.i64
 n_49,
 TV.int
 IntKind.i64
 n_50,
 TV.int
 IntKind.i64
 n_51,
 TV.int
 IntKind.i64
 n_52],
 TV.agg
 [TV.int
 IntKind.i64
 n_53,
 TV.int
 IntKind.i64
 n_54,
 TV.bytes
 (32 :
 Nat)
 b_6,
 TV.int
 IntKind.i64
 n_55,
 TV.int
 IntKind.u64
 n_56,
 TV.slice
 s_7,
 TV.bytes
 (16 :
 Nat)
 b_7]])
 h_6
 fun
 (v :
 Value)
 (h_7 :
 Array
 Obj) ↦
 ∃
 (b_8
 :
 Bs
 (16 :
 Nat)),
 ∃
 (b_9
 :
 Bool),
 v =
 TV.val
 (TV.tup
 [TV.bytes
 (16 :
 Nat)
 b_8,
 TV.bool
 b_9]) ∧
 Vc.Bind
 (newTV
 h_7
 (TV.bytes
 (16 :
 Nat)
 (Bs.zero
 (16 :
 Nat)))
 (30 :
 Nat))
 fun
 (h_8 :
 Array
 Obj) ↦
 wok
 h_8
 (Array.size
 h_7)
 (0 :
 Nat)
 (16 :
 Nat) ∧
 Vc.Bind
 (TV.put
 h_8
 (Array.size
 h_7)
 (0 :
 Nat)
 (TV.bytes
 (16 :
 Nat)
 b_8))
 fun
 (h_9 :
 Array
 Obj) ↦
 ∃
 (s_8
 :
 Sl),
 ∃
 (n
 :
 Int),
 ∃
 (n_57
 :
 Int),
 ∃
 (n_58
 :
 Int),
 ∃
 (n_59
 :
 Int),
 ∃
 (n_60
 :
 Int),
 ∃
 (n_61
 :
 Int),
 ∃
 (n_62
 :
 Int),
 ∃
 (n_63
 :
 Int),
 ∃
 (n_64
 :
 Int),
 ∃
 (n_65
 :
 Int),
 ∃
 (n_66
 :
 Int),
 (at1
 h_9
 (Array.size
 h)
 (0 :
 Nat)
 (slVal
 s_8) ∧
 at1
 h_9
 (Array.size
 h)
 (1 :
 Nat)
 (Value.int
 IntKind.i64
 n) ∧
 at1
 h_9
 (Array.size
 h)
 (2 :
 Nat)
 (Value.int
 IntKind.i64
 n_57) ∧
 at1
 h_9
 (Array.size
 h)
 (3 :
 Nat)
 (Value.int
 IntKind.i64
 n_58) ∧
 at1
 h_9
 (Array.size
 h)
 (4 :
 Nat)
 (Value.int
 IntKind.i64
 n_59) ∧
 at1
 h_9
 (Array.size
 h)
 (5 :
 Nat)
 (Value.int
 IntKind.i64
 n_60) ∧
 at1
 h_9
 (Array.size
 h)
 (6 :
 Nat)
 (Value.int
 IntKind.i64
 n_61) ∧
 at1
 h_9
 (Array.size
 h)
 (7 :
 Nat)
 (Value.int
 IntKind.i64
 n_62) ∧
 at1
 h_9
 (Array.size
 h)
 (8 :
 Nat)
 (Value.int
 IntKind.i64
 n_63) ∧
 at1
 h_9
 (Array.size
 h)
 (9 :
 Nat)
 (Value.int
 IntKind.i64
 n_64) ∧
 at1
 h_9
 (Array.size
 h)
 (10 :
 Nat)
 (Value.int
 IntKind.i64
 n_65) ∧
 at1
 h_9
 (Array.size
 h)
 (11 :
 Nat)
 (Value.int
 IntKind.i64
 n_66)) ∧
 ∃
 (n_67
 :
 Int),
 ∃
 (n_68
 :
 Int),
 ∃
 (b_10
 :
 Bs
 (32 :
 Nat)),
 ∃
 (n_69
 :
 Int),
 ∃
 (n_70
 :
 Int),
 ∃
 (s_9
 :
 Sl),
 ∃
 (b_11
 :
 Bs
 (16 :
 Nat)),
 (at1
 h_9
 (Array.size
 h_1)
 (0 :
 Nat)
 (Value.int
 IntKind.i64
 n_67) ∧
 at1
 h_9
 (Array.size
 h_1)
 (1 :
 Nat)
 (Value.int
 IntKind.i64
 n_68) ∧
 atBytes
 h_9
 (Array.size
 h_1)
 (2 :
 Nat)
 (32 :
 Nat)
 b_10 ∧
 at1
 h_9
 (Array.size
 h_1)
 (34 :
 Nat)
 (Value.int
 IntKind.i64
 n_69) ∧
 at1
 h_9
 (Array.size
 h_1)
 (35 :
 Nat)
 (Value.int
 IntKind.u64
 n_70) ∧
 at1
 h_9
 (Array.size
 h_1)
 (36 :
 Nat)
 (slVal
 s_9) ∧
 atBytes
 h_9
 (Array.size
 h_1)
 (37 :
 Nat)
 (16 :
 Nat)
 b_11) ∧
 CallsH
 Try.prog
 (19 :
 Nat)
 (TVs.vals
 [TV.agg
 [TV.slice
 s_8,
 TV.int
 IntKind.i64
 n,
 TV.int
 IntKind.i64
 n_57,
 TV.int
 IntKind.i64
 n_58,
 TV.int
 IntKind.i64
 n_59,
 TV.int
 IntKind.i64
 n_60,
 TV.int
 IntKind.i64
 n_61,
 TV.int
 IntKind.i64
 n_62,
 TV.int
 IntKind.i64
 n_63,
 TV.int
 IntKind.i64
 n_64,
 TV.int
 IntKind.i64
 n_65,
 TV.int
 IntKind.i64
 n_66],
 TV.agg
 [TV.int
 IntKind.i64
 n_67,
 TV.int
 IntKind.i64
 n_68,
 TV.bytes
 (32 :
 Nat)
 b_10,
 TV.int
 IntKind.i64
 n_69,
 TV.int
 IntKind.u64
 n_70,
 TV.slice
 s_9,
 TV.bytes
 (16 :
 Nat)
 b_11]])
 h_9
 fun
 (v :
 Value)
 (h_10 :
 Array
 Obj) ↦
 ∃
 (b_12
 :
 Bs
 (16 :
 Nat)),
 ∃
 (b_13
 :
 Bool),
 v =
 TV.val
 (TV.tup
 [TV.bytes
 (16 :
 Nat)
 b_12,
 TV.bool
 b_13]) ∧
 Vc.Bind
 (newTV
 h_10
 (TV.bytes
 (16 :
 Nat)
 (Bs.zero
 (16 :
 Nat)))
 (30 :
 Nat))
 fun
 (h_11 :
 Array
 Obj) ↦
 wok
 h_11
 (Array.size
 h_10)
 (0 :
 Nat)
 (16 :
 Nat) ∧
 Vc.Bind
 (TV.put
 h_11
 (Array.size
 h_10)
 (0 :
 Nat)
 (TV.bytes
 (16 :
 Nat)
 b_12))
 fun
 (h_12 :
 Array
 Obj) ↦
 If
 (b ==
 b_5)
 (CallsH
 Try.prog
 (15 :
 Nat)
 (TVs.vals
 [TV.slice
 s,
 TV.slice
 s_5])
 h_12
 fun
 (v :
 Value)
 (h_13 :
 Array
 Obj) ↦
 ∃
 (b
 :
 Bool),
 v =
 TV.val
 (TV.bool
 b) ∧
 If
 b
 (∃
 (b
 :
 Bs
 (16 :
 Nat)),
 atBytes
 h_13
 (Array.size
 h_7)
 (0 :
 Nat)
 (16 :
 Nat)
 b ∧
 ∃
 (b_14
 :
 Bs
 (16 :
 Nat)),
 atBytes
 h_13
 (Array.size
 h_10)
 (0 :
 Nat)
 (16 :
 Nat)
 b_14 ∧
 If
 (decide
 (b.l =
 b_14.l))
 (If
 (b_9 ==
 b_13)
 (∃
 (s
 :
 Sl),
 ∃
 (n
 :
 Int),
 ∃
 (n_71
 :
 Int),
 ∃
 (n_72
 :
 Int),
 ∃
 (n_73
 :
 Int),
 ∃
 (n_74
 :
 Int),
 ∃
 (n_75
 :
 Int),
 ∃
 (n_76
 :
 Int),
 ∃
 (n_77
 :
 Int),
 ∃
 (n_78
 :
 Int),
 ∃
 (n_79
 :
 Int),
 ∃
 (n_80
 :
 Int),
 (at1
 h_13
 (Array.size
 h)
 (0 :
 Nat)
 (slVal
 s) ∧
 at1
 h_13
 (Array.size
 h)
 (1 :
 Nat)
 (Value.int
 IntKind.i64
 n) ∧
 at1
 h_13
 (Array.size
 h)
 (2 :
 Nat)
 (Value.int
 IntKind.i64
 n_71) ∧
 at1
 h_13
 (Array.size
 h)
 (3 :
 Nat)
 (Value.int
 IntKind.i64
 n_72) ∧
 at1
 h_13
 (Array.size
 h)
 (4 :
 Nat)
 (Value.int
 IntKind.i64
 n_73) ∧
 at1
 h_13
 (Array.size
 h)
 (5 :
 Nat)
 (Value.int
 IntKind.i64
 n_74) ∧
 at1
 h_13
 (Array.size
 h)
 (6 :
 Nat)
 (Value.int
 IntKind.i64
 n_75) ∧
 at1
 h_13
 (Array.size
 h)
 (7 :
 Nat)
 (Value.int
 IntKind.i64
 n_76) ∧
 at1
 h_13
 (Array.size
 h)
 (8 :
 Nat)
 (Value.int
 IntKind.i64
 n_77) ∧
 at1
 h_13
 (Array.size
 h)
 (9 :
 Nat)
 (Value.int
 IntKind.i64
 n_78) ∧
 at1
 h_13
 (Array.size
 h)
 (10 :
 Nat)
 (Value.int
 IntKind.i64
 n_79) ∧
 at1
 h_13
 (Array.size
 h)
 (11 :
 Nat)
 (Value.int
 IntKind.i64
 n_80)) ∧
 ∃
 (n_81
 :
 Int),
 ∃
 (n_82
 :
 Int),
 ∃
 (b
 :
 Bs
 (32 :
 Nat)),
 ∃
 (n_83
 :
 Int),
 ∃
 (n_84
 :
 Int),
 ∃
 (s_10
 :
 Sl),
 ∃
 (b_15
 :
 Bs
 (16 :
 Nat)),
 (at1
 h_13
 (Array.size
 h_1)
 (0 :
 Nat)
 (Value.int
 IntKind.i64
 n_81) ∧
 at1
 h_13
 (Array.size
 h_1)
 (1 :
 Nat)
 (Value.int
 IntKind.i64
 n_82) ∧
 atBytes
 h_13
 (Array.size
 h_1)
 (2 :
 Nat)
 (32 :
 Nat)
 b ∧
 at1
 h_13
 (Array.size
 h_1)
 (34 :
 Nat)
 (Value.int
 IntKind.i64
 n_83) ∧
 at1
 h_13
 (Array.size
 h_1)
 (35 :
 Nat)
 (Value.int
 IntKind.u64
 n_84) ∧
 at1
 h_13
 (Array.size
 h_1)
 (36 :
 Nat)
 (slVal
 s_10) ∧
 atBytes
 h_13
 (Array.size
 h_1)
 (37 :
 Nat)
 (16 :
 Nat)
 b_15) ∧
 ∃
 (s_11
 :
 Sl),
 ∃
 (n_85
 :
 Int),
 ∃
 (n_86
 :
 Int),
 ∃
 (n_87
 :
 Int),
 ∃
 (n_88
 :
 Int),
 ∃
 (n_89
 :
 Int),
 ∃
 (n_90
 :
 Int),
 ∃
 (n_91
 :
 Int),
 ∃
 (n_92
 :
 Int),
 ∃
 (n_93
 :
 Int),
 ∃
 (n_94
 :
 Int),
 ∃
 (n_95
 :
 Int),
 (at1
 h_13
 (Array.size
 h)
 (0 :
 Nat)
 (slVal
 s_11) ∧
 at1
 h_13
 (Array.size
 h)
 (1 :
 Nat)
 (Value.int
 IntKind.i64
 n_85) ∧
 at1
 h_13
 (Array.size
 h)
 (2 :
 Nat)
 (Value.int
 IntKind.i64
 n_86) ∧
 at1
 h_13
 (Array.size
 h)
 (3 :
 Nat)
 (Value.int
 IntKind.i64
 n_87) ∧
 at1
 h_13
 (Array.size
 h)
 (4 :
 Nat)
 (Value.int
 IntKind.i64
 n_88) ∧
 at1
 h_13
 (Array.size
 h)
 (5 :
 Nat)
 (Value.int
 IntKind.i64
 n_89) ∧
 at1
 h_13
 (Array.size
 h)
 (6 :
 Nat)
 (Value.int
 IntKind.i64
 n_90) ∧
 at1
 h_13
 (Array.size
 h)
 (7 :
 Nat)
 (Value.int
 IntKind.i64
 n_91) ∧
 at1
 h_13
 (Array.size
 h)
 (8 :
 Nat)
 (Value.int
 IntKind.i64
 n_92) ∧
 at1
 h_13
 (Array.size
 h)
 (9 :
 Nat)
 (Value.int
 IntKind.i64
 n_93) ∧
 at1
 h_13
 (Array.size
 h)
 (10 :
 Nat)
 (Value.int
 IntKind.i64
 n_94) ∧
 at1
 h_13
 (Array.size
 h)
 (11 :
 Nat)
 (Value.int
 IntKind.i64
 n_95)) ∧
 ∃
 (n_96
 :
 Int),
 ∃
 (n_97
 :
 Int),
 ∃
 (b_16
 :
 Bs
 (32 :
 Nat)),
 ∃
 (n_98
 :
 Int),
 ∃
 (n_99
 :
 Int),
 ∃
 (s_12
 :
 Sl),
 ∃
 (b_17
 :
 Bs
 (16 :
 Nat)),
 (at1
 h_13
 (Array.size
 h_1)
 (0 :
 Nat)
 (Value.int
 IntKind.i64
 n_96) ∧
 at1
 h_13
 (Array.size
 h_1)
 (1 :
 Nat)
 (Value.int
 IntKind.i64
 n_97) ∧
 atBytes
 h_13
 (Array.size
 h_1)
 (2 :
 Nat)
 (32 :
 Nat)
 b_16 ∧
 at1
 h_13
 (Array.size
 h_1)
 (34 :
 Nat)
 (Value.int
 IntKind.i64
 n_98) ∧
 at1
 h_13
 (Array.size
 h_1)
 (35 :
 Nat)
 (Value.int
 IntKind.u64
 n_99) ∧
 at1
 h_13
 (Array.size
 h_1)
 (36 :
 Nat)
 (slVal
 s_12) ∧
 atBytes
 h_13
 (Array.size
 h_1)
 (37 :
 Nat)
 (16 :
 Nat)
 b_17) ∧
 CallsH
 Try.prog
 (17 :
 Nat)
 (TVs.vals
 [TV.agg
 [TV.slice
 s,
 TV.int
 IntKind.i64
 n,
 TV.int
 IntKind.i64
 n_71,
 TV.int
 IntKind.i64
 n_72,
 TV.int
 IntKind.i64
 n_73,
 TV.int
 IntKind.i64
 n_74,
 TV.int
 IntKind.i64
 n_75,
 TV.int
 IntKind.i64
 n_76,
 TV.int
 IntKind.i64
 n_77,
 TV.int
 IntKind.i64
 n_78,
 TV.int
 IntKind.i64
 n_79,
 TV.int
 IntKind.i64
 n_80],
 TV.agg
 [TV.int
 IntKind.i64
 n_81,
 TV.int
 IntKind.i64
 n_82,
 TV.bytes
 (32 :
 Nat)
 b,
 TV.int
 IntKind.i64
 n_83,
 TV.int
 IntKind.u64
 n_84,
 TV.slice
 s_10,
 TV.bytes
 (16 :
 Nat)
 b_15]])
 h_13
 fun
 (v :
 Value)
 (h_14 :
 Array
 Obj) ↦
 ∃
 (b
 :
 Bool),
 v =
 TV.val
 (TV.bool
 b) ∧
 Ext
 h_13
 h_14 ∧
 CallsH
 Try.prog
 (20 :
 Nat)
 (TVs.vals
 [TV.agg
 [TV.slice
 s_11,
 TV.int
 IntKind.i64
 n_85,
 TV.int
 IntKind.i64
 n_86,
 TV.int
 IntKind.i64
 n_87,
 TV.int
 IntKind.i64
 n_88,
 TV.int
 IntKind.i64
 n_89,
 TV.int
 IntKind.i64
 n_90,
 TV.int
 IntKind.i64
 n_91,
 TV.int
 IntKind.i64
 n_92,
 TV.int
 IntKind.i64
 n_93,
 TV.int
 IntKind.i64
 n_94,
 TV.int
 IntKind.i64
 n_95],
 TV.agg
 [TV.int
 IntKind.i64
 n_96,
 TV.int
 IntKind.i64
 n_97,
 TV.bytes
 (32 :
 Nat)
 b_16,
 TV.int
 IntKind.i64
 n_98,
 TV.int
 IntKind.u64
 n_99,
 TV.slice
 s_12,
 TV.bytes
 (16 :
 Nat)
 b_17]])
 h_14
 fun
 (v :
 Value)
 (h_15 :
 Array
 Obj) ↦
 ∃
 (b_18
 :
 Bool),
 v =
 TV.val
 (TV.bool
 b_18) ∧
 If
 (b ==
 b_18)
 (∃
 (s
 :
 Sl),
 ∃
 (n
 :
 Int),
 ∃
 (n_100
 :
 Int),
 ∃
 (n_101
 :
 Int),
 ∃
 (n_102
 :
 Int),
 ∃
 (n_103
 :
 Int),
 ∃
 (n_104
 :
 Int),
 ∃
 (n_105
 :
 Int),
 ∃
 (n_106
 :
 Int),
 ∃
 (n_107
 :
 Int),
 ∃
 (n_108
 :
 Int),
 ∃
 (n_109
 :
 Int),
 (at1
 h_15
 (Array.size
 h)
 (0 :
 Nat)
 (slVal
 s) ∧
 at1
 h_15
 (Array.size
 h)
 (1 :
 Nat)
 (Value.int
 IntKind.i64
 n) ∧
 at1
 h_15
 (Array.size
 h)
 (2 :
 Nat)
 (Value.int
 IntKind.i64
 n_100) ∧
 at1
 h_15
 (Array.size
 h)
 (3 :
 Nat)
 (Value.int
 IntKind.i64
 n_101) ∧
 at1
 h_15
 (Array.size
 h)
 (4 :
 Nat)
 (Value.int
 IntKind.i64
 n_102) ∧
 at1
 h_15
 (Array.size
 h)
 (5 :
 Nat)
 (Value.int
 IntKind.i64
 n_103) ∧
 at1
 h_15
 (Array.size
 h)
 (6 :
 Nat)
 (Value.int
 IntKind.i64
 n_104) ∧
 at1
 h_15
 (Array.size
 h)
 (7 :
 Nat)
 (Value.int
 IntKind.i64
 n_105) ∧
 at1
 h_15
 (Array.size
 h)
 (8 :
 Nat)
 (Value.int
 IntKind.i64
 n_106) ∧
 at1
 h_15
 (Array.size
 h)
 (9 :
 Nat)
 (Value.int
 IntKind.i64
 n_107) ∧
 at1
 h_15
 (Array.size
 h)
 (10 :
 Nat)
 (Value.int
 IntKind.i64
 n_108) ∧
 at1
 h_15
 (Array.size
 h)
 (11 :
 Nat)
 (Value.int
 IntKind.i64
 n_109)) ∧
 ∃
 (n_110
 :
 Int),
 ∃
 (n_111
 :
 Int),
 ∃
 (b
 :
 Bs
 (32 :
 Nat)),
 ∃
 (n_112
 :
 Int),
 ∃
 (n_113
 :
 Int),
 ∃
 (s_13
 :
 Sl),
 ∃
 (b_19
 :
 Bs
 (16 :
 Nat)),
 (at1
 h_15
 (Array.size
 h_1)
 (0 :
 Nat)
 (Value.int
 IntKind.i64
 n_110) ∧
 at1
 h_15
 (Array.size
 h_1)
 (1 :
 Nat)
 (Value.int
 IntKind.i64
 n_111) ∧
 atBytes
 h_15
 (Array.size
 h_1)
 (2 :
 Nat)
 (32 :
 Nat)
 b ∧
 at1
 h_15
 (Array.size
 h_1)
 (34 :
 Nat)
 (Value.int
 IntKind.i64
 n_112) ∧
 at1
 h_15
 (Array.size
 h_1)
 (35 :
 Nat)
 (Value.int
 IntKind.u64
 n_113) ∧
 at1
 h_15
 (Array.size
 h_1)
 (36 :
 Nat)
 (slVal
 s_13) ∧
 atBytes
 h_15
 (Array.size
 h_1)
 (37 :
 Nat)
 (16 :
 Nat)
 b_19) ∧
 ∃
 (s_14
 :
 Sl),
 ∃
 (n_114
 :
 Int),
 ∃
 (n_115
 :
 Int),
 ∃
 (n_116
 :
 Int),
 ∃
 (n_117
 :
 Int),
 ∃
 (n_118
 :
 Int),
 ∃
 (n_119
 :
 Int),
 ∃
 (n_120
 :
 Int),
 ∃
 (n_121
 :
 Int),
 ∃
 (n_122
 :
 Int),
 ∃
 (n_123
 :
 Int),
 ∃
 (n_124
 :
 Int),
 (at1
 h_15
 (Array.size
 h)
 (0 :
 Nat)
 (slVal
 s_14) ∧
 at1
 h_15
 (Array.size
 h)
 (1 :
 Nat)
 (Value.int
 IntKind.i64
 n_114) ∧
 at1
 h_15
 (Array.size
 h)
 (2 :
 Nat)
 (Value.int
 IntKind.i64
 n_115) ∧
 at1
 h_15
 (Array.size
 h)
 (3 :
 Nat)
 (Value.int
 IntKind.i64
 n_116) ∧
 at1
 h_15
 (Array.size
 h)
 (4 :
 Nat)
 (Value.int
 IntKind.i64
 n_117) ∧
 at1
 h_15
 (Array.size
 h)
 (5 :
 Nat)
 (Value.int
 IntKind.i64
 n_118) ∧
 at1
 h_15
 (Array.size
 h)
 (6 :
 Nat)
 (Value.int
 IntKind.i64
 n_119) ∧
 at1
 h_15
 (Array.size
 h)
 (7 :
 Nat)
 (Value.int
 IntKind.i64
 n_120) ∧
 at1
 h_15
 (Array.size
 h)
 (8 :
 Nat)
 (Value.int
 IntKind.i64
 n_121) ∧
 at1
 h_15
 (Array.size
 h)
 (9 :
 Nat)
 (Value.int
 IntKind.i64
 n_122) ∧
 at1
 h_15
 (Array.size
 h)
 (10 :
 Nat)
 (Value.int
 IntKind.i64
 n_123) ∧
 at1
 h_15
 (Array.size
 h)
 (11 :
 Nat)
 (Value.int
 IntKind.i64
 n_124)) ∧
 ∃
 (n_125
 :
 Int),
 ∃
 (n_126
 :
 Int),
 ∃
 (b_20
 :
 Bs
 (32 :
 Nat)),
 ∃
 (n_127
 :
 Int),
 ∃
 (n_128
 :
 Int),
 ∃
 (s_15
 :
 Sl),
 ∃
 (b_21
 :
 Bs
 (16 :
 Nat)),
 (at1
 h_15
 (Array.size
 h_1)
 (0 :
 Nat)
 (Value.int
 IntKind.i64
 n_125) ∧
 at1
 h_15
 (Array.size
 h_1)
 (1 :
 Nat)
 (Value.int
 IntKind.i64
 n_126) ∧
 atBytes
 h_15
 (Array.size
 h_1)
 (2 :
 Nat)
 (32 :
 Nat)
 b_20 ∧
 at1
 h_15
 (Array.size
 h_1)
 (34 :
 Nat)
 (Value.int
 IntKind.i64
 n_127) ∧
 at1
 h_15
 (Array.size
 h_1)
 (35 :
 Nat)
 (Value.int
 IntKind.u64
 n_128) ∧
 at1
 h_15
 (Array.size
 h_1)
 (36 :
 Nat)
 (slVal
 s_15) ∧
 atBytes
 h_15
 (Array.size
 h_1)
 (37 :
 Nat)
 (16 :
 Nat)
 b_21) ∧
 CallsH
 Try.prog
 (12 :
 Nat)
 (TVs.vals
 [TV.agg
 [TV.slice
 s,
 TV.int
 IntKind.i64
 n,
 TV.int
 IntKind.i64
 n_100,
 TV.int
 IntKind.i64
 n_101,
 TV.int
 IntKind.i64
 n_102,
 TV.int
 IntKind.i64
 n_103,
 TV.int
 IntKind.i64
 n_104,
 TV.int
 IntKind.i64
 n_105,
 TV.int
 IntKind.i64
 n_106,
 TV.int
 IntKind.i64
 n_107,
 TV.int
 IntKind.i64
 n_108,
 TV.int
 IntKind.i64
 n_109],
 TV.agg
 [TV.int
 IntKind.i64
 n_110,
 TV.int
 IntKind.i64
 n_111,
 TV.bytes
 (32 :
 Nat)
 b,
 TV.int
 IntKind.i64
 n_112,
 TV.int
 IntKind.u64
 n_113,
 TV.slice
 s_13,
 TV.bytes
 (16 :
 Nat)
 b_19]])
 h_15
 fun
 (v :
 Value)
 (h :
 Array
 Obj) ↦
 ∃
 (s
 :
 Sl),
 v =
 TV.val
 (TV.slice
 s) ∧
 Ext
 h_15
 h ∧
 CallsH
 Try.prog
 (21 :
 Nat)
 (TVs.vals
 [TV.agg
 [TV.slice
 s_14,
 TV.int
 IntKind.i64
 n_114,
 TV.int
 IntKind.i64
 n_115,
 TV.int
 IntKind.i64
 n_116,
 TV.int
 IntKind.i64
 n_117,
 TV.int
 IntKind.i64
 n_118,
 TV.int
 IntKind.i64
 n_119,
 TV.int
 IntKind.i64
 n_120,
 TV.int
 IntKind.i64
 n_121,
 TV.int
 IntKind.i64
 n_122,
 TV.int
 IntKind.i64
 n_123,
 TV.int
 IntKind.i64
 n_124],
 TV.agg
 [TV.int
 IntKind.i64
 n_125,
 TV.int
 IntKind.i64
 n_126,
 TV.bytes
 (32 :
 Nat)
 b_20,
 TV.int
 IntKind.i64
 n_127,
 TV.int
 IntKind.u64
 n_128,
 TV.slice
 s_15,
 TV.bytes
 (16 :
 Nat)
 b_21]])
 h
 fun
 (v :
 Value)
 (h :
 Array
 Obj) ↦
 ∃
 (s_16
 :
 Sl),
 v =
 TV.val
 (TV.slice
 s_16) ∧
 CallsH
 Try.prog
 (16 :
 Nat)
 (TVs.vals
 [TV.slice
 s,
 TV.slice
 s_16])
 h
 fun
 (v :
 Value)
 (h :
 Array
 Obj) ↦
 ∃
 (b
 :
 Bool),
 v =
 TV.val
 (TV.bool
 b) ∧
 R
 (TV.val
 (TV.bool
 b))
 h)
 (R
 (TV.val
 (TV.bool
 false))
 h_15))
 (R
 (TV.val
 (TV.bool
 false))
 h_13))
 (R
 (TV.val
 (TV.bool
 false))
 h_13))
 (R
 (TV.val
 (TV.bool
 false))
 h_13))
 (R
 (TV.val
 (TV.bool
 false))
 h_12)))

theorem tollerlaw08_SealIs_calls (c_Validators : Sl) (c_Epoch : Int) (c_Committee : Int) (c_Nodes : Int) (c_Orphans : Int) (c_Early : Int) (c_Quota : Int) (c_Peers : Int) (c_Bytes : Int) (c_Window : Int) (c_Ban : Int) (c_Decay : Int) (m_Kind : Int) (m_Slot : Int) (m_Target : Bs (32 : Nat)) (m_Member : Int) (m_Body : Int) (m_Bits : Sl) (m_Tag : Bs (16 : Nat)) (h : Heap) (R : Value → Heap → Prop) (H : tollerlaw08_SealIs_vc c_Validators c_Epoch c_Committee c_Nodes c_Orphans c_Early c_Quota c_Peers c_Bytes c_Window c_Ban c_Decay m_Kind m_Slot m_Target m_Member m_Body m_Bits m_Tag h R) : CallsH Try.prog 5 (TVs.vals [TV.agg [TV.slice c_Validators, TV.int IntKind.i64 c_Epoch, TV.int IntKind.i64 c_Committee, TV.int IntKind.i64 c_Nodes, TV.int IntKind.i64 c_Orphans, TV.int IntKind.i64 c_Early, TV.int IntKind.i64 c_Quota, TV.int IntKind.i64 c_Peers, TV.int IntKind.i64 c_Bytes, TV.int IntKind.i64 c_Window, TV.int IntKind.i64 c_Ban, TV.int IntKind.i64 c_Decay], TV.agg [TV.int IntKind.i64 m_Kind, TV.int IntKind.i64 m_Slot, TV.bytes (32 : Nat) m_Target, TV.int IntKind.i64 m_Member, TV.int IntKind.u64 m_Body, TV.slice m_Bits, TV.bytes (16 : Nat) m_Tag]]) h R :=
 vcFn_sound (C := ctx) ctx_ok (fn := Try.f5) Try.func5 ((by kernel_rfl : tollerlaw08_SealIs_vc c_Validators c_Epoch c_Committee c_Nodes c_Orphans c_Early c_Quota c_Peers c_Bytes c_Window c_Ban c_Decay m_Kind m_Slot m_Target m_Member m_Body m_Bits m_Tag h R = vcFn ctx Try.f5 [TV.agg [TV.slice c_Validators, TV.int IntKind.i64 c_Epoch, TV.int IntKind.i64 c_Committee, TV.int IntKind.i64 c_Nodes, TV.int IntKind.i64 c_Orphans, TV.int IntKind.i64 c_Early, TV.int IntKind.i64 c_Quota, TV.int IntKind.i64 c_Peers, TV.int IntKind.i64 c_Bytes, TV.int IntKind.i64 c_Window, TV.int IntKind.i64 c_Ban, TV.int IntKind.i64 c_Decay], TV.agg [TV.int IntKind.i64 m_Kind, TV.int IntKind.i64 m_Slot, TV.bytes (32 : Nat) m_Target, TV.int IntKind.i64 m_Member, TV.int IntKind.u64 m_Body, TV.slice m_Bits, TV.bytes (16 : Nat) m_Tag]] h R) ▸ H)


end Go.Proofs.Ytgdhddignbkloaa
end

section
/- The conditions of functions, as the generator reckons them out, each with the proof that it is that. -/
namespace Go.Proofs.Ytgdhddignbkloaa
open Go Go.Vc
set_option maxRecDepth 100000
set_option linter.unusedVariables false

def tollerlaw08_SealSigns_vc (c_Validators : Sl) (c_Epoch : Int) (c_Committee : Int) (c_Nodes : Int) (c_Orphans : Int) (c_Early : Int) (c_Quota : Int) (c_Peers : Int) (c_Bytes : Int) (c_Window : Int) (c_Ban : Int) (c_Decay : Int) (m_Kind : Int) (m_Slot : Int) (m_Target : Bs (32 : Nat)) (m_Member : Int) (m_Body : Int) (m_Bits : Sl) (m_Tag : Bs (16 : Nat)) (at_ : Int) (bit : Int) (h : Heap) (R : Value → Heap → Prop) : Prop :=
 Vc.Bind
 (newTV h
 (TV.agg
 [TV.slice c_Validators, TV.int IntKind.i64 c_Epoch, TV.int IntKind.i64 c_Committee, TV.int IntKind.i64 c_Nodes, TV.int IntKind.i64 c_Orphans,
 TV.int IntKind.i64 c_Early, TV.int IntKind.i64 c_Quota, TV.int IntKind.i64 c_Peers, TV.int IntKind.i64 c_Bytes, TV.int IntKind.i64 c_Window,
 TV.int IntKind.i64 c_Ban, TV.int IntKind.i64 c_Decay])
 (24 : Nat))
 fun (h_1 : Array Obj) ↦
 Vc.Bind
 (newTV h_1
 (TV.agg
 [TV.int IntKind.i64 m_Kind, TV.int IntKind.i64 m_Slot, TV.bytes (32 : Nat) m_Target, TV.int IntKind.i64 m_Member, TV.int IntKind.u64 m_Body,
 TV.slice m_Bits, TV.bytes (16 : Nat) m_Tag])
 (32 : Nat))
 fun (h_2 : Array Obj) ↦
 CallsH Try.prog (9 : Nat) (TVs.vals []) h_2 fun (v : Value) (h_3 : Array Obj) ↦
 ∃ (b : Bool),
 v = TV.val (TV.bool b) ∧
 If (!b) (R (TV.val (TV.bool false)) h_3)
 (∃ (s : Sl),
 ∃ (n : Int),
 ∃ (n_1 : Int),
 ∃ (n_2 : Int),
 ∃ (n_3 : Int),
 ∃ (n_4 : Int),
 ∃ (n_5 : Int),
 ∃ (n_6 : Int),
 ∃ (n_7 : Int),
 ∃ (n_8 : Int),
 ∃ (n_9 : Int),
 ∃ (n_10 : Int),
 (at1 h_3 (Array.size h) (0 : Nat) (slVal s) ∧
 at1 h_3 (Array.size h) (1 : Nat) (Value.int IntKind.i64 n) ∧
 at1 h_3 (Array.size h) (2 : Nat) (Value.int IntKind.i64 n_1) ∧
 at1 h_3 (Array.size h) (3 : Nat) (Value.int IntKind.i64 n_2) ∧
 at1 h_3 (Array.size h) (4 : Nat) (Value.int IntKind.i64 n_3) ∧
 at1 h_3 (Array.size h) (5 : Nat) (Value.int IntKind.i64 n_4) ∧
 at1 h_3 (Array.size h) (6 : Nat) (Value.int IntKind.i64 n_5) ∧
 at1 h_3 (Array.size h) (7 : Nat) (Value.int IntKind.i64 n_6) ∧
 at1 h_3 (Array.size h) (8 : Nat) (Value.int IntKind.i64 n_7) ∧
 at1 h_3 (Array.size h) (9 : Nat) (Value.int IntKind.i64 n_8) ∧
 at1 h_3 (Array.size h) (10 : Nat) (Value.int IntKind.i64 n_9) ∧
 at1 h_3 (Array.size h) (11 : Nat) (Value.int IntKind.i64 n_10)) ∧
 ∃ (n_11 : Int),
 ∃ (n_12 : Int),
 ∃ (b : Bs (32 : Nat)),
 ∃ (n_13 : Int),
 ∃ (n_14 : Int),
 ∃ (s_1 : Sl),
 ∃ (b_1 : Bs (16 : Nat)),
 (at1 h_3 (Array.size h_1) (0 : Nat) (Value.int IntKind.i64 n_11) ∧
 at1 h_3 (Array.size h_1) (1 : Nat) (Value.int IntKind.i64 n_12) ∧
 atBytes h_3 (Array.size h_1) (2 : Nat) (32 : Nat) b ∧
 at1 h_3 (Array.size h_1) (34 : Nat) (Value.int IntKind.i64 n_13) ∧
 at1 h_3 (Array.size h_1) (35 : Nat) (Value.int IntKind.u64 n_14) ∧
 at1 h_3 (Array.size h_1) (36 : Nat) (slVal s_1) ∧
 atBytes h_3 (Array.size h_1) (37 : Nat) (16 : Nat) b_1) ∧
 CallsH Try.prog (10 : Nat)
 (TVs.vals
 [TV.agg
 [TV.slice s, TV.int IntKind.i64 n, TV.int IntKind.i64 n_1, TV.int IntKind.i64 n_2,
 TV.int IntKind.i64 n_3, TV.int IntKind.i64 n_4, TV.int IntKind.i64 n_5, TV.int IntKind.i64 n_6,
 TV.int IntKind.i64 n_7, TV.int IntKind.i64 n_8, TV.int IntKind.i64 n_9,
 TV.int IntKind.i64 n_10],
 TV.agg
 [TV.int IntKind.i64 n_11, TV.int IntKind.i64 n_12, TV.bytes (32 : Nat) b, TV.int IntKind.i64 n_13,
 TV.int IntKind.u64 n_14, TV.slice s_1, TV.bytes (16 : Nat) b_1]])
 h_3 fun (v : Value) (h_4 : Array Obj) ↦
 ∃ (b : Bool),
 v = TV.val (TV.bool b) ∧
 If b (R (TV.val (TV.bool true)) h_4)
 (∃ (s : Sl),
 ∃ (n : Int),
 ∃ (n_15 : Int),
 ∃ (n_16 : Int),
 ∃ (n_17 : Int),
 ∃ (n_18 : Int),
 ∃ (n_19 : Int),
 ∃ (n_20 : Int),
 ∃ (n_21 : Int),
 ∃ (n_22 : Int),
 ∃ (n_23 : Int),
 ∃ (n_24 : Int),
 (at1 h_4 (Array.size h) (0 : Nat) (slVal s) ∧
 at1 h_4 (Array.size h) (1 : Nat) (Value.int IntKind.i64 n) ∧
 at1 h_4 (Array.size h) (2 : Nat) (Value.int IntKind.i64 n_15) ∧
 at1 h_4 (Array.size h) (3 : Nat) (Value.int IntKind.i64 n_16) ∧
 at1 h_4 (Array.size h) (4 : Nat) (Value.int IntKind.i64 n_17) ∧
 at1 h_4 (Array.size h) (5 : Nat)
 (Value.int IntKind.i64 n_18) ∧
 at1 h_4 (Array.size h) (6 : Nat)
 (Value.int IntKind.i64 n_19) ∧
 at1 h_4 (Array.size h) (7 : Nat)
 (Value.int IntKind.i64 n_20) ∧
 at1 h_4 (Array.size h) (8 : Nat)
 (Value.int IntKind.i64 n_21) ∧
 at1 h_4 (Array.size h) (9 : Nat)
 (Value.int IntKind.i64 n_22) ∧
 at1 h_4 (Array.size h) (10 : Nat)
 (Value.int IntKind.i64 n_23) ∧
 at1 h_4 (Array.size h) (11 : Nat)
 (Value.int IntKind.i64 n_24)) ∧
 ∃ (n_25 : Int),
 ∃ (n_26 : Int),
 ∃ (b : Bs (32 : Nat)),
 ∃ (n_27 : Int),
 ∃ (n_28 : Int),
 ∃ (s_2 : Sl),
 ∃ (b_2 : Bs (16 : Nat)),
 (at1 h_4 (Array.size h_1) (0 : Nat)
 (Value.int IntKind.i64 n_25) ∧
 at1 h_4 (Array.size h_1) (1 : Nat)
 (Value.int IntKind.i64 n_26) ∧
 atBytes h_4 (Array.size h_1) (2 : Nat) (32 : Nat)
 b ∧
 at1 h_4 (Array.size h_1) (34 : Nat)
 (Value.int IntKind.i64 n_27) ∧
 at1 h_4 (Array.size h_1) (35 : Nat)
 (Value.int IntKind.u64 n_28) ∧
 at1 h_4 (Array.size h_1) (36 : Nat)
 (slVal s_2) ∧
 atBytes h_4 (Array.size h_1) (37 : Nat)
 (16 : Nat) b_2) ∧
 CallsH Try.prog (22 : Nat)
 (TVs.vals
 [TV.agg
 [TV.slice s, TV.int IntKind.i64 n,
 TV.int IntKind.i64 n_15,
 TV.int IntKind.i64 n_16,
 TV.int IntKind.i64 n_17,
 TV.int IntKind.i64 n_18,
 TV.int IntKind.i64 n_19,
 TV.int IntKind.i64 n_20,
 TV.int IntKind.i64 n_21,
 TV.int IntKind.i64 n_22,
 TV.int IntKind.i64 n_23,
 TV.int IntKind.i64 n_24],
 TV.agg
 [TV.int IntKind.i64 n_25,
 TV.int IntKind.i64 n_26,
 TV.bytes (32 : Nat) b,
 TV.int IntKind.i64 n_27,
 TV.int IntKind.u64 n_28, TV.slice s_2,
 TV.bytes (16 : Nat) b_2]])
 h_4 fun (v : Value) (h_5 : Array Obj) ↦
 ∃ (n : Int),
 ∃ (n_29 : Int),
 ∃ (b : Bs (32 : Nat)),
 ∃ (n_30 : Int),
 ∃ (n_31 : Int),
 ∃ (s : Sl),
 ∃ (b_3 : Bs (16 : Nat)),
 ∃ (b_4 : Bool),
 v =
 TV.val
 (TV.tup
 [TV.agg
 [TV.int IntKind.i64 n,
 TV.int IntKind.i64 n_29,
 TV.bytes (32 : Nat) b,
 TV.int IntKind.i64 n_30,
 TV.int IntKind.u64 n_31,
 TV.slice s,
 TV.bytes (16 : Nat)
 b_3],
 TV.bool b_4]) ∧
 Vc.Bind
 (newTV h_5
 (TV.agg
 [TV.int IntKind.i64 (0 : Int),
 TV.int IntKind.i64
 (0 : Int),
 TV.bytes (32 : Nat)
 (Bs.zero (32 : Nat)),
 TV.int IntKind.i64
 (0 : Int),
 TV.int IntKind.u64
 (0 : Int),
 TV.slice Sl.nil,
 TV.bytes (16 : Nat)
 (Bs.zero (16 : Nat))])
 (32 : Nat))
 fun (h_6 : Array Obj) ↦
 wok h_6 (Array.size h_5) (0 : Nat)
 (53 : Nat) ∧
 Vc.Bind
 (TV.put h_6 (Array.size h_5)
 (0 : Nat)
 (TV.agg
 [TV.int IntKind.i64 n,
 TV.int IntKind.i64 n_29,
 TV.bytes (32 : Nat) b,
 TV.int IntKind.i64 n_30,
 TV.int IntKind.u64 n_31,
 TV.slice s,
 TV.bytes (16 : Nat)
 b_3]))
 fun (h_7 : Array Obj) ↦
 ∃ (s : Sl),
 ∃ (n : Int),
 ∃ (n_32 : Int),
 ∃ (n_33 : Int),
 ∃ (n_34 : Int),
 ∃ (n_35 : Int),
 ∃ (n_36 : Int),
 ∃ (n_37 : Int),
 ∃ (n_38 :
 Int),
 ∃ (n_39 :
 Int),
 ∃ (n_40 :
 Int),
 ∃ (n_41
 :
 Int),
 (at1
 h_7
 (Array.size
 h)
 (0 :
 Nat)
 (slVal
 s) ∧
 at1
 h_7
 (Array.size
 h)
 (1 :
 Nat)
 (Value.int
 IntKind.i64
 n) ∧
 at1
 h_7
 (Array.size
 h)
 (2 :
 Nat)
 (Value.int
 IntKind.i64
 n_32) ∧
 at1
 h_7
 (Array.size
 h)
 (3 :
 Nat)
 (Value.int
 IntKind.i64
 n_33) ∧
 at1
 h_7
 (Array.size
 h)
 (4 :
 Nat)
 (Value.int
 IntKind.i64
 n_34) ∧
 at1
 h_7
 (Array.size
 h)
 (5 :
 Nat)
 (Value.int
 IntKind.i64
 n_35) ∧
 at1
 h_7
 (Array.size
 h)
 (6 :
 Nat)
 (Value.int
 IntKind.i64
 n_36) ∧
 at1
 h_7
 (Array.size
 h)
 (7 :
 Nat)
 (Value.int
 IntKind.i64
 n_37) ∧
 at1
 h_7
 (Array.size
 h)
 (8 :
 Nat)
 (Value.int
 IntKind.i64
 n_38) ∧
 at1
 h_7
 (Array.size
 h)
 (9 :
 Nat)
 (Value.int
 IntKind.i64
 n_39) ∧
 at1
 h_7
 (Array.size
 h)
 (10 :
 Nat)
 (Value.int
 IntKind.i64
 n_40) ∧
 at1
 h_7
 (Array.size
 h)
 (11 :
 Nat)
 (Value.int
 IntKind.i64
 n_41)) ∧
 ∃
 (n_42
 :
 Int),
 ∃
 (n_43
 :
 Int),
 ∃
 (b
 :
 Bs
 (32 :
 Nat)),
 ∃
 (n_44
 :
 Int),
 ∃
 (n_45
 :
 Int),
 ∃
 (s_3
 :
 Sl),
 ∃
 (b_5
 :
 Bs
 (16 :
 Nat)),
 (at1
 h_7
 (Array.size
 h_1)
 (0 :
 Nat)
 (Value.int
 IntKind.i64
 n_42) ∧
 at1
 h_7
 (Array.size
 h_1)
 (1 :
 Nat)
 (Value.int
 IntKind.i64
 n_43) ∧
 atBytes
 h_7
 (Array.size
 h_1)
 (2 :
 Nat)
 (32 :
 Nat)
 b ∧
 at1
 h_7
 (Array.size
 h_1)
 (34 :
 Nat)
 (Value.int
 IntKind.i64
 n_44) ∧
 at1
 h_7
 (Array.size
 h_1)
 (35 :
 Nat)
 (Value.int
 IntKind.u64
 n_45) ∧
 at1
 h_7
 (Array.size
 h_1)
 (36 :
 Nat)
 (slVal
 s_3) ∧
 atBytes
 h_7
 (Array.size
 h_1)
 (37 :
 Nat)
 (16 :
 Nat)
 b_5) ∧
 CallsH
 Try.prog
 (18 :
 Nat)
 (TVs.vals
 [TV.agg
 [TV.slice
 s,
 TV.int
 IntKind.i64
 n,
 TV.int
 IntKind.i64
 n_32,
 TV.int
 IntKind.i64
 n_33,
 TV.int
 IntKind.i64
 n_34,
 TV.int
 IntKind.i64
 n_35,
 TV.int
 IntKind.i64
 n_36,
 TV.int
 IntKind.i64
 n_37,
 TV.int
 IntKind.i64
 n_38,
 TV.int
 IntKind.i64
 n_39,
 TV.int
 IntKind.i64
 n_40,
 TV.int
 IntKind.i64
 n_41],
 TV.agg
 [TV.int
 IntKind.i64
 n_42,
 TV.int
 IntKind.i64
 n_43,
 TV.bytes
 (32 :
 Nat)
 b,
 TV.int
 IntKind.i64
 n_44,
 TV.int
 IntKind.u64
 n_45,
 TV.slice
 s_3,
 TV.bytes
 (16 :
 Nat)
 b_5]])
 h_7
 fun
 (v :
 Value)
 (h_8 :
 Array
 Obj) ↦
 ∃
 (s
 :
 Sl),
 ∃
 (b
 :
 Bool),
 v =
 TV.val
 (TV.tup
 [TV.slice
 s,
 TV.bool
 b]) ∧
 If
 (!b_4 ==
 b)
 (R
 (TV.val
 (TV.bool
 false))
 h_8)
 (If
 (!b_4)
 (∃
 (n
 :
 Int),
 ∃
 (n_46
 :
 Int),
 ∃
 (b
 :
 Bs
 (32 :
 Nat)),
 ∃
 (n_47
 :
 Int),
 ∃
 (n_48
 :
 Int),
 ∃
 (s
 :
 Sl),
 ∃
 (b_6
 :
 Bs
 (16 :
 Nat)),
 (at1
 h_8
 (Array.size
 h_5)
 (0 :
 Nat)
 (Value.int
 IntKind.i64
 n) ∧
 at1
 h_8
 (Array.size
 h_5)
 (1 :
 Nat)
 (Value.int
 IntKind.i64
 n_46) ∧
 atBytes
 h_8
 (Array.size
 h_5)
 (2 :
 Nat)
 (32 :
 Nat)
 b ∧
 at1
 h_8
 (Array.size
 h_5)
 (34 :
 Nat)
 (Value.int
 IntKind.i64
 n_47) ∧
 at1
 h_8
 (Array.size
 h_5)
 (35 :
 Nat)
 (Value.int
 IntKind.u64
 n_48) ∧
 at1
 h_8
 (Array.size
 h_5)
 (36 :
 Nat)
 (slVal
 s) ∧
 atBytes
 h_8
 (Array.size
 h_5)
 (37 :
 Nat)
 (16 :
 Nat)
 b_6) ∧
 CallsH
 Try.prog
 (23 :
 Nat)
 (TVs.vals
 [TV.agg
 [TV.int
 IntKind.i64
 n,
 TV.int
 IntKind.i64
 n_46,
 TV.bytes
 (32 :
 Nat)
 b,
 TV.int
 IntKind.i64
 n_47,
 TV.int
 IntKind.u64
 n_48,
 TV.slice
 s,
 TV.bytes
 (16 :
 Nat)
 b_6],
 TV.agg
 [TV.int
 IntKind.i64
 (0 :
 Int),
 TV.int
 IntKind.i64
 (0 :
 Int),
 TV.bytes
 (32 :
 Nat)
 (Bs.zero
 (32 :
 Nat)),
 TV.int
 IntKind.i64
 (0 :
 Int),
 TV.int
 IntKind.u64
 (0 :
 Int),
 TV.slice
 Sl.nil,
 TV.bytes
 (16 :
 Nat)
 (Bs.zero
 (16 :
 Nat))]])
 h_8
 fun
 (v :
 Value)
 (h :
 Array
 Obj) ↦
 ∃
 (b
 :
 Bool),
 v =
 TV.val
 (TV.bool
 b) ∧
 R
 (TV.val
 (TV.bool
 b))
 h)
 (∃
 (n
 :
 Int),
 ∃
 (n_46
 :
 Int),
 ∃
 (b
 :
 Bs
 (32 :
 Nat)),
 ∃
 (n_47
 :
 Int),
 ∃
 (n_48
 :
 Int),
 ∃
 (s
 :
 Sl),
 ∃
 (b_6
 :
 Bs
 (16 :
 Nat)),
 (at1
 h_8
 (Array.size
 h_5)
 (0 :
 Nat)
 (Value.int
 IntKind.i64
 n) ∧
 at1
 h_8
 (Array.size
 h_5)
 (1 :
 Nat)
 (Value.int
 IntKind.i64
 n_46) ∧
 atBytes
 h_8
 (Array.size
 h_5)
 (2 :
 Nat)
 (32 :
 Nat)
 b ∧
 at1
 h_8
 (Array.size
 h_5)
 (34 :
 Nat)
 (Value.int
 IntKind.i64
 n_47) ∧
 at1
 h_8
 (Array.size
 h_5)
 (35 :
 Nat)
 (Value.int
 IntKind.u64
 n_48) ∧
 at1
 h_8
 (Array.size
 h_5)
 (36 :
 Nat)
 (slVal
 s) ∧
 atBytes
 h_8
 (Array.size
 h_5)
 (37 :
 Nat)
 (16 :
 Nat)
 b_6) ∧
 Vc.Bind
 (newTV
 h_8
 (TV.agg
 [TV.int
 IntKind.i64
 (0 :
 Int),
 TV.int
 IntKind.i64
 (0 :
 Int),
 TV.bytes
 (32 :
 Nat)
 (Bs.zero
 (32 :
 Nat)),
 TV.int
 IntKind.i64
 (0 :
 Int),
 TV.int
 IntKind.u64
 (0 :
 Int),
 TV.slice
 Sl.nil,
 TV.bytes
 (16 :
 Nat)
 (Bs.zero
 (16 :
 Nat))])
 (32 :
 Nat))
 fun
 (h_9 :
 Array
 Obj) ↦
 wok
 h_9
 (Array.size
 h_8)
 (0 :
 Nat)
 (53 :
 Nat) ∧
 Vc.Bind
 (TV.put
 h_9
 (Array.size
 h_8)
 (0 :
 Nat)
 (TV.agg
 [TV.int
 IntKind.i64
 n,
 TV.int
 IntKind.i64
 n_46,
 TV.bytes
 (32 :
 Nat)
 b,
 TV.int
 IntKind.i64
 n_47,
 TV.int
 IntKind.u64
 n_48,
 TV.slice
 s,
 TV.bytes
 (16 :
 Nat)
 b_6]))
 fun
 (h_10 :
 Array
 Obj) ↦
 ∃
 (b
 :
 Bs
 (16 :
 Nat)),
 atBytes
 h_10
 (Array.size
 h_1)
 (37 :
 Nat)
 (16 :
 Nat)
 b ∧
 wok
 h_10
 (Array.size
 h_8)
 (37 :
 Nat)
 (16 :
 Nat) ∧
 Vc.Bind
 (TV.put
 h_10
 (Array.size
 h_8)
 (37 :
 Nat)
 (TV.bytes
 (16 :
 Nat)
 b))
 fun
 (h_11 :
 Array
 Obj) ↦
 ∃
 (n
 :
 Int),
 ∃
 (n_49
 :
 Int),
 ∃
 (b
 :
 Bs
 (32 :
 Nat)),
 ∃
 (n_50
 :
 Int),
 ∃
 (n_51
 :
 Int),
 ∃
 (s
 :
 Sl),
 ∃
 (b_7
 :
 Bs
 (16 :
 Nat)),
 (at1
 h_11
 (Array.size
 h_5)
 (0 :
 Nat)
 (Value.int
 IntKind.i64
 n) ∧
 at1
 h_11
 (Array.size
 h_5)
 (1 :
 Nat)
 (Value.int
 IntKind.i64
 n_49) ∧
 atBytes
 h_11
 (Array.size
 h_5)
 (2 :
 Nat)
 (32 :
 Nat)
 b ∧
 at1
 h_11
 (Array.size
 h_5)
 (34 :
 Nat)
 (Value.int
 IntKind.i64
 n_50) ∧
 at1
 h_11
 (Array.size
 h_5)
 (35 :
 Nat)
 (Value.int
 IntKind.u64
 n_51) ∧
 at1
 h_11
 (Array.size
 h_5)
 (36 :
 Nat)
 (slVal
 s) ∧
 atBytes
 h_11
 (Array.size
 h_5)
 (37 :
 Nat)
 (16 :
 Nat)
 b_7) ∧
 Vc.Bind
 (newTV
 h_11
 (TV.agg
 [TV.int
 IntKind.i64
 (0 :
 Int),
 TV.int
 IntKind.i64
 (0 :
 Int),
 TV.bytes
 (32 :
 Nat)
 (Bs.zero
 (32 :
 Nat)),
 TV.int
 IntKind.i64
 (0 :
 Int),
 TV.int
 IntKind.u64
 (0 :
 Int),
 TV.slice
 Sl.nil,
 TV.bytes
 (16 :
 Nat)
 (Bs.zero
 (16 :
 Nat))])
 (32 :
 Nat))
 fun
 (h_12 :
 Array
 Obj) ↦
 wok
 h_12
 (Array.size
 h_11)
 (0 :
 Nat)
 (53 :
 Nat) ∧
 Vc.Bind
 (TV.put
 h_12
 (Array.size
 h_11)
 (0 :
 Nat)
 (TV.agg
 [TV.int
 IntKind.i64
 n,
 TV.int
 IntKind.i64
 n_49,
 TV.bytes
 (32 :
 Nat)
 b,
 TV.int
 IntKind.i64
 n_50,
 TV.int
 IntKind.u64
 n_51,
 TV.slice
 s,
 TV.bytes
 (16 :
 Nat)
 b_7]))
 fun
 (h_13 :
 Array
 Obj) ↦
 (16 :
 Int) ≠
 (0 :
 Int) ∧
 (0 :
 Int) ≤
 IntKind.wrap
 IntKind.i64
 (Int.tmod
 (IntKind.wrap
 IntKind.u64
 at_)
 (16 :
 Int)) ∧
 IntKind.wrap
 IntKind.i64
 (Int.tmod
 (IntKind.wrap
 IntKind.u64
 at_)
 (16 :
 Int)) <
 (↑(16 :
 Nat) :
 Int) ∧
 ∃
 (n
 :
 Int),
 at1
 h_13
 (Array.size
 h_11)
 ((37 :
 Nat) +
 Int.toNat
 (IntKind.wrap
 IntKind.i64
 (Int.tmod
 (IntKind.wrap
 IntKind.u64
 at_)
 (16 :
 Int))) *
 (1 :
 Nat))
 (Value.int
 IntKind.u8
 n) ∧
 (0 :
 Int) ≤
 IntKind.wrap
 IntKind.i64
 (Int.tmod
 (IntKind.wrap
 IntKind.u64
 at_)
 (16 :
 Int)) ∧
 IntKind.wrap
 IntKind.i64
 (Int.tmod
 (IntKind.wrap
 IntKind.u64
 at_)
 (16 :
 Int)) <
 (↑(16 :
 Nat) :
 Int) ∧
 wok
 h_13
 (Array.size
 h_11)
 ((37 :
 Nat) +
 Int.toNat
 (IntKind.wrap
 IntKind.i64
 (Int.tmod
 (IntKind.wrap
 IntKind.u64
 at_)
 (16 :
 Int))) *
 (1 :
 Nat))
 (1 :
 Nat) ∧
 Vc.Bind
 (TV.put
 h_13
 (Array.size
 h_11)
 ((37 :
 Nat) +
 Int.toNat
 (IntKind.wrap
 IntKind.i64
 (Int.tmod
 (IntKind.wrap
 IntKind.u64
 at_)
 (16 :
 Int))) *
 (1 :
 Nat))
 (TV.int
 IntKind.u8
 (IntKind.wrap
 IntKind.u8
 (↑(BitVec.toNat
 (BitVec.ofInt
 (IntKind.bits
 IntKind.u8)
 n ^^^
 BitVec.ofInt
 (IntKind.bits
 IntKind.u8)
 bit)) :
 Int))))
 fun
 (h_14 :
 Array
 Obj) ↦
 ∃
 (s
 :
 Sl),
 ∃
 (n
 :
 Int),
 ∃
 (n_52
 :
 Int),
 ∃
 (n_53
 :
 Int),
 ∃
 (n_54
 :
 Int),
 ∃
 (n_55
 :
 Int),
 ∃
 (n_56
 :
 Int),
 ∃
 (n_57
 :
 Int),
 ∃
 (n_58
 :
 Int),
 ∃
 (n_59
 :
 Int),
 ∃
 (n_60
 :
 Int),
 ∃
 (n_61
 :
 Int),
 (at1
 h_14
 (Array.size
 h)
 (0 :
 Nat)
 (slVal
 s) ∧
 at1
 h_14
 (Array.size
 h)
 (1 :
 Nat)
 (Value.int
 IntKind.i64
 n) ∧
 at1
 h_14
 (Array.size
 h)
 (2 :
 Nat)
 (Value.int
 IntKind.i64
 n_52) ∧
 at1
 h_14
 (Array.size
 h)
 (3 :
 Nat)
 (Value.int
 IntKind.i64
 n_53) ∧
 at1
 h_14
 (Array.size
 h)
 (4 :
 Nat)
 (Value.int
 IntKind.i64
 n_54) ∧
 at1
 h_14
 (Array.size
 h)
 (5 :
 Nat)
 (Value.int
 IntKind.i64
 n_55) ∧
 at1
 h_14
 (Array.size
 h)
 (6 :
 Nat)
 (Value.int
 IntKind.i64
 n_56) ∧
 at1
 h_14
 (Array.size
 h)
 (7 :
 Nat)
 (Value.int
 IntKind.i64
 n_57) ∧
 at1
 h_14
 (Array.size
 h)
 (8 :
 Nat)
 (Value.int
 IntKind.i64
 n_58) ∧
 at1
 h_14
 (Array.size
 h)
 (9 :
 Nat)
 (Value.int
 IntKind.i64
 n_59) ∧
 at1
 h_14
 (Array.size
 h)
 (10 :
 Nat)
 (Value.int
 IntKind.i64
 n_60) ∧
 at1
 h_14
 (Array.size
 h)
 (11 :
 Nat)
 (Value.int
 IntKind.i64
 n_61)) ∧
 ∃
 (n_62
 :
 Int),
 ∃
 (n_63
 :
 Int),
 ∃
 (b
 :
 Bs
 (32 :
 Nat)),
 ∃
 (n_64
 :
 Int),
 ∃
 (n_65
 :
 Int),
 ∃
 (s_4
 :
 Sl),
 ∃
 (b_8
 :
 Bs
 (16 :
 Nat)),
 (at1
 h_14
 (Array.size
 h_5)
 (0 :
 Nat)
 (Value.int
 IntKind.i64
 n_62) ∧
 at1
 h_14
 (Array.size
 h_5)
 (1 :
 Nat)
 (Value.int
 IntKind.i64
 n_63) ∧
 atBytes
 h_14
 (Array.size
 h_5)
 (2 :
 Nat)
 (32 :
 Nat)
 b ∧
 at1
 h_14
 (Array.size
 h_5)
 (34 :
 Nat)
 (Value.int
 IntKind.i64
 n_64) ∧
 at1
 h_14
 (Array.size
 h_5)
 (35 :
 Nat)
 (Value.int
 IntKind.u64
 n_65) ∧
 at1
 h_14
 (Array.size
 h_5)
 (36 :
 Nat)
 (slVal
 s_4) ∧
 atBytes
 h_14
 (Array.size
 h_5)
 (37 :
 Nat)
 (16 :
 Nat)
 b_8) ∧
 CallsH
 Try.prog
 (17 :
 Nat)
 (TVs.vals
 [TV.agg
 [TV.slice
 s,
 TV.int
 IntKind.i64
 n,
 TV.int
 IntKind.i64
 n_52,
 TV.int
 IntKind.i64
 n_53,
 TV.int
 IntKind.i64
 n_54,
 TV.int
 IntKind.i64
 n_55,
 TV.int
 IntKind.i64
 n_56,
 TV.int
 IntKind.i64
 n_57,
 TV.int
 IntKind.i64
 n_58,
 TV.int
 IntKind.i64
 n_59,
 TV.int
 IntKind.i64
 n_60,
 TV.int
 IntKind.i64
 n_61],
 TV.agg
 [TV.int
 IntKind.i64
 n_62,
 TV.int
 IntKind.i64
 n_63,
 TV.bytes
 (32 :
 Nat)
 b,
 TV.int
 IntKind.i64
 n_64,
 TV.int
 IntKind.u64
 n_65,
 TV.slice
 s_4,
 TV.bytes
 (16 :
 Nat)
 b_8]])
 h_14
 fun
 (v :
 Value)
 (h_15 :
 Array
 Obj) ↦
 ∃
 (b
 :
 Bool),
 v =
 TV.val
 (TV.bool
 b) ∧
 If
 b
 (∃
 (n
 :
 Int),
 ∃
 (n_66
 :
 Int),
 ∃
 (b
 :
 Bs
 (32 :
 Nat)),
 ∃
 (n_67
 :
 Int),
 ∃
 (n_68
 :
 Int),
 ∃
 (s
 :
 Sl),
 ∃
 (b_9
 :
 Bs
 (16 :
 Nat)),
 (at1
 h_15
 (Array.size
 h_8)
 (0 :
 Nat)
 (Value.int
 IntKind.i64
 n) ∧
 at1
 h_15
 (Array.size
 h_8)
 (1 :
 Nat)
 (Value.int
 IntKind.i64
 n_66) ∧
 atBytes
 h_15
 (Array.size
 h_8)
 (2 :
 Nat)
 (32 :
 Nat)
 b ∧
 at1
 h_15
 (Array.size
 h_8)
 (34 :
 Nat)
 (Value.int
 IntKind.i64
 n_67) ∧
 at1
 h_15
 (Array.size
 h_8)
 (35 :
 Nat)
 (Value.int
 IntKind.u64
 n_68) ∧
 at1
 h_15
 (Array.size
 h_8)
 (36 :
 Nat)
 (slVal
 s) ∧
 atBytes
 h_15
 (Array.size
 h_8)
 (37 :
 Nat)
 (16 :
 Nat)
 b_9) ∧
 ∃
 (n_69
 :
 Int),
 ∃
 (n_70
 :
 Int),
 ∃
 (b_10
 :
 Bs
 (32 :
 Nat)),
 ∃
 (n_71
 :
 Int),
 ∃
 (n_72
 :
 Int),
 ∃
 (s_5
 :
 Sl),
 ∃
 (b_11
 :
 Bs
 (16 :
 Nat)),
 (at1
 h_15
 (Array.size
 h_1)
 (0 :
 Nat)
 (Value.int
 IntKind.i64
 n_69) ∧
 at1
 h_15
 (Array.size
 h_1)
 (1 :
 Nat)
 (Value.int
 IntKind.i64
 n_70) ∧
 atBytes
 h_15
 (Array.size
 h_1)
 (2 :
 Nat)
 (32 :
 Nat)
 b_10 ∧
 at1
 h_15
 (Array.size
 h_1)
 (34 :
 Nat)
 (Value.int
 IntKind.i64
 n_71) ∧
 at1
 h_15
 (Array.size
 h_1)
 (35 :
 Nat)
 (Value.int
 IntKind.u64
 n_72) ∧
 at1
 h_15
 (Array.size
 h_1)
 (36 :
 Nat)
 (slVal
 s_5) ∧
 atBytes
 h_15
 (Array.size
 h_1)
 (37 :
 Nat)
 (16 :
 Nat)
 b_11) ∧
 CallsH
 Try.prog
 (23 :
 Nat)
 (TVs.vals
 [TV.agg
 [TV.int
 IntKind.i64
 n,
 TV.int
 IntKind.i64
 n_66,
 TV.bytes
 (32 :
 Nat)
 b,
 TV.int
 IntKind.i64
 n_67,
 TV.int
 IntKind.u64
 n_68,
 TV.slice
 s,
 TV.bytes
 (16 :
 Nat)
 b_9],
 TV.agg
 [TV.int
 IntKind.i64
 n_69,
 TV.int
 IntKind.i64
 n_70,
 TV.bytes
 (32 :
 Nat)
 b_10,
 TV.int
 IntKind.i64
 n_71,
 TV.int
 IntKind.u64
 n_72,
 TV.slice
 s_5,
 TV.bytes
 (16 :
 Nat)
 b_11]])
 h_15
 fun
 (v :
 Value)
 (h_16 :
 Array
 Obj) ↦
 ∃
 (b
 :
 Bool),
 v =
 TV.val
 (TV.bool
 b) ∧
 If
 b
 (∃
 (s
 :
 Sl),
 ∃
 (n
 :
 Int),
 ∃
 (n_73
 :
 Int),
 ∃
 (n_74
 :
 Int),
 ∃
 (n_75
 :
 Int),
 ∃
 (n_76
 :
 Int),
 ∃
 (n_77
 :
 Int),
 ∃
 (n_78
 :
 Int),
 ∃
 (n_79
 :
 Int),
 ∃
 (n_80
 :
 Int),
 ∃
 (n_81
 :
 Int),
 ∃
 (n_82
 :
 Int),
 (at1
 h_16
 (Array.size
 h)
 (0 :
 Nat)
 (slVal
 s) ∧
 at1
 h_16
 (Array.size
 h)
 (1 :
 Nat)
 (Value.int
 IntKind.i64
 n) ∧
 at1
 h_16
 (Array.size
 h)
 (2 :
 Nat)
 (Value.int
 IntKind.i64
 n_73) ∧
 at1
 h_16
 (Array.size
 h)
 (3 :
 Nat)
 (Value.int
 IntKind.i64
 n_74) ∧
 at1
 h_16
 (Array.size
 h)
 (4 :
 Nat)
 (Value.int
 IntKind.i64
 n_75) ∧
 at1
 h_16
 (Array.size
 h)
 (5 :
 Nat)
 (Value.int
 IntKind.i64
 n_76) ∧
 at1
 h_16
 (Array.size
 h)
 (6 :
 Nat)
 (Value.int
 IntKind.i64
 n_77) ∧
 at1
 h_16
 (Array.size
 h)
 (7 :
 Nat)
 (Value.int
 IntKind.i64
 n_78) ∧
 at1
 h_16
 (Array.size
 h)
 (8 :
 Nat)
 (Value.int
 IntKind.i64
 n_79) ∧
 at1
 h_16
 (Array.size
 h)
 (9 :
 Nat)
 (Value.int
 IntKind.i64
 n_80) ∧
 at1
 h_16
 (Array.size
 h)
 (10 :
 Nat)
 (Value.int
 IntKind.i64
 n_81) ∧
 at1
 h_16
 (Array.size
 h)
 (11 :
 Nat)
 (Value.int
 IntKind.i64
 n_82)) ∧
 ∃
 (n_83
 :
 Int),
 ∃
 (n_84
 :
 Int),
 ∃
 (b
 :
 Bs
 (32 :
 Nat)),
 ∃
 (n_85
 :
 Int),
 ∃
 (n_86
 :
 Int),
 ∃
 (s_6
 :
 Sl),
 ∃
 (b_12
 :
 Bs
 (16 :
 Nat)),
 (at1
 h_16
 (Array.size
 h_11)
 (0 :
 Nat)
 (Value.int
 IntKind.i64
 n_83) ∧
 at1
 h_16
 (Array.size
 h_11)
 (1 :
 Nat)
 (Value.int
 IntKind.i64
 n_84) ∧
 atBytes
 h_16
 (Array.size
 h_11)
 (2 :
 Nat)
 (32 :
 Nat)
 b ∧
 at1
 h_16
 (Array.size
 h_11)
 (34 :
 Nat)
 (Value.int
 IntKind.i64
 n_85) ∧
 at1
 h_16
 (Array.size
 h_11)
 (35 :
 Nat)
 (Value.int
 IntKind.u64
 n_86) ∧
 at1
 h_16
 (Array.size
 h_11)
 (36 :
 Nat)
 (slVal
 s_6) ∧
 atBytes
 h_16
 (Array.size
 h_11)
 (37 :
 Nat)
 (16 :
 Nat)
 b_12) ∧
 CallsH
 Try.prog
 (17 :
 Nat)
 (TVs.vals
 [TV.agg
 [TV.slice
 s,
 TV.int
 IntKind.i64
 n,
 TV.int
 IntKind.i64
 n_73,
 TV.int
 IntKind.i64
 n_74,
 TV.int
 IntKind.i64
 n_75,
 TV.int
 IntKind.i64
 n_76,
 TV.int
 IntKind.i64
 n_77,
 TV.int
 IntKind.i64
 n_78,
 TV.int
 IntKind.i64
 n_79,
 TV.int
 IntKind.i64
 n_80,
 TV.int
 IntKind.i64
 n_81,
 TV.int
 IntKind.i64
 n_82],
 TV.agg
 [TV.int
 IntKind.i64
 n_83,
 TV.int
 IntKind.i64
 n_84,
 TV.bytes
 (32 :
 Nat)
 b,
 TV.int
 IntKind.i64
 n_85,
 TV.int
 IntKind.u64
 n_86,
 TV.slice
 s_6,
 TV.bytes
 (16 :
 Nat)
 b_12]])
 h_16
 fun
 (v :
 Value)
 (h :
 Array
 Obj) ↦
 ∃
 (b
 :
 Bool),
 v =
 TV.val
 (TV.bool
 b) ∧
 R
 (TV.val
 (TV.bool
 (b ==
 decide
 (bit =
 (0 :
 Int)))))
 h)
 (R
 (TV.val
 (TV.bool
 false))
 h_16))
 (R
 (TV.val
 (TV.bool
 false))
 h_15)))))

theorem tollerlaw08_SealSigns_calls (c_Validators : Sl) (c_Epoch : Int) (c_Committee : Int) (c_Nodes : Int) (c_Orphans : Int) (c_Early : Int) (c_Quota : Int) (c_Peers : Int) (c_Bytes : Int) (c_Window : Int) (c_Ban : Int) (c_Decay : Int) (m_Kind : Int) (m_Slot : Int) (m_Target : Bs (32 : Nat)) (m_Member : Int) (m_Body : Int) (m_Bits : Sl) (m_Tag : Bs (16 : Nat)) (at_ : Int) (bit : Int) (h : Heap) (R : Value → Heap → Prop) (H : tollerlaw08_SealSigns_vc c_Validators c_Epoch c_Committee c_Nodes c_Orphans c_Early c_Quota c_Peers c_Bytes c_Window c_Ban c_Decay m_Kind m_Slot m_Target m_Member m_Body m_Bits m_Tag at_ bit h R) : CallsH Try.prog 6 (TVs.vals [TV.agg [TV.slice c_Validators, TV.int IntKind.i64 c_Epoch, TV.int IntKind.i64 c_Committee, TV.int IntKind.i64 c_Nodes, TV.int IntKind.i64 c_Orphans, TV.int IntKind.i64 c_Early, TV.int IntKind.i64 c_Quota, TV.int IntKind.i64 c_Peers, TV.int IntKind.i64 c_Bytes, TV.int IntKind.i64 c_Window, TV.int IntKind.i64 c_Ban, TV.int IntKind.i64 c_Decay], TV.agg [TV.int IntKind.i64 m_Kind, TV.int IntKind.i64 m_Slot, TV.bytes (32 : Nat) m_Target, TV.int IntKind.i64 m_Member, TV.int IntKind.u64 m_Body, TV.slice m_Bits, TV.bytes (16 : Nat) m_Tag], TV.int IntKind.i64 at_, TV.int IntKind.u8 bit]) h R :=
 vcFn_sound (C := ctx) ctx_ok (fn := Try.f6) Try.func6 ((by kernel_rfl : tollerlaw08_SealSigns_vc c_Validators c_Epoch c_Committee c_Nodes c_Orphans c_Early c_Quota c_Peers c_Bytes c_Window c_Ban c_Decay m_Kind m_Slot m_Target m_Member m_Body m_Bits m_Tag at_ bit h R = vcFn ctx Try.f6 [TV.agg [TV.slice c_Validators, TV.int IntKind.i64 c_Epoch, TV.int IntKind.i64 c_Committee, TV.int IntKind.i64 c_Nodes, TV.int IntKind.i64 c_Orphans, TV.int IntKind.i64 c_Early, TV.int IntKind.i64 c_Quota, TV.int IntKind.i64 c_Peers, TV.int IntKind.i64 c_Bytes, TV.int IntKind.i64 c_Window, TV.int IntKind.i64 c_Ban, TV.int IntKind.i64 c_Decay], TV.agg [TV.int IntKind.i64 m_Kind, TV.int IntKind.i64 m_Slot, TV.bytes (32 : Nat) m_Target, TV.int IntKind.i64 m_Member, TV.int IntKind.u64 m_Body, TV.slice m_Bits, TV.bytes (16 : Nat) m_Tag], TV.int IntKind.i64 at_, TV.int IntKind.u8 bit] h R) ▸ H)


end Go.Proofs.Ytgdhddignbkloaa
end

section
/- SealIs, SealSigns. -/
namespace Go.Proofs.Ytgdhddignbkloaa.Board
open Go Go.Vc
section
variable {R : Value → Heap → Prop} {h : Heap} {c : Cf}

theorem If.same {b : Bool} {p q : Prop} (hp : p) : If (b == b) p q := by cases b <;> exact hp

/-- SPEAKERS, TAG, CHECK AND VOTES ANSWER WHAT THE DOCUMENT SAYS. -/
theorem sealIs_spec {m : Ms} (hc : ∃ L, Elems 2 h c.vals (vds L)) (hm : (∃ row, Elems 1 h m.bits (bools row)) ∧ BodyOk m) (hr : ∀ h', Ext h h' → R (TV.bool true).val h') : CallsH Try.prog 5 (TVs.vals [c.tv, m.tv]) h R := by
  obtain ⟨L, e⟩ := hc
  obtain ⟨⟨row, em⟩, hbo⟩ := hm
  apply tollerlaw08_SealIs_calls c.vals c.ep c.com c.no c.orp c.ear c.quo c.pe c.by_ c.win c.ban c.dec m.kind m.slot m.target m.member m.body m.bits m.tag
  unfold tollerlaw08_SealIs_vc
  refine newTV_in fun h1 v1 x1 s1 => newTV_in fun h2 v2 x2 s2 => ?_
  have v1 : Var 24 h2 h.size c.tv := Var.ext (t := c.tv) v1 x2
  have v2 : Var 32 h2 h1.size m.tv := v2
  have x02 := x1.trans x2
  refine alive_spec fun h3 x3 => ⟨_, rfl, If.no ?_⟩
  have x03 := x02.trans x3
  have v13 := v1.ext x3
  have v23 := v2.ext x3
  refine cf_at v13 (ms_at v23 (great8_spec (e.ext x03) (em.ext x03) (fun h4 x4 => ⟨_, rfl, If.yes (hr h4 (x03.trans x4))⟩) fun h4 x4 hf h200 => ⟨_, rfl, If.no ?_⟩))
  have x04 := x03.trans x4
  have hv : c.vals.len < 900 := by have := hf.fine.len; omega
  have hk := keys64 hf.keys
  have v14 := v13.ext x4
  have v24 := v23.ext x4
  refine cf_at v14 (ms_at v24 (speak_spec hv (em.ext x04) (by omega) fun h5 s5 e5 x5 => ⟨_, _, rfl, ?_⟩))
  have x05 := x04.trans x5
  have v15 := v14.ext x5
  have v25 := v24.ext x5
  refine cf_at v15 (ms_at v25 (docspeak_spec hf.fine (em.ext x05) (by omega) fun h6 s6 e6 x6 _ => ⟨_, _, rfl, ?_⟩))
  have x06 := x05.trans x6
  have v16 := v15.ext x6
  have v26 := v25.ext x6
  refine cf_at v16 (ms_at v26 (tag_spec hv (e.ext x06) hk (em.ext x06) (by omega) fun h7 x7 => ⟨_, _, rfl, ?_⟩))
  refine newTV_in fun h8 v8 x8 s8 => put_n v8 (t := .bytes 16 (tagF c.vals.len c.com L m row).1) rfl rfl fun h9 v9 f9 s9 => ?_
  have x79 : Ext h7 h9 := Only.cut x8 f9 fun i hi => by omega
  have x69 := x7.trans x79
  have x09 := x06.trans x69
  have v19 := v16.ext x69
  have v29 := v26.ext x69
  refine cf_at v19 (ms_at v29 (doctag_spec hf.fine (e.ext x09) hk (em.ext x09) (by omega) hbo fun h10 x10 => ⟨_, _, rfl, ?_⟩))
  refine newTV_in fun h11 v11 x11 s11 => put_n v11 (t := .bytes 16 (tagF c.vals.len c.com L m row).1) rfl rfl fun h12 v12 f12 s12 => ?_
  have x1012 : Ext h10 h12 := Only.cut x11 f12 fun i hi => by omega
  have x912 := x10.trans x1012
  have x012 := x09.trans x912
  have v112 := v19.ext x912
  have v212 := v29.ext x912
  have x612 := x69.trans x912
  refine If.same ?_
  refine same_spec (e5.ext (x6.trans x612)) (e6.ext x612) (by have := speak_len (n := c.vals.len) (com := c.com) (m := m) (row := row); omega) ⟨_, rfl, ?_⟩
  rw [decide_eq_true rfl]
  refine If.yes ?_
  refine ⟨_, (v9.ext x912).bytes, _, v12.bytes, If.dec.2 ⟨fun _ => If.same ?_, fun hx => absurd rfl hx⟩⟩
  refine cf_at v112 (ms_at v212 (cf_at v112 (ms_at v212 (check_spec hv (e.ext x012) hk (em.ext x012) (by omega) fun h14 x14 => ⟨_, rfl, x14, ?_⟩))))
  have x014 := x012.trans x14
  refine doccheck_spec hf.fine (e.ext x014) hk (em.ext x014) (by omega) hbo fun h15 x15 => ⟨_, rfl, If.same ?_⟩
  have x015 := x014.trans x15
  have x1215 := x14.trans x15
  have v115 := v112.ext x1215
  have v215 := v212.ext x1215
  refine cf_at v115 (ms_at v215 (cf_at v115 (ms_at v215 (votes_spec hv (em.ext x015) (by omega) fun h16 s16 e16 x16 => ⟨_, rfl, x16, ?_⟩))))
  have x016 := x015.trans x16
  refine docvotes_spec hf.fine (em.ext x016) (by omega) fun h17 s17 e17 x17 => ⟨_, rfl, ?_⟩
  refine vsame_spec (e16.ext x17) e17 (by have := votes_len (n := c.vals.len) (com := c.com) (m := m) (row := row); omega) ⟨_, rfl, hr h17 (x016.trans x17)⟩

/-- A byte of a message's tag is written. -/
theorem tag_byte {m : Ms} {b k o : Nat} {x : Int} {K : Heap → Prop} (v : Var 32 h b m.tv) (hk : k < 16) (ho : o = 37 + k) (h0 : 0 ≤ x) (h1 : x < 256)
    (hK : ∀ h1, Var 32 h1 b ({ m with tag := m.tag.set k (UInt8.ofNat x.toNat) } : Ms).tv → Only (· = b) h h1 → h1.size = h.size → K h1) : wok h b o 1 ∧ Bind ((TV.int .u8 x).put h b o) K := by
  subst ho
  have hl : 37 + k + (TV.int .u8 x).size ≤ m.tv.cells.length := by rw [TV.cells_length, ← mssz1]; simp only [TV.size]; omega
  have hw : 37 + k + 1 ≤ m.tv.size := by rw [← mssz1]; omega
  refine ⟨v.wok hw, hK _ ?_ (put_only v hl) (put_size v hl)⟩
  have hp := put_row (t := .int .u8 x) v hl
  unfold Var
  rw [hp]
  congr 2
  obtain ⟨A, hA⟩ : ∃ A, A = TVs.cells [.int .i64 m.kind, .int .i64 m.slot, .bytes 32 m.target, .int .i64 m.member, .int .u64 m.body, .slice m.bits] := ⟨_, rfl⟩
  have lA : A.length = 37 := by rw [hA, TVs.cells_length]; simp only [TVs.size, TV.size]
  have hc : ∀ t : Bs 16, ({ m with tag := t } : Ms).tv.cells = A ++ t.l.map fun c => Value.int .u8 (c.toNat : Int) := by
    intro t
    rw [hA]
    show TVs.cells ([.int .i64 m.kind, .int .i64 m.slot, .bytes 32 m.target, .int .i64 m.member, .int .u64 m.body, .slice m.bits] ++ [.bytes 16 t]) = _
    rw [TVs.cells_append]
    simp only [TVs.cells, TV.cells, List.append_nil]
  have hm : m.tv.cells = A ++ m.tag.l.map fun c => Value.int .u8 (c.toNat : Int) := hc m.tag
  rw [hm, hc]
  have := list_cut A (m.tag.l.map fun c => Value.int .u8 (c.toNat : Int)) [] [] [.int .u8 x] k 1 (by rw [List.length_map, m.tag.h]; omega)
  rw [lA, List.append_nil, List.append_nil, List.append_nil, List.append_nil] at this
  have hcell : (TV.int IntKind.u8 x).cells = [.int .u8 x] := rfl
  rw [hcell]
  show List.take (37 + k) _ ++ _ ++ List.drop (37 + k + 1) _ = _
  rw [this]
  congr 1
  simp only [Bs.set, List.map_set]
  have e : ((UInt8.ofNat x.toNat).toNat : Int) = x := by
    rw [UInt8.toNat_ofNat']
    omega
  rw [e, List.set_eq_take_append_cons_drop, if_pos (by rw [List.length_map, m.tag.h]; exact hk)]
  simp

theorem xor_self_iff (c d : UInt8) : c ^^^ d = c ↔ d = 0 := by
  constructor
  · intro h
    have : c ^^^ (c ^^^ d) = c ^^^ c := by rw [h]
    rw [← UInt8.xor_assoc, UInt8.xor_self, UInt8.zero_xor] at this
    exact this
  · rintro rfl
    exact UInt8.xor_zero

/-- One byte against another one: the tag is another one unless that is 0. -/
theorem set_xor {t : Bs 16} {k : Nat} {bit : Int} (hk : k < 16) (h0 : 0 ≤ bit) (h1 : bit < 256) :
    (decide (t.l = (t.set k (UInt8.ofNat (xv ((getB t k).toNat : Int) bit).toNat)).l) == decide (bit = 0)) = true := by
  have hx : UInt8.ofNat (xv ((getB t k).toNat : Int) bit).toNat = getB t k ^^^ UInt8.ofNat bit.toNat := by
    rw [← xb_xor]
    unfold xb
    rw [UInt8.toNat_ofNat']
    congr 3
    congr 1
    omega
  rw [hx]
  have hb : UInt8.ofNat bit.toNat = 0 ↔ bit = 0 := by
    rw [← UInt8.toNat_inj, UInt8.toNat_ofNat']
    show _ = 0 ↔ _
    omega
  have hiff : t.l = (t.set k (getB t k ^^^ UInt8.ofNat bit.toNat)).l ↔ bit = 0 := by
    rw [← hb, ← xor_self_iff (getB t k)]
    constructor
    · intro h
      have h' : t = t.set k (getB t k ^^^ UInt8.ofNat bit.toNat) := Bs.ext' h
      have := getB_set t (getB t k ^^^ UInt8.ofNat bit.toNat) hk
      rw [← h'] at this
      exact this.symm
    · intro h
      rw [h, set_getB]
  by_cases hz : bit = 0
  · rw [decide_eq_true hz, decide_eq_true (hiff.2 hz)]; rfl
  · rw [decide_eq_false hz, decide_eq_false (fun h => hz (hiff.1 h))]; rfl

theorem tmod16 (n : Int) : 0 ≤ IntKind.wrap .i64 (Int.tmod (IntKind.wrap .u64 n) 16) ∧ IntKind.wrap .i64 (Int.tmod (IntKind.wrap .u64 n) 16) < 16 := by
  have h := wrap_u64_range n
  rw [Int.tmod_eq_emod_of_nonneg h.1, wrap_i64 (by omega) (by omega)]
  omega

set_option maxHeartbeats 1000000 in
/-- WHAT IS SIGNED IS CHECKED; with another tag it isn't. -/
theorem sealSigns_spec {m : Ms} {at_ bit : Int} (hc : ∃ L, Elems 2 h c.vals (vds L)) (hm : (∃ row, Elems 1 h m.bits (bools row)) ∧ BodyOk m) (hbit : 0 ≤ bit ∧ bit < 256) (hr : ∀ h', Ext h h' → R (TV.bool true).val h') : CallsH Try.prog 6 (TVs.vals [c.tv, m.tv, .int .i64 at_, .int .u8 bit]) h R := by
  obtain ⟨L, e⟩ := hc
  obtain ⟨⟨row, em⟩, hbo⟩ := hm
  apply tollerlaw08_SealSigns_calls c.vals c.ep c.com c.no c.orp c.ear c.quo c.pe c.by_ c.win c.ban c.dec m.kind m.slot m.target m.member m.body m.bits m.tag
  unfold tollerlaw08_SealSigns_vc
  refine newTV_in fun h1 v1 x1 s1 => newTV_in fun h2 v2 x2 s2 => ?_
  have v1 : Var 24 h2 h.size c.tv := Var.ext (t := c.tv) v1 x2
  have v2 : Var 32 h2 h1.size m.tv := v2
  have x02 := x1.trans x2
  refine alive_spec fun h3 x3 => ⟨_, rfl, If.no ?_⟩
  have x03 := x02.trans x3
  have v13 := v1.ext x3
  have v23 := v2.ext x3
  refine cf_at v13 (ms_at v23 (great8_spec (e.ext x03) (em.ext x03) (fun h4 x4 => ⟨_, rfl, If.yes (hr h4 (x03.trans x4))⟩) fun h4 x4 hf h200 => ⟨_, rfl, If.no ?_⟩))
  have x04 := x03.trans x4
  have hv : c.vals.len < 900 := by have := hf.fine.len; omega
  have hk := keys64 hf.keys
  have v14 := v13.ext x4
  have v24 := v23.ext x4
  refine cf_at v14 (ms_at v24 (sign_spec hv (e.ext x04) hk (em.ext x04) (by omega) fun h5 x5 => ⟨_, _, _, _, _, _, _, _, rfl, ?_⟩))
  refine newTV_in fun h6 v6 x6 s6 => put_n (t0 := zeroM.tv) v6 (t := (signF c.vals.len c.com L m row).1.tv) mssz1 mssz fun h7 v7 f7 s7 => ?_
  have x57 : Ext h5 h7 := Only.cut x6 f7 fun i hi => by omega
  have x47 := x5.trans x57
  have x07 := x04.trans x47
  have v17 := v14.ext x47
  have v27 := v24.ext x47
  refine cf_at v17 (ms_at v27 (docspeak_spec hf.fine (em.ext x07) (by omega) fun h8 s8 e8 x8 _ => ⟨_, _, rfl, ?_⟩))
  have x08 := x07.trans x8
  have v18 := v17.ext x8
  have v28 := v27.ext x8
  have v78 := v7.ext x8
  have hs2 : (signF c.vals.len c.com L m row).2 = (speakF c.vals.len c.com m row).2 := by
    rw [← speak_tag_ok (L := L)]
    unfold signF
    split
    · rename_i h; exact h.symm
    · rename_i h; simp at h; exact h.symm
  rw [hs2]
  have hno : (!((speakF c.vals.len c.com m row).2 == (speakF c.vals.len c.com m row).2)) = false := by cases (speakF c.vals.len c.com m row).2 <;> rfl
  rw [hno]
  refine If.no (If.split (fun hb => ?_) fun hb => ?_)
  · have hb : (speakF c.vals.len c.com m row).2 = false := by simpa using hb
    have hsz : (signF c.vals.len c.com L m row).1 = zeroM := by
      unfold signF
      rw [speak_tag_ok, hb]
      rfl
    rw [hsz] at v78
    refine ms_at v78 (msame_spec (a := zeroM) (b := zeroM) (row := []) (Elems.nil_ 1 h8) (Elems.nil_ 1 h8) (by decide) rfl rfl rfl rfl rfl rfl fun h9 x9 => ⟨_, rfl, hr h9 (x08.trans x9)⟩)
  · have hb : (speakF c.vals.len c.com m row).2 = true := by simpa using hb
    have hsz : (signF c.vals.len c.com L m row).1 = { m with tag := (tagF c.vals.len c.com L m row).1 } := by
      unfold signF
      rw [speak_tag_ok, hb]
      rfl
    rw [hsz] at v78
    generalize hT : (tagF c.vals.len c.com L m row).1 = T at v78
    refine ms_at v78 (newTV_in fun h9 v9 x9 s9 => put_n (t0 := zeroM.tv) v9 (t := ({ m with tag := T } : Ms).tv) mssz1 mssz fun h10 v10 f10 s10 => ?_)
    have x810 : Ext h8 h10 := Only.cut x9 f10 fun i hi => by omega
    refine ⟨m.tag, (v28.ext x810).at.2.2.2.2.2.2, ?_⟩
    refine field_in (i := 6) (t := .bytes 16 m.tag) (t0 := .bytes 16 T) v10 rfl rfl rfl rfl fun h11 v11 f11 s11 => ?_
    have v11 : Var 32 h11 h8.size m.tv := v11
    have x811 : Ext h8 h11 := Only.cut x810 f11 fun i hi => by omega
    refine ms_at (v78.ext x811) (newTV_in fun h12 v12 x12 s12 => put_n (t0 := zeroM.tv) v12 (t := ({ m with tag := T } : Ms).tv) mssz1 mssz fun h13 v13 f13 s13 => ?_)
    have x1113 : Ext h11 h13 := Only.cut x12 f13 fun i hi => by omega
    have hkr := tmod16 at_
    obtain ⟨k, hk'⟩ : ∃ k : Nat, IntKind.wrap .i64 (Int.tmod (IntKind.wrap .u64 at_) 16) = (k : Int) := ⟨_, (Int.toNat_of_nonneg hkr.1).symm⟩
    rw [hk'] at hkr ⊢
    have hk16 : k < 16 := by omega
    have hb13 : at1 h13 h11.size (37 + k) (.int .u8 ((getB T k).toNat : Int)) := v13.at.2.2.2.2.2.2 k hk16
    have hxr := wrap_u8_range ((BitVec.ofInt (IntKind.bits .u8) ((getB T k).toNat : Int) ^^^ BitVec.ofInt (IntKind.bits .u8) bit).toNat : Int)
    refine ⟨by decide, hkr.1, hkr.2, _, by rw [Int.toNat_natCast, Nat.mul_one]; exact hb13, hkr.1, hkr.2, ?_⟩
    refine tag_byte v13 hk16 (by rw [Int.toNat_natCast, Nat.mul_one]) hxr.1 hxr.2 fun h14 v14' f14 s14 => ?_
    have x1114 : Ext h11 h14 := Only.cut x1113 f14 fun i hi => by omega
    have x814 := x811.trans x1114
    have x014 := x08.trans x814
    have v114 := v18.ext x814
    have v214 := v28.ext x814
    have v714 := v78.ext x814
    have v1114 := v11.ext x1114
    refine cf_at v114 (ms_at v714 (check_spec (m := { m with tag := T }) hv (e.ext x014) hk (em.ext x014) (by omega) fun h15 x15 => ⟨_, rfl, ?_⟩))
    have hck : checkF c.vals.len c.com L { m with tag := T } row = true := by
      unfold checkF
      rw [tagF_tag, speak_tag_ok, hb, hT]
      simp
    rw [hck]
    have x015 := x014.trans x15
    refine If.yes (ms_at (v1114.ext x15) (ms_at (v214.ext x15) (msame_spec (a := m) (b := m) (em.ext x015) (em.ext x015) (by omega) rfl rfl rfl rfl rfl rfl fun h16 x16 => ⟨_, rfl, If.yes ?_⟩)))
    have x016 := x015.trans x16
    have x1416 := x15.trans x16
    refine cf_at (v114.ext x1416) (ms_at (v14'.ext x1416) (check_spec (m := { m with tag := T.set k (UInt8.ofNat (xv ((getB T k).toNat : Int) bit).toNat) }) hv (e.ext x016) hk (em.ext x016) (by omega) fun h17 x17 => ⟨_, rfl, ?_⟩))
    have hck2 : checkF c.vals.len c.com L { m with tag := T.set k (UInt8.ofNat (xv ((getB T k).toNat : Int) bit).toNat) } row = decide (T.l = (T.set k (UInt8.ofNat (xv ((getB T k).toNat : Int) bit).toNat)).l) := by
      unfold checkF
      rw [tagF_tag, speak_tag_ok, hb, hT, Bool.true_and]
    rw [hck2, set_xor hk16 hbit.1 hbit.2]
    exact hr h17 (x016.trans x17)

end
end Go.Proofs.Ytgdhddignbkloaa.Board
end

section
/- The conditions of functions, as the generator reckons them out, each with the proof that it is that. -/
namespace Go.Proofs.Ytgdhddignbkloaa
open Go Go.Vc
set_option maxRecDepth 100000
set_option linter.unusedVariables false

def tollerlaw08_SealKeys_vc (c_Validators : Sl) (c_Epoch : Int) (c_Committee : Int) (c_Nodes : Int) (c_Orphans : Int) (c_Early : Int) (c_Quota : Int) (c_Peers : Int) (c_Bytes : Int) (c_Window : Int) (c_Ban : Int) (c_Decay : Int) (m_Kind : Int) (m_Slot : Int) (m_Target : Bs (32 : Nat)) (m_Member : Int) (m_Body : Int) (m_Bits : Sl) (m_Tag : Bs (16 : Nat)) (key : List UInt8) (h : Heap) (R : Value → Heap → Prop) : Prop :=
 Vc.Bind
 (newTV h
 (TV.agg
 [TV.slice c_Validators, TV.int IntKind.i64 c_Epoch, TV.int IntKind.i64 c_Committee, TV.int IntKind.i64 c_Nodes, TV.int IntKind.i64 c_Orphans,
 TV.int IntKind.i64 c_Early, TV.int IntKind.i64 c_Quota, TV.int IntKind.i64 c_Peers, TV.int IntKind.i64 c_Bytes, TV.int IntKind.i64 c_Window,
 TV.int IntKind.i64 c_Ban, TV.int IntKind.i64 c_Decay])
 (24 : Nat))
 fun (h_1 : Array Obj) ↦
 Vc.Bind
 (newTV h_1
 (TV.agg
 [TV.int IntKind.i64 m_Kind, TV.int IntKind.i64 m_Slot, TV.bytes (32 : Nat) m_Target, TV.int IntKind.i64 m_Member, TV.int IntKind.u64 m_Body,
 TV.slice m_Bits, TV.bytes (16 : Nat) m_Tag])
 (32 : Nat))
 fun (h_2 : Array Obj) ↦
 CallsH Try.prog (9 : Nat) (TVs.vals []) h_2 fun (v : Value) (h_3 : Array Obj) ↦
 ∃ (b : Bool),
 v = TV.val (TV.bool b) ∧
 If (!b) (R (TV.val (TV.bool false)) h_3)
 (Join
 (fun (s : Bool) (h_4 : Array Obj) ↦
 ∃ (s : Sl),
 ∃ (n : Int),
 ∃ (n_1 : Int),
 ∃ (n_2 : Int),
 ∃ (n_3 : Int),
 ∃ (n_4 : Int),
 ∃ (n_5 : Int),
 ∃ (n_6 : Int),
 ∃ (n_7 : Int),
 ∃ (n_8 : Int),
 ∃ (n_9 : Int),
 ∃ (n_10 : Int),
 (at1 h_4 (Array.size h) (0 : Nat) (slVal s) ∧
 at1 h_4 (Array.size h) (1 : Nat) (Value.int IntKind.i64 n) ∧
 at1 h_4 (Array.size h) (2 : Nat) (Value.int IntKind.i64 n_1) ∧
 at1 h_4 (Array.size h) (3 : Nat) (Value.int IntKind.i64 n_2) ∧
 at1 h_4 (Array.size h) (4 : Nat) (Value.int IntKind.i64 n_3) ∧
 at1 h_4 (Array.size h) (5 : Nat) (Value.int IntKind.i64 n_4) ∧
 at1 h_4 (Array.size h) (6 : Nat) (Value.int IntKind.i64 n_5) ∧
 at1 h_4 (Array.size h) (7 : Nat) (Value.int IntKind.i64 n_6) ∧
 at1 h_4 (Array.size h) (8 : Nat) (Value.int IntKind.i64 n_7) ∧
 at1 h_4 (Array.size h) (9 : Nat) (Value.int IntKind.i64 n_8) ∧
 at1 h_4 (Array.size h) (10 : Nat) (Value.int IntKind.i64 n_9) ∧
 at1 h_4 (Array.size h) (11 : Nat) (Value.int IntKind.i64 n_10)) ∧
 Vc.Bind
 (newTV h_4
 (TV.agg
 [TV.slice Sl.nil, TV.int IntKind.i64 (0 : Int), TV.int IntKind.i64 (0 : Int), TV.int IntKind.i64 (0 : Int),
 TV.int IntKind.i64 (0 : Int), TV.int IntKind.i64 (0 : Int), TV.int IntKind.i64 (0 : Int),
 TV.int IntKind.i64 (0 : Int), TV.int IntKind.i64 (0 : Int), TV.int IntKind.i64 (0 : Int),
 TV.int IntKind.i64 (0 : Int), TV.int IntKind.i64 (0 : Int)])
 (24 : Nat))
 fun (h_5 : Array Obj) ↦
 wok h_5 (Array.size h_4) (0 : Nat) (12 : Nat) ∧
 Vc.Bind
 (TV.put h_5 (Array.size h_4) (0 : Nat)
 (TV.agg
 [TV.slice s, TV.int IntKind.i64 n, TV.int IntKind.i64 n_1, TV.int IntKind.i64 n_2, TV.int IntKind.i64 n_3,
 TV.int IntKind.i64 n_4, TV.int IntKind.i64 n_5, TV.int IntKind.i64 n_6, TV.int IntKind.i64 n_7,
 TV.int IntKind.i64 n_8, TV.int IntKind.i64 n_9, TV.int IntKind.i64 n_10]))
 fun (h_6 : Array Obj) ↦
 ∃ (s : Sl),
 at1 (Array.push h_6 (row (TVs.cells []) (59 : Nat))) (Array.size h) (0 : Nat) (slVal s) ∧
 ∃ (new : List Value),
 slAt (Array.push h_6 (row (TVs.cells []) (59 : Nat))) s (2 : Nat) new ∧
 (∀ (v : Value), v ∈ new → isOne v = true) ∧
 vcAppend Ytgdhddignbkloaa.ctx (59 : Nat)
 (Sl.mk (some (Loc.mk (Array.size h_6) (0 : Nat))) (0 : Nat) (0 : Nat)) s.len new
 (Array.push h_6 (row (TVs.cells []) (59 : Nat))) fun (s : Sl) (h_7 : Array Obj) ↦
 wok h_7 (Array.size h_4) (0 : Nat) (1 : Nat) ∧
 Vc.Bind (TV.put h_7 (Array.size h_4) (0 : Nat) (TV.slice s)) fun (h_8 : Array Obj) ↦
 ∃ (s : Sl),
 ∃ (n : Int),
 ∃ (n_11 : Int),
 ∃ (n_12 : Int),
 ∃ (n_13 : Int),
 ∃ (n_14 : Int),
 ∃ (n_15 : Int),
 ∃ (n_16 : Int),
 ∃ (n_17 : Int),
 ∃ (n_18 : Int),
 ∃ (n_19 : Int),
 ∃ (n_20 : Int),
 (at1 h_8 (Array.size h) (0 : Nat) (slVal s) ∧
 at1 h_8 (Array.size h) (1 : Nat) (Value.int IntKind.i64 n) ∧
 at1 h_8 (Array.size h) (2 : Nat) (Value.int IntKind.i64 n_11) ∧
 at1 h_8 (Array.size h) (3 : Nat) (Value.int IntKind.i64 n_12) ∧
 at1 h_8 (Array.size h) (4 : Nat)
 (Value.int IntKind.i64 n_13) ∧
 at1 h_8 (Array.size h) (5 : Nat)
 (Value.int IntKind.i64 n_14) ∧
 at1 h_8 (Array.size h) (6 : Nat)
 (Value.int IntKind.i64 n_15) ∧
 at1 h_8 (Array.size h) (7 : Nat)
 (Value.int IntKind.i64 n_16) ∧
 at1 h_8 (Array.size h) (8 : Nat)
 (Value.int IntKind.i64 n_17) ∧
 at1 h_8 (Array.size h) (9 : Nat)
 (Value.int IntKind.i64 n_18) ∧
 at1 h_8 (Array.size h) (10 : Nat)
 (Value.int IntKind.i64 n_19) ∧
 at1 h_8 (Array.size h) (11 : Nat)
 (Value.int IntKind.i64 n_20)) ∧
 ∃ (n_21 : Int),
 ∃ (n_22 : Int),
 ∃ (b : Bs (32 : Nat)),
 ∃ (n_23 : Int),
 ∃ (n_24 : Int),
 ∃ (s_1 : Sl),
 ∃ (b_1 : Bs (16 : Nat)),
 (at1 h_8 (Array.size h_1) (0 : Nat)
 (Value.int IntKind.i64 n_21) ∧
 at1 h_8 (Array.size h_1) (1 : Nat)
 (Value.int IntKind.i64 n_22) ∧
 atBytes h_8 (Array.size h_1) (2 : Nat) (32 : Nat)
 b ∧
 at1 h_8 (Array.size h_1) (34 : Nat)
 (Value.int IntKind.i64 n_23) ∧
 at1 h_8 (Array.size h_1) (35 : Nat)
 (Value.int IntKind.u64 n_24) ∧
 at1 h_8 (Array.size h_1) (36 : Nat)
 (slVal s_1) ∧
 atBytes h_8 (Array.size h_1) (37 : Nat)
 (16 : Nat) b_1) ∧
 CallsH Try.prog (18 : Nat)
 (TVs.vals
 [TV.agg
 [TV.slice s, TV.int IntKind.i64 n,
 TV.int IntKind.i64 n_11,
 TV.int IntKind.i64 n_12,
 TV.int IntKind.i64 n_13,
 TV.int IntKind.i64 n_14,
 TV.int IntKind.i64 n_15,
 TV.int IntKind.i64 n_16,
 TV.int IntKind.i64 n_17,
 TV.int IntKind.i64 n_18,
 TV.int IntKind.i64 n_19,
 TV.int IntKind.i64 n_20],
 TV.agg
 [TV.int IntKind.i64 n_21,
 TV.int IntKind.i64 n_22,
 TV.bytes (32 : Nat) b,
 TV.int IntKind.i64 n_23,
 TV.int IntKind.u64 n_24, TV.slice s_1,
 TV.bytes (16 : Nat) b_1]])
 h_8 fun (v : Value) (h_9 : Array Obj) ↦
 ∃ (s : Sl),
 ∃ (b : Bool),
 v = TV.val (TV.tup [TV.slice s, TV.bool b]) ∧
 ∃ (s_2 : Sl),
 at1 h_9 (Array.size h_4) (0 : Nat)
 (slVal s_2) ∧
 Go.Vc.Loop (0 : Int) h_9
 fun (s_3 : Int) (h_10 : Array Obj)
 (K : Int → Array Obj → Prop) ↦
 If (decide (s_3 < (↑s_2.len : Int)))
 (Go.Vc.Loop (false, (0 : Int)) h_10
 fun (s_4 : Bool × Int)
 (h : Array Obj)
 (K_1 :
 Bool × Int → Array Obj → Prop) ↦
 If
 (decide
 (s_4.snd < (↑s.len : Int)))
 ((0 : Int) ≤ s_4.snd ∧
 s_4.snd < (↑s.len : Int) ∧
 Nn s.a fun (l : Go.Vc.Loc) ↦
 ∃ (n : Int),
 at1 h l.b
 (l.o +
 Int.toNat s_4.snd *
 (1 : Nat))
 (Value.int IntKind.i64
 n) ∧
 If s_4.fst
 (K_1
 (true,
 IntKind.wrap
 IntKind.i64
 (s_4.snd +
 (1 : Int)))
 h)
 (K_1
 (decide (n = s_3),
 IntKind.wrap
 IntKind.i64
 (s_4.snd +
 (1 : Int)))
 h))
 (If (!s_4.fst)
 (∃ (s : Sl),
 at1 h (Array.size h_4)
 (0 : Nat) (slVal s) ∧
 (0 : Int) ≤ s_3 ∧
 s_3 < (↑s.len : Int) ∧
 Nn s.a
 fun (l : Go.Vc.Loc) ↦
 wok h l.b
 (l.o +
 Int.toNat
 s_3 *
 (2 : Nat) +
 (1 : Nat))
 (1 : Nat) ∧
 Vc.Bind
 (TV.put h l.b
 (l.o +
 Int.toNat
 s_3 *
 (2 :
 Nat) +
 (1 : Nat))
 (TV.str key))
 fun
 (h :
 Array Obj) ↦
 K
 (IntKind.wrap
 IntKind.i64
 (s_3 +
 (1 : Int)))
 h)
 (K
 (IntKind.wrap IntKind.i64
 (s_3 + (1 : Int)))
 h)))
 (∃ (s : Sl),
 ∃ (n : Int),
 ∃ (n_25 : Int),
 ∃ (n_26 : Int),
 ∃ (n_27 : Int),
 ∃ (n_28 : Int),
 ∃ (n_29 : Int),
 ∃ (n_30 : Int),
 ∃ (n_31 : Int),
 ∃ (n_32 : Int),
 ∃ (n_33 : Int),
 ∃ (n_34 : Int),
 (at1 h_10
 (Array.size
 h)
 (0 :
 Nat)
 (slVal
 s) ∧
 at1 h_10
 (Array.size
 h)
 (1 :
 Nat)
 (Value.int
 IntKind.i64
 n) ∧
 at1 h_10
 (Array.size
 h)
 (2 :
 Nat)
 (Value.int
 IntKind.i64
 n_25) ∧
 at1
 h_10
 (Array.size
 h)
 (3 :
 Nat)
 (Value.int
 IntKind.i64
 n_26) ∧
 at1
 h_10
 (Array.size
 h)
 (4 :
 Nat)
 (Value.int
 IntKind.i64
 n_27) ∧
 at1
 h_10
 (Array.size
 h)
 (5 :
 Nat)
 (Value.int
 IntKind.i64
 n_28) ∧
 at1
 h_10
 (Array.size
 h)
 (6 :
 Nat)
 (Value.int
 IntKind.i64
 n_29) ∧
 at1
 h_10
 (Array.size
 h)
 (7 :
 Nat)
 (Value.int
 IntKind.i64
 n_30) ∧
 at1
 h_10
 (Array.size
 h)
 (8 :
 Nat)
 (Value.int
 IntKind.i64
 n_31) ∧
 at1
 h_10
 (Array.size
 h)
 (9 :
 Nat)
 (Value.int
 IntKind.i64
 n_32) ∧
 at1
 h_10
 (Array.size
 h)
 (10 :
 Nat)
 (Value.int
 IntKind.i64
 n_33) ∧
 at1
 h_10
 (Array.size
 h)
 (11 :
 Nat)
 (Value.int
 IntKind.i64
 n_34)) ∧
 ∃ (n_35 :
 Int),
 ∃ (n_36 :
 Int),
 ∃ (b_2 :
 Bs
 (32 :
 Nat)),
 ∃
 (n_37
 :
 Int),
 ∃
 (n_38
 :
 Int),
 ∃
 (s_4
 :
 Sl),
 ∃
 (b_3
 :
 Bs
 (16 :
 Nat)),
 (at1
 h_10
 (Array.size
 h_1)
 (0 :
 Nat)
 (Value.int
 IntKind.i64
 n_35) ∧
 at1
 h_10
 (Array.size
 h_1)
 (1 :
 Nat)
 (Value.int
 IntKind.i64
 n_36) ∧
 atBytes
 h_10
 (Array.size
 h_1)
 (2 :
 Nat)
 (32 :
 Nat)
 b_2 ∧
 at1
 h_10
 (Array.size
 h_1)
 (34 :
 Nat)
 (Value.int
 IntKind.i64
 n_37) ∧
 at1
 h_10
 (Array.size
 h_1)
 (35 :
 Nat)
 (Value.int
 IntKind.u64
 n_38) ∧
 at1
 h_10
 (Array.size
 h_1)
 (36 :
 Nat)
 (slVal
 s_4) ∧
 atBytes
 h_10
 (Array.size
 h_1)
 (37 :
 Nat)
 (16 :
 Nat)
 b_3) ∧
 CallsH
 Try.prog
 (11 :
 Nat)
 (TVs.vals
 [TV.agg
 [TV.slice
 s,
 TV.int
 IntKind.i64
 n,
 TV.int
 IntKind.i64
 n_25,
 TV.int
 IntKind.i64
 n_26,
 TV.int
 IntKind.i64
 n_27,
 TV.int
 IntKind.i64
 n_28,
 TV.int
 IntKind.i64
 n_29,
 TV.int
 IntKind.i64
 n_30,
 TV.int
 IntKind.i64
 n_31,
 TV.int
 IntKind.i64
 n_32,
 TV.int
 IntKind.i64
 n_33,
 TV.int
 IntKind.i64
 n_34],
 TV.agg
 [TV.int
 IntKind.i64
 n_35,
 TV.int
 IntKind.i64
 n_36,
 TV.bytes
 (32 :
 Nat)
 b_2,
 TV.int
 IntKind.i64
 n_37,
 TV.int
 IntKind.u64
 n_38,
 TV.slice
 s_4,
 TV.bytes
 (16 :
 Nat)
 b_3]])
 h_10
 fun
 (v :
 Value)
 (h :
 Array
 Obj) ↦
 ∃
 (b_4
 :
 Bs
 (16 :
 Nat)),
 ∃
 (b_5
 :
 Bool),
 v =
 TV.val
 (TV.tup
 [TV.bytes
 (16 :
 Nat)
 b_4,
 TV.bool
 b_5]) ∧
 Vc.Bind
 (newTV
 h
 (TV.bytes
 (16 :
 Nat)
 (Bs.zero
 (16 :
 Nat)))
 (30 :
 Nat))
 fun
 (h_11 :
 Array
 Obj) ↦
 wok
 h_11
 (Array.size
 h)
 (0 :
 Nat)
 (16 :
 Nat) ∧
 Vc.Bind
 (TV.put
 h_11
 (Array.size
 h)
 (0 :
 Nat)
 (TV.bytes
 (16 :
 Nat)
 b_4))
 fun
 (h_12 :
 Array
 Obj) ↦
 ∃
 (s
 :
 Sl),
 ∃
 (n
 :
 Int),
 ∃
 (n_39
 :
 Int),
 ∃
 (n_40
 :
 Int),
 ∃
 (n_41
 :
 Int),
 ∃
 (n_42
 :
 Int),
 ∃
 (n_43
 :
 Int),
 ∃
 (n_44
 :
 Int),
 ∃
 (n_45
 :
 Int),
 ∃
 (n_46
 :
 Int),
 ∃
 (n_47
 :
 Int),
 ∃
 (n_48
 :
 Int),
 (at1
 h_12
 (Array.size
 h_4)
 (0 :
 Nat)
 (slVal
 s) ∧
 at1
 h_12
 (Array.size
 h_4)
 (1 :
 Nat)
 (Value.int
 IntKind.i64
 n) ∧
 at1
 h_12
 (Array.size
 h_4)
 (2 :
 Nat)
 (Value.int
 IntKind.i64
 n_39) ∧
 at1
 h_12
 (Array.size
 h_4)
 (3 :
 Nat)
 (Value.int
 IntKind.i64
 n_40) ∧
 at1
 h_12
 (Array.size
 h_4)
 (4 :
 Nat)
 (Value.int
 IntKind.i64
 n_41) ∧
 at1
 h_12
 (Array.size
 h_4)
 (5 :
 Nat)
 (Value.int
 IntKind.i64
 n_42) ∧
 at1
 h_12
 (Array.size
 h_4)
 (6 :
 Nat)
 (Value.int
 IntKind.i64
 n_43) ∧
 at1
 h_12
 (Array.size
 h_4)
 (7 :
 Nat)
 (Value.int
 IntKind.i64
 n_44) ∧
 at1
 h_12
 (Array.size
 h_4)
 (8 :
 Nat)
 (Value.int
 IntKind.i64
 n_45) ∧
 at1
 h_12
 (Array.size
 h_4)
 (9 :
 Nat)
 (Value.int
 IntKind.i64
 n_46) ∧
 at1
 h_12
 (Array.size
 h_4)
 (10 :
 Nat)
 (Value.int
 IntKind.i64
 n_47) ∧
 at1
 h_12
 (Array.size
 h_4)
 (11 :
 Nat)
 (Value.int
 IntKind.i64
 n_48)) ∧
 ∃
 (n_49
 :
 Int),
 ∃
 (n_50
 :
 Int),
 ∃
 (b_6
 :
 Bs
 (32 :
 Nat)),
 ∃
 (n_51
 :
 Int),
 ∃
 (n_52
 :
 Int),
 ∃
 (s_5
 :
 Sl),
 ∃
 (b_7
 :
 Bs
 (16 :
 Nat)),
 (at1
 h_12
 (Array.size
 h_1)
 (0 :
 Nat)
 (Value.int
 IntKind.i64
 n_49) ∧
 at1
 h_12
 (Array.size
 h_1)
 (1 :
 Nat)
 (Value.int
 IntKind.i64
 n_50) ∧
 atBytes
 h_12
 (Array.size
 h_1)
 (2 :
 Nat)
 (32 :
 Nat)
 b_6 ∧
 at1
 h_12
 (Array.size
 h_1)
 (34 :
 Nat)
 (Value.int
 IntKind.i64
 n_51) ∧
 at1
 h_12
 (Array.size
 h_1)
 (35 :
 Nat)
 (Value.int
 IntKind.u64
 n_52) ∧
 at1
 h_12
 (Array.size
 h_1)
 (36 :
 Nat)
 (slVal
 s_5) ∧
 atBytes
 h_12
 (Array.size
 h_1)
 (37 :
 Nat)
 (16 :
 Nat)
 b_7) ∧
 CallsH
 Try.prog
 (11 :
 Nat)
 (TVs.vals
 [TV.agg
 [TV.slice
 s,
 TV.int
 IntKind.i64
 n,
 TV.int
 IntKind.i64
 n_39,
 TV.int
 IntKind.i64
 n_40,
 TV.int
 IntKind.i64
 n_41,
 TV.int
 IntKind.i64
 n_42,
 TV.int
 IntKind.i64
 n_43,
 TV.int
 IntKind.i64
 n_44,
 TV.int
 IntKind.i64
 n_45,
 TV.int
 IntKind.i64
 n_46,
 TV.int
 IntKind.i64
 n_47,
 TV.int
 IntKind.i64
 n_48],
 TV.agg
 [TV.int
 IntKind.i64
 n_49,
 TV.int
 IntKind.i64
 n_50,
 TV.bytes
 (32 :
 Nat)
 b_6,
 TV.int
 IntKind.i64
 n_51,
 TV.int
 IntKind.u64
 n_52,
 TV.slice
 s_5,
 TV.bytes
 (16 :
 Nat)
 b_7]])
 h_12
 fun
 (v :
 Value)
 (h_13 :
 Array
 Obj) ↦
 ∃
 (b_8
 :
 Bs
 (16 :
 Nat)),
 ∃
 (b_9
 :
 Bool),
 v =
 TV.val
 (TV.tup
 [TV.bytes
 (16 :
 Nat)
 b_8,
 TV.bool
 b_9]) ∧
 Vc.Bind
 (newTV
 h_13
 (TV.bytes
 (16 :
 Nat)
 (Bs.zero
 (16 :
 Nat)))
 (30 :
 Nat))
 fun
 (h_14 :
 Array
 Obj) ↦
 wok
 h_14
 (Array.size
 h_13)
 (0 :
 Nat)
 (16 :
 Nat) ∧
 Vc.Bind
 (TV.put
 h_14
 (Array.size
 h_13)
 (0 :
 Nat)
 (TV.bytes
 (16 :
 Nat)
 b_8))
 fun
 (h_15 :
 Array
 Obj) ↦
 ∃
 (b_10
 :
 Bs
 (16 :
 Nat)),
 atBytes
 h_15
 (Array.size
 h)
 (0 :
 Nat)
 (16 :
 Nat)
 b_10 ∧
 ∃
 (b_11
 :
 Bs
 (16 :
 Nat)),
 atBytes
 h_15
 (Array.size
 h_13)
 (0 :
 Nat)
 (16 :
 Nat)
 b_11 ∧
 If
 (decide
 (b_10.l =
 b_11.l))
 (If
 (b_5 ==
 b_9)
 (R
 (TV.val
 (TV.bool
 (b_5 ==
 b)))
 h_15)
 (R
 (TV.val
 (TV.bool
 false))
 h_15))
 (R
 (TV.val
 (TV.bool
 false))
 h_15)))
 fun (J : Bool → Array Obj → Prop) ↦
 ∃ (s : Sl),
 ∃ (n : Int),
 ∃ (n_1 : Int),
 ∃ (n_2 : Int),
 ∃ (n_3 : Int),
 ∃ (n_4 : Int),
 ∃ (n_5 : Int),
 ∃ (n_6 : Int),
 ∃ (n_7 : Int),
 ∃ (n_8 : Int),
 ∃ (n_9 : Int),
 ∃ (n_10 : Int),
 (at1 h_3 (Array.size h) (0 : Nat) (slVal s) ∧
 at1 h_3 (Array.size h) (1 : Nat) (Value.int IntKind.i64 n) ∧
 at1 h_3 (Array.size h) (2 : Nat) (Value.int IntKind.i64 n_1) ∧
 at1 h_3 (Array.size h) (3 : Nat) (Value.int IntKind.i64 n_2) ∧
 at1 h_3 (Array.size h) (4 : Nat) (Value.int IntKind.i64 n_3) ∧
 at1 h_3 (Array.size h) (5 : Nat) (Value.int IntKind.i64 n_4) ∧
 at1 h_3 (Array.size h) (6 : Nat) (Value.int IntKind.i64 n_5) ∧
 at1 h_3 (Array.size h) (7 : Nat) (Value.int IntKind.i64 n_6) ∧
 at1 h_3 (Array.size h) (8 : Nat) (Value.int IntKind.i64 n_7) ∧
 at1 h_3 (Array.size h) (9 : Nat) (Value.int IntKind.i64 n_8) ∧
 at1 h_3 (Array.size h) (10 : Nat) (Value.int IntKind.i64 n_9) ∧
 at1 h_3 (Array.size h) (11 : Nat) (Value.int IntKind.i64 n_10)) ∧
 ∃ (n_11 : Int),
 ∃ (n_12 : Int),
 ∃ (b : Bs (32 : Nat)),
 ∃ (n_13 : Int),
 ∃ (n_14 : Int),
 ∃ (s_1 : Sl),
 ∃ (b_1 : Bs (16 : Nat)),
 (at1 h_3 (Array.size h_1) (0 : Nat) (Value.int IntKind.i64 n_11) ∧
 at1 h_3 (Array.size h_1) (1 : Nat) (Value.int IntKind.i64 n_12) ∧
 atBytes h_3 (Array.size h_1) (2 : Nat) (32 : Nat) b ∧
 at1 h_3 (Array.size h_1) (34 : Nat) (Value.int IntKind.i64 n_13) ∧
 at1 h_3 (Array.size h_1) (35 : Nat) (Value.int IntKind.u64 n_14) ∧
 at1 h_3 (Array.size h_1) (36 : Nat) (slVal s_1) ∧
 atBytes h_3 (Array.size h_1) (37 : Nat) (16 : Nat) b_1) ∧
 CallsH Try.prog (10 : Nat)
 (TVs.vals
 [TV.agg
 [TV.slice s, TV.int IntKind.i64 n, TV.int IntKind.i64 n_1, TV.int IntKind.i64 n_2,
 TV.int IntKind.i64 n_3, TV.int IntKind.i64 n_4, TV.int IntKind.i64 n_5,
 TV.int IntKind.i64 n_6, TV.int IntKind.i64 n_7, TV.int IntKind.i64 n_8,
 TV.int IntKind.i64 n_9, TV.int IntKind.i64 n_10],
 TV.agg
 [TV.int IntKind.i64 n_11, TV.int IntKind.i64 n_12, TV.bytes (32 : Nat) b,
 TV.int IntKind.i64 n_13, TV.int IntKind.u64 n_14, TV.slice s_1, TV.bytes (16 : Nat) b_1]])
 h_3 fun (v : Value) (h : Array Obj) ↦
 ∃ (b : Bool),
 v = TV.val (TV.bool b) ∧
 If b (R (TV.val (TV.bool true)) h)
 (If (decide ((↑(List.length key) : Int) < (1 : Int))) (R (TV.val (TV.bool true)) h)
 (If (decide ((32 : Int) < (↑(List.length key) : Int))) (R (TV.val (TV.bool true)) h)
 (J false h))))

theorem tollerlaw08_SealKeys_calls (c_Validators : Sl) (c_Epoch : Int) (c_Committee : Int) (c_Nodes : Int) (c_Orphans : Int) (c_Early : Int) (c_Quota : Int) (c_Peers : Int) (c_Bytes : Int) (c_Window : Int) (c_Ban : Int) (c_Decay : Int) (m_Kind : Int) (m_Slot : Int) (m_Target : Bs (32 : Nat)) (m_Member : Int) (m_Body : Int) (m_Bits : Sl) (m_Tag : Bs (16 : Nat)) (key : List UInt8) (h : Heap) (R : Value → Heap → Prop) (H : tollerlaw08_SealKeys_vc c_Validators c_Epoch c_Committee c_Nodes c_Orphans c_Early c_Quota c_Peers c_Bytes c_Window c_Ban c_Decay m_Kind m_Slot m_Target m_Member m_Body m_Bits m_Tag key h R) : CallsH Try.prog 8 (TVs.vals [TV.agg [TV.slice c_Validators, TV.int IntKind.i64 c_Epoch, TV.int IntKind.i64 c_Committee, TV.int IntKind.i64 c_Nodes, TV.int IntKind.i64 c_Orphans, TV.int IntKind.i64 c_Early, TV.int IntKind.i64 c_Quota, TV.int IntKind.i64 c_Peers, TV.int IntKind.i64 c_Bytes, TV.int IntKind.i64 c_Window, TV.int IntKind.i64 c_Ban, TV.int IntKind.i64 c_Decay], TV.agg [TV.int IntKind.i64 m_Kind, TV.int IntKind.i64 m_Slot, TV.bytes (32 : Nat) m_Target, TV.int IntKind.i64 m_Member, TV.int IntKind.u64 m_Body, TV.slice m_Bits, TV.bytes (16 : Nat) m_Tag], TV.str key]) h R :=
 vcFn_sound (C := ctx) ctx_ok (fn := Try.f8) Try.func8 ((by kernel_rfl : tollerlaw08_SealKeys_vc c_Validators c_Epoch c_Committee c_Nodes c_Orphans c_Early c_Quota c_Peers c_Bytes c_Window c_Ban c_Decay m_Kind m_Slot m_Target m_Member m_Body m_Bits m_Tag key h R = vcFn ctx Try.f8 [TV.agg [TV.slice c_Validators, TV.int IntKind.i64 c_Epoch, TV.int IntKind.i64 c_Committee, TV.int IntKind.i64 c_Nodes, TV.int IntKind.i64 c_Orphans, TV.int IntKind.i64 c_Early, TV.int IntKind.i64 c_Quota, TV.int IntKind.i64 c_Peers, TV.int IntKind.i64 c_Bytes, TV.int IntKind.i64 c_Window, TV.int IntKind.i64 c_Ban, TV.int IntKind.i64 c_Decay], TV.agg [TV.int IntKind.i64 m_Kind, TV.int IntKind.i64 m_Slot, TV.bytes (32 : Nat) m_Target, TV.int IntKind.i64 m_Member, TV.int IntKind.u64 m_Body, TV.slice m_Bits, TV.bytes (16 : Nat) m_Tag], TV.str key] h R) ▸ H)


end Go.Proofs.Ytgdhddignbkloaa
end

section
/- SealKeys. -/
namespace Go.Proofs.Ytgdhddignbkloaa.Board
open Go Go.Vc
section
variable {R : Value → Heap → Prop} {h : Heap} {c : Cf}

theorem bytes59 : (ctx.ti 59).bytes = 24 := by kernel_rfl
theorem size59 : (ctx.ti 59).size = 2 := by kernel_rfl
theorem zsize59 : (ctx.ti 59).z.size = 2 := by kernel_rfl

/-- A tag hangs on the keys of who speaks alone. -/
theorem tagF_keys {n : Nat} {com : Int} {L L' : List Vd} {m : Ms} {row : List Bool} (hk : ∀ x ∈ (speakF n com m row).1, keyAt L' x = keyAt L x) : tagF n com L' m row = tagF n com L m row := by
  unfold tagF
  have : (speakF n com m row).1.map (tag1 L' m row) = (speakF n com m row).1.map (tag1 L m row) := List.map_congr_left fun x hx => by
    unfold tag1
    rw [hk x hx]
  rw [this]

theorem keyAt_set {L : List Vd} {i : Nat} {v : Vd} {x : Int} (h0 : 0 ≤ x) (hx : x ≠ (i : Int)) : keyAt (L.set i v) x = keyAt L x := by
  unfold keyAt
  rw [List.getD_eq_getElem?_getD, List.getD_eq_getElem?_getD, List.getElem?_set_ne (by omega)]

set_option maxHeartbeats 1000000 in
/-- THE KEYS OF OTHERS PLAY NO PART. -/
theorem sealKeys_spec {m : Ms} {key : List UInt8} (hc : ∃ L, Elems 2 h c.vals (vds L)) (hm : (∃ row, Elems 1 h m.bits (bools row)) ∧ BodyOk m) (hr : ∀ h', Ext h h' → R (TV.bool true).val h') : CallsH Try.prog 8 (TVs.vals [c.tv, m.tv, .str key]) h R := by
  obtain ⟨L, e⟩ := hc
  obtain ⟨⟨row, em⟩, hbo⟩ := hm
  apply tollerlaw08_SealKeys_calls c.vals c.ep c.com c.no c.orp c.ear c.quo c.pe c.by_ c.win c.ban c.dec m.kind m.slot m.target m.member m.body m.bits m.tag
  unfold tollerlaw08_SealKeys_vc
  refine newTV_in fun h1 v1 x1 s1 => newTV_in fun h2 v2 x2 s2 => ?_
  have v1 : Var 24 h2 h.size c.tv := Var.ext (t := c.tv) v1 x2
  have v2 : Var 32 h2 h1.size m.tv := v2
  have x02 := x1.trans x2
  refine alive_spec fun h3 x3 => ⟨_, rfl, If.no ?_⟩
  have x03 := x02.trans x3
  have v13 := v1.ext x3
  have v23 := v2.ext x3
  intro J HJ
  refine cf_at v13 (ms_at v23 (great8_spec (e.ext x03) (em.ext x03) (fun h4 x4 => ⟨_, rfl, If.yes (hr h4 (x03.trans x4))⟩) fun h4 x4 hf h200 => ⟨_, rfl, If.no ?_⟩))
  have x04 := x03.trans x4
  have hlen := hf.fine.len
  have hv : c.vals.len < 900 := by omega
  have hk := keys64 hf.keys
  have v14 := v13.ext x4
  have v24 := v23.ext x4
  have lL : L.length = c.vals.len := by have := e.len; rwa [List.length_map] at this
  refine If.dec.2 ⟨fun _ => hr h4 x04, fun k1 => If.dec.2 ⟨fun _ => hr h4 x04, fun k2 => HJ _ _ ?_⟩⟩
  clear HJ J
  refine cf_at v14 (newTV_in fun h5 v5 x5 s5 => put_n (t0 := zeroC.tv) v5 (t := c.tv) cfsz1 cfsz fun h6 v6 f6 s6 => ?_)
  have x46 : Ext h4 h6 := Only.cut x5 f6 fun i hi => by omega
  have x06 := x04.trans x46
  have xp := Ext.push h6 (Vc.row (TVs.cells []) 59)
  refine ⟨c.vals, ((v14.ext x46).ext xp).at.1, ?_⟩
  refine appendN (C := ctx) (T := 59) (sz := 2) size59 zsize59 (by rw [bytes59]; decide) (by decide) (by rw [bytes59]; show (0 + c.vals.len) * 24 ≤ _; omega) (Own.new (T := 59) (sz := 2) h6 [] (fun t ht => by cases ht)) ((e.ext x06).ext xp)
    (fun u hu => by obtain ⟨b, _, rfl⟩ := List.mem_map.1 hu; exact Vd.size b) (fun u hu => by obtain ⟨b, _, rfl⟩ := List.mem_map.1 hu; rfl) fun s7 h7 o7 hl7 f7 b7 => ?_
  have hz6 : (h6.push (Vc.row (TVs.cells []) 59)).size = h6.size + 1 := Array.size_push ..
  have loc7 : ∀ l, s7.a = some l → h6.size ≤ l.b := fun l hl => by
    rcases b7 l hl with ⟨l', h1', h2'⟩ | h1'
    · obtain rfl := Option.some.inj h1'
      rw [← h2']
      exact Nat.le_refl _
    · omega
  have x67 : Ext h6 h7 := Only.cut xp f7 fun i ⟨l, hl, hi⟩ => by
    obtain rfl := Option.some.inj hl
    rw [← hi]
    exact Nat.le_refl _
  refine field_in (i := 0) (t := .slice s7) (t0 := .slice c.vals) (v6.ext x67) rfl rfl rfl rfl fun h8 v8 f8 s8 => ?_
  have v8 : Var 24 h8 h4.size ({ c with vals := s7 } : Cf).tv := v8
  have z46 := x46.size
  have o8 : Own 59 2 h8 s7 (vds L) := o7.only f8 fun l hl => by have := loc7 l hl; omega
  have x48 : Ext h4 h8 := Only.cut (x46.trans x67) f8 fun i hi => by omega
  have x08 := x04.trans x48
  have l7 : s7.len = c.vals.len := by have := o8.len; rw [List.length_map] at this; omega
  refine cf_at (v14.ext x48) (ms_at (v24.ext x48) (docspeak_spec hf.fine (em.ext x08) (by omega) fun h9 s9 e9 x9 l9 => ⟨_, _, rfl, s7, (v8.ext x9).at.1, ?_⟩))
  have x49 := x48.trans x9
  have x09 := x08.trans x9
  have hsl := speak_len (n := c.vals.len) (com := c.com) (m := m) (row := row)
  have hmem : ∀ x ∈ (speakF c.vals.len c.com m row).1, 0 ≤ x := fun x hx => (mem_range (speak_mem hx)).1
  have htag : ∀ L', (∀ x ∈ (speakF c.vals.len c.com m row).1, keyAt L' x = keyAt L x) → tagF c.vals.len c.com L' m row = tagF c.vals.len c.com L m row := fun L' => tagF_keys
  generalize hwho : (speakF c.vals.len c.com m row).1 = who at e9 hsl hmem htag
  have el := ints_len e9
  have in7 : ∀ l, s9.a = some l → ¬ In s7 l.b := fun l hl ⟨l', hl', hb⟩ => by
    have h1' := l9 l hl
    have h2' := o8.lt l' hl'
    omega
  refine ⟨fun σ hh => 0 ≤ σ ∧ σ ≤ s7.len ∧ Only (In s7) h9 hh ∧ ∃ L', Own 59 2 hh s7 (vds L') ∧ L'.length = L.length ∧ (∀ x ∈ who, keyAt L' x = keyAt L x) ∧ (∀ v ∈ L', v.key.length ≤ 64), fun σ _ => ((s7.len : Int) - σ).toNat,
    ⟨Int.le_refl 0, Int.natCast_nonneg _, Only.refl _ _, L, o8.ext x9, rfl, fun _ _ => rfl, hk⟩, ?_⟩
  rintro i hh ⟨i0, i1, f10, L', o10, lL', hk', h64'⟩
  have ext4 : ∀ hh, Only (In s7) h9 hh → Ext h4 hh := fun hh f => Only.cut x49 f fun j ⟨l, hl, hj⟩ => by have := loc7 l hl; omega
  refine If.dec.2 ⟨fun hi => ?_, fun hi => ?_⟩
  · refine ⟨fun σ hh' => 0 ≤ σ.2 ∧ σ.2 ≤ s9.len ∧ hh = hh' ∧ (σ.1 = false → i ∉ who.take σ.2.toNat), fun σ _ => ((s9.len : Int) - σ.2).toNat, ⟨Int.le_refl 0, by first | omega | (dsimp only; omega), rfl, fun _ => by simp⟩, ?_⟩
    rintro ⟨b, j⟩ hh' ⟨j0, j1, rfl, hb⟩
    dsimp only at j0 j1 hb ⊢
    refine If.dec.2 ⟨fun hj => ?_, fun hj => ?_⟩
    · refine read_int (e9.only f10 in7) j0 (by omega) fun x hx => ?_
      rw [wrap_i64 (n := j + 1) (by omega) (by omega)]
      have hj1 : (j + 1).toNat = j.toNat + 1 := by omega
      refine If.split (fun hb1 => ?_) fun hb1 => ?_
      · exact ⟨⟨by first | omega | (dsimp only; omega), by first | omega | (dsimp only; omega), rfl, fun hn => by cases hn⟩, by first | omega | (dsimp only; omega)⟩
      · refine ⟨⟨by first | omega | (dsimp only; omega), by first | omega | (dsimp only; omega), rfl, fun hn => ?_⟩, by first | omega | (dsimp only; omega)⟩
        try dsimp only at hn
        try dsimp only
        rw [hj1, take_snoc hx]
        intro hm'
        rcases List.mem_append.1 hm' with h1' | h1'
        · exact hb (by simpa using hb1) h1'
        · exact of_decide_eq_false hn (List.mem_singleton.1 h1').symm
    · have hall : who.take j.toNat = who := List.take_of_length_le (by omega)
      rw [hall] at hb
      have fin : ∀ hh'', Only (In s7) h9 hh'' → (∃ L', Own 59 2 hh'' s7 (vds L') ∧ L'.length = L.length ∧ (∀ x ∈ who, keyAt L' x = keyAt L x) ∧ (∀ v ∈ L', v.key.length ≤ 64)) →
          (0 ≤ IntKind.wrap .i64 (i + 1) ∧ IntKind.wrap .i64 (i + 1) ≤ s7.len ∧ Only (In s7) h9 hh'' ∧ ∃ L', Own 59 2 hh'' s7 (vds L') ∧ L'.length = L.length ∧ (∀ x ∈ who, keyAt L' x = keyAt L x) ∧ (∀ v ∈ L', v.key.length ≤ 64)) ∧ ((s7.len : Int) - IntKind.wrap .i64 (i + 1)).toNat < ((s7.len : Int) - i).toNat := by
        intro hh'' f'' ho
        rw [wrap_i64 (n := i + 1) (by omega) (by omega)]
        exact ⟨⟨by omega, by omega, f'', ho⟩, by omega⟩
      refine If.split (fun hb1 => ?_) fun hb1 => fin hh f10 ⟨L', o10, lL', hk', h64'⟩
      have hni : i ∉ who := hb (by simpa using hb1)
      refine ⟨s7, (v8.ext x9 |>.only f10 fun ⟨l, hl, hb'⟩ => by have := loc7 l hl; omega).at.1, ?_⟩
      obtain ⟨v, hvv⟩ : ∃ v, L'[i.toNat]? = some v := ⟨_, List.getElem?_eq_getElem (by omega)⟩
      refine Own.field_in (t0 := v.tv) (t := Vd.tv ⟨v.stake, key⟩) o10 i0 (by rw [List.getElem?_map, hvv]; rfl) rfl (by decide) rfl fun h11 o11 f11 s11 => fin h11 (f10.trans f11) ⟨L'.set i.toNat ⟨v.stake, key⟩, ?_, ?_, fun x hx => ?_, fun w hw => ?_⟩
      · have : vds (L'.set i.toNat ⟨v.stake, key⟩) = (vds L').set i.toNat (Vd.tv ⟨v.stake, key⟩) := List.map_set
        rw [this]
        exact o11
      · rw [List.length_set, lL']
      · rw [keyAt_set (hmem x hx) (fun he => hni (by rw [Int.toNat_of_nonneg i0] at he; rw [← he]; exact hx)), hk' x hx]
      · rcases List.mem_or_eq_of_mem_set hw with h1' | h1'
        · exact h64' w h1'
        · rw [h1']
          show key.length ≤ 64
          omega
  have x410 := ext4 hh f10
  have x010 := x04.trans x410
  have vd10 : Var 24 hh h4.size ({ c with vals := s7 } : Cf).tv := (v8.ext x9).only f10 fun ⟨l, hl, hb'⟩ => by have := loc7 l hl; omega
  refine cf_at (v14.ext x410) (ms_at (v24.ext x410) (tag_spec hv (e.ext x010) hk (em.ext x010) (by omega) fun h11 x11 => ⟨_, _, rfl, ?_⟩))
  refine newTV_in fun h12 v12 x12 s12 => put_n v12 (t := .bytes 16 (tagF c.vals.len c.com L m row).1) rfl rfl fun h13 v13 f13 s13 => ?_
  have x1113 : Ext h11 h13 := Only.cut x12 f13 fun i hi => by omega
  have x1013 := x11.trans x1113
  have x013 := x010.trans x1013
  have x413 := x410.trans x1013
  refine cf_at (c := { c with vals := s7 }) (vd10.ext x1013) (ms_at (v24.ext x413) (tag_spec (c := { c with vals := s7 }) (L := L') (by show s7.len < 900; omega) (o10.elems.ext x1013) h64' (em.ext x013) (by omega) fun h14 x14 => ⟨_, _, rfl, ?_⟩))
  have ht : tagF s7.len c.com L' m row = tagF c.vals.len c.com L m row := by rw [l7]; exact htag L' hk'
  show Bind _ _
  dsimp only
  rw [ht]
  refine newTV_in fun h15 v15 x15 s15 => put_n v15 (t := .bytes 16 (tagF c.vals.len c.com L m row).1) rfl rfl fun h16 v16 f16 s16 => ?_
  have x1416 : Ext h14 h16 := Only.cut x15 f16 fun i hi => by omega
  have x1316 := x14.trans x1416
  refine ⟨_, (v13.ext x1316).bytes, _, v16.bytes, If.dec.2 ⟨fun _ => If.same ?_, fun hx => absurd rfl hx⟩⟩
  rw [speak_tag_ok]
  have : ((speakF c.vals.len c.com m row).2 == (speakF c.vals.len c.com m row).2) = true := by simp
  rw [this]
  exact hr h16 (x013.trans x1316)

end
end Go.Proofs.Ytgdhddignbkloaa.Board
end

section
/- The conditions of functions, as the generator reckons them out, each with the proof that it is that. -/
namespace Go.Proofs.Ytgdhddignbkloaa
open Go Go.Vc
set_option maxRecDepth 100000
set_option linter.unusedVariables false

def tollerlaw08_SealAlone_vc (c_Validators : Sl) (c_Epoch : Int) (c_Committee : Int) (c_Nodes : Int) (c_Orphans : Int) (c_Early : Int) (c_Quota : Int) (c_Peers : Int) (c_Bytes : Int) (c_Window : Int) (c_Ban : Int) (c_Decay : Int) (slot : Int) (target : Bs (32 : Nat)) (at_ : Int) (h : Heap) (R : Value → Heap → Prop) : Prop :=
 Vc.Bind
 (newTV h
 (TV.agg
 [TV.slice c_Validators, TV.int IntKind.i64 c_Epoch, TV.int IntKind.i64 c_Committee, TV.int IntKind.i64 c_Nodes, TV.int IntKind.i64 c_Orphans,
 TV.int IntKind.i64 c_Early, TV.int IntKind.i64 c_Quota, TV.int IntKind.i64 c_Peers, TV.int IntKind.i64 c_Bytes, TV.int IntKind.i64 c_Window,
 TV.int IntKind.i64 c_Ban, TV.int IntKind.i64 c_Decay])
 (24 : Nat))
 fun (h_1 : Array Obj) ↦
 Vc.Bind (newTV h_1 (TV.bytes (32 : Nat) target) (26 : Nat)) fun (h_2 : Array Obj) ↦
 CallsH Try.prog (9 : Nat) (TVs.vals []) h_2 fun (v : Value) (h_3 : Array Obj) ↦
 ∃ (b : Bool),
 v = TV.val (TV.bool b) ∧
 If (!b) (R (TV.val (TV.bool false)) h_3)
 (Join
 (fun (s : Bool × Bool) (h_4 : Array Obj) ↦
 ∃ (s_1 : Sl),
 ∃ (n : Int),
 ∃ (n_1 : Int),
 ∃ (n_2 : Int),
 ∃ (n_3 : Int),
 ∃ (n_4 : Int),
 ∃ (n_5 : Int),
 ∃ (n_6 : Int),
 ∃ (n_7 : Int),
 ∃ (n_8 : Int),
 ∃ (n_9 : Int),
 ∃ (n_10 : Int),
 (at1 h_4 (Array.size h) (0 : Nat) (slVal s_1) ∧
 at1 h_4 (Array.size h) (1 : Nat) (Value.int IntKind.i64 n) ∧
 at1 h_4 (Array.size h) (2 : Nat) (Value.int IntKind.i64 n_1) ∧
 at1 h_4 (Array.size h) (3 : Nat) (Value.int IntKind.i64 n_2) ∧
 at1 h_4 (Array.size h) (4 : Nat) (Value.int IntKind.i64 n_3) ∧
 at1 h_4 (Array.size h) (5 : Nat) (Value.int IntKind.i64 n_4) ∧
 at1 h_4 (Array.size h) (6 : Nat) (Value.int IntKind.i64 n_5) ∧
 at1 h_4 (Array.size h) (7 : Nat) (Value.int IntKind.i64 n_6) ∧
 at1 h_4 (Array.size h) (8 : Nat) (Value.int IntKind.i64 n_7) ∧
 at1 h_4 (Array.size h) (9 : Nat) (Value.int IntKind.i64 n_8) ∧
 at1 h_4 (Array.size h) (10 : Nat) (Value.int IntKind.i64 n_9) ∧
 at1 h_4 (Array.size h) (11 : Nat) (Value.int IntKind.i64 n_10)) ∧
 CallsH Try.prog (26 : Nat)
 (TVs.vals
 [TV.agg
 [TV.slice s_1, TV.int IntKind.i64 n, TV.int IntKind.i64 n_1, TV.int IntKind.i64 n_2, TV.int IntKind.i64 n_3,
 TV.int IntKind.i64 n_4, TV.int IntKind.i64 n_5, TV.int IntKind.i64 n_6, TV.int IntKind.i64 n_7,
 TV.int IntKind.i64 n_8, TV.int IntKind.i64 n_9, TV.int IntKind.i64 n_10],
 TV.int IntKind.i64 slot])
 h_4 fun (v : Value) (h_5 : Array Obj) ↦
 ∃ (s_2 : Sl),
 v = TV.val (TV.slice s_2) ∧
 If (decide ((↑s_2.len : Int) = (0 : Int))) (R (TV.val (TV.bool false)) h_5)
 (IntKind.wrap IntKind.u64 (↑s_2.len : Int) ≠ (0 : Int) ∧
 (0 : Int) ≤ (↑s_2.len : Int) ∧
 (↑s_2.len : Int) ≤ (↑s_2.len : Int) ∧
 (↑(1 : Nat) : Int) * (↑s_2.len : Int) ≤ (281474976710656 : Int) ∧
 (↑s_2.len : Int) < (9223372036854775808 : Int) ∧
 (0 : Int) ≤
 IntKind.wrap IntKind.i64
 (Int.tmod (IntKind.wrap IntKind.u64 at_) (IntKind.wrap IntKind.u64 (↑s_2.len : Int))) ∧
 IntKind.wrap IntKind.i64
 (Int.tmod (IntKind.wrap IntKind.u64 at_) (IntKind.wrap IntKind.u64 (↑s_2.len : Int))) <
 (↑(Int.toNat (↑s_2.len : Int)) : Int) ∧
 wok (Array.push h_5 (row (zeros (TV.bool false) (Int.toNat (↑s_2.len : Int))) (4 : Nat)))
 (Array.size h_5)
 ((0 : Nat) +
 Int.toNat
 (IntKind.wrap IntKind.i64
 (Int.tmod (IntKind.wrap IntKind.u64 at_)
 (IntKind.wrap IntKind.u64 (↑s_2.len : Int)))) *
 (1 : Nat))
 (1 : Nat) ∧
 Vc.Bind
 (TV.put
 (Array.push h_5 (row (zeros (TV.bool false) (Int.toNat (↑s_2.len : Int))) (4 : Nat)))
 (Array.size h_5)
 ((0 : Nat) +
 Int.toNat
 (IntKind.wrap IntKind.i64
 (Int.tmod (IntKind.wrap IntKind.u64 at_)
 (IntKind.wrap IntKind.u64 (↑s_2.len : Int)))) *
 (1 : Nat))
 (TV.bool true))
 fun (h_6 : Array Obj) ↦
 ∃ (s_3 : Sl),
 ∃ (n_11 : Int),
 ∃ (n_12 : Int),
 ∃ (n_13 : Int),
 ∃ (n_14 : Int),
 ∃ (n_15 : Int),
 ∃ (n_16 : Int),
 ∃ (n_17 : Int),
 ∃ (n_18 : Int),
 ∃ (n_19 : Int),
 ∃ (n_20 : Int),
 ∃ (n_21 : Int),
 (at1 h_6 (Array.size h) (0 : Nat) (slVal s_3) ∧
 at1 h_6 (Array.size h) (1 : Nat) (Value.int IntKind.i64 n_11) ∧
 at1 h_6 (Array.size h) (2 : Nat)
 (Value.int IntKind.i64 n_12) ∧
 at1 h_6 (Array.size h) (3 : Nat)
 (Value.int IntKind.i64 n_13) ∧
 at1 h_6 (Array.size h) (4 : Nat)
 (Value.int IntKind.i64 n_14) ∧
 at1 h_6 (Array.size h) (5 : Nat)
 (Value.int IntKind.i64 n_15) ∧
 at1 h_6 (Array.size h) (6 : Nat)
 (Value.int IntKind.i64 n_16) ∧
 at1 h_6 (Array.size h) (7 : Nat)
 (Value.int IntKind.i64 n_17) ∧
 at1 h_6 (Array.size h) (8 : Nat)
 (Value.int IntKind.i64 n_18) ∧
 at1 h_6 (Array.size h) (9 : Nat)
 (Value.int IntKind.i64 n_19) ∧
 at1 h_6 (Array.size h) (10 : Nat)
 (Value.int IntKind.i64 n_20) ∧
 at1 h_6 (Array.size h) (11 : Nat)
 (Value.int IntKind.i64 n_21)) ∧
 ∃ (b_1 : Bs (32 : Nat)),
 atBytes h_6 (Array.size h_1) (0 : Nat) (32 : Nat) b_1 ∧
 CallsH Try.prog (22 : Nat)
 (TVs.vals
 [TV.agg
 [TV.slice s_3, TV.int IntKind.i64 n_11,
 TV.int IntKind.i64 n_12, TV.int IntKind.i64 n_13,
 TV.int IntKind.i64 n_14, TV.int IntKind.i64 n_15,
 TV.int IntKind.i64 n_16, TV.int IntKind.i64 n_17,
 TV.int IntKind.i64 n_18, TV.int IntKind.i64 n_19,
 TV.int IntKind.i64 n_20, TV.int IntKind.i64 n_21],
 TV.agg
 [TV.int IntKind.i64 (3 : Int),
 TV.int IntKind.i64 slot, TV.bytes (32 : Nat) b_1,
 TV.int IntKind.i64 (0 : Int),
 TV.int IntKind.u64 (0 : Int),
 TV.slice
 (Sl.mk (some (Loc.mk (Array.size h_5) (0 : Nat)))
 (Int.toNat (↑s_2.len : Int))
 (Int.toNat (↑s_2.len : Int))),
 TV.bytes (16 : Nat) (Bs.zero (16 : Nat))]])
 h_6 fun (v : Value) (h_7 : Array Obj) ↦
 ∃ (n_22 : Int),
 ∃ (n_23 : Int),
 ∃ (b_2 : Bs (32 : Nat)),
 ∃ (n_24 : Int),
 ∃ (n_25 : Int),
 ∃ (s_4 : Sl),
 ∃ (b_3 : Bs (16 : Nat)),
 ∃ (b_4 : Bool),
 v =
 TV.val
 (TV.tup
 [TV.agg
 [TV.int IntKind.i64 n_22,
 TV.int IntKind.i64 n_23,
 TV.bytes (32 : Nat) b_2,
 TV.int IntKind.i64 n_24,
 TV.int IntKind.u64 n_25,
 TV.slice s_4,
 TV.bytes (16 : Nat) b_3],
 TV.bool b_4]) ∧
 Vc.Bind
 (newTV h_7
 (TV.agg
 [TV.int IntKind.i64 (0 : Int),
 TV.int IntKind.i64 (0 : Int),
 TV.bytes (32 : Nat)
 (Bs.zero (32 : Nat)),
 TV.int IntKind.i64 (0 : Int),
 TV.int IntKind.u64 (0 : Int),
 TV.slice Sl.nil,
 TV.bytes (16 : Nat)
 (Bs.zero (16 : Nat))])
 (32 : Nat))
 fun (h_8 : Array Obj) ↦
 wok h_8 (Array.size h_7) (0 : Nat)
 (53 : Nat) ∧
 Vc.Bind
 (TV.put h_8 (Array.size h_7)
 (0 : Nat)
 (TV.agg
 [TV.int IntKind.i64 n_22,
 TV.int IntKind.i64 n_23,
 TV.bytes (32 : Nat) b_2,
 TV.int IntKind.i64 n_24,
 TV.int IntKind.u64 n_25,
 TV.slice s_4,
 TV.bytes (16 : Nat) b_3]))
 fun (h_9 : Array Obj) ↦
 Join
 (fun
 (s_5 :
 Int ×
 Bs (32 : Nat) ×
 Sl ×
 Int ×
 Int ×
 Bool ×
 Option Go.Vc.Loc ×
 Bool)
 (h_10 : Array Obj) ↦
 If b_4
 (If
 s_5.snd.snd.snd.snd.snd.snd.snd
 (∃ (b_5 : Bs (16 : Nat)),
 atBytes h_10
 (Array.size h_7)
 (37 : Nat) (16 : Nat)
 b_5 ∧
 Nn
 s_5.snd.snd.snd.snd.snd.snd.fst
 fun (l : Go.Vc.Loc) ↦
 ∃ (b_6 :
 Bs (16 : Nat)),
 atBytes h_10 l.b
 (l.o +
 (37 : Nat))
 (16 : Nat) b_6 ∧
 If
 (decide
 (b_5.l =
 b_6.l))
 (∃ (s_6 : Sl),
 ∃ (n_26 :
 Int),
 ∃ (n_27 :
 Int),
 ∃ (n_28 :
 Int),
 ∃ (n_29
 :
 Int),
 ∃
 (n_30
 :
 Int),
 ∃
 (n_31
 :
 Int),
 ∃
 (n_32
 :
 Int),
 ∃
 (n_33
 :
 Int),
 ∃
 (n_34
 :
 Int),
 ∃
 (n_35
 :
 Int),
 ∃
 (n_36
 :
 Int),
 (at1
 h_10
 (Array.size
 h)
 (0 :
 Nat)
 (slVal
 s_6) ∧
 at1
 h_10
 (Array.size
 h)
 (1 :
 Nat)
 (Value.int
 IntKind.i64
 n_26) ∧
 at1
 h_10
 (Array.size
 h)
 (2 :
 Nat)
 (Value.int
 IntKind.i64
 n_27) ∧
 at1
 h_10
 (Array.size
 h)
 (3 :
 Nat)
 (Value.int
 IntKind.i64
 n_28) ∧
 at1
 h_10
 (Array.size
 h)
 (4 :
 Nat)
 (Value.int
 IntKind.i64
 n_29) ∧
 at1
 h_10
 (Array.size
 h)
 (5 :
 Nat)
 (Value.int
 IntKind.i64
 n_30) ∧
 at1
 h_10
 (Array.size
 h)
 (6 :
 Nat)
 (Value.int
 IntKind.i64
 n_31) ∧
 at1
 h_10
 (Array.size
 h)
 (7 :
 Nat)
 (Value.int
 IntKind.i64
 n_32) ∧
 at1
 h_10
 (Array.size
 h)
 (8 :
 Nat)
 (Value.int
 IntKind.i64
 n_33) ∧
 at1
 h_10
 (Array.size
 h)
 (9 :
 Nat)
 (Value.int
 IntKind.i64
 n_34) ∧
 at1
 h_10
 (Array.size
 h)
 (10 :
 Nat)
 (Value.int
 IntKind.i64
 n_35) ∧
 at1
 h_10
 (Array.size
 h)
 (11 :
 Nat)
 (Value.int
 IntKind.i64
 n_36)) ∧
 ∃
 (n_37
 :
 Int),
 ∃
 (n_38
 :
 Int),
 ∃
 (b_7
 :
 Bs
 (32 :
 Nat)),
 ∃
 (n_39
 :
 Int),
 ∃
 (n_40
 :
 Int),
 ∃
 (s_7
 :
 Sl),
 ∃
 (b_8
 :
 Bs
 (16 :
 Nat)),
 (at1
 h_10
 (Array.size
 h_7)
 (0 :
 Nat)
 (Value.int
 IntKind.i64
 n_37) ∧
 at1
 h_10
 (Array.size
 h_7)
 (1 :
 Nat)
 (Value.int
 IntKind.i64
 n_38) ∧
 atBytes
 h_10
 (Array.size
 h_7)
 (2 :
 Nat)
 (32 :
 Nat)
 b_7 ∧
 at1
 h_10
 (Array.size
 h_7)
 (34 :
 Nat)
 (Value.int
 IntKind.i64
 n_39) ∧
 at1
 h_10
 (Array.size
 h_7)
 (35 :
 Nat)
 (Value.int
 IntKind.u64
 n_40) ∧
 at1
 h_10
 (Array.size
 h_7)
 (36 :
 Nat)
 (slVal
 s_7) ∧
 atBytes
 h_10
 (Array.size
 h_7)
 (37 :
 Nat)
 (16 :
 Nat)
 b_8) ∧
 ∃
 (s_8
 :
 Sl),
 ∃
 (n_41
 :
 Int),
 ∃
 (n_42
 :
 Int),
 ∃
 (n_43
 :
 Int),
 ∃
 (n_44
 :
 Int),
 ∃
 (n_45
 :
 Int),
 ∃
 (n_46
 :
 Int),
 ∃
 (n_47
 :
 Int),
 ∃
 (n_48
 :
 Int),
 ∃
 (n_49
 :
 Int),
 ∃
 (n_50
 :
 Int),
 ∃
 (n_51
 :
 Int),
 (at1
 h_10
 (Array.size
 h)
 (0 :
 Nat)
 (slVal
 s_8) ∧
 at1
 h_10
 (Array.size
 h)
 (1 :
 Nat)
 (Value.int
 IntKind.i64
 n_41) ∧
 at1
 h_10
 (Array.size
 h)
 (2 :
 Nat)
 (Value.int
 IntKind.i64
 n_42) ∧
 at1
 h_10
 (Array.size
 h)
 (3 :
 Nat)
 (Value.int
 IntKind.i64
 n_43) ∧
 at1
 h_10
 (Array.size
 h)
 (4 :
 Nat)
 (Value.int
 IntKind.i64
 n_44) ∧
 at1
 h_10
 (Array.size
 h)
 (5 :
 Nat)
 (Value.int
 IntKind.i64
 n_45) ∧
 at1
 h_10
 (Array.size
 h)
 (6 :
 Nat)
 (Value.int
 IntKind.i64
 n_46) ∧
 at1
 h_10
 (Array.size
 h)
 (7 :
 Nat)
 (Value.int
 IntKind.i64
 n_47) ∧
 at1
 h_10
 (Array.size
 h)
 (8 :
 Nat)
 (Value.int
 IntKind.i64
 n_48) ∧
 at1
 h_10
 (Array.size
 h)
 (9 :
 Nat)
 (Value.int
 IntKind.i64
 n_49) ∧
 at1
 h_10
 (Array.size
 h)
 (10 :
 Nat)
 (Value.int
 IntKind.i64
 n_50) ∧
 at1
 h_10
 (Array.size
 h)
 (11 :
 Nat)
 (Value.int
 IntKind.i64
 n_51)) ∧
 Nn
 s_5.snd.snd.snd.snd.snd.snd.fst
 fun
 (l :
 Go.Vc.Loc) ↦
 ∃
 (n
 :
 Int),
 ∃
 (n_52
 :
 Int),
 ∃
 (b
 :
 Bs
 (32 :
 Nat)),
 ∃
 (n_53
 :
 Int),
 ∃
 (n_54
 :
 Int),
 ∃
 (s
 :
 Sl),
 ∃
 (b_9
 :
 Bs
 (16 :
 Nat)),
 (at1
 h_10
 l.b
 l.o
 (Value.int
 IntKind.i64
 n) ∧
 at1
 h_10
 l.b
 (l.o +
 (1 :
 Nat))
 (Value.int
 IntKind.i64
 n_52) ∧
 atBytes
 h_10
 l.b
 (l.o +
 (1 :
 Nat) +
 (1 :
 Nat))
 (32 :
 Nat)
 b ∧
 at1
 h_10
 l.b
 (l.o +
 (1 :
 Nat) +
 (1 :
 Nat) +
 (32 :
 Nat))
 (Value.int
 IntKind.i64
 n_53) ∧
 at1
 h_10
 l.b
 (l.o +
 (1 :
 Nat) +
 (1 :
 Nat) +
 (32 :
 Nat) +
 (1 :
 Nat))
 (Value.int
 IntKind.u64
 n_54) ∧
 at1
 h_10
 l.b
 (l.o +
 (1 :
 Nat) +
 (1 :
 Nat) +
 (32 :
 Nat) +
 (1 :
 Nat) +
 (1 :
 Nat))
 (slVal
 s) ∧
 atBytes
 h_10
 l.b
 (l.o +
 (1 :
 Nat) +
 (1 :
 Nat) +
 (32 :
 Nat) +
 (1 :
 Nat) +
 (1 :
 Nat) +
 (1 :
 Nat))
 (16 :
 Nat)
 b_9) ∧
 CallsH
 Try.prog
 (12 :
 Nat)
 (TVs.vals
 [TV.agg
 [TV.slice
 s_6,
 TV.int
 IntKind.i64
 n_26,
 TV.int
 IntKind.i64
 n_27,
 TV.int
 IntKind.i64
 n_28,
 TV.int
 IntKind.i64
 n_29,
 TV.int
 IntKind.i64
 n_30,
 TV.int
 IntKind.i64
 n_31,
 TV.int
 IntKind.i64
 n_32,
 TV.int
 IntKind.i64
 n_33,
 TV.int
 IntKind.i64
 n_34,
 TV.int
 IntKind.i64
 n_35,
 TV.int
 IntKind.i64
 n_36],
 TV.agg
 [TV.int
 IntKind.i64
 n_37,
 TV.int
 IntKind.i64
 n_38,
 TV.bytes
 (32 :
 Nat)
 b_7,
 TV.int
 IntKind.i64
 n_39,
 TV.int
 IntKind.u64
 n_40,
 TV.slice
 s_7,
 TV.bytes
 (16 :
 Nat)
 b_8]])
 h_10
 fun
 (v :
 Value)
 (h_11 :
 Array
 Obj) ↦
 ∃
 (s_9
 :
 Sl),
 v =
 TV.val
 (TV.slice
 s_9) ∧
 Ext
 h_10
 h_11 ∧
 CallsH
 Try.prog
 (12 :
 Nat)
 (TVs.vals
 [TV.agg
 [TV.slice
 s_8,
 TV.int
 IntKind.i64
 n_41,
 TV.int
 IntKind.i64
 n_42,
 TV.int
 IntKind.i64
 n_43,
 TV.int
 IntKind.i64
 n_44,
 TV.int
 IntKind.i64
 n_45,
 TV.int
 IntKind.i64
 n_46,
 TV.int
 IntKind.i64
 n_47,
 TV.int
 IntKind.i64
 n_48,
 TV.int
 IntKind.i64
 n_49,
 TV.int
 IntKind.i64
 n_50,
 TV.int
 IntKind.i64
 n_51],
 TV.agg
 [TV.int
 IntKind.i64
 n,
 TV.int
 IntKind.i64
 n_52,
 TV.bytes
 (32 :
 Nat)
 b,
 TV.int
 IntKind.i64
 n_53,
 TV.int
 IntKind.u64
 n_54,
 TV.slice
 s,
 TV.bytes
 (16 :
 Nat)
 b_9]])
 h_11
 fun
 (v :
 Value)
 (h_12 :
 Array
 Obj) ↦
 ∃
 (s
 :
 Sl),
 v =
 TV.val
 (TV.slice
 s) ∧
 CallsH
 Try.prog
 (16 :
 Nat)
 (TVs.vals
 [TV.slice
 s_9,
 TV.slice
 s])
 h_12
 fun
 (v :
 Value)
 (h_13 :
 Array
 Obj) ↦
 ∃
 (b
 :
 Bool),
 v =
 TV.val
 (TV.bool
 b) ∧
 If
 b
 (∃
 (s
 :
 Sl),
 ∃
 (n
 :
 Int),
 ∃
 (n_55
 :
 Int),
 ∃
 (n_56
 :
 Int),
 ∃
 (n_57
 :
 Int),
 ∃
 (n_58
 :
 Int),
 ∃
 (n_59
 :
 Int),
 ∃
 (n_60
 :
 Int),
 ∃
 (n_61
 :
 Int),
 ∃
 (n_62
 :
 Int),
 ∃
 (n_63
 :
 Int),
 ∃
 (n_64
 :
 Int),
 (at1
 h_13
 (Array.size
 h)
 (0 :
 Nat)
 (slVal
 s) ∧
 at1
 h_13
 (Array.size
 h)
 (1 :
 Nat)
 (Value.int
 IntKind.i64
 n) ∧
 at1
 h_13
 (Array.size
 h)
 (2 :
 Nat)
 (Value.int
 IntKind.i64
 n_55) ∧
 at1
 h_13
 (Array.size
 h)
 (3 :
 Nat)
 (Value.int
 IntKind.i64
 n_56) ∧
 at1
 h_13
 (Array.size
 h)
 (4 :
 Nat)
 (Value.int
 IntKind.i64
 n_57) ∧
 at1
 h_13
 (Array.size
 h)
 (5 :
 Nat)
 (Value.int
 IntKind.i64
 n_58) ∧
 at1
 h_13
 (Array.size
 h)
 (6 :
 Nat)
 (Value.int
 IntKind.i64
 n_59) ∧
 at1
 h_13
 (Array.size
 h)
 (7 :
 Nat)
 (Value.int
 IntKind.i64
 n_60) ∧
 at1
 h_13
 (Array.size
 h)
 (8 :
 Nat)
 (Value.int
 IntKind.i64
 n_61) ∧
 at1
 h_13
 (Array.size
 h)
 (9 :
 Nat)
 (Value.int
 IntKind.i64
 n_62) ∧
 at1
 h_13
 (Array.size
 h)
 (10 :
 Nat)
 (Value.int
 IntKind.i64
 n_63) ∧
 at1
 h_13
 (Array.size
 h)
 (11 :
 Nat)
 (Value.int
 IntKind.i64
 n_64)) ∧
 ∃
 (n_65
 :
 Int),
 ∃
 (n_66
 :
 Int),
 ∃
 (b
 :
 Bs
 (32 :
 Nat)),
 ∃
 (n_67
 :
 Int),
 ∃
 (n_68
 :
 Int),
 ∃
 (s_10
 :
 Sl),
 ∃
 (b_10
 :
 Bs
 (16 :
 Nat)),
 (at1
 h_13
 (Array.size
 h_7)
 (0 :
 Nat)
 (Value.int
 IntKind.i64
 n_65) ∧
 at1
 h_13
 (Array.size
 h_7)
 (1 :
 Nat)
 (Value.int
 IntKind.i64
 n_66) ∧
 atBytes
 h_13
 (Array.size
 h_7)
 (2 :
 Nat)
 (32 :
 Nat)
 b ∧
 at1
 h_13
 (Array.size
 h_7)
 (34 :
 Nat)
 (Value.int
 IntKind.i64
 n_67) ∧
 at1
 h_13
 (Array.size
 h_7)
 (35 :
 Nat)
 (Value.int
 IntKind.u64
 n_68) ∧
 at1
 h_13
 (Array.size
 h_7)
 (36 :
 Nat)
 (slVal
 s_10) ∧
 atBytes
 h_13
 (Array.size
 h_7)
 (37 :
 Nat)
 (16 :
 Nat)
 b_10) ∧
 CallsH
 Try.prog
 (12 :
 Nat)
 (TVs.vals
 [TV.agg
 [TV.slice
 s,
 TV.int
 IntKind.i64
 n,
 TV.int
 IntKind.i64
 n_55,
 TV.int
 IntKind.i64
 n_56,
 TV.int
 IntKind.i64
 n_57,
 TV.int
 IntKind.i64
 n_58,
 TV.int
 IntKind.i64
 n_59,
 TV.int
 IntKind.i64
 n_60,
 TV.int
 IntKind.i64
 n_61,
 TV.int
 IntKind.i64
 n_62,
 TV.int
 IntKind.i64
 n_63,
 TV.int
 IntKind.i64
 n_64],
 TV.agg
 [TV.int
 IntKind.i64
 n_65,
 TV.int
 IntKind.i64
 n_66,
 TV.bytes
 (32 :
 Nat)
 b,
 TV.int
 IntKind.i64
 n_67,
 TV.int
 IntKind.u64
 n_68,
 TV.slice
 s_10,
 TV.bytes
 (16 :
 Nat)
 b_10]])
 h_13
 fun
 (v :
 Value)
 (h :
 Array
 Obj) ↦
 ∃
 (s
 :
 Sl),
 v =
 TV.val
 (TV.slice
 s) ∧
 R
 (TV.val
 (TV.bool
 (decide
 ((↑s.len :
 Int) =
 (1 :
 Int)))))
 h)
 (R
 (TV.val
 (TV.bool
 false))
 h_13))
 (R
 (TV.val
 (TV.bool
 false))
 h_10))
 (R (TV.val (TV.bool false))
 h_10))
 (R (TV.val (TV.bool false))
 h_10))
 fun
 (J :
 Int ×
 Bs (32 : Nat) ×
 Sl ×
 Int ×
 Int ×
 Bool ×
 Option Go.Vc.Loc ×
 Bool →
 Array Obj → Prop) ↦
 ∃ (s : Sl),
 ∃ (n : Int),
 ∃ (n_26 : Int),
 ∃ (n_27 : Int),
 ∃ (n_28 : Int),
 ∃ (n_29 : Int),
 ∃ (n_30 : Int),
 ∃ (n_31 : Int),
 ∃ (n_32 : Int),
 ∃ (n_33 : Int),
 ∃ (n_34 :
 Int),
 ∃ (n_35 :
 Int),
 (at1 h_9
 (Array.size
 h)
 (0 :
 Nat)
 (slVal
 s) ∧
 at1
 h_9
 (Array.size
 h)
 (1 :
 Nat)
 (Value.int
 IntKind.i64
 n) ∧
 at1
 h_9
 (Array.size
 h)
 (2 :
 Nat)
 (Value.int
 IntKind.i64
 n_26) ∧
 at1
 h_9
 (Array.size
 h)
 (3 :
 Nat)
 (Value.int
 IntKind.i64
 n_27) ∧
 at1
 h_9
 (Array.size
 h)
 (4 :
 Nat)
 (Value.int
 IntKind.i64
 n_28) ∧
 at1
 h_9
 (Array.size
 h)
 (5 :
 Nat)
 (Value.int
 IntKind.i64
 n_29) ∧
 at1
 h_9
 (Array.size
 h)
 (6 :
 Nat)
 (Value.int
 IntKind.i64
 n_30) ∧
 at1
 h_9
 (Array.size
 h)
 (7 :
 Nat)
 (Value.int
 IntKind.i64
 n_31) ∧
 at1
 h_9
 (Array.size
 h)
 (8 :
 Nat)
 (Value.int
 IntKind.i64
 n_32) ∧
 at1
 h_9
 (Array.size
 h)
 (9 :
 Nat)
 (Value.int
 IntKind.i64
 n_33) ∧
 at1
 h_9
 (Array.size
 h)
 (10 :
 Nat)
 (Value.int
 IntKind.i64
 n_34) ∧
 at1
 h_9
 (Array.size
 h)
 (11 :
 Nat)
 (Value.int
 IntKind.i64
 n_35)) ∧
 ∃ (b :
 Bs
 (32 :
 Nat)),
 atBytes
 h_9
 (Array.size
 h_1)
 (0 :
 Nat)
 (32 :
 Nat)
 b ∧
 (0 :
 Int) ≤
 IntKind.wrap
 IntKind.i64
 (Int.tmod
 (IntKind.wrap
 IntKind.u64
 at_)
 (IntKind.wrap
 IntKind.u64
 (↑s_2.len :
 Int))) ∧
 IntKind.wrap
 IntKind.i64
 (Int.tmod
 (IntKind.wrap
 IntKind.u64
 at_)
 (IntKind.wrap
 IntKind.u64
 (↑s_2.len :
 Int))) <
 (↑s_2.len :
 Int) ∧
 Nn
 s_2.a
 fun
 (l :
 Go.Vc.Loc) ↦
 ∃
 (n_36
 :
 Int),
 at1
 h_9
 l.b
 (l.o +
 Int.toNat
 (IntKind.wrap
 IntKind.i64
 (Int.tmod
 (IntKind.wrap
 IntKind.u64
 at_)
 (IntKind.wrap
 IntKind.u64
 (↑s_2.len :
 Int)))) *
 (1 :
 Nat))
 (Value.int
 IntKind.i64
 n_36) ∧
 (CallsH
 Try.prog
 (22 :
 Nat)
 (TVs.vals
 [TV.agg
 [TV.slice
 s,
 TV.int
 IntKind.i64
 n,
 TV.int
 IntKind.i64
 n_26,
 TV.int
 IntKind.i64
 n_27,
 TV.int
 IntKind.i64
 n_28,
 TV.int
 IntKind.i64
 n_29,
 TV.int
 IntKind.i64
 n_30,
 TV.int
 IntKind.i64
 n_31,
 TV.int
 IntKind.i64
 n_32,
 TV.int
 IntKind.i64
 n_33,
 TV.int
 IntKind.i64
 n_34,
 TV.int
 IntKind.i64
 n_35],
 TV.agg
 [TV.int
 IntKind.i64
 (2 :
 Int),
 TV.int
 IntKind.i64
 slot,
 TV.bytes
 (32 :
 Nat)
 b,
 TV.int
 IntKind.i64
 n_36,
 TV.int
 IntKind.u64
 (0 :
 Int),
 TV.slice
 Sl.nil,
 TV.bytes
 (16 :
 Nat)
 (Bs.zero
 (16 :
 Nat))]])
 h_9
 fun
 (v :
 Value)
 (h :
 Array
 Obj) ↦
 ∃
 (n
 :
 Int),
 ∃
 (n_37
 :
 Int),
 ∃
 (b_5
 :
 Bs
 (32 :
 Nat)),
 ∃
 (n_38
 :
 Int),
 ∃
 (n_39
 :
 Int),
 ∃
 (s
 :
 Sl),
 ∃
 (b_6
 :
 Bs
 (16 :
 Nat)),
 ∃
 (b_7
 :
 Bool),
 v =
 TV.val
 (TV.tup
 [TV.agg
 [TV.int
 IntKind.i64
 n,
 TV.int
 IntKind.i64
 n_37,
 TV.bytes
 (32 :
 Nat)
 b_5,
 TV.int
 IntKind.i64
 n_38,
 TV.int
 IntKind.u64
 n_39,
 TV.slice
 s,
 TV.bytes
 (16 :
 Nat)
 b_6],
 TV.bool
 b_7]) ∧
 Vc.Bind
 (newTV
 h
 (TV.agg
 [TV.int
 IntKind.i64
 (0 :
 Int),
 TV.int
 IntKind.i64
 (0 :
 Int),
 TV.bytes
 (32 :
 Nat)
 (Bs.zero
 (32 :
 Nat)),
 TV.int
 IntKind.i64
 (0 :
 Int),
 TV.int
 IntKind.u64
 (0 :
 Int),
 TV.slice
 Sl.nil,
 TV.bytes
 (16 :
 Nat)
 (Bs.zero
 (16 :
 Nat))])
 (32 :
 Nat))
 fun
 (h_10 :
 Array
 Obj) ↦
 Ext
 h
 h_10 ∧
 wok
 h_10
 (Array.size
 h)
 (0 :
 Nat)
 (53 :
 Nat) ∧
 Vc.Bind
 (TV.put
 h_10
 (Array.size
 h)
 (0 :
 Nat)
 (TV.agg
 [TV.int
 IntKind.i64
 n,
 TV.int
 IntKind.i64
 n_37,
 TV.bytes
 (32 :
 Nat)
 b_5,
 TV.int
 IntKind.i64
 n_38,
 TV.int
 IntKind.u64
 n_39,
 TV.slice
 s,
 TV.bytes
 (16 :
 Nat)
 b_6]))
 fun
 (h_11 :
 Array
 Obj) ↦
 J
 (slot,
 b,
 s_2,
 IntKind.wrap
 IntKind.i64
 (Int.tmod
 (IntKind.wrap
 IntKind.u64
 at_)
 (IntKind.wrap
 IntKind.u64
 (↑s_2.len :
 Int))),
 n_36,
 b_7,
 some
 (Loc.mk
 (Array.size
 h)
 (0 :
 Nat)),
 b_7)
 h_11) ∧
 Vc.Bind
 (newTV
 h_9
 (TV.agg
 [TV.int
 IntKind.i64
 (0 :
 Int),
 TV.int
 IntKind.i64
 (0 :
 Int),
 TV.bytes
 (32 :
 Nat)
 (Bs.zero
 (32 :
 Nat)),
 TV.int
 IntKind.i64
 (0 :
 Int),
 TV.int
 IntKind.u64
 (0 :
 Int),
 TV.slice
 Sl.nil,
 TV.bytes
 (16 :
 Nat)
 (Bs.zero
 (16 :
 Nat))])
 (32 :
 Nat))
 fun
 (h :
 Array
 Obj) ↦
 Ext
 h_9
 h ∧
 CallsH
 Try.prog
 (22 :
 Nat)
 (TVs.vals
 [TV.agg
 [TV.slice
 s,
 TV.int
 IntKind.i64
 n,
 TV.int
 IntKind.i64
 n_26,
 TV.int
 IntKind.i64
 n_27,
 TV.int
 IntKind.i64
 n_28,
 TV.int
 IntKind.i64
 n_29,
 TV.int
 IntKind.i64
 n_30,
 TV.int
 IntKind.i64
 n_31,
 TV.int
 IntKind.i64
 n_32,
 TV.int
 IntKind.i64
 n_33,
 TV.int
 IntKind.i64
 n_34,
 TV.int
 IntKind.i64
 n_35],
 TV.agg
 [TV.int
 IntKind.i64
 (2 :
 Int),
 TV.int
 IntKind.i64
 slot,
 TV.bytes
 (32 :
 Nat)
 b,
 TV.int
 IntKind.i64
 n_36,
 TV.int
 IntKind.u64
 (0 :
 Int),
 TV.slice
 Sl.nil,
 TV.bytes
 (16 :
 Nat)
 (Bs.zero
 (16 :
 Nat))]])
 h
 fun
 (v :
 Value)
 (h :
 Array
 Obj) ↦
 ∃
 (n
 :
 Int),
 ∃
 (n_37
 :
 Int),
 ∃
 (b_5
 :
 Bs
 (32 :
 Nat)),
 ∃
 (n_38
 :
 Int),
 ∃
 (n_39
 :
 Int),
 ∃
 (s
 :
 Sl),
 ∃
 (b_6
 :
 Bs
 (16 :
 Nat)),
 ∃
 (b_7
 :
 Bool),
 v =
 TV.val
 (TV.tup
 [TV.agg
 [TV.int
 IntKind.i64
 n,
 TV.int
 IntKind.i64
 n_37,
 TV.bytes
 (32 :
 Nat)
 b_5,
 TV.int
 IntKind.i64
 n_38,
 TV.int
 IntKind.u64
 n_39,
 TV.slice
 s,
 TV.bytes
 (16 :
 Nat)
 b_6],
 TV.bool
 b_7]) ∧
 wok
 h
 (Array.size
 h_9)
 (0 :
 Nat)
 (53 :
 Nat) ∧
 Vc.Bind
 (TV.put
 h
 (Array.size
 h_9)
 (0 :
 Nat)
 (TV.agg
 [TV.int
 IntKind.i64
 n,
 TV.int
 IntKind.i64
 n_37,
 TV.bytes
 (32 :
 Nat)
 b_5,
 TV.int
 IntKind.i64
 n_38,
 TV.int
 IntKind.u64
 n_39,
 TV.slice
 s,
 TV.bytes
 (16 :
 Nat)
 b_6]))
 fun
 (h :
 Array
 Obj) ↦
 J
 (slot,
 b,
 s_2,
 IntKind.wrap
 IntKind.i64
 (Int.tmod
 (IntKind.wrap
 IntKind.u64
 at_)
 (IntKind.wrap
 IntKind.u64
 (↑s_2.len :
 Int))),
 n_36,
 b_7,
 some
 (Loc.mk
 (Array.size
 h_9)
 (0 :
 Nat)),
 b_7)
 h))
 fun (J : Bool × Bool → Array Obj → Prop) ↦
 ∃ (s : Sl),
 ∃ (n : Int),
 ∃ (n_1 : Int),
 ∃ (n_2 : Int),
 ∃ (n_3 : Int),
 ∃ (n_4 : Int),
 ∃ (n_5 : Int),
 ∃ (n_6 : Int),
 ∃ (n_7 : Int),
 ∃ (n_8 : Int),
 ∃ (n_9 : Int),
 ∃ (n_10 : Int),
 (at1 h_3 (Array.size h) (0 : Nat) (slVal s) ∧
 at1 h_3 (Array.size h) (1 : Nat) (Value.int IntKind.i64 n) ∧
 at1 h_3 (Array.size h) (2 : Nat) (Value.int IntKind.i64 n_1) ∧
 at1 h_3 (Array.size h) (3 : Nat) (Value.int IntKind.i64 n_2) ∧
 at1 h_3 (Array.size h) (4 : Nat) (Value.int IntKind.i64 n_3) ∧
 at1 h_3 (Array.size h) (5 : Nat) (Value.int IntKind.i64 n_4) ∧
 at1 h_3 (Array.size h) (6 : Nat) (Value.int IntKind.i64 n_5) ∧
 at1 h_3 (Array.size h) (7 : Nat) (Value.int IntKind.i64 n_6) ∧
 at1 h_3 (Array.size h) (8 : Nat) (Value.int IntKind.i64 n_7) ∧
 at1 h_3 (Array.size h) (9 : Nat) (Value.int IntKind.i64 n_8) ∧
 at1 h_3 (Array.size h) (10 : Nat) (Value.int IntKind.i64 n_9) ∧
 at1 h_3 (Array.size h) (11 : Nat) (Value.int IntKind.i64 n_10)) ∧
 CallsH Try.prog (24 : Nat)
 (TVs.vals
 [TV.agg
 [TV.slice s, TV.int IntKind.i64 n, TV.int IntKind.i64 n_1, TV.int IntKind.i64 n_2, TV.int IntKind.i64 n_3,
 TV.int IntKind.i64 n_4, TV.int IntKind.i64 n_5, TV.int IntKind.i64 n_6, TV.int IntKind.i64 n_7,
 TV.int IntKind.i64 n_8, TV.int IntKind.i64 n_9, TV.int IntKind.i64 n_10]])
 h_3 fun (v : Value) (h_4 : Array Obj) ↦
 ∃ (b : Bool),
 v = TV.val (TV.bool b) ∧
 If b (R (TV.val (TV.bool true)) h_4)
 (∃ (s : Sl),
 ∃ (n : Int),
 ∃ (n_11 : Int),
 ∃ (n_12 : Int),
 ∃ (n_13 : Int),
 ∃ (n_14 : Int),
 ∃ (n_15 : Int),
 ∃ (n_16 : Int),
 ∃ (n_17 : Int),
 ∃ (n_18 : Int),
 ∃ (n_19 : Int),
 ∃ (n_20 : Int),
 (at1 h_4 (Array.size h) (0 : Nat) (slVal s) ∧
 at1 h_4 (Array.size h) (1 : Nat) (Value.int IntKind.i64 n) ∧
 at1 h_4 (Array.size h) (2 : Nat) (Value.int IntKind.i64 n_11) ∧
 at1 h_4 (Array.size h) (3 : Nat) (Value.int IntKind.i64 n_12) ∧
 at1 h_4 (Array.size h) (4 : Nat) (Value.int IntKind.i64 n_13) ∧
 at1 h_4 (Array.size h) (5 : Nat) (Value.int IntKind.i64 n_14) ∧
 at1 h_4 (Array.size h) (6 : Nat) (Value.int IntKind.i64 n_15) ∧
 at1 h_4 (Array.size h) (7 : Nat) (Value.int IntKind.i64 n_16) ∧
 at1 h_4 (Array.size h) (8 : Nat) (Value.int IntKind.i64 n_17) ∧
 at1 h_4 (Array.size h) (9 : Nat) (Value.int IntKind.i64 n_18) ∧
 at1 h_4 (Array.size h) (10 : Nat) (Value.int IntKind.i64 n_19) ∧
 at1 h_4 (Array.size h) (11 : Nat)
 (Value.int IntKind.i64 n_20)) ∧
 CallsH Try.prog (25 : Nat)
 (TVs.vals
 [TV.agg
 [TV.slice s, TV.int IntKind.i64 n, TV.int IntKind.i64 n_11,
 TV.int IntKind.i64 n_12, TV.int IntKind.i64 n_13, TV.int IntKind.i64 n_14,
 TV.int IntKind.i64 n_15, TV.int IntKind.i64 n_16, TV.int IntKind.i64 n_17,
 TV.int IntKind.i64 n_18, TV.int IntKind.i64 n_19, TV.int IntKind.i64 n_20]])
 h_4 fun (v : Value) (h : Array Obj) ↦
 ∃ (b : Bool),
 v = TV.val (TV.bool b) ∧
 If (!b) (R (TV.val (TV.bool true)) h)
 (If (decide (slot < (0 : Int))) (R (TV.val (TV.bool true)) h)
 (If (decide ((1073741824 : Int) < slot)) (R (TV.val (TV.bool true)) h)
 (J (false, false) h)))))

theorem tollerlaw08_SealAlone_calls (c_Validators : Sl) (c_Epoch : Int) (c_Committee : Int) (c_Nodes : Int) (c_Orphans : Int) (c_Early : Int) (c_Quota : Int) (c_Peers : Int) (c_Bytes : Int) (c_Window : Int) (c_Ban : Int) (c_Decay : Int) (slot : Int) (target : Bs (32 : Nat)) (at_ : Int) (h : Heap) (R : Value → Heap → Prop) (H : tollerlaw08_SealAlone_vc c_Validators c_Epoch c_Committee c_Nodes c_Orphans c_Early c_Quota c_Peers c_Bytes c_Window c_Ban c_Decay slot target at_ h R) : CallsH Try.prog 7 (TVs.vals [TV.agg [TV.slice c_Validators, TV.int IntKind.i64 c_Epoch, TV.int IntKind.i64 c_Committee, TV.int IntKind.i64 c_Nodes, TV.int IntKind.i64 c_Orphans, TV.int IntKind.i64 c_Early, TV.int IntKind.i64 c_Quota, TV.int IntKind.i64 c_Peers, TV.int IntKind.i64 c_Bytes, TV.int IntKind.i64 c_Window, TV.int IntKind.i64 c_Ban, TV.int IntKind.i64 c_Decay], TV.int IntKind.i64 slot, TV.bytes (32 : Nat) target, TV.int IntKind.i64 at_]) h R :=
 vcFn_sound (C := ctx) ctx_ok (fn := Try.f7) Try.func7 ((by kernel_rfl : tollerlaw08_SealAlone_vc c_Validators c_Epoch c_Committee c_Nodes c_Orphans c_Early c_Quota c_Peers c_Bytes c_Window c_Ban c_Decay slot target at_ h R = vcFn ctx Try.f7 [TV.agg [TV.slice c_Validators, TV.int IntKind.i64 c_Epoch, TV.int IntKind.i64 c_Committee, TV.int IntKind.i64 c_Nodes, TV.int IntKind.i64 c_Orphans, TV.int IntKind.i64 c_Early, TV.int IntKind.i64 c_Quota, TV.int IntKind.i64 c_Peers, TV.int IntKind.i64 c_Bytes, TV.int IntKind.i64 c_Window, TV.int IntKind.i64 c_Ban, TV.int IntKind.i64 c_Decay], TV.int IntKind.i64 slot, TV.bytes (32 : Nat) target, TV.int IntKind.i64 at_] h R) ▸ H)


end Go.Proofs.Ytgdhddignbkloaa
end

section
/- SealAlone. -/
namespace Go.Proofs.Ytgdhddignbkloaa.Board
open Go Go.Vc

theorem pk_no : ∀ (l : List Int), pk l (List.replicate l.length false) = []
  | [] => rfl
  | x :: l => by
    show pk (x :: l) (false :: List.replicate l.length false) = []
    rw [pk, if_neg (by decide), pk_no l]

theorem pk_one : ∀ (l : List Int) (i : Nat) (x : Int), l[i]? = some x → pk l ((List.replicate l.length false).set i true) = [x]
  | [], _, _, h => by cases h
  | y :: l, 0, x, h => by
    obtain rfl : y = x := Option.some.inj h
    show pk (y :: l) (true :: List.replicate l.length false) = [y]
    rw [pk, if_pos rfl, pk_no]
  | y :: l, i + 1, x, h => by
    show pk (y :: l) (false :: (List.replicate l.length false).set i true) = [x]
    rw [pk, if_neg (by decide), pk_one l i x h]

section
variable {R : Value → Heap → Prop} {h : Heap} {c : Cf}

theorem one_good {slot : Int} {target : Bs 32} {b : Sl} {row : List Bool} (h0 : 0 ≤ slot) (h1 : slot ≤ 1073741824) (hl : row.length ≤ 16) (hc : row.contains true = true) : goodF ⟨3, slot, target, 0, 0, b, Bs.zero 16⟩ row = true := by
  unfold goodF
  rw [if_pos rfl, hc]
  simp only [decide_eq_true hl, decide_eq_false (show ¬ slot < 0 by omega), decide_eq_false (show ¬ 1073741824 < slot by omega)]
  rfl

theorem set_contains {n i : Nat} (hi : i < n) : ((List.replicate n false).set i true).contains true = true := by
  rw [List.contains_iff_mem, List.mem_iff_getElem?]
  exact ⟨i, by rw [List.getElem?_set_self (by rw [List.length_replicate]; exact hi)]⟩

set_option maxHeartbeats 2000000 in
set_option maxRecDepth 100000 in
/-- A SUM OF ONE IS THE VOTE. -/
theorem sealAlone_spec {slot at_ : Int} {target : Bs 32} (hc : ∃ L, Elems 2 h c.vals (vds L)) (hr : ∀ h', Ext h h' → R (TV.bool true).val h') : CallsH Try.prog 7 (TVs.vals [c.tv, .int .i64 slot, .bytes 32 target, .int .i64 at_]) h R := by
  obtain ⟨L, e⟩ := hc
  apply tollerlaw08_SealAlone_calls c.vals c.ep c.com c.no c.orp c.ear c.quo c.pe c.by_ c.win c.ban c.dec slot target at_
  unfold tollerlaw08_SealAlone_vc
  refine newTV_in fun h1 v1 x1 s1 => newTV_in fun h2 v2 x2 s2 => ?_
  have v1 : Var 24 h2 h.size c.tv := Var.ext (t := c.tv) v1 x2
  have x02 := x1.trans x2
  refine alive_spec fun h3 x3 => ⟨_, rfl, If.no ?_⟩
  have x03 := x02.trans x3
  have v13 := v1.ext x3
  have v23 := v2.ext x3
  intro J HJ
  refine cf_at v13 (great_spec (e.ext x03) (fun h4 x4 => ⟨_, rfl, If.yes (hr h4 (x03.trans x4))⟩) fun h4 x4 h100 => ⟨_, rfl, If.no ?_⟩)
  have x04 := x03.trans x4
  have v14 := v13.ext x4
  have v24 := v23.ext x4
  refine cf_at v14 (good2_spec (e.ext x04) h100 (fun h5 x5 => ⟨_, rfl, If.yes (hr h5 (x04.trans x5))⟩) fun h5 x5 hf => ⟨_, rfl, If.no ?_⟩)
  have x05 := x04.trans x5
  have v15 := v14.ext x5
  have v25 := v24.ext x5
  refine If.dec.2 ⟨fun _ => hr h5 x05, fun k1 => If.dec.2 ⟨fun _ => hr h5 x05, fun k2 => HJ _ _ ?_⟩⟩
  clear HJ J
  have hlen := hf.fine.len
  have hv : c.vals.len < 900 := by omega
  have hk := keys64 hf.keys
  have hcom := hf.fine.com1
  have hcom2 := hf.fine.com2
  have hcom3 := hf.fine.com3
  refine cf_at v15 (docmembers_spec hf.fine fun h6 s6 o6 x6 l6 => ⟨_, rfl, ?_⟩)
  have hml := mem_len (n := c.vals.len) (com := c.com) (slot := slot) (by omega) (by omega) (by omega) hcom2
  have hmr : ∀ x ∈ mem c.vals.len c.com slot, 0 ≤ x ∧ x < c.vals.len := fun x hx => mem_range hx
  have el := ints_len o6.elems
  have x06 := x05.trans x6
  have v16 := v15.ext x6
  have v26 := v25.ext x6
  have hn1 : 1 ≤ s6.len := by omega
  have hn16 : s6.len ≤ 16 := by omega
  refine If.dec.2 ⟨fun h0 => by omega, fun _ => ?_⟩
  have hu := wrap_u64_range at_
  have hun : IntKind.wrap .u64 ((s6.len : Nat) : Int) = (s6.len : Int) := wrap_u64_small (by omega) (by omega)
  have hi : ∃ i : Nat, i < s6.len ∧ IntKind.wrap .i64 (Int.tmod (IntKind.wrap .u64 at_) ((s6.len : Nat) : Int)) = (i : Int) := by
    rw [Int.tmod_eq_emod_of_nonneg hu.1]
    have h1' := Int.emod_nonneg (IntKind.wrap .u64 at_) (show (s6.len : Int) ≠ 0 by omega)
    have h2' := Int.emod_lt_of_pos (IntKind.wrap .u64 at_) (show (0 : Int) < s6.len by omega)
    rw [wrap_i64 (by omega) (by omega)]
    exact ⟨_, by omega, (Int.toNat_of_nonneg h1').symm⟩
  obtain ⟨i, hin, hi⟩ := hi
  rw [hun, hi]
  have ob := Own.new (T := 4) (sz := 1) h6 (List.replicate s6.len (TV.bool false)) (fun t ht => by rw [List.eq_of_mem_replicate ht]; rfl)
  rw [List.length_replicate, ← zeros_rep] at ob
  have xp6 := Ext.push h6 (Vc.row (zeros (TV.bool false) s6.len) 4)
  refine ⟨by omega, by omega, by omega, by show (1 : Int) * (s6.len : Int) ≤ _; omega, by omega, by omega, by show (i : Int) < (s6.len : Int); omega, ?_⟩
  refine (Own.put_in (n := 1) (t := TV.bool true) (i := (i : Int)) ob (by omega) (by rw [List.length_replicate]; omega) rfl rfl fun h7 o7 f7 s7 => ?_).2.2
  obtain ⟨row, hrow⟩ : ∃ row, row = (List.replicate s6.len false).set i true := ⟨_, rfl⟩
  have hrl : row.length = s6.len := by rw [hrow, List.length_set, List.length_replicate]
  have hbr : bools row = (List.replicate s6.len (TV.bool false)).set i (TV.bool true) := by rw [hrow]; simp only [bools, List.map_set, List.map_replicate]
  rw [Int.toNat_natCast, ← hbr] at o7
  have x67 : Ext h6 h7 := Only.cut xp6 f7 fun j ⟨l, hl, hj⟩ => by
    obtain rfl := Option.some.inj hl
    rw [← hj]
    exact Nat.le_refl _
  have x07 := x06.trans x67
  obtain ⟨x, hx⟩ : ∃ x, (mem c.vals.len c.com slot)[i]? = some x := ⟨_, List.getElem?_eq_getElem (by omega)⟩
  obtain ⟨m3, hm3⟩ : ∃ m3, m3 = Ms.mk 3 slot target 0 0 ⟨some ⟨h6.size, 0⟩, s6.len, s6.len⟩ (Bs.zero 16) := ⟨_, rfl⟩
  have hk3 : m3.kind = 3 := by rw [hm3]
  have hms : m3.slot = slot := by rw [hm3]
  have hmt : m3.target = target := by rw [hm3]
  have hg3 : goodF m3 row = true := by rw [hm3]; exact one_good (by omega) (by omega) (by omega) (by rw [hrow]; exact set_contains hin)
  have hsp : speakF c.vals.len c.com m3 row = ([x], true) := by
    unfold speakF
    rw [if_neg (by rw [hg3]; decide), if_pos hk3, hms, if_neg]
    · rw [hrow, ← el, pk_one _ i x hx]
    · rintro (h0 | h0)
      · rw [h0] at el; simp at el; omega
      · exact h0 (by omega)
  have hxm : x ∈ mem c.vals.len c.com m3.slot := by rw [hms]; exact List.mem_of_getElem? hx
  have hok : (speakF c.vals.len c.com m3 row).2 = true := by rw [hsp]
  obtain ⟨T, hT⟩ : ∃ T, T = tag1 L m3 row x := ⟨_, rfl⟩
  have ht3 : tagF c.vals.len c.com L m3 row = (T, true) := by
    unfold tagF
    rw [hsp, if_pos rfl, hT]
    show (x16 (Bs.zero 16) (tag1 L m3 row x), true) = _
    rw [x16_zero]
  have hto : tagF c.vals.len c.com L (om m3 x) [] = (T, true) := by rw [om_tag (by omega) hk3 hok hxm, hT]
  have hs3 : signF c.vals.len c.com L m3 row = ({ m3 with tag := T }, true) := by
    unfold signF
    rw [ht3, if_pos rfl]
  have hso : signF c.vals.len c.com L (om m3 x) [] = ({ om m3 x with tag := T }, true) := by
    unfold signF
    rw [hto, if_pos rfl]
  have hv3 : votesF c.vals.len c.com { m3 with tag := T } row = [⟨x, slot, target⟩] := by
    rw [votes_tag]
    unfold votesF
    rw [hsp, if_neg (by rintro (h | h); cases h; rw [hk3] at h; exact absurd h (by decide)), hms, hmt]
    rfl
  have hvo : votesF c.vals.len c.com { om m3 x with tag := T } [] = [⟨x, slot, target⟩] := by
    rw [votes_tag, om_votes (by omega) hok hxm, hms, hmt]
  have hmo : ∀ t, ({ om m3 x with tag := t } : Ms) = Ms.mk 2 slot target x 0 Sl.nil t := fun t => by
    unfold om
    rw [hms, hmt]
  have hm3t : ∀ t, ({ m3 with tag := t } : Ms) = Ms.mk 3 slot target 0 0 ⟨some ⟨h6.size, 0⟩, s6.len, s6.len⟩ t := fun t => by rw [hm3]
  have er : Elems 1 h7 m3.bits (bools row) := by rw [hm3]; exact o7.elems
  clear hT hsp hg3
  have key3 : ∀ R' : Value → Heap → Prop, (∀ h', Ext h7 h' → R' (TV.tup [(Ms.mk 3 slot target 0 0 ⟨some ⟨h6.size, 0⟩, s6.len, s6.len⟩ T).tv, .bool true]).val h') → CallsH Try.prog 22 (TVs.vals [c.tv, (Ms.mk 3 slot target 0 0 ⟨some ⟨h6.size, 0⟩, s6.len, s6.len⟩ (Bs.zero 16)).tv]) h7 R' := by
    intro R' hr'
    rw [← hm3]
    refine sign_spec hv (e.ext x07) hk er (by omega) fun h' x' => ?_
    rw [hs3, hm3t]
    exact hr' h' x'
  have keyO : ∀ (hh : Heap) (R' : Value → Heap → Prop), Ext h hh → (∀ h', Ext hh h' → R' (TV.tup [(Ms.mk 2 slot target x 0 Sl.nil T).tv, .bool true]).val h') → CallsH Try.prog 22 (TVs.vals [c.tv, (Ms.mk 2 slot target x 0 Sl.nil (Bs.zero 16)).tv]) hh R' := by
    intro hh R' xh hr'
    have := sign_spec (R := R') (c := c) (m := om m3 x) (row := []) hv (e.ext xh) hk (Elems.nil_ 1 hh) (by decide) fun h' x' => by
      rw [hso, hmo]
      exact hr' h' x'
    have h2 : om m3 x = Ms.mk 2 slot target x 0 Sl.nil (Bs.zero 16) := hmo (Bs.zero 16)
    rw [h2] at this
    exact this
  have votes3 : ∀ (hh : Heap) (R' : Value → Heap → Prop), Ext h7 hh → (∀ h' s', Elems 34 h' s' (vts [⟨x, slot, target⟩]) → Ext hh h' → R' (TV.slice s').val h') → CallsH Try.prog 12 (TVs.vals [c.tv, (Ms.mk 3 slot target 0 0 ⟨some ⟨h6.size, 0⟩, s6.len, s6.len⟩ T).tv]) hh R' := by
    intro hh R' xh hr'
    rw [← hm3t]
    refine votes_spec (m := { m3 with tag := T }) (row := row) hv (er.ext xh) (by omega) fun h' s' e' x' => hr' h' s' ?_ x'
    rw [hv3] at e'
    exact e'
  have votesO : ∀ (hh : Heap) (R' : Value → Heap → Prop), Ext h hh → (∀ h' s', Elems 34 h' s' (vts [⟨x, slot, target⟩]) → Ext hh h' → R' (TV.slice s').val h') → CallsH Try.prog 12 (TVs.vals [c.tv, (Ms.mk 2 slot target x 0 Sl.nil T).tv]) hh R' := by
    intro hh R' xh hr'
    rw [← hmo]
    refine votes_spec (m := { om m3 x with tag := T }) (row := []) hv (Elems.nil_ 1 hh) (by decide) fun h' s' e' x' => hr' h' s' ?_ x'
    rw [hvo] at e'
    exact e'
  clear hs3 hso hv3 hvo hmo hm3t er ht3 hto
  refine cf_at (v16.ext x67) ⟨target, (v26.ext x67).bytes, key3 _ fun h8 x8 => ⟨_, _, _, _, _, _, _, _, rfl, ?_⟩⟩
  refine newTV_in fun h9 v9 x9 s9 => put_n (t0 := zeroM.tv) v9 (t := (Ms.mk 3 slot target 0 0 ⟨some ⟨h6.size, 0⟩, s6.len, s6.len⟩ T).tv) mssz1 mssz fun h10 v10 f10 s10 => ?_
  have x810 : Ext h8 h10 := Only.cut x9 f10 fun i hi => by omega
  have x710 := x8.trans x810
  have x610 := x67.trans x710
  have x010 := x06.trans x610
  intro J HJ
  have fin : ∀ (q : Nat) (hh : Heap) (a : Int × Bs 32 × Sl × Int × Int × Bool × Option Vc.Loc × Bool), a.2.2.2.2.2.2 = (some ⟨q, 0⟩, true) → Ext h10 hh → Var 32 hh q (Ms.mk 2 slot target x 0 Sl.nil T).tv → J a hh := by
    intro q hh a ha xh vq
    refine HJ a hh ?_
    dsimp only
    rw [ha]
    have v10h := v10.ext xh
    have x7h := x710.trans xh
    have x0h := x010.trans xh
    have v1h := (v16.ext x610).ext xh
    refine If.yes (If.yes ⟨T, v10h.at.2.2.2.2.2.2, T, vq.at.2.2.2.2.2.2, If.dec.2 ⟨fun _ => ?_, fun hn => absurd rfl hn⟩⟩)
    refine cf_at v1h (ms_at v10h (cf_at v1h (ms_at vq ?_)))
    refine votes3 hh _ x7h fun h11 s11 e11 x11 => ⟨_, rfl, x11, votesO h11 _ (x0h.trans x11) fun h12 s12 e12 x12 => ⟨_, rfl, ?_⟩⟩
    refine vsame_spec (e11.ext x12) e12 (by show 1 < _; decide) ⟨_, rfl, If.yes ?_⟩
    have x1012 := x11.trans x12
    refine cf_at (v1h.ext x1012) (ms_at (v10h.ext x1012) (votes3 h12 _ (x7h.trans x1012) fun h13 s13 e13 x13 => ⟨_, rfl, ?_⟩))
    have l13 : 1 = s13.len := e13.len
    rw [← l13]
    exact hr h13 ((x0h.trans x1012).trans x13)
  clear HJ votes3 votesO key3
  refine cf_at (v16.ext x610) ⟨target, (v26.ext x610).bytes, read_int (o6.elems.ext x610) (by omega) (by omega) fun x' hx' => ?_⟩
  obtain rfl : x = x' := by rw [Int.toNat_natCast, hx] at hx'; exact Option.some.inj hx'
  refine ⟨keyO h10 _ x010 fun h11 x11 => ⟨_, _, _, _, _, _, _, _, rfl, ?_⟩, ?_⟩
  · refine newTV_in fun h12 v12 x12 s12 => ⟨x12, put_n (t0 := zeroM.tv) v12 (t := (Ms.mk 2 slot target x 0 Sl.nil T).tv) mssz1 mssz fun h13 v13 f13 s13 => ?_⟩
    have x1113 : Ext h11 h13 := Only.cut x12 f13 fun i hi => by omega
    exact fin _ h13 _ rfl (x11.trans x1113) v13
  · refine newTV_in fun h11 v11 x11 s11 => ⟨x11, keyO h11 _ (x010.trans x11) fun h12 x12 => ⟨_, _, _, _, _, _, _, _, rfl, ?_⟩⟩
    refine put_n (t0 := zeroM.tv) (v11.ext x12) (t := (Ms.mk 2 slot target x 0 Sl.nil T).tv) mssz1 mssz fun h13 v13 f13 s13 => ?_
    have x1013 : Ext h10 h13 := Only.cut (x11.trans x12) f13 fun i hi => by omega
    exact fin _ h13 _ rfl x1013 v13

end
end Go.Proofs.Ytgdhddignbkloaa.Board
end

section
/- Messages that come in. -/
namespace Go.Proofs.Ytgdhddignbkloaa.Board
open Go Go.Vc

section
variable {H : Type} {enc : TypeId × Value → H} {w : World} {base fuel : Nat} {spare : Nat → Bool} {held : Bool}

set_option maxRecDepth 100000 in
theorem cell_int {r : Reach} {base : Nat} {t : TypeId} {k : IntKind} (ht : Try.prog.underlying t = some (.int k)) {v : Value} (h : Cell.okWide Try.prog w r base t v) : ∃ n, v = .int k n ∧ k.min ≤ n ∧ n ≤ k.max := by
  unfold Cell.okWide at h
  rw [ht] at h
  have hok' : Cell.ok Try.prog w r base t v := by
    revert h
    cases v <;> exact id
  unfold Cell.ok at hok'
  rw [ht] at hok'
  cases v <;> simp only at hok'
  case int k' m =>
    obtain ⟨rfl, h0, h1⟩ := hok'
    exact ⟨m, rfl, h0, h1⟩

set_option maxRecDepth 100000 in
theorem cell_byte {r : Reach} {base : Nat} {v : Value} (h : Cell.okWide Try.prog w r base 5 v) : ∃ x : UInt8, v = .int .u8 (x.toNat : Int) := by
  obtain ⟨n, rfl, h0, h1⟩ := cell_int Try.underlying5 h
  have h0' : 0 ≤ n := h0
  have h1' : n ≤ 255 := h1
  refine ⟨UInt8.ofNat n.toNat, ?_⟩
  rw [UInt8.toNat_ofNat']
  congr 1
  omega

theorem seg : ∀ (n a : Nat) (cl : List Value), (∀ i, a ≤ i → i < a + n → ∃ x : UInt8, cl[i]? = some (.int .u8 (x.toNat : Int))) → ∃ b : Bs n, (cl.drop a).take n = b.l.map fun c => Value.int .u8 (c.toNat : Int)
  | 0, a, cl, _ => ⟨⟨[], rfl⟩, by simp⟩
  | n + 1, a, cl, h => by
    obtain ⟨x, hx⟩ := h a (Nat.le_refl _) (by omega)
    obtain ⟨b, hb⟩ := seg n (a + 1) cl fun i h1 h2 => h i (by omega) (by omega)
    obtain ⟨hlt, hget⟩ := List.getElem?_eq_some_iff.1 hx
    refine ⟨⟨x :: b.l, by simp [b.h]⟩, ?_⟩
    rw [List.drop_eq_getElem_cons hlt, List.take_succ_cons, hb, hget]
    rfl

theorem drop_of {cl : List Value} {a : Nat} {v : Value} (h : cl[a]? = some v) : cl.drop a = v :: cl.drop (a + 1) := by
  obtain ⟨hlt, hget⟩ := List.getElem?_eq_some_iff.1 h
  rw [List.drop_eq_getElem_cons hlt, hget]

set_option maxRecDepth 100000 in
theorem ms_in2 {r : Reach} {base2 : Nat} {v : Value} {d : DataW H} {p : List MemPlace} (hv : Value.okWide Try.prog w r base2 32 v) (h : DataW.Trod enc Try.prog w base spare held 32 v d p) :
    ∃ m : Ms, ((∃ row, Elems 1 w.heap m.bits (bools row)) ∧ 0 ≤ m.body ∧ m.body < 18446744073709551616) ∧ v = m.tv.val := by
  have hd : ∃ f0 f1 f2 f3 f4 f5 f6 : Field, Try.prog.underlying 32 = some (.struct #[f0, f1, f2, f3, f4, f5, f6]) ∧ (f5.type = 28 ∧ f5.offset = 36) := ⟨_, _, _, _, _, _, _, Try.underlying32, ⟨rfl, rfl⟩⟩
  obtain ⟨f0, f1, f2, f3, f4, f5, f6, hu, e5⟩ := hd
  have hct : Try.prog.cellTypes Try.prog.depth 32 = some (3 :: 3 :: (List.replicate 32 5 ++ 3 :: 27 :: 28 :: List.replicate 16 5)) := by kernel_rfl
  have c32 : Try.prog.cellsOf 32 = 53 := by kernel_rfl
  have c28 : Try.prog.cellsOf 28 = 1 := by kernel_rfl
  unfold Value.okWide at hv
  rw [hu] at hv
  simp only at hv
  obtain ⟨cs, rfl, hs, ts, hts, _, hcell⟩ := hv
  rw [hct] at hts
  obtain rfl := Option.some.inj hts
  obtain ⟨fuel, hf0⟩ := h
  have hf1 : DataW.trod enc Try.prog w base spare held fuel 32 cs.toList = some (d, p) := hf0
  obtain ⟨xs, n, _, _, hlen, hl, hf⟩ := DataW.trod_struct hu hf1
  rw [c32] at hlen
  match xs, hl with
  | [y0, y1, y2, y3, y4, y5, y6], _ =>
    have t5 := hf 5 f5 rfl
    rw [e5.1, e5.2, c28] at t5
    obtain ⟨cl⟩ := cs
    simp only at hlen hcell t5
    have each : ∀ i, i < 53 → ∃ v u, cl[i]? = some v ∧ (3 :: 3 :: (List.replicate 32 5 ++ 3 :: 27 :: 28 :: List.replicate 16 5))[i]? = some u ∧ Cell.okWide Try.prog w r base2 u v := by
      intro i hi
      obtain ⟨u, h1, h2⟩ := hcell i cl[i] (by simp [hlen, hi])
      have hm : i % (3 :: 3 :: (List.replicate 32 5 ++ 3 :: 27 :: 28 :: List.replicate 16 5) : List Nat).length = i := Nat.mod_eq_of_lt hi
      rw [hm] at h1
      exact ⟨cl[i], u, List.getElem?_eq_getElem (by omega), h1, h2⟩
    have int_ : ∀ i, i < 53 → ∀ u, (3 :: 3 :: (List.replicate 32 5 ++ 3 :: 27 :: 28 :: List.replicate 16 5))[i]? = some u → ∀ k, Try.prog.underlying u = some (.int k) → ∃ n, cl[i]? = some (.int k n) ∧ k.min ≤ n ∧ n ≤ k.max := by
      intro i hi u hu k hk
      obtain ⟨v, u', h1, h2, h3⟩ := each i hi
      rw [hu] at h2
      obtain rfl := Option.some.inj h2
      obtain ⟨n, rfl, hn⟩ := cell_int hk h3
      exact ⟨n, h1, hn⟩
    have byte_ : ∀ i, i < 53 → (3 :: 3 :: (List.replicate 32 5 ++ 3 :: 27 :: 28 :: List.replicate 16 5))[i]? = some 5 → ∃ x : UInt8, cl[i]? = some (.int .u8 (x.toNat : Int)) := by
      intro i hi hu
      obtain ⟨v, u', h1, h2, h3⟩ := each i hi
      rw [hu] at h2
      obtain rfl := Option.some.inj h2
      obtain ⟨x, rfl⟩ := cell_byte h3
      exact ⟨x, h1⟩
    obtain ⟨n0, g0, _⟩ := int_ 0 (by decide) 3 rfl .i64 Try.underlying3
    obtain ⟨n1, g1, _⟩ := int_ 1 (by decide) 3 rfl .i64 Try.underlying3
    obtain ⟨n34, g34, _⟩ := int_ 34 (by decide) 3 rfl .i64 Try.underlying3
    obtain ⟨n35, g35, b35⟩ := int_ 35 (by decide) 27 rfl .u64 Try.underlying27
    have hall1 : ∀ i : Fin 53, 2 ≤ i.val → i.val < 34 → (3 :: 3 :: (List.replicate 32 5 ++ 3 :: 27 :: 28 :: List.replicate 16 5) : List Nat)[i.val]? = some 5 := by decide
    have hall2 : ∀ i : Fin 53, 37 ≤ i.val → (3 :: 3 :: (List.replicate 32 5 ++ 3 :: 27 :: 28 :: List.replicate 16 5) : List Nat)[i.val]? = some 5 := by decide
    obtain ⟨T, hT⟩ := seg 32 2 cl fun i h1 h2 => byte_ i (by omega) (hall1 ⟨i, by omega⟩ h1 h2)
    obtain ⟨G, hG⟩ := seg 16 37 cl fun i h1 h2 => byte_ i (by omega) (hall2 ⟨i, by omega⟩ h1)
    obtain ⟨vs, us, g36, hu36, hok36⟩ := each 36 (by decide)
    obtain rfl : 28 = us := Option.some.inj hu36
    have ht5 : (cl.drop 36).take 1 = [vs] := by rw [drop_of g36]; rfl
    rw [ht5] at t5
    have hsl : ∃ a len cap, vs = Value.slice a len cap := by
      rcases Deep.open_slice Try.underlying28 t5 with ⟨hc, _⟩ | ⟨a', l', c', m, n, D, Pl, hc, _⟩
      · exact ⟨_, _, _, by simpa using hc⟩
      · exact ⟨_, _, _, by simpa using hc⟩
    obtain ⟨a, len, cap, rfl⟩ := hsl
    have hsp : ∀ x, a = some x → x.spot = none := fun x hx => by
      subst hx
      exact cell_spot Try.underlying28 hok36
    obtain ⟨sl, row, e, hel⟩ := row_in hsp t5
    have hb0 : 0 ≤ n35 := b35.1
    have hb1 : n35 ≤ 18446744073709551615 := b35.2
    refine ⟨⟨n0, n1, T, n34, n35, sl, G⟩, ⟨⟨row, hel⟩, hb0, by show n35 < _; omega⟩, ?_⟩
    have d53 : cl.drop 53 = [] := List.drop_eq_nil_of_le (by omega)
    have d37 : cl.drop 37 = G.l.map fun c => Value.int .u8 (c.toNat : Int) := by
      rw [← List.take_append_drop 16 (cl.drop 37), hG, List.drop_drop, d53, List.append_nil]
    have d34 : cl.drop 34 = .int .i64 n34 :: .int .u64 n35 :: (TV.slice sl).val :: (G.l.map fun c => Value.int .u8 (c.toNat : Int)) := by
      rw [drop_of g34, drop_of g35, drop_of g36, d37, e]
    have d2 : cl.drop 2 = (T.l.map fun c => Value.int .u8 (c.toNat : Int)) ++ cl.drop 34 := by
      rw [← List.take_append_drop 32 (cl.drop 2), hT, List.drop_drop]
    have d0 : cl = .int .i64 n0 :: .int .i64 n1 :: ((T.l.map fun c => Value.int .u8 (c.toNat : Int)) ++ .int .i64 n34 :: .int .u64 n35 :: (TV.slice sl).val :: (G.l.map fun c => Value.int .u8 (c.toNat : Int))) := by
      have : cl = cl.drop 0 := rfl
      rw [this, drop_of g0, drop_of g1, d2, d34]
    rw [d0]
    simp [Ms.tv, TV.val, TV.cells, TVs.cells]

set_option maxRecDepth 100000 in
theorem ms_in {r : Reach} {base2 : Nat} {v : Value} {d : DataW H} {p : List MemPlace} (hv : Value.okWide Try.prog w r base2 32 v) (h : DataW.Trod enc Try.prog w base spare held 32 v d p) :
    ∃ m : Ms, (∃ row, Elems 1 w.heap m.bits (bools row)) ∧ v = m.tv.val := by
  obtain ⟨m, hm, e⟩ := ms_in2 hv h
  exact ⟨m, hm.1, e⟩

end
end Go.Proofs.Ytgdhddignbkloaa.Board
end

section
/- Arrays of bytes that come in. -/
namespace Go.Vc
open Go

def byteOfV : Value → UInt8
  | .int _ n => UInt8.ofNat n.toNat
  | _ => 0

theorem bytes_in {P : Program} {w : World} {r : Reach} {base : Nat} {t e : TypeId} {n : Nat} (ht : P.underlying t = some (.array n e)) (he : P.underlying e = some (.int .u8)) (hc : P.cellsOf t = n)
    (hct : P.cellTypes P.depth t = some (List.replicate n e)) {v : Value} (h : Value.okWide P w r base t v) : ∃ b : Bs n, v = (TV.bytes n b).val := by
  unfold Value.okWide at h
  rw [ht] at h
  simp only at h
  obtain ⟨cs, rfl, hs, ts, hts, _, hcell⟩ := h
  rw [hct] at hts
  obtain rfl := Option.some.inj hts
  have each : ∀ (i : Nat) (v : Value), cs[i]? = some v → v = Value.int .u8 ((byteOfV v).toNat : Int) := fun i v hv => by
    obtain ⟨u, hu, hok⟩ := hcell i v hv
    have : u = e := List.eq_of_mem_replicate (List.mem_of_getElem? hu)
    subst this
    unfold Cell.okWide at hok
    rw [he] at hok
    have hok' : Cell.ok P w r base u v := by
      revert hok
      cases v <;> exact id
    unfold Cell.ok at hok'
    rw [he] at hok'
    cases v <;> simp only at hok'
    case int k m =>
      obtain ⟨rfl, h0, h1⟩ := hok'
      have h0' : 0 ≤ m := h0
      have h1' : m ≤ 255 := h1
      unfold byteOfV
      rw [UInt8.toNat_ofNat']
      congr 1
      omega
  refine ⟨⟨cs.toList.map byteOfV, by simp [hs, hc]⟩, ?_⟩
  simp only [TV.val]
  congr 1
  apply Array.ext_getElem?
  intro i
  simp only [List.map_map, List.getElem?_toArray, List.getElem?_map, Array.getElem?_toList]
  cases hv : cs[i]? with
  | none => rfl
  | some v =>
    simp only [Option.map_some, Function.comp]
    rw [← each i v hv]

end Go.Vc
end

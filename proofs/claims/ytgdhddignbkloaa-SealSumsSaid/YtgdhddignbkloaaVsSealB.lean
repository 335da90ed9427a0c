/- The conditions of functions, as the generator reckons them out, each with the proof that it is that. -/
import Derived.Test.YtgdhddignbkloaaCtx
namespace Go.Proofs.Ytgdhddignbkloaa
open Go Go.Vc
set_option maxRecDepth 100000
set_option linter.unusedVariables false

def wire_Plain_vc (m_Kind : Int) (m_Slot : Int) (m_Target : Bs (32 : Nat)) (m_Member : Int) (m_Body : Int) (m_Bits : Sl) (m_Tag : Bs (16 : Nat)) (h : Heap) (R : Value → Heap → Prop) : Prop :=
 Vc.Bind
 (newTV h
 (TV.agg
 [TV.int IntKind.i64 m_Kind, TV.int IntKind.i64 m_Slot, TV.bytes (32 : Nat) m_Target, TV.int IntKind.i64 m_Member, TV.int IntKind.u64 m_Body,
 TV.slice m_Bits, TV.bytes (16 : Nat) m_Tag])
 (32 : Nat))
 fun (h_1 : Array Obj) ↦
 ∃ (n : Int),
 at1 h_1 (Array.size h) (0 : Nat) (Value.int IntKind.i64 n) ∧
 ∃ (n_1 : Int),
 at1 (Array.push h_1 (row (TVs.cells [TV.int IntKind.u8 (IntKind.wrap IntKind.u8 n)]) (5 : Nat))) (Array.size h) (1 : Nat) (Value.int IntKind.i64 n_1) ∧
 CallsH Try.prog (48 : Nat)
 (TVs.vals
 [TV.slice (Sl.mk (some (Loc.mk (Array.size h_1) (0 : Nat))) (1 : Nat) (1 : Nat)), TV.int IntKind.u64 (IntKind.wrap IntKind.u64 n_1),
 TV.int IntKind.i64 (4 : Int)])
 (Array.push h_1 (row (TVs.cells [TV.int IntKind.u8 (IntKind.wrap IntKind.u8 n)]) (5 : Nat))) fun (v : Value) (h_2 : Array Obj) ↦
 ∃ (s : Sl),
 v = TV.val (TV.slice s) ∧
 ∃ (new : List Value),
 slAt h_2 (cutSl (Sl.mk (some (Loc.mk (Array.size h) (2 : Nat))) (32 : Nat) (32 : Nat)) (0 : Nat) (32 : Nat) (1 : Nat)) (1 : Nat) new ∧
 (∀ (v : Value), v ∈ new → isOne v = true) ∧
 vcAppend Ytgdhddignbkloaa.ctxL (5 : Nat) s
 (cutSl (Sl.mk (some (Loc.mk (Array.size h) (2 : Nat))) (32 : Nat) (32 : Nat)) (0 : Nat) (32 : Nat) (1 : Nat)).len new h_2
 fun (s : Sl) (h_3 : Array Obj) ↦
 ∃ (n : Int),
 at1 h_3 (Array.size h) (0 : Nat) (Value.int IntKind.i64 n) ∧
 If (decide (n = (1 : Int)))
 (∃ (h0 : Array Obj),
 Ext h0 h_3 ∧
 ∃ (n : Int),
 at1 h0 (Array.size h) (34 : Nat) (Value.int IntKind.i64 n) ∧
 ∃ (n_2 : Int),
 at1 h0 (Array.size h) (35 : Nat) (Value.int IntKind.u64 n_2) ∧
 CallsH Try.prog (48 : Nat)
 (TVs.vals [TV.slice s, TV.int IntKind.u64 (IntKind.wrap IntKind.u64 n), TV.int IntKind.i64 (2 : Int)]) h_3
 fun (v : Value) (h : Array Obj) ↦
 ∃ (s : Sl),
 v = TV.val (TV.slice s) ∧
 Ext h0 h ∧
 CallsH Try.prog (48 : Nat) (TVs.vals [TV.slice s, TV.int IntKind.u64 n_2, TV.int IntKind.i64 (8 : Int)]) h
 fun (v : Value) (h : Array Obj) ↦
 ∃ (s : Sl), v = TV.val (TV.slice s) ∧ ∃ (bs : List UInt8), strAt h s bs ∧ R (TV.val (TV.str bs)) h)
 (If (decide (n = (2 : Int)))
 (∃ (n : Int),
 at1 h_3 (Array.size h) (34 : Nat) (Value.int IntKind.i64 n) ∧
 CallsH Try.prog (48 : Nat)
 (TVs.vals [TV.slice s, TV.int IntKind.u64 (IntKind.wrap IntKind.u64 n), TV.int IntKind.i64 (2 : Int)]) h_3
 fun (v : Value) (h : Array Obj) ↦
 ∃ (s : Sl), v = TV.val (TV.slice s) ∧ ∃ (bs : List UInt8), strAt h s bs ∧ R (TV.val (TV.str bs)) h)
 (If (decide (n = (3 : Int)))
 (∃ (s_1 : Sl),
 at1 h_3 (Array.size h) (36 : Nat) (slVal s_1) ∧
 CallsH Try.prog (49 : Nat) (TVs.vals [TV.slice s, TV.slice s_1]) h_3 fun (v : Value) (h : Array Obj) ↦
 ∃ (s : Sl), v = TV.val (TV.slice s) ∧ ∃ (bs : List UInt8), strAt h s bs ∧ R (TV.val (TV.str bs)) h)
 (∃ (bs : List UInt8), strAt h_3 s bs ∧ R (TV.val (TV.str bs)) h_3)))

theorem wire_Plain_calls (m_Kind : Int) (m_Slot : Int) (m_Target : Bs (32 : Nat)) (m_Member : Int) (m_Body : Int) (m_Bits : Sl) (m_Tag : Bs (16 : Nat)) (h : Heap) (R : Value → Heap → Prop) (H : wire_Plain_vc m_Kind m_Slot m_Target m_Member m_Body m_Bits m_Tag h R) : CallsH Try.prog 28 (TVs.vals [TV.agg [TV.int IntKind.i64 m_Kind, TV.int IntKind.i64 m_Slot, TV.bytes (32 : Nat) m_Target, TV.int IntKind.i64 m_Member, TV.int IntKind.u64 m_Body, TV.slice m_Bits, TV.bytes (16 : Nat) m_Tag]]) h R :=
 vcFn_sound (C := ctxL) ctxL_ok (fn := Try.f28) Try.func28 ((by kernel_rfl : wire_Plain_vc m_Kind m_Slot m_Target m_Member m_Body m_Bits m_Tag h R = vcFn ctxL Try.f28 [TV.agg [TV.int IntKind.i64 m_Kind, TV.int IntKind.i64 m_Slot, TV.bytes (32 : Nat) m_Target, TV.int IntKind.i64 m_Member, TV.int IntKind.u64 m_Body, TV.slice m_Bits, TV.bytes (16 : Nat) m_Tag]] h R) ▸ H)


def seal_one_vc (m_Kind : Int) (m_Slot : Int) (m_Target : Bs (32 : Nat)) (m_Member : Int) (m_Body : Int) (m_Bits : Sl) (m_Tag : Bs (16 : Nat)) (who : Int) (h : Heap) (R : Value → Heap → Prop) : Prop :=
 Vc.Bind
 (newTV h
 (TV.agg
 [TV.int IntKind.i64 m_Kind, TV.int IntKind.i64 m_Slot, TV.bytes (32 : Nat) m_Target, TV.int IntKind.i64 m_Member, TV.int IntKind.u64 m_Body,
 TV.slice m_Bits, TV.bytes (16 : Nat) m_Tag])
 (32 : Nat))
 fun (h_1 : Array Obj) ↦
 Vc.Bind
 (newTV h_1
 (TV.agg
 [TV.int IntKind.i64 (0 : Int), TV.int IntKind.i64 (0 : Int), TV.bytes (32 : Nat) (Bs.zero (32 : Nat)), TV.int IntKind.i64 (0 : Int),
 TV.int IntKind.u64 (0 : Int), TV.slice Sl.nil, TV.bytes (16 : Nat) (Bs.zero (16 : Nat))])
 (32 : Nat))
 fun (h_2 : Array Obj) ↦
 ∃ (n : Int),
 at1 h_2 (Array.size h) (0 : Nat) (Value.int IntKind.i64 n) ∧
 If (decide (n = (3 : Int)))
 (∃ (n : Int),
 at1 h_2 (Array.size h) (1 : Nat) (Value.int IntKind.i64 n) ∧
 ∃ (b : Bs (32 : Nat)),
 atBytes h_2 (Array.size h) (2 : Nat) (32 : Nat) b ∧
 wok h_2 (Array.size h_1) (0 : Nat) (53 : Nat) ∧
 Vc.Bind
 (TV.put h_2 (Array.size h_1) (0 : Nat)
 (TV.agg
 [TV.int IntKind.i64 (2 : Int), TV.int IntKind.i64 n, TV.bytes (32 : Nat) b, TV.int IntKind.i64 who, TV.int IntKind.u64 (0 : Int),
 TV.slice Sl.nil, TV.bytes (16 : Nat) (Bs.zero (16 : Nat))]))
 fun (h : Array Obj) ↦
 ∃ (n : Int),
 ∃ (n_1 : Int),
 ∃ (b : Bs (32 : Nat)),
 ∃ (n_2 : Int),
 ∃ (n_3 : Int),
 ∃ (s : Sl),
 ∃ (b_1 : Bs (16 : Nat)),
 (at1 h (Array.size h_1) (0 : Nat) (Value.int IntKind.i64 n) ∧
 at1 h (Array.size h_1) (1 : Nat) (Value.int IntKind.i64 n_1) ∧
 atBytes h (Array.size h_1) (2 : Nat) (32 : Nat) b ∧
 at1 h (Array.size h_1) (34 : Nat) (Value.int IntKind.i64 n_2) ∧
 at1 h (Array.size h_1) (35 : Nat) (Value.int IntKind.u64 n_3) ∧
 at1 h (Array.size h_1) (36 : Nat) (slVal s) ∧ atBytes h (Array.size h_1) (37 : Nat) (16 : Nat) b_1) ∧
 R
 (TV.val
 (TV.agg
 [TV.int IntKind.i64 n, TV.int IntKind.i64 n_1, TV.bytes (32 : Nat) b, TV.int IntKind.i64 n_2,
 TV.int IntKind.u64 n_3, TV.slice s, TV.bytes (16 : Nat) b_1]))
 h)
 (∃ (n : Int),
 ∃ (n_1 : Int),
 ∃ (b : Bs (32 : Nat)),
 ∃ (n_2 : Int),
 ∃ (n_3 : Int),
 ∃ (s : Sl),
 ∃ (b_1 : Bs (16 : Nat)),
 (at1 h_2 (Array.size h) (0 : Nat) (Value.int IntKind.i64 n) ∧
 at1 h_2 (Array.size h) (1 : Nat) (Value.int IntKind.i64 n_1) ∧
 atBytes h_2 (Array.size h) (2 : Nat) (32 : Nat) b ∧
 at1 h_2 (Array.size h) (34 : Nat) (Value.int IntKind.i64 n_2) ∧
 at1 h_2 (Array.size h) (35 : Nat) (Value.int IntKind.u64 n_3) ∧
 at1 h_2 (Array.size h) (36 : Nat) (slVal s) ∧ atBytes h_2 (Array.size h) (37 : Nat) (16 : Nat) b_1) ∧
 wok h_2 (Array.size h_1) (0 : Nat) (53 : Nat) ∧
 Vc.Bind
 (TV.put h_2 (Array.size h_1) (0 : Nat)
 (TV.agg
 [TV.int IntKind.i64 n, TV.int IntKind.i64 n_1, TV.bytes (32 : Nat) b, TV.int IntKind.i64 n_2, TV.int IntKind.u64 n_3,
 TV.slice s, TV.bytes (16 : Nat) b_1]))
 fun (h : Array Obj) ↦
 ∃ (n : Int),
 ∃ (n_4 : Int),
 ∃ (b : Bs (32 : Nat)),
 ∃ (n_5 : Int),
 ∃ (n_6 : Int),
 ∃ (s : Sl),
 ∃ (b_2 : Bs (16 : Nat)),
 (at1 h (Array.size h_1) (0 : Nat) (Value.int IntKind.i64 n) ∧
 at1 h (Array.size h_1) (1 : Nat) (Value.int IntKind.i64 n_4) ∧
 atBytes h (Array.size h_1) (2 : Nat) (32 : Nat) b ∧
 at1 h (Array.size h_1) (34 : Nat) (Value.int IntKind.i64 n_5) ∧
 at1 h (Array.size h_1) (35 : Nat) (Value.int IntKind.u64 n_6) ∧
 at1 h (Array.size h_1) (36 : Nat) (slVal s) ∧ atBytes h (Array.size h_1) (37 : Nat) (16 : Nat) b_2) ∧
 R
 (TV.val
 (TV.agg
 [TV.int IntKind.i64 n, TV.int IntKind.i64 n_4, TV.bytes (32 : Nat) b, TV.int IntKind.i64 n_5,
 TV.int IntKind.u64 n_6, TV.slice s, TV.bytes (16 : Nat) b_2]))
 h)

theorem seal_one_calls (m_Kind : Int) (m_Slot : Int) (m_Target : Bs (32 : Nat)) (m_Member : Int) (m_Body : Int) (m_Bits : Sl) (m_Tag : Bs (16 : Nat)) (who : Int) (h : Heap) (R : Value → Heap → Prop) (H : seal_one_vc m_Kind m_Slot m_Target m_Member m_Body m_Bits m_Tag who h R) : CallsH Try.prog 29 (TVs.vals [TV.agg [TV.int IntKind.i64 m_Kind, TV.int IntKind.i64 m_Slot, TV.bytes (32 : Nat) m_Target, TV.int IntKind.i64 m_Member, TV.int IntKind.u64 m_Body, TV.slice m_Bits, TV.bytes (16 : Nat) m_Tag], TV.int IntKind.i64 who]) h R :=
 vcFn_sound (C := ctx) ctx_ok (fn := Try.f29) Try.func29 ((by kernel_rfl : seal_one_vc m_Kind m_Slot m_Target m_Member m_Body m_Bits m_Tag who h R = vcFn ctx Try.f29 [TV.agg [TV.int IntKind.i64 m_Kind, TV.int IntKind.i64 m_Slot, TV.bytes (32 : Nat) m_Target, TV.int IntKind.i64 m_Member, TV.int IntKind.u64 m_Body, TV.slice m_Bits, TV.bytes (16 : Nat) m_Tag], TV.int IntKind.i64 who] h R) ▸ H)


def wire_Good_vc (m_Kind : Int) (m_Slot : Int) (m_Target : Bs (32 : Nat)) (m_Member : Int) (m_Body : Int) (m_Bits : Sl) (m_Tag : Bs (16 : Nat)) (h : Heap) (R : Value → Heap → Prop) : Prop :=
 Vc.Bind
 (newTV h
 (TV.agg
 [TV.int IntKind.i64 m_Kind, TV.int IntKind.i64 m_Slot, TV.bytes (32 : Nat) m_Target, TV.int IntKind.i64 m_Member, TV.int IntKind.u64 m_Body,
 TV.slice m_Bits, TV.bytes (16 : Nat) m_Tag])
 (32 : Nat))
 fun (h_1 : Array Obj) ↦
 Join
 (fun (s : Bool) (h_2 : Array Obj) ↦
 ∃ (n : Int),
 at1 h_2 (Array.size h) (0 : Nat) (Value.int IntKind.i64 n) ∧
 If (decide (n = (3 : Int)))
 (∃ (n : Int),
 at1 h_2 (Array.size h) (34 : Nat) (Value.int IntKind.i64 n) ∧
 If (decide (n = (0 : Int)))
 (∃ (s : Sl),
 at1 h_2 (Array.size h) (36 : Nat) (slVal s) ∧
 If (decide ((↑s.len : Int) ≤ (16 : Int)))
 (∃ (s : Sl),
 at1 h_2 (Array.size h) (36 : Nat) (slVal s) ∧
 CallsH Try.prog (50 : Nat) (TVs.vals [TV.slice s, TV.bool true]) h_2 fun (v : Value) (h : Array Obj) ↦
 ∃ (b : Bool), v = TV.val (TV.bool b) ∧ R (TV.val (TV.bool b)) h)
 (R (TV.val (TV.bool false)) h_2))
 (R (TV.val (TV.bool false)) h_2))
 (∃ (n : Int),
 at1 h_2 (Array.size h) (0 : Nat) (Value.int IntKind.i64 n) ∧
 If (decide (n = (1 : Int)))
 (∃ (s : Sl), at1 h_2 (Array.size h) (36 : Nat) (slVal s) ∧ R (TV.val (TV.bool (decide ((↑s.len : Int) = (0 : Int))))) h_2)
 (∃ (n : Int),
 at1 h_2 (Array.size h) (0 : Nat) (Value.int IntKind.i64 n) ∧
 If (decide (n = (2 : Int)))
 (∃ (s : Sl), at1 h_2 (Array.size h) (36 : Nat) (slVal s) ∧ R (TV.val (TV.bool (decide ((↑s.len : Int) = (0 : Int))))) h_2)
 (R (TV.val (TV.bool false)) h_2))))
 fun (J : Bool → Array Obj → Prop) ↦
 ∃ (n : Int),
 at1 h_1 (Array.size h) (1 : Nat) (Value.int IntKind.i64 n) ∧
 If (decide (n < (0 : Int))) (R (TV.val (TV.bool false)) h_1)
 (∃ (n : Int),
 at1 h_1 (Array.size h) (1 : Nat) (Value.int IntKind.i64 n) ∧
 If (decide ((1073741824 : Int) < n)) (R (TV.val (TV.bool false)) h_1)
 (∃ (n : Int),
 at1 h_1 (Array.size h) (34 : Nat) (Value.int IntKind.i64 n) ∧
 If (decide (n < (0 : Int))) (R (TV.val (TV.bool false)) h_1)
 (∃ (n : Int),
 at1 h_1 (Array.size h) (34 : Nat) (Value.int IntKind.i64 n) ∧
 If (decide ((65535 : Int) < n)) (R (TV.val (TV.bool false)) h_1)
 (∃ (n : Int),
 at1 h_1 (Array.size h) (0 : Nat) (Value.int IntKind.i64 n) ∧
 If (!decide (n = (1 : Int)))
 (∃ (n : Int),
 at1 h_1 (Array.size h) (35 : Nat) (Value.int IntKind.u64 n) ∧
 If (!decide (n = (0 : Int))) (R (TV.val (TV.bool false)) h_1) (J false h_1))
 (J false h_1)))))

theorem wire_Good_calls (m_Kind : Int) (m_Slot : Int) (m_Target : Bs (32 : Nat)) (m_Member : Int) (m_Body : Int) (m_Bits : Sl) (m_Tag : Bs (16 : Nat)) (h : Heap) (R : Value → Heap → Prop) (H : wire_Good_vc m_Kind m_Slot m_Target m_Member m_Body m_Bits m_Tag h R) : CallsH Try.prog 30 (TVs.vals [TV.agg [TV.int IntKind.i64 m_Kind, TV.int IntKind.i64 m_Slot, TV.bytes (32 : Nat) m_Target, TV.int IntKind.i64 m_Member, TV.int IntKind.u64 m_Body, TV.slice m_Bits, TV.bytes (16 : Nat) m_Tag]]) h R :=
 vcFn_sound (C := ctx) ctx_ok (fn := Try.f30) Try.func30 ((by kernel_rfl : wire_Good_vc m_Kind m_Slot m_Target m_Member m_Body m_Bits m_Tag h R = vcFn ctx Try.f30 [TV.agg [TV.int IntKind.i64 m_Kind, TV.int IntKind.i64 m_Slot, TV.bytes (32 : Nat) m_Target, TV.int IntKind.i64 m_Member, TV.int IntKind.u64 m_Body, TV.slice m_Bits, TV.bytes (16 : Nat) m_Tag]] h R) ▸ H)


def slices_Contains___bool_bool__vc (s_ : Sl) (v_ : Bool) (h : Heap) (R : Value → Heap → Prop) : Prop :=
 CallsH Try.prog (62 : Nat) (TVs.vals [TV.slice s_, TV.bool v_]) h fun (v : Value) (h : Heap) ↦
 ∃ (n : Int), v = TV.val (TV.int IntKind.i64 n) ∧ R (TV.val (TV.bool (decide ((0 : Int) ≤ n)))) h

theorem slices_Contains___bool_bool__calls (s_ : Sl) (v_ : Bool) (h : Heap) (R : Value → Heap → Prop) (H : slices_Contains___bool_bool__vc s_ v_ h R) : CallsH Try.prog 50 (TVs.vals [TV.slice s_, TV.bool v_]) h R :=
 vcFn_sound (C := ctx) ctx_ok (fn := Try.f50) Try.func50 ((by kernel_rfl : slices_Contains___bool_bool__vc s_ v_ h R = vcFn ctx Try.f50 [TV.slice s_, TV.bool v_] h R) ▸ H)


def slices_Index___bool_bool__vc (s_ : Sl) (v_ : Bool) (h : Heap) (R : Value → Heap → Prop) : Prop :=
 Go.Vc.Loop ((0 : Int), (0 : Int)) h fun (s : Int × Int) (h : Array Obj) (K : Int × Int → Array Obj → Prop) ↦
 If (decide (s.snd < (↑s_.len : Int)))
 ((0 : Int) ≤ s.snd ∧
 s.snd < (↑s_.len : Int) ∧
 Nn s_.a fun (l : Go.Vc.Loc) ↦
 ∃ (b : Bool),
 at1 h l.b (l.o + Int.toNat s.snd * (1 : Nat)) (Value.bool b) ∧
 If (v_ == b) (R (TV.val (TV.int IntKind.i64 s.snd)) h) (K (s.fst, IntKind.wrap IntKind.i64 (s.snd + (1 : Int))) h))
 (R (TV.val (TV.int IntKind.i64 (-1 : Int))) h)

theorem slices_Index___bool_bool__calls (s_ : Sl) (v_ : Bool) (h : Heap) (R : Value → Heap → Prop) (H : slices_Index___bool_bool__vc s_ v_ h R) : CallsH Try.prog 62 (TVs.vals [TV.slice s_, TV.bool v_]) h R :=
 vcFn_sound (C := ctx) ctx_ok (fn := Try.f62) Try.func62 ((by kernel_rfl : slices_Index___bool_bool__vc s_ v_ h R = vcFn ctx Try.f62 [TV.slice s_, TV.bool v_] h R) ▸ H)


end Go.Proofs.Ytgdhddignbkloaa

/- The conditions of functions, as the generator reckons them out, each with the proof that it is that. -/
import Derived.Test.YtgdhddignbkloaaCtx
namespace Go.Proofs.Ytgdhddignbkloaa
open Go Go.Vc
set_option maxRecDepth 100000
set_option linter.unusedVariables false

def tollerref03_Of_vc (s_ : List UInt8) (h : Heap) (R : Value → Heap → Prop) : Prop :=
 Vc.Bind (newTV h (TV.bytes (32 : Nat) (Bs.zero (32 : Nat))) (26 : Nat)) fun (h_1 : Array Obj) ↦
 (↑(List.length s_ + List.length (ByteArray.mk #[(128 : UInt8)]).data.toList) : Int) ≤ (9223372036854775807 : Int) ∧
 Go.Vc.Loop (s_ ++ (ByteArray.mk #[(128 : UInt8)]).data.toList) h_1 fun (s : List UInt8) (h_2 : Array Obj) (K : List UInt8 → Array Obj → Prop) ↦
 (64 : Int) ≠ (0 : Int) ∧
 If (!decide (Int.tmod (↑(List.length s) : Int) (64 : Int) = (56 : Int)))
 ((↑(List.length s + List.length (ByteArray.mk #[(0 : UInt8)]).data.toList) : Int) ≤ (9223372036854775807 : Int) ∧
 K (s ++ (ByteArray.mk #[(0 : UInt8)]).data.toList) h_2)
 (Go.Vc.Loop (s, (7 : Int)) h_2 fun (s_1 : List UInt8 × Int) (h_3 : Array Obj) (K : List UInt8 × Int → Array Obj → Prop) ↦
 If (decide ((0 : Int) ≤ s_1.snd))
 ((0 : Int) ≤ IntKind.wrap IntKind.u64 (IntKind.wrap IntKind.i64 ((8 : Int) * s_1.snd)) ∧
 ∃ (bs : List UInt8),
 strAt
 (Array.push h_3
 (row
 (TVs.cells
 [TV.int IntKind.u8
 (IntKind.wrap IntKind.u8
 (Int.fdiv (IntKind.wrap IntKind.u64 (IntKind.wrap IntKind.u64 (↑(List.length s_) : Int) * (8 : Int)))
 ((2 : Int) ^
 min (Int.toNat (IntKind.wrap IntKind.u64 (IntKind.wrap IntKind.i64 ((8 : Int) * s_1.snd))))
 (IntKind.bits IntKind.u64))))])
 (5 : Nat)))
 (Sl.mk (some (Loc.mk (Array.size h_3) (0 : Nat))) (1 : Nat) (1 : Nat)) bs ∧
 (↑(List.length s_1.fst + List.length bs) : Int) ≤ (9223372036854775807 : Int) ∧
 K (s_1.fst ++ bs, IntKind.wrap IntKind.i64 (s_1.snd - (1 : Int)))
 (Array.push h_3
 (row
 (TVs.cells
 [TV.int IntKind.u8
 (IntKind.wrap IntKind.u8
 (Int.fdiv (IntKind.wrap IntKind.u64 (IntKind.wrap IntKind.u64 (↑(List.length s_) : Int) * (8 : Int)))
 ((2 : Int) ^
 min (Int.toNat (IntKind.wrap IntKind.u64 (IntKind.wrap IntKind.i64 ((8 : Int) * s_1.snd))))
 (IntKind.bits IntKind.u64))))])
 (5 : Nat))))
 (Vc.Bind (newTV h_3 (TV.words IntKind.u32 (8 : Nat) (Ws.zero (8 : Nat))) (90 : Nat)) fun (h_4 : Array Obj) ↦
 CallsH Try.prog (56 : Nat) (TVs.vals [TV.int IntKind.i64 (8 : Int)]) h_4 fun (v : Value) (h_5 : Array Obj) ↦
 ∃ (s_2 : Sl),
 v = TV.val (TV.slice s_2) ∧
 Go.Vc.Loop (0 : Int) h_5 fun (s_3 : Int) (h_6 : Array Obj) (K : Int → Array Obj → Prop) ↦
 If (decide (s_3 < (↑s_2.len : Int)))
 ((0 : Int) ≤ s_3 ∧
 s_3 < (↑s_2.len : Int) ∧
 Nn s_2.a fun (l : Go.Vc.Loc) ↦
 ∃ (n : Int),
 at1 h_6 l.b (l.o + Int.toNat s_3 * (1 : Nat)) (Value.int IntKind.u64 n) ∧
 CallsH Try.prog (57 : Nat) (TVs.vals [TV.int IntKind.u64 n, TV.int IntKind.i64 (2 : Int)]) h_6
 fun (v : Value) (h : Array Obj) ↦
 ∃ (n : Int),
 v = TV.val (TV.int IntKind.u32 n) ∧
 (0 : Int) ≤ s_3 ∧
 s_3 < (↑(8 : Nat) : Int) ∧
 wok h (Array.size h_3) ((0 : Nat) + Int.toNat s_3 * (1 : Nat)) (1 : Nat) ∧
 Vc.Bind (TV.put h (Array.size h_3) ((0 : Nat) + Int.toNat s_3 * (1 : Nat)) (TV.int IntKind.u32 n))
 fun (h : Array Obj) ↦ K (IntKind.wrap IntKind.i64 (s_3 + (1 : Int))) h)
 (Vc.Bind (newTV h_6 (TV.words IntKind.u32 (64 : Nat) (Ws.zero (64 : Nat))) (94 : Nat)) fun (h_7 : Array Obj) ↦
 CallsH Try.prog (56 : Nat) (TVs.vals [TV.int IntKind.i64 (64 : Int)]) h_7 fun (v : Value) (h_8 : Array Obj) ↦
 ∃ (s_4 : Sl),
 v = TV.val (TV.slice s_4) ∧
 Go.Vc.Loop (0 : Int) h_8 fun (s_5 : Int) (h_9 : Array Obj) (K : Int → Array Obj → Prop) ↦
 If (decide (s_5 < (↑s_4.len : Int)))
 ((0 : Int) ≤ s_5 ∧
 s_5 < (↑s_4.len : Int) ∧
 Nn s_4.a fun (l : Go.Vc.Loc) ↦
 ∃ (n : Int),
 at1 h_9 l.b (l.o + Int.toNat s_5 * (1 : Nat)) (Value.int IntKind.u64 n) ∧
 CallsH Try.prog (57 : Nat) (TVs.vals [TV.int IntKind.u64 n, TV.int IntKind.i64 (3 : Int)]) h_9
 fun (v : Value) (h : Array Obj) ↦
 ∃ (n : Int),
 v = TV.val (TV.int IntKind.u32 n) ∧
 (0 : Int) ≤ s_5 ∧
 s_5 < (↑(64 : Nat) : Int) ∧
 wok h (Array.size h_6) ((0 : Nat) + Int.toNat s_5 * (1 : Nat)) (1 : Nat) ∧
 Vc.Bind (TV.put h (Array.size h_6) ((0 : Nat) + Int.toNat s_5 * (1 : Nat)) (TV.int IntKind.u32 n))
 fun (h : Array Obj) ↦ K (IntKind.wrap IntKind.i64 (s_5 + (1 : Int))) h)
 (Go.Vc.Loop (0 : Int) h_9 fun (s_6 : Int) (h_10 : Array Obj) (K : Int → Array Obj → Prop) ↦
 If (decide (s_6 < (↑(List.length s_1.fst) : Int)))
 (∃ (w : Ws (8 : Nat)),
 atWords h_10 (Array.size h_3) (0 : Nat) IntKind.u32 (8 : Nat) w ∧
 ∃ (w_1 : Ws (64 : Nat)),
 atWords h_10 (Array.size h_6) (0 : Nat) IntKind.u32 (64 : Nat) w_1 ∧
 (0 : Int) ≤ IntKind.wrap IntKind.i64 (s_6 + (64 : Int)) ∧
 IntKind.wrap IntKind.i64 (s_6 + (64 : Int)) ≤ (↑(List.length s_1.fst) : Int) ∧
 (0 : Int) ≤ s_6 ∧
 s_6 ≤ IntKind.wrap IntKind.i64 (s_6 + (64 : Int)) ∧
 CallsH Try.prog (58 : Nat)
 (TVs.vals
 [TV.words IntKind.u32 (8 : Nat) w, TV.words IntKind.u32 (64 : Nat) w_1,
 TV.str
 (List.take (Int.toNat (IntKind.wrap IntKind.i64 (s_6 + (64 : Int))) - Int.toNat s_6)
 (List.drop (Int.toNat s_6) s_1.fst))])
 h_10 fun (v : Value) (h : Array Obj) ↦
 ∃ (w : Ws (8 : Nat)),
 v = TV.val (TV.words IntKind.u32 (8 : Nat) w) ∧
 wok h (Array.size h_3) (0 : Nat) (8 : Nat) ∧
 Vc.Bind (TV.put h (Array.size h_3) (0 : Nat) (TV.words IntKind.u32 (8 : Nat) w))
 fun (h : Array Obj) ↦ K (IntKind.wrap IntKind.i64 (s_6 + (64 : Int))) h)
 (Vc.Bind (newTV h_10 (TV.bytes (32 : Nat) (Bs.zero (32 : Nat))) (26 : Nat)) fun (h_11 : Array Obj) ↦
 Go.Vc.Loop (0 : Int) h_11 fun (s : Int) (h_12 : Array Obj) (K : Int → Array Obj → Prop) ↦
 If (decide (s < (32 : Int)))
 ((4 : Int) ≠ (0 : Int) ∧
 (0 : Int) ≤ IntKind.wrap IntKind.i64 (Int.tdiv s (4 : Int)) ∧
 IntKind.wrap IntKind.i64 (Int.tdiv s (4 : Int)) < (↑(8 : Nat) : Int) ∧
 ∃ (n : Int),
 at1 h_12 (Array.size h_3)
 ((0 : Nat) + Int.toNat (IntKind.wrap IntKind.i64 (Int.tdiv s (4 : Int))) * (1 : Nat))
 (Value.int IntKind.u32 n) ∧
 (4 : Int) ≠ (0 : Int) ∧
 (0 : Int) ≤
 IntKind.wrap IntKind.u64
 (IntKind.wrap IntKind.i64
 ((24 : Int) - IntKind.wrap IntKind.i64 ((8 : Int) * Int.tmod s (4 : Int)))) ∧
 (0 : Int) ≤ s ∧
 s < (↑(32 : Nat) : Int) ∧
 wok h_12 (Array.size h_10) ((0 : Nat) + Int.toNat s * (1 : Nat)) (1 : Nat) ∧
 Vc.Bind
 (TV.put h_12 (Array.size h_10) ((0 : Nat) + Int.toNat s * (1 : Nat))
 (TV.int IntKind.u8
 (IntKind.wrap IntKind.u8
 (Int.fdiv n
 ((2 : Int) ^
 min
 (Int.toNat
 (IntKind.wrap IntKind.u64
 (IntKind.wrap IntKind.i64
 ((24 : Int) -
 IntKind.wrap IntKind.i64 ((8 : Int) * Int.tmod s (4 : Int))))))
 (IntKind.bits IntKind.u32))))))
 fun (h : Array Obj) ↦ K (IntKind.wrap IntKind.i64 (s + (1 : Int))) h)
 (∃ (b : Bs (32 : Nat)),
 atBytes h_12 (Array.size h_10) (0 : Nat) (32 : Nat) b ∧
 wok h_12 (Array.size h) (0 : Nat) (32 : Nat) ∧
 Vc.Bind (TV.put h_12 (Array.size h) (0 : Nat) (TV.bytes (32 : Nat) b)) fun (h_13 : Array Obj) ↦
 ∃ (b : Bs (32 : Nat)),
 atBytes h_13 (Array.size h) (0 : Nat) (32 : Nat) b ∧ R (TV.val (TV.bytes (32 : Nat) b)) h_13))))))

theorem tollerref03_Of_calls (s_ : List UInt8) (h : Heap) (R : Value → Heap → Prop) (H : tollerref03_Of_vc s_ h R) : CallsH Try.prog 43 (TVs.vals [TV.str s_]) h R :=
 vcFn_sound (C := ctx) ctx_ok (fn := Try.f43) Try.func43 ((by kernel_rfl : tollerref03_Of_vc s_ h R = vcFn ctx Try.f43 [TV.str s_] h R) ▸ H)


def tollerref03_primes_vc (n : Int) (h : Heap) (R : Value → Heap → Prop) : Prop :=
 Go.Vc.Loop (Sl.mk none (0 : Nat) (0 : Nat), (2 : Int)) h fun (s : Sl × Int) (h : Array Obj) (K : Sl × Int → Array Obj → Prop) ↦
 If (decide ((↑s.fst.len : Int) < n))
 (Go.Vc.Loop (true, (0 : Int)) h fun (s_1 : Bool × Int) (h : Array Obj) (K_1 : Bool × Int → Array Obj → Prop) ↦
 If (decide (s_1.snd < (↑s.fst.len : Int)))
 ((0 : Int) ≤ s_1.snd ∧
 s_1.snd < (↑s.fst.len : Int) ∧
 Nn s.fst.a fun (l : Go.Vc.Loc) ↦
 ∃ (n : Int),
 at1 h l.b (l.o + Int.toNat s_1.snd * (1 : Nat)) (Value.int IntKind.u64 n) ∧
 If s_1.fst (n ≠ (0 : Int) ∧ K_1 (!decide (Int.tmod s.snd n = (0 : Int)), IntKind.wrap IntKind.i64 (s_1.snd + (1 : Int))) h)
 (K_1 (false, IntKind.wrap IntKind.i64 (s_1.snd + (1 : Int))) h))
 (If s_1.fst
 (∃ (new : List Value),
 slAt (Array.push h (row (TVs.cells [TV.int IntKind.u64 s.snd]) (27 : Nat))) (Sl.mk (some (Loc.mk (Array.size h) (0 : Nat))) (1 : Nat) (1 : Nat))
 (1 : Nat) new ∧
 (∀ (v : Value), v ∈ new → isOne v = true) ∧
 vcAppend Ytgdhddignbkloaa.ctx (27 : Nat) s.fst (1 : Nat) new (Array.push h (row (TVs.cells [TV.int IntKind.u64 s.snd]) (27 : Nat)))
 fun (s_2 : Sl) (h : Array Obj) ↦ K (s_2, IntKind.wrap IntKind.u64 (s.snd + (1 : Int))) h)
 (K (s.fst, IntKind.wrap IntKind.u64 (s.snd + (1 : Int))) h)))
 (R (TV.val (TV.slice s.fst)) h)

theorem tollerref03_primes_calls (n : Int) (h : Heap) (R : Value → Heap → Prop) (H : tollerref03_primes_vc n h R) : CallsH Try.prog 56 (TVs.vals [TV.int IntKind.i64 n]) h R :=
 vcFn_sound (C := ctx) ctx_ok (fn := Try.f56) Try.func56 ((by kernel_rfl : tollerref03_primes_vc n h R = vcFn ctx Try.f56 [TV.int IntKind.i64 n] h R) ▸ H)


def tollerref03_root_vc (p : Int) (power : Int) (h : Heap) (R : Value → Heap → Prop) : Prop :=
 Go.Vc.Loop ((0 : Int), (39 : Int)) h fun (s : Int × Int) (h : Array Obj) (K : Int × Int → Array Obj → Prop) ↦
 If (decide ((0 : Int) ≤ s.snd))
 ((0 : Int) ≤ IntKind.wrap IntKind.u64 s.snd ∧
 CallsH Try.prog (66 : Nat)
 (TVs.vals
 [TV.int IntKind.u64
 (IntKind.wrap IntKind.u64
 (s.fst + IntKind.wrap IntKind.u64 ((1 : Int) * (2 : Int) ^ min (Int.toNat (IntKind.wrap IntKind.u64 s.snd)) (IntKind.bits IntKind.u64)))),
 TV.int IntKind.u64 p, TV.int IntKind.i64 power])
 h fun (v : Value) (h : Array Obj) ↦
 ∃ (b : Bool),
 v = TV.val (TV.bool b) ∧
 If (!b)
 ((0 : Int) ≤ IntKind.wrap IntKind.u64 s.snd ∧
 K
 (IntKind.wrap IntKind.u64
 (s.fst + IntKind.wrap IntKind.u64 ((1 : Int) * (2 : Int) ^ min (Int.toNat (IntKind.wrap IntKind.u64 s.snd)) (IntKind.bits IntKind.u64))),
 IntKind.wrap IntKind.i64 (s.snd - (1 : Int)))
 h)
 (K (s.fst, IntKind.wrap IntKind.i64 (s.snd - (1 : Int))) h))
 ((4294967296 : Int) ≠ (0 : Int) ∧ R (TV.val (TV.int IntKind.u32 (IntKind.wrap IntKind.u32 (Int.tmod s.fst (4294967296 : Int))))) h)

theorem tollerref03_root_calls (p : Int) (power : Int) (h : Heap) (R : Value → Heap → Prop) (H : tollerref03_root_vc p power h R) : CallsH Try.prog 57 (TVs.vals [TV.int IntKind.u64 p, TV.int IntKind.i64 power]) h R :=
 vcFn_sound (C := ctx) ctx_ok (fn := Try.f57) Try.func57 ((by kernel_rfl : tollerref03_root_vc p power h R = vcFn ctx Try.f57 [TV.int IntKind.u64 p, TV.int IntKind.i64 power] h R) ▸ H)


def tollerref03_block_vc (h_ : Ws (8 : Nat)) (keys : Ws (64 : Nat)) (s_ : List UInt8) (h : Heap) (R : Value → Heap → Prop) : Prop :=
 Vc.Bind (newTV h (TV.words IntKind.u32 (8 : Nat) h_) (90 : Nat)) fun (h_1 : Array Obj) ↦
 Vc.Bind (newTV h_1 (TV.words IntKind.u32 (64 : Nat) keys) (94 : Nat)) fun (h_2 : Array Obj) ↦
 Vc.Bind (newTV h_2 (TV.words IntKind.u32 (8 : Nat) (Ws.zero (8 : Nat))) (90 : Nat)) fun (h_3 : Array Obj) ↦
 Vc.Bind (newTV h_3 (TV.words IntKind.u32 (64 : Nat) (Ws.zero (64 : Nat))) (94 : Nat)) fun (h_4 : Array Obj) ↦
 Go.Vc.Loop (0 : Int) h_4 fun (s : Int) (h_5 : Array Obj) (K : Int → Array Obj → Prop) ↦
 If (decide (s < (64 : Int)))
 (If (decide (s < (16 : Int)))
 (Go.Vc.Loop (0 : Int) h_5 fun (s_1 : Int) (h : Array Obj) (K_1 : Int → Array Obj → Prop) ↦
 If (decide (s_1 < (4 : Int)))
 ((0 : Int) ≤ s ∧
 s < (↑(64 : Nat) : Int) ∧
 ∃ (n : Int),
 at1 h (Array.size h_3) ((0 : Nat) + Int.toNat s * (1 : Nat)) (Value.int IntKind.u32 n) ∧
 (0 : Int) ≤ IntKind.wrap IntKind.i64 (IntKind.wrap IntKind.i64 ((4 : Int) * s) + s_1) ∧
 IntKind.wrap IntKind.i64 (IntKind.wrap IntKind.i64 ((4 : Int) * s) + s_1) < (↑(List.length s_) : Int) ∧
 (0 : Int) ≤ s ∧
 s < (↑(64 : Nat) : Int) ∧
 wok h (Array.size h_3) ((0 : Nat) + Int.toNat s * (1 : Nat)) (1 : Nat) ∧
 Vc.Bind
 (TV.put h (Array.size h_3) ((0 : Nat) + Int.toNat s * (1 : Nat))
 (TV.int IntKind.u32
 (IntKind.wrap IntKind.u32
 (IntKind.wrap IntKind.u32 (n * (256 : Int)) +
 IntKind.wrap IntKind.u32
 (↑(UInt8.toNat
 (List.getD s_ (Int.toNat (IntKind.wrap IntKind.i64 (IntKind.wrap IntKind.i64 ((4 : Int) * s) + s_1)))
 (0 : UInt8))) :
 Int)))))
 fun (h : Array Obj) ↦ K_1 (IntKind.wrap IntKind.i64 (s_1 + (1 : Int))) h)
 (K (IntKind.wrap IntKind.i64 (s + (1 : Int))) h))
 ((0 : Int) ≤ IntKind.wrap IntKind.i64 (s - (15 : Int)) ∧
 IntKind.wrap IntKind.i64 (s - (15 : Int)) < (↑(64 : Nat) : Int) ∧
 ∃ (n : Int),
 at1 h_5 (Array.size h_3) ((0 : Nat) + Int.toNat (IntKind.wrap IntKind.i64 (s - (15 : Int))) * (1 : Nat)) (Value.int IntKind.u32 n) ∧
 (0 : Int) ≤ IntKind.wrap IntKind.i64 (s - (2 : Int)) ∧
 IntKind.wrap IntKind.i64 (s - (2 : Int)) < (↑(64 : Nat) : Int) ∧
 ∃ (n_1 : Int),
 at1 h_5 (Array.size h_3) ((0 : Nat) + Int.toNat (IntKind.wrap IntKind.i64 (s - (2 : Int))) * (1 : Nat))
 (Value.int IntKind.u32 n_1) ∧
 (0 : Int) ≤ IntKind.wrap IntKind.i64 (s - (16 : Int)) ∧
 IntKind.wrap IntKind.i64 (s - (16 : Int)) < (↑(64 : Nat) : Int) ∧
 ∃ (n_2 : Int),
 at1 h_5 (Array.size h_3) ((0 : Nat) + Int.toNat (IntKind.wrap IntKind.i64 (s - (16 : Int))) * (1 : Nat))
 (Value.int IntKind.u32 n_2) ∧
 (0 : Int) ≤ IntKind.wrap IntKind.i64 (s - (7 : Int)) ∧
 IntKind.wrap IntKind.i64 (s - (7 : Int)) < (↑(64 : Nat) : Int) ∧
 ∃ (n_3 : Int),
 at1 h_5 (Array.size h_3) ((0 : Nat) + Int.toNat (IntKind.wrap IntKind.i64 (s - (7 : Int))) * (1 : Nat))
 (Value.int IntKind.u32 n_3) ∧
 (0 : Int) ≤ (3 : Int) ∧
 (0 : Int) ≤ (10 : Int) ∧
 CallsH Try.prog (67 : Nat) (TVs.vals [TV.int IntKind.u32 n, TV.int IntKind.i64 (7 : Int)]) h_5
 fun (v : Value) (h : Array Obj) ↦
 ∃ (n_4 : Int),
 v = TV.val (TV.int IntKind.u32 n_4) ∧
 Ext h_5 h ∧
 CallsH Try.prog (67 : Nat) (TVs.vals [TV.int IntKind.u32 n, TV.int IntKind.i64 (18 : Int)]) h
 fun (v : Value) (h_6 : Array Obj) ↦
 ∃ (n_5 : Int),
 v = TV.val (TV.int IntKind.u32 n_5) ∧
 Ext h h_6 ∧
 CallsH Try.prog (67 : Nat) (TVs.vals [TV.int IntKind.u32 n_1, TV.int IntKind.i64 (17 : Int)])
 h_6 fun (v : Value) (h : Array Obj) ↦
 ∃ (n_6 : Int),
 v = TV.val (TV.int IntKind.u32 n_6) ∧
 Ext h_6 h ∧
 CallsH Try.prog (67 : Nat)
 (TVs.vals [TV.int IntKind.u32 n_1, TV.int IntKind.i64 (19 : Int)]) h
 fun (v : Value) (h_7 : Array Obj) ↦
 ∃ (n_7 : Int),
 v = TV.val (TV.int IntKind.u32 n_7) ∧
 Ext h h_7 ∧
 (0 : Int) ≤ s ∧
 s < (↑(64 : Nat) : Int) ∧
 wok h_7 (Array.size h_3) ((0 : Nat) + Int.toNat s * (1 : Nat)) (1 : Nat) ∧
 Vc.Bind
 (TV.put h_7 (Array.size h_3) ((0 : Nat) + Int.toNat s * (1 : Nat))
 (TV.int IntKind.u32
 (IntKind.wrap IntKind.u32
 (IntKind.wrap IntKind.u32
 (IntKind.wrap IntKind.u32 (n_2 + n_3) +
 IntKind.wrap IntKind.u32
 (↑(BitVec.toNat
 (BitVec.ofInt (IntKind.bits IntKind.u32)
 (IntKind.wrap IntKind.u32
 (↑(BitVec.toNat
 (BitVec.ofInt
 (IntKind.bits IntKind.u32) n_4 ^^^
 BitVec.ofInt
 (IntKind.bits IntKind.u32) n_5)) :
 Int)) ^^^
 BitVec.ofInt (IntKind.bits IntKind.u32)
 (Int.fdiv n
 ((2 : Int) ^
 min (Int.toNat (3 : Int))
 (IntKind.bits IntKind.u32))))) :
 Int)) +
 IntKind.wrap IntKind.u32
 (↑(BitVec.toNat
 (BitVec.ofInt (IntKind.bits IntKind.u32)
 (IntKind.wrap IntKind.u32
 (↑(BitVec.toNat
 (BitVec.ofInt (IntKind.bits IntKind.u32)
 n_6 ^^^
 BitVec.ofInt (IntKind.bits IntKind.u32)
 n_7)) :
 Int)) ^^^
 BitVec.ofInt (IntKind.bits IntKind.u32)
 (Int.fdiv n_1
 ((2 : Int) ^
 min (Int.toNat (10 : Int))
 (IntKind.bits IntKind.u32))))) :
 Int)))))
 fun (h : Array Obj) ↦ K (IntKind.wrap IntKind.i64 (s + (1 : Int))) h))
 ((0 : Int) ≤ (0 : Int) ∧
 (0 : Int) < (↑(8 : Nat) : Int) ∧
 ∃ (n : Int),
 at1 h_5 (Array.size h) ((0 : Nat) + Int.toNat (0 : Int) * (1 : Nat)) (Value.int IntKind.u32 n) ∧
 (0 : Int) ≤ (1 : Int) ∧
 (1 : Int) < (↑(8 : Nat) : Int) ∧
 ∃ (n_1 : Int),
 at1 h_5 (Array.size h) ((0 : Nat) + Int.toNat (1 : Int) * (1 : Nat)) (Value.int IntKind.u32 n_1) ∧
 (0 : Int) ≤ (2 : Int) ∧
 (2 : Int) < (↑(8 : Nat) : Int) ∧
 ∃ (n_2 : Int),
 at1 h_5 (Array.size h) ((0 : Nat) + Int.toNat (2 : Int) * (1 : Nat)) (Value.int IntKind.u32 n_2) ∧
 (0 : Int) ≤ (3 : Int) ∧
 (3 : Int) < (↑(8 : Nat) : Int) ∧
 ∃ (n_3 : Int),
 at1 h_5 (Array.size h) ((0 : Nat) + Int.toNat (3 : Int) * (1 : Nat)) (Value.int IntKind.u32 n_3) ∧
 (0 : Int) ≤ (4 : Int) ∧
 (4 : Int) < (↑(8 : Nat) : Int) ∧
 ∃ (n_4 : Int),
 at1 h_5 (Array.size h) ((0 : Nat) + Int.toNat (4 : Int) * (1 : Nat)) (Value.int IntKind.u32 n_4) ∧
 (0 : Int) ≤ (5 : Int) ∧
 (5 : Int) < (↑(8 : Nat) : Int) ∧
 ∃ (n_5 : Int),
 at1 h_5 (Array.size h) ((0 : Nat) + Int.toNat (5 : Int) * (1 : Nat)) (Value.int IntKind.u32 n_5) ∧
 (0 : Int) ≤ (6 : Int) ∧
 (6 : Int) < (↑(8 : Nat) : Int) ∧
 ∃ (n_6 : Int),
 at1 h_5 (Array.size h) ((0 : Nat) + Int.toNat (6 : Int) * (1 : Nat))
 (Value.int IntKind.u32 n_6) ∧
 (0 : Int) ≤ (7 : Int) ∧
 (7 : Int) < (↑(8 : Nat) : Int) ∧
 ∃ (n_7 : Int),
 at1 h_5 (Array.size h) ((0 : Nat) + Int.toNat (7 : Int) * (1 : Nat))
 (Value.int IntKind.u32 n_7) ∧
 Go.Vc.Loop (n, n_1, n_2, n_3, n_4, n_5, n_6, n_7, (0 : Int)) h_5
 fun (s_1 : Int × Int × Int × Int × Int × Int × Int × Int × Int) (h_6 : Array Obj)
 (K : Int × Int × Int × Int × Int × Int × Int × Int × Int → Array Obj → Prop) ↦
 If (decide (s_1.snd.snd.snd.snd.snd.snd.snd.snd < (64 : Int)))
 ((0 : Int) ≤ s_1.snd.snd.snd.snd.snd.snd.snd.snd ∧
 s_1.snd.snd.snd.snd.snd.snd.snd.snd < (↑(64 : Nat) : Int) ∧
 ∃ (n_8 : Int),
 at1 h_6 (Array.size h_1)
 ((0 : Nat) +
 Int.toNat s_1.snd.snd.snd.snd.snd.snd.snd.snd * (1 : Nat))
 (Value.int IntKind.u32 n_8) ∧
 (0 : Int) ≤ s_1.snd.snd.snd.snd.snd.snd.snd.snd ∧
 s_1.snd.snd.snd.snd.snd.snd.snd.snd < (↑(64 : Nat) : Int) ∧
 ∃ (n_9 : Int),
 at1 h_6 (Array.size h_3)
 ((0 : Nat) +
 Int.toNat s_1.snd.snd.snd.snd.snd.snd.snd.snd * (1 : Nat))
 (Value.int IntKind.u32 n_9) ∧
 CallsH Try.prog (67 : Nat)
 (TVs.vals
 [TV.int IntKind.u32 s_1.snd.snd.snd.snd.fst,
 TV.int IntKind.i64 (6 : Int)])
 h_6 fun (v : Value) (h_7 : Array Obj) ↦
 ∃ (n_10 : Int),
 v = TV.val (TV.int IntKind.u32 n_10) ∧
 Ext h_6 h_7 ∧
 CallsH Try.prog (67 : Nat)
 (TVs.vals
 [TV.int IntKind.u32 s_1.snd.snd.snd.snd.fst,
 TV.int IntKind.i64 (11 : Int)])
 h_7 fun (v : Value) (h_8 : Array Obj) ↦
 ∃ (n_11 : Int),
 v = TV.val (TV.int IntKind.u32 n_11) ∧
 Ext h_7 h_8 ∧
 CallsH Try.prog (67 : Nat)
 (TVs.vals
 [TV.int IntKind.u32 s_1.snd.snd.snd.snd.fst,
 TV.int IntKind.i64 (25 : Int)])
 h_8 fun (v : Value) (h_9 : Array Obj) ↦
 ∃ (n_12 : Int),
 v = TV.val (TV.int IntKind.u32 n_12) ∧
 Ext h_8 h_9 ∧
 CallsH Try.prog (67 : Nat)
 (TVs.vals
 [TV.int IntKind.u32 s_1.fst,
 TV.int IntKind.i64 (2 : Int)])
 h_9
 fun (v : Value) (h_10 : Array Obj) ↦
 ∃ (n_13 : Int),
 v =
 TV.val
 (TV.int IntKind.u32 n_13) ∧
 CallsH Try.prog (67 : Nat)
 (TVs.vals
 [TV.int IntKind.u32 s_1.fst,
 TV.int IntKind.i64
 (13 : Int)])
 h_10
 fun (v : Value)
 (h_11 : Array Obj) ↦
 ∃ (n_14 : Int),
 v =
 TV.val
 (TV.int IntKind.u32
 n_14) ∧
 CallsH Try.prog (67 : Nat)
 (TVs.vals
 [TV.int IntKind.u32
 s_1.fst,
 TV.int IntKind.i64
 (22 : Int)])
 h_11
 fun (v : Value)
 (h_12 : Array Obj) ↦
 ∃ (n_15 : Int),
 v =
 TV.val
 (TV.int
 IntKind.u32
 n_15) ∧
 K
 (IntKind.wrap
 IntKind.u32
 (IntKind.wrap
 IntKind.u32
 (IntKind.wrap
 IntKind.u32
 (IntKind.wrap
 IntKind.u32
 (IntKind.wrap
 IntKind.u32
 (s_1.snd.snd.snd.snd.snd.snd.snd.fst +
 IntKind.wrap
 IntKind.u32
 (↑(BitVec.toNat
 (BitVec.ofInt
 (IntKind.bits
 IntKind.u32)
 (IntKind.wrap
 IntKind.u32
 (↑(BitVec.toNat
 (BitVec.ofInt
 (IntKind.bits
 IntKind.u32)
 n_10 ^^^
 BitVec.ofInt
 (IntKind.bits
 IntKind.u32)
 n_11)) :
 Int)) ^^^
 BitVec.ofInt
 (IntKind.bits
 IntKind.u32)
 n_12)) :
 Int)) +
 IntKind.wrap
 IntKind.u32
 (↑(BitVec.toNat
 (BitVec.ofInt
 (IntKind.bits
 IntKind.u32)
 (IntKind.wrap
 IntKind.u32
 (↑(BitVec.toNat
 (BitVec.ofInt
 (IntKind.bits
 IntKind.u32)
 s_1.snd.snd.snd.snd.fst &&&
 BitVec.ofInt
 (IntKind.bits
 IntKind.u32)
 s_1.snd.snd.snd.snd.snd.fst)) :
 Int)) ^^^
 BitVec.ofInt
 (IntKind.bits
 IntKind.u32)
 (IntKind.wrap
 IntKind.u32
 (↑(BitVec.toNat
 (BitVec.ofInt
 (IntKind.bits
 IntKind.u32)
 (IntKind.wrap
 IntKind.u32
 (↑(BitVec.toNat
 (BitVec.ofInt
 (IntKind.bits
 IntKind.u32)
 (if
 IntKind.signed
 IntKind.u32 =
 true then
 (-1 :
 Int)
 else
 IntKind.max
 IntKind.u32) ^^^
 BitVec.ofInt
 (IntKind.bits
 IntKind.u32)
 s_1.snd.snd.snd.snd.fst)) :
 Int)) &&&
 BitVec.ofInt
 (IntKind.bits
 IntKind.u32)
 s_1.snd.snd.snd.snd.snd.snd.fst)) :
 Int)))) :
 Int)) +
 n_8) +
 n_9) +
 IntKind.wrap
 IntKind.u32
 (IntKind.wrap
 IntKind.u32
 (↑(BitVec.toNat
 (BitVec.ofInt
 (IntKind.bits
 IntKind.u32)
 (IntKind.wrap
 IntKind.u32
 (↑(BitVec.toNat
 (BitVec.ofInt
 (IntKind.bits
 IntKind.u32)
 n_13 ^^^
 BitVec.ofInt
 (IntKind.bits
 IntKind.u32)
 n_14)) :
 Int)) ^^^
 BitVec.ofInt
 (IntKind.bits
 IntKind.u32)
 n_15)) :
 Int) +
 IntKind.wrap
 IntKind.u32
 (↑(BitVec.toNat
 (BitVec.ofInt
 (IntKind.bits
 IntKind.u32)
 (IntKind.wrap
 IntKind.u32
 (↑(BitVec.toNat
 (BitVec.ofInt
 (IntKind.bits
 IntKind.u32)
 (IntKind.wrap
 IntKind.u32
 (↑(BitVec.toNat
 (BitVec.ofInt
 (IntKind.bits
 IntKind.u32)
 s_1.fst &&&
 BitVec.ofInt
 (IntKind.bits
 IntKind.u32)
 s_1.snd.fst)) :
 Int)) ^^^
 BitVec.ofInt
 (IntKind.bits
 IntKind.u32)
 (IntKind.wrap
 IntKind.u32
 (↑(BitVec.toNat
 (BitVec.ofInt
 (IntKind.bits
 IntKind.u32)
 s_1.fst &&&
 BitVec.ofInt
 (IntKind.bits
 IntKind.u32)
 s_1.snd.snd.fst)) :
 Int)))) :
 Int)) ^^^
 BitVec.ofInt
 (IntKind.bits
 IntKind.u32)
 (IntKind.wrap
 IntKind.u32
 (↑(BitVec.toNat
 (BitVec.ofInt
 (IntKind.bits
 IntKind.u32)
 s_1.snd.fst &&&
 BitVec.ofInt
 (IntKind.bits
 IntKind.u32)
 s_1.snd.snd.fst)) :
 Int)))) :
 Int))),
 s_1.fst,
 s_1.snd.fst,
 s_1.snd.snd.fst,
 IntKind.wrap
 IntKind.u32
 (s_1.snd.snd.snd.fst +
 IntKind.wrap
 IntKind.u32
 (IntKind.wrap
 IntKind.u32
 (IntKind.wrap
 IntKind.u32
 (IntKind.wrap
 IntKind.u32
 (s_1.snd.snd.snd.snd.snd.snd.snd.fst +
 IntKind.wrap
 IntKind.u32
 (↑(BitVec.toNat
 (BitVec.ofInt
 (IntKind.bits
 IntKind.u32)
 (IntKind.wrap
 IntKind.u32
 (↑(BitVec.toNat
 (BitVec.ofInt
 (IntKind.bits
 IntKind.u32)
 n_10 ^^^
 BitVec.ofInt
 (IntKind.bits
 IntKind.u32)
 n_11)) :
 Int)) ^^^
 BitVec.ofInt
 (IntKind.bits
 IntKind.u32)
 n_12)) :
 Int)) +
 IntKind.wrap
 IntKind.u32
 (↑(BitVec.toNat
 (BitVec.ofInt
 (IntKind.bits
 IntKind.u32)
 (IntKind.wrap
 IntKind.u32
 (↑(BitVec.toNat
 (BitVec.ofInt
 (IntKind.bits
 IntKind.u32)
 s_1.snd.snd.snd.snd.fst &&&
 BitVec.ofInt
 (IntKind.bits
 IntKind.u32)
 s_1.snd.snd.snd.snd.snd.fst)) :
 Int)) ^^^
 BitVec.ofInt
 (IntKind.bits
 IntKind.u32)
 (IntKind.wrap
 IntKind.u32
 (↑(BitVec.toNat
 (BitVec.ofInt
 (IntKind.bits
 IntKind.u32)
 (IntKind.wrap
 IntKind.u32
 (↑(BitVec.toNat
 (BitVec.ofInt
 (IntKind.bits
 IntKind.u32)
 (if
 IntKind.signed
 IntKind.u32 =
 true then
 (-1 :
 Int)
 else
 IntKind.max
 IntKind.u32) ^^^
 BitVec.ofInt
 (IntKind.bits
 IntKind.u32)
 s_1.snd.snd.snd.snd.fst)) :
 Int)) &&&
 BitVec.ofInt
 (IntKind.bits
 IntKind.u32)
 s_1.snd.snd.snd.snd.snd.snd.fst)) :
 Int)))) :
 Int)) +
 n_8) +
 n_9)),
 s_1.snd.snd.snd.snd.fst,
 s_1.snd.snd.snd.snd.snd.fst,
 s_1.snd.snd.snd.snd.snd.snd.fst,
 IntKind.wrap
 IntKind.i64
 (s_1.snd.snd.snd.snd.snd.snd.snd.snd +
 (1 : Int)))
 h_12)
 ((0 : Int) ≤ (0 : Int) ∧
 (0 : Int) < (↑(8 : Nat) : Int) ∧
 ∃ (n_8 : Int),
 at1 h_6 (Array.size h) ((0 : Nat) + Int.toNat (0 : Int) * (1 : Nat))
 (Value.int IntKind.u32 n_8) ∧
 (0 : Int) ≤ (1 : Int) ∧
 (1 : Int) < (↑(8 : Nat) : Int) ∧
 ∃ (n_9 : Int),
 at1 h_6 (Array.size h)
 ((0 : Nat) + Int.toNat (1 : Int) * (1 : Nat))
 (Value.int IntKind.u32 n_9) ∧
 (0 : Int) ≤ (2 : Int) ∧
 (2 : Int) < (↑(8 : Nat) : Int) ∧
 ∃ (n_10 : Int),
 at1 h_6 (Array.size h)
 ((0 : Nat) + Int.toNat (2 : Int) * (1 : Nat))
 (Value.int IntKind.u32 n_10) ∧
 (0 : Int) ≤ (3 : Int) ∧
 (3 : Int) < (↑(8 : Nat) : Int) ∧
 ∃ (n_11 : Int),
 at1 h_6 (Array.size h)
 ((0 : Nat) + Int.toNat (3 : Int) * (1 : Nat))
 (Value.int IntKind.u32 n_11) ∧
 (0 : Int) ≤ (4 : Int) ∧
 (4 : Int) < (↑(8 : Nat) : Int) ∧
 ∃ (n_12 : Int),
 at1 h_6 (Array.size h)
 ((0 : Nat) +
 Int.toNat (4 : Int) * (1 : Nat))
 (Value.int IntKind.u32 n_12) ∧
 (0 : Int) ≤ (5 : Int) ∧
 (5 : Int) < (↑(8 : Nat) : Int) ∧
 ∃ (n_13 : Int),
 at1 h_6 (Array.size h)
 ((0 : Nat) +
 Int.toNat (5 : Int) *
 (1 : Nat))
 (Value.int IntKind.u32 n_13) ∧
 (0 : Int) ≤ (6 : Int) ∧
 (6 : Int) <
 (↑(8 : Nat) : Int) ∧
 ∃ (n_14 : Int),
 at1 h_6 (Array.size h)
 ((0 : Nat) +
 Int.toNat
 (6 : Int) *
 (1 : Nat))
 (Value.int IntKind.u32
 n_14) ∧
 (0 : Int) ≤ (7 : Int) ∧
 (7 : Int) <
 (↑(8 : Nat) :
 Int) ∧
 ∃ (n_15 : Int),
 at1 h_6
 (Array.size h)
 ((0 : Nat) +
 Int.toNat
 (7 :
 Int) *
 (1 : Nat))
 (Value.int
 IntKind.u32
 n_15) ∧
 wok h_6
 (Array.size
 h_2)
 (0 : Nat)
 (8 : Nat) ∧
 Vc.Bind
 (TV.put h_6
 (Array.size
 h_2)
 (0 : Nat)
 (TV.words
 IntKind.u32
 (8 :
 Nat)
 (Ws.set
 (Ws.set
 (Ws.set
 (Ws.set
 (Ws.set
 (Ws.set
 (Ws.set
 (Ws.set
 (Ws.zero
 (8 :
 Nat))
 (0 :
 Nat)
 (IntKind.wrap
 IntKind.u32
 (n_8 +
 s_1.fst)))
 (1 :
 Nat)
 (IntKind.wrap
 IntKind.u32
 (n_9 +
 s_1.snd.fst)))
 (2 :
 Nat)
 (IntKind.wrap
 IntKind.u32
 (n_10 +
 s_1.snd.snd.fst)))
 (3 :
 Nat)
 (IntKind.wrap
 IntKind.u32
 (n_11 +
 s_1.snd.snd.snd.fst)))
 (4 :
 Nat)
 (IntKind.wrap
 IntKind.u32
 (n_12 +
 s_1.snd.snd.snd.snd.fst)))
 (5 :
 Nat)
 (IntKind.wrap
 IntKind.u32
 (n_13 +
 s_1.snd.snd.snd.snd.snd.fst)))
 (6 :
 Nat)
 (IntKind.wrap
 IntKind.u32
 (n_14 +
 s_1.snd.snd.snd.snd.snd.snd.fst)))
 (7 :
 Nat)
 (IntKind.wrap
 IntKind.u32
 (n_15 +
 s_1.snd.snd.snd.snd.snd.snd.snd.fst)))))
 fun
 (h :
 Array
 Obj) ↦
 ∃ (w :
 Ws
 (8 :
 Nat)),
 atWords h
 (Array.size
 h_2)
 (0 :
 Nat)
 IntKind.u32
 (8 :
 Nat)
 w ∧
 R
 (TV.val
 (TV.words
 IntKind.u32
 (8 :
 Nat)
 w))
 h))

theorem tollerref03_block_calls (h_ : Ws (8 : Nat)) (keys : Ws (64 : Nat)) (s_ : List UInt8) (h : Heap) (R : Value → Heap → Prop) (H : tollerref03_block_vc h_ keys s_ h R) : CallsH Try.prog 58 (TVs.vals [TV.words IntKind.u32 (8 : Nat) h_, TV.words IntKind.u32 (64 : Nat) keys, TV.str s_]) h R :=
 vcFn_sound (C := ctx) ctx_ok (fn := Try.f58) Try.func58 ((by kernel_rfl : tollerref03_block_vc h_ keys s_ h R = vcFn ctx Try.f58 [TV.words IntKind.u32 (8 : Nat) h_, TV.words IntKind.u32 (64 : Nat) keys, TV.str s_] h R) ▸ H)


def tollerref03_above_vc (x : Int) (p : Int) (power : Int) (h : Heap) (R : Value → Heap → Prop) : Prop :=
 CallsH Try.prog (73 : Nat) (TVs.vals [TV.int IntKind.u64 x, TV.int IntKind.u64 x]) h fun (v : Value) (h : Heap) ↦
 ∃ (n : Int),
 ∃ (n_1 : Int),
 v = TV.val (TV.tup [TV.int IntKind.u64 n, TV.int IntKind.u64 n_1]) ∧
 If (decide (power = (2 : Int)))
 (If (decide (p < n)) (R (TV.val (TV.bool true)) h)
 (If (decide (n = p)) (R (TV.val (TV.bool (decide ((0 : Int) < n_1)))) h) (R (TV.val (TV.bool false)) h)))
 (CallsH Try.prog (73 : Nat) (TVs.vals [TV.int IntKind.u64 n, TV.int IntKind.u64 x]) h fun (v : Value) (h : Heap) ↦
 ∃ (n : Int),
 ∃ (n_2 : Int),
 v = TV.val (TV.tup [TV.int IntKind.u64 n, TV.int IntKind.u64 n_2]) ∧
 CallsH Try.prog (73 : Nat) (TVs.vals [TV.int IntKind.u64 n_1, TV.int IntKind.u64 x]) h fun (v : Value) (h : Heap) ↦
 ∃ (n_3 : Int),
 ∃ (n_4 : Int),
 v = TV.val (TV.tup [TV.int IntKind.u64 n_3, TV.int IntKind.u64 n_4]) ∧
 (0 : Int) ≤ n_2 ∧
 (0 : Int) ≤ n_3 ∧
 (0 : Int) ≤ (0 : Int) ∧
 (0 : Int) ≤ (1 : Int) ∧
 (0 : Int) ≤ (32 : Int) ∧
 If
 (!decide
 (IntKind.wrap IntKind.u64 (n + (n_2 + n_3 + (0 : Int)) / (18446744073709551616 : Int)) =
 Int.fdiv p ((2 : Int) ^ min (Int.toNat (32 : Int)) (IntKind.bits IntKind.u64))))
 ((0 : Int) ≤ (32 : Int) ∧
 R
 (TV.val
 (TV.bool
 (decide
 (Int.fdiv p ((2 : Int) ^ min (Int.toNat (32 : Int)) (IntKind.bits IntKind.u64)) <
 IntKind.wrap IntKind.u64 (n + (n_2 + n_3 + (0 : Int)) / (18446744073709551616 : Int))))))
 h)
 ((0 : Int) ≤ (32 : Int) ∧
 If
 (!decide
 ((n_2 + n_3 + (0 : Int)) % (18446744073709551616 : Int) =
 IntKind.wrap IntKind.u64 (p * (2 : Int) ^ min (Int.toNat (32 : Int)) (IntKind.bits IntKind.u64))))
 (R
 (TV.val
 (TV.bool
 (decide
 (IntKind.wrap IntKind.u64 (p * (2 : Int) ^ min (Int.toNat (32 : Int)) (IntKind.bits IntKind.u64)) <
 (n_2 + n_3 + (0 : Int)) % (18446744073709551616 : Int)))))
 h)
 (R (TV.val (TV.bool (decide ((0 : Int) < n_4)))) h)))

theorem tollerref03_above_calls (x : Int) (p : Int) (power : Int) (h : Heap) (R : Value → Heap → Prop) (H : tollerref03_above_vc x p power h R) : CallsH Try.prog 66 (TVs.vals [TV.int IntKind.u64 x, TV.int IntKind.u64 p, TV.int IntKind.i64 power]) h R :=
 vcFn_sound (C := ctx) ctx_ok (fn := Try.f66) Try.func66 ((by kernel_rfl : tollerref03_above_vc x p power h R = vcFn ctx Try.f66 [TV.int IntKind.u64 x, TV.int IntKind.u64 p, TV.int IntKind.i64 power] h R) ▸ H)


def tollerref03_right_vc (x : Int) (n : Int) (h : Heap) (R : Value → Heap → Prop) : Prop :=
 (0 : Int) ≤ IntKind.wrap IntKind.u64 n ∧
 (0 : Int) ≤ IntKind.wrap IntKind.u64 (IntKind.wrap IntKind.i64 ((32 : Int) - n)) ∧
 R
 (TV.val
 (TV.int IntKind.u32
 (IntKind.wrap IntKind.u32
 (↑(BitVec.toNat
 (BitVec.ofInt (IntKind.bits IntKind.u32)
 (Int.fdiv x ((2 : Int) ^ min (Int.toNat (IntKind.wrap IntKind.u64 n)) (IntKind.bits IntKind.u32))) |||
 BitVec.ofInt (IntKind.bits IntKind.u32)
 (IntKind.wrap IntKind.u32
 (x * (2 : Int) ^ min (Int.toNat (IntKind.wrap IntKind.u64 (IntKind.wrap IntKind.i64 ((32 : Int) - n)))) (IntKind.bits IntKind.u32))))) :
 Int))))
 h

theorem tollerref03_right_calls (x : Int) (n : Int) (h : Heap) (R : Value → Heap → Prop) (H : tollerref03_right_vc x n h R) : CallsH Try.prog 67 (TVs.vals [TV.int IntKind.u32 x, TV.int IntKind.i64 n]) h R :=
 vcFn_sound (C := ctx) ctx_ok (fn := Try.f67) Try.func67 ((by kernel_rfl : tollerref03_right_vc x n h R = vcFn ctx Try.f67 [TV.int IntKind.u32 x, TV.int IntKind.i64 n] h R) ▸ H)


def math_bits_Mul64_vc (x : Int) (y : Int) (h : Heap) (R : Value → Heap → Prop) : Prop :=
 (0 : Int) ≤ (32 : Int) ∧
 (0 : Int) ≤ (32 : Int) ∧
 (0 : Int) ≤ (32 : Int) ∧
 (0 : Int) ≤ (32 : Int) ∧
 (0 : Int) ≤ (32 : Int) ∧
 R
 (TV.val
 (TV.tup
 [TV.int IntKind.u64
 (IntKind.wrap IntKind.u64
 (IntKind.wrap IntKind.u64
 (IntKind.wrap IntKind.u64
 (Int.fdiv x ((2 : Int) ^ min (Int.toNat (32 : Int)) (IntKind.bits IntKind.u64)) *
 Int.fdiv y ((2 : Int) ^ min (Int.toNat (32 : Int)) (IntKind.bits IntKind.u64))) +
 Int.fdiv
 (IntKind.wrap IntKind.u64
 (IntKind.wrap IntKind.u64
 (Int.fdiv x ((2 : Int) ^ min (Int.toNat (32 : Int)) (IntKind.bits IntKind.u64)) *
 IntKind.wrap IntKind.u64
 (↑(BitVec.toNat
 (BitVec.ofInt (IntKind.bits IntKind.u64) y &&& BitVec.ofInt (IntKind.bits IntKind.u64) (4294967295 : Int))) :
 Int)) +
 Int.fdiv
 (IntKind.wrap IntKind.u64
 (IntKind.wrap IntKind.u64
 (↑(BitVec.toNat
 (BitVec.ofInt (IntKind.bits IntKind.u64) x &&& BitVec.ofInt (IntKind.bits IntKind.u64) (4294967295 : Int))) :
 Int) *
 IntKind.wrap IntKind.u64
 (↑(BitVec.toNat
 (BitVec.ofInt (IntKind.bits IntKind.u64) y &&& BitVec.ofInt (IntKind.bits IntKind.u64) (4294967295 : Int))) :
 Int)))
 ((2 : Int) ^ min (Int.toNat (32 : Int)) (IntKind.bits IntKind.u64))))
 ((2 : Int) ^ min (Int.toNat (32 : Int)) (IntKind.bits IntKind.u64))) +
 Int.fdiv
 (IntKind.wrap IntKind.u64
 (IntKind.wrap IntKind.u64
 (↑(BitVec.toNat
 (BitVec.ofInt (IntKind.bits IntKind.u64)
 (IntKind.wrap IntKind.u64
 (IntKind.wrap IntKind.u64
 (Int.fdiv x ((2 : Int) ^ min (Int.toNat (32 : Int)) (IntKind.bits IntKind.u64)) *
 IntKind.wrap IntKind.u64
 (↑(BitVec.toNat
 (BitVec.ofInt (IntKind.bits IntKind.u64) y &&&
 BitVec.ofInt (IntKind.bits IntKind.u64) (4294967295 : Int))) :
 Int)) +
 Int.fdiv
 (IntKind.wrap IntKind.u64
 (IntKind.wrap IntKind.u64
 (↑(BitVec.toNat
 (BitVec.ofInt (IntKind.bits IntKind.u64) x &&&
 BitVec.ofInt (IntKind.bits IntKind.u64) (4294967295 : Int))) :
 Int) *
 IntKind.wrap IntKind.u64
 (↑(BitVec.toNat
 (BitVec.ofInt (IntKind.bits IntKind.u64) y &&&
 BitVec.ofInt (IntKind.bits IntKind.u64) (4294967295 : Int))) :
 Int)))
 ((2 : Int) ^ min (Int.toNat (32 : Int)) (IntKind.bits IntKind.u64)))) &&&
 BitVec.ofInt (IntKind.bits IntKind.u64) (4294967295 : Int))) :
 Int) +
 IntKind.wrap IntKind.u64
 (IntKind.wrap IntKind.u64
 (↑(BitVec.toNat
 (BitVec.ofInt (IntKind.bits IntKind.u64) x &&& BitVec.ofInt (IntKind.bits IntKind.u64) (4294967295 : Int))) :
 Int) *
 Int.fdiv y ((2 : Int) ^ min (Int.toNat (32 : Int)) (IntKind.bits IntKind.u64)))))
 ((2 : Int) ^ min (Int.toNat (32 : Int)) (IntKind.bits IntKind.u64)))),
 TV.int IntKind.u64 (IntKind.wrap IntKind.u64 (x * y))]))
 h

theorem math_bits_Mul64_calls (x : Int) (y : Int) (h : Heap) (R : Value → Heap → Prop) (H : math_bits_Mul64_vc x y h R) : CallsH Try.prog 73 (TVs.vals [TV.int IntKind.u64 x, TV.int IntKind.u64 y]) h R :=
 vcFn_sound (C := ctx) ctx_ok (fn := Try.f73) Try.func73 ((by kernel_rfl : math_bits_Mul64_vc x y h R = vcFn ctx Try.f73 [TV.int IntKind.u64 x, TV.int IntKind.u64 y] h R) ▸ H)


def tollerref01_Put_vc (n : Int) (width : Int) (h : Heap) (R : Value → Heap → Prop) : Prop :=
 If (decide (width ≤ (0 : Int))) (R (TV.val (TV.str (ByteArray.mk #[]).data.toList)) h)
 ((256 : Int) ≠ (0 : Int) ∧
 (256 : Int) ≠ (0 : Int) ∧
 (Ext h (Array.push h (row (TVs.cells [TV.int IntKind.u8 (IntKind.wrap IntKind.u8 (Int.tmod n (256 : Int)))]) (5 : Nat))) ∧
 ∃ (bs : List UInt8),
 strAt (Array.push h (row (TVs.cells [TV.int IntKind.u8 (IntKind.wrap IntKind.u8 (Int.tmod n (256 : Int)))]) (5 : Nat)))
 (Sl.mk (some (Loc.mk (Array.size h) (0 : Nat))) (1 : Nat) (1 : Nat)) bs ∧
 CallsH Try.prog (44 : Nat)
 (TVs.vals
 [TV.int IntKind.u64 (IntKind.wrap IntKind.u64 (Int.tdiv n (256 : Int))),
 TV.int IntKind.i64 (IntKind.wrap IntKind.i64 (mn width (8 : Int) - (1 : Int)))])
 (Array.push h (row (TVs.cells [TV.int IntKind.u8 (IntKind.wrap IntKind.u8 (Int.tmod n (256 : Int)))]) (5 : Nat)))
 fun (v : Value) (h_1 : Array Obj) ↦
 ∃ (s : List UInt8),
 v = TV.val (TV.str s) ∧
 Ext (Array.push h (row (TVs.cells [TV.int IntKind.u8 (IntKind.wrap IntKind.u8 (Int.tmod n (256 : Int)))]) (5 : Nat))) h_1 ∧
 (↑(List.length bs + List.length s) : Int) ≤ (9223372036854775807 : Int) ∧ R (TV.val (TV.str (bs ++ s))) h_1) ∧
 CallsH Try.prog (44 : Nat)
 (TVs.vals
 [TV.int IntKind.u64 (IntKind.wrap IntKind.u64 (Int.tdiv n (256 : Int))),
 TV.int IntKind.i64 (IntKind.wrap IntKind.i64 (mn width (8 : Int) - (1 : Int)))])
 h fun (v : Value) (h_1 : Heap) ↦
 ∃ (s : List UInt8),
 v = TV.val (TV.str s) ∧
 Ext h h_1 ∧
 Ext h_1 (Array.push h_1 (row (TVs.cells [TV.int IntKind.u8 (IntKind.wrap IntKind.u8 (Int.tmod n (256 : Int)))]) (5 : Nat))) ∧
 ∃ (bs : List UInt8),
 strAt (Array.push h_1 (row (TVs.cells [TV.int IntKind.u8 (IntKind.wrap IntKind.u8 (Int.tmod n (256 : Int)))]) (5 : Nat)))
 (Sl.mk (some (Loc.mk (Array.size h_1) (0 : Nat))) (1 : Nat) (1 : Nat)) bs ∧
 (↑(List.length bs + List.length s) : Int) ≤ (9223372036854775807 : Int) ∧
 R (TV.val (TV.str (bs ++ s)))
 (Array.push h_1 (row (TVs.cells [TV.int IntKind.u8 (IntKind.wrap IntKind.u8 (Int.tmod n (256 : Int)))]) (5 : Nat))))

theorem tollerref01_Put_calls (n : Int) (width : Int) (h : Heap) (R : Value → Heap → Prop) (H : tollerref01_Put_vc n width h R) : CallsH Try.prog 44 (TVs.vals [TV.int IntKind.u64 n, TV.int IntKind.i64 width]) h R :=
 vcFn_sound (C := ctx) ctx_ok (fn := Try.f44) Try.func44 ((by kernel_rfl : tollerref01_Put_vc n width h R = vcFn ctx Try.f44 [TV.int IntKind.u64 n, TV.int IntKind.i64 width] h R) ▸ H)


def tollerref03_Less_vc (a : Bs (32 : Nat)) (b : Bs (32 : Nat)) (h : Heap) (R : Value → Heap → Prop) : Prop :=
 Vc.Bind (newTV h (TV.bytes (32 : Nat) a) (26 : Nat)) fun (h_1 : Array Obj) ↦
 Vc.Bind (newTV h_1 (TV.bytes (32 : Nat) b) (26 : Nat)) fun (h_2 : Array Obj) ↦
 Go.Vc.Loop (false, (0 : Int)) h_2 fun (s : Bool × Int) (h_3 : Array Obj) (K : Bool × Int → Array Obj → Prop) ↦
 If (decide (s.snd < (32 : Int)))
 ((0 : Int) ≤ s.snd ∧
 s.snd < (↑(32 : Nat) : Int) ∧
 ∃ (n : Int),
 at1 h_3 (Array.size h) ((0 : Nat) + Int.toNat s.snd * (1 : Nat)) (Value.int IntKind.u8 n) ∧
 (0 : Int) ≤ s.snd ∧
 s.snd < (↑(32 : Nat) : Int) ∧
 ∃ (n_1 : Int),
 at1 h_3 (Array.size h_1) ((0 : Nat) + Int.toNat s.snd * (1 : Nat)) (Value.int IntKind.u8 n_1) ∧
 If (!decide (n = n_1))
 ((0 : Int) ≤ s.snd ∧
 s.snd < (↑(32 : Nat) : Int) ∧
 ∃ (n : Int),
 at1 h_3 (Array.size h) ((0 : Nat) + Int.toNat s.snd * (1 : Nat)) (Value.int IntKind.u8 n) ∧
 (0 : Int) ≤ s.snd ∧
 s.snd < (↑(32 : Nat) : Int) ∧
 ∃ (n_2 : Int),
 at1 h_3 (Array.size h_1) ((0 : Nat) + Int.toNat s.snd * (1 : Nat)) (Value.int IntKind.u8 n_2) ∧
 R (TV.val (TV.bool (decide (n < n_2)))) h_3)
 (K (s.fst, IntKind.wrap IntKind.i64 (s.snd + (1 : Int))) h_3))
 (R (TV.val (TV.bool false)) h_3)

theorem tollerref03_Less_calls (a : Bs (32 : Nat)) (b : Bs (32 : Nat)) (h : Heap) (R : Value → Heap → Prop) (H : tollerref03_Less_vc a b h R) : CallsH Try.prog 45 (TVs.vals [TV.bytes (32 : Nat) a, TV.bytes (32 : Nat) b]) h R :=
 vcFn_sound (C := ctx) ctx_ok (fn := Try.f45) Try.func45 ((by kernel_rfl : tollerref03_Less_vc a b h R = vcFn ctx Try.f45 [TV.bytes (32 : Nat) a, TV.bytes (32 : Nat) b] h R) ▸ H)


def tollerref06_Members_vc (c_Validators : Sl) (c_Epoch : Int) (c_Committee : Int) (c_Nodes : Int) (c_Orphans : Int) (c_Early : Int) (c_Quota : Int) (c_Peers : Int) (c_Bytes : Int) (c_Window : Int) (c_Ban : Int) (c_Decay : Int) (slot : Int) (h : Heap) (R : Value → Heap → Prop) : Prop :=
 Vc.Bind
 (newTV h
 (TV.agg
 [TV.slice c_Validators, TV.int IntKind.i64 c_Epoch, TV.int IntKind.i64 c_Committee, TV.int IntKind.i64 c_Nodes, TV.int IntKind.i64 c_Orphans,
 TV.int IntKind.i64 c_Early, TV.int IntKind.i64 c_Quota, TV.int IntKind.i64 c_Peers, TV.int IntKind.i64 c_Bytes, TV.int IntKind.i64 c_Window,
 TV.int IntKind.i64 c_Ban, TV.int IntKind.i64 c_Decay])
 (24 : Nat))
 fun (h_1 : Array Obj) ↦
 Join
 (fun (s : Sl) (h_2 : Array Obj) ↦
 ∃ (s : Sl),
 at1 h_2 (Array.size h) (0 : Nat) (slVal s) ∧
 Go.Vc.Loop (Sl.mk none (0 : Nat) (0 : Nat), (0 : Int)) h_2 fun (s_1 : Sl × Int) (h_3 : Array Obj) (K : Sl × Int → Array Obj → Prop) ↦
 If (decide (s_1.snd < (↑s.len : Int)))
 (CallsH Try.prog (44 : Nat) (TVs.vals [TV.int IntKind.u64 (IntKind.wrap IntKind.u64 slot), TV.int IntKind.i64 (4 : Int)]) h_3
 fun (v : Value) (h : Array Obj) ↦
 ∃ (s : List UInt8),
 v = TV.val (TV.str s) ∧
 (↑(List.length (ByteArray.mk #[(98 : UInt8), (111 : UInt8), (97 : UInt8), (114 : UInt8), (100 : UInt8)]).data.toList + List.length s) :
 Int) ≤
 (9223372036854775807 : Int) ∧
 CallsH Try.prog (44 : Nat) (TVs.vals [TV.int IntKind.u64 (IntKind.wrap IntKind.u64 s_1.snd), TV.int IntKind.i64 (2 : Int)]) h
 fun (v : Value) (h : Array Obj) ↦
 ∃ (s_2 : List UInt8),
 v = TV.val (TV.str s_2) ∧
 (↑(List.length ((ByteArray.mk #[(98 : UInt8), (111 : UInt8), (97 : UInt8), (114 : UInt8), (100 : UInt8)]).data.toList ++ s) +
 List.length s_2) :
 Int) ≤
 (9223372036854775807 : Int) ∧
 CallsH Try.prog (43 : Nat)
 (TVs.vals
 [TV.str ((ByteArray.mk #[(98 : UInt8), (111 : UInt8), (97 : UInt8), (114 : UInt8), (100 : UInt8)]).data.toList ++ s ++ s_2)])
 h fun (v : Value) (h : Array Obj) ↦
 ∃ (b : Bs (32 : Nat)),
 v = TV.val (TV.bytes (32 : Nat) b) ∧
 ∃ (new : List Value),
 slAt (Array.push h (row (TVs.cells [TV.bytes (32 : Nat) b]) (26 : Nat)))
 (Sl.mk (some (Loc.mk (Array.size h) (0 : Nat))) (1 : Nat) (1 : Nat)) (32 : Nat) new ∧
 (∀ (v : Value), v ∈ new → isOne v = true) ∧
 vcAppend Ytgdhddignbkloaa.ctx (26 : Nat) s_1.fst (1 : Nat) new
 (Array.push h (row (TVs.cells [TV.bytes (32 : Nat) b]) (26 : Nat))) fun (s : Sl) (h : Array Obj) ↦
 K (s, IntKind.wrap IntKind.i64 (s_1.snd + (1 : Int))) h)
 ((0 : Int) ≤ (↑s_1.fst.len : Int) ∧
 (↑s_1.fst.len : Int) ≤ (↑s_1.fst.len : Int) ∧
 (↑(1 : Nat) : Int) * (↑s_1.fst.len : Int) ≤ (281474976710656 : Int) ∧
 (↑s_1.fst.len : Int) < (9223372036854775808 : Int) ∧
 Go.Vc.Loop (Sl.mk none (0 : Nat) (0 : Nat)) (Array.push h_3 (row (zeros (TV.bool false) (Int.toNat (↑s_1.fst.len : Int))) (4 : Nat)))
 fun (s : Sl) (h_4 : Array Obj) (K : Sl → Array Obj → Prop) ↦
 ∃ (n : Int),
 at1 h_4 (Array.size h) (2 : Nat) (Value.int IntKind.i64 n) ∧
 If (decide ((↑s.len : Int) < n))
 (Go.Vc.Loop ((-1 : Int), (0 : Int)) h_4 fun (s_2 : Int × Int) (h : Array Obj) (K_1 : Int × Int → Array Obj → Prop) ↦
 If (decide (s_2.snd < (↑s_1.fst.len : Int)))
 ((0 : Int) ≤ s_2.snd ∧
 s_2.snd < (↑(Int.toNat (↑s_1.fst.len : Int)) : Int) ∧
 ∃ (b : Bool),
 at1 h (Array.size h_3) ((0 : Nat) + Int.toNat s_2.snd * (1 : Nat)) (Value.bool b) ∧
 If (!b)
 (If (decide (s_2.fst < (0 : Int))) (K_1 (s_2.snd, IntKind.wrap IntKind.i64 (s_2.snd + (1 : Int))) h)
 ((0 : Int) ≤ s_2.snd ∧
 s_2.snd < (↑s_1.fst.len : Int) ∧
 Nn s_1.fst.a fun (l : Go.Vc.Loc) ↦
 ∃ (b : Bs (32 : Nat)),
 atBytes h l.b (l.o + Int.toNat s_2.snd * (32 : Nat)) (32 : Nat) b ∧
 (0 : Int) ≤ s_2.fst ∧
 s_2.fst < (↑s_1.fst.len : Int) ∧
 Nn s_1.fst.a fun (l : Go.Vc.Loc) ↦
 ∃ (b_1 : Bs (32 : Nat)),
 atBytes h l.b (l.o + Int.toNat s_2.fst * (32 : Nat)) (32 : Nat) b_1 ∧
 CallsH Try.prog (45 : Nat) (TVs.vals [TV.bytes (32 : Nat) b, TV.bytes (32 : Nat) b_1]) h
 fun (v : Value) (h : Array Obj) ↦
 ∃ (b : Bool),
 v = TV.val (TV.bool b) ∧
 If b (K_1 (s_2.snd, IntKind.wrap IntKind.i64 (s_2.snd + (1 : Int))) h)
 (K_1 (s_2.fst, IntKind.wrap IntKind.i64 (s_2.snd + (1 : Int))) h)))
 (K_1 (s_2.fst, IntKind.wrap IntKind.i64 (s_2.snd + (1 : Int))) h))
 (If (decide (s_2.fst < (0 : Int))) (R (TV.val (TV.slice s)) h)
 ((0 : Int) ≤ s_2.fst ∧
 s_2.fst < (↑(Int.toNat (↑s_1.fst.len : Int)) : Int) ∧
 wok h (Array.size h_3) ((0 : Nat) + Int.toNat s_2.fst * (1 : Nat)) (1 : Nat) ∧
 Vc.Bind (TV.put h (Array.size h_3) ((0 : Nat) + Int.toNat s_2.fst * (1 : Nat)) (TV.bool true)) fun (h : Array Obj) ↦
 ∃ (new : List Value),
 slAt (Array.push h (row (TVs.cells [TV.int IntKind.i64 s_2.fst]) (3 : Nat)))
 (Sl.mk (some (Loc.mk (Array.size h) (0 : Nat))) (1 : Nat) (1 : Nat)) (1 : Nat) new ∧
 (∀ (v : Value), v ∈ new → isOne v = true) ∧
 vcAppend Ytgdhddignbkloaa.ctx (3 : Nat) s (1 : Nat) new
 (Array.push h (row (TVs.cells [TV.int IntKind.i64 s_2.fst]) (3 : Nat))) fun (s : Sl) (h : Array Obj) ↦
 K s h)))
 (R (TV.val (TV.slice s)) h_4)))
 fun (J : Sl → Array Obj → Prop) ↦
 If (decide (slot < (0 : Int))) (R (TV.val (TV.slice Sl.nil)) h_1)
 (If (decide ((1073741824 : Int) < slot)) (R (TV.val (TV.slice Sl.nil)) h_1) (J (Sl.mk none (0 : Nat) (0 : Nat)) h_1))

theorem tollerref06_Members_calls (c_Validators : Sl) (c_Epoch : Int) (c_Committee : Int) (c_Nodes : Int) (c_Orphans : Int) (c_Early : Int) (c_Quota : Int) (c_Peers : Int) (c_Bytes : Int) (c_Window : Int) (c_Ban : Int) (c_Decay : Int) (slot : Int) (h : Heap) (R : Value → Heap → Prop) (H : tollerref06_Members_vc c_Validators c_Epoch c_Committee c_Nodes c_Orphans c_Early c_Quota c_Peers c_Bytes c_Window c_Ban c_Decay slot h R) : CallsH Try.prog 26 (TVs.vals [TV.agg [TV.slice c_Validators, TV.int IntKind.i64 c_Epoch, TV.int IntKind.i64 c_Committee, TV.int IntKind.i64 c_Nodes, TV.int IntKind.i64 c_Orphans, TV.int IntKind.i64 c_Early, TV.int IntKind.i64 c_Quota, TV.int IntKind.i64 c_Peers, TV.int IntKind.i64 c_Bytes, TV.int IntKind.i64 c_Window, TV.int IntKind.i64 c_Ban, TV.int IntKind.i64 c_Decay], TV.int IntKind.i64 slot]) h R :=
 vcFn_sound (C := ctx) ctx_ok (fn := Try.f26) Try.func26 ((by kernel_rfl : tollerref06_Members_vc c_Validators c_Epoch c_Committee c_Nodes c_Orphans c_Early c_Quota c_Peers c_Bytes c_Window c_Ban c_Decay slot h R = vcFn ctx Try.f26 [TV.agg [TV.slice c_Validators, TV.int IntKind.i64 c_Epoch, TV.int IntKind.i64 c_Committee, TV.int IntKind.i64 c_Nodes, TV.int IntKind.i64 c_Orphans, TV.int IntKind.i64 c_Early, TV.int IntKind.i64 c_Quota, TV.int IntKind.i64 c_Peers, TV.int IntKind.i64 c_Bytes, TV.int IntKind.i64 c_Window, TV.int IntKind.i64 c_Ban, TV.int IntKind.i64 c_Decay], TV.int IntKind.i64 slot] h R) ▸ H)


def tollerref06_Pick_vc (c_Validators : Sl) (c_Epoch : Int) (c_Committee : Int) (c_Nodes : Int) (c_Orphans : Int) (c_Early : Int) (c_Quota : Int) (c_Peers : Int) (c_Bytes : Int) (c_Window : Int) (c_Ban : Int) (c_Decay : Int) (slot : Int) (row : Sl) (h : Heap) (R : Value → Heap → Prop) : Prop :=
 Vc.Bind
 (newTV h
 (TV.agg
 [TV.slice c_Validators, TV.int IntKind.i64 c_Epoch, TV.int IntKind.i64 c_Committee, TV.int IntKind.i64 c_Nodes, TV.int IntKind.i64 c_Orphans,
 TV.int IntKind.i64 c_Early, TV.int IntKind.i64 c_Quota, TV.int IntKind.i64 c_Peers, TV.int IntKind.i64 c_Bytes, TV.int IntKind.i64 c_Window,
 TV.int IntKind.i64 c_Ban, TV.int IntKind.i64 c_Decay])
 (24 : Nat))
 fun (h_1 : Array Obj) ↦
 ∃ (s : Sl),
 ∃ (n : Int),
 ∃ (n_1 : Int),
 ∃ (n_2 : Int),
 ∃ (n_3 : Int),
 ∃ (n_4 : Int),
 ∃ (n_5 : Int),
 ∃ (n_6 : Int),
 ∃ (n_7 : Int),
 ∃ (n_8 : Int),
 ∃ (n_9 : Int),
 ∃ (n_10 : Int),
 (at1 h_1 (Array.size h) (0 : Nat) (slVal s) ∧
 at1 h_1 (Array.size h) (1 : Nat) (Value.int IntKind.i64 n) ∧
 at1 h_1 (Array.size h) (2 : Nat) (Value.int IntKind.i64 n_1) ∧
 at1 h_1 (Array.size h) (3 : Nat) (Value.int IntKind.i64 n_2) ∧
 at1 h_1 (Array.size h) (4 : Nat) (Value.int IntKind.i64 n_3) ∧
 at1 h_1 (Array.size h) (5 : Nat) (Value.int IntKind.i64 n_4) ∧
 at1 h_1 (Array.size h) (6 : Nat) (Value.int IntKind.i64 n_5) ∧
 at1 h_1 (Array.size h) (7 : Nat) (Value.int IntKind.i64 n_6) ∧
 at1 h_1 (Array.size h) (8 : Nat) (Value.int IntKind.i64 n_7) ∧
 at1 h_1 (Array.size h) (9 : Nat) (Value.int IntKind.i64 n_8) ∧
 at1 h_1 (Array.size h) (10 : Nat) (Value.int IntKind.i64 n_9) ∧
 at1 h_1 (Array.size h) (11 : Nat) (Value.int IntKind.i64 n_10)) ∧
 CallsH Try.prog (26 : Nat)
 (TVs.vals
 [TV.agg
 [TV.slice s, TV.int IntKind.i64 n, TV.int IntKind.i64 n_1, TV.int IntKind.i64 n_2, TV.int IntKind.i64 n_3,
 TV.int IntKind.i64 n_4, TV.int IntKind.i64 n_5, TV.int IntKind.i64 n_6, TV.int IntKind.i64 n_7, TV.int IntKind.i64 n_8,
 TV.int IntKind.i64 n_9, TV.int IntKind.i64 n_10],
 TV.int IntKind.i64 slot])
 h_1 fun (v : Value) (h : Array Obj) ↦
 ∃ (s : Sl),
 v = TV.val (TV.slice s) ∧
 Join
 (fun (s_1 : Sl × Bool) (h : Array Obj) ↦
 Go.Vc.Loop (Sl.mk none (0 : Nat) (0 : Nat), (0 : Int)) h
 fun (s_2 : Sl × Int) (h : Array Obj) (K : Sl × Int → Array Obj → Prop) ↦
 If (decide (s_2.snd < (↑s.len : Int)))
 ((0 : Int) ≤ s_2.snd ∧
 s_2.snd < (↑row.len : Int) ∧
 Nn row.a fun (l : Go.Vc.Loc) ↦
 ∃ (b : Bool),
 at1 h l.b (l.o + Int.toNat s_2.snd * (1 : Nat)) (Value.bool b) ∧
 If b
 ((0 : Int) ≤ s_2.snd ∧
 s_2.snd < (↑s.len : Int) ∧
 Nn s.a fun (l : Go.Vc.Loc) ↦
 ∃ (n : Int),
 at1 h l.b (l.o + Int.toNat s_2.snd * (1 : Nat)) (Value.int IntKind.i64 n) ∧
 ∃ (new : List Value),
 slAt (Array.push h (Vc.row (TVs.cells [TV.int IntKind.i64 n]) (3 : Nat)))
 (Sl.mk (some (Loc.mk (Array.size h) (0 : Nat))) (1 : Nat) (1 : Nat)) (1 : Nat) new ∧
 (∀ (v : Value), v ∈ new → isOne v = true) ∧
 vcAppend Ytgdhddignbkloaa.ctx (3 : Nat) s_2.fst (1 : Nat) new
 (Array.push h (Vc.row (TVs.cells [TV.int IntKind.i64 n]) (3 : Nat)))
 fun (s : Sl) (h : Array Obj) ↦ K (s, IntKind.wrap IntKind.i64 (s_2.snd + (1 : Int))) h)
 (K (s_2.fst, IntKind.wrap IntKind.i64 (s_2.snd + (1 : Int))) h))
 (R (TV.val (TV.tup [TV.slice s_2.fst, TV.bool true])) h))
 fun (J : Sl × Bool → Array Obj → Prop) ↦
 If (!decide ((↑s.len : Int) = (↑row.len : Int))) (R (TV.val (TV.tup [TV.slice Sl.nil, TV.bool false])) h)
 (If (decide ((↑s.len : Int) = (0 : Int))) (R (TV.val (TV.tup [TV.slice Sl.nil, TV.bool false])) h)
 (J (Sl.mk none (0 : Nat) (0 : Nat), false) h))

theorem tollerref06_Pick_calls (c_Validators : Sl) (c_Epoch : Int) (c_Committee : Int) (c_Nodes : Int) (c_Orphans : Int) (c_Early : Int) (c_Quota : Int) (c_Peers : Int) (c_Bytes : Int) (c_Window : Int) (c_Ban : Int) (c_Decay : Int) (slot : Int) (row : Sl) (h : Heap) (R : Value → Heap → Prop) (H : tollerref06_Pick_vc c_Validators c_Epoch c_Committee c_Nodes c_Orphans c_Early c_Quota c_Peers c_Bytes c_Window c_Ban c_Decay slot row h R) : CallsH Try.prog 35 (TVs.vals [TV.agg [TV.slice c_Validators, TV.int IntKind.i64 c_Epoch, TV.int IntKind.i64 c_Committee, TV.int IntKind.i64 c_Nodes, TV.int IntKind.i64 c_Orphans, TV.int IntKind.i64 c_Early, TV.int IntKind.i64 c_Quota, TV.int IntKind.i64 c_Peers, TV.int IntKind.i64 c_Bytes, TV.int IntKind.i64 c_Window, TV.int IntKind.i64 c_Ban, TV.int IntKind.i64 c_Decay], TV.int IntKind.i64 slot, TV.slice row]) h R :=
 vcFn_sound (C := ctx) ctx_ok (fn := Try.f35) Try.func35 ((by kernel_rfl : tollerref06_Pick_vc c_Validators c_Epoch c_Committee c_Nodes c_Orphans c_Early c_Quota c_Peers c_Bytes c_Window c_Ban c_Decay slot row h R = vcFn ctx Try.f35 [TV.agg [TV.slice c_Validators, TV.int IntKind.i64 c_Epoch, TV.int IntKind.i64 c_Committee, TV.int IntKind.i64 c_Nodes, TV.int IntKind.i64 c_Orphans, TV.int IntKind.i64 c_Early, TV.int IntKind.i64 c_Quota, TV.int IntKind.i64 c_Peers, TV.int IntKind.i64 c_Bytes, TV.int IntKind.i64 c_Window, TV.int IntKind.i64 c_Ban, TV.int IntKind.i64 c_Decay], TV.int IntKind.i64 slot, TV.slice row] h R) ▸ H)


def tollerref06_Place_vc (c_Validators : Sl) (c_Epoch : Int) (c_Committee : Int) (c_Nodes : Int) (c_Orphans : Int) (c_Early : Int) (c_Quota : Int) (c_Peers : Int) (c_Bytes : Int) (c_Window : Int) (c_Ban : Int) (c_Decay : Int) (slot : Int) (who : Int) (h : Heap) (R : Value → Heap → Prop) : Prop :=
 Vc.Bind
 (newTV h
 (TV.agg
 [TV.slice c_Validators, TV.int IntKind.i64 c_Epoch, TV.int IntKind.i64 c_Committee, TV.int IntKind.i64 c_Nodes, TV.int IntKind.i64 c_Orphans,
 TV.int IntKind.i64 c_Early, TV.int IntKind.i64 c_Quota, TV.int IntKind.i64 c_Peers, TV.int IntKind.i64 c_Bytes, TV.int IntKind.i64 c_Window,
 TV.int IntKind.i64 c_Ban, TV.int IntKind.i64 c_Decay])
 (24 : Nat))
 fun (h_1 : Array Obj) ↦
 ∃ (s : Sl),
 ∃ (n : Int),
 ∃ (n_1 : Int),
 ∃ (n_2 : Int),
 ∃ (n_3 : Int),
 ∃ (n_4 : Int),
 ∃ (n_5 : Int),
 ∃ (n_6 : Int),
 ∃ (n_7 : Int),
 ∃ (n_8 : Int),
 ∃ (n_9 : Int),
 ∃ (n_10 : Int),
 (at1 h_1 (Array.size h) (0 : Nat) (slVal s) ∧
 at1 h_1 (Array.size h) (1 : Nat) (Value.int IntKind.i64 n) ∧
 at1 h_1 (Array.size h) (2 : Nat) (Value.int IntKind.i64 n_1) ∧
 at1 h_1 (Array.size h) (3 : Nat) (Value.int IntKind.i64 n_2) ∧
 at1 h_1 (Array.size h) (4 : Nat) (Value.int IntKind.i64 n_3) ∧
 at1 h_1 (Array.size h) (5 : Nat) (Value.int IntKind.i64 n_4) ∧
 at1 h_1 (Array.size h) (6 : Nat) (Value.int IntKind.i64 n_5) ∧
 at1 h_1 (Array.size h) (7 : Nat) (Value.int IntKind.i64 n_6) ∧
 at1 h_1 (Array.size h) (8 : Nat) (Value.int IntKind.i64 n_7) ∧
 at1 h_1 (Array.size h) (9 : Nat) (Value.int IntKind.i64 n_8) ∧
 at1 h_1 (Array.size h) (10 : Nat) (Value.int IntKind.i64 n_9) ∧
 at1 h_1 (Array.size h) (11 : Nat) (Value.int IntKind.i64 n_10)) ∧
 CallsH Try.prog (26 : Nat)
 (TVs.vals
 [TV.agg
 [TV.slice s, TV.int IntKind.i64 n, TV.int IntKind.i64 n_1, TV.int IntKind.i64 n_2, TV.int IntKind.i64 n_3,
 TV.int IntKind.i64 n_4, TV.int IntKind.i64 n_5, TV.int IntKind.i64 n_6, TV.int IntKind.i64 n_7, TV.int IntKind.i64 n_8,
 TV.int IntKind.i64 n_9, TV.int IntKind.i64 n_10],
 TV.int IntKind.i64 slot])
 h_1 fun (v : Value) (h : Array Obj) ↦
 ∃ (s : Sl),
 v = TV.val (TV.slice s) ∧
 Go.Vc.Loop ((0 : Int), (0 : Int)) h fun (s_1 : Int × Int) (h : Array Obj) (K : Int × Int → Array Obj → Prop) ↦
 If (decide (s_1.snd < (↑s.len : Int)))
 ((0 : Int) ≤ s_1.snd ∧
 s_1.snd < (↑s.len : Int) ∧
 Nn s.a fun (l : Go.Vc.Loc) ↦
 ∃ (n : Int),
 at1 h l.b (l.o + Int.toNat s_1.snd * (1 : Nat)) (Value.int IntKind.i64 n) ∧
 If (decide (n = who)) (R (TV.val (TV.int IntKind.i64 s_1.snd)) h)
 (K (s_1.fst, IntKind.wrap IntKind.i64 (s_1.snd + (1 : Int))) h))
 (R (TV.val (TV.int IntKind.i64 (-1 : Int))) h)

theorem tollerref06_Place_calls (c_Validators : Sl) (c_Epoch : Int) (c_Committee : Int) (c_Nodes : Int) (c_Orphans : Int) (c_Early : Int) (c_Quota : Int) (c_Peers : Int) (c_Bytes : Int) (c_Window : Int) (c_Ban : Int) (c_Decay : Int) (slot : Int) (who : Int) (h : Heap) (R : Value → Heap → Prop) (H : tollerref06_Place_vc c_Validators c_Epoch c_Committee c_Nodes c_Orphans c_Early c_Quota c_Peers c_Bytes c_Window c_Ban c_Decay slot who h R) : CallsH Try.prog 36 (TVs.vals [TV.agg [TV.slice c_Validators, TV.int IntKind.i64 c_Epoch, TV.int IntKind.i64 c_Committee, TV.int IntKind.i64 c_Nodes, TV.int IntKind.i64 c_Orphans, TV.int IntKind.i64 c_Early, TV.int IntKind.i64 c_Quota, TV.int IntKind.i64 c_Peers, TV.int IntKind.i64 c_Bytes, TV.int IntKind.i64 c_Window, TV.int IntKind.i64 c_Ban, TV.int IntKind.i64 c_Decay], TV.int IntKind.i64 slot, TV.int IntKind.i64 who]) h R :=
 vcFn_sound (C := ctx) ctx_ok (fn := Try.f36) Try.func36 ((by kernel_rfl : tollerref06_Place_vc c_Validators c_Epoch c_Committee c_Nodes c_Orphans c_Early c_Quota c_Peers c_Bytes c_Window c_Ban c_Decay slot who h R = vcFn ctx Try.f36 [TV.agg [TV.slice c_Validators, TV.int IntKind.i64 c_Epoch, TV.int IntKind.i64 c_Committee, TV.int IntKind.i64 c_Nodes, TV.int IntKind.i64 c_Orphans, TV.int IntKind.i64 c_Early, TV.int IntKind.i64 c_Quota, TV.int IntKind.i64 c_Peers, TV.int IntKind.i64 c_Bytes, TV.int IntKind.i64 c_Window, TV.int IntKind.i64 c_Ban, TV.int IntKind.i64 c_Decay], TV.int IntKind.i64 slot, TV.int IntKind.i64 who] h R) ▸ H)


end Go.Proofs.Ytgdhddignbkloaa

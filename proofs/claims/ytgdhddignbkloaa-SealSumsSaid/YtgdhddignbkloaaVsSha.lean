/- The conditions of functions, as the generator reckons them out, each with the proof that it is that. -/
import Derived.Test.YtgdhddignbkloaaCtx
namespace Go.Proofs.Ytgdhddignbkloaa
open Go Go.Vc
set_option maxRecDepth 100000
set_option linter.unusedVariables false

def sha_lay_vc (b : Sl) (h : Heap) (R : Value → Heap → Prop) : Prop :=
 Vc.Bind (newTV h (TV.words IntKind.u32 (64 : Nat) (Ws.zero (64 : Nat))) (94 : Nat)) fun (h_1 : Array Obj) ↦
 Vc.Bind (newTV h_1 (TV.words IntKind.u32 (64 : Nat) (Ws.zero (64 : Nat))) (94 : Nat)) fun (h_2 : Array Obj) ↦
 Go.Vc.Loop (0 : Int) h_2 fun (s : Int) (h_3 : Array Obj) (K : Int → Array Obj → Prop) ↦
 If (decide (s < (16 : Int)))
 ((0 : Int) ≤ IntKind.wrap IntKind.i64 ((4 : Int) * s) ∧
 IntKind.wrap IntKind.i64 ((4 : Int) * s) < (↑b.len : Int) ∧
 Nn b.a fun (l : Go.Vc.Loc) ↦
 ∃ (n : Int),
 at1 h_3 l.b (l.o + Int.toNat (IntKind.wrap IntKind.i64 ((4 : Int) * s)) * (1 : Nat)) (Value.int IntKind.u8 n) ∧
 (0 : Int) ≤ (24 : Int) ∧
 (0 : Int) ≤ IntKind.wrap IntKind.i64 (IntKind.wrap IntKind.i64 ((4 : Int) * s) + (1 : Int)) ∧
 IntKind.wrap IntKind.i64 (IntKind.wrap IntKind.i64 ((4 : Int) * s) + (1 : Int)) < (↑b.len : Int) ∧
 Nn b.a fun (l : Go.Vc.Loc) ↦
 ∃ (n_1 : Int),
 at1 h_3 l.b (l.o + Int.toNat (IntKind.wrap IntKind.i64 (IntKind.wrap IntKind.i64 ((4 : Int) * s) + (1 : Int))) * (1 : Nat))
 (Value.int IntKind.u8 n_1) ∧
 (0 : Int) ≤ (16 : Int) ∧
 (0 : Int) ≤ IntKind.wrap IntKind.i64 (IntKind.wrap IntKind.i64 ((4 : Int) * s) + (2 : Int)) ∧
 IntKind.wrap IntKind.i64 (IntKind.wrap IntKind.i64 ((4 : Int) * s) + (2 : Int)) < (↑b.len : Int) ∧
 Nn b.a fun (l : Go.Vc.Loc) ↦
 ∃ (n_2 : Int),
 at1 h_3 l.b
 (l.o + Int.toNat (IntKind.wrap IntKind.i64 (IntKind.wrap IntKind.i64 ((4 : Int) * s) + (2 : Int))) * (1 : Nat))
 (Value.int IntKind.u8 n_2) ∧
 (0 : Int) ≤ (8 : Int) ∧
 (0 : Int) ≤ IntKind.wrap IntKind.i64 (IntKind.wrap IntKind.i64 ((4 : Int) * s) + (3 : Int)) ∧
 IntKind.wrap IntKind.i64 (IntKind.wrap IntKind.i64 ((4 : Int) * s) + (3 : Int)) < (↑b.len : Int) ∧
 Nn b.a fun (l : Go.Vc.Loc) ↦
 ∃ (n_3 : Int),
 at1 h_3 l.b
 (l.o +
 Int.toNat (IntKind.wrap IntKind.i64 (IntKind.wrap IntKind.i64 ((4 : Int) * s) + (3 : Int))) *
 (1 : Nat))
 (Value.int IntKind.u8 n_3) ∧
 (0 : Int) ≤ s ∧
 s < (↑(64 : Nat) : Int) ∧
 wok h_3 (Array.size h_1) ((0 : Nat) + Int.toNat s * (1 : Nat)) (1 : Nat) ∧
 Vc.Bind
 (TV.put h_3 (Array.size h_1) ((0 : Nat) + Int.toNat s * (1 : Nat))
 (TV.int IntKind.u32
 (IntKind.wrap IntKind.u32
 (↑(BitVec.toNat
 (BitVec.ofInt (IntKind.bits IntKind.u32)
 (IntKind.wrap IntKind.u32
 (↑(BitVec.toNat
 (BitVec.ofInt (IntKind.bits IntKind.u32)
 (IntKind.wrap IntKind.u32
 (↑(BitVec.toNat
 (BitVec.ofInt (IntKind.bits IntKind.u32)
 (IntKind.wrap IntKind.u32
 (IntKind.wrap IntKind.u32 n *
 (2 : Int) ^
 min (Int.toNat (24 : Int))
 (IntKind.bits IntKind.u32))) |||
 BitVec.ofInt (IntKind.bits IntKind.u32)
 (IntKind.wrap IntKind.u32
 (IntKind.wrap IntKind.u32 n_1 *
 (2 : Int) ^
 min (Int.toNat (16 : Int))
 (IntKind.bits IntKind.u32))))) :
 Int)) |||
 BitVec.ofInt (IntKind.bits IntKind.u32)
 (IntKind.wrap IntKind.u32
 (IntKind.wrap IntKind.u32 n_2 *
 (2 : Int) ^
 min (Int.toNat (8 : Int)) (IntKind.bits IntKind.u32))))) :
 Int)) |||
 BitVec.ofInt (IntKind.bits IntKind.u32) (IntKind.wrap IntKind.u32 n_3))) :
 Int))))
 fun (h : Array Obj) ↦ K (IntKind.wrap IntKind.i64 (s + (1 : Int))) h)
 (Go.Vc.Loop (16 : Int) h_3 fun (s : Int) (h_4 : Array Obj) (K : Int → Array Obj → Prop) ↦
 If (decide (s < (64 : Int)))
 ((0 : Int) ≤ IntKind.wrap IntKind.i64 (s - (15 : Int)) ∧
 IntKind.wrap IntKind.i64 (s - (15 : Int)) < (↑(64 : Nat) : Int) ∧
 ∃ (n : Int),
 at1 h_4 (Array.size h_1) ((0 : Nat) + Int.toNat (IntKind.wrap IntKind.i64 (s - (15 : Int))) * (1 : Nat)) (Value.int IntKind.u32 n) ∧
 (0 : Int) ≤ IntKind.wrap IntKind.i64 (s - (2 : Int)) ∧
 IntKind.wrap IntKind.i64 (s - (2 : Int)) < (↑(64 : Nat) : Int) ∧
 ∃ (n_1 : Int),
 at1 h_4 (Array.size h_1) ((0 : Nat) + Int.toNat (IntKind.wrap IntKind.i64 (s - (2 : Int))) * (1 : Nat)) (Value.int IntKind.u32 n_1) ∧
 (0 : Int) ≤ IntKind.wrap IntKind.i64 (s - (16 : Int)) ∧
 IntKind.wrap IntKind.i64 (s - (16 : Int)) < (↑(64 : Nat) : Int) ∧
 ∃ (n_2 : Int),
 at1 h_4 (Array.size h_1) ((0 : Nat) + Int.toNat (IntKind.wrap IntKind.i64 (s - (16 : Int))) * (1 : Nat))
 (Value.int IntKind.u32 n_2) ∧
 (0 : Int) ≤ (3 : Int) ∧
 (0 : Int) ≤ IntKind.wrap IntKind.i64 (s - (7 : Int)) ∧
 IntKind.wrap IntKind.i64 (s - (7 : Int)) < (↑(64 : Nat) : Int) ∧
 ∃ (n_3 : Int),
 at1 h_4 (Array.size h_1) ((0 : Nat) + Int.toNat (IntKind.wrap IntKind.i64 (s - (7 : Int))) * (1 : Nat))
 (Value.int IntKind.u32 n_3) ∧
 (0 : Int) ≤ (10 : Int) ∧
 CallsH Try.prog (77 : Nat) (TVs.vals [TV.int IntKind.u32 n, TV.int IntKind.i64 (7 : Int)]) h_4
 fun (v : Value) (h : Array Obj) ↦
 ∃ (n_4 : Int),
 v = TV.val (TV.int IntKind.u32 n_4) ∧
 Ext h_4 h ∧
 CallsH Try.prog (77 : Nat) (TVs.vals [TV.int IntKind.u32 n, TV.int IntKind.i64 (18 : Int)]) h
 fun (v : Value) (h_5 : Array Obj) ↦
 ∃ (n_5 : Int),
 v = TV.val (TV.int IntKind.u32 n_5) ∧
 Ext h h_5 ∧
 CallsH Try.prog (77 : Nat) (TVs.vals [TV.int IntKind.u32 n_1, TV.int IntKind.i64 (17 : Int)])
 h_5 fun (v : Value) (h : Array Obj) ↦
 ∃ (n_6 : Int),
 v = TV.val (TV.int IntKind.u32 n_6) ∧
 Ext h_5 h ∧
 CallsH Try.prog (77 : Nat)
 (TVs.vals [TV.int IntKind.u32 n_1, TV.int IntKind.i64 (19 : Int)]) h
 fun (v : Value) (h_6 : Array Obj) ↦
 ∃ (n_7 : Int),
 v = TV.val (TV.int IntKind.u32 n_7) ∧
 Ext h h_6 ∧
 (0 : Int) ≤ s ∧
 s < (↑(64 : Nat) : Int) ∧
 wok h_6 (Array.size h_1) ((0 : Nat) + Int.toNat s * (1 : Nat)) (1 : Nat) ∧
 Vc.Bind
 (TV.put h_6 (Array.size h_1) ((0 : Nat) + Int.toNat s * (1 : Nat))
 (TV.int IntKind.u32
 (IntKind.wrap IntKind.u32
 (IntKind.wrap IntKind.u32
 (IntKind.wrap IntKind.u32
 (n_2 +
 IntKind.wrap IntKind.u32
 (↑(BitVec.toNat
 (BitVec.ofInt (IntKind.bits IntKind.u32)
 (IntKind.wrap IntKind.u32
 (↑(BitVec.toNat
 (BitVec.ofInt
 (IntKind.bits IntKind.u32)
 n_4 ^^^
 BitVec.ofInt
 (IntKind.bits IntKind.u32)
 n_5)) :
 Int)) ^^^
 BitVec.ofInt (IntKind.bits IntKind.u32)
 (Int.fdiv n
 ((2 : Int) ^
 min (Int.toNat (3 : Int))
 (IntKind.bits IntKind.u32))))) :
 Int)) +
 n_3) +
 IntKind.wrap IntKind.u32
 (↑(BitVec.toNat
 (BitVec.ofInt (IntKind.bits IntKind.u32)
 (IntKind.wrap IntKind.u32
 (↑(BitVec.toNat
 (BitVec.ofInt (IntKind.bits IntKind.u32)
 n_6 ^^^
 BitVec.ofInt (IntKind.bits IntKind.u32)
 n_7)) :
 Int)) ^^^
 BitVec.ofInt (IntKind.bits IntKind.u32)
 (Int.fdiv n_1
 ((2 : Int) ^
 min (Int.toNat (10 : Int))
 (IntKind.bits IntKind.u32))))) :
 Int)))))
 fun (h : Array Obj) ↦ K (IntKind.wrap IntKind.i64 (s + (1 : Int))) h)
 (∃ (w : Ws (64 : Nat)),
 atWords h_4 (Array.size h_1) (0 : Nat) IntKind.u32 (64 : Nat) w ∧
 wok h_4 (Array.size h) (0 : Nat) (64 : Nat) ∧
 Vc.Bind (TV.put h_4 (Array.size h) (0 : Nat) (TV.words IntKind.u32 (64 : Nat) w)) fun (h_5 : Array Obj) ↦
 ∃ (w : Ws (64 : Nat)), atWords h_5 (Array.size h) (0 : Nat) IntKind.u32 (64 : Nat) w ∧ R (TV.val (TV.words IntKind.u32 (64 : Nat) w)) h_5))

theorem sha_lay_calls (b : Sl) (h : Heap) (R : Value → Heap → Prop) (H : sha_lay_vc b h R) : CallsH Try.prog 75 (TVs.vals [TV.slice b]) h R :=
 vcFn_sound (C := ctx) ctx_ok (fn := Try.f75) Try.func75 ((by kernel_rfl : sha_lay_vc b h R = vcFn ctx Try.f75 [TV.slice b] h R) ▸ H)


def sha_keys_vc (h : Heap) (R : Value → Heap → Prop) : Prop :=
 Vc.Bind (newTV h (TV.words IntKind.u32 (64 : Nat) (Ws.zero (64 : Nat))) (94 : Nat)) fun (h_1 : Array Obj) ↦
 wok h_1 (Array.size h) (0 : Nat) (64 : Nat) ∧
 Vc.Bind
 (TV.put h_1 (Array.size h) (0 : Nat)
 (TV.words IntKind.u32 (64 : Nat)
 (Ws.set
 (Ws.set
 (Ws.set
 (Ws.set
 (Ws.set
 (Ws.set
 (Ws.set
 (Ws.set
 (Ws.set
 (Ws.set
 (Ws.set
 (Ws.set
 (Ws.set
 (Ws.set
 (Ws.set
 (Ws.set
 (Ws.set
 (Ws.set
 (Ws.set
 (Ws.set
 (Ws.set
 (Ws.set
 (Ws.set
 (Ws.set
 (Ws.set
 (Ws.set
 (Ws.set
 (Ws.set
 (Ws.set
 (Ws.set
 (Ws.set
 (Ws.set
 (Ws.set
 (Ws.set
 (Ws.set
 (Ws.set
 (Ws.set
 (Ws.set
 (Ws.set
 (Ws.set
 (Ws.set
 (Ws.set
 (Ws.set
 (Ws.set
 (Ws.set
 (Ws.set
 (Ws.set
 (Ws.set
 (Ws.set
 (Ws.set
 (Ws.set
 (Ws.set
 (Ws.set
 (Ws.set
 (Ws.set
 (Ws.set
 (Ws.set
 (Ws.set
 (Ws.set
 (Ws.set
 (Ws.set
 (Ws.set
 (Ws.set
 (Ws.set
 (Ws.zero (64 : Nat))
 (0 : Nat)
 (1116352408 : Int))
 (1 : Nat)
 (1899447441 : Int))
 (2 : Nat)
 (3049323471 : Int))
 (3 : Nat)
 (3921009573 : Int))
 (4 : Nat) (961987163 : Int))
 (5 : Nat) (1508970993 : Int))
 (6 : Nat) (2453635748 : Int))
 (7 : Nat) (2870763221 : Int))
 (8 : Nat) (3624381080 : Int))
 (9 : Nat) (310598401 : Int))
 (10 : Nat) (607225278 : Int))
 (11 : Nat) (1426881987 : Int))
 (12 : Nat) (1925078388 : Int))
 (13 : Nat) (2162078206 : Int))
 (14 : Nat) (2614888103 : Int))
 (15 : Nat) (3248222580 : Int))
 (16 : Nat) (3835390401 : Int))
 (17 : Nat) (4022224774 : Int))
 (18 : Nat) (264347078 : Int))
 (19 : Nat) (604807628 : Int))
 (20 : Nat) (770255983 : Int))
 (21 : Nat) (1249150122 : Int))
 (22 : Nat) (1555081692 : Int))
 (23 : Nat) (1996064986 : Int))
 (24 : Nat) (2554220882 : Int))
 (25 : Nat) (2821834349 : Int))
 (26 : Nat) (2952996808 : Int))
 (27 : Nat) (3210313671 : Int))
 (28 : Nat) (3336571891 : Int))
 (29 : Nat) (3584528711 : Int))
 (30 : Nat) (113926993 : Int))
 (31 : Nat) (338241895 : Int))
 (32 : Nat) (666307205 : Int))
 (33 : Nat) (773529912 : Int))
 (34 : Nat) (1294757372 : Int))
 (35 : Nat) (1396182291 : Int))
 (36 : Nat) (1695183700 : Int))
 (37 : Nat) (1986661051 : Int))
 (38 : Nat) (2177026350 : Int))
 (39 : Nat) (2456956037 : Int))
 (40 : Nat) (2730485921 : Int))
 (41 : Nat) (2820302411 : Int))
 (42 : Nat) (3259730800 : Int))
 (43 : Nat) (3345764771 : Int))
 (44 : Nat) (3516065817 : Int))
 (45 : Nat) (3600352804 : Int))
 (46 : Nat) (4094571909 : Int))
 (47 : Nat) (275423344 : Int))
 (48 : Nat) (430227734 : Int))
 (49 : Nat) (506948616 : Int))
 (50 : Nat) (659060556 : Int))
 (51 : Nat) (883997877 : Int))
 (52 : Nat) (958139571 : Int))
 (53 : Nat) (1322822218 : Int))
 (54 : Nat) (1537002063 : Int))
 (55 : Nat) (1747873779 : Int))
 (56 : Nat) (1955562222 : Int))
 (57 : Nat) (2024104815 : Int))
 (58 : Nat) (2227730452 : Int))
 (59 : Nat) (2361852424 : Int))
 (60 : Nat) (2428436474 : Int))
 (61 : Nat) (2756734187 : Int))
 (62 : Nat) (3204031479 : Int))
 (63 : Nat) (3329325298 : Int))))
 fun (h_2 : Array Obj) ↦
 ∃ (w : Ws (64 : Nat)), atWords h_2 (Array.size h) (0 : Nat) IntKind.u32 (64 : Nat) w ∧ R (TV.val (TV.words IntKind.u32 (64 : Nat) w)) h_2

theorem sha_keys_calls (h : Heap) (R : Value → Heap → Prop) (H : sha_keys_vc h R) : CallsH Try.prog 76 (TVs.vals []) h R :=
 vcFn_sound (C := ctx) ctx_ok (fn := Try.f76) Try.func76 ((by kernel_rfl : sha_keys_vc h R = vcFn ctx Try.f76 [] h R) ▸ H)


def sha_turn_vc (x : Int) (n : Int) (h : Heap) (R : Value → Heap → Prop) : Prop :=
 CallsH Try.prog (89 : Nat) (TVs.vals [TV.int IntKind.u32 x, TV.int IntKind.i64 (IntKind.wrap IntKind.i64 ((0 : Int) - n))]) h fun (v : Value) (h : Heap) ↦
 ∃ (n : Int), v = TV.val (TV.int IntKind.u32 n) ∧ R (TV.val (TV.int IntKind.u32 n)) h

theorem sha_turn_calls (x : Int) (n : Int) (h : Heap) (R : Value → Heap → Prop) (H : sha_turn_vc x n h R) : CallsH Try.prog 77 (TVs.vals [TV.int IntKind.u32 x, TV.int IntKind.i64 n]) h R :=
 vcFn_sound (C := ctx) ctx_ok (fn := Try.f77) Try.func77 ((by kernel_rfl : sha_turn_vc x n h R = vcFn ctx Try.f77 [TV.int IntKind.u32 x, TV.int IntKind.i64 n] h R) ▸ H)


def math_bits_RotateLeft32_vc (x : Int) (k : Int) (h : Heap) (R : Value → Heap → Prop) : Prop :=
 (0 : Int) ≤
 IntKind.wrap IntKind.u64
 (↑(BitVec.toNat (BitVec.ofInt (IntKind.bits IntKind.u64) (IntKind.wrap IntKind.u64 k) &&& BitVec.ofInt (IntKind.bits IntKind.u64) (31 : Int))) : Int) ∧
 (0 : Int) ≤
 IntKind.wrap IntKind.u64
 ((32 : Int) -
 IntKind.wrap IntKind.u64
 (↑(BitVec.toNat (BitVec.ofInt (IntKind.bits IntKind.u64) (IntKind.wrap IntKind.u64 k) &&& BitVec.ofInt (IntKind.bits IntKind.u64) (31 : Int))) :
 Int)) ∧
 R
 (TV.val
 (TV.int IntKind.u32
 (IntKind.wrap IntKind.u32
 (↑(BitVec.toNat
 (BitVec.ofInt (IntKind.bits IntKind.u32)
 (IntKind.wrap IntKind.u32
 (x *
 (2 : Int) ^
 min
 (Int.toNat
 (IntKind.wrap IntKind.u64
 (↑(BitVec.toNat
 (BitVec.ofInt (IntKind.bits IntKind.u64) (IntKind.wrap IntKind.u64 k) &&&
 BitVec.ofInt (IntKind.bits IntKind.u64) (31 : Int))) :
 Int)))
 (IntKind.bits IntKind.u32))) |||
 BitVec.ofInt (IntKind.bits IntKind.u32)
 (Int.fdiv x
 ((2 : Int) ^
 min
 (Int.toNat
 (IntKind.wrap IntKind.u64
 ((32 : Int) -
 IntKind.wrap IntKind.u64
 (↑(BitVec.toNat
 (BitVec.ofInt (IntKind.bits IntKind.u64) (IntKind.wrap IntKind.u64 k) &&&
 BitVec.ofInt (IntKind.bits IntKind.u64) (31 : Int))) :
 Int))))
 (IntKind.bits IntKind.u32))))) :
 Int))))
 h

theorem math_bits_RotateLeft32_calls (x : Int) (k : Int) (h : Heap) (R : Value → Heap → Prop) (H : math_bits_RotateLeft32_vc x k h R) : CallsH Try.prog 89 (TVs.vals [TV.int IntKind.u32 x, TV.int IntKind.i64 k]) h R :=
 vcFn_sound (C := ctx) ctx_ok (fn := Try.f89) Try.func89 ((by kernel_rfl : math_bits_RotateLeft32_vc x k h R = vcFn ctx Try.f89 [TV.int IntKind.u32 x, TV.int IntKind.i64 k] h R) ▸ H)


def sha_first_vc (h : Heap) (R : Value → Heap → Prop) : Prop :=
 Vc.Bind (newTV h (TV.words IntKind.u32 (8 : Nat) (Ws.zero (8 : Nat))) (90 : Nat)) fun (h_1 : Array Obj) ↦
 wok h_1 (Array.size h) (0 : Nat) (8 : Nat) ∧
 Vc.Bind
 (TV.put h_1 (Array.size h) (0 : Nat)
 (TV.words IntKind.u32 (8 : Nat)
 (Ws.set
 (Ws.set
 (Ws.set
 (Ws.set
 (Ws.set (Ws.set (Ws.set (Ws.set (Ws.zero (8 : Nat)) (0 : Nat) (1779033703 : Int)) (1 : Nat) (3144134277 : Int)) (2 : Nat) (1013904242 : Int))
 (3 : Nat) (2773480762 : Int))
 (4 : Nat) (1359893119 : Int))
 (5 : Nat) (2600822924 : Int))
 (6 : Nat) (528734635 : Int))
 (7 : Nat) (1541459225 : Int))))
 fun (h_2 : Array Obj) ↦
 ∃ (w : Ws (8 : Nat)), atWords h_2 (Array.size h) (0 : Nat) IntKind.u32 (8 : Nat) w ∧ R (TV.val (TV.words IntKind.u32 (8 : Nat) w)) h_2

theorem sha_first_calls (h : Heap) (R : Value → Heap → Prop) (H : sha_first_vc h R) : CallsH Try.prog 59 (TVs.vals []) h R :=
 vcFn_sound (C := ctx) ctx_ok (fn := Try.f59) Try.func59 ((by kernel_rfl : sha_first_vc h R = vcFn ctx Try.f59 [] h R) ▸ H)


def sha_state_add_vc (s_ : Option Go.Vc.Loc) (text : List UInt8) (h : Heap) (R : Value → Heap → Prop) : Prop :=
 Nn s_ fun (l : Go.Vc.Loc) ↦
 ∃ (n : Int),
 at1 h l.b (l.o + (9 : Nat)) (Value.int IntKind.u64 n) ∧
 Nn s_ fun (l : Go.Vc.Loc) ↦
 wok h l.b (l.o + (9 : Nat)) (1 : Nat) ∧
 Vc.Bind (TV.put h l.b (l.o + (9 : Nat)) (TV.int IntKind.u64 (IntKind.wrap IntKind.u64 (n + IntKind.wrap IntKind.u64 (↑(List.length text) : Int)))))
 fun (h : Array Obj) ↦
 Nn s_ fun (l : Go.Vc.Loc) ↦
 ∃ (s : Sl),
 at1 h l.b (l.o + (8 : Nat)) (slVal s) ∧
 vcAppend Ytgdhddignbkloaa.ctx (5 : Nat) s (List.length text) (List.map (fun (c : UInt8) ↦ Value.int IntKind.u8 (↑(UInt8.toNat c) : Int)) text)
 h fun (s : Sl) (h : Array Obj) ↦
 Nn s_ fun (l : Go.Vc.Loc) ↦
 wok h l.b (l.o + (8 : Nat)) (1 : Nat) ∧
 Vc.Bind (TV.put h l.b (l.o + (8 : Nat)) (TV.slice s)) fun (h : Array Obj) ↦
 Go.Vc.Loop PUnit.unit h fun (s : PUnit) (h : Array Obj) (K : PUnit → Array Obj → Prop) ↦
 Nn s_ fun (l : Go.Vc.Loc) ↦
 ∃ (s : Sl),
 at1 h l.b (l.o + (8 : Nat)) (slVal s) ∧
 If (decide ((64 : Int) ≤ (↑s.len : Int)))
 (Nn s_ fun (l : Go.Vc.Loc) ↦
 ∃ (s : Sl),
 at1 h l.b (l.o + (8 : Nat)) (slVal s) ∧
 (0 : Int) ≤ (64 : Int) ∧
 (64 : Int) ≤ (↑s.cap : Int) ∧
 CallsH Try.prog (68 : Nat) (TVs.vals [TV.ptr s_, TV.slice (cutSl s (0 : Nat) (Int.toNat (64 : Int)) (1 : Nat))]) h
 fun (v : Value) (h : Array Obj) ↦
 v = TV.val (TV.tup []) ∧
 Nn s_ fun (l : Go.Vc.Loc) ↦
 ∃ (s : Sl),
 at1 h l.b (l.o + (8 : Nat)) (slVal s) ∧
 (0 : Int) ≤ (64 : Int) ∧
 (64 : Int) ≤ (↑s.len : Int) ∧
 Nn s_ fun (l : Go.Vc.Loc) ↦
 wok h l.b (l.o + (8 : Nat)) (1 : Nat) ∧
 Vc.Bind
 (TV.put h l.b (l.o + (8 : Nat)) (TV.slice (cutSl s (Int.toNat (64 : Int)) s.len (1 : Nat))))
 fun (h : Array Obj) ↦ K PUnit.unit h)
 (R (TV.val (TV.tup [])) h)

theorem sha_state_add_calls (s_ : Option Go.Vc.Loc) (text : List UInt8) (h : Heap) (R : Value → Heap → Prop) (H : sha_state_add_vc s_ text h R) : CallsH Try.prog 60 (TVs.vals [TV.ptr s_, TV.str text]) h R :=
 vcFn_sound (C := ctx) ctx_ok (fn := Try.f60) Try.func60 ((by kernel_rfl : sha_state_add_vc s_ text h R = vcFn ctx Try.f60 [TV.ptr s_, TV.str text] h R) ▸ H)


def sha_Of_vc (list : Sl) (h : Heap) (R : Value → Heap → Prop) : Prop :=
 Vc.Bind (newTV h (TV.bytes (32 : Nat) (Bs.zero (32 : Nat))) (26 : Nat)) fun (h_1 : Array Obj) ↦
 CallsH Try.prog (59 : Nat) (TVs.vals []) h_1 fun (v : Value) (h_2 : Array Obj) ↦
 ∃ (w : Ws (8 : Nat)),
 v = TV.val (TV.words IntKind.u32 (8 : Nat) w) ∧
 Vc.Bind (newTV h_2 (TV.agg [TV.words IntKind.u32 (8 : Nat) w, TV.slice Sl.nil, TV.int IntKind.u64 (0 : Int)]) (99 : Nat)) fun (h_3 : Array Obj) ↦
 Go.Vc.Loop (0 : Int) h_3 fun (s : Int) (h_4 : Array Obj) (K : Int → Array Obj → Prop) ↦
 If (decide (s < (↑list.len : Int)))
 ((0 : Int) ≤ s ∧
 s < (↑list.len : Int) ∧
 Nn list.a fun (l : Go.Vc.Loc) ↦
 ∃ (s_1 : List UInt8),
 at1 h_4 l.b (l.o + Int.toNat s * (1 : Nat)) (Value.string (ByteArray.mk (List.toArray s_1))) ∧
 CallsH Try.prog (60 : Nat) (TVs.vals [TV.ptr (some (Loc.mk (Array.size h_2) (0 : Nat))), TV.str s_1]) h_4
 fun (v : Value) (h : Array Obj) ↦ v = TV.val (TV.tup []) ∧ K (IntKind.wrap IntKind.i64 (s + (1 : Int))) h)
 (CallsH Try.prog (61 : Nat) (TVs.vals [TV.ptr (some (Loc.mk (Array.size h_2) (0 : Nat)))]) h_4 fun (v : Value) (h_5 : Array Obj) ↦
 ∃ (b : Bs (32 : Nat)),
 v = TV.val (TV.bytes (32 : Nat) b) ∧
 wok h_5 (Array.size h) (0 : Nat) (32 : Nat) ∧
 Vc.Bind (TV.put h_5 (Array.size h) (0 : Nat) (TV.bytes (32 : Nat) b)) fun (h_6 : Array Obj) ↦
 ∃ (b : Bs (32 : Nat)), atBytes h_6 (Array.size h) (0 : Nat) (32 : Nat) b ∧ R (TV.val (TV.bytes (32 : Nat) b)) h_6)

theorem sha_Of_calls (list : Sl) (h : Heap) (R : Value → Heap → Prop) (H : sha_Of_vc list h R) : CallsH Try.prog 46 (TVs.vals [TV.slice list]) h R :=
 vcFn_sound (C := ctx) ctx_ok (fn := Try.f46) Try.func46 ((by kernel_rfl : sha_Of_vc list h R = vcFn ctx Try.f46 [TV.slice list] h R) ▸ H)


def sha_state_end_vc (s_ : Option Go.Vc.Loc) (h : Heap) (R : Value → Heap → Prop) : Prop :=
 Vc.Bind (newTV h (TV.bytes (32 : Nat) (Bs.zero (32 : Nat))) (26 : Nat)) fun (h_1 : Array Obj) ↦
 Nn s_ fun (l : Go.Vc.Loc) ↦
 ∃ (n : Int),
 at1 h_1 l.b (l.o + (9 : Nat)) (Value.int IntKind.u64 n) ∧
 Nn s_ fun (l : Go.Vc.Loc) ↦
 ∃ (s : Sl),
 at1 h_1 l.b (l.o + (8 : Nat)) (slVal s) ∧
 ∃ (new : List Value),
 slAt (Array.push h_1 (row (TVs.cells [TV.int IntKind.u8 (128 : Int)]) (5 : Nat)))
 (Sl.mk (some (Loc.mk (Array.size h_1) (0 : Nat))) (1 : Nat) (1 : Nat)) (1 : Nat) new ∧
 (∀ (v : Value), v ∈ new → isOne v = true) ∧
 vcAppend Ytgdhddignbkloaa.ctx (5 : Nat) s (1 : Nat) new (Array.push h_1 (row (TVs.cells [TV.int IntKind.u8 (128 : Int)]) (5 : Nat)))
 fun (s : Sl) (h_2 : Array Obj) ↦
 Nn s_ fun (l : Go.Vc.Loc) ↦
 wok h_2 l.b (l.o + (8 : Nat)) (1 : Nat) ∧
 Vc.Bind (TV.put h_2 l.b (l.o + (8 : Nat)) (TV.slice s)) fun (h_3 : Array Obj) ↦
 Go.Vc.Loop PUnit.unit h_3 fun (s : PUnit) (h_4 : Array Obj) (K : PUnit → Array Obj → Prop) ↦
 Nn s_ fun (l : Go.Vc.Loc) ↦
 ∃ (s : Sl),
 at1 h_4 l.b (l.o + (8 : Nat)) (slVal s) ∧
 (64 : Int) ≠ (0 : Int) ∧
 If (!decide (Int.tmod (↑s.len : Int) (64 : Int) = (56 : Int)))
 (Nn s_ fun (l : Go.Vc.Loc) ↦
 ∃ (s : Sl),
 at1 h_4 l.b (l.o + (8 : Nat)) (slVal s) ∧
 ∃ (new : List Value),
 slAt (Array.push h_4 (row (TVs.cells [TV.int IntKind.u8 (0 : Int)]) (5 : Nat)))
 (Sl.mk (some (Loc.mk (Array.size h_4) (0 : Nat))) (1 : Nat) (1 : Nat)) (1 : Nat) new ∧
 (∀ (v : Value), v ∈ new → isOne v = true) ∧
 vcAppend Ytgdhddignbkloaa.ctx (5 : Nat) s (1 : Nat) new
 (Array.push h_4 (row (TVs.cells [TV.int IntKind.u8 (0 : Int)]) (5 : Nat))) fun (s : Sl) (h : Array Obj) ↦
 Nn s_ fun (l : Go.Vc.Loc) ↦
 wok h l.b (l.o + (8 : Nat)) (1 : Nat) ∧
 Vc.Bind (TV.put h l.b (l.o + (8 : Nat)) (TV.slice s)) fun (h : Array Obj) ↦ K PUnit.unit h)
 (Go.Vc.Loop (0 : Int) h_4 fun (s : Int) (h_5 : Array Obj) (K : Int → Array Obj → Prop) ↦
 If (decide (s < (8 : Int)))
 (Nn s_ fun (l : Go.Vc.Loc) ↦
 ∃ (s_1 : Sl),
 at1 h_5 l.b (l.o + (8 : Nat)) (slVal s_1) ∧
 (0 : Int) ≤ IntKind.wrap IntKind.i64 ((56 : Int) - IntKind.wrap IntKind.i64 ((8 : Int) * s)) ∧
 Ext h_5
 (Array.push h_5
 (row
 (TVs.cells
 [TV.int IntKind.u8
 (IntKind.wrap IntKind.u8
 (Int.fdiv (IntKind.wrap IntKind.u64 (n * (8 : Int)))
 ((2 : Int) ^
 min
 (Int.toNat
 (IntKind.wrap IntKind.i64 ((56 : Int) - IntKind.wrap IntKind.i64 ((8 : Int) * s))))
 (IntKind.bits IntKind.u64))))])
 (5 : Nat))) ∧
 ∃ (new : List Value),
 slAt
 (Array.push h_5
 (row
 (TVs.cells
 [TV.int IntKind.u8
 (IntKind.wrap IntKind.u8
 (Int.fdiv (IntKind.wrap IntKind.u64 (n * (8 : Int)))
 ((2 : Int) ^
 min
 (Int.toNat
 (IntKind.wrap IntKind.i64
 ((56 : Int) - IntKind.wrap IntKind.i64 ((8 : Int) * s))))
 (IntKind.bits IntKind.u64))))])
 (5 : Nat)))
 (Sl.mk (some (Loc.mk (Array.size h_5) (0 : Nat))) (1 : Nat) (1 : Nat)) (1 : Nat) new ∧
 (∀ (v : Value), v ∈ new → isOne v = true) ∧
 vcAppend Ytgdhddignbkloaa.ctx (5 : Nat) s_1 (1 : Nat) new
 (Array.push h_5
 (row
 (TVs.cells
 [TV.int IntKind.u8
 (IntKind.wrap IntKind.u8
 (Int.fdiv (IntKind.wrap IntKind.u64 (n * (8 : Int)))
 ((2 : Int) ^
 min
 (Int.toNat
 (IntKind.wrap IntKind.i64
 ((56 : Int) - IntKind.wrap IntKind.i64 ((8 : Int) * s))))
 (IntKind.bits IntKind.u64))))])
 (5 : Nat)))
 fun (s_2 : Sl) (h : Array Obj) ↦
 Nn s_ fun (l : Go.Vc.Loc) ↦
 wok h l.b (l.o + (8 : Nat)) (1 : Nat) ∧
 Vc.Bind (TV.put h l.b (l.o + (8 : Nat)) (TV.slice s_2)) fun (h : Array Obj) ↦
 K (IntKind.wrap IntKind.i64 (s + (1 : Int))) h)
 (Go.Vc.Loop PUnit.unit h_5 fun (s : PUnit) (h_6 : Array Obj) (K : PUnit → Array Obj → Prop) ↦
 Nn s_ fun (l : Go.Vc.Loc) ↦
 ∃ (s : Sl),
 at1 h_6 l.b (l.o + (8 : Nat)) (slVal s) ∧
 If (decide ((0 : Int) < (↑s.len : Int)))
 (Nn s_ fun (l : Go.Vc.Loc) ↦
 ∃ (s : Sl),
 at1 h_6 l.b (l.o + (8 : Nat)) (slVal s) ∧
 (0 : Int) ≤ (64 : Int) ∧
 (64 : Int) ≤ (↑s.cap : Int) ∧
 CallsH Try.prog (68 : Nat)
 (TVs.vals [TV.ptr s_, TV.slice (cutSl s (0 : Nat) (Int.toNat (64 : Int)) (1 : Nat))]) h_6
 fun (v : Value) (h : Array Obj) ↦
 v = TV.val (TV.tup []) ∧
 Nn s_ fun (l : Go.Vc.Loc) ↦
 ∃ (s : Sl),
 at1 h l.b (l.o + (8 : Nat)) (slVal s) ∧
 (0 : Int) ≤ (64 : Int) ∧
 (64 : Int) ≤ (↑s.len : Int) ∧
 Nn s_ fun (l : Go.Vc.Loc) ↦
 wok h l.b (l.o + (8 : Nat)) (1 : Nat) ∧
 Vc.Bind
 (TV.put h l.b (l.o + (8 : Nat))
 (TV.slice (cutSl s (Int.toNat (64 : Int)) s.len (1 : Nat))))
 fun (h : Array Obj) ↦ K PUnit.unit h)
 (Vc.Bind (newTV h_6 (TV.bytes (32 : Nat) (Bs.zero (32 : Nat))) (26 : Nat)) fun (h_7 : Array Obj) ↦
 Nn s_ fun (l : Go.Vc.Loc) ↦
 ∃ (w : Ws (8 : Nat)),
 atWords h_7 l.b l.o IntKind.u32 (8 : Nat) w ∧
 Go.Vc.Loop (0 : Int) h_7 fun (s : Int) (h_8 : Array Obj) (K : Int → Array Obj → Prop) ↦
 If (decide (s < (8 : Int)))
 ((0 : Int) ≤ s ∧
 s < (↑(8 : Nat) : Int) ∧
 (0 : Int) ≤ (24 : Int) ∧
 (0 : Int) ≤ (16 : Int) ∧
 (0 : Int) ≤ (8 : Int) ∧
 (0 : Int) ≤ IntKind.wrap IntKind.i64 ((4 : Int) * s) ∧
 IntKind.wrap IntKind.i64 ((4 : Int) * s) < (↑(32 : Nat) : Int) ∧
 wok h_8 (Array.size h_6)
 ((0 : Nat) +
 Int.toNat (IntKind.wrap IntKind.i64 ((4 : Int) * s)) * (1 : Nat))
 (1 : Nat) ∧
 Vc.Bind
 (TV.put h_8 (Array.size h_6)
 ((0 : Nat) +
 Int.toNat (IntKind.wrap IntKind.i64 ((4 : Int) * s)) * (1 : Nat))
 (TV.int IntKind.u8
 (IntKind.wrap IntKind.u8
 (Int.fdiv (List.getD w.l (Int.toNat s) (0 : Int))
 ((2 : Int) ^
 min (Int.toNat (24 : Int)) (IntKind.bits IntKind.u32))))))
 fun (h : Array Obj) ↦
 (0 : Int) ≤
 IntKind.wrap IntKind.i64
 (IntKind.wrap IntKind.i64 ((4 : Int) * s) + (1 : Int)) ∧
 IntKind.wrap IntKind.i64
 (IntKind.wrap IntKind.i64 ((4 : Int) * s) + (1 : Int)) <
 (↑(32 : Nat) : Int) ∧
 wok h (Array.size h_6)
 ((0 : Nat) +
 Int.toNat
 (IntKind.wrap IntKind.i64
 (IntKind.wrap IntKind.i64 ((4 : Int) * s) + (1 : Int))) *
 (1 : Nat))
 (1 : Nat) ∧
 Vc.Bind
 (TV.put h (Array.size h_6)
 ((0 : Nat) +
 Int.toNat
 (IntKind.wrap IntKind.i64
 (IntKind.wrap IntKind.i64 ((4 : Int) * s) + (1 : Int))) *
 (1 : Nat))
 (TV.int IntKind.u8
 (IntKind.wrap IntKind.u8
 (Int.fdiv (List.getD w.l (Int.toNat s) (0 : Int))
 ((2 : Int) ^
 min (Int.toNat (16 : Int)) (IntKind.bits IntKind.u32))))))
 fun (h : Array Obj) ↦
 (0 : Int) ≤
 IntKind.wrap IntKind.i64
 (IntKind.wrap IntKind.i64 ((4 : Int) * s) + (2 : Int)) ∧
 IntKind.wrap IntKind.i64
 (IntKind.wrap IntKind.i64 ((4 : Int) * s) + (2 : Int)) <
 (↑(32 : Nat) : Int) ∧
 wok h (Array.size h_6)
 ((0 : Nat) +
 Int.toNat
 (IntKind.wrap IntKind.i64
 (IntKind.wrap IntKind.i64 ((4 : Int) * s) +
 (2 : Int))) *
 (1 : Nat))
 (1 : Nat) ∧
 Vc.Bind
 (TV.put h (Array.size h_6)
 ((0 : Nat) +
 Int.toNat
 (IntKind.wrap IntKind.i64
 (IntKind.wrap IntKind.i64 ((4 : Int) * s) +
 (2 : Int))) *
 (1 : Nat))
 (TV.int IntKind.u8
 (IntKind.wrap IntKind.u8
 (Int.fdiv (List.getD w.l (Int.toNat s) (0 : Int))
 ((2 : Int) ^
 min (Int.toNat (8 : Int))
 (IntKind.bits IntKind.u32))))))
 fun (h : Array Obj) ↦
 (0 : Int) ≤
 IntKind.wrap IntKind.i64
 (IntKind.wrap IntKind.i64 ((4 : Int) * s) +
 (3 : Int)) ∧
 IntKind.wrap IntKind.i64
 (IntKind.wrap IntKind.i64 ((4 : Int) * s) +
 (3 : Int)) <
 (↑(32 : Nat) : Int) ∧
 wok h (Array.size h_6)
 ((0 : Nat) +
 Int.toNat
 (IntKind.wrap IntKind.i64
 (IntKind.wrap IntKind.i64 ((4 : Int) * s) +
 (3 : Int))) *
 (1 : Nat))
 (1 : Nat) ∧
 Vc.Bind
 (TV.put h (Array.size h_6)
 ((0 : Nat) +
 Int.toNat
 (IntKind.wrap IntKind.i64
 (IntKind.wrap IntKind.i64
 ((4 : Int) * s) +
 (3 : Int))) *
 (1 : Nat))
 (TV.int IntKind.u8
 (IntKind.wrap IntKind.u8
 (List.getD w.l (Int.toNat s) (0 : Int)))))
 fun (h : Array Obj) ↦
 K (IntKind.wrap IntKind.i64 (s + (1 : Int))) h)
 (∃ (b : Bs (32 : Nat)),
 atBytes h_8 (Array.size h_6) (0 : Nat) (32 : Nat) b ∧
 wok h_8 (Array.size h) (0 : Nat) (32 : Nat) ∧
 Vc.Bind (TV.put h_8 (Array.size h) (0 : Nat) (TV.bytes (32 : Nat) b))
 fun (h_9 : Array Obj) ↦
 ∃ (b : Bs (32 : Nat)),
 atBytes h_9 (Array.size h) (0 : Nat) (32 : Nat) b ∧
 R (TV.val (TV.bytes (32 : Nat) b)) h_9))))

theorem sha_state_end_calls (s_ : Option Go.Vc.Loc) (h : Heap) (R : Value → Heap → Prop) (H : sha_state_end_vc s_ h R) : CallsH Try.prog 61 (TVs.vals [TV.ptr s_]) h R :=
 vcFn_sound (C := ctx) ctx_ok (fn := Try.f61) Try.func61 ((by kernel_rfl : sha_state_end_vc s_ h R = vcFn ctx Try.f61 [TV.ptr s_] h R) ▸ H)


def le_Put_vc (b : Sl) (n : Int) (width : Int) (h : Heap) (R : Value → Heap → Prop) : Prop :=
 Go.Vc.Loop (b, n, (0 : Int)) h fun (s : Sl × Int × Int) (h : Array Obj) (K : Sl × Int × Int → Array Obj → Prop) ↦
 If (decide (s.snd.snd < mn (mx width (0 : Int)) (8 : Int)))
 (∃ (new : List Value),
 slAt (Array.push h (row (TVs.cells [TV.int IntKind.u8 (IntKind.wrap IntKind.u8 s.snd.fst)]) (5 : Nat)))
 (Sl.mk (some (Loc.mk (Array.size h) (0 : Nat))) (1 : Nat) (1 : Nat)) (1 : Nat) new ∧
 (∀ (v : Value), v ∈ new → isOne v = true) ∧
 vcAppend Ytgdhddignbkloaa.ctx (5 : Nat) s.fst (1 : Nat) new
 (Array.push h (row (TVs.cells [TV.int IntKind.u8 (IntKind.wrap IntKind.u8 s.snd.fst)]) (5 : Nat))) fun (s_1 : Sl) (h : Array Obj) ↦
 (0 : Int) ≤ (8 : Int) ∧
 K (s_1, Int.fdiv s.snd.fst ((2 : Int) ^ min (Int.toNat (8 : Int)) (IntKind.bits IntKind.u64)), IntKind.wrap IntKind.i64 (s.snd.snd + (1 : Int)))
 h)
 (R (TV.val (TV.slice s.fst)) h)

theorem le_Put_calls (b : Sl) (n : Int) (width : Int) (h : Heap) (R : Value → Heap → Prop) (H : le_Put_vc b n width h R) : CallsH Try.prog 48 (TVs.vals [TV.slice b, TV.int IntKind.u64 n, TV.int IntKind.i64 width]) h R :=
 vcFn_sound (C := ctx) ctx_ok (fn := Try.f48) Try.func48 ((by kernel_rfl : le_Put_vc b n width h R = vcFn ctx Try.f48 [TV.slice b, TV.int IntKind.u64 n, TV.int IntKind.i64 width] h R) ▸ H)


def board_lot_vc (slot : Int) (who : Int) (h : Heap) (R : Value → Heap → Prop) : Prop :=
 Vc.Bind (newTV h (TV.bytes (32 : Nat) (Bs.zero (32 : Nat))) (26 : Nat)) fun (h_1 : Array Obj) ↦
 CallsH Try.prog (48 : Nat) (TVs.vals [TV.slice Sl.nil, TV.int IntKind.u64 (IntKind.wrap IntKind.u64 slot), TV.int IntKind.i64 (4 : Int)]) h_1
 fun (v : Value) (h_2 : Array Obj) ↦
 ∃ (s : Sl),
 v = TV.val (TV.slice s) ∧
 CallsH Try.prog (48 : Nat) (TVs.vals [TV.slice s, TV.int IntKind.u64 (IntKind.wrap IntKind.u64 who), TV.int IntKind.i64 (2 : Int)]) h_2
 fun (v : Value) (h_3 : Array Obj) ↦
 ∃ (s : Sl),
 v = TV.val (TV.slice s) ∧
 ∃ (bs : List UInt8),
 strAt h_3 s bs ∧
 CallsH Try.prog (46 : Nat) (TVs.vals [TV.slice (Sl.mk (some (Loc.mk (Array.size h_3) (0 : Nat))) (2 : Nat) (2 : Nat))])
 (Array.push h_3
 (row (TVs.cells [TV.str (ByteArray.mk #[(98 : UInt8), (111 : UInt8), (97 : UInt8), (114 : UInt8), (100 : UInt8)]).data.toList, TV.str bs])
 (9 : Nat)))
 fun (v : Value) (h_4 : Array Obj) ↦
 ∃ (b : Bs (32 : Nat)),
 v = TV.val (TV.bytes (32 : Nat) b) ∧
 wok h_4 (Array.size h) (0 : Nat) (32 : Nat) ∧
 Vc.Bind (TV.put h_4 (Array.size h) (0 : Nat) (TV.bytes (32 : Nat) b)) fun (h_5 : Array Obj) ↦
 ∃ (b : Bs (32 : Nat)), atBytes h_5 (Array.size h) (0 : Nat) (32 : Nat) b ∧ R (TV.val (TV.bytes (32 : Nat) b)) h_5

theorem board_lot_calls (slot : Int) (who : Int) (h : Heap) (R : Value → Heap → Prop) (H : board_lot_vc slot who h R) : CallsH Try.prog 63 (TVs.vals [TV.int IntKind.i64 slot, TV.int IntKind.i64 who]) h R :=
 vcFn_sound (C := ctx) ctx_ok (fn := Try.f63) Try.func63 ((by kernel_rfl : board_lot_vc slot who h R = vcFn ctx Try.f63 [TV.int IntKind.i64 slot, TV.int IntKind.i64 who] h R) ▸ H)


def sha_Less_vc (a : Bs (32 : Nat)) (b : Bs (32 : Nat)) (h : Heap) (R : Value → Heap → Prop) : Prop :=
 Vc.Bind (newTV h (TV.bytes (32 : Nat) a) (26 : Nat)) fun (h_1 : Array Obj) ↦
 Vc.Bind (newTV h_1 (TV.bytes (32 : Nat) b) (26 : Nat)) fun (h_2 : Array Obj) ↦
 ∃ (bs : List UInt8),
 strAt h_2 (cutSl (Sl.mk (some (Loc.mk (Array.size h) (0 : Nat))) (32 : Nat) (32 : Nat)) (0 : Nat) (32 : Nat) (1 : Nat)) bs ∧
 ∃ (bs_1 : List UInt8),
 strAt h_2 (cutSl (Sl.mk (some (Loc.mk (Array.size h_1) (0 : Nat))) (32 : Nat) (32 : Nat)) (0 : Nat) (32 : Nat) (1 : Nat)) bs_1 ∧
 R (TV.val (TV.bool (Op.bytesLess bs bs_1))) h_2

theorem sha_Less_calls (a : Bs (32 : Nat)) (b : Bs (32 : Nat)) (h : Heap) (R : Value → Heap → Prop) (H : sha_Less_vc a b h R) : CallsH Try.prog 71 (TVs.vals [TV.bytes (32 : Nat) a, TV.bytes (32 : Nat) b]) h R :=
 vcFn_sound (C := ctx) ctx_ok (fn := Try.f71) Try.func71 ((by kernel_rfl : sha_Less_vc a b h R = vcFn ctx Try.f71 [TV.bytes (32 : Nat) a, TV.bytes (32 : Nat) b] h R) ▸ H)


end Go.Proofs.Ytgdhddignbkloaa

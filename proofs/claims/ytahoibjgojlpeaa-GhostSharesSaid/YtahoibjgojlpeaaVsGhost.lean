/- The conditions of functions, as the generator reckons them out, each with the proof that it is that. -/
import Derived.Test.YtahoibjgojlpeaaCtx
namespace Go.Proofs.Ytahoibjgojlpeaa
open Go Go.Vc
set_option maxRecDepth 100000
set_option linter.unusedVariables false

def tollerlaw20_alive_vc (h : Heap) (R : Value → Heap → Prop) : Prop :=
 CallsH Try.prog (29 : Nat)
 (TVs.vals
 [TV.slice (Sl.mk (some (Loc.mk (Array.size h) (0 : Nat))) (2 : Nat) (2 : Nat)),
 TV.slice
 (Sl.mk
 (some
 (Loc.mk
 (Array.size
 (Array.push h
 (row
 (TVs.cells
 (List.set (List.set (List.replicate (2 : Nat) (TV.int IntKind.i64 (0 : Int))) (0 : Nat) (TV.int IntKind.i64 (0 : Int))) (1 : Nat)
 (TV.int IntKind.i64 (0 : Int))))
 (3 : Nat))))
 (0 : Nat)))
 (1 : Nat) (1 : Nat)),
 TV.slice
 (Sl.mk
 (some
 (Loc.mk
 (Array.size
 (Array.push
 (Array.push h
 (row
 (TVs.cells
 (List.set (List.set (List.replicate (2 : Nat) (TV.int IntKind.i64 (0 : Int))) (0 : Nat) (TV.int IntKind.i64 (0 : Int))) (1 : Nat)
 (TV.int IntKind.i64 (0 : Int))))
 (3 : Nat)))
 (row (TVs.cells (List.set (List.replicate (1 : Nat) (TV.int IntKind.i64 (0 : Int))) (0 : Nat) (TV.int IntKind.i64 (1 : Int)))) (3 : Nat))))
 (0 : Nat)))
 (1 : Nat) (1 : Nat))])
 (Array.push
 (Array.push (Array.push h (row (TVs.cells [TV.int IntKind.i64 (0 : Int), TV.int IntKind.i64 (0 : Int)]) (3 : Nat)))
 (row (TVs.cells [TV.int IntKind.i64 (1 : Int)]) (3 : Nat)))
 (row (TVs.cells [TV.int IntKind.i64 (5 : Int)]) (3 : Nat)))
 fun (v : Value) (h : Array Obj) ↦
 ∃ (s : Sl),
 ∃ (s_1 : Sl),
 ∃ (s_2 : Sl),
 ∃ (s_3 : Sl),
 v = TV.val (TV.agg [TV.slice s, TV.slice s_1, TV.slice s_2, TV.slice s_3]) ∧
 CallsH Try.prog (31 : Nat) (TVs.vals [TV.agg [TV.slice s, TV.slice s_1, TV.slice s_2, TV.slice s_3]]) h fun (v : Value) (h : Array Obj) ↦
 ∃ (s : Sl),
 ∃ (s_4 : Sl),
 v = TV.val (TV.agg [TV.slice s, TV.slice s_4]) ∧
 wok (newTV h (TV.agg [TV.slice Sl.nil, TV.slice Sl.nil]) (46 : Nat)) (Array.size h) (0 : Nat) (Nat.succ (Nat.add (1 : Nat) (0 : Nat))) ∧
 ∃ (s_5 : Sl),
 ∃ (s_6 : Sl),
 (at1
 (TV.put (newTV h (TV.agg [TV.slice Sl.nil, TV.slice Sl.nil]) (46 : Nat)) (Array.size h) (0 : Nat)
 (TV.agg [TV.slice s, TV.slice s_4]))
 (Array.size h) (0 : Nat) (slVal s_5) ∧
 at1
 (TV.put (newTV h (TV.agg [TV.slice Sl.nil, TV.slice Sl.nil]) (46 : Nat)) (Array.size h) (0 : Nat)
 (TV.agg [TV.slice s, TV.slice s_4]))
 (Array.size h) (1 : Nat) (slVal s_6)) ∧
 CallsH Try.prog (34 : Nat) (TVs.vals [TV.agg [TV.slice s_5, TV.slice s_6]])
 (TV.put (newTV h (TV.agg [TV.slice Sl.nil, TV.slice Sl.nil]) (46 : Nat)) (Array.size h) (0 : Nat)
 (TV.agg [TV.slice s, TV.slice s_4]))
 fun (v : Value) (h_1 : Heap) ↦
 ∃ (b : Bs (32 : Nat)),
 v = TV.val (TV.bytes (32 : Nat) b) ∧
 CallsH Try.prog (37 : Nat) (TVs.vals [TV.int IntKind.i64 (1 : Int)]) h_1 fun (v : Value) (h_2 : Heap) ↦
 ∃ (b_1 : Bs (32 : Nat)),
 v = TV.val (TV.bytes (32 : Nat) b_1) ∧
 If (decide (b.1 = b_1.1))
 (∃ (s : Sl),
 ∃ (s_7 : Sl),
 (at1 h_2 (Array.size h) (0 : Nat) (slVal s) ∧ at1 h_2 (Array.size h) (1 : Nat) (slVal s_7)) ∧
 CallsH Try.prog (37 : Nat) (TVs.vals [TV.int IntKind.i64 (0 : Int)]) h_2 fun (v : Value) (h : Heap) ↦
 ∃ (b : Bs (32 : Nat)),
 v = TV.val (TV.bytes (32 : Nat) b) ∧
 Ext h_2 h ∧
 CallsH Try.prog (33 : Nat) (TVs.vals [TV.agg [TV.slice s, TV.slice s_7], TV.bytes (32 : Nat) b]) h
 fun (v : Value) (h : Heap) ↦
 ∃ (n : Int), v = TV.val (TV.int IntKind.i64 n) ∧ R (TV.val (TV.bool (decide (n = (5 : Int))))) h)
 (R (TV.val (TV.bool false)) h_2)

theorem tollerlaw20_alive_calls (h : Heap) (R : Value → Heap → Prop) (H : tollerlaw20_alive_vc h R) : CallsH Try.prog 27 (TVs.vals []) h R :=
 vcFn_sound (C := ctx) ctx_ok (fn := Try.f27) Try.func27 ((by kernel_rfl : tollerlaw20_alive_vc h R = vcFn ctx Try.f27 [] h R) ▸ H)


def tollerlaw20_great_vc (parents : Sl) (targets : Sl) (stakes : Sl) (h : Heap) (R : Value → Heap → Prop) : Prop :=
 If (decide ((40 : Int) < (↑parents.len : Int))) (R (TV.val (TV.bool true)) h)
 (If (decide ((60 : Int) < (↑targets.len : Int))) (R (TV.val (TV.bool true)) h) (R (TV.val (TV.bool !decide ((↑targets.len : Int) = (↑stakes.len : Int)))) h))

theorem tollerlaw20_great_calls (parents : Sl) (targets : Sl) (stakes : Sl) (h : Heap) (R : Value → Heap → Prop) (H : tollerlaw20_great_vc parents targets stakes h R) : CallsH Try.prog 28 (TVs.vals [TV.slice parents, TV.slice targets, TV.slice stakes]) h R :=
 vcFn_sound (C := ctx) ctx_ok (fn := Try.f28) Try.func28 ((by kernel_rfl : tollerlaw20_great_vc parents targets stakes h R = vcFn ctx Try.f28 [TV.slice parents, TV.slice targets, TV.slice stakes] h R) ▸ H)


def tollerlaw20_plain_vc (parents : Sl) (targets : Sl) (stakes : Sl) (h : Heap) (R : Value → Heap → Prop) : Prop :=
 CallsH Try.prog (37 : Nat) (TVs.vals [TV.int IntKind.i64 (0 : Int)])
 (newTV h (TV.agg [TV.slice Sl.nil, TV.slice Sl.nil, TV.slice Sl.nil, TV.slice Sl.nil]) (41 : Nat)) fun (v : Value) (h_1 : Heap) ↦
 ∃ (b : Bs (32 : Nat)),
 v = TV.val (TV.bytes (32 : Nat) b) ∧
 wok
 (newTV
 (Array.push (Array.push h_1 (row (TVs.cells [TV.bytes (32 : Nat) b]) (37 : Nat)))
 (row (TVs.cells [TV.bytes (32 : Nat) (Bs.zero (32 : Nat))]) (37 : Nat)))
 (TV.agg [TV.slice Sl.nil, TV.slice Sl.nil, TV.slice Sl.nil, TV.slice Sl.nil]) (41 : Nat))
 (Array.size
 (Array.push (Array.push h_1 (row (TVs.cells [TV.bytes (32 : Nat) b]) (37 : Nat)))
 (row (TVs.cells [TV.bytes (32 : Nat) (Bs.zero (32 : Nat))]) (37 : Nat))))
 (0 : Nat) (Nat.succ (Nat.add (1 : Nat) (2 : Nat))) ∧
 Go.Vc.Loop (0 : Int)
 (TV.put
 (newTV
 (Array.push (Array.push h_1 (row (TVs.cells [TV.bytes (32 : Nat) b]) (37 : Nat)))
 (row (TVs.cells [TV.bytes (32 : Nat) (Bs.zero (32 : Nat))]) (37 : Nat)))
 (TV.agg [TV.slice Sl.nil, TV.slice Sl.nil, TV.slice Sl.nil, TV.slice Sl.nil]) (41 : Nat))
 (Array.size
 (Array.push (Array.push h_1 (row (TVs.cells [TV.bytes (32 : Nat) b]) (37 : Nat)))
 (row (TVs.cells [TV.bytes (32 : Nat) (Bs.zero (32 : Nat))]) (37 : Nat))))
 (0 : Nat)
 (TV.agg
 [TV.slice (Sl.mk (some (Loc.mk (Array.size h_1) (0 : Nat))) (1 : Nat) (1 : Nat)),
 TV.slice
 (Sl.mk
 (some
 (Loc.mk
 (Array.size
 (Array.push h_1
 (row (TVs.cells (List.set (List.replicate (1 : Nat) (TV.bytes (32 : Nat) (Bs.zero (32 : Nat)))) (0 : Nat) (TV.bytes (32 : Nat) b)))
 (37 : Nat))))
 (0 : Nat)))
 (1 : Nat) (1 : Nat)),
 TV.slice Sl.nil, TV.slice stakes]))
 fun (s : Int) (h_2 : Array Obj) (K : Int → Array Obj → Prop) ↦
 If (decide (s < (↑parents.len : Int)))
 ((0 : Int) ≤ s ∧
 s < (↑parents.len : Int) ∧
 Nn parents.a fun (l : Go.Vc.Loc) ↦
 ∃ (n : Int),
 at1 h_2 l.b (l.o + Int.toNat s * (1 : Nat)) (Value.int IntKind.i64 n) ∧
 ∃ (s_1 : Sl),
 at1 h_2
 (Array.size
 (Array.push (Array.push h_1 (row (TVs.cells [TV.bytes (32 : Nat) b]) (37 : Nat)))
 (row (TVs.cells [TV.bytes (32 : Nat) (Bs.zero (32 : Nat))]) (37 : Nat))))
 (0 : Nat) (slVal s_1) ∧
 CallsH Try.prog (37 : Nat) (TVs.vals [TV.int IntKind.i64 (IntKind.wrap IntKind.i64 (s + (1 : Int)))]) h_2
 fun (v : Value) (h : Array Obj) ↦
 ∃ (b_1 : Bs (32 : Nat)),
 v = TV.val (TV.bytes (32 : Nat) b_1) ∧
 Ext h_2 h ∧
 Ext h (Array.push h (row (TVs.cells [TV.bytes (32 : Nat) b_1]) (37 : Nat))) ∧
 ∃ (new : List Value),
 slAt (Array.push h (row (TVs.cells [TV.bytes (32 : Nat) b_1]) (37 : Nat)))
 (Sl.mk (some (Loc.mk (Array.size h) (0 : Nat))) (1 : Nat) (1 : Nat)) (32 : Nat) new ∧
 (∀ (v : Value), v ∈ new → isOne v = true) ∧
 vcAppend Ytahoibjgojlpeaa.ctx (37 : Nat) s_1 (1 : Nat) new
 (Array.push h (row (TVs.cells [TV.bytes (32 : Nat) b_1]) (37 : Nat))) fun (s_2 : Sl) (h : Array Obj) ↦
 wok h
 (Array.size
 (Array.push (Array.push h_1 (row (TVs.cells [TV.bytes (32 : Nat) b]) (37 : Nat)))
 (row (TVs.cells [TV.bytes (32 : Nat) (Bs.zero (32 : Nat))]) (37 : Nat))))
 (0 : Nat) (1 : Nat) ∧
 ∃ (s_3 : Sl),
 at1
 (TV.put h
 (Array.size
 (Array.push (Array.push h_1 (row (TVs.cells [TV.bytes (32 : Nat) b]) (37 : Nat)))
 (row (TVs.cells [TV.bytes (32 : Nat) (Bs.zero (32 : Nat))]) (37 : Nat))))
 (0 : Nat) (TV.slice s_2))
 (Array.size
 (Array.push (Array.push h_1 (row (TVs.cells [TV.bytes (32 : Nat) b]) (37 : Nat)))
 (row (TVs.cells [TV.bytes (32 : Nat) (Bs.zero (32 : Nat))]) (37 : Nat))))
 (1 : Nat) (slVal s_3) ∧
 IntKind.wrap IntKind.u64 (IntKind.wrap IntKind.i64 (s + (1 : Int))) ≠ (0 : Int) ∧
 CallsH Try.prog (37 : Nat)
 (TVs.vals
 [TV.int IntKind.i64
 (IntKind.wrap IntKind.i64
 (Int.tmod (IntKind.wrap IntKind.u64 n)
 (IntKind.wrap IntKind.u64 (IntKind.wrap IntKind.i64 (s + (1 : Int))))))])
 (TV.put h
 (Array.size
 (Array.push (Array.push h_1 (row (TVs.cells [TV.bytes (32 : Nat) b]) (37 : Nat)))
 (row (TVs.cells [TV.bytes (32 : Nat) (Bs.zero (32 : Nat))]) (37 : Nat))))
 (0 : Nat) (TV.slice s_2))
 fun (v : Value) (h_3 : Heap) ↦
 ∃ (b_2 : Bs (32 : Nat)),
 v = TV.val (TV.bytes (32 : Nat) b_2) ∧
 Ext
 (TV.put h
 (Array.size
 (Array.push (Array.push h_1 (row (TVs.cells [TV.bytes (32 : Nat) b]) (37 : Nat)))
 (row (TVs.cells [TV.bytes (32 : Nat) (Bs.zero (32 : Nat))]) (37 : Nat))))
 (0 : Nat) (TV.slice s_2))
 h_3 ∧
 Ext h_3 (Array.push h_3 (row (TVs.cells [TV.bytes (32 : Nat) b_2]) (37 : Nat))) ∧
 ∃ (new : List Value),
 slAt (Array.push h_3 (row (TVs.cells [TV.bytes (32 : Nat) b_2]) (37 : Nat)))
 (Sl.mk (some (Loc.mk (Array.size h_3) (0 : Nat))) (1 : Nat) (1 : Nat)) (32 : Nat) new ∧
 (∀ (v : Value), v ∈ new → isOne v = true) ∧
 vcAppend Ytahoibjgojlpeaa.ctx (37 : Nat) s_3 (1 : Nat) new
 (Array.push h_3 (row (TVs.cells [TV.bytes (32 : Nat) b_2]) (37 : Nat)))
 fun (s_4 : Sl) (h : Array Obj) ↦
 wok h
 (Array.size
 (Array.push (Array.push h_1 (row (TVs.cells [TV.bytes (32 : Nat) b]) (37 : Nat)))
 (row (TVs.cells [TV.bytes (32 : Nat) (Bs.zero (32 : Nat))]) (37 : Nat))))
 (1 : Nat) (1 : Nat) ∧
 K (IntKind.wrap IntKind.i64 (s + (1 : Int)))
 (TV.put h
 (Array.size
 (Array.push (Array.push h_1 (row (TVs.cells [TV.bytes (32 : Nat) b]) (37 : Nat)))
 (row (TVs.cells [TV.bytes (32 : Nat) (Bs.zero (32 : Nat))]) (37 : Nat))))
 (1 : Nat) (TV.slice s_4)))
 (Go.Vc.Loop (0 : Int) h_2 fun (s : Int) (h_3 : Array Obj) (K : Int → Array Obj → Prop) ↦
 If (decide (s < (↑targets.len : Int)))
 ((0 : Int) ≤ s ∧
 s < (↑targets.len : Int) ∧
 Nn targets.a fun (l : Go.Vc.Loc) ↦
 ∃ (n : Int),
 at1 h_3 l.b (l.o + Int.toNat s * (1 : Nat)) (Value.int IntKind.i64 n) ∧
 ∃ (s_1 : Sl),
 at1 h_3
 (Array.size
 (Array.push (Array.push h_1 (row (TVs.cells [TV.bytes (32 : Nat) b]) (37 : Nat)))
 (row (TVs.cells [TV.bytes (32 : Nat) (Bs.zero (32 : Nat))]) (37 : Nat))))
 (2 : Nat) (slVal s_1) ∧
 CallsH Try.prog (37 : Nat) (TVs.vals [TV.int IntKind.i64 n]) h_3 fun (v : Value) (h : Array Obj) ↦
 ∃ (b_1 : Bs (32 : Nat)),
 v = TV.val (TV.bytes (32 : Nat) b_1) ∧
 Ext h_3 h ∧
 Ext h (Array.push h (row (TVs.cells [TV.bytes (32 : Nat) b_1]) (37 : Nat))) ∧
 ∃ (new : List Value),
 slAt (Array.push h (row (TVs.cells [TV.bytes (32 : Nat) b_1]) (37 : Nat)))
 (Sl.mk (some (Loc.mk (Array.size h) (0 : Nat))) (1 : Nat) (1 : Nat)) (32 : Nat) new ∧
 (∀ (v : Value), v ∈ new → isOne v = true) ∧
 vcAppend Ytahoibjgojlpeaa.ctx (37 : Nat) s_1 (1 : Nat) new
 (Array.push h (row (TVs.cells [TV.bytes (32 : Nat) b_1]) (37 : Nat))) fun (s_2 : Sl) (h : Array Obj) ↦
 wok h
 (Array.size
 (Array.push (Array.push h_1 (row (TVs.cells [TV.bytes (32 : Nat) b]) (37 : Nat)))
 (row (TVs.cells [TV.bytes (32 : Nat) (Bs.zero (32 : Nat))]) (37 : Nat))))
 (2 : Nat) (1 : Nat) ∧
 K (IntKind.wrap IntKind.i64 (s + (1 : Int)))
 (TV.put h
 (Array.size
 (Array.push (Array.push h_1 (row (TVs.cells [TV.bytes (32 : Nat) b]) (37 : Nat)))
 (row (TVs.cells [TV.bytes (32 : Nat) (Bs.zero (32 : Nat))]) (37 : Nat))))
 (2 : Nat) (TV.slice s_2)))
 (∃ (s : Sl),
 ∃ (s_1 : Sl),
 ∃ (s_2 : Sl),
 ∃ (s_3 : Sl),
 (at1 h_3
 (Array.size
 (Array.push (Array.push h_1 (row (TVs.cells [TV.bytes (32 : Nat) b]) (37 : Nat)))
 (row (TVs.cells [TV.bytes (32 : Nat) (Bs.zero (32 : Nat))]) (37 : Nat))))
 (0 : Nat) (slVal s) ∧
 at1 h_3
 (Array.size
 (Array.push (Array.push h_1 (row (TVs.cells [TV.bytes (32 : Nat) b]) (37 : Nat)))
 (row (TVs.cells [TV.bytes (32 : Nat) (Bs.zero (32 : Nat))]) (37 : Nat))))
 (1 : Nat) (slVal s_1) ∧
 at1 h_3
 (Array.size
 (Array.push (Array.push h_1 (row (TVs.cells [TV.bytes (32 : Nat) b]) (37 : Nat)))
 (row (TVs.cells [TV.bytes (32 : Nat) (Bs.zero (32 : Nat))]) (37 : Nat))))
 (2 : Nat) (slVal s_2) ∧
 at1 h_3
 (Array.size
 (Array.push (Array.push h_1 (row (TVs.cells [TV.bytes (32 : Nat) b]) (37 : Nat)))
 (row (TVs.cells [TV.bytes (32 : Nat) (Bs.zero (32 : Nat))]) (37 : Nat))))
 (3 : Nat) (slVal s_3)) ∧
 wok h_3 (Array.size h) (0 : Nat) (Nat.succ (Nat.add (1 : Nat) (Nat.add (1 : Nat) (1 : Nat)))) ∧
 ∃ (s_4 : Sl),
 ∃ (s_5 : Sl),
 ∃ (s_6 : Sl),
 ∃ (s_7 : Sl),
 (at1 (TV.put h_3 (Array.size h) (0 : Nat) (TV.agg [TV.slice s, TV.slice s_1, TV.slice s_2, TV.slice s_3])) (Array.size h)
 (0 : Nat) (slVal s_4) ∧
 at1 (TV.put h_3 (Array.size h) (0 : Nat) (TV.agg [TV.slice s, TV.slice s_1, TV.slice s_2, TV.slice s_3])) (Array.size h)
 (1 : Nat) (slVal s_5) ∧
 at1 (TV.put h_3 (Array.size h) (0 : Nat) (TV.agg [TV.slice s, TV.slice s_1, TV.slice s_2, TV.slice s_3]))
 (Array.size h) (2 : Nat) (slVal s_6) ∧
 at1 (TV.put h_3 (Array.size h) (0 : Nat) (TV.agg [TV.slice s, TV.slice s_1, TV.slice s_2, TV.slice s_3]))
 (Array.size h) (3 : Nat) (slVal s_7)) ∧
 R (TV.val (TV.agg [TV.slice s_4, TV.slice s_5, TV.slice s_6, TV.slice s_7]))
 (TV.put h_3 (Array.size h) (0 : Nat) (TV.agg [TV.slice s, TV.slice s_1, TV.slice s_2, TV.slice s_3]))))

theorem tollerlaw20_plain_calls (parents : Sl) (targets : Sl) (stakes : Sl) (h : Heap) (R : Value → Heap → Prop) (H : tollerlaw20_plain_vc parents targets stakes h R) : CallsH Try.prog 29 (TVs.vals [TV.slice parents, TV.slice targets, TV.slice stakes]) h R :=
 vcFn_sound (C := ctx) ctx_ok (fn := Try.f29) Try.func29 ((by kernel_rfl : tollerlaw20_plain_vc parents targets stakes h R = vcFn ctx Try.f29 [TV.slice parents, TV.slice targets, TV.slice stakes] h R) ▸ H)


def tollerref20_Chain_Good_vc (c_Roots : Sl) (c_Parents : Sl) (c_Targets : Sl) (c_Stakes : Sl) (h : Heap) (R : Value → Heap → Prop) : Prop :=
 ∃ (s : Sl),
 at1 (newTV h (TV.agg [TV.slice c_Roots, TV.slice c_Parents, TV.slice c_Targets, TV.slice c_Stakes]) (41 : Nat)) (Array.size h) (0 : Nat) (slVal s) ∧
 Go.Vc.Loop (false, (0 : Int)) (newTV h (TV.agg [TV.slice c_Roots, TV.slice c_Parents, TV.slice c_Targets, TV.slice c_Stakes]) (41 : Nat))
 fun (s_1 : Bool × Int) (h_1 : Array Obj) (K : Bool × Int → Array Obj → Prop) ↦
 If (decide (s_1.snd < (↑s.len : Int)))
 ((0 : Int) ≤ s_1.snd ∧
 s_1.snd < (↑s.len : Int) ∧
 Nn s.a fun (l : Go.Vc.Loc) ↦
 ∃ (b : Bs (32 : Nat)),
 atBytes h_1 l.b (l.o + Int.toNat s_1.snd * (32 : Nat)) (32 : Nat) b ∧
 wok (newTV h_1 (TV.bytes (32 : Nat) (Bs.zero (32 : Nat))) (37 : Nat)) (Array.size h_1) (0 : Nat) (32 : Nat) ∧
 ∃ (s : Sl),
 ∃ (s_2 : Sl),
 ∃ (s_3 : Sl),
 ∃ (s_4 : Sl),
 (at1 (TV.put (newTV h_1 (TV.bytes (32 : Nat) (Bs.zero (32 : Nat))) (37 : Nat)) (Array.size h_1) (0 : Nat) (TV.bytes (32 : Nat) b))
 (Array.size h) (0 : Nat) (slVal s) ∧
 at1
 (TV.put (newTV h_1 (TV.bytes (32 : Nat) (Bs.zero (32 : Nat))) (37 : Nat)) (Array.size h_1) (0 : Nat)
 (TV.bytes (32 : Nat) b))
 (Array.size h) (1 : Nat) (slVal s_2) ∧
 at1
 (TV.put (newTV h_1 (TV.bytes (32 : Nat) (Bs.zero (32 : Nat))) (37 : Nat)) (Array.size h_1) (0 : Nat)
 (TV.bytes (32 : Nat) b))
 (Array.size h) (2 : Nat) (slVal s_3) ∧
 at1
 (TV.put (newTV h_1 (TV.bytes (32 : Nat) (Bs.zero (32 : Nat))) (37 : Nat)) (Array.size h_1) (0 : Nat)
 (TV.bytes (32 : Nat) b))
 (Array.size h) (3 : Nat) (slVal s_4)) ∧
 ∃ (b_1 : Bs (32 : Nat)),
 atBytes
 (TV.put (newTV h_1 (TV.bytes (32 : Nat) (Bs.zero (32 : Nat))) (37 : Nat)) (Array.size h_1) (0 : Nat)
 (TV.bytes (32 : Nat) b))
 (Array.size h_1) (0 : Nat) (32 : Nat) b_1 ∧
 CallsH Try.prog (36 : Nat) (TVs.vals [TV.agg [TV.slice s, TV.slice s_2, TV.slice s_3, TV.slice s_4], TV.bytes (32 : Nat) b_1])
 (TV.put (newTV h_1 (TV.bytes (32 : Nat) (Bs.zero (32 : Nat))) (37 : Nat)) (Array.size h_1) (0 : Nat)
 (TV.bytes (32 : Nat) b))
 fun (v : Value) (h_2 : Heap) ↦
 ∃ (n : Int),
 v = TV.val (TV.int IntKind.i64 n) ∧
 Ext
 (TV.put (newTV h_1 (TV.bytes (32 : Nat) (Bs.zero (32 : Nat))) (37 : Nat)) (Array.size h_1) (0 : Nat)
 (TV.bytes (32 : Nat) b))
 h_2 ∧
 If (!decide (n = s_1.snd)) (R (TV.val (TV.bool false)) h_2)
 (If (decide ((0 : Int) < s_1.snd))
 (∃ (s : Sl),
 ∃ (s_5 : Sl),
 ∃ (s_6 : Sl),
 ∃ (s_7 : Sl),
 (at1 h_2 (Array.size h) (0 : Nat) (slVal s) ∧
 at1 h_2 (Array.size h) (1 : Nat) (slVal s_5) ∧
 at1 h_2 (Array.size h) (2 : Nat) (slVal s_6) ∧ at1 h_2 (Array.size h) (3 : Nat) (slVal s_7)) ∧
 ∃ (s_8 : Sl),
 at1 h_2 (Array.size h) (1 : Nat) (slVal s_8) ∧
 (0 : Int) ≤ s_1.snd ∧
 s_1.snd < (↑s_8.len : Int) ∧
 Nn s_8.a fun (l : Go.Vc.Loc) ↦
 ∃ (b : Bs (32 : Nat)),
 atBytes h_2 l.b (l.o + Int.toNat s_1.snd * (32 : Nat)) (32 : Nat) b ∧
 CallsH Try.prog (36 : Nat)
 (TVs.vals
 [TV.agg [TV.slice s, TV.slice s_5, TV.slice s_6, TV.slice s_7],
 TV.bytes (32 : Nat) b])
 h_2 fun (v : Value) (h_3 : Heap) ↦
 ∃ (n : Int),
 v = TV.val (TV.int IntKind.i64 n) ∧
 If (decide (n < (0 : Int))) (R (TV.val (TV.bool false)) h_3)
 (∃ (s : Sl),
 ∃ (s_9 : Sl),
 ∃ (s_10 : Sl),
 ∃ (s_11 : Sl),
 (at1 h_3 (Array.size h) (0 : Nat) (slVal s) ∧
 at1 h_3 (Array.size h) (1 : Nat) (slVal s_9) ∧
 at1 h_3 (Array.size h) (2 : Nat) (slVal s_10) ∧
 at1 h_3 (Array.size h) (3 : Nat) (slVal s_11)) ∧
 ∃ (s_12 : Sl),
 at1 h_3 (Array.size h) (1 : Nat) (slVal s_12) ∧
 (0 : Int) ≤ s_1.snd ∧
 s_1.snd < (↑s_12.len : Int) ∧
 Nn s_12.a fun (l : Go.Vc.Loc) ↦
 ∃ (b : Bs (32 : Nat)),
 atBytes h_3 l.b (l.o + Int.toNat s_1.snd * (32 : Nat))
 (32 : Nat) b ∧
 CallsH Try.prog (36 : Nat)
 (TVs.vals
 [TV.agg
 [TV.slice s, TV.slice s_9, TV.slice s_10,
 TV.slice s_11],
 TV.bytes (32 : Nat) b])
 h_3 fun (v : Value) (h : Heap) ↦
 ∃ (n : Int),
 v = TV.val (TV.int IntKind.i64 n) ∧
 Ext h_3 h ∧
 If (decide (s_1.snd ≤ n))
 (R (TV.val (TV.bool false)) h)
 (K
 (s_1.fst,
 IntKind.wrap IntKind.i64
 (s_1.snd + (1 : Int)))
 h)))
 (K (s_1.fst, IntKind.wrap IntKind.i64 (s_1.snd + (1 : Int))) h_2)))
 (∃ (s_2 : Sl),
 at1 h_1 (Array.size h) (3 : Nat) (slVal s_2) ∧
 Go.Vc.Loop (s_1.1, (0 : Int), (0 : Int)) h_1 fun (s_3 : Bool × Int × Int) (h_2 : Array Obj) (K : Bool × Int × Int → Array Obj → Prop) ↦
 If (decide (s_3.snd.snd < (↑s_2.len : Int)))
 ((0 : Int) ≤ s_3.snd.snd ∧
 s_3.snd.snd < (↑s_2.len : Int) ∧
 Nn s_2.a fun (l : Go.Vc.Loc) ↦
 ∃ (n : Int),
 at1 h_2 l.b (l.o + Int.toNat s_3.snd.snd * (1 : Nat)) (Value.int IntKind.i64 n) ∧
 If (decide (n < (0 : Int))) (R (TV.val (TV.bool false)) h_2)
 (If (decide ((4611686018427387904 : Int) ≤ IntKind.wrap IntKind.u64 (s_3.snd.fst + IntKind.wrap IntKind.u64 n)))
 (R (TV.val (TV.bool false)) h_2)
 (K
 (s_3.fst, IntKind.wrap IntKind.u64 (s_3.snd.fst + IntKind.wrap IntKind.u64 n),
 IntKind.wrap IntKind.i64 (s_3.snd.snd + (1 : Int)))
 h_2)))
 (∃ (s : Sl),
 at1 h_2 (Array.size h) (1 : Nat) (slVal s) ∧
 ∃ (s_4 : Sl),
 at1 h_2 (Array.size h) (0 : Nat) (slVal s_4) ∧
 If (decide ((↑s.len : Int) = (↑s_4.len : Int)))
 (∃ (s : Sl),
 at1 h_2 (Array.size h) (3 : Nat) (slVal s) ∧
 ∃ (s_5 : Sl),
 at1 h_2 (Array.size h) (2 : Nat) (slVal s_5) ∧ R (TV.val (TV.bool (decide ((↑s.len : Int) = (↑s_5.len : Int))))) h_2)
 (R (TV.val (TV.bool false)) h_2)))

theorem tollerref20_Chain_Good_calls (c_Roots : Sl) (c_Parents : Sl) (c_Targets : Sl) (c_Stakes : Sl) (h : Heap) (R : Value → Heap → Prop) (H : tollerref20_Chain_Good_vc c_Roots c_Parents c_Targets c_Stakes h R) : CallsH Try.prog 30 (TVs.vals [TV.agg [TV.slice c_Roots, TV.slice c_Parents, TV.slice c_Targets, TV.slice c_Stakes]]) h R :=
 vcFn_sound (C := ctx) ctx_ok (fn := Try.f30) Try.func30 ((by kernel_rfl : tollerref20_Chain_Good_vc c_Roots c_Parents c_Targets c_Stakes h R = vcFn ctx Try.f30 [TV.agg [TV.slice c_Roots, TV.slice c_Parents, TV.slice c_Targets, TV.slice c_Stakes]] h R) ▸ H)


def tollerlaw20_chain_vc (c_Roots : Sl) (c_Parents : Sl) (c_Targets : Sl) (c_Stakes : Sl) (h : Heap) (R : Value → Heap → Prop) : Prop :=
 ∃ (s : Sl),
 at1
 (newTV
 (newTV (newTV h (TV.agg [TV.slice c_Roots, TV.slice c_Parents, TV.slice c_Targets, TV.slice c_Stakes]) (41 : Nat))
 (TV.agg [TV.slice Sl.nil, TV.slice Sl.nil]) (46 : Nat))
 (TV.agg [TV.slice Sl.nil, TV.slice Sl.nil]) (46 : Nat))
 (Array.size h) (0 : Nat) (slVal s) ∧
 Go.Vc.Loop (0 : Int)
 (newTV
 (newTV (newTV h (TV.agg [TV.slice c_Roots, TV.slice c_Parents, TV.slice c_Targets, TV.slice c_Stakes]) (41 : Nat))
 (TV.agg [TV.slice Sl.nil, TV.slice Sl.nil]) (46 : Nat))
 (TV.agg [TV.slice Sl.nil, TV.slice Sl.nil]) (46 : Nat))
 fun (s_1 : Int) (h_1 : Array Obj) (K : Int → Array Obj → Prop) ↦
 If (decide (s_1 < (↑s.len : Int)))
 (∃ (s : Sl),
 at1 h_1
 (Array.size
 (newTV (newTV h (TV.agg [TV.slice c_Roots, TV.slice c_Parents, TV.slice c_Targets, TV.slice c_Stakes]) (41 : Nat))
 (TV.agg [TV.slice Sl.nil, TV.slice Sl.nil]) (46 : Nat)))
 (0 : Nat) (slVal s) ∧
 ∃ (s_2 : Sl),
 at1 h_1 (Array.size h) (0 : Nat) (slVal s_2) ∧
 (0 : Int) ≤ s_1 ∧
 s_1 < (↑s_2.len : Int) ∧
 Nn s_2.a fun (l : Go.Vc.Loc) ↦
 ∃ (b : Bs (32 : Nat)),
 atBytes h_1 l.b (l.o + Int.toNat s_1 * (32 : Nat)) (32 : Nat) b ∧
 ∃ (s_3 : Sl),
 at1 h_1 (Array.size h) (1 : Nat) (slVal s_3) ∧
 (0 : Int) ≤ s_1 ∧
 s_1 < (↑s_3.len : Int) ∧
 Nn s_3.a fun (l : Go.Vc.Loc) ↦
 ∃ (b_1 : Bs (32 : Nat)),
 atBytes h_1 l.b (l.o + Int.toNat s_1 * (32 : Nat)) (32 : Nat) b_1 ∧
 Ext h_1 (Array.push h_1 (row (TVs.cells [TV.agg [TV.bytes (32 : Nat) b, TV.bytes (32 : Nat) b_1]]) (61 : Nat))) ∧
 ∃ (new : List Value),
 slAt (Array.push h_1 (row (TVs.cells [TV.agg [TV.bytes (32 : Nat) b, TV.bytes (32 : Nat) b_1]]) (61 : Nat)))
 (Sl.mk (some (Loc.mk (Array.size h_1) (0 : Nat))) (1 : Nat) (1 : Nat)) (64 : Nat) new ∧
 (∀ (v : Value), v ∈ new → isOne v = true) ∧
 vcAppend Ytahoibjgojlpeaa.ctx (61 : Nat) s (1 : Nat) new
 (Array.push h_1 (row (TVs.cells [TV.agg [TV.bytes (32 : Nat) b, TV.bytes (32 : Nat) b_1]]) (61 : Nat)))
 fun (s : Sl) (h_2 : Array Obj) ↦
 wok h_2
 (Array.size
 (newTV
 (newTV h (TV.agg [TV.slice c_Roots, TV.slice c_Parents, TV.slice c_Targets, TV.slice c_Stakes])
 (41 : Nat))
 (TV.agg [TV.slice Sl.nil, TV.slice Sl.nil]) (46 : Nat)))
 (0 : Nat) (1 : Nat) ∧
 K (IntKind.wrap IntKind.i64 (s_1 + (1 : Int)))
 (TV.put h_2
 (Array.size
 (newTV
 (newTV h (TV.agg [TV.slice c_Roots, TV.slice c_Parents, TV.slice c_Targets, TV.slice c_Stakes])
 (41 : Nat))
 (TV.agg [TV.slice Sl.nil, TV.slice Sl.nil]) (46 : Nat)))
 (0 : Nat) (TV.slice s)))
 (∃ (s : Sl),
 at1 h_1 (Array.size h) (2 : Nat) (slVal s) ∧
 Go.Vc.Loop (0 : Int) h_1 fun (s_2 : Int) (h_2 : Array Obj) (K : Int → Array Obj → Prop) ↦
 If (decide (s_2 < (↑s.len : Int)))
 (∃ (s : Sl),
 at1 h_2
 (Array.size
 (newTV (newTV h (TV.agg [TV.slice c_Roots, TV.slice c_Parents, TV.slice c_Targets, TV.slice c_Stakes]) (41 : Nat))
 (TV.agg [TV.slice Sl.nil, TV.slice Sl.nil]) (46 : Nat)))
 (1 : Nat) (slVal s) ∧
 ∃ (s_3 : Sl),
 at1 h_2 (Array.size h) (2 : Nat) (slVal s_3) ∧
 (0 : Int) ≤ s_2 ∧
 s_2 < (↑s_3.len : Int) ∧
 Nn s_3.a fun (l : Go.Vc.Loc) ↦
 ∃ (b : Bs (32 : Nat)),
 atBytes h_2 l.b (l.o + Int.toNat s_2 * (32 : Nat)) (32 : Nat) b ∧
 ∃ (s_4 : Sl),
 at1 h_2 (Array.size h) (3 : Nat) (slVal s_4) ∧
 (0 : Int) ≤ s_2 ∧
 s_2 < (↑s_4.len : Int) ∧
 Nn s_4.a fun (l : Go.Vc.Loc) ↦
 ∃ (n : Int),
 at1 h_2 l.b (l.o + Int.toNat s_2 * (1 : Nat)) (Value.int IntKind.i64 n) ∧
 Ext h_2 (Array.push h_2 (row (TVs.cells [TV.agg [TV.bytes (32 : Nat) b, TV.int IntKind.i64 n]]) (63 : Nat))) ∧
 ∃ (new : List Value),
 slAt (Array.push h_2 (row (TVs.cells [TV.agg [TV.bytes (32 : Nat) b, TV.int IntKind.i64 n]]) (63 : Nat)))
 (Sl.mk (some (Loc.mk (Array.size h_2) (0 : Nat))) (1 : Nat) (1 : Nat)) (33 : Nat) new ∧
 (∀ (v : Value), v ∈ new → isOne v = true) ∧
 vcAppend Ytahoibjgojlpeaa.ctx (63 : Nat) s (1 : Nat) new
 (Array.push h_2 (row (TVs.cells [TV.agg [TV.bytes (32 : Nat) b, TV.int IntKind.i64 n]]) (63 : Nat)))
 fun (s : Sl) (h_3 : Array Obj) ↦
 wok h_3
 (Array.size
 (newTV
 (newTV h
 (TV.agg [TV.slice c_Roots, TV.slice c_Parents, TV.slice c_Targets, TV.slice c_Stakes])
 (41 : Nat))
 (TV.agg [TV.slice Sl.nil, TV.slice Sl.nil]) (46 : Nat)))
 (1 : Nat) (1 : Nat) ∧
 K (IntKind.wrap IntKind.i64 (s_2 + (1 : Int)))
 (TV.put h_3
 (Array.size
 (newTV
 (newTV h
 (TV.agg [TV.slice c_Roots, TV.slice c_Parents, TV.slice c_Targets, TV.slice c_Stakes])
 (41 : Nat))
 (TV.agg [TV.slice Sl.nil, TV.slice Sl.nil]) (46 : Nat)))
 (1 : Nat) (TV.slice s)))
 (∃ (s : Sl),
 ∃ (s_3 : Sl),
 (at1 h_2
 (Array.size
 (newTV (newTV h (TV.agg [TV.slice c_Roots, TV.slice c_Parents, TV.slice c_Targets, TV.slice c_Stakes]) (41 : Nat))
 (TV.agg [TV.slice Sl.nil, TV.slice Sl.nil]) (46 : Nat)))
 (0 : Nat) (slVal s) ∧
 at1 h_2
 (Array.size
 (newTV (newTV h (TV.agg [TV.slice c_Roots, TV.slice c_Parents, TV.slice c_Targets, TV.slice c_Stakes]) (41 : Nat))
 (TV.agg [TV.slice Sl.nil, TV.slice Sl.nil]) (46 : Nat)))
 (1 : Nat) (slVal s_3)) ∧
 wok h_2 (Array.size (newTV h (TV.agg [TV.slice c_Roots, TV.slice c_Parents, TV.slice c_Targets, TV.slice c_Stakes]) (41 : Nat))) (0 : Nat)
 (Nat.succ (Nat.add (1 : Nat) (0 : Nat))) ∧
 ∃ (s_4 : Sl),
 ∃ (s_5 : Sl),
 (at1
 (TV.put h_2
 (Array.size (newTV h (TV.agg [TV.slice c_Roots, TV.slice c_Parents, TV.slice c_Targets, TV.slice c_Stakes]) (41 : Nat)))
 (0 : Nat) (TV.agg [TV.slice s, TV.slice s_3]))
 (Array.size (newTV h (TV.agg [TV.slice c_Roots, TV.slice c_Parents, TV.slice c_Targets, TV.slice c_Stakes]) (41 : Nat)))
 (0 : Nat) (slVal s_4) ∧
 at1
 (TV.put h_2
 (Array.size (newTV h (TV.agg [TV.slice c_Roots, TV.slice c_Parents, TV.slice c_Targets, TV.slice c_Stakes]) (41 : Nat)))
 (0 : Nat) (TV.agg [TV.slice s, TV.slice s_3]))
 (Array.size (newTV h (TV.agg [TV.slice c_Roots, TV.slice c_Parents, TV.slice c_Targets, TV.slice c_Stakes]) (41 : Nat)))
 (1 : Nat) (slVal s_5)) ∧
 R (TV.val (TV.agg [TV.slice s_4, TV.slice s_5]))
 (TV.put h_2
 (Array.size (newTV h (TV.agg [TV.slice c_Roots, TV.slice c_Parents, TV.slice c_Targets, TV.slice c_Stakes]) (41 : Nat)))
 (0 : Nat) (TV.agg [TV.slice s, TV.slice s_3]))))

theorem tollerlaw20_chain_calls (c_Roots : Sl) (c_Parents : Sl) (c_Targets : Sl) (c_Stakes : Sl) (h : Heap) (R : Value → Heap → Prop) (H : tollerlaw20_chain_vc c_Roots c_Parents c_Targets c_Stakes h R) : CallsH Try.prog 31 (TVs.vals [TV.agg [TV.slice c_Roots, TV.slice c_Parents, TV.slice c_Targets, TV.slice c_Stakes]]) h R :=
 vcFn_sound (C := ctx) ctx_ok (fn := Try.f31) Try.func31 ((by kernel_rfl : tollerlaw20_chain_vc c_Roots c_Parents c_Targets c_Stakes h R = vcFn ctx Try.f31 [TV.agg [TV.slice c_Roots, TV.slice c_Parents, TV.slice c_Targets, TV.slice c_Stakes]] h R) ▸ H)


def tollerref20_Chain_Weights_vc (c_Roots : Sl) (c_Parents : Sl) (c_Targets : Sl) (c_Stakes : Sl) (h : Heap) (R : Value → Heap → Prop) : Prop :=
 ∃ (s : Sl),
 at1 (newTV h (TV.agg [TV.slice c_Roots, TV.slice c_Parents, TV.slice c_Targets, TV.slice c_Stakes]) (41 : Nat)) (Array.size h) (0 : Nat) (slVal s) ∧
 (0 : Int) ≤ (↑s.len : Int) ∧
 (↑s.len : Int) ≤ (↑s.len : Int) ∧
 (↑(8 : Nat) : Int) * (↑s.len : Int) ≤ (281474976710656 : Int) ∧
 (↑s.len : Int) < (9223372036854775808 : Int) ∧
 ∃ (s_1 : Sl),
 at1
 (Array.push (newTV h (TV.agg [TV.slice c_Roots, TV.slice c_Parents, TV.slice c_Targets, TV.slice c_Stakes]) (41 : Nat))
 (row (zeros (TV.int IntKind.i64 (0 : Int)) (Int.toNat (↑s.len : Int))) (3 : Nat)))
 (Array.size h) (2 : Nat) (slVal s_1) ∧
 Go.Vc.Loop (0 : Int)
 (Array.push (newTV h (TV.agg [TV.slice c_Roots, TV.slice c_Parents, TV.slice c_Targets, TV.slice c_Stakes]) (41 : Nat))
 (row (zeros (TV.int IntKind.i64 (0 : Int)) (Int.toNat (↑s.len : Int))) (3 : Nat)))
 fun (s_2 : Int) (h_1 : Array Obj) (K : Int → Array Obj → Prop) ↦
 If (decide (s_2 < (↑s_1.len : Int)))
 ((0 : Int) ≤ s_2 ∧
 s_2 < (↑s_1.len : Int) ∧
 Nn s_1.a fun (l : Go.Vc.Loc) ↦
 ∃ (b : Bs (32 : Nat)),
 atBytes h_1 l.b (l.o + Int.toNat s_2 * (32 : Nat)) (32 : Nat) b ∧
 wok (newTV h_1 (TV.bytes (32 : Nat) (Bs.zero (32 : Nat))) (37 : Nat)) (Array.size h_1) (0 : Nat) (32 : Nat) ∧
 ∃ (s_3 : Sl),
 ∃ (s_4 : Sl),
 ∃ (s_5 : Sl),
 ∃ (s_6 : Sl),
 (at1
 (TV.put (newTV h_1 (TV.bytes (32 : Nat) (Bs.zero (32 : Nat))) (37 : Nat)) (Array.size h_1) (0 : Nat)
 (TV.bytes (32 : Nat) b))
 (Array.size h) (0 : Nat) (slVal s_3) ∧
 at1
 (TV.put (newTV h_1 (TV.bytes (32 : Nat) (Bs.zero (32 : Nat))) (37 : Nat)) (Array.size h_1) (0 : Nat)
 (TV.bytes (32 : Nat) b))
 (Array.size h) (1 : Nat) (slVal s_4) ∧
 at1
 (TV.put (newTV h_1 (TV.bytes (32 : Nat) (Bs.zero (32 : Nat))) (37 : Nat)) (Array.size h_1) (0 : Nat)
 (TV.bytes (32 : Nat) b))
 (Array.size h) (2 : Nat) (slVal s_5) ∧
 at1
 (TV.put (newTV h_1 (TV.bytes (32 : Nat) (Bs.zero (32 : Nat))) (37 : Nat)) (Array.size h_1) (0 : Nat)
 (TV.bytes (32 : Nat) b))
 (Array.size h) (3 : Nat) (slVal s_6)) ∧
 ∃ (b_1 : Bs (32 : Nat)),
 atBytes
 (TV.put (newTV h_1 (TV.bytes (32 : Nat) (Bs.zero (32 : Nat))) (37 : Nat)) (Array.size h_1) (0 : Nat)
 (TV.bytes (32 : Nat) b))
 (Array.size h_1) (0 : Nat) (32 : Nat) b_1 ∧
 CallsH Try.prog (36 : Nat)
 (TVs.vals [TV.agg [TV.slice s_3, TV.slice s_4, TV.slice s_5, TV.slice s_6], TV.bytes (32 : Nat) b_1])
 (TV.put (newTV h_1 (TV.bytes (32 : Nat) (Bs.zero (32 : Nat))) (37 : Nat)) (Array.size h_1) (0 : Nat)
 (TV.bytes (32 : Nat) b))
 fun (v : Value) (h_2 : Heap) ↦
 ∃ (n : Int),
 v = TV.val (TV.int IntKind.i64 n) ∧
 Go.Vc.Loop n h_2 fun (s_7 : Int) (h_3 : Array Obj) (K_1 : Int → Array Obj → Prop) ↦
 If (decide ((0 : Int) ≤ s_7))
 ((0 : Int) ≤ s_7 ∧
 s_7 < (↑(Int.toNat (↑s.len : Int)) : Int) ∧
 ∃ (n : Int),
 at1 h_3
 (Array.size
 (newTV h
 (TV.agg [TV.slice c_Roots, TV.slice c_Parents, TV.slice c_Targets, TV.slice c_Stakes])
 (41 : Nat)))
 ((0 : Nat) + Int.toNat s_7 * (1 : Nat)) (Value.int IntKind.i64 n) ∧
 ∃ (s_8 : Sl),
 at1 h_3 (Array.size h) (3 : Nat) (slVal s_8) ∧
 (0 : Int) ≤ s_2 ∧
 s_2 < (↑s_8.len : Int) ∧
 Nn s_8.a fun (l : Go.Vc.Loc) ↦
 ∃ (n_1 : Int),
 at1 h_3 l.b (l.o + Int.toNat s_2 * (1 : Nat)) (Value.int IntKind.i64 n_1) ∧
 (0 : Int) ≤ s_7 ∧
 s_7 < (↑(Int.toNat (↑s.len : Int)) : Int) ∧
 wok h_3
 (Array.size
 (newTV h
 (TV.agg
 [TV.slice c_Roots, TV.slice c_Parents, TV.slice c_Targets,
 TV.slice c_Stakes])
 (41 : Nat)))
 ((0 : Nat) + Int.toNat s_7 * (1 : Nat)) (1 : Nat) ∧
 If (decide (s_7 = (0 : Int)))
 (K (IntKind.wrap IntKind.i64 (s_2 + (1 : Int)))
 (TV.put h_3
 (Array.size
 (newTV h
 (TV.agg
 [TV.slice c_Roots, TV.slice c_Parents, TV.slice c_Targets,
 TV.slice c_Stakes])
 (41 : Nat)))
 ((0 : Nat) + Int.toNat s_7 * (1 : Nat))
 (TV.int IntKind.i64 (IntKind.wrap IntKind.i64 (n + n_1)))))
 (∃ (s : Sl),
 ∃ (s_9 : Sl),
 ∃ (s_10 : Sl),
 ∃ (s_11 : Sl),
 (at1
 (TV.put h_3
 (Array.size
 (newTV h
 (TV.agg
 [TV.slice c_Roots, TV.slice c_Parents,
 TV.slice c_Targets, TV.slice c_Stakes])
 (41 : Nat)))
 ((0 : Nat) + Int.toNat s_7 * (1 : Nat))
 (TV.int IntKind.i64 (IntKind.wrap IntKind.i64 (n + n_1))))
 (Array.size h) (0 : Nat) (slVal s) ∧
 at1
 (TV.put h_3
 (Array.size
 (newTV h
 (TV.agg
 [TV.slice c_Roots, TV.slice c_Parents,
 TV.slice c_Targets, TV.slice c_Stakes])
 (41 : Nat)))
 ((0 : Nat) + Int.toNat s_7 * (1 : Nat))
 (TV.int IntKind.i64
 (IntKind.wrap IntKind.i64 (n + n_1))))
 (Array.size h) (1 : Nat) (slVal s_9) ∧
 at1
 (TV.put h_3
 (Array.size
 (newTV h
 (TV.agg
 [TV.slice c_Roots, TV.slice c_Parents,
 TV.slice c_Targets, TV.slice c_Stakes])
 (41 : Nat)))
 ((0 : Nat) + Int.toNat s_7 * (1 : Nat))
 (TV.int IntKind.i64
 (IntKind.wrap IntKind.i64 (n + n_1))))
 (Array.size h) (2 : Nat) (slVal s_10) ∧
 at1
 (TV.put h_3
 (Array.size
 (newTV h
 (TV.agg
 [TV.slice c_Roots, TV.slice c_Parents,
 TV.slice c_Targets, TV.slice c_Stakes])
 (41 : Nat)))
 ((0 : Nat) + Int.toNat s_7 * (1 : Nat))
 (TV.int IntKind.i64
 (IntKind.wrap IntKind.i64 (n + n_1))))
 (Array.size h) (3 : Nat) (slVal s_11)) ∧
 ∃ (s_12 : Sl),
 at1
 (TV.put h_3
 (Array.size
 (newTV h
 (TV.agg
 [TV.slice c_Roots, TV.slice c_Parents,
 TV.slice c_Targets, TV.slice c_Stakes])
 (41 : Nat)))
 ((0 : Nat) + Int.toNat s_7 * (1 : Nat))
 (TV.int IntKind.i64
 (IntKind.wrap IntKind.i64 (n + n_1))))
 (Array.size h) (1 : Nat) (slVal s_12) ∧
 (0 : Int) ≤ s_7 ∧
 s_7 < (↑s_12.len : Int) ∧
 Nn s_12.a fun (l : Go.Vc.Loc) ↦
 ∃ (b : Bs (32 : Nat)),
 atBytes
 (TV.put h_3
 (Array.size
 (newTV h
 (TV.agg
 [TV.slice c_Roots, TV.slice c_Parents,
 TV.slice c_Targets,
 TV.slice c_Stakes])
 (41 : Nat)))
 ((0 : Nat) + Int.toNat s_7 * (1 : Nat))
 (TV.int IntKind.i64
 (IntKind.wrap IntKind.i64 (n + n_1))))
 l.b (l.o + Int.toNat s_7 * (32 : Nat))
 (32 : Nat) b ∧
 CallsH Try.prog (36 : Nat)
 (TVs.vals
 [TV.agg
 [TV.slice s, TV.slice s_9, TV.slice s_10,
 TV.slice s_11],
 TV.bytes (32 : Nat) b])
 (TV.put h_3
 (Array.size
 (newTV h
 (TV.agg
 [TV.slice c_Roots, TV.slice c_Parents,
 TV.slice c_Targets,
 TV.slice c_Stakes])
 (41 : Nat)))
 ((0 : Nat) + Int.toNat s_7 * (1 : Nat))
 (TV.int IntKind.i64
 (IntKind.wrap IntKind.i64 (n + n_1))))
 fun (v : Value) (h : Heap) ↦
 ∃ (n : Int),
 v = TV.val (TV.int IntKind.i64 n) ∧ K_1 n h))
 (K (IntKind.wrap IntKind.i64 (s_2 + (1 : Int))) h_3))
 (R
 (TV.val
 (TV.slice
 (Sl.mk
 (some
 (Loc.mk (Array.size (newTV h (TV.agg [TV.slice c_Roots, TV.slice c_Parents, TV.slice c_Targets, TV.slice c_Stakes]) (41 : Nat)))
 (0 : Nat)))
 (Int.toNat (↑s.len : Int)) (Int.toNat (↑s.len : Int)))))
 h_1)

theorem tollerref20_Chain_Weights_calls (c_Roots : Sl) (c_Parents : Sl) (c_Targets : Sl) (c_Stakes : Sl) (h : Heap) (R : Value → Heap → Prop) (H : tollerref20_Chain_Weights_vc c_Roots c_Parents c_Targets c_Stakes h R) : CallsH Try.prog 32 (TVs.vals [TV.agg [TV.slice c_Roots, TV.slice c_Parents, TV.slice c_Targets, TV.slice c_Stakes]]) h R :=
 vcFn_sound (C := ctx) ctx_ok (fn := Try.f32) Try.func32 ((by kernel_rfl : tollerref20_Chain_Weights_vc c_Roots c_Parents c_Targets c_Stakes h R = vcFn ctx Try.f32 [TV.agg [TV.slice c_Roots, TV.slice c_Parents, TV.slice c_Targets, TV.slice c_Stakes]] h R) ▸ H)


def ghost_Chain_Weight_vc (c_Blocks : Sl) (c_Shares : Sl) (root : Bs (32 : Nat)) (h : Heap) (R : Value → Heap → Prop) : Prop :=
 ∃ (s : Sl),
 ∃ (s_1 : Sl),
 (at1 (newTV (newTV h (TV.agg [TV.slice c_Blocks, TV.slice c_Shares]) (46 : Nat)) (TV.bytes (32 : Nat) root) (37 : Nat)) (Array.size h) (0 : Nat) (slVal s) ∧
 at1 (newTV (newTV h (TV.agg [TV.slice c_Blocks, TV.slice c_Shares]) (46 : Nat)) (TV.bytes (32 : Nat) root) (37 : Nat)) (Array.size h) (1 : Nat)
 (slVal s_1)) ∧
 ∃ (b : Bs (32 : Nat)),
 atBytes (newTV (newTV h (TV.agg [TV.slice c_Blocks, TV.slice c_Shares]) (46 : Nat)) (TV.bytes (32 : Nat) root) (37 : Nat))
 (Array.size (newTV h (TV.agg [TV.slice c_Blocks, TV.slice c_Shares]) (46 : Nat))) (0 : Nat) (32 : Nat) b ∧
 CallsH Try.prog (39 : Nat) (TVs.vals [TV.agg [TV.slice s, TV.slice s_1], TV.bytes (32 : Nat) b])
 (newTV (newTV h (TV.agg [TV.slice c_Blocks, TV.slice c_Shares]) (46 : Nat)) (TV.bytes (32 : Nat) root) (37 : Nat)) fun (v : Value) (h_1 : Heap) ↦
 ∃ (n : Int),
 v = TV.val (TV.int IntKind.i64 n) ∧
 If (decide ((0 : Int) ≤ n))
 (∃ (s : Sl),
 ∃ (s_2 : Sl),
 (at1 h_1 (Array.size h) (0 : Nat) (slVal s) ∧ at1 h_1 (Array.size h) (1 : Nat) (slVal s_2)) ∧
 CallsH Try.prog (40 : Nat) (TVs.vals [TV.agg [TV.slice s, TV.slice s_2], TV.int IntKind.i64 n]) h_1 fun (v : Value) (h : Heap) ↦
 ∃ (n : Int), v = TV.val (TV.int IntKind.i64 n) ∧ R (TV.val (TV.int IntKind.i64 n)) h)
 (R (TV.val (TV.int IntKind.i64 (0 : Int))) h_1)

theorem ghost_Chain_Weight_calls (c_Blocks : Sl) (c_Shares : Sl) (root : Bs (32 : Nat)) (h : Heap) (R : Value → Heap → Prop) (H : ghost_Chain_Weight_vc c_Blocks c_Shares root h R) : CallsH Try.prog 33 (TVs.vals [TV.agg [TV.slice c_Blocks, TV.slice c_Shares], TV.bytes (32 : Nat) root]) h R :=
 vcFn_sound (C := ctx) ctx_ok (fn := Try.f33) Try.func33 ((by kernel_rfl : ghost_Chain_Weight_vc c_Blocks c_Shares root h R = vcFn ctx Try.f33 [TV.agg [TV.slice c_Blocks, TV.slice c_Shares], TV.bytes (32 : Nat) root] h R) ▸ H)


def ghost_Chain_Head_vc (c_Blocks : Sl) (c_Shares : Sl) (h : Heap) (R : Value → Heap → Prop) : Prop :=
 ∃ (s : Sl),
 at1 (newTV (newTV h (TV.agg [TV.slice c_Blocks, TV.slice c_Shares]) (46 : Nat)) (TV.bytes (32 : Nat) (Bs.zero (32 : Nat))) (37 : Nat)) (Array.size h)
 (0 : Nat) (slVal s) ∧
 If (decide ((↑s.len : Int) = (0 : Int)))
 (wok (newTV (newTV h (TV.agg [TV.slice c_Blocks, TV.slice c_Shares]) (46 : Nat)) (TV.bytes (32 : Nat) (Bs.zero (32 : Nat))) (37 : Nat))
 (Array.size (newTV h (TV.agg [TV.slice c_Blocks, TV.slice c_Shares]) (46 : Nat))) (0 : Nat) (32 : Nat) ∧
 ∃ (b : Bs (32 : Nat)),
 atBytes
 (TV.put (newTV (newTV h (TV.agg [TV.slice c_Blocks, TV.slice c_Shares]) (46 : Nat)) (TV.bytes (32 : Nat) (Bs.zero (32 : Nat))) (37 : Nat))
 (Array.size (newTV h (TV.agg [TV.slice c_Blocks, TV.slice c_Shares]) (46 : Nat))) (0 : Nat) (TV.bytes (32 : Nat) (Bs.zero (32 : Nat))))
 (Array.size (newTV h (TV.agg [TV.slice c_Blocks, TV.slice c_Shares]) (46 : Nat))) (0 : Nat) (32 : Nat) b ∧
 R (TV.val (TV.bytes (32 : Nat) b))
 (TV.put (newTV (newTV h (TV.agg [TV.slice c_Blocks, TV.slice c_Shares]) (46 : Nat)) (TV.bytes (32 : Nat) (Bs.zero (32 : Nat))) (37 : Nat))
 (Array.size (newTV h (TV.agg [TV.slice c_Blocks, TV.slice c_Shares]) (46 : Nat))) (0 : Nat) (TV.bytes (32 : Nat) (Bs.zero (32 : Nat)))))
 (∃ (s : Sl),
 ∃ (s_1 : Sl),
 (at1 (newTV (newTV h (TV.agg [TV.slice c_Blocks, TV.slice c_Shares]) (46 : Nat)) (TV.bytes (32 : Nat) (Bs.zero (32 : Nat))) (37 : Nat)) (Array.size h)
 (0 : Nat) (slVal s) ∧
 at1 (newTV (newTV h (TV.agg [TV.slice c_Blocks, TV.slice c_Shares]) (46 : Nat)) (TV.bytes (32 : Nat) (Bs.zero (32 : Nat))) (37 : Nat))
 (Array.size h) (1 : Nat) (slVal s_1)) ∧
 Go.Vc.Loop (0 : Int) (newTV (newTV h (TV.agg [TV.slice c_Blocks, TV.slice c_Shares]) (46 : Nat)) (TV.bytes (32 : Nat) (Bs.zero (32 : Nat))) (37 : Nat))
 fun (s_2 : Int) (h_1 : Array Obj) (K : Int → Array Obj → Prop) ↦
 CallsH Try.prog (41 : Nat) (TVs.vals [TV.agg [TV.slice s, TV.slice s_1], TV.int IntKind.i64 s_2]) h_1 fun (v : Value) (h_2 : Array Obj) ↦
 ∃ (n : Int),
 v = TV.val (TV.int IntKind.i64 n) ∧
 If (decide (n < (0 : Int)))
 (∃ (s : Sl),
 at1 h_2 (Array.size h) (0 : Nat) (slVal s) ∧
 (0 : Int) ≤ s_2 ∧
 s_2 < (↑s.len : Int) ∧
 Nn s.a fun (l : Go.Vc.Loc) ↦
 ∃ (b : Bs (32 : Nat)),
 atBytes h_2 l.b (l.o + Int.toNat s_2 * (64 : Nat)) (32 : Nat) b ∧
 wok h_2 (Array.size (newTV h (TV.agg [TV.slice c_Blocks, TV.slice c_Shares]) (46 : Nat))) (0 : Nat) (32 : Nat) ∧
 ∃ (b_1 : Bs (32 : Nat)),
 atBytes
 (TV.put h_2 (Array.size (newTV h (TV.agg [TV.slice c_Blocks, TV.slice c_Shares]) (46 : Nat))) (0 : Nat)
 (TV.bytes (32 : Nat) b))
 (Array.size (newTV h (TV.agg [TV.slice c_Blocks, TV.slice c_Shares]) (46 : Nat))) (0 : Nat) (32 : Nat) b_1 ∧
 R (TV.val (TV.bytes (32 : Nat) b_1))
 (TV.put h_2 (Array.size (newTV h (TV.agg [TV.slice c_Blocks, TV.slice c_Shares]) (46 : Nat))) (0 : Nat)
 (TV.bytes (32 : Nat) b)))
 (K n h_2))

theorem ghost_Chain_Head_calls (c_Blocks : Sl) (c_Shares : Sl) (h : Heap) (R : Value → Heap → Prop) (H : ghost_Chain_Head_vc c_Blocks c_Shares h R) : CallsH Try.prog 34 (TVs.vals [TV.agg [TV.slice c_Blocks, TV.slice c_Shares]]) h R :=
 vcFn_sound (C := ctx) ctx_ok (fn := Try.f34) Try.func34 ((by kernel_rfl : ghost_Chain_Head_vc c_Blocks c_Shares h R = vcFn ctx Try.f34 [TV.agg [TV.slice c_Blocks, TV.slice c_Shares]] h R) ▸ H)


def tollerref20_Chain_Place_vc (c_Roots : Sl) (c_Parents : Sl) (c_Targets : Sl) (c_Stakes : Sl) (root : Bs (32 : Nat)) (h : Heap) (R : Value → Heap → Prop) : Prop :=
 ∃ (s : Sl),
 at1 (newTV (newTV h (TV.agg [TV.slice c_Roots, TV.slice c_Parents, TV.slice c_Targets, TV.slice c_Stakes]) (41 : Nat)) (TV.bytes (32 : Nat) root) (37 : Nat))
 (Array.size h) (0 : Nat) (slVal s) ∧
 Go.Vc.Loop ((0 : Int), (0 : Int))
 (newTV (newTV h (TV.agg [TV.slice c_Roots, TV.slice c_Parents, TV.slice c_Targets, TV.slice c_Stakes]) (41 : Nat)) (TV.bytes (32 : Nat) root) (37 : Nat))
 fun (s_1 : Int × Int) (h_1 : Array Obj) (K : Int × Int → Array Obj → Prop) ↦
 If (decide (s_1.snd < (↑s.len : Int)))
 ((0 : Int) ≤ s_1.snd ∧
 s_1.snd < (↑s.len : Int) ∧
 Nn s.a fun (l : Go.Vc.Loc) ↦
 ∃ (b : Bs (32 : Nat)),
 atBytes h_1 l.b (l.o + Int.toNat s_1.snd * (32 : Nat)) (32 : Nat) b ∧
 wok (newTV h_1 (TV.bytes (32 : Nat) (Bs.zero (32 : Nat))) (37 : Nat)) (Array.size h_1) (0 : Nat) (32 : Nat) ∧
 ∃ (b_1 : Bs (32 : Nat)),
 atBytes (TV.put (newTV h_1 (TV.bytes (32 : Nat) (Bs.zero (32 : Nat))) (37 : Nat)) (Array.size h_1) (0 : Nat) (TV.bytes (32 : Nat) b))
 (Array.size h_1) (0 : Nat) (32 : Nat) b_1 ∧
 ∃ (b_2 : Bs (32 : Nat)),
 atBytes (TV.put (newTV h_1 (TV.bytes (32 : Nat) (Bs.zero (32 : Nat))) (37 : Nat)) (Array.size h_1) (0 : Nat) (TV.bytes (32 : Nat) b))
 (Array.size (newTV h (TV.agg [TV.slice c_Roots, TV.slice c_Parents, TV.slice c_Targets, TV.slice c_Stakes]) (41 : Nat))) (0 : Nat)
 (32 : Nat) b_2 ∧
 If (decide (b_1.1 = b_2.1))
 (R (TV.val (TV.int IntKind.i64 s_1.snd))
 (TV.put (newTV h_1 (TV.bytes (32 : Nat) (Bs.zero (32 : Nat))) (37 : Nat)) (Array.size h_1) (0 : Nat) (TV.bytes (32 : Nat) b)))
 (K (s_1.fst, IntKind.wrap IntKind.i64 (s_1.snd + (1 : Int)))
 (TV.put (newTV h_1 (TV.bytes (32 : Nat) (Bs.zero (32 : Nat))) (37 : Nat)) (Array.size h_1) (0 : Nat) (TV.bytes (32 : Nat) b))))
 (R (TV.val (TV.int IntKind.i64 (-1 : Int))) h_1)

theorem tollerref20_Chain_Place_calls (c_Roots : Sl) (c_Parents : Sl) (c_Targets : Sl) (c_Stakes : Sl) (root : Bs (32 : Nat)) (h : Heap) (R : Value → Heap → Prop) (H : tollerref20_Chain_Place_vc c_Roots c_Parents c_Targets c_Stakes root h R) : CallsH Try.prog 36 (TVs.vals [TV.agg [TV.slice c_Roots, TV.slice c_Parents, TV.slice c_Targets, TV.slice c_Stakes], TV.bytes (32 : Nat) root]) h R :=
 vcFn_sound (C := ctx) ctx_ok (fn := Try.f36) Try.func36 ((by kernel_rfl : tollerref20_Chain_Place_vc c_Roots c_Parents c_Targets c_Stakes root h R = vcFn ctx Try.f36 [TV.agg [TV.slice c_Roots, TV.slice c_Parents, TV.slice c_Targets, TV.slice c_Stakes], TV.bytes (32 : Nat) root] h R) ▸ H)


def tollerref10_Name_vc (n : Int) (h : Heap) (R : Value → Heap → Prop) : Prop :=
 (0 : Int) ≤ (0 : Int) ∧
 (0 : Int) < (↑(32 : Nat) : Int) ∧
 wok (newTV (newTV h (TV.bytes (32 : Nat) (Bs.zero (32 : Nat))) (37 : Nat)) (TV.bytes (32 : Nat) (Bs.zero (32 : Nat))) (37 : Nat))
 (Array.size (newTV h (TV.bytes (32 : Nat) (Bs.zero (32 : Nat))) (37 : Nat))) ((0 : Nat) + Int.toNat (0 : Int) * (1 : Nat)) (1 : Nat) ∧
 (0 : Int) ≤ (31 : Int) ∧
 (31 : Int) < (↑(32 : Nat) : Int) ∧
 wok
 (TV.put (newTV (newTV h (TV.bytes (32 : Nat) (Bs.zero (32 : Nat))) (37 : Nat)) (TV.bytes (32 : Nat) (Bs.zero (32 : Nat))) (37 : Nat))
 (Array.size (newTV h (TV.bytes (32 : Nat) (Bs.zero (32 : Nat))) (37 : Nat))) ((0 : Nat) + Int.toNat (0 : Int) * (1 : Nat))
 (TV.int IntKind.u8 (IntKind.wrap IntKind.u8 n)))
 (Array.size (newTV h (TV.bytes (32 : Nat) (Bs.zero (32 : Nat))) (37 : Nat))) ((0 : Nat) + Int.toNat (31 : Int) * (1 : Nat)) (1 : Nat) ∧
 ∃ (b : Bs (32 : Nat)),
 atBytes
 (TV.put
 (TV.put (newTV (newTV h (TV.bytes (32 : Nat) (Bs.zero (32 : Nat))) (37 : Nat)) (TV.bytes (32 : Nat) (Bs.zero (32 : Nat))) (37 : Nat))
 (Array.size (newTV h (TV.bytes (32 : Nat) (Bs.zero (32 : Nat))) (37 : Nat))) ((0 : Nat) + Int.toNat (0 : Int) * (1 : Nat))
 (TV.int IntKind.u8 (IntKind.wrap IntKind.u8 n)))
 (Array.size (newTV h (TV.bytes (32 : Nat) (Bs.zero (32 : Nat))) (37 : Nat))) ((0 : Nat) + Int.toNat (31 : Int) * (1 : Nat))
 (TV.int IntKind.u8 (IntKind.wrap IntKind.u8 (IntKind.wrap IntKind.i64 ((7 : Int) * n)))))
 (Array.size (newTV h (TV.bytes (32 : Nat) (Bs.zero (32 : Nat))) (37 : Nat))) (0 : Nat) (32 : Nat) b ∧
 wok
 (TV.put
 (TV.put (newTV (newTV h (TV.bytes (32 : Nat) (Bs.zero (32 : Nat))) (37 : Nat)) (TV.bytes (32 : Nat) (Bs.zero (32 : Nat))) (37 : Nat))
 (Array.size (newTV h (TV.bytes (32 : Nat) (Bs.zero (32 : Nat))) (37 : Nat))) ((0 : Nat) + Int.toNat (0 : Int) * (1 : Nat))
 (TV.int IntKind.u8 (IntKind.wrap IntKind.u8 n)))
 (Array.size (newTV h (TV.bytes (32 : Nat) (Bs.zero (32 : Nat))) (37 : Nat))) ((0 : Nat) + Int.toNat (31 : Int) * (1 : Nat))
 (TV.int IntKind.u8 (IntKind.wrap IntKind.u8 (IntKind.wrap IntKind.i64 ((7 : Int) * n)))))
 (Array.size h) (0 : Nat) (32 : Nat) ∧
 ∃ (b_1 : Bs (32 : Nat)),
 atBytes
 (TV.put
 (TV.put
 (TV.put
 (newTV (newTV h (TV.bytes (32 : Nat) (Bs.zero (32 : Nat))) (37 : Nat)) (TV.bytes (32 : Nat) (Bs.zero (32 : Nat))) (37 : Nat))
 (Array.size (newTV h (TV.bytes (32 : Nat) (Bs.zero (32 : Nat))) (37 : Nat))) ((0 : Nat) + Int.toNat (0 : Int) * (1 : Nat))
 (TV.int IntKind.u8 (IntKind.wrap IntKind.u8 n)))
 (Array.size (newTV h (TV.bytes (32 : Nat) (Bs.zero (32 : Nat))) (37 : Nat))) ((0 : Nat) + Int.toNat (31 : Int) * (1 : Nat))
 (TV.int IntKind.u8 (IntKind.wrap IntKind.u8 (IntKind.wrap IntKind.i64 ((7 : Int) * n)))))
 (Array.size h) (0 : Nat) (TV.bytes (32 : Nat) b))
 (Array.size h) (0 : Nat) (32 : Nat) b_1 ∧
 R (TV.val (TV.bytes (32 : Nat) b_1))
 (TV.put
 (TV.put
 (TV.put
 (newTV (newTV h (TV.bytes (32 : Nat) (Bs.zero (32 : Nat))) (37 : Nat)) (TV.bytes (32 : Nat) (Bs.zero (32 : Nat))) (37 : Nat))
 (Array.size (newTV h (TV.bytes (32 : Nat) (Bs.zero (32 : Nat))) (37 : Nat))) ((0 : Nat) + Int.toNat (0 : Int) * (1 : Nat))
 (TV.int IntKind.u8 (IntKind.wrap IntKind.u8 n)))
 (Array.size (newTV h (TV.bytes (32 : Nat) (Bs.zero (32 : Nat))) (37 : Nat))) ((0 : Nat) + Int.toNat (31 : Int) * (1 : Nat))
 (TV.int IntKind.u8 (IntKind.wrap IntKind.u8 (IntKind.wrap IntKind.i64 ((7 : Int) * n)))))
 (Array.size h) (0 : Nat) (TV.bytes (32 : Nat) b))

theorem tollerref10_Name_calls (n : Int) (h : Heap) (R : Value → Heap → Prop) (H : tollerref10_Name_vc n h R) : CallsH Try.prog 37 (TVs.vals [TV.int IntKind.i64 n]) h R :=
 vcFn_sound (C := ctx) ctx_ok (fn := Try.f37) Try.func37 ((by kernel_rfl : tollerref10_Name_vc n h R = vcFn ctx Try.f37 [TV.int IntKind.i64 n] h R) ▸ H)


def tollerref03_Less_vc (a : Bs (32 : Nat)) (b : Bs (32 : Nat)) (h : Heap) (R : Value → Heap → Prop) : Prop :=
 Go.Vc.Loop (false, (0 : Int)) (newTV (newTV h (TV.bytes (32 : Nat) a) (37 : Nat)) (TV.bytes (32 : Nat) b) (37 : Nat))
 fun (s : Bool × Int) (h_1 : Array Obj) (K : Bool × Int → Array Obj → Prop) ↦
 If (decide (s.snd < (32 : Int)))
 ((0 : Int) ≤ s.snd ∧
 s.snd < (↑(32 : Nat) : Int) ∧
 ∃ (n : Int),
 at1 h_1 (Array.size h) ((0 : Nat) + Int.toNat s.snd * (1 : Nat)) (Value.int IntKind.u8 n) ∧
 (0 : Int) ≤ s.snd ∧
 s.snd < (↑(32 : Nat) : Int) ∧
 ∃ (n_1 : Int),
 at1 h_1 (Array.size (newTV h (TV.bytes (32 : Nat) a) (37 : Nat))) ((0 : Nat) + Int.toNat s.snd * (1 : Nat)) (Value.int IntKind.u8 n_1) ∧
 If (!decide (n = n_1))
 ((0 : Int) ≤ s.snd ∧
 s.snd < (↑(32 : Nat) : Int) ∧
 ∃ (n : Int),
 at1 h_1 (Array.size h) ((0 : Nat) + Int.toNat s.snd * (1 : Nat)) (Value.int IntKind.u8 n) ∧
 (0 : Int) ≤ s.snd ∧
 s.snd < (↑(32 : Nat) : Int) ∧
 ∃ (n_2 : Int),
 at1 h_1 (Array.size (newTV h (TV.bytes (32 : Nat) a) (37 : Nat))) ((0 : Nat) + Int.toNat s.snd * (1 : Nat))
 (Value.int IntKind.u8 n_2) ∧
 R (TV.val (TV.bool (decide (n < n_2)))) h_1)
 (K (s.fst, IntKind.wrap IntKind.i64 (s.snd + (1 : Int))) h_1))
 (R (TV.val (TV.bool false)) h_1)

theorem tollerref03_Less_calls (a : Bs (32 : Nat)) (b : Bs (32 : Nat)) (h : Heap) (R : Value → Heap → Prop) (H : tollerref03_Less_vc a b h R) : CallsH Try.prog 38 (TVs.vals [TV.bytes (32 : Nat) a, TV.bytes (32 : Nat) b]) h R :=
 vcFn_sound (C := ctx) ctx_ok (fn := Try.f38) Try.func38 ((by kernel_rfl : tollerref03_Less_vc a b h R = vcFn ctx Try.f38 [TV.bytes (32 : Nat) a, TV.bytes (32 : Nat) b] h R) ▸ H)


def ghost_Chain_place_vc (c_Blocks : Sl) (c_Shares : Sl) (root : Bs (32 : Nat)) (h : Heap) (R : Value → Heap → Prop) : Prop :=
 ∃ (s : Sl),
 at1 (newTV (newTV h (TV.agg [TV.slice c_Blocks, TV.slice c_Shares]) (46 : Nat)) (TV.bytes (32 : Nat) root) (37 : Nat)) (Array.size h) (0 : Nat) (slVal s) ∧
 Go.Vc.Loop ((0 : Int), (0 : Int)) (newTV (newTV h (TV.agg [TV.slice c_Blocks, TV.slice c_Shares]) (46 : Nat)) (TV.bytes (32 : Nat) root) (37 : Nat))
 fun (s_1 : Int × Int) (h_1 : Array Obj) (K : Int × Int → Array Obj → Prop) ↦
 If (decide (s_1.snd < (↑s.len : Int)))
 ((0 : Int) ≤ s_1.snd ∧
 s_1.snd < (↑s.len : Int) ∧
 Nn s.a fun (l : Go.Vc.Loc) ↦
 ∃ (b : Bs (32 : Nat)),
 ∃ (b_1 : Bs (32 : Nat)),
 (atBytes h_1 l.b (l.o + Int.toNat s_1.snd * (64 : Nat)) (32 : Nat) b ∧
 atBytes h_1 l.b (l.o + Int.toNat s_1.snd * (64 : Nat) + (32 : Nat)) (32 : Nat) b_1) ∧
 wok (newTV h_1 (TV.agg [TV.bytes (32 : Nat) (Bs.zero (32 : Nat)), TV.bytes (32 : Nat) (Bs.zero (32 : Nat))]) (61 : Nat)) (Array.size h_1)
 (0 : Nat) (Nat.succ (Nat.add (32 : Nat) (31 : Nat))) ∧
 ∃ (b_2 : Bs (32 : Nat)),
 atBytes
 (TV.put (newTV h_1 (TV.agg [TV.bytes (32 : Nat) (Bs.zero (32 : Nat)), TV.bytes (32 : Nat) (Bs.zero (32 : Nat))]) (61 : Nat))
 (Array.size h_1) (0 : Nat) (TV.agg [TV.bytes (32 : Nat) b, TV.bytes (32 : Nat) b_1]))
 (Array.size h_1) (0 : Nat) (32 : Nat) b_2 ∧
 ∃ (b_3 : Bs (32 : Nat)),
 atBytes
 (TV.put (newTV h_1 (TV.agg [TV.bytes (32 : Nat) (Bs.zero (32 : Nat)), TV.bytes (32 : Nat) (Bs.zero (32 : Nat))]) (61 : Nat))
 (Array.size h_1) (0 : Nat) (TV.agg [TV.bytes (32 : Nat) b, TV.bytes (32 : Nat) b_1]))
 (Array.size (newTV h (TV.agg [TV.slice c_Blocks, TV.slice c_Shares]) (46 : Nat))) (0 : Nat) (32 : Nat) b_3 ∧
 If (decide (b_2.1 = b_3.1))
 (R (TV.val (TV.int IntKind.i64 s_1.snd))
 (TV.put (newTV h_1 (TV.agg [TV.bytes (32 : Nat) (Bs.zero (32 : Nat)), TV.bytes (32 : Nat) (Bs.zero (32 : Nat))]) (61 : Nat))
 (Array.size h_1) (0 : Nat) (TV.agg [TV.bytes (32 : Nat) b, TV.bytes (32 : Nat) b_1])))
 (K (s_1.fst, IntKind.wrap IntKind.i64 (s_1.snd + (1 : Int)))
 (TV.put (newTV h_1 (TV.agg [TV.bytes (32 : Nat) (Bs.zero (32 : Nat)), TV.bytes (32 : Nat) (Bs.zero (32 : Nat))]) (61 : Nat))
 (Array.size h_1) (0 : Nat) (TV.agg [TV.bytes (32 : Nat) b, TV.bytes (32 : Nat) b_1]))))
 (R (TV.val (TV.int IntKind.i64 (-1 : Int))) h_1)

theorem ghost_Chain_place_calls (c_Blocks : Sl) (c_Shares : Sl) (root : Bs (32 : Nat)) (h : Heap) (R : Value → Heap → Prop) (H : ghost_Chain_place_vc c_Blocks c_Shares root h R) : CallsH Try.prog 39 (TVs.vals [TV.agg [TV.slice c_Blocks, TV.slice c_Shares], TV.bytes (32 : Nat) root]) h R :=
 vcFn_sound (C := ctx) ctx_ok (fn := Try.f39) Try.func39 ((by kernel_rfl : ghost_Chain_place_vc c_Blocks c_Shares root h R = vcFn ctx Try.f39 [TV.agg [TV.slice c_Blocks, TV.slice c_Shares], TV.bytes (32 : Nat) root] h R) ▸ H)


def ghost_Chain_weight_vc (c_Blocks : Sl) (c_Shares : Sl) (at_ : Int) (h : Heap) (R : Value → Heap → Prop) : Prop :=
 ∃ (s : Sl),
 at1 (newTV h (TV.agg [TV.slice c_Blocks, TV.slice c_Shares]) (46 : Nat)) (Array.size h) (1 : Nat) (slVal s) ∧
 Go.Vc.Loop ((0 : Int), (0 : Int)) (newTV h (TV.agg [TV.slice c_Blocks, TV.slice c_Shares]) (46 : Nat))
 fun (s_1 : Int × Int) (h_1 : Array Obj) (K : Int × Int → Array Obj → Prop) ↦
 If (decide (s_1.snd < (↑s.len : Int)))
 ((0 : Int) ≤ s_1.snd ∧
 s_1.snd < (↑s.len : Int) ∧
 Nn s.a fun (l : Go.Vc.Loc) ↦
 ∃ (b : Bs (32 : Nat)),
 ∃ (n : Int),
 (atBytes h_1 l.b (l.o + Int.toNat s_1.snd * (33 : Nat)) (32 : Nat) b ∧
 at1 h_1 l.b (l.o + Int.toNat s_1.snd * (33 : Nat) + (32 : Nat)) (Value.int IntKind.i64 n)) ∧
 wok (newTV h_1 (TV.agg [TV.bytes (32 : Nat) (Bs.zero (32 : Nat)), TV.int IntKind.i64 (0 : Int)]) (63 : Nat)) (Array.size h_1) (0 : Nat)
 (Nat.succ (Nat.add (32 : Nat) (0 : Nat))) ∧
 ∃ (b_1 : Bs (32 : Nat)),
 atBytes
 (TV.put (newTV h_1 (TV.agg [TV.bytes (32 : Nat) (Bs.zero (32 : Nat)), TV.int IntKind.i64 (0 : Int)]) (63 : Nat)) (Array.size h_1)
 (0 : Nat) (TV.agg [TV.bytes (32 : Nat) b, TV.int IntKind.i64 n]))
 (Array.size h_1) (0 : Nat) (32 : Nat) b_1 ∧
 ∃ (s : Sl),
 at1
 (TV.put (newTV h_1 (TV.agg [TV.bytes (32 : Nat) (Bs.zero (32 : Nat)), TV.int IntKind.i64 (0 : Int)]) (63 : Nat))
 (Array.size h_1) (0 : Nat) (TV.agg [TV.bytes (32 : Nat) b, TV.int IntKind.i64 n]))
 (Array.size h) (0 : Nat) (slVal s) ∧
 (0 : Int) ≤ at_ ∧
 at_ < (↑s.len : Int) ∧
 Nn s.a fun (l : Go.Vc.Loc) ↦
 ∃ (b_2 : Bs (32 : Nat)),
 atBytes
 (TV.put (newTV h_1 (TV.agg [TV.bytes (32 : Nat) (Bs.zero (32 : Nat)), TV.int IntKind.i64 (0 : Int)]) (63 : Nat))
 (Array.size h_1) (0 : Nat) (TV.agg [TV.bytes (32 : Nat) b, TV.int IntKind.i64 n]))
 l.b (l.o + Int.toNat at_ * (64 : Nat)) (32 : Nat) b_2 ∧
 If (decide (b_1.1 = b_2.1))
 (∃ (n_1 : Int),
 at1
 (TV.put (newTV h_1 (TV.agg [TV.bytes (32 : Nat) (Bs.zero (32 : Nat)), TV.int IntKind.i64 (0 : Int)]) (63 : Nat))
 (Array.size h_1) (0 : Nat) (TV.agg [TV.bytes (32 : Nat) b, TV.int IntKind.i64 n]))
 (Array.size h_1) (32 : Nat) (Value.int IntKind.i64 n_1) ∧
 K (IntKind.wrap IntKind.i64 (s_1.fst + n_1), IntKind.wrap IntKind.i64 (s_1.snd + (1 : Int)))
 (TV.put (newTV h_1 (TV.agg [TV.bytes (32 : Nat) (Bs.zero (32 : Nat)), TV.int IntKind.i64 (0 : Int)]) (63 : Nat))
 (Array.size h_1) (0 : Nat) (TV.agg [TV.bytes (32 : Nat) b, TV.int IntKind.i64 n])))
 (K (s_1.fst, IntKind.wrap IntKind.i64 (s_1.snd + (1 : Int)))
 (TV.put (newTV h_1 (TV.agg [TV.bytes (32 : Nat) (Bs.zero (32 : Nat)), TV.int IntKind.i64 (0 : Int)]) (63 : Nat))
 (Array.size h_1) (0 : Nat) (TV.agg [TV.bytes (32 : Nat) b, TV.int IntKind.i64 n]))))
 (∃ (s : Sl),
 ∃ (s_2 : Sl),
 (at1 h_1 (Array.size h) (0 : Nat) (slVal s) ∧ at1 h_1 (Array.size h) (1 : Nat) (slVal s_2)) ∧
 CallsH Try.prog (42 : Nat) (TVs.vals [TV.agg [TV.slice s, TV.slice s_2], TV.int IntKind.i64 at_]) h_1 fun (v : Value) (h_2 : Array Obj) ↦
 ∃ (s : Sl),
 v = TV.val (TV.slice s) ∧
 Go.Vc.Loop (s_1.1, (0 : Int)) h_2 fun (s_3 : Int × Int) (h_3 : Array Obj) (K : Int × Int → Array Obj → Prop) ↦
 If (decide (s_3.snd < (↑s.len : Int)))
 ((0 : Int) ≤ s_3.snd ∧
 s_3.snd < (↑s.len : Int) ∧
 Nn s.a fun (l : Go.Vc.Loc) ↦
 ∃ (n : Int),
 at1 h_3 l.b (l.o + Int.toNat s_3.snd * (1 : Nat)) (Value.int IntKind.i64 n) ∧
 ∃ (s : Sl),
 ∃ (s_4 : Sl),
 (at1 h_3 (Array.size h) (0 : Nat) (slVal s) ∧ at1 h_3 (Array.size h) (1 : Nat) (slVal s_4)) ∧
 CallsH Try.prog (40 : Nat) (TVs.vals [TV.agg [TV.slice s, TV.slice s_4], TV.int IntKind.i64 n]) h_3
 fun (v : Value) (h : Array Obj) ↦
 ∃ (n : Int),
 v = TV.val (TV.int IntKind.i64 n) ∧
 K (IntKind.wrap IntKind.i64 (s_3.fst + n), IntKind.wrap IntKind.i64 (s_3.snd + (1 : Int))) h)
 (R (TV.val (TV.int IntKind.i64 s_3.fst)) h_3))

theorem ghost_Chain_weight_calls (c_Blocks : Sl) (c_Shares : Sl) (at_ : Int) (h : Heap) (R : Value → Heap → Prop) (H : ghost_Chain_weight_vc c_Blocks c_Shares at_ h R) : CallsH Try.prog 40 (TVs.vals [TV.agg [TV.slice c_Blocks, TV.slice c_Shares], TV.int IntKind.i64 at_]) h R :=
 vcFn_sound (C := ctx) ctx_ok (fn := Try.f40) Try.func40 ((by kernel_rfl : ghost_Chain_weight_vc c_Blocks c_Shares at_ h R = vcFn ctx Try.f40 [TV.agg [TV.slice c_Blocks, TV.slice c_Shares], TV.int IntKind.i64 at_] h R) ▸ H)


def ghost_Chain_best_vc (c_Blocks : Sl) (c_Shares : Sl) (at_ : Int) (h : Heap) (R : Value → Heap → Prop) : Prop :=
 ∃ (s : Sl),
 ∃ (s_1 : Sl),
 (at1 (newTV h (TV.agg [TV.slice c_Blocks, TV.slice c_Shares]) (46 : Nat)) (Array.size h) (0 : Nat) (slVal s) ∧
 at1 (newTV h (TV.agg [TV.slice c_Blocks, TV.slice c_Shares]) (46 : Nat)) (Array.size h) (1 : Nat) (slVal s_1)) ∧
 CallsH Try.prog (42 : Nat) (TVs.vals [TV.agg [TV.slice s, TV.slice s_1], TV.int IntKind.i64 at_])
 (newTV h (TV.agg [TV.slice c_Blocks, TV.slice c_Shares]) (46 : Nat)) fun (v : Value) (h_1 : Heap) ↦
 ∃ (s_2 : Sl),
 v = TV.val (TV.slice s_2) ∧
 Go.Vc.Loop ((-1 : Int), (0 : Int), (0 : Int)) h_1 fun (s_3 : Int × Int × Int) (h_2 : Array Obj) (K : Int × Int × Int → Array Obj → Prop) ↦
 If (decide (s_3.snd.snd < (↑s_2.len : Int)))
 ((0 : Int) ≤ s_3.snd.snd ∧
 s_3.snd.snd < (↑s_2.len : Int) ∧
 Nn s_2.a fun (l : Go.Vc.Loc) ↦
 ∃ (n : Int),
 at1 h_2 l.b (l.o + Int.toNat s_3.snd.snd * (1 : Nat)) (Value.int IntKind.i64 n) ∧
 ∃ (s_4 : Sl),
 ∃ (s_5 : Sl),
 (at1 h_2 (Array.size h) (0 : Nat) (slVal s_4) ∧ at1 h_2 (Array.size h) (1 : Nat) (slVal s_5)) ∧
 CallsH Try.prog (40 : Nat) (TVs.vals [TV.agg [TV.slice s_4, TV.slice s_5], TV.int IntKind.i64 n]) h_2
 fun (v : Value) (h_3 : Array Obj) ↦
 ∃ (n_1 : Int),
 v = TV.val (TV.int IntKind.i64 n_1) ∧
 If (decide (s_3.fst < (0 : Int))) (K (n, n_1, IntKind.wrap IntKind.i64 (s_3.snd.snd + (1 : Int))) h_3)
 (If (decide (s_3.snd.fst < n_1)) (K (n, n_1, IntKind.wrap IntKind.i64 (s_3.snd.snd + (1 : Int))) h_3)
 (If (decide (n_1 = s_3.snd.fst))
 (∃ (s_6 : Sl),
 at1 h_3 (Array.size h) (0 : Nat) (slVal s_6) ∧
 (0 : Int) ≤ s_3.fst ∧
 s_3.fst < (↑s_6.len : Int) ∧
 Nn s_6.a fun (l : Go.Vc.Loc) ↦
 ∃ (b : Bs (32 : Nat)),
 atBytes h_3 l.b (l.o + Int.toNat s_3.fst * (64 : Nat)) (32 : Nat) b ∧
 ∃ (s_7 : Sl),
 at1 h_3 (Array.size h) (0 : Nat) (slVal s_7) ∧
 (0 : Int) ≤ n ∧
 n < (↑s_7.len : Int) ∧
 Nn s_7.a fun (l : Go.Vc.Loc) ↦
 ∃ (b_1 : Bs (32 : Nat)),
 atBytes h_3 l.b (l.o + Int.toNat n * (64 : Nat)) (32 : Nat) b_1 ∧
 CallsH Try.prog (43 : Nat) (TVs.vals [TV.bytes (32 : Nat) b, TV.bytes (32 : Nat) b_1])
 h_3 fun (v : Value) (h : Array Obj) ↦
 ∃ (b : Bool),
 v = TV.val (TV.bool b) ∧
 If b (K (n, n_1, IntKind.wrap IntKind.i64 (s_3.snd.snd + (1 : Int))) h)
 (K (s_3.fst, s_3.snd.fst, IntKind.wrap IntKind.i64 (s_3.snd.snd + (1 : Int)))
 h))
 (K (s_3.fst, s_3.snd.fst, IntKind.wrap IntKind.i64 (s_3.snd.snd + (1 : Int))) h_3))))
 (R (TV.val (TV.int IntKind.i64 s_3.fst)) h_2)

theorem ghost_Chain_best_calls (c_Blocks : Sl) (c_Shares : Sl) (at_ : Int) (h : Heap) (R : Value → Heap → Prop) (H : ghost_Chain_best_vc c_Blocks c_Shares at_ h R) : CallsH Try.prog 41 (TVs.vals [TV.agg [TV.slice c_Blocks, TV.slice c_Shares], TV.int IntKind.i64 at_]) h R :=
 vcFn_sound (C := ctx) ctx_ok (fn := Try.f41) Try.func41 ((by kernel_rfl : ghost_Chain_best_vc c_Blocks c_Shares at_ h R = vcFn ctx Try.f41 [TV.agg [TV.slice c_Blocks, TV.slice c_Shares], TV.int IntKind.i64 at_] h R) ▸ H)


def ghost_Chain_kids_vc (c_Blocks : Sl) (c_Shares : Sl) (at_ : Int) (h : Heap) (R : Value → Heap → Prop) : Prop :=
 Go.Vc.Loop (Sl.mk none (0 : Nat) (0 : Nat), IntKind.wrap IntKind.i64 (at_ + (1 : Int))) (newTV h (TV.agg [TV.slice c_Blocks, TV.slice c_Shares]) (46 : Nat))
 fun (s : Sl × Int) (h_1 : Array Obj) (K : Sl × Int → Array Obj → Prop) ↦
 ∃ (s_1 : Sl),
 at1 h_1 (Array.size h) (0 : Nat) (slVal s_1) ∧
 If (decide (s.snd < (↑s_1.len : Int)))
 (∃ (s_2 : Sl),
 at1 h_1 (Array.size h) (0 : Nat) (slVal s_2) ∧
 (0 : Int) ≤ s.snd ∧
 s.snd < (↑s_2.len : Int) ∧
 Nn s_2.a fun (l : Go.Vc.Loc) ↦
 ∃ (b : Bs (32 : Nat)),
 atBytes h_1 l.b (l.o + Int.toNat s.snd * (64 : Nat) + (32 : Nat)) (32 : Nat) b ∧
 ∃ (s_3 : Sl),
 at1 h_1 (Array.size h) (0 : Nat) (slVal s_3) ∧
 (0 : Int) ≤ at_ ∧
 at_ < (↑s_3.len : Int) ∧
 Nn s_3.a fun (l : Go.Vc.Loc) ↦
 ∃ (b_1 : Bs (32 : Nat)),
 atBytes h_1 l.b (l.o + Int.toNat at_ * (64 : Nat)) (32 : Nat) b_1 ∧
 If (decide (b.1 = b_1.1))
 (∃ (new : List Value),
 slAt (Array.push h_1 (row (TVs.cells [TV.int IntKind.i64 s.snd]) (3 : Nat)))
 (Sl.mk (some (Loc.mk (Array.size h_1) (0 : Nat))) (1 : Nat) (1 : Nat)) (1 : Nat) new ∧
 (∀ (v : Value), v ∈ new → isOne v = true) ∧
 vcAppend Ytahoibjgojlpeaa.ctx (3 : Nat) s.fst (1 : Nat) new
 (Array.push h_1 (row (TVs.cells [TV.int IntKind.i64 s.snd]) (3 : Nat))) fun (s_4 : Sl) (h : Array Obj) ↦
 K (s_4, IntKind.wrap IntKind.i64 (s.snd + (1 : Int))) h)
 (K (s.fst, IntKind.wrap IntKind.i64 (s.snd + (1 : Int))) h_1))
 (R (TV.val (TV.slice s.fst)) h_1)

theorem ghost_Chain_kids_calls (c_Blocks : Sl) (c_Shares : Sl) (at_ : Int) (h : Heap) (R : Value → Heap → Prop) (H : ghost_Chain_kids_vc c_Blocks c_Shares at_ h R) : CallsH Try.prog 42 (TVs.vals [TV.agg [TV.slice c_Blocks, TV.slice c_Shares], TV.int IntKind.i64 at_]) h R :=
 vcFn_sound (C := ctx) ctx_ok (fn := Try.f42) Try.func42 ((by kernel_rfl : ghost_Chain_kids_vc c_Blocks c_Shares at_ h R = vcFn ctx Try.f42 [TV.agg [TV.slice c_Blocks, TV.slice c_Shares], TV.int IntKind.i64 at_] h R) ▸ H)


def sha_Less_vc (a : Bs (32 : Nat)) (b : Bs (32 : Nat)) (h : Heap) (R : Value → Heap → Prop) : Prop :=
 ∃ (bs : List UInt8),
 strAt (newTV (newTV h (TV.bytes (32 : Nat) a) (37 : Nat)) (TV.bytes (32 : Nat) b) (37 : Nat))
 (cutSl (Sl.mk (some (Loc.mk (Array.size h) (0 : Nat))) (32 : Nat) (32 : Nat)) (0 : Nat) (32 : Nat) (1 : Nat)) bs ∧
 ∃ (bs_1 : List UInt8),
 strAt (newTV (newTV h (TV.bytes (32 : Nat) a) (37 : Nat)) (TV.bytes (32 : Nat) b) (37 : Nat))
 (cutSl (Sl.mk (some (Loc.mk (Array.size (newTV h (TV.bytes (32 : Nat) a) (37 : Nat))) (0 : Nat))) (32 : Nat) (32 : Nat)) (0 : Nat) (32 : Nat)
 (1 : Nat))
 bs_1 ∧
 R (TV.val (TV.bool (Op.bytesLess bs bs_1))) (newTV (newTV h (TV.bytes (32 : Nat) a) (37 : Nat)) (TV.bytes (32 : Nat) b) (37 : Nat))

theorem sha_Less_calls (a : Bs (32 : Nat)) (b : Bs (32 : Nat)) (h : Heap) (R : Value → Heap → Prop) (H : sha_Less_vc a b h R) : CallsH Try.prog 43 (TVs.vals [TV.bytes (32 : Nat) a, TV.bytes (32 : Nat) b]) h R :=
 vcFn_sound (C := ctx) ctx_ok (fn := Try.f43) Try.func43 ((by kernel_rfl : sha_Less_vc a b h R = vcFn ctx Try.f43 [TV.bytes (32 : Nat) a, TV.bytes (32 : Nat) b] h R) ▸ H)


end Go.Proofs.Ytahoibjgojlpeaa

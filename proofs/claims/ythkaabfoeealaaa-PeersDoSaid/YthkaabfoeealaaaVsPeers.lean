/- The conditions of functions, as the generator reckons them out, each with the proof that it is that. -/
import Derived.Test.YthkaabfoeealaaaCtx
namespace Go.Proofs.Ythkaabfoeealaaa
open Go Go.Vc
set_option maxRecDepth 100000
set_option linter.unusedVariables false

def tollerlaw18_alive_vc (h : Heap) (R : Value → Heap → Prop) : Prop :=
 CallsH Try.prog (10 : Nat) (TVs.vals [TV.int IntKind.i64 (2 : Int), TV.int IntKind.i64 (10 : Int), TV.int IntKind.i64 (1 : Int)]) h fun (v : Value) (h : Heap) ↦
 ∃ (p : Option Go.Vc.Loc),
 v = TV.val (TV.ptr p) ∧
 CallsH Try.prog (12 : Nat) (TVs.vals [TV.ptr p, TV.int IntKind.i64 (7 : Int), TV.int IntKind.i64 (5 : Int)]) h fun (v : Value) (h : Heap) ↦
 v = TV.val (TV.tup []) ∧
 CallsH Try.prog (12 : Nat) (TVs.vals [TV.ptr p, TV.int IntKind.i64 (7 : Int), TV.int IntKind.i64 (5 : Int)]) h fun (v : Value) (h : Heap) ↦
 v = TV.val (TV.tup []) ∧
 Join
 (fun (s : Bool) (h : Array Obj) ↦
 CallsH Try.prog (11 : Nat) (TVs.vals [TV.ptr p]) h fun (v : Value) (h : Array Obj) ↦
 v = TV.val (TV.tup []) ∧
 CallsH Try.prog (15 : Nat) (TVs.vals [TV.ptr p, TV.int IntKind.i64 (7 : Int)]) h fun (v : Value) (h : Array Obj) ↦
 ∃ (b : Bool),
 v = TV.val (TV.bool b) ∧
 If (!b)
 (CallsH Try.prog (13 : Nat) (TVs.vals [TV.ptr p]) h fun (v : Value) (h : Array Obj) ↦
 ∃ (s : Sl), v = TV.val (TV.slice s) ∧ R (TV.val (TV.bool (decide ((↑s.len : Int) = (1 : Int))))) h)
 (R (TV.val (TV.bool false)) h))
 fun (J : Bool → Array Obj → Prop) ↦
 CallsH Try.prog (15 : Nat) (TVs.vals [TV.ptr p, TV.int IntKind.i64 (7 : Int)]) h fun (v : Value) (h : Heap) ↦
 ∃ (b : Bool),
 v = TV.val (TV.bool b) ∧
 If (!b) (R (TV.val (TV.bool false)) h)
 (CallsH Try.prog (14 : Nat) (TVs.vals [TV.ptr p, TV.int IntKind.i64 (7 : Int)]) h fun (v : Value) (h : Heap) ↦
 ∃ (n : Int),
 v = TV.val (TV.int IntKind.i64 n) ∧
 If (!decide (n = (-10 : Int))) (R (TV.val (TV.bool false)) h)
 (CallsH Try.prog (14 : Nat) (TVs.vals [TV.ptr p, TV.int IntKind.i64 (8 : Int)]) h fun (v : Value) (h : Heap) ↦
 ∃ (n : Int), v = TV.val (TV.int IntKind.i64 n) ∧ If (!decide (n = (0 : Int))) (R (TV.val (TV.bool false)) h) (J false h)))

theorem tollerlaw18_alive_calls (h : Heap) (R : Value → Heap → Prop) (H : tollerlaw18_alive_vc h R) : CallsH Try.prog 9 (TVs.vals []) h R :=
 vcFn_sound (C := ctx) ctx_ok (fn := Try.f9) Try.func9 ((by kernel_rfl : tollerlaw18_alive_vc h R = vcFn ctx Try.f9 [] h R) ▸ H)


def peers_New_vc (most : Int) (ban : Int) (decay : Int) (h : Heap) (R : Value → Heap → Prop) : Prop :=
 CallsH Try.prog (24 : Nat) (TVs.vals [TV.int IntKind.i64 most, TV.int IntKind.i64 (16 : Int)]) h fun (v : Value) (h : Heap) ↦
 ∃ (b : Bool),
 v = TV.val (TV.bool b) ∧
 If (!b) (R (TV.val (TV.ptr none)) h)
 (CallsH Try.prog (24 : Nat) (TVs.vals [TV.int IntKind.i64 ban, TV.int IntKind.i64 (1048576 : Int)]) h fun (v : Value) (h : Heap) ↦
 ∃ (b : Bool),
 v = TV.val (TV.bool b) ∧
 If (!b) (R (TV.val (TV.ptr none)) h)
 (CallsH Try.prog (24 : Nat) (TVs.vals [TV.int IntKind.i64 decay, TV.int IntKind.i64 (1048576 : Int)]) h fun (v : Value) (h : Heap) ↦
 ∃ (b : Bool),
 v = TV.val (TV.bool b) ∧
 If (!b) (R (TV.val (TV.ptr none)) h)
 (R (TV.val (TV.ptr (some (Loc.mk (Array.size (Array.push h (mapO [] (0 : Nat)))) (0 : Nat)))))
 (newTV (Array.push h (mapO [] (0 : Nat)))
 (TV.agg
 [TV.map (some (Array.size h)), TV.int IntKind.i64 most, TV.int IntKind.i64 ban, TV.int IntKind.i64 decay,
 TV.int IntKind.i64 (0 : Int)])
 (48 : Nat)))))

theorem peers_New_calls (most : Int) (ban : Int) (decay : Int) (h : Heap) (R : Value → Heap → Prop) (H : peers_New_vc most ban decay h R) : CallsH Try.prog 10 (TVs.vals [TV.int IntKind.i64 most, TV.int IntKind.i64 ban, TV.int IntKind.i64 decay]) h R :=
 vcFn_sound (C := ctx) ctx_ok (fn := Try.f10) Try.func10 ((by kernel_rfl : peers_New_vc most ban decay h R = vcFn ctx Try.f10 [TV.int IntKind.i64 most, TV.int IntKind.i64 ban, TV.int IntKind.i64 decay] h R) ▸ H)


def peers_Peers_Tick_vc (p : Option Go.Vc.Loc) (h : Heap) (R : Value → Heap → Prop) : Prop :=
 If (Option.isNone p) (R (TV.val (TV.tup [])) h)
 (Nn p fun (l : Go.Vc.Loc) ↦
 ∃ (r : Option Nat),
 at1 h l.b l.o (Value.map r) ∧
 Nn r fun (l : Nat) ↦
 ∃ (es : List (TV × TV × Nat)),
 ∃ (c : Nat),
 h[l]? = some (mapO es c) ∧
 Go.Vc.Loop PUnit.unit (Array.push h (Obj.mapIter (some l) c #[] c)) fun (s : PUnit) (h_1 : Array Obj) (K : PUnit → Array Obj → Prop) ↦
 (0 : Nat) = (0 : Nat) ∧
 ∃ (bm : Nat),
 ∃ (since : Nat),
 ∃ (c0 : Nat),
 ∃ (seen : Array Nat),
 ∃ (es : List (TV × TV × Nat)),
 ∃ (c : Nat),
 h_1[Array.size h]? = some (Obj.mapIter (some bm) since seen c0) ∧
 h_1[bm]? = some (mapO es c) ∧
 (∀ (e : TV × TV × Nat), e ∈ es → e.snd.snd < since) ∧
 since ≤ c0 ∧
 ((∀ (e : TV × TV × Nat), e ∈ es → Array.contains seen e.snd.snd = true) → R (TV.val (TV.tup [])) h_1) ∧
 ∀ (e : TV × TV × Nat),
 e ∈ es →
 Array.contains seen e.snd.snd = false →
 (0 : Nat) = (0 : Nat) ∧
 ∃ (bm_1 : Nat),
 ∃ (since_1 : Nat),
 ∃ (seen_1 : Array Nat),
 ∃ (es : List (TV × TV × Nat)),
 ∃ (c_1 : Nat),
 ∃ (e_1 : TV × TV × Nat),
 (Array.setIfInBounds h_1 (Array.size h)
 (Obj.mapIter (some bm) since (Array.push seen e.snd.snd) c))[Array.size h]? =
 some (Obj.mapIter (some bm_1) since_1 (Array.push seen_1 e_1.snd.snd) c_1) ∧
 (Array.setIfInBounds h_1 (Array.size h)
 (Obj.mapIter (some bm) since (Array.push seen e.snd.snd) c))[bm_1]? =
 some (mapO es c_1) ∧
 e_1 ∈ es ∧
 List.Nodup (List.map (fun (x : TV × TV × Nat) ↦ x.snd.snd) es) ∧
 ∃ (a : Vc.One),
 ∃ (b : Vc.One),
 a.v = TV.val e_1.1 ∧
 b.v = TV.val e_1.snd.1 ∧
 ∃ (n : Int),
 TV.val (TV.int IntKind.i64 n) = a.v ∧
 ∃ (n_1 : Int),
 TV.val (TV.int IntKind.i64 n_1) = b.v ∧
 Nn p fun (l : Go.Vc.Loc) ↦
 ∃ (n_2 : Int),
 at1
 (Array.setIfInBounds h_1 (Array.size h)
 (Obj.mapIter (some bm) since (Array.push seen e.snd.snd) c))
 l.b (l.o + (3 : Nat)) (Value.int IntKind.i64 n_2) ∧
 If (decide ((0 : Int) ≤ IntKind.wrap IntKind.i64 (n_1 + n_2)))
 (Nn p fun (l : Go.Vc.Loc) ↦
 ∃ (r : Option Nat),
 at1
 (Array.setIfInBounds h_1 (Array.size h)
 (Obj.mapIter (some bm) since (Array.push seen e.snd.snd)
 c))
 l.b l.o (Value.map r) ∧
 Nn r fun (l : Nat) ↦
 ∃ (es : List (TV × TV × Nat)),
 ∃ (c_2 : Nat),
 (Array.setIfInBounds h_1 (Array.size h)
 (Obj.mapIter (some bm) since
 (Array.push seen e.snd.snd) c))[l]? =
 some (mapO es c_2) ∧
 AllLike (TypeDesc.int IntKind.i64) es ∧
 K PUnit.unit
 (Array.setIfInBounds
 (Array.setIfInBounds h_1 (Array.size h)
 (Obj.mapIter (some bm) since
 (Array.push seen e.snd.snd) c))
 l
 (mapO (dropE (TV.int IntKind.i64 n) es) c_2)))
 (Nn p fun (l : Go.Vc.Loc) ↦
 ∃ (r : Option Nat),
 at1
 (Array.setIfInBounds h_1 (Array.size h)
 (Obj.mapIter (some bm) since (Array.push seen e.snd.snd)
 c))
 l.b l.o (Value.map r) ∧
 Nn r fun (l : Nat) ↦
 ∃ (es : List (TV × TV × Nat)),
 ∃ (c_2 : Nat),
 (Array.setIfInBounds h_1 (Array.size h)
 (Obj.mapIter (some bm) since
 (Array.push seen e.snd.snd) c))[l]? =
 some (mapO es c_2) ∧
 AllLike (TypeDesc.int IntKind.i64) es ∧
 K PUnit.unit
 (Array.setIfInBounds
 (Array.setIfInBounds h_1 (Array.size h)
 (Obj.mapIter (some bm) since
 (Array.push seen e.snd.snd) c))
 l
 (mapO
 (putE (TV.int IntKind.i64 n)
 (TV.int IntKind.i64
 (IntKind.wrap IntKind.i64 (n_1 + n_2)))
 c_2 es)
 (clockE (TV.int IntKind.i64 n) c_2 es)))))

theorem peers_Peers_Tick_calls (p : Option Go.Vc.Loc) (h : Heap) (R : Value → Heap → Prop) (H : peers_Peers_Tick_vc p h R) : CallsH Try.prog 11 (TVs.vals [TV.ptr p]) h R :=
 vcFn_sound (C := ctx) ctx_ok (fn := Try.f11) Try.func11 ((by kernel_rfl : peers_Peers_Tick_vc p h R = vcFn ctx Try.f11 [TV.ptr p] h R) ▸ H)


def peers_Peers_Fail_vc (p : Option Go.Vc.Loc) (peer : Int) (points : Int) (h : Heap) (R : Value → Heap → Prop) : Prop :=
 Join
 (fun (s : PUnit) (h : Array Obj) ↦
 Join
 (fun (s : PUnit) (h : Array Obj) ↦
 Nn p fun (l : Go.Vc.Loc) ↦
 ∃ (r : Option Nat),
 at1 h l.b l.o (Value.map r) ∧
 Nn p fun (l : Go.Vc.Loc) ↦
 ∃ (r_1 : Option Nat),
 at1 h l.b l.o (Value.map r_1) ∧
 MapAt h r_1 fun (es : List (TV × TV × Nat)) (c : Nat) ↦
 AllLike (TypeDesc.int IntKind.i64) es ∧
 ∃ (n : Int),
 orE (findE (TV.int IntKind.i64 peer) es) (TV.int IntKind.i64 (0 : Int)) = TV.int IntKind.i64 n ∧
 Nn r fun (l : Nat) ↦
 ∃ (es : List (TV × TV × Nat)),
 ∃ (c : Nat),
 h[l]? = some (mapO es c) ∧
 AllLike (TypeDesc.int IntKind.i64) es ∧
 R (TV.val (TV.tup []))
 (Array.setIfInBounds h l
 (mapO
 (putE (TV.int IntKind.i64 peer)
 (TV.int IntKind.i64 (mx (IntKind.wrap IntKind.i64 (n - mn points (1048576 : Int))) (-1048576 : Int))) c es)
 (clockE (TV.int IntKind.i64 peer) c es))))
 fun (J : PUnit → Array Obj → Prop) ↦
 Nn p fun (l : Go.Vc.Loc) ↦
 ∃ (r : Option Nat),
 at1 h l.b l.o (Value.map r) ∧
 MapAt h r fun (es : List (TV × TV × Nat)) (c : Nat) ↦
 AllLike (TypeDesc.int IntKind.i64) es ∧
 ∃ (n : Int),
 orE (findE (TV.int IntKind.i64 peer) es) (TV.int IntKind.i64 (0 : Int)) = TV.int IntKind.i64 n ∧
 Join
 (fun (s : Bool) (h : Array Obj) ↦
 If s
 (Nn p fun (l : Go.Vc.Loc) ↦
 ∃ (r : Option Nat),
 at1 h l.b l.o (Value.map r) ∧
 CallsH Try.prog (25 : Nat) (TVs.vals [TV.ptr p]) h fun (v : Value) (h_1 : Array Obj) ↦
 ∃ (n : Int),
 v = TV.val (TV.int IntKind.i64 n) ∧
 Ext h h_1 ∧
 Nn r fun (l : Nat) ↦
 ∃ (es : List (TV × TV × Nat)),
 ∃ (c : Nat),
 h_1[l]? = some (mapO es c) ∧
 AllLike (TypeDesc.int IntKind.i64) es ∧
 Nn p fun (l_1 : Go.Vc.Loc) ↦
 ∃ (n_1 : Int),
 at1 (Array.setIfInBounds h_1 l (mapO (dropE (TV.int IntKind.i64 n) es) c)) l_1.b (l_1.o + (4 : Nat))
 (Value.int IntKind.i64 n_1) ∧
 Nn p fun (l_2 : Go.Vc.Loc) ↦
 wok (Array.setIfInBounds h_1 l (mapO (dropE (TV.int IntKind.i64 n) es) c)) l_2.b (l_2.o + (4 : Nat))
 (1 : Nat) ∧
 J PUnit.unit
 (TV.put (Array.setIfInBounds h_1 l (mapO (dropE (TV.int IntKind.i64 n) es) c)) l_2.b
 (l_2.o + (4 : Nat)) (TV.int IntKind.i64 (IntKind.wrap IntKind.i64 (n_1 + (1 : Int))))))
 (J PUnit.unit h))
 fun (J : Bool → Array Obj → Prop) ↦
 If (!hasE (TV.int IntKind.i64 peer) es)
 (Nn p fun (l : Go.Vc.Loc) ↦
 ∃ (r : Option Nat),
 at1 h l.b l.o (Value.map r) ∧
 MapAt h r fun (es : List (TV × TV × Nat)) (c : Nat) ↦
 Nn p fun (l : Go.Vc.Loc) ↦
 ∃ (n : Int), at1 h l.b (l.o + (1 : Nat)) (Value.int IntKind.i64 n) ∧ J (decide (n ≤ (↑(List.length es) : Int))) h)
 (J false h))
 fun (J : PUnit → Array Obj → Prop) ↦
 If (Option.isNone p) (R (TV.val (TV.tup [])) h) (If (decide (points ≤ (0 : Int))) (R (TV.val (TV.tup [])) h) (J PUnit.unit h))

theorem peers_Peers_Fail_calls (p : Option Go.Vc.Loc) (peer : Int) (points : Int) (h : Heap) (R : Value → Heap → Prop) (H : peers_Peers_Fail_vc p peer points h R) : CallsH Try.prog 12 (TVs.vals [TV.ptr p, TV.int IntKind.i64 peer, TV.int IntKind.i64 points]) h R :=
 vcFn_sound (C := ctx) ctx_ok (fn := Try.f12) Try.func12 ((by kernel_rfl : peers_Peers_Fail_vc p peer points h R = vcFn ctx Try.f12 [TV.ptr p, TV.int IntKind.i64 peer, TV.int IntKind.i64 points] h R) ▸ H)


def peers_Peers_Known_vc (p : Option Go.Vc.Loc) (h : Heap) (R : Value → Heap → Prop) : Prop :=
 If (Option.isNone p) (R (TV.val (TV.slice Sl.nil)) h)
 (Nn p fun (l : Go.Vc.Loc) ↦
 ∃ (r : Option Nat),
 at1 h l.b l.o (Value.map r) ∧
 CallsH Try.prog (27 : Nat) (TVs.vals [TV.map r]) h fun (v : Value) (h : Heap) ↦
 ∃ (v_1 : Vc.One),
 v = TV.val (TV.one v_1) ∧
 CallsH Try.prog (26 : Nat) (TVs.vals [TV.one v_1]) h fun (v : Value) (h : Heap) ↦ ∃ (s : Sl), v = TV.val (TV.slice s) ∧ R (TV.val (TV.slice s)) h)

theorem peers_Peers_Known_calls (p : Option Go.Vc.Loc) (h : Heap) (R : Value → Heap → Prop) (H : peers_Peers_Known_vc p h R) : CallsH Try.prog 13 (TVs.vals [TV.ptr p]) h R :=
 vcFn_sound (C := ctx) ctx_ok (fn := Try.f13) Try.func13 ((by kernel_rfl : peers_Peers_Known_vc p h R = vcFn ctx Try.f13 [TV.ptr p] h R) ▸ H)


def peers_Peers_Score_vc (p : Option Go.Vc.Loc) (peer : Int) (h : Heap) (R : Value → Heap → Prop) : Prop :=
 If (Option.isNone p) (R (TV.val (TV.int IntKind.i64 (0 : Int))) h)
 (Nn p fun (l : Go.Vc.Loc) ↦
 ∃ (r : Option Nat),
 at1 h l.b l.o (Value.map r) ∧
 MapAt h r fun (es : List (TV × TV × Nat)) (c : Nat) ↦
 AllLike (TypeDesc.int IntKind.i64) es ∧
 ∃ (n : Int), orE (findE (TV.int IntKind.i64 peer) es) (TV.int IntKind.i64 (0 : Int)) = TV.int IntKind.i64 n ∧ R (TV.val (TV.int IntKind.i64 n)) h)

theorem peers_Peers_Score_calls (p : Option Go.Vc.Loc) (peer : Int) (h : Heap) (R : Value → Heap → Prop) (H : peers_Peers_Score_vc p peer h R) : CallsH Try.prog 14 (TVs.vals [TV.ptr p, TV.int IntKind.i64 peer]) h R :=
 vcFn_sound (C := ctx) ctx_ok (fn := Try.f14) Try.func14 ((by kernel_rfl : peers_Peers_Score_vc p peer h R = vcFn ctx Try.f14 [TV.ptr p, TV.int IntKind.i64 peer] h R) ▸ H)


def peers_Peers_Banned_vc (p : Option Go.Vc.Loc) (peer : Int) (h : Heap) (R : Value → Heap → Prop) : Prop :=
 If (!Option.isNone p)
 (Nn p fun (l : Go.Vc.Loc) ↦
 ∃ (n : Int),
 at1 h l.b (l.o + (2 : Nat)) (Value.int IntKind.i64 n) ∧
 CallsH Try.prog (14 : Nat) (TVs.vals [TV.ptr p, TV.int IntKind.i64 peer]) h fun (v : Value) (h_1 : Heap) ↦
 ∃ (n_1 : Int), v = TV.val (TV.int IntKind.i64 n_1) ∧ Ext h h_1 ∧ R (TV.val (TV.bool (decide (n_1 ≤ IntKind.wrap IntKind.i64 ((0 : Int) - n))))) h_1)
 (R (TV.val (TV.bool false)) h)

theorem peers_Peers_Banned_calls (p : Option Go.Vc.Loc) (peer : Int) (h : Heap) (R : Value → Heap → Prop) (H : peers_Peers_Banned_vc p peer h R) : CallsH Try.prog 15 (TVs.vals [TV.ptr p, TV.int IntKind.i64 peer]) h R :=
 vcFn_sound (C := ctx) ctx_ok (fn := Try.f15) Try.func15 ((by kernel_rfl : peers_Peers_Banned_vc p peer h R = vcFn ctx Try.f15 [TV.ptr p, TV.int IntKind.i64 peer] h R) ▸ H)


def peers_Peers_Gone_vc (p : Option Go.Vc.Loc) (h : Heap) (R : Value → Heap → Prop) : Prop :=
 If (Option.isNone p) (R (TV.val (TV.int IntKind.i64 (0 : Int))) h)
 (Nn p fun (l : Go.Vc.Loc) ↦ ∃ (n : Int), at1 h l.b (l.o + (4 : Nat)) (Value.int IntKind.i64 n) ∧ R (TV.val (TV.int IntKind.i64 n)) h)

theorem peers_Peers_Gone_calls (p : Option Go.Vc.Loc) (h : Heap) (R : Value → Heap → Prop) (H : peers_Peers_Gone_vc p h R) : CallsH Try.prog 16 (TVs.vals [TV.ptr p]) h R :=
 vcFn_sound (C := ctx) ctx_ok (fn := Try.f16) Try.func16 ((by kernel_rfl : peers_Peers_Gone_vc p h R = vcFn ctx Try.f16 [TV.ptr p] h R) ▸ H)


def peers_New_1_vc (n : Int) (top : Int) (h : Heap) (R : Value → Heap → Prop) : Prop :=
 If (decide ((1 : Int) ≤ n)) (R (TV.val (TV.bool (decide (n ≤ top)))) h) (R (TV.val (TV.bool false)) h)

theorem peers_New_1_calls (n : Int) (top : Int) (h : Heap) (R : Value → Heap → Prop) (H : peers_New_1_vc n top h R) : CallsH Try.prog 24 (TVs.vals [TV.int IntKind.i64 n, TV.int IntKind.i64 top]) h R :=
 vcFn_sound (C := ctx) ctx_ok (fn := Try.f24) Try.func24 ((by kernel_rfl : peers_New_1_vc n top h R = vcFn ctx Try.f24 [TV.int IntKind.i64 n, TV.int IntKind.i64 top] h R) ▸ H)


def peers_Peers_worst_vc (p : Option Go.Vc.Loc) (h : Heap) (R : Value → Heap → Prop) : Prop :=
 CallsH Try.prog (13 : Nat) (TVs.vals [TV.ptr p]) h fun (v : Value) (h : Heap) ↦
 ∃ (s : Sl),
 v = TV.val (TV.slice s) ∧
 (0 : Int) ≤ (0 : Int) ∧
 (0 : Int) < (↑s.len : Int) ∧
 Nn s.a fun (l : Go.Vc.Loc) ↦
 ∃ (n : Int),
 at1 h l.b (l.o + Int.toNat (0 : Int) * (1 : Nat)) (Value.int IntKind.i64 n) ∧
 Go.Vc.Loop (n, (0 : Int)) h fun (s_1 : Int × Int) (h : Array Obj) (K : Int × Int → Array Obj → Prop) ↦
 If (decide (s_1.snd < (↑s.len : Int)))
 ((0 : Int) ≤ s_1.snd ∧
 s_1.snd < (↑s.len : Int) ∧
 Nn s.a fun (l : Go.Vc.Loc) ↦
 ∃ (n_1 : Int),
 at1 h l.b (l.o + Int.toNat s_1.snd * (1 : Nat)) (Value.int IntKind.i64 n_1) ∧
 Nn p fun (l : Go.Vc.Loc) ↦
 ∃ (r : Option Nat),
 at1 h l.b l.o (Value.map r) ∧
 MapAt h r fun (es : List (TV × TV × Nat)) (c : Nat) ↦
 AllLike (TypeDesc.int IntKind.i64) es ∧
 ∃ (n_2 : Int),
 orE (findE (TV.int IntKind.i64 n_1) es) (TV.int IntKind.i64 (0 : Int)) = TV.int IntKind.i64 n_2 ∧
 Nn p fun (l : Go.Vc.Loc) ↦
 ∃ (r : Option Nat),
 at1 h l.b l.o (Value.map r) ∧
 MapAt h r fun (es : List (TV × TV × Nat)) (c : Nat) ↦
 AllLike (TypeDesc.int IntKind.i64) es ∧
 ∃ (n_3 : Int),
 orE (findE (TV.int IntKind.i64 s_1.fst) es) (TV.int IntKind.i64 (0 : Int)) = TV.int IntKind.i64 n_3 ∧
 If (decide (n_2 < n_3)) (K (n_1, IntKind.wrap IntKind.i64 (s_1.snd + (1 : Int))) h)
 (K (s_1.fst, IntKind.wrap IntKind.i64 (s_1.snd + (1 : Int))) h))
 (R (TV.val (TV.int IntKind.i64 s_1.fst)) h)

theorem peers_Peers_worst_calls (p : Option Go.Vc.Loc) (h : Heap) (R : Value → Heap → Prop) (H : peers_Peers_worst_vc p h R) : CallsH Try.prog 25 (TVs.vals [TV.ptr p]) h R :=
 vcFn_sound (C := ctx) ctx_ok (fn := Try.f25) Try.func25 ((by kernel_rfl : peers_Peers_worst_vc p h R = vcFn ctx Try.f25 [TV.ptr p] h R) ▸ H)


end Go.Proofs.Ythkaabfoeealaaa

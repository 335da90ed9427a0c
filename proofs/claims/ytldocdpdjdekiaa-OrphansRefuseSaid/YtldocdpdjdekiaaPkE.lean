/- Texts that the proof needs, joined: VsLawF, LawF, LawP0, LawG0, LawR, LawR1, VsLawX, LawX, VsLawO, LawO, LawY, VcB2, FrameO. -/
import Derived.Deep.Strs
import Derived.Test.YtldocdpdjdekiaaPkD

section
/- The conditions of functions, as the generator reckons them out, each with the proof that it is that. -/
namespace Go.Proofs.Ytldocdpdjdekiaa
open Go Go.Vc
set_option maxRecDepth 100000
set_option linter.unusedVariables false

def tollerlaw17_Call_text_vc (c_Kind : Int) (c_Peer : Int) (c_Text : List UInt8) (c_N : Int) (c_Slot : Int) (c_Who : Int) (h : Heap) (R : Value → Heap → Prop) : Prop :=
 Vc.Bind
 (newTV h
 (TV.agg [TV.int IntKind.i64 c_Kind, TV.int IntKind.i64 c_Peer, TV.str c_Text, TV.int IntKind.i64 c_N, TV.int IntKind.i64 c_Slot, TV.int IntKind.i64 c_Who])
 (47 : Nat))
 fun (h_1 : Array Obj) ↦
 Join
 (fun (s : Int × Int × Bs (32 : Nat) × Int × Option Go.Vc.Loc) (h_2 : Array Obj) ↦
 ∃ (n : Int),
 at1 h_2 (Array.size h) (0 : Nat) (Value.int IntKind.i64 n) ∧
 If (decide (n = (2 : Int)))
 (Nn s.snd.snd.snd.snd fun (l : Go.Vc.Loc) ↦
 ∃ (n : Int),
 ∃ (n_1 : Int),
 ∃ (b : Bs (32 : Nat)),
 ∃ (n_2 : Int),
 ∃ (n_3 : Int),
 ∃ (s_1 : Sl),
 ∃ (b_1 : Bs (16 : Nat)),
 (at1 h_2 l.b l.o (Value.int IntKind.i64 n) ∧
 at1 h_2 l.b (l.o + (1 : Nat)) (Value.int IntKind.i64 n_1) ∧
 atBytes h_2 l.b (l.o + (1 : Nat) + (1 : Nat)) (32 : Nat) b ∧
 at1 h_2 l.b (l.o + (1 : Nat) + (1 : Nat) + (32 : Nat)) (Value.int IntKind.i64 n_2) ∧
 at1 h_2 l.b (l.o + (1 : Nat) + (1 : Nat) + (32 : Nat) + (1 : Nat)) (Value.int IntKind.u64 n_3) ∧
 at1 h_2 l.b (l.o + (1 : Nat) + (1 : Nat) + (32 : Nat) + (1 : Nat) + (1 : Nat)) (slVal s_1) ∧
 atBytes h_2 l.b (l.o + (1 : Nat) + (1 : Nat) + (32 : Nat) + (1 : Nat) + (1 : Nat) + (1 : Nat)) (16 : Nat) b_1) ∧
 CallsH Try.prog (57 : Nat)
 (TVs.vals
 [TV.agg
 [TV.int IntKind.i64 n, TV.int IntKind.i64 n_1, TV.bytes (32 : Nat) b, TV.int IntKind.i64 n_2, TV.int IntKind.u64 n_3,
 TV.slice s_1, TV.bytes (16 : Nat) b_1]])
 h_2 fun (v : Value) (h_3 : Array Obj) ↦
 ∃ (b : Bool),
 v = TV.val (TV.bool b) ∧
 If b
 (Nn s.snd.snd.snd.snd fun (l : Go.Vc.Loc) ↦
 ∃ (n : Int),
 ∃ (n_4 : Int),
 ∃ (b : Bs (32 : Nat)),
 ∃ (n_5 : Int),
 ∃ (n_6 : Int),
 ∃ (s : Sl),
 ∃ (b_2 : Bs (16 : Nat)),
 (at1 h_3 l.b l.o (Value.int IntKind.i64 n) ∧
 at1 h_3 l.b (l.o + (1 : Nat)) (Value.int IntKind.i64 n_4) ∧
 atBytes h_3 l.b (l.o + (1 : Nat) + (1 : Nat)) (32 : Nat) b ∧
 at1 h_3 l.b (l.o + (1 : Nat) + (1 : Nat) + (32 : Nat)) (Value.int IntKind.i64 n_5) ∧
 at1 h_3 l.b (l.o + (1 : Nat) + (1 : Nat) + (32 : Nat) + (1 : Nat)) (Value.int IntKind.u64 n_6) ∧
 at1 h_3 l.b (l.o + (1 : Nat) + (1 : Nat) + (32 : Nat) + (1 : Nat) + (1 : Nat)) (slVal s) ∧
 atBytes h_3 l.b
 (l.o + (1 : Nat) + (1 : Nat) + (32 : Nat) + (1 : Nat) + (1 : Nat) + (1 : Nat)) (16 : Nat)
 b_2) ∧
 CallsH Try.prog (58 : Nat)
 (TVs.vals
 [TV.agg
 [TV.int IntKind.i64 n, TV.int IntKind.i64 n_4, TV.bytes (32 : Nat) b, TV.int IntKind.i64 n_5,
 TV.int IntKind.u64 n_6, TV.slice s, TV.bytes (16 : Nat) b_2]])
 h_3 fun (v : Value) (h : Array Obj) ↦
 ∃ (s : List UInt8), v = TV.val (TV.str s) ∧ R (TV.val (TV.str s)) h)
 (∃ (s : List UInt8),
 at1 h_3 (Array.size h) (2 : Nat) (Value.string (ByteArray.mk (List.toArray s))) ∧ R (TV.val (TV.str s)) h_3))
 (∃ (s : List UInt8), at1 h_2 (Array.size h) (2 : Nat) (Value.string (ByteArray.mk (List.toArray s))) ∧ R (TV.val (TV.str s)) h_2))
 fun (J : Int × Int × Bs (32 : Nat) × Int × Option Go.Vc.Loc → Array Obj → Prop) ↦
 ∃ (n : Int),
 at1 h_1 (Array.size h) (4 : Nat) (Value.int IntKind.i64 n) ∧
 ∃ (n_1 : Int),
 at1 h_1 (Array.size h) (3 : Nat) (Value.int IntKind.i64 n_1) ∧
 ∃ (n_2 : Int),
 at1 h_1 (Array.size h) (5 : Nat) (Value.int IntKind.i64 n_2) ∧
 (CallsH Try.prog (56 : Nat) (TVs.vals [TV.int IntKind.i64 n_1]) h_1 fun (v : Value) (h : Array Obj) ↦
 ∃ (b : Bs (32 : Nat)),
 v = TV.val (TV.bytes (32 : Nat) b) ∧
 Ext h_1 h ∧
 Vc.Bind
 (newTV h
 (TV.agg
 [TV.int IntKind.i64 (0 : Int), TV.int IntKind.i64 (0 : Int), TV.bytes (32 : Nat) (Bs.zero (32 : Nat)),
 TV.int IntKind.i64 (0 : Int), TV.int IntKind.u64 (0 : Int), TV.slice Sl.nil, TV.bytes (16 : Nat) (Bs.zero (16 : Nat))])
 (63 : Nat))
 fun (h_2 : Array Obj) ↦
 Ext h h_2 ∧
 wok h_2 (Array.size h) (0 : Nat) (53 : Nat) ∧
 Vc.Bind
 (TV.put h_2 (Array.size h) (0 : Nat)
 (TV.agg
 [TV.int IntKind.i64 (2 : Int), TV.int IntKind.i64 n, TV.bytes (32 : Nat) b, TV.int IntKind.i64 n_2,
 TV.int IntKind.u64 (0 : Int), TV.slice Sl.nil, TV.bytes (16 : Nat) (Bs.zero (16 : Nat))]))
 fun (h_3 : Array Obj) ↦ J (n, n_1, b, n_2, some (Loc.mk (Array.size h) (0 : Nat))) h_3) ∧
 Vc.Bind
 (newTV h_1
 (TV.agg
 [TV.int IntKind.i64 (0 : Int), TV.int IntKind.i64 (0 : Int), TV.bytes (32 : Nat) (Bs.zero (32 : Nat)), TV.int IntKind.i64 (0 : Int),
 TV.int IntKind.u64 (0 : Int), TV.slice Sl.nil, TV.bytes (16 : Nat) (Bs.zero (16 : Nat))])
 (63 : Nat))
 fun (h : Array Obj) ↦
 Ext h_1 h ∧
 CallsH Try.prog (56 : Nat) (TVs.vals [TV.int IntKind.i64 n_1]) h fun (v : Value) (h_2 : Array Obj) ↦
 ∃ (b : Bs (32 : Nat)),
 v = TV.val (TV.bytes (32 : Nat) b) ∧
 Ext h h_2 ∧
 wok h_2 (Array.size h_1) (0 : Nat) (53 : Nat) ∧
 Vc.Bind
 (TV.put h_2 (Array.size h_1) (0 : Nat)
 (TV.agg
 [TV.int IntKind.i64 (2 : Int), TV.int IntKind.i64 n, TV.bytes (32 : Nat) b, TV.int IntKind.i64 n_2,
 TV.int IntKind.u64 (0 : Int), TV.slice Sl.nil, TV.bytes (16 : Nat) (Bs.zero (16 : Nat))]))
 fun (h : Array Obj) ↦ J (n, n_1, b, n_2, some (Loc.mk (Array.size h_1) (0 : Nat))) h

theorem tollerlaw17_Call_text_calls (c_Kind : Int) (c_Peer : Int) (c_Text : List UInt8) (c_N : Int) (c_Slot : Int) (c_Who : Int) (h : Heap) (R : Value → Heap → Prop) (H : tollerlaw17_Call_text_vc c_Kind c_Peer c_Text c_N c_Slot c_Who h R) : CallsH Try.prog 24 (TVs.vals [TV.agg [TV.int IntKind.i64 c_Kind, TV.int IntKind.i64 c_Peer, TV.str c_Text, TV.int IntKind.i64 c_N, TV.int IntKind.i64 c_Slot, TV.int IntKind.i64 c_Who]]) h R :=
 vcFn_sound (C := ctx) ctx_ok (fn := Try.f24) Try.func24 ((by kernel_rfl : tollerlaw17_Call_text_vc c_Kind c_Peer c_Text c_N c_Slot c_Who h R = vcFn ctx Try.f24 [TV.agg [TV.int IntKind.i64 c_Kind, TV.int IntKind.i64 c_Peer, TV.str c_Text, TV.int IntKind.i64 c_N, TV.int IntKind.i64 c_Slot, TV.int IntKind.i64 c_Who]] h R) ▸ H)


def tollerlaw17_great_vc (script : Sl) (h : Heap) (R : Value → Heap → Prop) : Prop :=
 If (decide ((80 : Int) < (↑script.len : Int))) (R (TV.val (TV.bool true)) h)
 (Go.Vc.Loop (false, (0 : Int)) h fun (s : Bool × Int) (h : Array Obj) (K : Bool × Int → Array Obj → Prop) ↦
 If (decide (s.snd < (↑script.len : Int)))
 ((0 : Int) ≤ s.snd ∧
 s.snd < (↑script.len : Int) ∧
 Nn script.a fun (l : Go.Vc.Loc) ↦
 ∃ (n : Int),
 ∃ (n_1 : Int),
 ∃ (s_1 : List UInt8),
 ∃ (n_2 : Int),
 ∃ (n_3 : Int),
 ∃ (n_4 : Int),
 (at1 h l.b (l.o + Int.toNat s.snd * (6 : Nat)) (Value.int IntKind.i64 n) ∧
 at1 h l.b (l.o + Int.toNat s.snd * (6 : Nat) + (1 : Nat)) (Value.int IntKind.i64 n_1) ∧
 at1 h l.b (l.o + Int.toNat s.snd * (6 : Nat) + (1 : Nat) + (1 : Nat)) (Value.string (ByteArray.mk (List.toArray s_1))) ∧
 at1 h l.b (l.o + Int.toNat s.snd * (6 : Nat) + (1 : Nat) + (1 : Nat) + (1 : Nat)) (Value.int IntKind.i64 n_2) ∧
 at1 h l.b (l.o + Int.toNat s.snd * (6 : Nat) + (1 : Nat) + (1 : Nat) + (1 : Nat) + (1 : Nat)) (Value.int IntKind.i64 n_3) ∧
 at1 h l.b (l.o + Int.toNat s.snd * (6 : Nat) + (1 : Nat) + (1 : Nat) + (1 : Nat) + (1 : Nat) + (1 : Nat))
 (Value.int IntKind.i64 n_4)) ∧
 Vc.Bind
 (newTV h
 (TV.agg
 [TV.int IntKind.i64 (0 : Int), TV.int IntKind.i64 (0 : Int), TV.str [], TV.int IntKind.i64 (0 : Int),
 TV.int IntKind.i64 (0 : Int), TV.int IntKind.i64 (0 : Int)])
 (47 : Nat))
 fun (h_1 : Array Obj) ↦
 wok h_1 (Array.size h) (0 : Nat) (6 : Nat) ∧
 Vc.Bind
 (TV.put h_1 (Array.size h) (0 : Nat)
 (TV.agg
 [TV.int IntKind.i64 n, TV.int IntKind.i64 n_1, TV.str s_1, TV.int IntKind.i64 n_2, TV.int IntKind.i64 n_3,
 TV.int IntKind.i64 n_4]))
 fun (h_2 : Array Obj) ↦
 ∃ (s_2 : List UInt8),
 at1 h_2 (Array.size h) (2 : Nat) (Value.string (ByteArray.mk (List.toArray s_2))) ∧
 If (decide ((300 : Int) < (↑(List.length s_2) : Int))) (R (TV.val (TV.bool true)) h_2)
 (K (s.fst, IntKind.wrap IntKind.i64 (s.snd + (1 : Int))) h_2))
 (R (TV.val (TV.bool false)) h))

theorem tollerlaw17_great_calls (script : Sl) (h : Heap) (R : Value → Heap → Prop) (H : tollerlaw17_great_vc script h R) : CallsH Try.prog 21 (TVs.vals [TV.slice script]) h R :=
 vcFn_sound (C := ctx) ctx_ok (fn := Try.f21) Try.func21 ((by kernel_rfl : tollerlaw17_great_vc script h R = vcFn ctx Try.f21 [TV.slice script] h R) ▸ H)


def tollerlaw17_alive_vc (h : Heap) (R : Value → Heap → Prop) : Prop :=
 CallsH Try.prog (22 : Nat) (TVs.vals [TV.int IntKind.i64 (2 : Int), TV.int IntKind.i64 (2 : Int)]) h fun (v : Value) (h : Heap) ↦
 ∃ (p : Option Go.Vc.Loc),
 v = TV.val (TV.ptr p) ∧
 CallsH Try.prog (24 : Nat)
 (TVs.vals
 [TV.agg
 [TV.int IntKind.i64 (2 : Int), TV.int IntKind.i64 (0 : Int), TV.str [], TV.int IntKind.i64 (0 : Int), TV.int IntKind.i64 (5 : Int),
 TV.int IntKind.i64 (0 : Int)]])
 h fun (v : Value) (h : Heap) ↦
 ∃ (s : List UInt8),
 v = TV.val (TV.str s) ∧
 CallsH Try.prog (23 : Nat) (TVs.vals [TV.ptr p, TV.int IntKind.i64 (1 : Int), TV.str s]) h fun (v : Value) (h : Heap) ↦
 ∃ (n : Int),
 ∃ (b : Bs (32 : Nat)),
 v = TV.val (TV.tup [TV.int IntKind.i64 n, TV.bytes (32 : Nat) b]) ∧
 Vc.Bind (newTV h (TV.bytes (32 : Nat) (Bs.zero (32 : Nat))) (50 : Nat)) fun (h_1 : Array Obj) ↦
 wok h_1 (Array.size h) (0 : Nat) (32 : Nat) ∧
 Vc.Bind (TV.put h_1 (Array.size h) (0 : Nat) (TV.bytes (32 : Nat) b)) fun (h : Array Obj) ↦
 CallsH Try.prog (23 : Nat) (TVs.vals [TV.ptr p, TV.int IntKind.i64 (1 : Int), TV.str (ByteArray.mk #[(120 : UInt8)]).data.toList]) h
 fun (v : Value) (h : Array Obj) ↦
 ∃ (n_1 : Int),
 ∃ (b : Bs (32 : Nat)),
 v = TV.val (TV.tup [TV.int IntKind.i64 n_1, TV.bytes (32 : Nat) b]) ∧
 Vc.Bind (newTV h (TV.bytes (32 : Nat) (Bs.zero (32 : Nat))) (50 : Nat)) fun (h_2 : Array Obj) ↦
 wok h_2 (Array.size h) (0 : Nat) (32 : Nat) ∧
 Vc.Bind (TV.put h_2 (Array.size h) (0 : Nat) (TV.bytes (32 : Nat) b)) fun (h : Array Obj) ↦
 If (decide (n = (1 : Int)))
 (If (decide (n_1 = (5 : Int)))
 (CallsH Try.prog (25 : Nat) (TVs.vals [TV.ptr p, TV.int IntKind.i64 (5 : Int)]) h fun (v : Value) (h : Array Obj) ↦
 ∃ (s : Sl),
 v = TV.val (TV.slice s) ∧
 If (decide ((↑s.len : Int) = (0 : Int)))
 (CallsH Try.prog (25 : Nat) (TVs.vals [TV.ptr p, TV.int IntKind.i64 (6 : Int)]) h
 fun (v : Value) (h : Array Obj) ↦
 ∃ (s : Sl),
 v = TV.val (TV.slice s) ∧
 If (decide ((↑s.len : Int) = (1 : Int)))
 (CallsH Try.prog (27 : Nat) (TVs.vals [TV.ptr p]) h fun (v : Value) (h : Array Obj) ↦
 ∃ (n : Int), v = TV.val (TV.int IntKind.i64 n) ∧ R (TV.val (TV.bool (decide (n = (0 : Int))))) h)
 (R (TV.val (TV.bool false)) h))
 (R (TV.val (TV.bool false)) h))
 (R (TV.val (TV.bool false)) h))
 (R (TV.val (TV.bool false)) h)

theorem tollerlaw17_alive_calls (h : Heap) (R : Value → Heap → Prop) (H : tollerlaw17_alive_vc h R) : CallsH Try.prog 20 (TVs.vals []) h R :=
 vcFn_sound (C := ctx) ctx_ok (fn := Try.f20) Try.func20 ((by kernel_rfl : tollerlaw17_alive_vc h R = vcFn ctx Try.f20 [] h R) ▸ H)


end Go.Proofs.Ytldocdpdjdekiaa
end

section
/- A call of the marks' laws as bytes; that something is done at all; EarlyDoes. -/
namespace Go.Proofs.Ytldocdpdjdekiaa.Pool
open Go Go.Vc
open Board (Dm Ms decF nameF zeroM ms_at put_n mssz mssz1 docgood_spec docbytes_spec BodyOk bsz bools take_snoc bytesF bytesF_len msame_spec goodF)

/-- A call of the laws. -/
structure Ec where
  kind : Int
  peer : Int
  text : List UInt8
  n : Int
  slot : Int
  who : Int
def Ec.tv (c : Ec) : TV := .agg [.int .i64 c.kind, .int .i64 c.peer, .str c.text, .int .i64 c.n, .int .i64 c.slot, .int .i64 c.who]
instance : Inhabited Ec := ⟨⟨0, 0, [], 0, 0, 0⟩⟩
def Ec.zero : Ec := default
def Ec.ms (c : Ec) : Ms := ⟨2, c.slot, name c.n, c.who, 0, Sl.nil, Bs.zero 16⟩
def Ec.bytes (c : Ec) : List UInt8 := if c.kind = 2 ∧ goodF c.ms [] = true then bytesF c.ms [] else c.text
abbrev ecs (l : List Ec) : List TV := l.map Ec.tv
theorem Ec.size (c : Ec) : c.tv.size = 6 := rfl

theorem Ec.bytes_len {c : Ec} (h : c.text.length ≤ 300) : c.bytes.length < 1000 := by
  unfold Ec.bytes
  split
  · have := bytesF_len c.ms []
    simp only [List.length_nil] at this
    omega
  · omega

def wantE (k : Int) : Bool := !decide (k = 1)

section
variable {R : Value → Heap → Prop} {h h0 : Heap} {o b m : Nat} {A B : Sl} {S M : List It} {most quota : Int}

theorem ec_at {s : Sl} {l : List Ec} {i : Int} (e : Elems 6 h s (ecs l)) (i0 : 0 ≤ i) (i1 : i < l.length) {K : Vc.Loc → Int → Int → List UInt8 → Int → Int → Int → Prop}
    (hk : ∀ p x, s.a = some p → l[i.toNat]? = some x → K p x.kind x.peer x.text x.n x.slot x.who) :
    0 ≤ i ∧ i < (s.len : Int) ∧ Nn s.a fun (p : Vc.Loc) => ∃ (n : Int), ∃ (n_1 : Int), ∃ (t : List UInt8), ∃ (n_2 : Int), ∃ (n_3 : Int), ∃ (n_4 : Int), (at1 h p.b (p.o + i.toNat * 6) (.int .i64 n) ∧ at1 h p.b (p.o + i.toNat * 6 + 1) (.int .i64 n_1) ∧ at1 h p.b (p.o + i.toNat * 6 + 1 + 1) (.string (ByteArray.mk (List.toArray t))) ∧ at1 h p.b (p.o + i.toNat * 6 + 1 + 1 + 1) (.int .i64 n_2) ∧ at1 h p.b (p.o + i.toNat * 6 + 1 + 1 + 1 + 1) (.int .i64 n_3) ∧ at1 h p.b (p.o + i.toNat * 6 + 1 + 1 + 1 + 1 + 1) (.int .i64 n_4)) ∧ K p n n_1 t n_2 n_3 n_4 := by
  have hl := e.len
  rw [List.length_map] at hl
  refine e.read i0 (by omega) fun p t hla ht ha => ?_
  rw [List.getElem?_map] at ht
  obtain ⟨x, hx, rfl⟩ := Option.map_eq_some_iff.1 ht
  exact ⟨_, _, _, _, _, _, ha, hk p x hla hx⟩

theorem v_ec {T : TypeId} {b : Nat} {c : Ec} (v : Var T h b c.tv) {K : Int → Int → List UInt8 → Int → Int → Int → Prop} (hk : K c.kind c.peer c.text c.n c.slot c.who) :
    ∃ (n : Int), ∃ (n_1 : Int), ∃ (t : List UInt8), ∃ (n_2 : Int), ∃ (n_3 : Int), ∃ (n_4 : Int), (at1 h b 0 (.int .i64 n) ∧ at1 h b 1 (.int .i64 n_1) ∧ at1 h b 2 (.string (ByteArray.mk (List.toArray t))) ∧ at1 h b 3 (.int .i64 n_2) ∧ at1 h b 4 (.int .i64 n_3) ∧ at1 h b 5 (.int .i64 n_4)) ∧ K n n_1 t n_2 n_3 n_4 :=
  ⟨_, _, _, _, _, _, v.at, hk⟩

theorem etext_spec {c : Ec} (hr : ∀ h', Ext h h' → R (TV.str c.bytes).val h') : CallsH Try.prog 24 (TVs.vals [c.tv]) h R := by
  apply tollerlaw17_Call_text_calls c.kind c.peer c.text c.n c.slot c.who
  unfold tollerlaw17_Call_text_vc
  refine newTV_in fun h1 v1 x1 s1 => ?_
  have v1 : Var 47 h1 h.size c.tv := v1
  intro J HJ
  have fin : ∀ (hh : Heap) (q : Nat) (a : Int × Int × Bs 32 × Int × Option Vc.Loc), a.2.2.2.2 = some ⟨q, 0⟩ → Ext h1 hh → Var 63 hh q c.ms.tv → J a hh := by
    intro hh q a ha xh vq
    refine HJ a hh ?_
    dsimp only
    rw [ha]
    have x0 := x1.trans xh
    have vh := v1.ext xh
    refine ⟨c.kind, vh.at1 rfl, If.dec.2 ⟨fun k3 => ?_, fun k3 => ?_⟩⟩
    · refine ms_at vq (docgood_spec (m := c.ms) (row := []) (Elems.nil_ 1 hh) (by decide) fun h2 x2 => ⟨_, rfl, ?_⟩)
      cases hg : goodF c.ms [] with
      | true =>
        refine If.yes (ms_at (vq.ext x2) (docbytes_spec (m := c.ms) (row := []) (Elems.nil_ 1 h2) (by decide) (.inr (.inl rfl)) (show (0 : Int) ≤ 0 ∧ (0 : Int) < 18446744073709551616 by decide) fun h3 x3 => ⟨_, rfl, ?_⟩))
        have hb : c.bytes = bytesF c.ms [] := if_pos ⟨k3, hg⟩
        rw [← hb]
        exact hr h3 ((x0.trans x2).trans x3)
      | false =>
        refine If.no ⟨_, (vh.ext x2).at1 rfl, ?_⟩
        have hb : c.bytes = c.text := if_neg (by rw [hg]; rintro ⟨_, h⟩; cases h)
        rw [← hb]
        exact hr h2 (x0.trans x2)
    · refine ⟨_, vh.at1 rfl, ?_⟩
      have hb : c.bytes = c.text := if_neg (fun h => k3 h.1)
      rw [← hb]
      exact hr hh x0
  clear HJ
  refine ⟨_, v1.at1 rfl, _, v1.at1 rfl, _, v1.at1 rfl, ⟨name_spec fun h2 x2 => ⟨_, rfl, x2, newTV_in fun h3 v3 x3 s3 => ⟨x3, put_n (t0 := zeroM.tv) v3 (t := c.ms.tv) mssz1 mssz fun h4 v4 f4 s4 => ?_⟩⟩, newTV_in fun h2 v2 x2 s2 => ⟨x2, name_spec fun h3 x3 => ⟨_, rfl, x3, put_n (t0 := zeroM.tv) (v2.ext x3) (t := c.ms.tv) mssz1 mssz fun h4 v4 f4 s4 => ?_⟩⟩⟩⟩
  · exact fin h4 _ _ rfl (x2.trans (Only.cut x3 f4 fun i hi => by omega)) v4
  · exact fin h4 _ _ rfl (Only.cut (x2.trans x3) f4 fun i hi => by omega) v4

theorem egreat_spec {s : Sl} {l : List Ec} (e : Elems 6 h s (ecs l)) (hy : ∀ h', Ext h h' → R (TV.bool true).val h') (hn : ∀ h', Ext h h' → l.length ≤ 80 → (∀ c ∈ l, c.text.length ≤ 300) → R (TV.bool false).val h') : CallsH Try.prog 21 (TVs.vals [.slice s]) h R := by
  apply tollerlaw17_great_calls
  unfold tollerlaw17_great_vc
  have el := e.len
  rw [List.length_map] at el
  refine If.dec.2 ⟨fun _ => hy h (Ext.refl _), fun h80 => ?_⟩
  refine ⟨fun σ hh => 0 ≤ σ.2 ∧ σ.2 ≤ l.length ∧ Ext h hh ∧ ∀ c ∈ l.take σ.2.toNat, c.text.length ≤ 300, fun σ _ => ((l.length : Int) - σ.2).toNat, ⟨Int.le_refl 0, by first | omega | (dsimp only; omega), Ext.refl _, fun c hc => by simp at hc⟩, ?_⟩
  rintro ⟨f, i⟩ h1 ⟨i0, i1, x1, hall⟩
  dsimp only at i0 i1 hall ⊢
  refine If.dec.2 ⟨fun hi => ?_, fun hi => ?_⟩
  · refine ec_at (e.ext x1) i0 (by omega) fun p c _ hc => ?_
    refine newTV_in fun h2 v2 x2 s2 => put_n (t0 := Ec.zero.tv) v2 (t := c.tv) rfl rfl fun h3 v3 f3 s3 => ⟨c.text, v3.at1 rfl, ?_⟩
    have x3 : Ext h h3 := x1.trans (Only.cut x2 f3 fun i hi => by omega)
    refine If.dec.2 ⟨fun _ => hy h3 x3, fun h300 => ?_⟩
    rw [wrap_i64 (n := i + 1) (by omega) (by omega)]
    refine ⟨⟨by first | omega | (dsimp only; omega), by first | omega | (dsimp only; omega), x3, ?_⟩, by first | omega | (dsimp only; omega)⟩
    try dsimp only
    rw [show (i + 1).toNat = i.toNat + 1 by omega, take_snoc hc]
    intro c' hc'
    rcases List.mem_append.1 hc' with h1' | h1'
    · exact hall c' h1'
    · rw [List.mem_singleton.1 h1']; omega
  · rw [List.take_of_length_le (by omega)] at hall
    exact hn h1 x1 (by omega) hall

/-! ### That something is done -/

def e5 : Ec := ⟨2, 0, [], 0, 5, 0⟩

set_option maxRecDepth 1000000 in
theorem e5_dec : (decF e5.bytes).map (fun d => (d.kind, d.slot)) = some (2, 5) := by decide +kernel
theorem ex_dec : decF (ByteArray.mk #[(120 : UInt8)]).data.toList = none := by decide +kernel
set_option maxRecDepth 1000000 in
theorem e5_len : e5.bytes.length < 1000 := by decide +kernel

set_option maxRecDepth 100000 in
theorem ealive_spec (hr : ∀ h', Ext h h' → R (TV.bool true).val h') : CallsH Try.prog 20 (TVs.vals []) h R := by
  apply tollerlaw17_alive_calls
  unfold tollerlaw17_alive_vc
  obtain ⟨d, hd, hk, hs⟩ : ∃ d, decF e5.bytes = some d ∧ d.kind = 2 ∧ d.slot = 5 := by
    have := e5_dec
    cases hx : decF e5.bytes with
    | none => rw [hx] at this; cases this
    | some d =>
      rw [hx] at this
      have := Option.some.inj this
      injection this with h1 h2
      exact ⟨d, rfl, h1, h2⟩
  have hput : putW (fun k => !decide (k = 1)) 2 2 1 e5.bytes [] = (1, Bs.zero 32, [itemOf d 1 e5.bytes]) := by
    rw [putW_yes hd (by rw [hk]; rfl)]
    rfl
  have hput2 : putW (fun k => !decide (k = 1)) 2 2 1 (ByteArray.mk #[(120 : UInt8)]).data.toList [itemOf d 1 e5.bytes] = (5, Bs.zero 32, [itemOf d 1 e5.bytes]) := putW_none ex_dec
  have hsl : (itemOf d 1 e5.bytes).slot = 5 := hs
  refine enew_spec (fun hn => absurd (by unfold Ok64; decide) hn) fun hok h1 w1 x1 s1 => ⟨_, rfl, ?_⟩
  refine etext_spec (c := e5) fun h4 x14 => ⟨_, rfl, ?_⟩
  have w4 := w1.ext x14
  refine eput_spec w4 (by decide) (by decide) (by decide) e5_len fun h5 A5 w5 g5 => ?_
  rw [hput] at w5 ⊢
  refine ⟨_, _, rfl, newTV_in fun h6 v6 x6 s6 => put_n v6 (t := .bytes 32 (Bs.zero 32)) rfl rfl fun h7 v7 f7 s7 => ?_⟩
  have x57 : Ext h5 h7 := Only.cut x6 f7 fun i hi => by omega
  refine eput_spec (w5.ext x57) (by decide) (by decide) (by show ((1 : Nat) : Int) ≤ 2; decide) (by decide) fun h8 A8 w8 g8 => ?_
  rw [hput2] at w8 ⊢
  refine ⟨_, _, rfl, newTV_in fun h9 v9 x9 s9 => put_n v9 (t := .bytes 32 (Bs.zero 32)) rfl rfl fun h10 v10 f10 s10 => ?_⟩
  have x810 : Ext h8 h10 := Only.cut x9 f10 fun i hi => by omega
  have lowA : ∀ i, Mine h.size Sl.nil i → i = h.size := fun i hi => hi.elim id fun ⟨l, hl, _⟩ => by cases hl
  have one : One1 103 (fun k => !decide (k = 1)) h h1 (h.size + 1) h.size Sl.nil [] 2 2 := ⟨w1, ⟨by omega, fun i hi => by rw [lowA i hi]; exact Nat.le_refl _⟩, x1, by decide, (fun x hx => by cases hx), hok⟩
  have fit : ∀ x ∈ [itemOf d 1 e5.bytes], Fit (fun k => !decide (k = 1)) x := fun x hx => by rw [List.mem_singleton.1 hx]; exact ⟨e5_len, d, hd, by rw [hk]; rfl, rfl⟩
  have g5' := (one.more x14).step w5 g5 (by show ((1 : Nat) : Int) ≤ 2; decide) fit
  have g8' := (g5'.more x57).step w8 g8 (by show ((1 : Nat) : Int) ≤ 2; decide) fit
  have g10 := g8'.more x810
  have f5y : [itemOf d 1 e5.bytes].filter (fun x => decide (x.slot < 5)) = [] := by
    have : decide ((itemOf d 1 e5.bytes).slot < 5) = false := decide_eq_false (by rw [hsl]; decide)
    simp [List.filter, this]
  have f5n : [itemOf d 1 e5.bytes].filter (fun x => !decide (x.slot < 5)) = [itemOf d 1 e5.bytes] := by
    have : decide ((itemOf d 1 e5.bytes).slot < 5) = false := decide_eq_false (by rw [hsl]; decide)
    simp [List.filter, this]
  have f6y : [itemOf d 1 e5.bytes].filter (fun x => decide (x.slot < 6)) = [itemOf d 1 e5.bytes] := by
    have : decide ((itemOf d 1 e5.bytes).slot < 6) = true := decide_eq_true (by rw [hsl]; decide)
    simp [List.filter, this]
  have f6n : [itemOf d 1 e5.bytes].filter (fun x => !decide (x.slot < 6)) = [] := by
    have : decide ((itemOf d 1 e5.bytes).slot < 6) = true := decide_eq_true (by rw [hsl]; decide)
    simp [List.filter, this]
  refine If.yes (If.yes (eripe_spec (w8.ext x810) g10.text fun h11 A11 t bs w11 g11 hbs o11 out11 => ⟨_, rfl, ?_⟩))
  rw [f5y] at hbs
  rw [f5n] at w11
  have lbs : bs.length = 0 := by have := congrArg List.length hbs; simpa using this
  have tl : t.len = 0 := by have := o11.len; rw [List.length_map] at this; omega
  rw [tl]
  have g11' := g10.step w11 g11 (by show ((1 : Nat) : Int) ≤ 2; decide) fit
  refine If.yes (eripe_spec w11 g11'.text fun h12 A12 t2 bs2 w12 g12 hbs2 o12 out12 => ⟨_, rfl, ?_⟩)
  rw [f6y] at hbs2
  rw [f6n] at w12
  have lbs2 : bs2.length = 1 := by have := congrArg List.length hbs2; simpa using this
  have tl2 : t2.len = 1 := by have := o12.len; rw [List.length_map] at this; omega
  rw [tl2]
  have g12' := g11'.step w12 g12 (by decide) (fun x hx => by cases hx)
  exact If.yes (elen_spec w12 ⟨_, rfl, hr h12 g12'.old⟩)

end
end Go.Proofs.Ytldocdpdjdekiaa.Pool
end

section
/- What the laws of both kinds of what waits need. -/
namespace Go.Proofs.Ytldocdpdjdekiaa.Pool
open Go Go.Vc
open Board (Dm decF)

section
variable {R : Value → Heap → Prop} {h h0 : Heap} {o b m : Nat} {A B : Sl} {S M : List It} {most quota : Int}

theorem dm_row2 (s : List UInt8) : (dmOf s).row.length < 100000 := by
  cases hd : decF s with
  | none => rw [dmOf_none hd]; decide
  | some d => rw [dmOf_some hd]; have := dm_row hd; omega



theorem has_of {x : It} {S : List It} (hx : x ∈ S) : has x.root S = true := List.any_eq_true.2 ⟨x, hx, by simp⟩

theorem len_split {p : It → Bool} : ∀ S : List It, ((S.filter fun x => !p x).length : Int) = (S.length : Int) - ((S.filter p).length : Int)
  | [] => rfl
  | x :: S => by
    have := len_split (p := p) S
    cases hp : p x <;> simp [hp] <;> omega

end
end Go.Proofs.Ytldocdpdjdekiaa.Pool
end

section
/- Messages that came out. -/
namespace Go.Proofs.Ytldocdpdjdekiaa.Pool
open Go Go.Vc

theorem snd_of {bs cs : List Bk} {L : List It} (h1 : bs.map Bk.of = L.map (fun x => (x.root, dmOf x.text))) (h2 : cs.map Bk.of = L.map (fun x => (x.root, dmOf x.text))) : bs.map Bk.d = cs.map Bk.d := by
  have := congrArg (List.map Prod.snd) (h1.trans h2.symm)
  rw [List.map_map, List.map_map] at this
  exact this

theorem row_of {bs : List Bk} {L : List It} (h1 : bs.map Bk.of = L.map (fun x => (x.root, dmOf x.text))) : ∀ k ∈ bs, k.d.row.length < 100000 := fun k hk => by
  have h2 : k.of ∈ bs.map Bk.of := List.mem_map_of_mem hk
  rw [h1] at h2
  obtain ⟨x, _, hx⟩ := List.mem_map.1 h2
  injection hx with _ h3
  rw [← h3]
  exact dm_row2 x.text

end Go.Proofs.Ytldocdpdjdekiaa.Pool
end

section
/- Plain laws of what waits: in whatever order it comes. -/
namespace Go.Proofs.Ytldocdpdjdekiaa.Pool
open Go Go.Vc
open Board (Dm decF nameF)

def strip (x : It) : It := { x with peer := 0 }

/-- Two texts of one name are one. -/
def Dist (t1 t2 : List UInt8) : Prop := ∀ d1 d2, decF t1 = some d1 → decF t2 = some d2 → nameF (d1.ms Sl.nil) d1.row = nameF (d2.ms Sl.nil) d2.row → t1 = t2
def NoTw (L : List (List UInt8)) : Prop := ∀ a ∈ L, ∀ b ∈ L, Dist a b
theorem Dist.symm {a b : List UInt8} (h : Dist a b) : Dist b a := fun d1 d2 h1 h2 e => (h d2 d1 h2 h1 e.symm).symm
theorem Dist.refl (a : List UInt8) : Dist a a := fun _ _ _ _ _ => rfl

theorem NoTw.snoc {L : List (List UInt8)} {a : List UInt8} (h : NoTw L) (k : ∀ b ∈ L, Dist a b) : NoTw (L ++ [a]) := by
  intro x hx y hy
  rcases List.mem_append.1 hx with h1 | h1
  · rcases List.mem_append.1 hy with h2 | h2
    · exact h x h1 y h2
    · rw [List.mem_singleton.1 h2]; exact (k x h1).symm
  · rw [List.mem_singleton.1 h1]
    rcases List.mem_append.1 hy with h2 | h2
    · exact k y h2
    · rw [List.mem_singleton.1 h2]; exact Dist.refl a

structure Took (want : Int → Bool) (T : List (List UInt8)) (S : List It) : Prop where
  src : ∀ x ∈ S, Fit want x ∧ x.text ∈ T
  all : ∀ t ∈ T, ∀ d, decF t = some d → want d.kind = true → has (nameF (d.ms Sl.nil) d.row) S = true
  len : S.length ≤ T.length

theorem Took.nil (want : Int → Bool) : Took want [] [] := ⟨(fun x hx => by cases hx), (fun t ht => by cases ht), Nat.le_refl _⟩

theorem putS_few2 {x : It} {S : List It} (hl : S.length < 64) : (has x.root S = true ∧ (putS 64 64 x S).2.2 = S) ∨ (putS 64 64 x S).2.2 = insIt x S := by
  have c1 : cnt x.peer S ≤ S.length := List.countP_le_length
  unfold putS
  by_cases hh : has x.root S = true
  · rw [if_pos hh]; exact .inl ⟨hh, rfl⟩
  · rw [if_neg hh, if_neg (by omega), if_pos (by omega)]; exact .inr rfl

theorem has_insIt (r : Bs 32) (x : It) (S : List It) : has r (insIt x S) = (decide (x.root = r) || has r S) := by
  unfold has
  rw [(insIt_perm x S).any_eq, List.any_cons]

theorem Took.step {want : Int → Bool} {T : List (List UInt8)} {S : List It} {text : List UInt8} {peer : Int} (k : Took want T S) (hl : T.length < 64) (ht : text.length < 1000) : Took want (T ++ [text]) (putW want 64 64 peer text S).2.2 := by
  have hS : ∀ x ∈ S, Fit want x := fun x hx => (k.src x hx).1
  have len0 := k.len
  have more : ∀ x ∈ S, Fit want x ∧ x.text ∈ T ++ [text] := fun x hx => ⟨(k.src x hx).1, List.mem_append_left _ (k.src x hx).2⟩
  cases hd : decF text with
  | none =>
    rw [putW_none hd]
    refine ⟨more, fun t h1 d h2 h3 => ?_, by simp; omega⟩
    rcases List.mem_append.1 h1 with h4 | h4
    · exact k.all t h4 d h2 h3
    · rw [List.mem_singleton.1 h4, hd] at h2; cases h2
  | some d =>
    cases hw : want d.kind with
    | false =>
      rw [putW_no hd hw]
      refine ⟨more, fun t h1 e h2 h3 => ?_, by simp; omega⟩
      rcases List.mem_append.1 h1 with h4 | h4
      · exact k.all t h4 e h2 h3
      · rw [List.mem_singleton.1 h4, hd] at h2
        obtain rfl := Option.some.inj h2
        rw [hw] at h3; cases h3
    | true =>
      rw [putW_yes hd hw]
      show Took want (T ++ [text]) (putS 64 64 (itemOf d peer text) S).2.2
      rcases putS_few2 (x := itemOf d peer text) (S := S) (by omega) with ⟨h5, h6⟩ | h6
      · rw [h6]
        refine ⟨more, fun t h1 e h2 h3 => ?_, by simp; omega⟩
        rcases List.mem_append.1 h1 with h4 | h4
        · exact k.all t h4 e h2 h3
        · rw [List.mem_singleton.1 h4, hd] at h2
          obtain rfl := Option.some.inj h2
          exact h5
      · rw [h6]
        refine ⟨fun x hx => ?_, fun t h1 e h2 h3 => ?_, by rw [insIt_length]; simp; omega⟩
        · rcases List.mem_cons.1 ((insIt_perm _ S).mem_iff.1 hx) with rfl | h7
          · exact ⟨⟨ht, d, hd, hw, rfl⟩, List.mem_append_right _ (List.mem_singleton.2 rfl)⟩
          · exact more x h7
        · rw [has_insIt]
          rcases List.mem_append.1 h1 with h4 | h4
          · rw [k.all t h4 e h2 h3, Bool.or_true]
          · rw [List.mem_singleton.1 h4, hd] at h2
            obtain rfl := Option.some.inj h2
            have : decide ((itemOf d peer text).root = nameF (d.ms Sl.nil) d.row) = true := decide_eq_true rfl
            rw [this, Bool.true_or]

theorem srt_strip {S : List It} (h : Srt S) : Srt (S.map strip) := List.Pairwise.map strip (fun _ _ hb => hb) h

theorem Took.sub {want : Int → Bool} {T1 T2 : List (List UInt8)} {S1 S2 : List It} (k1 : Took want T1 S1) (k2 : Took want T2 S2) (hT : ∀ t, t ∈ T1 → t ∈ T2) (hT' : ∀ t, t ∈ T2 → t ∈ T1) (nt : NoTw T1) : ∀ y ∈ S1.map strip, y ∈ S2.map strip := by
  intro y hy
  obtain ⟨x, hx, rfl⟩ := List.mem_map.1 hy
  obtain ⟨⟨_, d, hd, hw, he⟩, ht⟩ := k1.src x hx
  obtain ⟨x', hx', hr⟩ := List.any_eq_true.1 (k2.all x.text (hT _ ht) d hd hw)
  obtain ⟨⟨_, d', hd', hw', he'⟩, ht'⟩ := k2.src x' hx'
  have hr' : x'.root = nameF (d.ms Sl.nil) d.row := of_decide_eq_true hr
  have hn : nameF (d.ms Sl.nil) d.row = nameF (d'.ms Sl.nil) d'.row := by
    rw [← hr', he']
    rfl
  have htt := nt _ ht _ (hT' _ ht') d d' hd hd' hn
  rw [htt, hd'] at hd
  obtain rfl := Option.some.inj hd
  refine List.mem_map.2 ⟨x', hx', ?_⟩
  rw [he, he', htt]
  rfl

theorem Took.eq {want : Int → Bool} {T1 T2 : List (List UInt8)} {S1 S2 : List It} (k1 : Took want T1 S1) (k2 : Took want T2 S2) (hT : ∀ t, t ∈ T1 ↔ t ∈ T2) (nt : NoTw T1) (s1 : Srt S1) (s2 : Srt S2) : S1.map strip = S2.map strip := by
  have nt2 : NoTw T2 := fun a ha b hb => nt a ((hT a).2 ha) b ((hT b).2 hb)
  refine srt_unique (srt_strip s1) (srt_strip s2) ((List.perm_ext_iff_of_nodup (srt_nodup (srt_strip s1)) (srt_nodup (srt_strip s2))).2 fun y => ⟨k1.sub k2 (fun t => (hT t).1) (fun t => (hT t).2) nt y, k2.sub k1 (fun t => (hT t).2) (fun t => (hT t).1) nt2 y⟩)

/-- What is told of items without their peers. -/
theorem filter_strip {S1 S2 : List It} (h : S1.map strip = S2.map strip) {p : It → Bool} (hp : ∀ x, p (strip x) = p x) : (S1.filter p).map strip = (S2.filter p).map strip := by
  have e : ∀ S : List It, (S.filter p).map strip = (S.map strip).filter p := fun S => by
    rw [List.filter_map]
    congr 1
    exact (List.filter_congr fun x _ => by simp [Function.comp, hp x]).symm
  rw [e, e, h]

theorem map_strip {α : Type} {S1 S2 : List It} (h : S1.map strip = S2.map strip) {f : It → α} (hf : ∀ x, f (strip x) = f x) : S1.map f = S2.map f := by
  have e : ∀ S : List It, S.map f = (S.map strip).map f := fun S => by
    rw [List.map_map]
    exact List.map_congr_left fun x _ => (hf x).symm
  exact (e S1).trans ((congrArg _ h).trans (e S2).symm)

end Go.Proofs.Ytldocdpdjdekiaa.Pool
end

section
/- Two of the program's side by side; names among what waits. -/
namespace Go.Proofs.Ytldocdpdjdekiaa.Pool
open Go Go.Vc
open Board (Dm Ms decF nameF zeroM docdecode_spec bools dec_good good_kind)

section
variable {h0 h h' : Heap} {o1 b1 o2 b2 : Nat} {A1 A2 A' : Sl} {S1 S2 S' : List It} {t : Sl} {T TO : TypeId} {sz : Nat} {want : Int → Bool} {ts : List TV}

/-- Two of the program's, and a row besides. -/
structure Tw (T : TypeId) (want : Int → Bool) (TO : TypeId) (sz : Nat) (h0 h : Heap) (o1 b1 o2 b2 : Nat) (A1 A2 : Sl) (S1 S2 : List It) (t : Sl) (ts : List TV) : Prop where
  one : One1 T want h0 h o1 b1 A1 S1 64 64
  two : One1 T want h0 h o2 b2 A2 S2 64 64
  dj : ∀ i, Mine b1 A1 i → ¬ Mine b2 A2 i
  n1 : ¬ Mine b1 A1 o2
  n2 : ¬ Mine b2 A2 o1
  own : Own TO sz h t ts
  q1 : ∀ i, In t i → ¬ Mine b1 A1 i
  q2 : ∀ i, In t i → ¬ Mine b2 A2 i

theorem Tw.symm (p : Tw T want TO sz h0 h o1 b1 o2 b2 A1 A2 S1 S2 t ts) : Tw T want TO sz h0 h o2 b2 o1 b1 A2 A1 S2 S1 t ts := ⟨p.two, p.one, fun i h2 h1 => p.dj i h1 h2, p.n2, p.n1, p.own, p.q2, p.q1⟩
theorem Tw.more (p : Tw T want TO sz h0 h o1 b1 o2 b2 A1 A2 S1 S2 t ts) (x : Ext h h') : Tw T want TO sz h0 h' o1 b1 o2 b2 A1 A2 S1 S2 t ts := ⟨p.one.more x, p.two.more x, p.dj, p.n1, p.n2, p.own.ext x, p.q1, p.q2⟩
theorem Tw.step (p : Tw T want TO sz h0 h o1 b1 o2 b2 A1 A2 S1 S2 t ts) (w : WL T h' o1 b1 A' S' 64 64) (g : Grown b1 A1 h A' h') (hl : (S'.length : Int) ≤ 64) (hf : ∀ x ∈ S', Fit want x) : Tw T want TO sz h0 h' o1 b1 o2 b2 A' A2 S' S2 t ts := by
  have m2 : ∀ i, Mine b2 A2 i → i < h.size := fun i hi => p.two.wl.pl.lt hi
  have ho2 := p.two.wl.var.lt
  have mt : ∀ i, In t i → i < h.size := fun i ⟨l, hl, hi⟩ => by have := p.own.lt l hl; omega
  have new : ∀ i, i < h.size → ¬ Mine b1 A1 i → ¬ Mine b1 A' i := fun i hi hn hx => by
    rcases g.new i hx with h1 | h1
    · exact hn h1
    · omega
  refine ⟨p.one.step w g hl hf, ⟨p.two.wl.only g.only p.n1 fun i hi hx => p.dj i hx hi, p.two.low, Only.cut p.two.old g.only fun i hi => p.one.low.2 i hi, p.two.len, p.two.fit, p.two.ok⟩, fun i hi hx => ?_, new _ ho2 p.n1, p.n2, p.own.only g.only fun l hl => p.q1 _ ⟨l, hl, rfl⟩, fun i hi => new i (mt i hi) (p.q1 i hi), p.q2⟩
  rcases g.new i hi with h1 | h1
  · exact p.dj i h1 hx
  · have := m2 i hx; omega

theorem turn_lt {n : Nat} (i by_ : Nat) (hn : 0 < n) : n - 1 - (i + by_) % n < n := by omega
theorem turn_all {n by_ k : Nat} (hk : k < n) (hb : by_ < n) : n - 1 - ((n - 1 - k + (n - by_)) % n + by_) % n = k := by
  have : ((n - 1 - k + (n - by_)) % n + by_) % n = n - 1 - k := by
    rw [Nat.mod_add_mod]
    have e1 : n - 1 - k + (n - by_) + by_ = (n - 1 - k) + n := by omega
    rw [e1, Nat.add_mod_right, Nat.mod_eq_of_lt (by omega)]
  rw [this]
  omega

theorem root_inj : ∀ {S : List It}, (S.map It.root).Nodup → ∀ {x z : It}, x ∈ S → z ∈ S → z.root = x.root → z = x
  | y :: S, hn, x, z, hx, hz, e => by
    rw [List.map_cons] at hn
    have hn' := List.nodup_cons.1 hn
    rcases List.mem_cons.1 hx with h1 | h1
    · rcases List.mem_cons.1 hz with h2 | h2
      · rw [h1, h2]
      · exact absurd (by rw [← h1, ← e]; exact List.mem_map_of_mem h2) hn'.1
    · rcases List.mem_cons.1 hz with h2 | h2
      · exact absurd (by rw [← h2, e]; exact List.mem_map_of_mem h1) hn'.1
      · exact root_inj hn'.2 h1 h2 e

end

section
variable {R : Value → Heap → Prop} {h : Heap}

theorem docdecode3_spec {s : List UInt8} (hs : s.length < 1000) (hr : ∀ h' b, Elems 1 h' b (bools (dmOf s).row) → Ext h h' → R (TV.tup [((dmOf s).ms b).tv, .bool (decF s).isSome]).val h') :
    CallsH Try.prog 28 (TVs.vals [.str s]) h R := by
  refine docdecode_spec hs (fun hn h' x => ?_) fun d h' b hd e x loc => ?_
  · have := hr h' Sl.nil
    rw [dmOf_none hn, hn] at this
    exact this (Elems.nil_ 1 h') x
  · have := hr h' b
    rw [dmOf_some hd, hd] at this
    exact this e x


end
end Go.Proofs.Ytldocdpdjdekiaa.Pool
end

section
/- The conditions of functions, as the generator reckons them out, each with the proof that it is that. -/
namespace Go.Proofs.Ytldocdpdjdekiaa
open Go Go.Vc
set_option maxRecDepth 100000
set_option linter.unusedVariables false

def tollerlaw17_EarlyKeeps_vc (script : Sl) (now : Int) (text : List UInt8) (h : Heap) (R : Value → Heap → Prop) : Prop :=
 CallsH Try.prog (20 : Nat) (TVs.vals []) h fun (v : Value) (h : Heap) ↦
 ∃ (b : Bool),
 v = TV.val (TV.bool b) ∧
 If (!b) (R (TV.val (TV.bool false)) h)
 (Join
 (fun (s : Bool) (h : Array Obj) ↦
 CallsH Try.prog (22 : Nat) (TVs.vals [TV.int IntKind.i64 (64 : Int), TV.int IntKind.i64 (64 : Int)]) h fun (v : Value) (h : Array Obj) ↦
 ∃ (p : Option Go.Vc.Loc),
 v = TV.val (TV.ptr p) ∧
 Go.Vc.Loop ((0 : Int), (0 : Int)) h fun (s : Int × Int) (h : Array Obj) (K : Int × Int → Array Obj → Prop) ↦
 If (decide (s.snd < (↑script.len : Int)))
 ((0 : Int) ≤ s.snd ∧
 s.snd < (↑script.len : Int) ∧
 Nn script.a fun (l : Go.Vc.Loc) ↦
 ∃ (n : Int),
 ∃ (n_1 : Int),
 ∃ (s_1 : List UInt8),
 ∃ (n_2 : Int),
 ∃ (n_3 : Int),
 ∃ (n_4 : Int),
 (at1 h l.b (l.o + Int.toNat s.snd * (6 : Nat)) (Value.int IntKind.i64 n) ∧
 at1 h l.b (l.o + Int.toNat s.snd * (6 : Nat) + (1 : Nat)) (Value.int IntKind.i64 n_1) ∧
 at1 h l.b (l.o + Int.toNat s.snd * (6 : Nat) + (1 : Nat) + (1 : Nat))
 (Value.string (ByteArray.mk (List.toArray s_1))) ∧
 at1 h l.b (l.o + Int.toNat s.snd * (6 : Nat) + (1 : Nat) + (1 : Nat) + (1 : Nat)) (Value.int IntKind.i64 n_2) ∧
 at1 h l.b (l.o + Int.toNat s.snd * (6 : Nat) + (1 : Nat) + (1 : Nat) + (1 : Nat) + (1 : Nat))
 (Value.int IntKind.i64 n_3) ∧
 at1 h l.b (l.o + Int.toNat s.snd * (6 : Nat) + (1 : Nat) + (1 : Nat) + (1 : Nat) + (1 : Nat) + (1 : Nat))
 (Value.int IntKind.i64 n_4)) ∧
 Vc.Bind
 (newTV h
 (TV.agg
 [TV.int IntKind.i64 (0 : Int), TV.int IntKind.i64 (0 : Int), TV.str [], TV.int IntKind.i64 (0 : Int),
 TV.int IntKind.i64 (0 : Int), TV.int IntKind.i64 (0 : Int)])
 (47 : Nat))
 fun (h_1 : Array Obj) ↦
 wok h_1 (Array.size h) (0 : Nat) (6 : Nat) ∧
 Vc.Bind
 (TV.put h_1 (Array.size h) (0 : Nat)
 (TV.agg
 [TV.int IntKind.i64 n, TV.int IntKind.i64 n_1, TV.str s_1, TV.int IntKind.i64 n_2, TV.int IntKind.i64 n_3,
 TV.int IntKind.i64 n_4]))
 fun (h_2 : Array Obj) ↦
 Join
 (fun (s_2 : Int) (h : Array Obj) ↦
 If (decide (s_2 = (1 : Int)))
 (K (IntKind.wrap IntKind.i64 (s.fst + (1 : Int)), IntKind.wrap IntKind.i64 (s.snd + (1 : Int))) h)
 (K (s.fst, IntKind.wrap IntKind.i64 (s.snd + (1 : Int))) h))
 fun (J : Int → Array Obj → Prop) ↦
 ∃ (n : Int),
 at1 h_2 (Array.size h) (1 : Nat) (Value.int IntKind.i64 n) ∧
 ∃ (n_5 : Int),
 ∃ (n_6 : Int),
 ∃ (s : List UInt8),
 ∃ (n_7 : Int),
 ∃ (n_8 : Int),
 ∃ (n_9 : Int),
 (at1 h_2 (Array.size h) (0 : Nat) (Value.int IntKind.i64 n_5) ∧
 at1 h_2 (Array.size h) (1 : Nat) (Value.int IntKind.i64 n_6) ∧
 at1 h_2 (Array.size h) (2 : Nat) (Value.string (ByteArray.mk (List.toArray s))) ∧
 at1 h_2 (Array.size h) (3 : Nat) (Value.int IntKind.i64 n_7) ∧
 at1 h_2 (Array.size h) (4 : Nat) (Value.int IntKind.i64 n_8) ∧
 at1 h_2 (Array.size h) (5 : Nat) (Value.int IntKind.i64 n_9)) ∧
 (CallsH Try.prog (24 : Nat)
 (TVs.vals
 [TV.agg
 [TV.int IntKind.i64 n_5, TV.int IntKind.i64 n_6, TV.str s, TV.int IntKind.i64 n_7,
 TV.int IntKind.i64 n_8, TV.int IntKind.i64 n_9]])
 h_2 fun (v : Value) (h : Array Obj) ↦
 ∃ (s : List UInt8),
 v = TV.val (TV.str s) ∧
 Ext h_2 h ∧
 (CallsH Try.prog (23 : Nat) (TVs.vals [TV.ptr p, TV.int IntKind.i64 n, TV.str s])
 h fun (v : Value) (h : Array Obj) ↦
 ∃ (n : Int),
 ∃ (b : Bs (32 : Nat)),
 v = TV.val (TV.tup [TV.int IntKind.i64 n, TV.bytes (32 : Nat) b]) ∧
 Vc.Bind (newTV h (TV.bytes (32 : Nat) (Bs.zero (32 : Nat))) (50 : Nat))
 fun (h_3 : Array Obj) ↦
 Ext h h_3 ∧
 wok h_3 (Array.size h) (0 : Nat) (32 : Nat) ∧
 Vc.Bind
 (TV.put h_3 (Array.size h) (0 : Nat) (TV.bytes (32 : Nat) b))
 fun (h : Array Obj) ↦ J n h) ∧
 Vc.Bind (newTV h (TV.bytes (32 : Nat) (Bs.zero (32 : Nat))) (50 : Nat))
 fun (h_3 : Array Obj) ↦
 Ext h h_3 ∧
 CallsH Try.prog (23 : Nat)
 (TVs.vals [TV.ptr p, TV.int IntKind.i64 n, TV.str s]) h_3
 fun (v : Value) (h_4 : Array Obj) ↦
 ∃ (n : Int),
 ∃ (b : Bs (32 : Nat)),
 v = TV.val (TV.tup [TV.int IntKind.i64 n, TV.bytes (32 : Nat) b]) ∧
 wok h_4 (Array.size h) (0 : Nat) (32 : Nat) ∧
 Vc.Bind
 (TV.put h_4 (Array.size h) (0 : Nat) (TV.bytes (32 : Nat) b))
 fun (h : Array Obj) ↦ J n h) ∧
 Vc.Bind (newTV h_2 (TV.bytes (32 : Nat) (Bs.zero (32 : Nat))) (50 : Nat))
 fun (h : Array Obj) ↦
 Ext h_2 h ∧
 CallsH Try.prog (24 : Nat)
 (TVs.vals
 [TV.agg
 [TV.int IntKind.i64 n_5, TV.int IntKind.i64 n_6, TV.str s,
 TV.int IntKind.i64 n_7, TV.int IntKind.i64 n_8, TV.int IntKind.i64 n_9]])
 h fun (v : Value) (h_3 : Array Obj) ↦
 ∃ (s : List UInt8),
 v = TV.val (TV.str s) ∧
 Ext h h_3 ∧
 CallsH Try.prog (23 : Nat)
 (TVs.vals [TV.ptr p, TV.int IntKind.i64 n, TV.str s]) h_3
 fun (v : Value) (h : Array Obj) ↦
 ∃ (n : Int),
 ∃ (b : Bs (32 : Nat)),
 v = TV.val (TV.tup [TV.int IntKind.i64 n, TV.bytes (32 : Nat) b]) ∧
 wok h (Array.size h_2) (0 : Nat) (32 : Nat) ∧
 Vc.Bind
 (TV.put h (Array.size h_2) (0 : Nat) (TV.bytes (32 : Nat) b))
 fun (h : Array Obj) ↦ J n h)
 (CallsH Try.prog (28 : Nat) (TVs.vals [TV.str text]) h fun (v : Value) (h : Array Obj) ↦
 ∃ (n : Int),
 ∃ (n_1 : Int),
 ∃ (b : Bs (32 : Nat)),
 ∃ (n_2 : Int),
 ∃ (n_3 : Int),
 ∃ (s_1 : Sl),
 ∃ (b_1 : Bs (16 : Nat)),
 ∃ (b_2 : Bool),
 v =
 TV.val
 (TV.tup
 [TV.agg
 [TV.int IntKind.i64 n, TV.int IntKind.i64 n_1, TV.bytes (32 : Nat) b, TV.int IntKind.i64 n_2,
 TV.int IntKind.u64 n_3, TV.slice s_1, TV.bytes (16 : Nat) b_1],
 TV.bool b_2]) ∧
 Vc.Bind
 (newTV h
 (TV.agg
 [TV.int IntKind.i64 (0 : Int), TV.int IntKind.i64 (0 : Int), TV.bytes (32 : Nat) (Bs.zero (32 : Nat)),
 TV.int IntKind.i64 (0 : Int), TV.int IntKind.u64 (0 : Int), TV.slice Sl.nil,
 TV.bytes (16 : Nat) (Bs.zero (16 : Nat))])
 (63 : Nat))
 fun (h_1 : Array Obj) ↦
 wok h_1 (Array.size h) (0 : Nat) (53 : Nat) ∧
 Vc.Bind
 (TV.put h_1 (Array.size h) (0 : Nat)
 (TV.agg
 [TV.int IntKind.i64 n, TV.int IntKind.i64 n_1, TV.bytes (32 : Nat) b, TV.int IntKind.i64 n_2,
 TV.int IntKind.u64 n_3, TV.slice s_1, TV.bytes (16 : Nat) b_1]))
 fun (h_2 : Array Obj) ↦
 Join
 (fun (s_2 : Bool) (h : Array Obj) ↦
 If s_2
 (CallsH Try.prog (23 : Nat) (TVs.vals [TV.ptr p, TV.int IntKind.i64 (0 : Int), TV.str text]) h
 fun (v : Value) (h : Array Obj) ↦
 ∃ (n : Int),
 ∃ (b : Bs (32 : Nat)),
 v = TV.val (TV.tup [TV.int IntKind.i64 n, TV.bytes (32 : Nat) b]) ∧
 Vc.Bind (newTV h (TV.bytes (32 : Nat) (Bs.zero (32 : Nat))) (50 : Nat)) fun (h_3 : Array Obj) ↦
 wok h_3 (Array.size h) (0 : Nat) (32 : Nat) ∧
 Vc.Bind (TV.put h_3 (Array.size h) (0 : Nat) (TV.bytes (32 : Nat) b)) fun (h : Array Obj) ↦
 If (!decide (n = (5 : Int))) (R (TV.val (TV.bool false)) h)
 (CallsH Try.prog (27 : Nat) (TVs.vals [TV.ptr p]) h fun (v : Value) (h : Array Obj) ↦
 ∃ (n : Int),
 v = TV.val (TV.int IntKind.i64 n) ∧
 If (!decide (n = s.fst)) (R (TV.val (TV.bool false)) h)
 (CallsH Try.prog (25 : Nat) (TVs.vals [TV.ptr p, TV.int IntKind.i64 now]) h
 fun (v : Value) (h : Array Obj) ↦
 ∃ (s_3 : Sl),
 v = TV.val (TV.slice s_3) ∧
 CallsH Try.prog (27 : Nat) (TVs.vals [TV.ptr p]) h
 fun (v : Value) (h : Array Obj) ↦
 ∃ (n : Int),
 v = TV.val (TV.int IntKind.i64 n) ∧
 R
 (TV.val
 (TV.bool
 (decide
 (IntKind.wrap IntKind.i64 ((↑s_3.len : Int) + n) = s.fst))))
 h)))
 (CallsH Try.prog (27 : Nat) (TVs.vals [TV.ptr p]) h fun (v : Value) (h : Array Obj) ↦
 ∃ (n : Int), v = TV.val (TV.int IntKind.i64 n) ∧ R (TV.val (TV.bool (decide (n = s.fst)))) h))
 fun (J : Bool → Array Obj → Prop) ↦
 If (!b_2) (J true h_2)
 (∃ (n : Int), at1 h_2 (Array.size h) (0 : Nat) (Value.int IntKind.i64 n) ∧ J (decide (n = (1 : Int))) h_2)))
 fun (J : Bool → Array Obj → Prop) ↦
 CallsH Try.prog (21 : Nat) (TVs.vals [TV.slice script]) h fun (v : Value) (h : Heap) ↦
 ∃ (b : Bool),
 v = TV.val (TV.bool b) ∧
 If b (R (TV.val (TV.bool true)) h)
 (If (decide ((60 : Int) < (↑script.len : Int))) (R (TV.val (TV.bool true)) h)
 (If (decide ((300 : Int) < (↑(List.length text) : Int))) (R (TV.val (TV.bool true)) h) (J false h))))

theorem tollerlaw17_EarlyKeeps_calls (script : Sl) (now : Int) (text : List UInt8) (h : Heap) (R : Value → Heap → Prop) (H : tollerlaw17_EarlyKeeps_vc script now text h R) : CallsH Try.prog 7 (TVs.vals [TV.slice script, TV.int IntKind.i64 now, TV.str text]) h R :=
 vcFn_sound (C := ctx) ctx_ok (fn := Try.f7) Try.func7 ((by kernel_rfl : tollerlaw17_EarlyKeeps_vc script now text h R = vcFn ctx Try.f7 [TV.slice script, TV.int IntKind.i64 now, TV.str text] h R) ▸ H)


def tollerlaw17_EarlyParts_vc (script : Sl) (now : Int) (later : Int) (h : Heap) (R : Value → Heap → Prop) : Prop :=
 CallsH Try.prog (20 : Nat) (TVs.vals []) h fun (v : Value) (h : Heap) ↦
 ∃ (b : Bool),
 v = TV.val (TV.bool b) ∧
 If (!b) (R (TV.val (TV.bool false)) h)
 (Join
 (fun (s : Bool) (h : Array Obj) ↦
 CallsH Try.prog (22 : Nat) (TVs.vals [TV.int IntKind.i64 (64 : Int), TV.int IntKind.i64 (64 : Int)]) h fun (v : Value) (h : Array Obj) ↦
 ∃ (p : Option Go.Vc.Loc),
 v = TV.val (TV.ptr p) ∧
 CallsH Try.prog (22 : Nat) (TVs.vals [TV.int IntKind.i64 (64 : Int), TV.int IntKind.i64 (64 : Int)]) h fun (v : Value) (h : Array Obj) ↦
 ∃ (p_1 : Option Go.Vc.Loc),
 v = TV.val (TV.ptr p_1) ∧
 Go.Vc.Loop (0 : Int) h fun (s : Int) (h : Array Obj) (K : Int → Array Obj → Prop) ↦
 If (decide (s < (↑script.len : Int)))
 ((0 : Int) ≤ s ∧
 s < (↑script.len : Int) ∧
 Nn script.a fun (l : Go.Vc.Loc) ↦
 ∃ (n : Int),
 ∃ (n_1 : Int),
 ∃ (s_1 : List UInt8),
 ∃ (n_2 : Int),
 ∃ (n_3 : Int),
 ∃ (n_4 : Int),
 (at1 h l.b (l.o + Int.toNat s * (6 : Nat)) (Value.int IntKind.i64 n) ∧
 at1 h l.b (l.o + Int.toNat s * (6 : Nat) + (1 : Nat)) (Value.int IntKind.i64 n_1) ∧
 at1 h l.b (l.o + Int.toNat s * (6 : Nat) + (1 : Nat) + (1 : Nat))
 (Value.string (ByteArray.mk (List.toArray s_1))) ∧
 at1 h l.b (l.o + Int.toNat s * (6 : Nat) + (1 : Nat) + (1 : Nat) + (1 : Nat))
 (Value.int IntKind.i64 n_2) ∧
 at1 h l.b (l.o + Int.toNat s * (6 : Nat) + (1 : Nat) + (1 : Nat) + (1 : Nat) + (1 : Nat))
 (Value.int IntKind.i64 n_3) ∧
 at1 h l.b (l.o + Int.toNat s * (6 : Nat) + (1 : Nat) + (1 : Nat) + (1 : Nat) + (1 : Nat) + (1 : Nat))
 (Value.int IntKind.i64 n_4)) ∧
 Vc.Bind
 (newTV h
 (TV.agg
 [TV.int IntKind.i64 (0 : Int), TV.int IntKind.i64 (0 : Int), TV.str [], TV.int IntKind.i64 (0 : Int),
 TV.int IntKind.i64 (0 : Int), TV.int IntKind.i64 (0 : Int)])
 (47 : Nat))
 fun (h_1 : Array Obj) ↦
 wok h_1 (Array.size h) (0 : Nat) (6 : Nat) ∧
 Vc.Bind
 (TV.put h_1 (Array.size h) (0 : Nat)
 (TV.agg
 [TV.int IntKind.i64 n, TV.int IntKind.i64 n_1, TV.str s_1, TV.int IntKind.i64 n_2,
 TV.int IntKind.i64 n_3, TV.int IntKind.i64 n_4]))
 fun (h_2 : Array Obj) ↦
 ∃ (n : Int),
 at1 h_2 (Array.size h) (1 : Nat) (Value.int IntKind.i64 n) ∧
 ∃ (n_5 : Int),
 ∃ (n_6 : Int),
 ∃ (s_2 : List UInt8),
 ∃ (n_7 : Int),
 ∃ (n_8 : Int),
 ∃ (n_9 : Int),
 (at1 h_2 (Array.size h) (0 : Nat) (Value.int IntKind.i64 n_5) ∧
 at1 h_2 (Array.size h) (1 : Nat) (Value.int IntKind.i64 n_6) ∧
 at1 h_2 (Array.size h) (2 : Nat) (Value.string (ByteArray.mk (List.toArray s_2))) ∧
 at1 h_2 (Array.size h) (3 : Nat) (Value.int IntKind.i64 n_7) ∧
 at1 h_2 (Array.size h) (4 : Nat) (Value.int IntKind.i64 n_8) ∧
 at1 h_2 (Array.size h) (5 : Nat) (Value.int IntKind.i64 n_9)) ∧
 CallsH Try.prog (24 : Nat)
 (TVs.vals
 [TV.agg
 [TV.int IntKind.i64 n_5, TV.int IntKind.i64 n_6, TV.str s_2,
 TV.int IntKind.i64 n_7, TV.int IntKind.i64 n_8, TV.int IntKind.i64 n_9]])
 h_2 fun (v : Value) (h_3 : Array Obj) ↦
 ∃ (s_3 : List UInt8),
 v = TV.val (TV.str s_3) ∧
 Ext h_2 h_3 ∧
 CallsH Try.prog (23 : Nat)
 (TVs.vals [TV.ptr p, TV.int IntKind.i64 n, TV.str s_3]) h_3
 fun (v : Value) (h_4 : Array Obj) ↦
 ∃ (n : Int),
 ∃ (b : Bs (32 : Nat)),
 v = TV.val (TV.tup [TV.int IntKind.i64 n, TV.bytes (32 : Nat) b]) ∧
 ∃ (n : Int),
 at1 h_4 (Array.size h) (1 : Nat) (Value.int IntKind.i64 n) ∧
 ∃ (n_10 : Int),
 ∃ (n_11 : Int),
 ∃ (s_4 : List UInt8),
 ∃ (n_12 : Int),
 ∃ (n_13 : Int),
 ∃ (n_14 : Int),
 (at1 h_4 (Array.size h) (0 : Nat)
 (Value.int IntKind.i64 n_10) ∧
 at1 h_4 (Array.size h) (1 : Nat)
 (Value.int IntKind.i64 n_11) ∧
 at1 h_4 (Array.size h) (2 : Nat)
 (Value.string
 (ByteArray.mk (List.toArray s_4))) ∧
 at1 h_4 (Array.size h) (3 : Nat)
 (Value.int IntKind.i64 n_12) ∧
 at1 h_4 (Array.size h) (4 : Nat)
 (Value.int IntKind.i64 n_13) ∧
 at1 h_4 (Array.size h) (5 : Nat)
 (Value.int IntKind.i64 n_14)) ∧
 CallsH Try.prog (24 : Nat)
 (TVs.vals
 [TV.agg
 [TV.int IntKind.i64 n_10,
 TV.int IntKind.i64 n_11, TV.str s_4,
 TV.int IntKind.i64 n_12,
 TV.int IntKind.i64 n_13,
 TV.int IntKind.i64 n_14]])
 h_4 fun (v : Value) (h : Array Obj) ↦
 ∃ (s_5 : List UInt8),
 v = TV.val (TV.str s_5) ∧
 Ext h_4 h ∧
 CallsH Try.prog (23 : Nat)
 (TVs.vals
 [TV.ptr p_1, TV.int IntKind.i64 n,
 TV.str s_5])
 h fun (v : Value) (h : Array Obj) ↦
 ∃ (n : Int),
 ∃ (b : Bs (32 : Nat)),
 v =
 TV.val
 (TV.tup
 [TV.int IntKind.i64 n,
 TV.bytes (32 : Nat) b]) ∧
 K
 (IntKind.wrap IntKind.i64
 (s + (1 : Int)))
 h)
 (CallsH Try.prog (25 : Nat) (TVs.vals [TV.ptr p, TV.int IntKind.i64 now]) h fun (v : Value) (h : Array Obj) ↦
 ∃ (s : Sl),
 v = TV.val (TV.slice s) ∧
 CallsH Try.prog (25 : Nat) (TVs.vals [TV.ptr p, TV.int IntKind.i64 (IntKind.wrap IntKind.i64 (now + later))]) h
 fun (v : Value) (h : Array Obj) ↦
 ∃ (s_1 : Sl),
 v = TV.val (TV.slice s_1) ∧
 ∃ (new : List Value),
 slAt h s_1 (53 : Nat) new ∧
 (∀ (v : Value), v ∈ new → isOne v = true) ∧
 vcAppend Ytldocdpdjdekiaa.ctx (63 : Nat) s s_1.len new h fun (s : Sl) (h : Array Obj) ↦
 CallsH Try.prog (25 : Nat) (TVs.vals [TV.ptr p_1, TV.int IntKind.i64 (IntKind.wrap IntKind.i64 (now + later))])
 h fun (v : Value) (h : Array Obj) ↦
 ∃ (s_2 : Sl),
 v = TV.val (TV.slice s_2) ∧
 CallsH Try.prog (26 : Nat) (TVs.vals [TV.slice s, TV.slice s_2]) h fun (v : Value) (h : Array Obj) ↦
 ∃ (b : Bool),
 v = TV.val (TV.bool b) ∧
 If b
 (CallsH Try.prog (27 : Nat) (TVs.vals [TV.ptr p]) h fun (v : Value) (h : Array Obj) ↦
 ∃ (n : Int),
 v = TV.val (TV.int IntKind.i64 n) ∧
 CallsH Try.prog (27 : Nat) (TVs.vals [TV.ptr p_1]) h fun (v : Value) (h : Array Obj) ↦
 ∃ (n_1 : Int),
 v = TV.val (TV.int IntKind.i64 n_1) ∧ R (TV.val (TV.bool (decide (n = n_1)))) h)
 (R (TV.val (TV.bool false)) h)))
 fun (J : Bool → Array Obj → Prop) ↦
 CallsH Try.prog (21 : Nat) (TVs.vals [TV.slice script]) h fun (v : Value) (h : Heap) ↦
 ∃ (b : Bool),
 v = TV.val (TV.bool b) ∧
 If b (R (TV.val (TV.bool true)) h)
 (If (decide ((60 : Int) < (↑script.len : Int))) (R (TV.val (TV.bool true)) h)
 (If (decide (later < (0 : Int))) (R (TV.val (TV.bool true)) h)
 (If (decide ((1073741824 : Int) < later)) (R (TV.val (TV.bool true)) h)
 (If (decide (now < (0 : Int))) (R (TV.val (TV.bool true)) h)
 (If (decide ((1073741824 : Int) < now)) (R (TV.val (TV.bool true)) h) (J false h)))))))

theorem tollerlaw17_EarlyParts_calls (script : Sl) (now : Int) (later : Int) (h : Heap) (R : Value → Heap → Prop) (H : tollerlaw17_EarlyParts_vc script now later h R) : CallsH Try.prog 6 (TVs.vals [TV.slice script, TV.int IntKind.i64 now, TV.int IntKind.i64 later]) h R :=
 vcFn_sound (C := ctx) ctx_ok (fn := Try.f6) Try.func6 ((by kernel_rfl : tollerlaw17_EarlyParts_vc script now later h R = vcFn ctx Try.f6 [TV.slice script, TV.int IntKind.i64 now, TV.int IntKind.i64 later] h R) ▸ H)


def tollerlaw16_OrphansRefuse_vc (script : Sl) (text : List UInt8) (peer : Int) (h : Heap) (R : Value → Heap → Prop) : Prop :=
 CallsH Try.prog (29 : Nat) (TVs.vals []) h fun (v : Value) (h : Heap) ↦
 ∃ (b : Bool),
 v = TV.val (TV.bool b) ∧
 If (!b) (R (TV.val (TV.bool false)) h)
 (Join
 (fun (s : Bool) (h : Array Obj) ↦
 CallsH Try.prog (31 : Nat) (TVs.vals [TV.int IntKind.i64 (64 : Int), TV.int IntKind.i64 (64 : Int)]) h fun (v : Value) (h : Array Obj) ↦
 ∃ (p : Option Go.Vc.Loc),
 v = TV.val (TV.ptr p) ∧
 Go.Vc.Loop (s, (0 : Int)) h fun (s_1 : Bool × Int) (h : Array Obj) (K : Bool × Int → Array Obj → Prop) ↦
 If (decide (s_1.snd < (↑script.len : Int)))
 ((0 : Int) ≤ s_1.snd ∧
 s_1.snd < (↑script.len : Int) ∧
 Nn script.a fun (l : Go.Vc.Loc) ↦
 ∃ (n : Int),
 ∃ (n_1 : Int),
 ∃ (s_2 : List UInt8),
 ∃ (n_2 : Int),
 ∃ (n_3 : Int),
 ∃ (n_4 : Int),
 (at1 h l.b (l.o + Int.toNat s_1.snd * (6 : Nat)) (Value.int IntKind.i64 n) ∧
 at1 h l.b (l.o + Int.toNat s_1.snd * (6 : Nat) + (1 : Nat)) (Value.int IntKind.i64 n_1) ∧
 at1 h l.b (l.o + Int.toNat s_1.snd * (6 : Nat) + (1 : Nat) + (1 : Nat))
 (Value.string (ByteArray.mk (List.toArray s_2))) ∧
 at1 h l.b (l.o + Int.toNat s_1.snd * (6 : Nat) + (1 : Nat) + (1 : Nat) + (1 : Nat))
 (Value.int IntKind.i64 n_2) ∧
 at1 h l.b (l.o + Int.toNat s_1.snd * (6 : Nat) + (1 : Nat) + (1 : Nat) + (1 : Nat) + (1 : Nat))
 (Value.int IntKind.i64 n_3) ∧
 at1 h l.b (l.o + Int.toNat s_1.snd * (6 : Nat) + (1 : Nat) + (1 : Nat) + (1 : Nat) + (1 : Nat) + (1 : Nat))
 (Value.int IntKind.u64 n_4)) ∧
 Vc.Bind
 (newTV h
 (TV.agg
 [TV.int IntKind.i64 (0 : Int), TV.int IntKind.i64 (0 : Int), TV.str [], TV.int IntKind.i64 (0 : Int),
 TV.int IntKind.i64 (0 : Int), TV.int IntKind.u64 (0 : Int)])
 (72 : Nat))
 fun (h_1 : Array Obj) ↦
 wok h_1 (Array.size h) (0 : Nat) (6 : Nat) ∧
 Vc.Bind
 (TV.put h_1 (Array.size h) (0 : Nat)
 (TV.agg
 [TV.int IntKind.i64 n, TV.int IntKind.i64 n_1, TV.str s_2, TV.int IntKind.i64 n_2, TV.int IntKind.i64 n_3,
 TV.int IntKind.u64 n_4]))
 fun (h_2 : Array Obj) ↦
 Join
 (fun (s_3 : Bool) (h_3 : Array Obj) ↦
 If s_3
 (∃ (n_5 : Int),
 at1 h_3 (Array.size h) (1 : Nat) (Value.int IntKind.i64 n_5) ∧
 ∃ (n_6 : Int),
 ∃ (n_7 : Int),
 ∃ (s_4 : List UInt8),
 ∃ (n_8 : Int),
 ∃ (n_9 : Int),
 ∃ (n_10 : Int),
 (at1 h_3 (Array.size h) (0 : Nat) (Value.int IntKind.i64 n_6) ∧
 at1 h_3 (Array.size h) (1 : Nat) (Value.int IntKind.i64 n_7) ∧
 at1 h_3 (Array.size h) (2 : Nat) (Value.string (ByteArray.mk (List.toArray s_4))) ∧
 at1 h_3 (Array.size h) (3 : Nat) (Value.int IntKind.i64 n_8) ∧
 at1 h_3 (Array.size h) (4 : Nat) (Value.int IntKind.i64 n_9) ∧
 at1 h_3 (Array.size h) (5 : Nat) (Value.int IntKind.u64 n_10)) ∧
 CallsH Try.prog (33 : Nat)
 (TVs.vals
 [TV.agg
 [TV.int IntKind.i64 n_6, TV.int IntKind.i64 n_7, TV.str s_4,
 TV.int IntKind.i64 n_8, TV.int IntKind.i64 n_9, TV.int IntKind.u64 n_10]])
 h_3 fun (v : Value) (h_4 : Array Obj) ↦
 ∃ (s_5 : List UInt8),
 v = TV.val (TV.str s_5) ∧
 Ext h_3 h_4 ∧
 CallsH Try.prog (32 : Nat)
 (TVs.vals [TV.ptr p, TV.int IntKind.i64 n_5, TV.str s_5]) h_4
 fun (v : Value) (h_5 : Array Obj) ↦
 ∃ (n_11 : Int),
 ∃ (b_1 : Bs (32 : Nat)),
 v = TV.val (TV.tup [TV.int IntKind.i64 n_11, TV.bytes (32 : Nat) b_1]) ∧
 CallsH Try.prog (34 : Nat) (TVs.vals [TV.ptr p]) h_5
 fun (v : Value) (h_6 : Array Obj) ↦
 ∃ (s_6 : Sl),
 v = TV.val (TV.slice s_6) ∧
 Join
 (fun
 (s_7 :
 Option Go.Vc.Loc ×
 Int ×
 Int ×
 List UInt8 ×
 Int × Bs (32 : Nat) × Option Go.Vc.Loc × Int)
 (h_7 : Array Obj) ↦
 If (decide (s_7.snd.snd.snd.snd.snd.snd.snd = (1 : Int)))
 (R (TV.val (TV.bool false)) h_7)
 (If (decide (s_7.snd.snd.snd.snd.snd.snd.snd = (2 : Int)))
 (R (TV.val (TV.bool false)) h_7)
 (CallsH Try.prog (34 : Nat) (TVs.vals [TV.ptr p]) h_7
 fun (v : Value) (h : Array Obj) ↦
 ∃ (s_8 : Sl),
 v = TV.val (TV.slice s_8) ∧
 CallsH Try.prog (35 : Nat)
 (TVs.vals [TV.slice s_8, TV.slice s_6]) h
 fun (v : Value) (h : Array Obj) ↦
 ∃ (b : Bool),
 v = TV.val (TV.bool b) ∧
 If (!b) (R (TV.val (TV.bool false)) h)
 (K
 (s_1.fst,
 IntKind.wrap IntKind.i64
 (s_1.snd + (1 : Int)))
 h))))
 fun
 (J :
 Option Go.Vc.Loc ×
 Int ×
 Int ×
 List UInt8 ×
 Int × Bs (32 : Nat) × Option Go.Vc.Loc × Int →
 Array Obj → Prop) ↦
 ∃ (n : Int),
 at1 h_6 (Array.size h) (1 : Nat) (Value.int IntKind.i64 n) ∧
 ∃ (n_12 : Int),
 ∃ (n_13 : Int),
 ∃ (s : List UInt8),
 ∃ (n_14 : Int),
 ∃ (n_15 : Int),
 ∃ (n_16 : Int),
 (at1 h_6 (Array.size h) (0 : Nat)
 (Value.int IntKind.i64 n_12) ∧
 at1 h_6 (Array.size h) (1 : Nat)
 (Value.int IntKind.i64 n_13) ∧
 at1 h_6 (Array.size h) (2 : Nat)
 (Value.string
 (ByteArray.mk (List.toArray s))) ∧
 at1 h_6 (Array.size h) (3 : Nat)
 (Value.int IntKind.i64 n_14) ∧
 at1 h_6 (Array.size h) (4 : Nat)
 (Value.int IntKind.i64 n_15) ∧
 at1 h_6 (Array.size h) (5 : Nat)
 (Value.int IntKind.u64 n_16)) ∧
 (CallsH Try.prog (33 : Nat)
 (TVs.vals
 [TV.agg
 [TV.int IntKind.i64 n_12,
 TV.int IntKind.i64 n_13, TV.str s,
 TV.int IntKind.i64 n_14,
 TV.int IntKind.i64 n_15,
 TV.int IntKind.u64 n_16]])
 h_6 fun (v : Value) (h : Array Obj) ↦
 ∃ (s : List UInt8),
 v = TV.val (TV.str s) ∧
 Ext h_6 h ∧
 (CallsH Try.prog (32 : Nat)
 (TVs.vals
 [TV.ptr p,
 TV.int IntKind.i64
 (IntKind.wrap IntKind.i64
 (n + (1 : Int))),
 TV.str s])
 h
 fun (v : Value)
 (h : Array Obj) ↦
 ∃ (n_17 : Int),
 ∃ (b : Bs (32 : Nat)),
 v =
 TV.val
 (TV.tup
 [TV.int IntKind.i64
 n_17,
 TV.bytes
 (32 : Nat) b]) ∧
 Vc.Bind
 (newTV h
 (TV.bytes (32 : Nat)
 (Bs.zero
 (32 : Nat)))
 (50 : Nat))
 fun (h_7 : Array Obj) ↦
 Ext h h_7 ∧
 wok h_7 (Array.size h)
 (0 : Nat)
 (32 : Nat) ∧
 Vc.Bind
 (TV.put h_7
 (Array.size h)
 (0 : Nat)
 (TV.bytes
 (32 : Nat) b))
 fun
 (h_8 :
 Array Obj) ↦
 J
 (p, n,
 IntKind.wrap
 IntKind.i64
 (n +
 (1 :
 Int)),
 s, n_17, b,
 some
 (Loc.mk
 (Array.size
 h)
 (0 :
 Nat)),
 n_17)
 h_8) ∧
 Vc.Bind
 (newTV h
 (TV.bytes (32 : Nat)
 (Bs.zero (32 : Nat)))
 (50 : Nat))
 fun (h_7 : Array Obj) ↦
 Ext h h_7 ∧
 CallsH Try.prog (32 : Nat)
 (TVs.vals
 [TV.ptr p,
 TV.int IntKind.i64
 (IntKind.wrap
 IntKind.i64
 (n + (1 : Int))),
 TV.str s])
 h_7
 fun (v : Value)
 (h_8 : Array Obj) ↦
 ∃ (n_17 : Int),
 ∃ (b : Bs (32 : Nat)),
 v =
 TV.val
 (TV.tup
 [TV.int
 IntKind.i64
 n_17,
 TV.bytes
 (32 : Nat)
 b]) ∧
 wok h_8 (Array.size h)
 (0 : Nat)
 (32 : Nat) ∧
 Vc.Bind
 (TV.put h_8
 (Array.size h)
 (0 : Nat)
 (TV.bytes
 (32 : Nat) b))
 fun
 (h_9 :
 Array Obj) ↦
 J
 (p, n,
 IntKind.wrap
 IntKind.i64
 (n +
 (1 :
 Int)),
 s, n_17, b,
 some
 (Loc.mk
 (Array.size
 h)
 (0 :
 Nat)),
 n_17)
 h_9) ∧
 Vc.Bind
 (newTV h_6
 (TV.bytes (32 : Nat)
 (Bs.zero (32 : Nat)))
 (50 : Nat))
 fun (h : Array Obj) ↦
 Ext h_6 h ∧
 CallsH Try.prog (33 : Nat)
 (TVs.vals
 [TV.agg
 [TV.int IntKind.i64 n_12,
 TV.int IntKind.i64 n_13,
 TV.str s,
 TV.int IntKind.i64 n_14,
 TV.int IntKind.i64 n_15,
 TV.int IntKind.u64 n_16]])
 h fun (v : Value) (h_7 : Array Obj) ↦
 ∃ (s : List UInt8),
 v = TV.val (TV.str s) ∧
 Ext h h_7 ∧
 CallsH Try.prog (32 : Nat)
 (TVs.vals
 [TV.ptr p,
 TV.int IntKind.i64
 (IntKind.wrap
 IntKind.i64
 (n + (1 : Int))),
 TV.str s])
 h_7
 fun (v : Value)
 (h : Array Obj) ↦
 ∃ (n_17 : Int),
 ∃ (b : Bs (32 : Nat)),
 v =
 TV.val
 (TV.tup
 [TV.int
 IntKind.i64
 n_17,
 TV.bytes
 (32 : Nat)
 b]) ∧
 wok h (Array.size h_6)
 (0 : Nat)
 (32 : Nat) ∧
 Vc.Bind
 (TV.put h
 (Array.size h_6)
 (0 : Nat)
 (TV.bytes
 (32 : Nat) b))
 fun
 (h : Array Obj) ↦
 J
 (p, n,
 IntKind.wrap
 IntKind.i64
 (n +
 (1 : Int)),
 s, n_17, b,
 some
 (Loc.mk
 (Array.size
 h_6)
 (0 : Nat)),
 n_17)
 h)
 (K (s_1.fst, IntKind.wrap IntKind.i64 (s_1.snd + (1 : Int))) h_3))
 fun (J : Bool → Array Obj → Prop) ↦
 ∃ (n : Int),
 at1 h_2 (Array.size h) (0 : Nat) (Value.int IntKind.i64 n) ∧
 If (!decide (n = (1 : Int)))
 (∃ (n : Int),
 at1 h_2 (Array.size h) (0 : Nat) (Value.int IntKind.i64 n) ∧ J (!decide (n = (2 : Int))) h_2)
 (J false h_2))
 (CallsH Try.prog (34 : Nat) (TVs.vals [TV.ptr p]) h fun (v : Value) (h : Array Obj) ↦
 ∃ (s_2 : Sl),
 v = TV.val (TV.slice s_2) ∧
 Join
 (fun (s : Bool) (h : Array Obj) ↦
 CallsH Try.prog (32 : Nat) (TVs.vals [TV.ptr p, TV.int IntKind.i64 peer, TV.str text]) h fun (v : Value) (h : Array Obj) ↦
 ∃ (n : Int),
 ∃ (b : Bs (32 : Nat)),
 v = TV.val (TV.tup [TV.int IntKind.i64 n, TV.bytes (32 : Nat) b]) ∧
 Vc.Bind (newTV h (TV.bytes (32 : Nat) (Bs.zero (32 : Nat))) (50 : Nat)) fun (h_1 : Array Obj) ↦
 wok h_1 (Array.size h) (0 : Nat) (32 : Nat) ∧
 Vc.Bind (TV.put h_1 (Array.size h) (0 : Nat) (TV.bytes (32 : Nat) b)) fun (h : Array Obj) ↦
 If (decide (n = (5 : Int)))
 (CallsH Try.prog (34 : Nat) (TVs.vals [TV.ptr p]) h fun (v : Value) (h : Array Obj) ↦
 ∃ (s : Sl),
 v = TV.val (TV.slice s) ∧
 CallsH Try.prog (35 : Nat) (TVs.vals [TV.slice s, TV.slice s_2]) h fun (v : Value) (h : Array Obj) ↦
 ∃ (b : Bool), v = TV.val (TV.bool b) ∧ R (TV.val (TV.bool b)) h)
 (R (TV.val (TV.bool false)) h))
 fun (J : Bool → Array Obj → Prop) ↦
 CallsH Try.prog (28 : Nat) (TVs.vals [TV.str text]) h fun (v : Value) (h : Array Obj) ↦
 ∃ (n : Int),
 ∃ (n_1 : Int),
 ∃ (b : Bs (32 : Nat)),
 ∃ (n_2 : Int),
 ∃ (n_3 : Int),
 ∃ (s_3 : Sl),
 ∃ (b_1 : Bs (16 : Nat)),
 ∃ (b_2 : Bool),
 v =
 TV.val
 (TV.tup
 [TV.agg
 [TV.int IntKind.i64 n, TV.int IntKind.i64 n_1, TV.bytes (32 : Nat) b, TV.int IntKind.i64 n_2,
 TV.int IntKind.u64 n_3, TV.slice s_3, TV.bytes (16 : Nat) b_1],
 TV.bool b_2]) ∧
 Vc.Bind
 (newTV h
 (TV.agg
 [TV.int IntKind.i64 (0 : Int), TV.int IntKind.i64 (0 : Int), TV.bytes (32 : Nat) (Bs.zero (32 : Nat)),
 TV.int IntKind.i64 (0 : Int), TV.int IntKind.u64 (0 : Int), TV.slice Sl.nil,
 TV.bytes (16 : Nat) (Bs.zero (16 : Nat))])
 (63 : Nat))
 fun (h_1 : Array Obj) ↦
 wok h_1 (Array.size h) (0 : Nat) (53 : Nat) ∧
 Vc.Bind
 (TV.put h_1 (Array.size h) (0 : Nat)
 (TV.agg
 [TV.int IntKind.i64 n, TV.int IntKind.i64 n_1, TV.bytes (32 : Nat) b, TV.int IntKind.i64 n_2,
 TV.int IntKind.u64 n_3, TV.slice s_3, TV.bytes (16 : Nat) b_1]))
 fun (h_2 : Array Obj) ↦
 If b_2
 (∃ (n : Int),
 at1 h_2 (Array.size h) (0 : Nat) (Value.int IntKind.i64 n) ∧
 If (decide (n = (1 : Int))) (R (TV.val (TV.bool true)) h_2) (J s_1.fst h_2))
 (J s_1.fst h_2)))
 fun (J : Bool → Array Obj → Prop) ↦
 CallsH Try.prog (30 : Nat) (TVs.vals [TV.slice script]) h fun (v : Value) (h : Heap) ↦
 ∃ (b : Bool),
 v = TV.val (TV.bool b) ∧
 If b (R (TV.val (TV.bool true)) h)
 (If (decide ((60 : Int) < (↑script.len : Int))) (R (TV.val (TV.bool true)) h)
 (If (decide ((300 : Int) < (↑(List.length text) : Int))) (R (TV.val (TV.bool true)) h) (J false h))))

theorem tollerlaw16_OrphansRefuse_calls (script : Sl) (text : List UInt8) (peer : Int) (h : Heap) (R : Value → Heap → Prop) (H : tollerlaw16_OrphansRefuse_vc script text peer h R) : CallsH Try.prog 8 (TVs.vals [TV.slice script, TV.str text, TV.int IntKind.i64 peer]) h R :=
 vcFn_sound (C := ctx) ctx_ok (fn := Try.f8) Try.func8 ((by kernel_rfl : tollerlaw16_OrphansRefuse_vc script text peer h R = vcFn ctx Try.f8 [TV.slice script, TV.str text, TV.int IntKind.i64 peer] h R) ▸ H)


end Go.Proofs.Ytldocdpdjdekiaa
end

section
/- EarlyKeeps, EarlyParts, OrphansRefuse (numbers of seat Ytldocdpdjdekiaa). -/
namespace Go.Proofs.Ytldocdpdjdekiaa.Pool
open Go Go.Vc
open Board (Dm Ms decF nameF zeroM ms_at put_n mssz mssz1 bsz bools take_snoc docdecode_spec)

section
variable {R : Value → Heap → Prop} {h h0 h' : Heap} {o b : Nat} {A : Sl} {S : List It} {most quota : Int} {T : TypeId} {want : Int → Bool}

theorem One1.start {h1 : Heap} (w : WL T h1 (h.size + 1) h.size Sl.nil [] most quota) (x1 : Ext h h1) (hok : Ok64 most quota) : One1 T want h h1 (h.size + 1) h.size Sl.nil [] most quota := by
  have lowA : ∀ i, Mine h.size Sl.nil i → i = h.size := fun i hi => hi.elim id fun ⟨l, hl, _⟩ => by cases hl
  have h1m := hok.1
  exact ⟨w, ⟨by omega, fun i hi => by rw [lowA i hi]; exact Nat.le_refl _⟩, x1, by simp; omega, (fun x hx => by cases hx), hok⟩

theorem One1.put {q : Nat} (p : One1 T want h0 h o b A S most quota) (f : Only (· = q) h h') (h1 : q ≠ o) (h3 : ¬ Mine b A q) (h5 : h0.size ≤ q) : One1 T want h0 h' o b A S most quota :=
  ⟨p.wl.only f (fun e => h1 e.symm) (fun i hi e => h3 (e ▸ hi)), p.low, Only.cut p.old f fun i hi => by omega, p.len, p.fit, p.ok⟩

/-- Either the item is new, or nothing changes. -/
theorem putW_one {peer : Int} {t : List UInt8} (hl : S.length < 64) : ((putW want 64 64 peer t S).1 = 1 ∧ (putW want 64 64 peer t S).2.2.length = S.length + 1) ∨ (((putW want 64 64 peer t S).1 = 5 ∨ (putW want 64 64 peer t S).1 = 9) ∧ (putW want 64 64 peer t S).2.2 = S) := by
  cases hd : decF t with
  | none => rw [putW_none hd]; exact .inr ⟨.inl rfl, rfl⟩
  | some d =>
    cases hw : want d.kind with
    | false => rw [putW_no hd hw]; exact .inr ⟨.inl rfl, rfl⟩
    | true =>
      rw [putW_yes hd hw]
      have c1 : cnt (itemOf d peer t).peer S ≤ S.length := List.countP_le_length
      show ((putS 64 64 (itemOf d peer t) S).1 = 1 ∧ (putS 64 64 (itemOf d peer t) S).2.2.length = S.length + 1) ∨ (((putS 64 64 (itemOf d peer t) S).1 = 5 ∨ (putS 64 64 (itemOf d peer t) S).1 = 9) ∧ (putS 64 64 (itemOf d peer t) S).2.2 = S)
      unfold putS
      by_cases hh : has (itemOf d peer t).root S = true
      · rw [if_pos hh]; exact .inr ⟨.inr rfl, rfl⟩
      · rw [if_neg hh, if_neg (by omega), if_pos (by omega)]
        refine .inl ⟨rfl, ?_⟩
        rw [insIt_length]

/-- What came once, comes no second time. -/
theorem putW_again {peer peer2 : Int} {t : List UInt8} (hl : S.length < 64) :
    ((putW want 64 64 peer2 t (putW want 64 64 peer t S).2.2).1 = 5 ∨ (putW want 64 64 peer2 t (putW want 64 64 peer t S).2.2).1 = 9) ∧ (putW want 64 64 peer2 t (putW want 64 64 peer t S).2.2).2.2 = (putW want 64 64 peer t S).2.2 := by
  cases hd : decF t with
  | none => rw [putW_none hd, putW_none hd]; exact ⟨.inl rfl, rfl⟩
  | some d =>
    cases hw : want d.kind with
    | false => rw [putW_no hd hw, putW_no hd hw]; exact ⟨.inl rfl, rfl⟩
    | true =>
      rw [putW_yes hd hw, putW_yes hd hw]
      have hhas : has (itemOf d peer2 t).root (putS 64 64 (itemOf d peer t) S).2.2 = true := by
        rcases putS_few2 (x := itemOf d peer t) hl with ⟨h1, h2⟩ | h2
        · rw [h2]; exact h1
        · rw [h2, has_insIt]
          have : decide ((itemOf d peer t).root = (itemOf d peer2 t).root) = true := decide_eq_true rfl
          rw [this, Bool.true_or]
      show ((putS 64 64 (itemOf d peer2 t) (putS 64 64 (itemOf d peer t) S).2.2).1 = 5 ∨ (putS 64 64 (itemOf d peer2 t) (putS 64 64 (itemOf d peer t) S).2.2).1 = 9) ∧ (putS 64 64 (itemOf d peer2 t) (putS 64 64 (itemOf d peer t) S).2.2).2.2 = (putS 64 64 (itemOf d peer t) S).2.2
      generalize (putS 64 64 (itemOf d peer t) S).2.2 = S' at hhas
      unfold putS
      rw [if_pos hhas]
      exact ⟨.inr rfl, rfl⟩

/-- In order, what is ripe now and what is ripe later come as if at once. -/
theorem ripe_parts {n m : Int} (hm : n ≤ m) : ∀ {S : List It}, Srt S → (S.filter fun x => decide (x.slot < n)) ++ ((S.filter fun x => !decide (x.slot < n)).filter fun x => decide (x.slot < m)) = S.filter fun x => decide (x.slot < m)
  | [], _ => rfl
  | x :: S, hs => by
    have hs' := List.pairwise_cons.1 hs
    have ih := ripe_parts hm hs'.2
    by_cases h1 : x.slot < n
    · have h2 : x.slot < m := by omega
      simp only [List.filter_cons, h1, h2, decide_true, if_true, Bool.not_true, if_false, List.cons_append, Bool.false_eq_true]
      rw [ih]
    · have none : (S.filter fun x => decide (x.slot < n)) = [] := List.filter_eq_nil_iff.2 fun y hy => by
        have := hs'.1 y hy
        have : x.slot ≤ y.slot := by rcases bf_iff.1 this with h9 | h9 <;> omega
        simp; omega
      rw [none] at ih
      simp only [List.filter_cons, h1, decide_false, Bool.not_false, if_true, Bool.false_eq_true, if_false, none, List.nil_append]
      rw [List.nil_append] at ih
      by_cases h2 : x.slot < m
      · simp only [h2, decide_true, if_true]; rw [ih]
      · simp only [h2, decide_false, Bool.false_eq_true, if_false]; rw [ih]

theorem ripe_rest {n m : Int} (hm : n ≤ m) (S : List It) : ((S.filter fun x => !decide (x.slot < n)).filter fun x => !decide (x.slot < m)) = S.filter fun x => !decide (x.slot < m) := by
  rw [List.filter_filter]
  refine List.filter_congr fun x _ => ?_
  by_cases h1 : x.slot < m
  · simp [h1]
  · have : ¬ x.slot < n := by omega
    simp [h1, this]

theorem docdecode4_spec {s : List UInt8} (hs : s.length < 1000) (hr : ∀ h' b, Ext h h' → R (TV.tup [((dmOf s).ms b).tv, .bool (decF s).isSome]).val h') : CallsH Try.prog 28 (TVs.vals [.str s]) h R := by
  refine docdecode_spec hs (fun hn h' x => ?_) fun d h' b hd e x loc => ?_
  · have := hr h' Sl.nil
    rw [dmOf_none hn, hn] at this
    exact this x
  · have := hr h' b
    rw [dmOf_some hd, hd] at this
    exact this x

set_option maxRecDepth 100000 in
set_option maxHeartbeats 4000000 in
theorem EarlyKeeps_spec {s : Sl} {l : List Ec} {now : Int} {text : List UInt8} (e : Elems 6 h s (ecs l)) (hr : ∀ h', Ext h h' → R (TV.bool true).val h') : CallsH Try.prog 7 (TVs.vals [.slice s, .int .i64 now, .str text]) h R := by
  apply tollerlaw17_EarlyKeeps_calls
  unfold tollerlaw17_EarlyKeeps_vc
  have el := e.len
  rw [List.length_map] at el
  refine ealive_spec fun ha xa => ⟨_, rfl, If.no ?_⟩
  intro J HJ
  refine egreat_spec (e.ext xa) (fun h3 x3 => ⟨_, rfl, If.yes (hr h3 (xa.trans x3))⟩) fun hb xb h80 h300 => ⟨_, rfl, If.no ?_⟩
  have x0b := xa.trans xb
  refine If.dec.2 ⟨fun _ => hr hb x0b, fun h60 => If.dec.2 ⟨fun _ => hr hb x0b, fun ht3 => HJ _ _ ?_⟩⟩
  clear HJ J
  have htx : text.length < 1000 := by omega
  refine enew_spec (fun hx => absurd (by unfold Ok64; decide) hx) fun hok h1 w1 x1 s1 => ⟨_, rfl, ?_⟩
  have P := One1.start (want := wantE) w1 x1 hok
  refine ⟨fun σ hh => 0 ≤ σ.2 ∧ σ.2 ≤ l.length ∧ ∃ A S, One1 103 wantE hb hh (hb.size + 1) hb.size A S 64 64 ∧ σ.1 = S.length ∧ (S.length : Int) ≤ σ.2, fun σ _ => ((l.length : Int) - σ.2).toNat, ⟨Int.le_refl 0, by first | omega | (dsimp only; omega), _, _, P, rfl, Int.le_refl 0⟩, ?_⟩
  rintro ⟨cn, i⟩ h2 ⟨i0, i1, A, S, P, hcn, hSi⟩
  dsimp only at i0 i1 hcn hSi ⊢
  subst hcn
  refine If.dec.2 ⟨fun hi => ?_, fun hi => ?_⟩
  · refine ec_at ((e.ext x0b).ext P.old) i0 (by omega) fun p c _ hc => ?_
    have hbl := Ec.bytes_len (h300 c (List.mem_of_getElem? hc))
    refine newTV_in fun h3 v3 x3 s3 => put_n (t0 := Ec.zero.tv) v3 (t := c.tv) rfl rfl fun h4 v4 f4 s4 => ?_
    have x24 : Ext h2 h4 := Only.cut x3 f4 fun i hi => by omega
    have P4 := P.more x24
    have low : ∀ i, Mine hb.size A i → i < h2.size := fun i hi => P.wl.pl.lt hi
    have hol := P.wl.var.lt
    have hoo := P.old.size
    have z24 := x24.size
    intro J HJ
    have fin : ∀ (hh : Heap) (A' : Sl), One1 103 wantE hb hh (hb.size + 1) hb.size A' (putW wantE 64 64 c.peer c.bytes S).2.2 64 64 → J (putW wantE 64 64 c.peer c.bytes S).1 hh := by
      intro hh A' P'
      refine HJ _ _ ?_
      dsimp only
      rw [wrap_i64 (n := i + 1) (by omega) (by omega)]
      rcases putW_one (want := wantE) (peer := c.peer) (t := c.bytes) (S := S) (by omega) with ⟨hc1, hc2⟩ | ⟨hc1, hc2⟩
      · rw [hc1, wrap_i64 (n := (S.length : Int) + 1) (by omega) (by omega)]
        exact If.yes ⟨⟨by first | omega | (dsimp only; omega), by first | omega | (dsimp only; omega), _, _, P', by omega, by omega⟩, by first | omega | (dsimp only; omega)⟩
      · refine If.dec.2 ⟨fun h1 => by omega, fun _ => ?_⟩
        exact ⟨⟨by first | omega | (dsimp only; omega), by first | omega | (dsimp only; omega), _, _, P', by rw [hc2], by rw [hc2]; omega⟩, by first | omega | (dsimp only; omega)⟩
    refine ⟨c.peer, v4.at1 rfl, v_ec v4 ⟨etext_spec (c := c) fun h5 x5 => ⟨_, rfl, x5, ?_, ?_⟩, newTV_in fun h5 v5 x5 s5 => ⟨x5, etext_spec (c := c) fun h6 x6 => ⟨_, rfl, x6, ?_⟩⟩⟩⟩
    · have P5 := P4.more x5
      refine eput_spec P5.wl hok.1 hok.2.1 P5.len hbl fun h6 A6 w6 g6 => ⟨_, _, rfl, ?_⟩
      have P6 := P5.step w6 g6 (putW_len P5.len) (putW_mem hbl P5.fit)
      refine newTV_in fun h7 v7 x7 s7 => ⟨x7, put_n v7 rfl rfl fun h8 v8 f8 s8 => ?_⟩
      exact fin h8 A6 (P6.more (Only.cut x7 f8 fun i hi => by omega))
    · refine newTV_in fun h6 v6 x6 s6 => ⟨x6, ?_⟩
      have P6 := (P4.more x5).more x6
      have z5 := x5.size
      refine eput_spec P6.wl hok.1 hok.2.1 P6.len hbl fun h7 A7 w7 g7 => ⟨_, _, rfl, ?_⟩
      have P7 := P6.step w7 g7 (putW_len P6.len) (putW_mem hbl P6.fit)
      have nA : ¬ Mine hb.size A7 h5.size := fun hi => by
        rcases g7.new _ hi with h9 | h9
        · have := low _ h9; omega
        · omega
      refine put_n (v6.only g7.only fun hi => by have := low _ hi; omega) rfl rfl fun h8 v8 f8 s8 => ?_
      exact fin h8 A7 (P7.put f8 (by omega) nA (by omega))
    · have P6 := (P4.more x5).more x6
      have z6 := x6.size
      refine eput_spec P6.wl hok.1 hok.2.1 P6.len hbl fun h7 A7 w7 g7 => ⟨_, _, rfl, ?_⟩
      have P7 := P6.step w7 g7 (putW_len P6.len) (putW_mem hbl P6.fit)
      have nA : ¬ Mine hb.size A7 h4.size := fun hi => by
        rcases g7.new _ hi with h9 | h9
        · have := low _ h9; omega
        · omega
      refine put_n ((v5.ext x6).only g7.only fun hi => by have := low _ hi; omega) rfl rfl fun h8 v8 f8 s8 => ?_
      exact fin h8 A7 (P7.put f8 (by omega) nA (by omega))
  · refine docdecode4_spec htx fun h3 b3 x3 => ⟨_, _, _, _, _, _, _, _, rfl, ?_⟩
    refine newTV_in fun h4 v4 x4 s4 => put_n (t0 := zeroM.tv) v4 (t := ((dmOf text).ms b3).tv) mssz1 mssz fun h5 v5 f5 s5 => ?_
    have x35 : Ext h3 h5 := Only.cut x4 f5 fun i hi => by omega
    have P5 := (P.more x3).more x35
    intro J HJ
    have bad : (decF text = none ∨ (dmOf text).kind = 1) → J true h5 := by
      intro hbad
      refine HJ _ _ (If.yes ?_)
      have h5' : putW wantE 64 64 0 text S = (5, Bs.zero 32, S) := by
        rcases hbad with h1 | h1
        · exact putW_none h1
        · cases hd : decF text with
          | none => exact putW_none hd
          | some d =>
            rw [dmOf_some hd] at h1
            exact putW_no hd (by unfold wantE; rw [h1]; rfl)
      refine eput_spec P5.wl hok.1 hok.2.1 P5.len htx fun h6 A6 w6 g6 => ?_
      have w6 : WL 103 h6 (hb.size + 1) hb.size A6 (putW wantE 64 64 0 text S).2.2 64 64 := w6
      have P6 := P5.step w6 g6 (putW_len P5.len) (putW_mem htx P5.fit)
      show ∃ n b, (TV.tup [.int .i64 (putW wantE 64 64 0 text S).1, .bytes 32 (putW wantE 64 64 0 text S).2.1]).val = _ ∧ _
      rw [h5'] at P6 ⊢
      have P6 : One1 103 wantE hb h6 (hb.size + 1) hb.size A6 S 64 64 := P6
      refine ⟨_, _, rfl, newTV_in fun h7 v7 x7 s7 => put_n v7 rfl rfl fun h8 v8 f8 s8 => If.no ?_⟩
      have P8 := P6.more (Only.cut x7 f8 fun i hi => by omega)
      refine elen_spec P8.wl ⟨_, rfl, If.split (fun hbb => by simp at hbb) fun _ => ?_⟩
      refine eripe_spec P8.wl P8.text fun h9 A9 t bs w9 g9 hbs o9 out9 => ⟨_, rfl, elen_spec w9 ⟨_, rfl, ?_⟩⟩
      have lt := o9.len
      rw [List.length_map] at lt
      have lbs : bs.length = (S.filter fun x => decide (x.slot < now)).length := by have := congrArg List.length hbs; simpa using this
      have hsum : (S.filter fun x => decide (x.slot < now)).length + (S.filter fun x => !decide (x.slot < now)).length = S.length := by
        have := len_split (p := fun x : It => decide (x.slot < now)) S
        have := List.length_filter_le (fun x : It => decide (x.slot < now)) S
        omega
      have P9 := P8.step w9 g9 (by have := List.length_filter_le (fun x : It => !decide (x.slot < now)) S; have := P8.len; omega) fun x hx => P8.fit x (List.mem_filter.1 hx).1
      have hw : IntKind.wrap .i64 (((t.len : Nat) : Int) + ((S.filter fun x => !decide (x.slot < now)).length : Int)) = (S.length : Int) := by
        rw [wrap_i64 (by omega) (by omega)]; omega
      show R (TV.bool (decide (IntKind.wrap .i64 (((t.len : Nat) : Int) + ((S.filter fun x => !decide (x.slot < now)).length : Int)) = (S.length : Int)))).val h9
      rw [hw, decide_eq_true rfl]
      exact hr h9 (x0b.trans P9.old)
    have good : J false h5 := HJ _ _ (If.no (elen_spec P5.wl ⟨_, rfl, by
      rw [decide_eq_true rfl]
      exact hr h5 (x0b.trans P5.old)⟩))
    cases hd : decF text with
    | none => exact If.yes (bad (.inl hd))
    | some d =>
      refine If.no ⟨_, v5.at.1, ?_⟩
      by_cases hk : (dmOf text).kind = 1
      · have : decide (((dmOf text).ms b3).kind = 1) = true := decide_eq_true hk
        rw [this]; exact bad (.inr hk)
      · have : decide (((dmOf text).ms b3).kind = 1) = false := decide_eq_false hk
        rw [this]; exact good

end
end Go.Proofs.Ytldocdpdjdekiaa.Pool
end

section
/- The conditions of functions, as the generator reckons them out, each with the proof that it is that. -/
namespace Go.Proofs.Ytldocdpdjdekiaa
open Go Go.Vc
set_option maxRecDepth 100000
set_option linter.unusedVariables false

def tollerlaw16_Call_text_vc (c_Kind : Int) (c_Peer : Int) (c_Text : List UInt8) (c_N : Int) (c_Slot : Int) (c_Body : Int) (h : Heap) (R : Value → Heap → Prop) : Prop :=
 Vc.Bind
 (newTV h
 (TV.agg [TV.int IntKind.i64 c_Kind, TV.int IntKind.i64 c_Peer, TV.str c_Text, TV.int IntKind.i64 c_N, TV.int IntKind.i64 c_Slot, TV.int IntKind.u64 c_Body])
 (72 : Nat))
 fun (h_1 : Array Obj) ↦
 Join
 (fun (s : Int × Int × Bs (32 : Nat) × Int × Option Go.Vc.Loc) (h_2 : Array Obj) ↦
 ∃ (n : Int),
 at1 h_2 (Array.size h) (0 : Nat) (Value.int IntKind.i64 n) ∧
 If (decide (n = (3 : Int)))
 (Nn s.snd.snd.snd.snd fun (l : Go.Vc.Loc) ↦
 ∃ (n : Int),
 ∃ (n_1 : Int),
 ∃ (b : Bs (32 : Nat)),
 ∃ (n_2 : Int),
 ∃ (n_3 : Int),
 ∃ (s_1 : Sl),
 ∃ (b_1 : Bs (16 : Nat)),
 (at1 h_2 l.b l.o (Value.int IntKind.i64 n) ∧
 at1 h_2 l.b (l.o + (1 : Nat)) (Value.int IntKind.i64 n_1) ∧
 atBytes h_2 l.b (l.o + (1 : Nat) + (1 : Nat)) (32 : Nat) b ∧
 at1 h_2 l.b (l.o + (1 : Nat) + (1 : Nat) + (32 : Nat)) (Value.int IntKind.i64 n_2) ∧
 at1 h_2 l.b (l.o + (1 : Nat) + (1 : Nat) + (32 : Nat) + (1 : Nat)) (Value.int IntKind.u64 n_3) ∧
 at1 h_2 l.b (l.o + (1 : Nat) + (1 : Nat) + (32 : Nat) + (1 : Nat) + (1 : Nat)) (slVal s_1) ∧
 atBytes h_2 l.b (l.o + (1 : Nat) + (1 : Nat) + (32 : Nat) + (1 : Nat) + (1 : Nat) + (1 : Nat)) (16 : Nat) b_1) ∧
 CallsH Try.prog (57 : Nat)
 (TVs.vals
 [TV.agg
 [TV.int IntKind.i64 n, TV.int IntKind.i64 n_1, TV.bytes (32 : Nat) b, TV.int IntKind.i64 n_2, TV.int IntKind.u64 n_3,
 TV.slice s_1, TV.bytes (16 : Nat) b_1]])
 h_2 fun (v : Value) (h_3 : Array Obj) ↦
 ∃ (b : Bool),
 v = TV.val (TV.bool b) ∧
 If b
 (Nn s.snd.snd.snd.snd fun (l : Go.Vc.Loc) ↦
 ∃ (n : Int),
 ∃ (n_4 : Int),
 ∃ (b : Bs (32 : Nat)),
 ∃ (n_5 : Int),
 ∃ (n_6 : Int),
 ∃ (s : Sl),
 ∃ (b_2 : Bs (16 : Nat)),
 (at1 h_3 l.b l.o (Value.int IntKind.i64 n) ∧
 at1 h_3 l.b (l.o + (1 : Nat)) (Value.int IntKind.i64 n_4) ∧
 atBytes h_3 l.b (l.o + (1 : Nat) + (1 : Nat)) (32 : Nat) b ∧
 at1 h_3 l.b (l.o + (1 : Nat) + (1 : Nat) + (32 : Nat)) (Value.int IntKind.i64 n_5) ∧
 at1 h_3 l.b (l.o + (1 : Nat) + (1 : Nat) + (32 : Nat) + (1 : Nat)) (Value.int IntKind.u64 n_6) ∧
 at1 h_3 l.b (l.o + (1 : Nat) + (1 : Nat) + (32 : Nat) + (1 : Nat) + (1 : Nat)) (slVal s) ∧
 atBytes h_3 l.b
 (l.o + (1 : Nat) + (1 : Nat) + (32 : Nat) + (1 : Nat) + (1 : Nat) + (1 : Nat)) (16 : Nat)
 b_2) ∧
 CallsH Try.prog (58 : Nat)
 (TVs.vals
 [TV.agg
 [TV.int IntKind.i64 n, TV.int IntKind.i64 n_4, TV.bytes (32 : Nat) b, TV.int IntKind.i64 n_5,
 TV.int IntKind.u64 n_6, TV.slice s, TV.bytes (16 : Nat) b_2]])
 h_3 fun (v : Value) (h : Array Obj) ↦
 ∃ (s : List UInt8), v = TV.val (TV.str s) ∧ R (TV.val (TV.str s)) h)
 (∃ (s : List UInt8),
 at1 h_3 (Array.size h) (2 : Nat) (Value.string (ByteArray.mk (List.toArray s))) ∧ R (TV.val (TV.str s)) h_3))
 (∃ (s : List UInt8), at1 h_2 (Array.size h) (2 : Nat) (Value.string (ByteArray.mk (List.toArray s))) ∧ R (TV.val (TV.str s)) h_2))
 fun (J : Int × Int × Bs (32 : Nat) × Int × Option Go.Vc.Loc → Array Obj → Prop) ↦
 ∃ (n : Int),
 at1 h_1 (Array.size h) (4 : Nat) (Value.int IntKind.i64 n) ∧
 ∃ (n_1 : Int),
 at1 h_1 (Array.size h) (3 : Nat) (Value.int IntKind.i64 n_1) ∧
 ∃ (n_2 : Int),
 at1 h_1 (Array.size h) (5 : Nat) (Value.int IntKind.u64 n_2) ∧
 (CallsH Try.prog (56 : Nat) (TVs.vals [TV.int IntKind.i64 n_1]) h_1 fun (v : Value) (h : Array Obj) ↦
 ∃ (b : Bs (32 : Nat)),
 v = TV.val (TV.bytes (32 : Nat) b) ∧
 Ext h_1 h ∧
 Vc.Bind
 (newTV h
 (TV.agg
 [TV.int IntKind.i64 (0 : Int), TV.int IntKind.i64 (0 : Int), TV.bytes (32 : Nat) (Bs.zero (32 : Nat)),
 TV.int IntKind.i64 (0 : Int), TV.int IntKind.u64 (0 : Int), TV.slice Sl.nil, TV.bytes (16 : Nat) (Bs.zero (16 : Nat))])
 (63 : Nat))
 fun (h_2 : Array Obj) ↦
 Ext h h_2 ∧
 wok h_2 (Array.size h) (0 : Nat) (53 : Nat) ∧
 Vc.Bind
 (TV.put h_2 (Array.size h) (0 : Nat)
 (TV.agg
 [TV.int IntKind.i64 (1 : Int), TV.int IntKind.i64 n, TV.bytes (32 : Nat) b, TV.int IntKind.i64 (0 : Int),
 TV.int IntKind.u64 n_2, TV.slice Sl.nil, TV.bytes (16 : Nat) (Bs.zero (16 : Nat))]))
 fun (h_3 : Array Obj) ↦ J (n, n_1, b, n_2, some (Loc.mk (Array.size h) (0 : Nat))) h_3) ∧
 Vc.Bind
 (newTV h_1
 (TV.agg
 [TV.int IntKind.i64 (0 : Int), TV.int IntKind.i64 (0 : Int), TV.bytes (32 : Nat) (Bs.zero (32 : Nat)), TV.int IntKind.i64 (0 : Int),
 TV.int IntKind.u64 (0 : Int), TV.slice Sl.nil, TV.bytes (16 : Nat) (Bs.zero (16 : Nat))])
 (63 : Nat))
 fun (h : Array Obj) ↦
 Ext h_1 h ∧
 CallsH Try.prog (56 : Nat) (TVs.vals [TV.int IntKind.i64 n_1]) h fun (v : Value) (h_2 : Array Obj) ↦
 ∃ (b : Bs (32 : Nat)),
 v = TV.val (TV.bytes (32 : Nat) b) ∧
 Ext h h_2 ∧
 wok h_2 (Array.size h_1) (0 : Nat) (53 : Nat) ∧
 Vc.Bind
 (TV.put h_2 (Array.size h_1) (0 : Nat)
 (TV.agg
 [TV.int IntKind.i64 (1 : Int), TV.int IntKind.i64 n, TV.bytes (32 : Nat) b, TV.int IntKind.i64 (0 : Int),
 TV.int IntKind.u64 n_2, TV.slice Sl.nil, TV.bytes (16 : Nat) (Bs.zero (16 : Nat))]))
 fun (h : Array Obj) ↦ J (n, n_1, b, n_2, some (Loc.mk (Array.size h_1) (0 : Nat))) h

theorem tollerlaw16_Call_text_calls (c_Kind : Int) (c_Peer : Int) (c_Text : List UInt8) (c_N : Int) (c_Slot : Int) (c_Body : Int) (h : Heap) (R : Value → Heap → Prop) (H : tollerlaw16_Call_text_vc c_Kind c_Peer c_Text c_N c_Slot c_Body h R) : CallsH Try.prog 33 (TVs.vals [TV.agg [TV.int IntKind.i64 c_Kind, TV.int IntKind.i64 c_Peer, TV.str c_Text, TV.int IntKind.i64 c_N, TV.int IntKind.i64 c_Slot, TV.int IntKind.u64 c_Body]]) h R :=
 vcFn_sound (C := ctx) ctx_ok (fn := Try.f33) Try.func33 ((by kernel_rfl : tollerlaw16_Call_text_vc c_Kind c_Peer c_Text c_N c_Slot c_Body h R = vcFn ctx Try.f33 [TV.agg [TV.int IntKind.i64 c_Kind, TV.int IntKind.i64 c_Peer, TV.str c_Text, TV.int IntKind.i64 c_N, TV.int IntKind.i64 c_Slot, TV.int IntKind.u64 c_Body]] h R) ▸ H)


def tollerlaw16_great_vc (script : Sl) (h : Heap) (R : Value → Heap → Prop) : Prop :=
 If (decide ((80 : Int) < (↑script.len : Int))) (R (TV.val (TV.bool true)) h)
 (Go.Vc.Loop (false, (0 : Int)) h fun (s : Bool × Int) (h : Array Obj) (K : Bool × Int → Array Obj → Prop) ↦
 If (decide (s.snd < (↑script.len : Int)))
 ((0 : Int) ≤ s.snd ∧
 s.snd < (↑script.len : Int) ∧
 Nn script.a fun (l : Go.Vc.Loc) ↦
 ∃ (n : Int),
 ∃ (n_1 : Int),
 ∃ (s_1 : List UInt8),
 ∃ (n_2 : Int),
 ∃ (n_3 : Int),
 ∃ (n_4 : Int),
 (at1 h l.b (l.o + Int.toNat s.snd * (6 : Nat)) (Value.int IntKind.i64 n) ∧
 at1 h l.b (l.o + Int.toNat s.snd * (6 : Nat) + (1 : Nat)) (Value.int IntKind.i64 n_1) ∧
 at1 h l.b (l.o + Int.toNat s.snd * (6 : Nat) + (1 : Nat) + (1 : Nat)) (Value.string (ByteArray.mk (List.toArray s_1))) ∧
 at1 h l.b (l.o + Int.toNat s.snd * (6 : Nat) + (1 : Nat) + (1 : Nat) + (1 : Nat)) (Value.int IntKind.i64 n_2) ∧
 at1 h l.b (l.o + Int.toNat s.snd * (6 : Nat) + (1 : Nat) + (1 : Nat) + (1 : Nat) + (1 : Nat)) (Value.int IntKind.i64 n_3) ∧
 at1 h l.b (l.o + Int.toNat s.snd * (6 : Nat) + (1 : Nat) + (1 : Nat) + (1 : Nat) + (1 : Nat) + (1 : Nat))
 (Value.int IntKind.u64 n_4)) ∧
 Vc.Bind
 (newTV h
 (TV.agg
 [TV.int IntKind.i64 (0 : Int), TV.int IntKind.i64 (0 : Int), TV.str [], TV.int IntKind.i64 (0 : Int),
 TV.int IntKind.i64 (0 : Int), TV.int IntKind.u64 (0 : Int)])
 (72 : Nat))
 fun (h_1 : Array Obj) ↦
 wok h_1 (Array.size h) (0 : Nat) (6 : Nat) ∧
 Vc.Bind
 (TV.put h_1 (Array.size h) (0 : Nat)
 (TV.agg
 [TV.int IntKind.i64 n, TV.int IntKind.i64 n_1, TV.str s_1, TV.int IntKind.i64 n_2, TV.int IntKind.i64 n_3,
 TV.int IntKind.u64 n_4]))
 fun (h_2 : Array Obj) ↦
 ∃ (s_2 : List UInt8),
 at1 h_2 (Array.size h) (2 : Nat) (Value.string (ByteArray.mk (List.toArray s_2))) ∧
 If (decide ((300 : Int) < (↑(List.length s_2) : Int))) (R (TV.val (TV.bool true)) h_2)
 (K (s.fst, IntKind.wrap IntKind.i64 (s.snd + (1 : Int))) h_2))
 (R (TV.val (TV.bool false)) h))

theorem tollerlaw16_great_calls (script : Sl) (h : Heap) (R : Value → Heap → Prop) (H : tollerlaw16_great_vc script h R) : CallsH Try.prog 30 (TVs.vals [TV.slice script]) h R :=
 vcFn_sound (C := ctx) ctx_ok (fn := Try.f30) Try.func30 ((by kernel_rfl : tollerlaw16_great_vc script h R = vcFn ctx Try.f30 [TV.slice script] h R) ▸ H)


def tollerlaw16_alive_vc (h : Heap) (R : Value → Heap → Prop) : Prop :=
 CallsH Try.prog (31 : Nat) (TVs.vals [TV.int IntKind.i64 (2 : Int), TV.int IntKind.i64 (2 : Int)]) h fun (v : Value) (h : Heap) ↦
 ∃ (p : Option Go.Vc.Loc),
 v = TV.val (TV.ptr p) ∧
 Vc.Bind
 (newTV h
 (TV.agg
 [TV.int IntKind.i64 (0 : Int), TV.int IntKind.i64 (0 : Int), TV.str [], TV.int IntKind.i64 (0 : Int), TV.int IntKind.i64 (0 : Int),
 TV.int IntKind.u64 (0 : Int)])
 (72 : Nat))
 fun (h_1 : Array Obj) ↦
 wok h_1 (Array.size h) (0 : Nat) (6 : Nat) ∧
 Vc.Bind
 (TV.put h_1 (Array.size h) (0 : Nat)
 (TV.agg
 [TV.int IntKind.i64 (3 : Int), TV.int IntKind.i64 (0 : Int), TV.str [], TV.int IntKind.i64 (5 : Int), TV.int IntKind.i64 (7 : Int),
 TV.int IntKind.u64 (0 : Int)]))
 fun (h_2 : Array Obj) ↦
 ∃ (n : Int),
 ∃ (n_1 : Int),
 ∃ (s : List UInt8),
 ∃ (n_2 : Int),
 ∃ (n_3 : Int),
 ∃ (n_4 : Int),
 (at1 h_2 (Array.size h) (0 : Nat) (Value.int IntKind.i64 n) ∧
 at1 h_2 (Array.size h) (1 : Nat) (Value.int IntKind.i64 n_1) ∧
 at1 h_2 (Array.size h) (2 : Nat) (Value.string (ByteArray.mk (List.toArray s))) ∧
 at1 h_2 (Array.size h) (3 : Nat) (Value.int IntKind.i64 n_2) ∧
 at1 h_2 (Array.size h) (4 : Nat) (Value.int IntKind.i64 n_3) ∧ at1 h_2 (Array.size h) (5 : Nat) (Value.int IntKind.u64 n_4)) ∧
 CallsH Try.prog (33 : Nat)
 (TVs.vals
 [TV.agg
 [TV.int IntKind.i64 n, TV.int IntKind.i64 n_1, TV.str s, TV.int IntKind.i64 n_2, TV.int IntKind.i64 n_3,
 TV.int IntKind.u64 n_4]])
 h_2 fun (v : Value) (h : Array Obj) ↦
 ∃ (s : List UInt8),
 v = TV.val (TV.str s) ∧
 CallsH Try.prog (32 : Nat) (TVs.vals [TV.ptr p, TV.int IntKind.i64 (1 : Int), TV.str s]) h fun (v : Value) (h : Array Obj) ↦
 ∃ (n : Int),
 ∃ (b : Bs (32 : Nat)),
 v = TV.val (TV.tup [TV.int IntKind.i64 n, TV.bytes (32 : Nat) b]) ∧
 Vc.Bind (newTV h (TV.bytes (32 : Nat) (Bs.zero (32 : Nat))) (50 : Nat)) fun (h_3 : Array Obj) ↦
 wok h_3 (Array.size h) (0 : Nat) (32 : Nat) ∧
 Vc.Bind (TV.put h_3 (Array.size h) (0 : Nat) (TV.bytes (32 : Nat) b)) fun (h : Array Obj) ↦
 CallsH Try.prog (32 : Nat)
 (TVs.vals [TV.ptr p, TV.int IntKind.i64 (1 : Int), TV.str (ByteArray.mk #[(120 : UInt8)]).data.toList]) h
 fun (v : Value) (h : Array Obj) ↦
 ∃ (n_5 : Int),
 ∃ (b : Bs (32 : Nat)),
 v = TV.val (TV.tup [TV.int IntKind.i64 n_5, TV.bytes (32 : Nat) b]) ∧
 Vc.Bind (newTV h (TV.bytes (32 : Nat) (Bs.zero (32 : Nat))) (50 : Nat)) fun (h_4 : Array Obj) ↦
 wok h_4 (Array.size h) (0 : Nat) (32 : Nat) ∧
 Vc.Bind (TV.put h_4 (Array.size h) (0 : Nat) (TV.bytes (32 : Nat) b)) fun (h : Array Obj) ↦
 CallsH Try.prog (56 : Nat) (TVs.vals [TV.int IntKind.i64 (5 : Int)]) h
 fun (v : Value) (h : Array Obj) ↦
 ∃ (b : Bs (32 : Nat)),
 v = TV.val (TV.bytes (32 : Nat) b) ∧
 CallsH Try.prog (67 : Nat) (TVs.vals [TV.ptr p, TV.bytes (32 : Nat) b]) h
 fun (v : Value) (h : Array Obj) ↦
 ∃ (s : Sl),
 v = TV.val (TV.slice s) ∧
 If (decide (n = (1 : Int)))
 (If (decide (n_5 = (5 : Int)))
 (If (decide ((↑s.len : Int) = (1 : Int)))
 ((0 : Int) ≤ (0 : Int) ∧
 (0 : Int) < (↑s.len : Int) ∧
 Nn s.a fun (l : Go.Vc.Loc) ↦
 ∃ (n : Int),
 at1 h l.b
 (l.o + Int.toNat (0 : Int) * (85 : Nat) + (32 : Nat) + (1 : Nat))
 (Value.int IntKind.i64 n) ∧
 If (decide (n = (7 : Int)))
 (CallsH Try.prog (43 : Nat) (TVs.vals [TV.ptr p]) h
 fun (v : Value) (h : Array Obj) ↦
 ∃ (n : Int),
 v = TV.val (TV.int IntKind.i64 n) ∧
 R (TV.val (TV.bool (decide (n = (0 : Int))))) h)
 (R (TV.val (TV.bool false)) h))
 (R (TV.val (TV.bool false)) h))
 (R (TV.val (TV.bool false)) h))
 (R (TV.val (TV.bool false)) h)

theorem tollerlaw16_alive_calls (h : Heap) (R : Value → Heap → Prop) (H : tollerlaw16_alive_vc h R) : CallsH Try.prog 29 (TVs.vals []) h R :=
 vcFn_sound (C := ctx) ctx_ok (fn := Try.f29) Try.func29 ((by kernel_rfl : tollerlaw16_alive_vc h R = vcFn ctx Try.f29 [] h R) ▸ H)


end Go.Proofs.Ytldocdpdjdekiaa
end

section
/- Laws of blocks that wait: a call as bytes, that something is done at all, both do the same. -/
namespace Go.Proofs.Ytldocdpdjdekiaa.Pool
open Go Go.Vc
open Board (Dm Ms decF nameF zeroM ms_at put_n mssz mssz1 docgood_spec docbytes_spec BodyOk bsz bools take_snoc bytesF bytesF_len good_kind msame_spec goodF read_bool)

/-- A call of the laws. -/
structure Oc where
  kind : Int
  peer : Int
  text : List UInt8
  n : Int
  slot : Int
  body : Int
  hb : 0 ≤ body ∧ body < 18446744073709551616
def Oc.tv (c : Oc) : TV := .agg [.int .i64 c.kind, .int .i64 c.peer, .str c.text, .int .i64 c.n, .int .i64 c.slot, .int .u64 c.body]
instance : Inhabited Oc := ⟨⟨0, 0, [], 0, 0, 0, by decide⟩⟩
def Oc.zero : Oc := default
def Oc.ms (c : Oc) : Ms := ⟨1, c.slot, name c.n, 0, c.body, Sl.nil, Bs.zero 16⟩
def Oc.bytes (c : Oc) : List UInt8 := if c.kind = 3 ∧ goodF c.ms [] = true then bytesF c.ms [] else c.text
abbrev ocs (l : List Oc) : List TV := l.map Oc.tv
theorem Oc.size (c : Oc) : c.tv.size = 6 := rfl
def wantO (k : Int) : Bool := decide (k = 1)

theorem Oc.bytes_len {c : Oc} (h : c.text.length ≤ 300) : c.bytes.length < 1000 := by
  unfold Oc.bytes
  split
  · have := bytesF_len c.ms []
    simp only [List.length_nil] at this
    omega
  · omega

section
variable {R : Value → Heap → Prop} {h : Heap}

theorem oc_at {s : Sl} {l : List Oc} {i : Int} (e : Elems 6 h s (ocs l)) (i0 : 0 ≤ i) (i1 : i < l.length) {K : Vc.Loc → Int → Int → List UInt8 → Int → Int → Int → Prop}
    (hk : ∀ p x, s.a = some p → l[i.toNat]? = some x → K p x.kind x.peer x.text x.n x.slot x.body) :
    0 ≤ i ∧ i < (s.len : Int) ∧ Nn s.a fun (p : Vc.Loc) => ∃ (n : Int), ∃ (n_1 : Int), ∃ (t : List UInt8), ∃ (n_2 : Int), ∃ (n_3 : Int), ∃ (n_4 : Int), (at1 h p.b (p.o + i.toNat * 6) (.int .i64 n) ∧ at1 h p.b (p.o + i.toNat * 6 + 1) (.int .i64 n_1) ∧ at1 h p.b (p.o + i.toNat * 6 + 1 + 1) (.string (ByteArray.mk (List.toArray t))) ∧ at1 h p.b (p.o + i.toNat * 6 + 1 + 1 + 1) (.int .i64 n_2) ∧ at1 h p.b (p.o + i.toNat * 6 + 1 + 1 + 1 + 1) (.int .i64 n_3) ∧ at1 h p.b (p.o + i.toNat * 6 + 1 + 1 + 1 + 1 + 1) (.int .u64 n_4)) ∧ K p n n_1 t n_2 n_3 n_4 := by
  have hl := e.len
  rw [List.length_map] at hl
  refine e.read i0 (by omega) fun p t hla ht ha => ?_
  rw [List.getElem?_map] at ht
  obtain ⟨x, hx, rfl⟩ := Option.map_eq_some_iff.1 ht
  exact ⟨_, _, _, _, _, _, ha, hk p x hla hx⟩

theorem v_oc {T : TypeId} {b : Nat} {c : Oc} (v : Var T h b c.tv) {K : Int → Int → List UInt8 → Int → Int → Int → Prop} (hk : K c.kind c.peer c.text c.n c.slot c.body) :
    ∃ (n : Int), ∃ (n_1 : Int), ∃ (t : List UInt8), ∃ (n_2 : Int), ∃ (n_3 : Int), ∃ (n_4 : Int), (at1 h b 0 (.int .i64 n) ∧ at1 h b 1 (.int .i64 n_1) ∧ at1 h b 2 (.string (ByteArray.mk (List.toArray t))) ∧ at1 h b 3 (.int .i64 n_2) ∧ at1 h b 4 (.int .i64 n_3) ∧ at1 h b 5 (.int .u64 n_4)) ∧ K n n_1 t n_2 n_3 n_4 :=
  ⟨_, _, _, _, _, _, v.at, hk⟩

theorem text_spec {c : Oc} (hr : ∀ h', Ext h h' → R (TV.str c.bytes).val h') : CallsH Try.prog 33 (TVs.vals [c.tv]) h R := by
  apply tollerlaw16_Call_text_calls c.kind c.peer c.text c.n c.slot c.body
  unfold tollerlaw16_Call_text_vc
  refine newTV_in fun h1 v1 x1 s1 => ?_
  have v1 : Var 72 h1 h.size c.tv := v1
  intro J HJ
  have fin : ∀ (hh : Heap) (q : Nat) (a : Int × Int × Bs 32 × Int × Option Vc.Loc), a.2.2.2.2 = some ⟨q, 0⟩ → Ext h1 hh → Var 63 hh q c.ms.tv → J a hh := by
    intro hh q a ha xh vq
    refine HJ a hh ?_
    dsimp only
    rw [ha]
    have x0 := x1.trans xh
    have vh := v1.ext xh
    refine ⟨c.kind, vh.at1 rfl, If.dec.2 ⟨fun k3 => ?_, fun k3 => ?_⟩⟩
    · refine ms_at vq (docgood_spec (m := c.ms) (row := []) (Elems.nil_ 1 hh) (by decide) fun h2 x2 => ⟨_, rfl, ?_⟩)
      cases hg : goodF c.ms [] with
      | true =>
        refine If.yes (ms_at (vq.ext x2) (docbytes_spec (m := c.ms) (row := []) (Elems.nil_ 1 h2) (by decide) (.inl rfl) c.hb fun h3 x3 => ⟨_, rfl, ?_⟩))
        have hb : c.bytes = bytesF c.ms [] := if_pos ⟨k3, hg⟩
        rw [← hb]
        exact hr h3 ((x0.trans x2).trans x3)
      | false =>
        refine If.no ⟨_, (vh.ext x2).at1 rfl, ?_⟩
        have hb : c.bytes = c.text := if_neg (by rw [hg]; rintro ⟨_, h⟩; cases h)
        rw [← hb]
        exact hr h2 (x0.trans x2)
    · refine ⟨_, vh.at1 rfl, ?_⟩
      have hb : c.bytes = c.text := if_neg (fun h => k3 h.1)
      rw [← hb]
      exact hr hh x0
  clear HJ
  refine ⟨_, v1.at1 rfl, _, v1.at1 rfl, _, v1.at1 rfl, ⟨name_spec fun h2 x2 => ⟨_, rfl, x2, newTV_in fun h3 v3 x3 s3 => ⟨x3, put_n (t0 := zeroM.tv) v3 (t := c.ms.tv) mssz1 mssz fun h4 v4 f4 s4 => ?_⟩⟩, newTV_in fun h2 v2 x2 s2 => ⟨x2, name_spec fun h3 x3 => ⟨_, rfl, x3, put_n (t0 := zeroM.tv) (v2.ext x3) (t := c.ms.tv) mssz1 mssz fun h4 v4 f4 s4 => ?_⟩⟩⟩⟩
  · exact fin h4 _ _ rfl (x2.trans (Only.cut x3 f4 fun i hi => by omega)) v4
  · exact fin h4 _ _ rfl (Only.cut (x2.trans x3) f4 fun i hi => by omega) v4

theorem great_spec {s : Sl} {l : List Oc} (e : Elems 6 h s (ocs l)) (hy : ∀ h', Ext h h' → R (TV.bool true).val h') (hn : ∀ h', Ext h h' → l.length ≤ 80 → (∀ c ∈ l, c.text.length ≤ 300) → R (TV.bool false).val h') : CallsH Try.prog 30 (TVs.vals [.slice s]) h R := by
  apply tollerlaw16_great_calls
  unfold tollerlaw16_great_vc
  have el := e.len
  rw [List.length_map] at el
  refine If.dec.2 ⟨fun _ => hy h (Ext.refl _), fun h80 => ?_⟩
  refine ⟨fun σ hh => 0 ≤ σ.2 ∧ σ.2 ≤ l.length ∧ Ext h hh ∧ ∀ c ∈ l.take σ.2.toNat, c.text.length ≤ 300, fun σ _ => ((l.length : Int) - σ.2).toNat, ⟨Int.le_refl 0, by first | omega | (dsimp only; omega), Ext.refl _, fun c hc => by simp at hc⟩, ?_⟩
  rintro ⟨f, i⟩ h1 ⟨i0, i1, x1, hall⟩
  dsimp only at i0 i1 hall ⊢
  refine If.dec.2 ⟨fun hi => ?_, fun hi => ?_⟩
  · refine oc_at (e.ext x1) i0 (by omega) fun p c _ hc => ?_
    refine newTV_in fun h2 v2 x2 s2 => put_n (t0 := Oc.zero.tv) v2 (t := c.tv) rfl rfl fun h3 v3 f3 s3 => ⟨c.text, v3.at1 rfl, ?_⟩
    have x3 : Ext h h3 := x1.trans (Only.cut x2 f3 fun i hi => by omega)
    refine If.dec.2 ⟨fun _ => hy h3 x3, fun h300 => ?_⟩
    rw [wrap_i64 (n := i + 1) (by omega) (by omega)]
    refine ⟨⟨by first | omega | (dsimp only; omega), by first | omega | (dsimp only; omega), x3, ?_⟩, by first | omega | (dsimp only; omega)⟩
    try dsimp only
    rw [show (i + 1).toNat = i.toNat + 1 by omega, take_snoc hc]
    intro c' hc'
    rcases List.mem_append.1 hc' with h1' | h1'
    · exact hall c' h1'
    · rw [List.mem_singleton.1 h1']; omega
  · rw [List.take_of_length_le (by omega)] at hall
    exact hn h1 x1 (by omega) hall

/-! ### That something is done -/

def c5 : Oc := ⟨3, 0, [], 5, 7, 0, by decide⟩

set_option maxRecDepth 1000000 in
theorem c5_dec : (decF c5.bytes).map (fun d => (d.kind, d.slot, d.target.l)) = some (1, 7, (name 5).l) := by decide +kernel
theorem x_dec : decF (ByteArray.mk #[(120 : UInt8)]).data.toList = none := by decide +kernel
set_option maxRecDepth 1000000 in
theorem c5_len : c5.bytes.length < 1000 := by decide +kernel

theorem putS_first (x : It) : putS 2 2 x [] = (1, It.zero, [x]) := rfl

set_option maxRecDepth 100000 in
theorem oalive_spec (hr : ∀ h', Ext h h' → R (TV.bool true).val h') : CallsH Try.prog 29 (TVs.vals []) h R := by
  apply tollerlaw16_alive_calls
  unfold tollerlaw16_alive_vc
  obtain ⟨d, hd, hk, hs, ht⟩ : ∃ d, decF c5.bytes = some d ∧ d.kind = 1 ∧ d.slot = 7 ∧ d.target = name 5 := by
    have := c5_dec
    cases hx : decF c5.bytes with
    | none => rw [hx] at this; cases this
    | some d =>
      rw [hx] at this
      have := Option.some.inj this
      injection this with h1 h2
      injection h2 with h2 h3
      exact ⟨d, rfl, h1, h2, Bs.ext' h3⟩
  have hput : putW (fun k => decide (k = 1)) 2 2 1 c5.bytes [] = (1, Bs.zero 32, [itemOf d 1 c5.bytes]) := by
    rw [putW_yes hd (by rw [hk]; rfl), putS_first]
    rfl
  have hput2 : putW (fun k => decide (k = 1)) 2 2 1 (ByteArray.mk #[(120 : UInt8)]).data.toList [itemOf d 1 c5.bytes] = (5, Bs.zero 32, [itemOf d 1 c5.bytes]) := putW_none x_dec
  refine onew_spec (fun hn => absurd (by unfold Ok64; decide) hn) fun hok h1 w1 x1 s1 => ⟨_, rfl, ?_⟩
  refine newTV_in fun h2 v2 x2 s2 => put_n (t0 := Oc.zero.tv) v2 (t := c5.tv) rfl rfl fun h3 v3 f3 s3 => v_oc v3 (text_spec (c := c5) fun h4 x4 => ⟨_, rfl, ?_⟩)
  have x14 : Ext h1 h4 := (Only.cut x2 f3 fun i hi => by omega : Ext h1 h3).trans x4
  have w4 := w1.ext x14
  have z14 := x14.size
  refine oput_spec w4 (by decide) (by decide) (by decide) c5_len fun h5 A5 w5 g5 => ?_
  rw [hput] at w5 ⊢
  refine ⟨_, _, rfl, newTV_in fun h6 v6 x6 s6 => put_n v6 (t := .bytes 32 (Bs.zero 32)) rfl rfl fun h7 v7 f7 s7 => ?_⟩
  have x57 : Ext h5 h7 := Only.cut x6 f7 fun i hi => by omega
  refine oput_spec (w5.ext x57) (by decide) (by decide) (by show ((1 : Nat) : Int) ≤ 2; decide) (by decide) fun h8 A8 w8 g8 => ?_
  rw [hput2] at w8 ⊢
  refine ⟨_, _, rfl, newTV_in fun h9 v9 x9 s9 => put_n v9 (t := .bytes 32 (Bs.zero 32)) rfl rfl fun h10 v10 f10 s10 => ?_⟩
  have x810 : Ext h8 h10 := Only.cut x9 f10 fun i hi => by omega
  have hf1 : [itemOf d 1 c5.bytes].filter (fun x => decide (x.fr = name 5)) = [itemOf d 1 c5.bytes] := by
    have : decide ((itemOf d 1 c5.bytes).fr = name 5) = true := decide_eq_true ht
    simp [List.filter, this]
  have hf2 : [itemOf d 1 c5.bytes].filter (fun x => !decide (x.fr = name 5)) = [] := by
    have : decide ((itemOf d 1 c5.bytes).fr = name 5) = true := decide_eq_true ht
    simp [List.filter, this]
  refine name_spec fun h11 x11 => ⟨_, rfl, ?_⟩
  refine oof_spec ((w8.ext x810).ext x11) (fun x hx => by rw [List.mem_singleton.1 hx]; exact c5_len) fun h12 A12 t bs w12 g12 hbs o12 out12 => ⟨_, rfl, ?_⟩
  rw [hf2] at w12
  rw [hf1] at hbs
  obtain ⟨k, rfl⟩ : ∃ k, bs = [k] := by
    have := congrArg List.length hbs
    rw [List.length_map] at this
    exact List.length_eq_one_iff.1 this
  have tl : 1 = t.len := by have := o12.len; simpa using this
  have hkd : k.d = d := by
    have h1' : (k.r, k.d) = ((itemOf d 1 c5.bytes).root, dmOf c5.bytes) := List.head_eq_of_cons_eq hbs
    injection h1' with h2' h3'
    rw [h3', dmOf_some hd]
  have lowA : ∀ i, Mine h.size Sl.nil i → i = h.size := fun i hi => hi.elim id fun ⟨l, hl, _⟩ => by cases hl
  refine If.yes (If.yes (If.dec.2 ⟨fun _ => ?_, fun hx => absurd (by rw [← tl]; rfl) hx⟩))
  refine o12.elems.read (i := 0) (by decide) (by rw [← tl]; decide) fun l tt hla htt hat => ?_
  obtain rfl : k.tvB = tt := Option.some.inj htt
  refine ⟨k.d.slot, hat.2.2.1, ?_⟩
  rw [hkd, hs]
  refine If.yes (olen_spec w12 ⟨_, rfl, ?_⟩)
  have g1 : One1 128 (fun k => decide (k = 1)) h h1 (h.size + 1) h.size Sl.nil [] 2 2 := ⟨w1, ⟨by omega, fun i hi => by rw [lowA i hi]; exact Nat.le_refl _⟩, x1, by decide, (fun x hx => by cases hx), hok⟩
  have fit : ∀ x ∈ [itemOf d 1 c5.bytes], Fit (fun k => decide (k = 1)) x := fun x hx => by rw [List.mem_singleton.1 hx]; exact ⟨c5_len, d, hd, by rw [hk]; rfl, rfl⟩
  have g5' := (g1.more x14).step w5 g5 (by show ((1 : Nat) : Int) ≤ 2; decide) fit
  have g8' := (g5'.more x57).step w8 g8 (by show ((1 : Nat) : Int) ≤ 2; decide) fit
  have g12' := ((g8'.more x810).more x11).step w12 g12 (by decide) (fun x hx => by cases hx)
  exact hr h12 g12'.old

end
end Go.Proofs.Ytldocdpdjdekiaa.Pool
end

section
/- OrphansRefuse (numbers of seat Ytldocdpdjdekiaa). -/
namespace Go.Proofs.Ytldocdpdjdekiaa.Pool
open Go Go.Vc
open Board (Dm Ms decF nameF zeroM ms_at put_n mssz mssz1 bsz bools take_snoc docdecode_spec)

section
variable {R : Value → Heap → Prop} {h h0 h' : Heap} {o b : Nat} {A : Sl} {S : List It} {most quota : Int}

set_option maxRecDepth 100000 in
set_option maxHeartbeats 4000000 in
theorem OrphansRefuse_spec {s : Sl} {l : List Oc} {peer : Int} {text : List UInt8} (e : Elems 6 h s (ocs l)) (hr : ∀ h', Ext h h' → R (TV.bool true).val h') : CallsH Try.prog 8 (TVs.vals [.slice s, .str text, .int .i64 peer]) h R := by
  apply tollerlaw16_OrphansRefuse_calls
  unfold tollerlaw16_OrphansRefuse_vc
  have el := e.len
  rw [List.length_map] at el
  refine oalive_spec fun ha xa => ⟨_, rfl, If.no ?_⟩
  intro J HJ
  refine great_spec (e.ext xa) (fun h3 x3 => ⟨_, rfl, If.yes (hr h3 (xa.trans x3))⟩) fun hb xb h80 h300 => ⟨_, rfl, If.no ?_⟩
  have x0b := xa.trans xb
  refine If.dec.2 ⟨fun _ => hr hb x0b, fun h60 => If.dec.2 ⟨fun _ => hr hb x0b, fun ht3 => HJ _ _ ?_⟩⟩
  clear HJ J
  have htx : text.length < 1000 := by omega
  refine onew_spec (fun hx => absurd (by unfold Ok64; decide) hx) fun hok h1 w1 x1 s1 => ⟨_, rfl, ?_⟩
  have P := One1.start (want := wantO) w1 x1 hok
  refine ⟨fun σ hh => 0 ≤ σ.2 ∧ σ.2 ≤ l.length ∧ ∃ A S, One1 128 wantO hb hh (hb.size + 1) hb.size A S 64 64 ∧ (S.length : Int) ≤ σ.2, fun σ _ => ((l.length : Int) - σ.2).toNat, ⟨Int.le_refl 0, by first | omega | (dsimp only; omega), _, _, P, Int.le_refl 0⟩, ?_⟩
  rintro ⟨f, i⟩ h2 ⟨i0, i1, A, S, P, hSi⟩
  dsimp only at i0 i1 hSi ⊢
  refine If.dec.2 ⟨fun hi => ?_, fun hi => ?_⟩
  · refine oc_at ((e.ext x0b).ext P.old) i0 (by omega) fun p c _ hc => ?_
    have hbl := Oc.bytes_len (h300 c (List.mem_of_getElem? hc))
    refine newTV_in fun h3 v3 x3 s3 => put_n (t0 := Oc.zero.tv) v3 (t := c.tv) rfl rfl fun h4 v4 f4 s4 => ?_
    have x24 : Ext h2 h4 := Only.cut x3 f4 fun i hi => by omega
    have P4 := P.more x24
    have low : ∀ i, Mine hb.size A i → i < h2.size := fun i hi => P.wl.pl.lt hi
    have hol := P.wl.var.lt
    have hoo := P.old.size
    have z24 := x24.size
    intro J HJ
    have skip : J false h4 := by
      refine HJ _ _ (If.no ?_)
      rw [wrap_i64 (n := i + 1) (by omega) (by omega)]
      exact ⟨⟨by first | omega | (dsimp only; omega), by first | omega | (dsimp only; omega), _, _, P4, by first | omega | (dsimp only; omega)⟩, by first | omega | (dsimp only; omega)⟩
    have work : J true h4 := by
      refine HJ _ _ (If.yes ⟨c.peer, v4.at1 rfl, v_oc v4 (text_spec (c := c) fun h5 x5 => ⟨_, rfl, x5, ?_⟩)⟩)
      have P5 := P4.more x5
      refine oput_spec P5.wl hok.1 hok.2.1 P5.len hbl fun h6 A6 w6 g6 => ⟨_, _, rfl, ?_⟩
      have P6 : One1 128 wantO hb h6 (hb.size + 1) hb.size A6 (putW wantO 64 64 c.peer c.bytes S).2.2 64 64 := P5.step w6 g6 (putW_len P5.len) (putW_mem hbl P5.fit)
      have v6 : Var 72 h6 h2.size c.tv := (v4.ext x5).only g6.only fun hi => by have := low _ hi; omega
      have z5 := x5.size
      have zg6 := g6.only.size
      have hlen : ((putW wantO 64 64 c.peer c.bytes S).2.2.length : Int) ≤ S.length + 1 := by
        rcases putW_one (want := wantO) (peer := c.peer) (t := c.bytes) (S := S) (by omega) with ⟨_, h9⟩ | ⟨_, h9⟩ <;> rw [h9] <;> omega
      have hag := fun q => putW_again (want := wantO) (peer := c.peer) (peer2 := q) (t := c.bytes) (S := S) (by omega)
      generalize (putW wantO 64 64 c.peer c.bytes S).2.2 = S' at P6 hlen hag
      refine oroots_spec P6.wl fun h7 t o7 x7 fr7 => ⟨_, rfl, ?_⟩
      have P7 := P6.more x7
      have v7 := v6.ext x7
      have few := P6.wl.pl.few
      have low6 : ∀ i, Mine hb.size A6 i → i < h6.size := fun i hi => P6.wl.pl.lt hi
      intro J2 HJ2
      generalize hq : IntKind.wrap .i64 (c.peer + 1) = q
      have z7 := x7.size
      have fin : ∀ (hh : Heap) (A' : Sl) (a : Option Vc.Loc × Int × Int × List UInt8 × Int × Bs 32 × Option Vc.Loc × Int), a.2.2.2.2.2.2.2 = (putW wantO 64 64 q c.bytes S').1 → One1 128 wantO hb hh (hb.size + 1) hb.size A' (putW wantO 64 64 q c.bytes S').2.2 64 64 → Elems 32 hh t (rts (S'.map It.root)) → J2 a hh := by
        intro hh A' a ha P' et
        refine HJ2 a hh ?_
        dsimp only
        rw [ha]
        rw [(hag q).2] at P'
        have h1n : ¬ (putW wantO 64 64 q c.bytes S').1 = 1 := by have := (hag q).1; omega
        have h2n : ¬ (putW wantO 64 64 q c.bytes S').1 = 2 := by have := (hag q).1; omega
        refine If.dec.2 ⟨fun h => absurd h h1n, fun _ => If.dec.2 ⟨fun h => absurd h h2n, fun _ => ?_⟩⟩
        refine oroots_spec P'.wl fun h8 t8 o8 x8 fr8 => ⟨_, rfl, same10_spec o8.elems (et.ext x8) (by rw [List.length_map]; omega) ⟨_, rfl, ?_⟩⟩
        rw [decide_eq_true rfl]
        refine If.no ?_
        rw [wrap_i64 (n := i + 1) (by omega) (by omega)]
        exact ⟨⟨by first | omega | (dsimp only; omega), by first | omega | (dsimp only; omega), _, _, P'.more x8, by first | omega | (dsimp only; omega)⟩, by first | omega | (dsimp only; omega)⟩
      have tlow : ∀ l, t.a = some l → h6.size ≤ l.b := fr7
      have tlt : ∀ l, t.a = some l → l.b < h7.size := o7.lt
      refine ⟨c.peer, v7.at1 rfl, v_oc v7 ?_⟩
      rw [hq]
      refine ⟨text_spec (c := c) fun h8 x8 => ⟨_, rfl, x8, ?_, ?_⟩, newTV_in fun h8 v8 x8 s8 => ⟨x8, text_spec (c := c) fun h9 x9 => ⟨_, rfl, x9, ?_⟩⟩⟩
      · have P8 := P7.more x8
        refine oput_spec P8.wl hok.1 hok.2.1 P8.len hbl fun h9 A9 w9 g9 => ⟨_, _, rfl, ?_⟩
        have P9 : One1 128 wantO hb h9 (hb.size + 1) hb.size A9 (putW wantO 64 64 q c.bytes S').2.2 64 64 := P8.step w9 g9 (putW_len P8.len) (putW_mem hbl P8.fit)
        have e9 := (o7.elems.ext x8).only g9.only fun l hl hx => by have := low6 _ hx; have := tlow l hl; omega
        refine newTV_in fun h10 v10 x10 s10 => ⟨x10, put_n v10 rfl rfl fun h11 v11 f11 s11 => ?_⟩
        have xx : Ext h9 h11 := Only.cut x10 f11 fun i hi => by omega
        exact fin h11 A9 _ rfl (P9.more xx) (e9.ext xx)
      · refine newTV_in fun h9 v9 x9 s9 => ⟨x9, ?_⟩
        have P9 := (P7.more x8).more x9
        have z8 := x8.size
        refine oput_spec P9.wl hok.1 hok.2.1 P9.len hbl fun h10 A10 w10 g10 => ⟨_, _, rfl, ?_⟩
        have P10 : One1 128 wantO hb h10 (hb.size + 1) hb.size A10 (putW wantO 64 64 q c.bytes S').2.2 64 64 := P9.step w10 g10 (putW_len P9.len) (putW_mem hbl P9.fit)
        have e10 := ((o7.elems.ext x8).ext x9).only g10.only fun l hl hx => by have := low6 _ hx; have := tlow l hl; omega
        have nA : ¬ Mine hb.size A10 h8.size := fun hi => by
          rcases g10.new _ hi with h9' | h9'
          · have := low6 _ h9'; omega
          · omega
        refine put_n (v9.only g10.only fun hi => by have := low6 _ hi; omega) rfl rfl fun h11 v11 f11 s11 => ?_
        exact fin h11 A10 _ rfl (P10.put f11 (by omega) nA (by omega)) (e10.only f11 fun l hl => by have := tlt l hl; omega)
      · have P9 := (P7.more x8).more x9
        have z9 := x9.size
        refine oput_spec P9.wl hok.1 hok.2.1 P9.len hbl fun h10 A10 w10 g10 => ⟨_, _, rfl, ?_⟩
        have P10 : One1 128 wantO hb h10 (hb.size + 1) hb.size A10 (putW wantO 64 64 q c.bytes S').2.2 64 64 := P9.step w10 g10 (putW_len P9.len) (putW_mem hbl P9.fit)
        have e10 := ((o7.elems.ext x8).ext x9).only g10.only fun l hl hx => by have := low6 _ hx; have := tlow l hl; omega
        have nA : ¬ Mine hb.size A10 h7.size := fun hi => by
          rcases g10.new _ hi with h9' | h9'
          · have := low6 _ h9'; omega
          · omega
        refine put_n ((v8.ext x9).only g10.only fun hi => by have := low6 _ hi; omega) rfl rfl fun h11 v11 f11 s11 => ?_
        exact fin h11 A10 _ rfl (P10.put f11 (by omega) nA (by omega)) (e10.only f11 fun l hl => by have := tlt l hl; omega)
    refine ⟨c.kind, v4.at1 rfl, ?_⟩
    by_cases k1 : c.kind = 1
    · rw [k1]; exact If.no skip
    · refine If.split (fun _ => ⟨c.kind, v4.at1 rfl, ?_⟩) fun hb => absurd (by simpa using hb) k1
      by_cases k2 : c.kind = 2
      · rw [k2]; exact skip
      · rw [decide_eq_false k2]; exact work
  · have few := P.wl.pl.few
    refine oroots_spec P.wl fun h3 t o3 x3 fr3 => ⟨_, rfl, ?_⟩
    have P3 := P.more x3
    intro J HJ
    have low : ∀ i, Mine hb.size A i → i < h2.size := fun i hi => P.wl.pl.lt hi
    have bad : ∀ hh g, Ext h3 hh → putW wantO 64 64 peer text S = (5, Bs.zero 32, S) → J g hh := by
      intro hh g xh h5'
      refine HJ _ _ ?_
      have P5 := P3.more xh
      refine oput_spec P5.wl hok.1 hok.2.1 P5.len htx fun h6 A6 w6 g6 => ?_
      have w6 : WL 128 h6 (hb.size + 1) hb.size A6 (putW wantO 64 64 peer text S).2.2 64 64 := w6
      have P6 := P5.step w6 g6 (putW_len P5.len) (putW_mem htx P5.fit)
      show ∃ n b, (TV.tup [.int .i64 (putW wantO 64 64 peer text S).1, .bytes 32 (putW wantO 64 64 peer text S).2.1]).val = _ ∧ _
      rw [h5'] at P6 ⊢
      have P6 : One1 128 wantO hb h6 (hb.size + 1) hb.size A6 S 64 64 := P6
      have e6 := (o3.elems.ext xh).only g6.only fun l hl hx => by have := low _ hx; have := fr3 l hl; omega
      refine ⟨_, _, rfl, newTV_in fun h7 v7 x7 s7 => put_n v7 rfl rfl fun h8 v8 f8 s8 => If.yes ?_⟩
      have x68 : Ext h6 h8 := Only.cut x7 f8 fun i hi => by omega
      refine oroots_spec (P6.more x68).wl fun h9 t9 o9 x9 fr9 => ⟨_, rfl, same10_spec o9.elems ((e6.ext x68).ext x9) (by rw [List.length_map]; omega) ⟨_, rfl, ?_⟩⟩
      rw [decide_eq_true rfl]
      exact hr h9 (x0b.trans ((P6.more x68).more x9).old)
    refine docdecode4_spec htx fun h4 b4 x4 => ⟨_, _, _, _, _, _, _, _, rfl, ?_⟩
    refine newTV_in fun h5 v5 x5 s5 => put_n (t0 := zeroM.tv) v5 (t := ((dmOf text).ms b4).tv) mssz1 mssz fun h6 v6 f6 s6 => ?_
    have x46 : Ext h4 h6 := Only.cut x5 f6 fun i hi => by omega
    have x36 := x4.trans x46
    cases hd : decF text with
    | none => exact If.no (bad h6 _ x36 (putW_none hd))
    | some d =>
      refine If.yes ⟨_, v6.at.1, If.dec.2 ⟨fun _ => hr h6 (x0b.trans (P3.more x36).old), fun hk => bad h6 _ x36 (putW_no hd ?_)⟩⟩
      have hk' : ¬ (dmOf text).kind = 1 := hk
      rw [dmOf_some hd] at hk'
      exact decide_eq_false hk'

end
end Go.Proofs.Ytldocdpdjdekiaa.Pool
end

section
/- Arrays of bytes that come in. -/
namespace Go.Vc
open Go

def byteOfV : Value → UInt8
  | .int _ n => UInt8.ofNat n.toNat
  | _ => 0

theorem bytes_in {P : Program} {w : World} {r : Reach} {base : Nat} {t e : TypeId} {n : Nat} (ht : P.underlying t = some (.array n e)) (he : P.underlying e = some (.int .u8)) (hc : P.cellsOf t = n)
    (hct : P.cellTypes P.depth t = some (List.replicate n e)) {v : Value} (h : Value.okWide P w r base t v) : ∃ b : Bs n, v = (TV.bytes n b).val := by
  unfold Value.okWide at h
  rw [ht] at h
  simp only at h
  obtain ⟨cs, rfl, hs, ts, hts, _, hcell⟩ := h
  rw [hct] at hts
  obtain rfl := Option.some.inj hts
  have each : ∀ (i : Nat) (v : Value), cs[i]? = some v → v = Value.int .u8 ((byteOfV v).toNat : Int) := fun i v hv => by
    obtain ⟨u, hu, hok⟩ := hcell i v hv
    have : u = e := List.eq_of_mem_replicate (List.mem_of_getElem? hu)
    subst this
    unfold Cell.okWide at hok
    rw [he] at hok
    have hok' : Cell.ok P w r base u v := by
      revert hok
      cases v <;> exact id
    unfold Cell.ok at hok'
    rw [he] at hok'
    cases v <;> simp only at hok'
    case int k m =>
      obtain ⟨rfl, h0, h1⟩ := hok'
      have h0' : 0 ≤ m := h0
      have h1' : m ≤ 255 := h1
      unfold byteOfV
      rw [UInt8.toNat_ofNat']
      congr 1
      omega
  refine ⟨⟨cs.toList.map byteOfV, by simp [hs, hc]⟩, ?_⟩
  simp only [TV.val]
  congr 1
  apply Array.ext_getElem?
  intro i
  simp only [List.map_map, List.getElem?_toArray, List.getElem?_map, Array.getElem?_toList]
  cases hv : cs[i]? with
  | none => rfl
  | some v =>
    simp only [Option.map_some, Function.comp]
    rw [← each i v hv]

end Go.Vc
end

section
/- Scripts that come in. -/
namespace Go.Proofs.Ytldocdpdjdekiaa.Pool
open Go Go.Vc

section
variable {H : Type} {enc : TypeId × Value → H} {w : World} {base fuel : Nat} {spare : Nat → Bool} {held : Bool}

/-- A slice whose elements are known one by one. -/
theorem slice_in {α : Type} [Inhabited α] {tv : α → TV} {sz t e : Nat} (ht : Try.prog.underlying t = some (.slice e)) (he : Try.prog.cellsOf e = sz) (hsz : ∀ x, (tv x).size = sz)
    (hin : ∀ {fuel : Nat} {cs : List Value} {x : DataW H × List MemPlace}, DataW.trod enc Try.prog w base spare held fuel e cs = some x → ∃ v : α, cs = (tv v).cells)
    {a : Option Addr} {len cap : Nat} {x : DataW H × List MemPlace} (hs : ∀ x, a = some x → x.spot = none) (h : DataW.trod enc Try.prog w base spare held fuel t [.slice a len cap] = some x) :
    ∃ (sl : Sl) (cs : List α), Value.slice a len cap = (TV.slice sl).val ∧ Elems sz w.heap sl (cs.map tv) := by
  rcases Deep.open_slice ht h with ⟨hc, _⟩ | ⟨a', l', c', m, n, D, Pl, hc, _, hl, _, hm, _, hel⟩
  · simp only [List.cons.injEq, Value.slice.injEq, and_true] at hc
    obtain ⟨rfl, rfl, rfl⟩ := hc
    exact ⟨Sl.nil, [], rfl, Elems.nil_ sz _⟩
  · simp only [List.cons.injEq, Value.slice.injEq, and_true] at hc
    obtain ⟨rfl, rfl, rfl⟩ := hc
    have hsp := hs a' rfl
    have hlm : len ≤ m := by rw [hm]; split <;> omega
    have each : ∀ i, i < len → ∃ c : α, (tv c).at w.heap a'.block (a'.off + i * sz) := by
      intro i hi
      obtain ⟨cs', h1, h2⟩ := hel i (by omega)
      rw [he] at h1
      obtain ⟨_, hlen, hcell⟩ := World.cells?_some h1
      obtain ⟨c, rfl⟩ := hin h2
      refine ⟨c, ?_⟩
      rw [TV.at_iff]
      intro j hj
      have hj5 : j < sz := by rw [hsz] at hj; exact hj
      have := hcell j hj5
      rw [Deep.add_add] at this
      have hc2 := cel_of_cell hsp (i := i * sz + j) (v := (tv c).cells[j]'(by rw [TV.cells_length]; exact hj)) (by
        rw [this]
        simp [TV.cells_length, hj])
      rw [List.getElem?_eq_getElem (by rw [TV.cells_length]; exact hj), ← hc2, Nat.add_assoc]
    obtain ⟨f, hf⟩ := Deep.choose_lt each
    refine ⟨⟨some ⟨a'.block, a'.off⟩, len, cap⟩, (List.range len).map f, ?_, ⟨?_, ?_, ?_⟩⟩
    · cases a'
      simp only at hsp
      subst hsp
      rfl
    · simp
    · intro hn; cases hn
    · rintro l ⟨rfl⟩ i t ht
      rw [List.getElem?_map, Option.map_eq_some_iff] at ht
      obtain ⟨c, hc, rfl⟩ := ht
      rw [List.getElem?_map, Option.map_eq_some_iff] at hc
      obtain ⟨k, hk, rfl⟩ := hc
      have hk' := List.getElem?_eq_some_iff.1 hk
      obtain ⟨hi, he⟩ := hk'
      simp only [List.length_range] at hi
      simp only [List.getElem_range] at he
      subst he
      exact hf i hi

set_option maxRecDepth 100000 in
theorem oc_in {cs : List Value} {x : DataW H × List MemPlace} (h : DataW.trod enc Try.prog w base spare held fuel 72 cs = some x) : ∃ v : Oc, cs = v.tv.cells := by
  have hd : ∃ f0 f1 f2 f3 f4 f5 : Field, Try.prog.underlying 72 = some (.struct #[f0, f1, f2, f3, f4, f5]) ∧ f0.type = 3 ∧ f0.offset = 0 ∧ f1.type = 3 ∧ f1.offset = 1 ∧ f2.type = 9 ∧ f2.offset = 2 ∧ f3.type = 3 ∧ f3.offset = 3 ∧ f4.type = 3 ∧ f4.offset = 4 ∧ f5.type = 58 ∧ f5.offset = 5 := ⟨_, _, _, _, _, _, Try.underlying72, rfl, rfl, rfl, rfl, rfl, rfl, rfl, rfl, rfl, rfl, rfl, rfl⟩
  obtain ⟨f0, f1, f2, f3, f4, f5, hu, e0, g0, e1, g1, e2, g2, e3, g3, e4, g4, e5, g5⟩ := hd
  obtain ⟨xs, n, _, rfl, hlen, hl, hf⟩ := DataW.trod_struct hu h
  have c3 : Try.prog.cellsOf 3 = 1 := by kernel_rfl
  have c9 : Try.prog.cellsOf 9 = 1 := by kernel_rfl
  have c53 : Try.prog.cellsOf 58 = 1 := by kernel_rfl
  have cT : Try.prog.cellsOf 72 = 6 := by kernel_rfl
  match xs, hl with
  | [y0, y1, y2, y3, y4, y5], _ =>
    have t0 := hf 0 f0 rfl
    rw [e0, g0, c3] at t0
    have t1 := hf 1 f1 rfl
    rw [e1, g1, c3] at t1
    have t2 := hf 2 f2 rfl
    rw [e2, g2, c9] at t2
    have t3 := hf 3 f3 rfl
    rw [e3, g3, c3] at t3
    have t4 := hf 4 f4 rfl
    rw [e4, g4, c3] at t4
    have t5 := hf 5 f5 rfl
    rw [e5, g5, c53] at t5
    obtain ⟨n0, h0, _, w0⟩ := DataW.trod_int Try.underlying3 t0
    obtain ⟨n1, h1, _, w1⟩ := DataW.trod_int Try.underlying3 t1
    obtain ⟨n2, h2, _, _⟩ := DataW.trod_string Try.underlying9 t2
    obtain ⟨n3, h3, _, w3⟩ := DataW.trod_int Try.underlying3 t3
    obtain ⟨n4, h4, _, w4⟩ := DataW.trod_int Try.underlying3 t4
    obtain ⟨n5, h5, _, w5⟩ := DataW.trod_int Try.underlying58 t5
    rw [cT] at hlen
    match cs, hlen with
    | [v0, v1, v2, v3, v4, v5], _ =>
      simp only [List.drop_zero, List.take_succ_cons, List.take_zero, List.drop_succ_cons, List.cons.injEq, and_true] at h0 h1 h2 h3 h4 h5
      subst h0; subst h1; subst h2; subst h3; subst h4; subst h5
      exact ⟨⟨n0, n1, n2.data.toList, n3, n4, n5, wf_u64 w5⟩, by simp [Oc.tv, TV.cells, TVs.cells]⟩

theorem ocs_in {a : Option Addr} {len cap : Nat} {x : DataW H × List MemPlace} (hs : ∀ x, a = some x → x.spot = none) (h : DataW.trod enc Try.prog w base spare held fuel 67 [.slice a len cap] = some x) :
    ∃ (sl : Sl) (l : List Oc), Value.slice a len cap = (TV.slice sl).val ∧ Elems 6 w.heap sl (l.map Oc.tv) :=
  slice_in (tv := Oc.tv) Try.underlying67 (by kernel_rfl) (fun _ => rfl) (fun h => oc_in h) hs h

end
end Go.Proofs.Ytldocdpdjdekiaa.Pool
end

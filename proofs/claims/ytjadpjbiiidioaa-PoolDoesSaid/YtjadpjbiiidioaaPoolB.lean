/- What the small functions of pool do: names, Before, and the heap's own Len, Less, Swap, Push. -/
import Derived.Test.YtjadpjbiiidioaaPoolA
import Derived.Test.YtjadpjbiiidioaaVsPool
namespace Go.Proofs.Ytjadpjbiiidioaa.Pool
open Go Go.Vc

/-! ### Items in memory -/

theorem it_ex {h : Heap} {b o : Nat} {x : It} (ha : x.tv.at h b o) {K : Int → Bs 32 → Int → Bs 32 → List UInt8 → Prop} (hk : K x.slot x.root x.peer x.fr x.text) :
    ∃ (n : Int), ∃ (c : Bs 32), ∃ (n1 : Int), ∃ (c1 : Bs 32), ∃ (s : List UInt8), (at1 h b o (.int .i64 n) ∧ atBytes h b (o + 1) 32 c ∧ at1 h b (o + 1 + 32) (.int .i64 n1) ∧ atBytes h b (o + 1 + 32 + 1) 32 c1 ∧ at1 h b (o + 1 + 32 + 1 + 32) (.string (ByteArray.mk (List.toArray s)))) ∧ K n c n1 c1 s := by
  have ha' : at1 h b o (.int .i64 x.slot) ∧ atBytes h b (o + 1) 32 x.root ∧ at1 h b (o + 1 + 32) (.int .i64 x.peer) ∧ atBytes h b (o + 1 + 32 + 1) 32 x.fr ∧ at1 h b (o + 1 + 32 + 1 + 32) (.string (ByteArray.mk (List.toArray x.text))) := ha
  obtain ⟨h1, h2, h3, h4, h5⟩ := ha'
  exact ⟨_, _, _, _, _, ⟨h1, h2, h3, h4, h5⟩, hk⟩

section
variable {T : TypeId} {h : Heap} {b : Nat} {x : It} (v : Var T h b x.tv)
include v
theorem v_slot : at1 h b 0 (.int .i64 x.slot) := v.at.1
theorem v_root : atBytes h b 1 32 x.root := v.at.2.1
theorem v_peer : at1 h b 33 (.int .i64 x.peer) := v.at.2.2.1
theorem v_fr : atBytes h b 34 32 x.fr := v.at.2.2.2.1
theorem v_text : at1 h b 66 (.string (ByteArray.mk (List.toArray x.text))) := v.at.2.2.2.2

theorem v_it {K : Int → Bs 32 → Int → Bs 32 → List UInt8 → Prop} (hk : K x.slot x.root x.peer x.fr x.text) :
    ∃ (n : Int), ∃ (c : Bs 32), ∃ (n1 : Int), ∃ (c1 : Bs 32), ∃ (s : List UInt8), (at1 h b 0 (.int .i64 n) ∧ atBytes h b 1 32 c ∧ at1 h b 33 (.int .i64 n1) ∧ atBytes h b 34 32 c1 ∧ at1 h b 66 (.string (ByteArray.mk (List.toArray s)))) ∧ K n c n1 c1 s :=
  ⟨_, _, _, _, _, ⟨v_slot v, v_root v, v_peer v, v_fr v, v_text v⟩, hk⟩
end

abbrev its (L : List It) : List TV := L.map It.tv

theorem its_size (L : List It) : ∀ t ∈ its L, t.size = 67 := fun t ht => by
  obtain ⟨x, _, rfl⟩ := List.mem_map.1 ht
  rfl

theorem its_plain (L : List It) : ∀ t ∈ its L, t.plain = true := fun t ht => by
  obtain ⟨x, _, rfl⟩ := List.mem_map.1 ht
  rfl

theorem its_at {h : Heap} {s : Sl} {L : List It} {i : Int} (e : Elems 67 h s (its L)) (i0 : 0 ≤ i) (i1 : i < L.length) {K : Vc.Loc → Int → Bs 32 → Int → Bs 32 → List UInt8 → Prop}
    (hk : ∀ l x, s.a = some l → L[i.toNat]? = some x → K l x.slot x.root x.peer x.fr x.text) :
    0 ≤ i ∧ i < (s.len : Int) ∧ Nn s.a fun (l : Vc.Loc) => ∃ (n : Int), ∃ (c : Bs 32), ∃ (n1 : Int), ∃ (c1 : Bs 32), ∃ (t : List UInt8), (at1 h l.b (l.o + i.toNat * 67) (.int .i64 n) ∧ atBytes h l.b (l.o + i.toNat * 67 + 1) 32 c ∧ at1 h l.b (l.o + i.toNat * 67 + 1 + 32) (.int .i64 n1) ∧ atBytes h l.b (l.o + i.toNat * 67 + 1 + 32 + 1) 32 c1 ∧ at1 h l.b (l.o + i.toNat * 67 + 1 + 32 + 1 + 32) (.string (ByteArray.mk (List.toArray t)))) ∧ K l n c n1 c1 t := by
  have hl := e.len
  rw [List.length_map] at hl
  refine e.read i0 (by omega) fun l t hla ht ha => ?_
  rw [List.getElem?_map] at ht
  obtain ⟨x, hx, rfl⟩ := Option.map_eq_some_iff.1 ht
  exact it_ex ha (hk l x hla hx)

theorem hget_eq {L : List It} {i : Nat} {x : It} (h : L[i]? = some x) : x = hget L i := (hget_of h).symm

/-! ### Names -/

theorem str_var {T : TypeId} {h : Heap} {b n c : Nat} {x : Bs n} (v : Var T h b (.bytes n x)) : strAt h ⟨some ⟨b, 0⟩, n, c⟩ x.l :=
  ⟨x.h, .inr ⟨_, rfl, fun j hj => by
    have := v.bytes j (by rw [← x.h]; exact hj)
    rw [this]
    simp [List.getD, hj]⟩⟩

section
variable {R : Value → Heap → Prop} {h : Heap}

theorem less_spec {a b : Bs 32} (hr : ∀ h', Ext h h' → R (TV.bool (Op.bytesLess a.l b.l)).val h') : CallsH Try.prog 39 (TVs.vals [.bytes 32 a, .bytes 32 b]) h R := by
  apply sha_Less_calls
  unfold sha_Less_vc
  refine newTV_in fun h1 v1 x1 s1 => newTV_in fun h2 v2 x2 s2 => ?_
  exact ⟨a.l, str_var (v1.ext x2), b.l, str_var v2, hr _ (x1.trans x2)⟩

theorem before_spec {x y : It} (hr : ∀ h', Ext h h' → R (TV.bool (bf x y)).val h') : CallsH Try.prog 19 (TVs.vals [x.tv, y.tv]) h R := by
  apply pool_Before_calls x.slot x.root x.peer x.fr x.text y.slot y.root y.peer y.fr y.text
  unfold pool_Before_vc
  refine newTV_in fun h1 v1 x1 s1 => newTV_in fun h2 v2 x2 s2 => ?_
  have v1' := v1.ext x2
  have x12 := x1.trans x2
  refine ⟨x.slot, v_slot (x := x) v1', y.slot, v_slot (x := y) v2, If.dec.2 ⟨fun hlt => ?_, fun hge => ?_⟩⟩
  · have := hr h2 x12
    rwa [show bf x y = true from bf_iff.2 (.inl hlt)] at this
  · refine ⟨x.slot, v_slot (x := x) v1', y.slot, v_slot (x := y) v2, If.dec.2 ⟨fun he => ?_, fun hne => ?_⟩⟩
    · refine ⟨x.root, v_root (x := x) v1', y.root, v_root (x := y) v2, less_spec fun h' x' => ⟨_, rfl, ?_⟩⟩
      have := hr h' (x12.trans x')
      rwa [show bf x y = Op.bytesLess x.root.l y.root.l by unfold bf; simp [he]] at this
    · have := hr h2 x12
      rwa [show bf x y = false by unfold bf; simp [hge, hne]] at this

/-! ### The heap's own functions -/

/-- A pool's row of items in memory. -/
structure HL (h : Heap) (b : Nat) (A : Sl) (L : List It) (most quota : Int) : Prop where
  var : Var 64 h b (.agg [.slice A, .int .i64 most, .int .i64 quota])
  own : Own 32 67 h A (its L)
  apart : ¬ In A b
  few : L.length < 1000

section
variable {b : Nat} {A : Sl} {L : List It} {most quota : Int}

theorem HL.len (H : HL h b A L most quota) : L.length = A.len := by have := H.own.len; rwa [List.length_map] at this
theorem HL.ext {h' : Heap} (H : HL h b A L most quota) (x : Ext h h') : HL h' b A L most quota := ⟨H.var.ext x, H.own.ext x, H.apart, H.few⟩
theorem HL.only {h' : Heap} {S : Nat → Prop} (H : HL h b A L most quota) (o : Only S h h') (h1 : ¬ S b) (h2 : ∀ i, In A i → ¬ S i) : HL h' b A L most quota :=
  ⟨H.var.only o h1, H.own.only o (fun l hl => h2 _ ⟨l, hl, rfl⟩), H.apart, H.few⟩

theorem len_spec (hr : R (TV.int .i64 (A.len : Int)).val h) : CallsH Try.prog 40 (TVs.vals [.slice A]) h R := by
  apply pool_last_Len_calls
  exact hr

theorem lessAt_spec (H : HL h b A L most quota) {i k : Int} (i0 : 0 ≤ i) (i1 : i < L.length) (k0 : 0 ≤ k) (k1 : k < L.length)
    (hr : ∀ h', Ext h h' → R (TV.bool (bf (hget L k.toNat) (hget L i.toNat))).val h') : CallsH Try.prog 83 (TVs.vals [.slice A, .int .i64 i, .int .i64 k]) h R := by
  apply pool_last_Less_calls
  unfold pool_last_Less_vc
  refine its_at H.own.elems k0 k1 fun l x _ hx => its_at H.own.elems i0 i1 fun l y _ hy => ?_
  have e1 := hget_of hx
  have e2 := hget_of hy
  refine before_spec (x := x) (y := y) fun h' x' => ⟨_, rfl, ?_⟩
  rw [← e1, ← e2]
  exact hr h' x'

theorem its_set (L : List It) (i : Nat) (x : It) : its (L.set i x) = (its L).set i x.tv := by simp [its, List.map_set]

theorem swap_spec (H : HL h b A L most quota) {i k : Int} (i0 : 0 ≤ i) (i1 : i < L.length) (k0 : 0 ≤ k) (k1 : k < L.length)
    (hr : ∀ h', HL h' b A (sw L i.toNat k.toNat) most quota → Only (In A) h h' → h'.size = h.size → R (TV.tup []).val h') : CallsH Try.prog 84 (TVs.vals [.slice A, .int .i64 i, .int .i64 k]) h R := by
  apply pool_last_Swap_calls
  unfold pool_last_Swap_vc
  refine its_at H.own.elems k0 k1 fun l x _ hx => its_at H.own.elems i0 i1 fun l y _ hy => ?_
  refine H.own.put_in (t := x.tv) i0 (by simpa using i1) rfl rfl fun h1 o1 f1 s1 => ?_
  refine o1.put_in (t := y.tv) k0 (by simpa using k1) rfl rfl fun h2 o2 f2 s2 => ?_
  refine hr h2 ⟨(H.var.only f1 H.apart).only f2 H.apart, ?_, H.apart, by rw [sw_length]; exact H.few⟩ (f1.trans f2) (by omega)
  have e1 := hget_eq hx
  have e2 := hget_eq hy
  unfold sw
  rw [its_set, its_set, ← e1, ← e2]
  exact o2

theorem bytes32 : (ctx.ti 32).bytes = 96 := by kernel_rfl
theorem size32 : (ctx.ti 32).size = 67 := by kernel_rfl
theorem zsize32 : (ctx.ti 32).z.size = 67 := by kernel_rfl

theorem push_spec (H : HL h b A L most quota) (x : It) (hl : L.length < 900)
    {v : One} (hv : v.v = .iface 32 x.tv.val)
    (hr : ∀ h' A', HL h' b A' (L ++ [x]) most quota → Only (fun i => i = b ∨ In A i) h h' → (∀ i, In A' i → In A i ∨ h.size ≤ i) → R (TV.tup []).val h') : CallsH Try.prog 85 (TVs.vals [.ptr (some ⟨b, 0⟩), .one v]) h R := by
  apply pool_last_Push_calls
  unfold pool_last_Push_vc
  have hlen := H.len
  refine ⟨A, H.var.at1 rfl, x.slot, x.root, x.peer, x.fr, x.text, hv, Ext.push _ _, ?_⟩
  refine append1 (C := ctx) (T := 32) (sz := 67) (x := x.tv) size32 zsize32 (by rw [bytes32]; decide) (by rw [bytes32]; omega) H.own rfl rfl fun A' h1 o1 f1 b1 => ?_
  have hb : ∀ l, A'.a = some l → l.b ≠ b := by
    intro l hl e
    rcases b1 l hl with ⟨l', h9, h10⟩ | h9
    · exact H.apart ⟨l', h9, h10.trans e⟩
    · have := H.var.lt
      omega
  have v1 := H.var.only f1 H.apart
  show wok h1 b 0 1 ∧ Bind ((TV.slice A').put h1 b 0) _
  refine field_in (i := 0) (t0 := .slice A) v1 rfl rfl rfl rfl fun h2 v2 f2 s2 => ?_
  refine hr h2 A' ⟨v2, ?_, fun ⟨l, hl, e⟩ => hb l hl e, by simp; omega⟩ ((f1.mono fun i hi => .inr hi).trans (f2.mono fun i hi => .inl hi)) (fun i ⟨l, hl, e⟩ => ?_)
  · have : its (L ++ [x]) = its L ++ [x.tv] := by simp [its]
    rw [this]
    exact o1.only f2 hb
  · rcases b1 l hl with ⟨l', h9, h10⟩ | h9
    · exact .inl ⟨l', h9, h10.trans e⟩
    · exact .inr (by omega)

/-! ### As methods of a heap -/

theorem types_pos : 0 < ctx.P.types.size := by
  have : ctx.P.types.size = 125 := by kernel_rfl
  rw [this]
  decide

end
end
end Go.Proofs.Ytjadpjbiiidioaa.Pool

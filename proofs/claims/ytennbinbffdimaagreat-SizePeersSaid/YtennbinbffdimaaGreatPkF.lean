/- Texts that the proof needs, joined: SealA, SealC, SealD, GateC, GateS, WaitB, WaitC, WaitD, GateJ, SizeP. -/
import Derived.Test.YtennbinbffdimaaGreatPkE

section
/- Tags: a key as 64 bytes, the tag of texts by a key, tags joined. -/
namespace Go.Proofs.YtennbinbffdimaaGreat.Board
open Go Go.Vc

section
variable {R : Value → Heap → Prop} {h : Heap}

/-- One byte against another. -/
def xv (c x : Int) : Int := IntKind.wrap .u8 ((BitVec.ofInt (IntKind.bits .u8) c ^^^ BitVec.ofInt (IntKind.bits .u8) x).toNat : Int)
def xb (c : UInt8) (x : Int) : UInt8 := UInt8.ofNat (xv (c.toNat : Int) x).toNat

/-- A key as 64 bytes. -/
def padZ (key : List UInt8) : Bs 64 := ⟨(key ++ List.replicate 64 0).take 64, by simp⟩
def padL (key : List UInt8) (x : Int) : List UInt8 := (List.range 64).map fun i => xb (getB (padZ key) i) x

theorem padL_length (key : List UInt8) (x : Int) : (padL key x).length = 64 := by simp [padL]

set_option maxRecDepth 100000 in
theorem pad_spec {key : List UInt8} {x : Int} (hk : key.length ≤ 64) (hr : ∀ h', Ext h h' → R (TV.str (padL key x)).val h') : CallsH Tryz.prog 328 (TVs.vals [.str key, .int .u8 x]) h R := by
  apply mac_pad_calls
  unfold mac_pad_vc
  refine newTV_in fun h1 v1 x1 s1 => ⟨?_, ?_⟩
  · intro hn
    cases hn
  rintro l hl
  obtain rfl : l = ⟨h.size, 0⟩ := (Option.some.inj hl).symm
  have hm : Nat.min key.length (cutSl (Sl.mk (some (Vc.Loc.mk h.size 0)) 64 64) 0 64 1).len = key.length := Nat.min_eq_left hk
  rw [hm, List.take_length]
  have hc : (TV.bytes 64 (Bs.zero 64)).cells.length = 64 := by rw [TV.cells_length]; rfl
  have hp := putl_get (key.map fun c => Value.int .u8 (c.toNat : Int)) h1 h.size 0 _ 407 v1 (by rw [List.length_map, hc]; omega)
  refine ⟨v1.wok (by show 0 + key.length ≤ 64; omega), ?_⟩
  have v2 : Var 407 (putl h1 h.size 0 (key.map fun c => Value.int .u8 (c.toNat : Int))) h.size (.bytes 64 (padZ key)) := by
    unfold Var
    rw [hp.1]
    congr 2
    simp only [TV.cells, padZ, Bs.zero, List.take_zero, List.nil_append, List.length_map, Nat.zero_add, List.map_take, List.map_append, List.map_replicate]
    rw [List.take_append, List.take_of_length_le (by rw [List.length_map]; exact hk), List.take_replicate, List.drop_replicate, List.length_map]
    congr 2
    omega
  have x2 : Ext h (putl h1 h.size 0 (key.map fun c => Value.int .u8 (c.toNat : Int))) := by
    refine ⟨by rw [hp.2.1]; exact x1.size, fun b hb => ?_⟩
    rw [hp.2.2 b (by omega)]
    exact x1.same b hb
  refine bind_in ?_
  generalize (putl h1 h.size 0 (key.map fun c => Value.int .u8 (c.toNat : Int))) = h2 at v2 x2 ⊢
  refine ⟨fun i hh => 0 ≤ i ∧ i ≤ 64 ∧ Only (· = h.size) h2 hh ∧ Var 407 hh h.size (.bytes 64 (fillB (fun i => xb (getB (padZ key) i) x) (padZ key) i.toNat)), fun i _ => ((64 : Int) - i).toNat, ⟨Int.le_refl 0, by decide, Only.refl _ _, v2⟩, ?_⟩
  rintro i h3 ⟨i0, i1, f3, v3⟩
  refine If.dec.2 ⟨fun hi => ?_, fun hi => ?_⟩
  · have hb := byte_at v3 (i := i.toNat) (by omega)
    rw [fillB_get _ _ _ _ (by omega), if_neg (by omega)] at hb
    have hw : 0 ≤ xv ((getB (padZ key) i.toNat).toNat : Int) x ∧ xv ((getB (padZ key) i.toNat).toNat : Int) x < 256 := wrap_u8_range _
    refine ⟨i0, hi, _, hb, i0, hi, ?_⟩
    refine put_byte v3 (i := i.toNat) (o := 0 + i.toNat * 1) (by omega) (by omega) hw.1 hw.2 fun h4 v4 f4 s4 => ?_
    rw [wrap_i64 (n := i + 1) (by omega) (by omega)]
    refine ⟨⟨by omega, by omega, f3.trans f4, ?_⟩, by dsimp only; omega⟩
    rw [show (i + 1).toNat = i.toNat + 1 by omega]
    exact v4
  · have e64 : i.toNat = 64 := by omega
    rw [e64] at v3
    refine ⟨_, str_var v3, ?_⟩
    rw [fillB_l]
    exact hr h3 (Only.cut x2 f3 fun i hi => by omega)

/-! ### The tag of texts by a key -/

def cut16 (r : Bs 32) : Bs 16 := ⟨r.l.take 16, by rw [List.length_take, r.h]; rfl⟩
def macI (key s : List UInt8) : Bs 32 := docF (padL key 54 ++ s)
def macF (key s : List UInt8) : Bs 16 := cut16 (docF (padL key 92 ++ (macI key s).l))

theorem atBytes_cut {T : TypeId} {b : Nat} {x : Bs 32} (v : Var T h b (.bytes 32 x)) : atBytes h b 0 16 (cut16 x) := by
  intro j hj
  have := v.bytes j (by omega)
  rw [this]
  simp only [cut16, List.getD_eq_getElem?_getD, List.getElem?_take, if_pos hj]

set_option maxRecDepth 100000 in
theorem macof_spec {key : List UInt8} {s : Sl} {ts : List (List UInt8)} (hk : key.length ≤ 64) (e : Elems 1 h s (ts.map TV.str)) (hl : ts.flatten.length < 100000) (hts : ts.length < 10000)
    (hr : ∀ h', Ext h h' → R (TV.bytes 16 (macF key ts.flatten)).val h') : CallsH Tryz.prog 293 (TVs.vals [.str key, .slice s]) h R := by
  apply mac_Of_calls
  unfold mac_Of_vc
  refine newTV_in fun h1 v1 x1 s1 => ?_
  intro J HJ
  refine If.dec.2 ⟨fun hlong => by omega, fun _ => HJ key h1 ?_⟩
  clear HJ J
  refine pad_spec hk fun h2 x2 => ⟨_, rfl, ?_⟩
  have xa := Ext.push h2 (row (TVs.cells [TV.str (padL key 54)]) 9)
  have e2 : Elems 1 (h2.push (row (TVs.cells [TV.str (padL key 54)]) 9)) s (ts.map TV.str) := ((e.ext x1).ext x2).ext xa
  refine ⟨_, e2.cells (fun u hu => by obtain ⟨t, _, rfl⟩ := List.mem_map.1 hu; rfl) (by decide), TVs.plain_cells_of (fun u hu => by obtain ⟨t, _, rfl⟩ := List.mem_map.1 hu; rfl), ?_⟩
  have o2 := Own.new (T := 9) (sz := 1) h2 [TV.str (padL key 54)] (fun t ht => by
    simp only [List.mem_cons, List.not_mem_nil, or_false] at ht
    subst ht; rfl)
  have elen := e.len
  rw [List.length_map] at elen
  rw [← elen, show ts.length = (ts.map TV.str).length from (List.length_map _).symm]
  refine append_raw size9 zsize9 (by rw [bytes9]; decide) (by decide) (by rw [bytes9, List.length_map]; show (1 + _) * 16 ≤ _; omega) o2 (fun u hu => by obtain ⟨t, _, rfl⟩ := List.mem_map.1 hu; rfl) fun s3 h3 o3 f3 b3 => ?_
  have x3 : Ext h2 h3 := Only.cut xa f3 fun i hi => by
    obtain ⟨l, hl, rfl⟩ := hi
    obtain rfl := Option.some.inj hl
    exact Nat.le_refl _
  have e3 : Elems 1 h3 s3 ((padL key 54 :: ts).map TV.str) := o3.elems
  refine of2_spec (ts := padL key 54 :: ts) e3 ?_ (by rw [List.length_cons]; omega) fun h4 x4 => ⟨macI key ts.flatten, rfl, ?_⟩
  · rw [List.flatten_cons, List.length_append, padL_length]; omega
  refine newTV_in fun h5 v5 x5 s5 => put_in v5 (t := .bytes 32 (macI key ts.flatten)) bsz fun h6 v6 f6 s6 => ?_
  have x6 : Ext h4 h6 := Only.cut x5 f6 fun i hi => by omega
  have x16 : Ext h1 h6 := ((x2.trans x3).trans x4).trans x6
  intro J HJ
  have hsz1 : h1.size = h.size + 1 := s1
  have hT : [padL key 92, (macI key ts.flatten).l].flatten = padL key 92 ++ (macI key ts.flatten).l := by simp
  have hTl : [padL key 92, (macI key ts.flatten).l].flatten.length < 700000 := by
    rw [hT, List.length_append, padL_length, (macI key ts.flatten).h]; decide
  have fin : ∀ (qa qb : List UInt8) (qc : Sl) (qd : List UInt8) (qe : Sl) (qf : Bs 32) (h' : Heap) (b : Nat), Ext h6 h' → h6.size ≤ b → Var 52 h' b (.bytes 32 (docF [padL key 92, (macI key ts.flatten).l].flatten)) → J (qa, qb, qc, qd, qe, qf, some ⟨b, 0⟩) h' := by
    intro qa qb qc qd qe qf h' b hx hb hv
    refine HJ _ h' ⟨by decide, by decide, Nat.le_refl 16, ?_⟩
    rw [show (cutSl (Sl.mk (some (Vc.Loc.mk b 0)) 32 32) 0 (Int.toNat 16) 1).a = some ⟨b, 0⟩ from rfl]
    refine ⟨cut16 (docF [padL key 92, (macI key ts.flatten).l].flatten), atBytes_cut hv, ?_⟩
    have v1' : Var 56 h' h.size (.bytes 16 (Bs.zero 16)) := v1.ext (x16.trans hx)
    refine put_in v1' (t := .bytes 16 (cut16 (docF [padL key 92, (macI key ts.flatten).l].flatten))) bsz fun h7 v7 f7 s7 => ⟨_, v7.bytes, ?_⟩
    have := hr h7 (Only.cut ((x1.trans x16).trans hx) f7 fun i hi => by omega)
    rw [hT]
    exact this
  clear HJ
  refine ⟨(macI key ts.flatten).l, str_var v6, ?_, ?_⟩
  · refine pad_spec hk fun h7 x7 => ⟨_, rfl, x7, ⟨?_, ?_⟩, ?_⟩
    · refine of2_spec (ts := [padL key 92, (macI key ts.flatten).l]) (strs_elems (T := 9) h7 [padL key 92, (macI key ts.flatten).l]) hTl (by simp) fun h8 x8 => ⟨_, rfl, ?_⟩
      refine newTV_in fun h9 v9 x9 s9 => ⟨x9, put_in v9 (t := .bytes 32 (docF [padL key 92, (macI key ts.flatten).l].flatten)) bsz fun h10 v10 f10 s10 => ?_⟩
      have xx : Ext h6 h8 := (x7.trans (Ext.push h7 _)).trans x8
      exact fin _ _ _ _ _ _ _ h8.size (Only.cut (xx.trans x9) f10 fun i hi => by have := xx.size; omega) xx.size v10
    · refine newTV_in fun h8 v8 x8 s8 => ⟨x8, ?_⟩
      refine of2_spec (ts := [padL key 92, (macI key ts.flatten).l]) ((strs_elems (T := 9) h7 [padL key 92, (macI key ts.flatten).l]).ext x8) hTl (by simp) fun h9 x9 => ⟨_, rfl, ?_⟩
      refine put_in (v8.ext x9) (t := .bytes 32 (docF [padL key 92, (macI key ts.flatten).l].flatten)) bsz fun h10 v10 f10 s10 => ?_
      have xx : Ext h6 (h7.push (row (TVs.cells ([padL key 92, (macI key ts.flatten).l].map TV.str)) 9)) := x7.trans (Ext.push h7 _)
      exact fin _ _ _ _ _ _ _ _ (Only.cut ((xx.trans x8).trans x9) f10 fun i hi => by have := xx.size; rw [hi]; exact this) xx.size v10
    · refine newTV_in fun h8 v8 x8 s8 => ⟨x8, ?_⟩
      refine of2_spec (ts := [padL key 92, (macI key ts.flatten).l]) (strs_elems (T := 9) h8 [padL key 92, (macI key ts.flatten).l]) hTl (by simp) fun h9 x9 => ⟨_, rfl, ?_⟩
      have xy : Ext h8 h9 := (Ext.push h8 _).trans x9
      refine put_in (v8.ext xy) (t := .bytes 32 (docF [padL key 92, (macI key ts.flatten).l].flatten)) bsz fun h10 v10 f10 s10 => ?_
      exact fin _ _ _ _ _ _ _ _ (Only.cut ((x7.trans x8).trans xy) f10 fun i hi => by have := x7.size; omega) x7.size v10
  · refine newTV_in fun h7 v7 x7 s7 => ⟨x7, ?_⟩
    refine pad_spec hk fun h8 x8 => ⟨_, rfl, x8, ?_⟩
    refine of2_spec (ts := [padL key 92, (macI key ts.flatten).l]) (strs_elems (T := 9) h8 [padL key 92, (macI key ts.flatten).l]) hTl (by simp) fun h9 x9 => ⟨_, rfl, ?_⟩
    have xy : Ext h8 h9 := (Ext.push h8 _).trans x9
    refine put_in ((v7.ext x8).ext xy) (t := .bytes 32 (docF [padL key 92, (macI key ts.flatten).l].flatten)) bsz fun h10 v10 f10 s10 => ?_
    exact fin _ _ _ _ _ _ _ _ (Only.cut ((x7.trans x8).trans xy) f10 fun i hi => by omega) (Nat.le_refl _) v10

/-! ### Tags joined -/

/-- A tag against another one, byte by byte. -/
def x16 (a t : Bs 16) : Bs 16 := fillB (fun j => xb (getB a j) ((getB t j).toNat : Int)) a 16
def joinF : List (Bs 16) → Bs 16 → Bs 16
  | [], a => a
  | t :: ts, a => joinF ts (x16 a t)

theorem joinF_snoc : ∀ (ts : List (Bs 16)) (t a : Bs 16), joinF (ts ++ [t]) a = x16 (joinF ts a) t
  | [], _, _ => rfl
  | u :: ts, t, a => by show joinF (ts ++ [t]) _ = _; rw [joinF_snoc ts t]; rfl

abbrev tags (l : List (Bs 16)) : List TV := l.map (TV.bytes 16)

set_option maxRecDepth 100000 in
theorem join_spec {s : Sl} {ts : List (Bs 16)} (e : Elems 16 h s (tags ts)) (hl : ts.length < 1000000) (hr : ∀ h', Ext h h' → R (TV.bytes 16 (joinF ts (Bs.zero 16))).val h') : CallsH Tryz.prog 295 (TVs.vals [.slice s]) h R := by
  apply mac_Join_calls
  unfold mac_Join_vc
  have elen := e.len
  rw [List.length_map] at elen
  refine newTV_in fun h1 v1 x1 s1 => newTV_in fun h2 v2 x2 s2 => ?_
  have hs1 : h.size < h1.size := by omega
  refine ⟨fun i hh => 0 ≤ i ∧ i ≤ ts.length ∧ Only (· = h1.size) h2 hh ∧ Var 56 hh h1.size (.bytes 16 (joinF (ts.take i.toNat) (Bs.zero 16))), fun i _ => ((ts.length : Int) - i).toNat, ⟨Int.le_refl 0, by omega, Only.refl _ _, v2⟩, ?_⟩
  rintro i h3 ⟨i0, i1, f3, v3⟩
  have e3 : Elems 16 h3 s (tags ts) := e.ext (Only.cut (x1.trans x2) f3 fun i hi => by omega)
  refine If.dec.2 ⟨fun hi => ?_, fun hi => ?_⟩
  · refine e3.read i0 (by omega) fun l t hla ht ha => ?_
    rw [List.getElem?_map] at ht
    obtain ⟨t', ht', rfl⟩ := Option.map_eq_some_iff.1 ht
    refine ⟨t', ha, ?_⟩
    refine newTV_in fun h4 v4 x4 s4 => put_in v4 (t := .bytes 16 t') bsz fun h5 v5 f5 s5 => ?_
    have x35 : Ext h3 h5 := Only.cut x4 f5 fun i hi => by omega
    have hz3 := f3.size
    have b3 : h1.size < h3.size := by omega
    refine ⟨fun j hh => 0 ≤ j ∧ j ≤ 16 ∧ Only (· = h1.size) h5 hh ∧ Var 56 hh h1.size (.bytes 16 (fillB (fun j => xb (getB (joinF (ts.take i.toNat) (Bs.zero 16)) j) ((getB t' j).toNat : Int)) (joinF (ts.take i.toNat) (Bs.zero 16)) j.toNat)), fun j _ => ((16 : Int) - j).toNat, ⟨Int.le_refl 0, by decide, Only.refl _ _, v3.ext x35⟩, ?_⟩
    rintro j h6 ⟨j0, j1, f6, v6⟩
    have v56 : Var 56 h6 h3.size (.bytes 16 t') := v5.only f6 (by omega)
    refine If.dec.2 ⟨fun hj => ?_, fun hj => ?_⟩
    · have hb := byte_at v6 (i := j.toNat) (by omega)
      rw [fillB_get _ _ _ _ (by omega), if_neg (by omega)] at hb
      have hb2 := byte_at v56 (i := j.toNat) (by omega)
      have hw : 0 ≤ xv ((getB (joinF (ts.take i.toNat) (Bs.zero 16)) j.toNat).toNat : Int) ((getB t' j.toNat).toNat : Int) ∧ xv ((getB (joinF (ts.take i.toNat) (Bs.zero 16)) j.toNat).toNat : Int) ((getB t' j.toNat).toNat : Int) < 256 := wrap_u8_range _
      refine ⟨j0, hj, _, hb, j0, hj, _, hb2, j0, hj, ?_⟩
      refine put_byte v6 (i := j.toNat) (o := 0 + j.toNat * 1) (by omega) (by omega) hw.1 hw.2 fun h7 v7 f7 s7 => ?_
      rw [wrap_i64 (n := j + 1) (by omega) (by omega)]
      refine ⟨⟨by omega, by omega, f6.trans f7, ?_⟩, by dsimp only; omega⟩
      rw [show (j + 1).toNat = j.toNat + 1 by omega]
      exact v7
    · have e16 : j.toNat = 16 := by omega
      rw [e16] at v6
      rw [wrap_i64 (n := i + 1) (by omega) (by omega)]
      refine ⟨⟨by omega, by omega, (f3.trans ((Only.of_ext x35).mono (fun _ h => h))).trans f6, ?_⟩, by dsimp only; omega⟩
      rw [show (i + 1).toNat = i.toNat + 1 by omega, take_snoc ht', joinF_snoc]
      exact v6
  · have hall : ts.take i.toNat = ts := List.take_of_length_le (by omega)
    rw [hall] at v3
    have v13 : Var 56 h3 h.size (.bytes 16 (Bs.zero 16)) := (v1.ext x2).only f3 (by omega)
    refine ⟨_, v3.bytes, put_in v13 (t := .bytes 16 (joinF ts (Bs.zero 16))) bsz fun h4 v4 f4 s4 => ⟨_, v4.bytes, ?_⟩⟩
    refine hr h4 (Only.cut (Only.cut (x1.trans x2) f3 fun i hi => by omega) f4 fun i hi => by omega)

end
end Go.Proofs.YtennbinbffdimaaGreat.Board
end

section
/- A message's bytes, who speaks, its tag, what is signed and checked, its votes. -/
namespace Go.Proofs.YtennbinbffdimaaGreat.Board
open Go Go.Vc
section
variable {R : Value → Heap → Prop} {h : Heap}

/-! ### What one speaker's tag is of -/

def oneF (m : Ms) (who : Int) : Ms := if m.kind = 3 then ⟨2, m.slot, m.target, who, 0, Sl.nil, Bs.zero 16⟩ else m
def oneR (m : Ms) (row : List Bool) : List Bool := if m.kind = 3 then [] else row

theorem one_spec {m : Ms} {who : Int} (hr : ∀ h', Ext h h' → R (oneF m who).tv.val h') : CallsH Tryz.prog 294 (TVs.vals [m.tv, .int .i64 who]) h R := by
  apply seal_one_calls m.kind m.slot m.target m.member m.body m.bits m.tag who
  unfold seal_one_vc
  refine newTV_in fun h1 v1 x1 s1 => newTV_in fun h2 v2 x2 s2 => ?_
  have w1 : Var 58 h2 h.size m.tv := v1.ext x2
  have v2 : Var 58 h2 h1.size zeroM.tv := v2
  have at1' := w1.at
  obtain ⟨a0, a1, a2, a3, a4, a5, a6⟩ := at1'
  refine ⟨_, a0, If.dec.2 ⟨fun k => ⟨_, a1, _, a2, ?_⟩, fun k => ms_at w1 ?_⟩⟩
  · have he : oneF m who = ⟨2, m.slot, m.target, who, 0, Sl.nil, Bs.zero 16⟩ := if_pos k
    refine put_n v2 (t := (Ms.mk 2 m.slot m.target who 0 Sl.nil (Bs.zero 16)).tv) mssz1 mssz fun h3 v3 f3 s3 => ?_
    refine ms_at (m := Ms.mk 2 m.slot m.target who 0 Sl.nil (Bs.zero 16)) v3 ?_
    have := hr h3 (Only.cut (x1.trans x2) f3 fun i hi => by omega)
    rw [he] at this
    exact this
  · have he : oneF m who = m := if_neg k
    refine put_n v2 (t := m.tv) mssz1 mssz fun h3 v3 f3 s3 => ?_
    refine ms_at v3 ?_
    have := hr h3 (Only.cut (x1.trans x2) f3 fun i hi => by omega)
    rw [he] at this
    exact this

/-! ### Who speaks -/

/-- Who speaks in a message, and whether they can. -/
noncomputable def speakF (n : Nat) (com : Int) (m : Ms) (row : List Bool) : List Int × Bool :=
  if goodF m row = false then ([], false)
  else if m.kind = 3 then (if mem n com m.slot = [] ∨ row.length ≠ (mem n com m.slot).length then ([], false) else (pk (mem n com m.slot) row, true))
  else if m.kind = 1 ∧ firstOf (mem n com m.slot) ≠ m.member then ([], false)
  else if idx (mem n com m.slot) m.member 0 < 0 then ([], false) else ([m.member], true)

theorem nil_ints (h : Heap) : Elems 1 h Sl.nil (ints []) := Elems.nil_ 1 h

theorem one_ints (h : Heap) (x : Int) : Elems 1 (h.push (Vc.row (TVs.cells [TV.int .i64 x]) 3)) ⟨some ⟨h.size, 0⟩, 1, 1⟩ (ints [x]) :=
  (Own.new (T := 3) (sz := 1) h [TV.int .i64 x] (fun t ht => by
    simp only [List.mem_cons, List.not_mem_nil, or_false] at ht
    subst ht; rfl)).elems

theorem speak_spec {c : Cf} {m : Ms} {row : List Bool} (hv : c.vals.len < 900) (e : Elems 1 h m.bits (bools row)) (hl : row.length < 100000)
    (hr : ∀ h' s', Elems 1 h' s' (ints (speakF c.vals.len c.com m row).1) → Ext h h' → R (TV.tup [.slice s', .bool (speakF c.vals.len c.com m row).2]).val h') : CallsH Tryz.prog 170 (TVs.vals [c.tv, m.tv]) h R := by
  apply seal_Speakers_calls c.vals c.ep c.com c.no c.orp c.ear c.quo c.pe c.by_ c.win c.ban c.dec m.kind m.slot m.target m.member m.body m.bits m.tag
  unfold seal_Speakers_vc
  refine newTV_in fun h1 v1 x1 s1 => newTV_in fun h2 v2 x2 s2 => ?_
  have v1 : Var 24 h1 h.size c.tv := v1
  have v2 : Var 58 h2 h1.size m.tv := v2
  have x02 := x1.trans x2
  refine ms_at v2 (mgood_spec (e.ext x02) hl fun h3 x3 => ⟨_, rfl, ?_⟩)
  have x03 := x02.trans x3
  have w1 : Var 24 h3 h.size c.tv := (v1.ext x2).ext x3
  have w2 : Var 58 h3 h1.size m.tv := v2.ext x3
  have at2 := w2.at
  obtain ⟨a0, a1, a2, a3, a4, a5, a6⟩ := at2
  have bad : ∀ h', Ext h h' → speakF c.vals.len c.com m row = ([], false) → R (TV.tup [.slice Sl.nil, .bool false]).val h' := fun h' x hs => by
    have := hr h' Sl.nil (by rw [hs]; exact nil_ints h') x
    rw [hs] at this
    exact this
  refine If.split (fun hg => bad h3 x03 ?_) fun hg => ⟨_, a0, If.dec.2 ⟨fun k3 => ?_, fun k3 => ⟨_, a0, ?_⟩⟩⟩
  · unfold speakF
    rw [if_pos (by simpa using hg)]
  · have hg : ¬ goodF m row = false := by simpa using hg
    refine cf_at w1 ⟨_, a1, _, a5, ?_⟩
    refine pick_spec (c := c) hv (e.ext x03) (fun h4 x4 hn => ⟨_, _, rfl, bad h4 (x03.trans x4) ?_⟩) fun h4 s4 o4 x4 hy1 hy2 => ⟨_, _, rfl, ?_⟩
    · unfold speakF
      rw [if_neg hg, if_pos k3, if_pos hn]
    · have hs : speakF c.vals.len c.com m row = (pk (mem c.vals.len c.com m.slot) row, true) := by
        unfold speakF
        rw [if_neg hg, if_pos k3, if_neg (fun hx => hx.elim hy1 (fun hx => hx hy2))]
      have := hr h4 s4 (by rw [hs]; exact o4.elems) (x03.trans x4)
      rw [hs] at this
      exact this
  · have hg : ¬ goodF m row = false := by simpa using hg
    have last : ∀ h4, Ext h3 h4 → (¬ (m.kind = 1 ∧ firstOf (mem c.vals.len c.com m.slot) ≠ m.member)) → CallsH Tryz.prog 235 (TVs.vals [c.tv, .int .i64 m.slot, .int .i64 m.member]) h4 fun v h => ∃ (n : Int), v = TV.val (TV.int .i64 n) ∧ If (decide (n < 0)) (R (TV.val (TV.tup [TV.slice Sl.nil, TV.bool false])) h) (∃ (n : Int), at1 h h1.size 34 (.int .i64 n) ∧ R (TV.val (TV.tup [TV.slice (Sl.mk (some (Vc.Loc.mk h.size 0)) 1 1), TV.bool true])) (h.push (Vc.row (TVs.cells [TV.int .i64 n]) 3))) := by
      intro h4 x4 hk
      refine place_spec (c := c) hv fun h5 x5 => ⟨_, rfl, If.dec.2 ⟨fun hi => bad h5 ((x03.trans x4).trans x5) ?_, fun hi => ⟨m.member, at1_ext x5 (at1_ext x4 a3), ?_⟩⟩⟩
      · unfold speakF
        rw [if_neg hg, if_neg k3, if_neg hk, if_pos hi]
      · have hs : speakF c.vals.len c.com m row = ([m.member], true) := by
          unfold speakF
          rw [if_neg hg, if_neg k3, if_neg hk, if_neg hi]
        have := hr _ ⟨some ⟨h5.size, 0⟩, 1, 1⟩ (by rw [hs]; exact one_ints h5 m.member) (((x03.trans x4).trans x5).trans (Ext.push _ _))
        rw [hs] at this
        exact this
    refine If.dec.2 ⟨fun k1 => ?_, fun k1 => ?_⟩
    · refine cf_at w1 ⟨_, a1, _, a3, ?_⟩
      refine proposer_spec (c := c) hv fun h4 x4 => ⟨_, rfl, x4, ?_⟩
      have w14 := w1.ext x4
      refine If.split (fun hp => If.split (fun hp => bad h4 (x03.trans x4) ?_) fun hn => absurd hp (by rw [hn]; decide)) fun hp => ?_
      · unfold speakF
        rw [if_neg hg, if_neg k3, if_pos ⟨k1, by simpa using hp⟩]
      · refine cf_at w14 ⟨_, at1_ext x4 a1, _, at1_ext x4 a3, ?_⟩
        exact last h4 x4 fun hx => hx.2 (by simpa using hp)
    · refine cf_at w1 ⟨_, a1, _, a3, ?_⟩
      exact last h3 (Ext.refl _) fun hx => k1 hx.1

theorem pk_sub : ∀ (l : List Int) (row : List Bool) (x : Int), x ∈ pk l row → x ∈ l
  | [], _, x, h => by simp [pk] at h
  | _ :: _, [], x, h => by simp [pk] at h
  | y :: l, b :: row, x, h => by
    unfold pk at h
    split at h
    · rcases List.mem_cons.1 h with h1 | h1
      · exact List.mem_cons.2 (.inl h1)
      · exact List.mem_cons.2 (.inr (pk_sub l row x h1))
    · exact List.mem_cons.2 (.inr (pk_sub l row x h))

theorem mem_range {n : Nat} {com slot x : Int} (h : x ∈ mem n com slot) : 0 ≤ x ∧ x < n := by
  by_cases hs : slot < 0 ∨ 1073741824 < slot
  · rw [mem_out hs] at h; cases h
  · rw [mem_eq (by omega) (by omega)] at h
    exact whos_mem (List.mem_of_mem_take h)

theorem speak_mem {n : Nat} {com : Int} {m : Ms} {row : List Bool} {x : Int} (h : x ∈ (speakF n com m row).1) : x ∈ mem n com m.slot := by
  unfold speakF at h
  split at h
  · cases h
  · split at h
    · split at h
      · cases h
      · exact pk_sub _ _ _ h
    · split at h
      · cases h
      · split at h
        · cases h
        · rename_i hi
          simp only [List.mem_singleton] at h
          subst h
          apply Classical.byContradiction
          intro hn
          rw [idx_out _ _ _ hn] at hi
          exact hi (by decide)

theorem speak_len {n : Nat} {com : Int} {m : Ms} {row : List Bool} : (speakF n com m row).1.length ≤ n + 1 := by
  have hp : ∀ (l : List Int) (row : List Bool), (pk l row).length ≤ l.length := by
    intro l
    induction l with
    | nil => intro row; simp [pk]
    | cons y l ih =>
      intro row
      cases row with
      | nil => simp [pk]
      | cons b row =>
        unfold pk
        split
        · simp [ih row]
        · have := ih row; simp; omega
  unfold speakF
  split
  · simp
  · split
    · split
      · simp
      · have := hp (mem n com m.slot) row
        have := mem_length n com m.slot
        show (pk _ _).length ≤ _
        omega
    · split
      · simp
      · split <;> simp

end
end Go.Proofs.YtennbinbffdimaaGreat.Board
end

section
/- A message's tag, what is signed and checked, its votes. -/
namespace Go.Proofs.YtennbinbffdimaaGreat.Board
open Go Go.Vc
section
variable {R : Value → Heap → Prop} {h : Heap}

def keyAt (L : List Vd) (i : Int) : List UInt8 := (L.getD i.toNat ⟨0, []⟩).key
/-- The tag of one who speaks. -/
def tag1 (L : List Vd) (m : Ms) (row : List Bool) (i : Int) : Bs 16 := macF (keyAt L i) (plainF (oneF m i) (oneR m row))
noncomputable def tagF (n : Nat) (com : Int) (L : List Vd) (m : Ms) (row : List Bool) : Bs 16 × Bool :=
  if (speakF n com m row).2 = true then (joinF ((speakF n com m row).1.map (tag1 L m row)) (Bs.zero 16), true) else (Bs.zero 16, false)

theorem bytes30 : (ctx.ti 56).bytes = 16 := by kernel_rfl
theorem size30 : (ctx.ti 56).size = 16 := by kernel_rfl
theorem zsize30 : (ctx.ti 56).z.size = 16 := by kernel_rfl

theorem one_elems {m : Ms} {row : List Bool} {h' : Heap} (e : Elems 1 h' m.bits (bools row)) (who : Int) : Elems 1 h' (oneF m who).bits (bools (oneR m row)) := by
  unfold oneF oneR
  split
  · exact Elems.nil_ 1 h'
  · exact e

theorem oneR_len (m : Ms) (row : List Bool) : (oneR m row).length ≤ row.length := by
  unfold oneR
  split <;> simp

set_option maxRecDepth 100000 in
theorem tag_spec {c : Cf} {m : Ms} {row : List Bool} {L : List Vd} (hv : c.vals.len < 900) (ev : Elems 2 h c.vals (vds L)) (hkey : ∀ v ∈ L, v.key.length ≤ 64) (e : Elems 1 h m.bits (bools row)) (hl : row.length < 500)
    (hr : ∀ h', Ext h h' → R (TV.tup [.bytes 16 (tagF c.vals.len c.com L m row).1, .bool (tagF c.vals.len c.com L m row).2]).val h') : CallsH Tryz.prog 264 (TVs.vals [c.tv, m.tv]) h R := by
  apply seal_Tag_calls c.vals c.ep c.com c.no c.orp c.ear c.quo c.pe c.by_ c.win c.ban c.dec m.kind m.slot m.target m.member m.body m.bits m.tag
  unfold seal_Tag_vc
  have lv : L.length = c.vals.len := by have := ev.len; rwa [List.length_map] at this
  refine newTV_in fun h1 v1 x1 s1 => newTV_in fun h2 v2 x2 s2 => newTV_in fun h3 v3 x3 s3 => ?_
  have v1 : Var 24 h3 h.size c.tv := (Var.ext (t := c.tv) v1 x2).ext x3
  have v2 : Var 58 h3 h1.size m.tv := Var.ext (t := m.tv) v2 x3
  have x03 := (x1.trans x2).trans x3
  refine cf_at v1 (ms_at v2 (speak_spec hv (e.ext x03) (by omega) fun h4 s4 e4 x4 => ⟨_, _, rfl, ?_⟩))
  have x04 := x03.trans x4
  have w1 := v1.ext x4
  have w2 := v2.ext x4
  have w3 := v3.ext x4
  refine If.split (fun hb => ?_) fun hb => ?_
  · have ht : tagF c.vals.len c.com L m row = (Bs.zero 16, false) := by
      unfold tagF
      rw [if_neg (by simpa using hb)]
    refine put_n w3 (t := .bytes 16 (Bs.zero 16)) rfl rfl fun h5 v5 f5 s5 => ⟨_, v5.bytes, ?_⟩
    have := hr h5 (Only.cut x04 f5 fun i hi => by have := x1.size; have := x2.size; omega)
    rw [ht] at this
    exact this
  · have hb : (speakF c.vals.len c.com m row).2 = true := by simpa using hb
    have ht : tagF c.vals.len c.com L m row = (joinF ((speakF c.vals.len c.com m row).1.map (tag1 L m row)) (Bs.zero 16), true) := by
      unfold tagF
      rw [if_pos hb]
    have hrange : ∀ x ∈ (speakF c.vals.len c.com m row).1, 0 ≤ x ∧ x < c.vals.len := fun x hx => mem_range (speak_mem hx)
    have hlen := speak_len (n := c.vals.len) (com := c.com) (m := m) (row := row)
    generalize (speakF c.vals.len c.com m row).1 = l at e4 ht hrange hlen
    have el := ints_len e4
    refine ⟨fun σ hh => 0 ≤ σ.2 ∧ σ.2 ≤ s4.len ∧ Own 56 16 hh σ.1 (tags ((l.take σ.2.toNat).map (tag1 L m row))) ∧ (∀ p, σ.1.a = some p → h4.size ≤ p.b) ∧ Ext h4 hh, fun σ _ => ((s4.len : Int) - σ.2).toNat,
      ⟨Int.le_refl 0, by first | omega | (dsimp only; omega), Own.nil _ _ _, (fun p hp => by cases hp), Ext.refl _⟩, ?_⟩
    rintro ⟨t, i⟩ h5 ⟨i0, i1, o5, b5, x5⟩
    dsimp only at i0 i1 o5 b5 x5 ⊢
    refine If.dec.2 ⟨fun hi => ?_, fun hi => ?_⟩
    · refine read_int (e4.ext x5) i0 (by omega) fun x hx => ?_
      have hxr := hrange x (List.mem_of_getElem? hx)
      refine ⟨c.vals, (w1.ext x5).at.1, ?_⟩
      refine ((ev.ext x04).ext x5).read hxr.1 (by omega) fun lv' tv hla htv hat => ?_
      rw [List.getElem?_map] at htv
      obtain ⟨vd, hvd, rfl⟩ := Option.map_eq_some_iff.1 htv
      have hky : keyAt L x = vd.key := by unfold keyAt; rw [List.getD_eq_getElem?_getD, hvd]; rfl
      have hk64 := hkey vd (List.mem_of_getElem? hvd)
      refine ⟨vd.key, hat.2, ms_at (w2.ext x5) ?_⟩
      have e5 : Elems 1 h5 m.bits (bools row) := (e.ext x04).ext x5
      refine one_spec (m := m) (who := x) fun h6 x6 => ⟨_, _, _, _, _, _, _, rfl, x6, ?_⟩
      have hol := oneR_len m row
      refine plain_spec (m := oneF m x) (one_elems (e5.ext x6) x) (by omega) fun h7 x7 => ⟨_, rfl, x7, Ext.push _ _, ?_⟩
      have hpl := plainF_len (oneF m x) (oneR m row)
      refine macof_spec (ts := [plainF (oneF m x) (oneR m row)]) hk64 (strs_elems (T := 9) h7 [plainF (oneF m x) (oneR m row)]) (by simp only [List.flatten_cons, List.flatten_nil, List.append_nil]; omega) (by simp) fun h8 x8 => ⟨_, rfl, ?_⟩
      have hf1 : [plainF (oneF m x) (oneR m row)].flatten = plainF (oneF m x) (oneR m row) := by simp
      rw [hf1]
      have x58 : Ext h5 h8 := ((x6.trans x7).trans (Ext.push _ _)).trans x8
      have o8 := o5.ext x58
      have tl := o8.len
      rw [List.length_map, List.length_map, List.length_take] at tl
      have hx' : macF vd.key (plainF (oneF m x) (oneR m row)) = tag1 L m row x := by unfold tag1; rw [hky]
      refine append1 (C := ctx) (T := 56) (sz := 16) (x := .bytes 16 (macF vd.key (plainF (oneF m x) (oneR m row)))) size30 zsize30 (by rw [bytes30]; decide) (by rw [bytes30]; omega) o8 rfl rfl fun s9 h9 o9 f9 b9 => ?_
      rw [wrap_i64 (n := i + 1) (by omega) (by omega)]
      have x9 : Ext h4 h9 := Only.cut (x5.trans x58) f9 fun j ⟨p, hp, hj⟩ => by have := b5 p hp; omega
      have z8 := (x5.trans x58).size
      refine ⟨⟨by omega, by omega, ?_, fun p hp => ?_, x9⟩, by first | omega | (dsimp only; omega)⟩
      · rw [show (i + 1).toNat = i.toNat + 1 by omega, take_snoc hx, List.map_append, List.map_cons, List.map_nil, ← hx']
        simpa [tags] using o9
      · rcases b9 p hp with ⟨p', h1', h2'⟩ | h1'
        · have := b5 p' h1'; omega
        · omega
    · have hall : l.take i.toNat = l := List.take_of_length_le (by omega)
      rw [hall] at o5
      refine join_spec o5.elems (by rw [List.length_map]; omega) fun h6 x6 => ⟨_, rfl, ?_⟩
      have x06 := (x04.trans x5).trans x6
      refine put_n ((w3.ext x5).ext x6) (t := .bytes 16 (joinF (l.map (tag1 L m row)) (Bs.zero 16))) rfl rfl fun h7 v7 f7 s7 => ⟨_, v7.bytes, ?_⟩
      have := hr h7 (Only.cut x06 f7 fun j hj => by have := x1.size; have := x2.size; omega)
      rw [ht] at this
      exact this

/-! ### Checked, signed -/

noncomputable def checkF (n : Nat) (com : Int) (L : List Vd) (m : Ms) (row : List Bool) : Bool := (tagF n com L m row).2 && decide ((tagF n com L m row).1.l = m.tag.l)

theorem check_spec {c : Cf} {m : Ms} {row : List Bool} {L : List Vd} (hv : c.vals.len < 900) (ev : Elems 2 h c.vals (vds L)) (hkey : ∀ v ∈ L, v.key.length ≤ 64) (e : Elems 1 h m.bits (bools row)) (hl : row.length < 500)
    (hr : ∀ h', Ext h h' → R (TV.bool (checkF c.vals.len c.com L m row)).val h') : CallsH Tryz.prog 206 (TVs.vals [c.tv, m.tv]) h R := by
  apply seal_Check_calls c.vals c.ep c.com c.no c.orp c.ear c.quo c.pe c.by_ c.win c.ban c.dec m.kind m.slot m.target m.member m.body m.bits m.tag
  unfold seal_Check_vc
  refine newTV_in fun h1 v1 x1 s1 => newTV_in fun h2 v2 x2 s2 => ?_
  have v1 : Var 24 h2 h.size c.tv := Var.ext (t := c.tv) v1 x2
  have v2 : Var 58 h2 h1.size m.tv := v2
  have x02 := x1.trans x2
  refine cf_at v1 (ms_at v2 (tag_spec hv (ev.ext x02) hkey (e.ext x02) hl fun h3 x3 => ⟨_, _, rfl, ?_⟩))
  refine newTV_in fun h4 v4 x4 s4 => put_n v4 (t := .bytes 16 (tagF c.vals.len c.com L m row).1) rfl rfl fun h5 v5 f5 s5 => ?_
  have x35 : Ext h3 h5 := Only.cut x4 f5 fun i hi => by omega
  have x05 := (x02.trans x3).trans x35
  have hr5 := hr h5 x05
  unfold checkF at hr5
  refine If.split (fun hb => ?_) fun hb => ?_
  · rw [hb, Bool.true_and] at hr5
    have w2 := (v2.ext x3).ext x35
    exact ⟨_, v5.bytes, m.tag, w2.at.2.2.2.2.2.2, hr5⟩
  · rw [hb, Bool.false_and] at hr5
    exact hr5

/-! ### Votes -/

theorem Vt.size (v : Vt) : v.tv.size = 34 := by simp only [Vt.tv, TV.size, TVs.size]
theorem Vt.plain (v : Vt) : v.tv.plain = true := by simp only [Vt.tv, TV.plain, TVs.plain, Bool.and_self]

end
end Go.Proofs.YtennbinbffdimaaGreat.Board
end

section
/- What is wrong with bytes. -/
namespace Go.Proofs.YtennbinbffdimaaGreat.Gate
open Go Go.Vc
open Board (Vd Cf Ms Dm vds put_n bools zeroM decF nameF speakF checkF ms_at mssz mssz1 decode_spec mroot_spec)
open Pool (It WL Mine has types_pos dm_row)
open Peers (Pe)

section
variable {R : Value → Heap → Prop} {h h' : Heap} {g : Nat} {a : Ad} {c : Cf} {V : List Vd} {s : St} {Fp : Nat → Nat → Prop}

/-- What is wrong with a message; 0: nothing. -/
noncomputable def wrongS (c : Cf) (V : List Vd) (s : St) (m : Ms) (row : List Bool) : Int :=
  if askedS c s m.kind m.slot = false then 6 else if (speakF V.length c.com m row).2 = false then 7 else if checkF V.length c.com V m row = false then 8 else if knownS s m.kind (nameF m row) = true then 9 else 0

set_option maxRecDepth 100000 in
theorem gcheck_spec (p : GateB h g a c V s Fp) (n0 : 0 ≤ s.now) (n1 : s.now ≤ 1073741824) {text : List UInt8} (ht : text.length < 1000)
    (hr0 : decF text = none → ∀ h', Ext h h' → R (TV.tup [zeroM.tv, .int .i64 5]).val h')
    (hr : ∀ d, decF text = some d → ∀ h' b, Elems 1 h' b (bools d.row) → Ext h h' → R (TV.tup [(d.ms b).tv, .int .i64 (wrongS c V s (d.ms b) d.row)]).val h') :
    CallsH Tryz.prog F.gate_Gate_check (TVs.vals [.ptr (some ⟨g, 0⟩), .str text]) h R := by
  apply gate_Gate_check_calls
  unfold gate_Gate_check_vc
  refine newTV_in fun h1 v1 x1 s1 => ?_
  have v1 : Var 58 h1 h.size zeroM.tv := v1
  have out : ∀ (m : Ms) (hh : Heap) (q : Nat) (n : Int), Ext h1 hh → Var 58 hh q m.tv → (∀ h', Ext h h' → Ext hh h' ∨ Only (· = h.size) hh h' → R (TV.tup [m.tv, .int .i64 n]).val h') →
      wok hh h.size 0 53 ∧ Bind (TV.put hh h.size 0 m.tv) fun h5 => ∃ (n_ : Int), ∃ (n_1 : Int), ∃ (b_ : Bs 32), ∃ (n_2 : Int), ∃ (n_3 : Int), ∃ (s : Sl), ∃ (b_1 : Bs 16), (at1 h5 h.size 0 (.int .i64 n_) ∧ at1 h5 h.size 1 (.int .i64 n_1) ∧ atBytes h5 h.size 2 32 b_ ∧ at1 h5 h.size 34 (.int .i64 n_2) ∧ at1 h5 h.size 35 (.int .u64 n_3) ∧ at1 h5 h.size 36 (slVal s) ∧ atBytes h5 h.size 37 16 b_1) ∧
        R (TV.tup [.agg [.int .i64 n_, .int .i64 n_1, .bytes 32 b_, .int .i64 n_2, .int .u64 n_3, .slice s, .bytes 16 b_1], .int .i64 n]).val h5 := by
    intro m hh q n xx vm hk
    refine put_n (t0 := zeroM.tv) (v1.ext xx) (t := m.tv) mssz1 mssz fun h5 v5 f5 s5 => ms_at (m := m) v5 ?_
    exact hk h5 (Only.cut (x1.trans xx) f5 fun i hi => Nat.le_of_eq (Eq.symm hi)) (.inr f5)
  refine decode_spec (by omega) (fun hno h2 x2 => ?_) fun d h2 bs hd e2 x2 nw => ?_
  · refine ⟨_, _, _, _, _, _, _, _, rfl, newTV_in fun h3 v3 x3 s3 => put_n (t0 := zeroM.tv) v3 (t := zeroM.tv) mssz1 mssz fun h4 v4 f4 s4 => ?_⟩
    have x24 : Ext h2 h4 := Only.cut x3 f4 fun i hi => Nat.le_of_eq (Eq.symm hi)
    exact If.yes (ms_at (m := zeroM) v4 (out zeroM h4 _ 5 (x2.trans x24) v4 fun h5 x5 _ => hr0 hno h5 x5))
  refine ⟨_, _, _, _, _, _, _, _, rfl, newTV_in fun h3 v3 x3 s3 => put_n (t0 := zeroM.tv) v3 (t := (d.ms bs).tv) mssz1 mssz fun h4 v4 f4 s4 => ?_⟩
  have x24 : Ext h2 h4 := Only.cut x3 f4 fun i hi => Nat.le_of_eq (Eq.symm hi)
  have v4 : Var 58 h4 h2.size (d.ms bs).tv := v4
  have y4 := x2.trans x24
  have hrow := dm_row hd
  have k := p.can
  have kl := k.len
  have keys := can_keys k
  have el : V.length = c.vals.len := by have := p.vals.len; rwa [List.length_map] at this
  have z1 := x1.size
  have fin : ∀ (n : Int) (hh : Heap), wrongS c V s (d.ms bs) d.row = n → Ext h4 hh → ∀ h', Ext h h' → Ext hh h' ∨ Only (· = h.size) hh h' → R (TV.tup [(d.ms bs).tv, .int .i64 n]).val h' := by
    intro n hh hn xh h' x' hor
    rw [← hn]
    have eh := e2.ext (x24.trans xh)
    refine hr d hd h' bs ?_ x'
    rcases hor with hx | hx
    · exact eh.ext hx
    · refine TV.at_keep hx eh fun i ⟨l, hl, hi⟩ hq => ?_
      have := (nw l hl).1
      have hq : i = h.size := hq
      omega
  have gx : ∀ {hh}, Ext h4 hh → GateB hh g a c V s Fp := fun xh => p.ext (x1.trans (y4.trans xh))
  refine If.no (ms_at (m := d.ms bs) v4 (asked_spec (m := d.ms bs) (gx (Ext.refl _)) n0 n1 fun h5 x5 => ⟨_, rfl, ?_⟩))
  have v5 := v4.ext x5
  refine If.split (fun hb => ms_at (m := d.ms bs) v5 (out _ h5 _ 6 (y4.trans x5) v5 (fin 6 h5 (if_pos (by simpa using hb)) x5))) fun hb => ?_
  have a1 : ¬ askedS c s (d.ms bs).kind (d.ms bs).slot = false := by simpa using hb
  refine ⟨c.vals, c.ep, c.com, c.no, c.orp, c.ear, c.quo, c.pe, c.by_, c.win, c.ban, c.dec, (gx x5).var.at.1, ms_at (m := d.ms bs) v5 ?_⟩
  refine Board.speak_spec (c := c) (by omega) (e2.ext (x24.trans x5)) (by omega) fun h6 s6 _ x6 => ⟨_, _, rfl, ?_⟩
  have x46 := x5.trans x6
  have v6 := v4.ext x46
  rw [← el]
  refine If.split (fun hb => ms_at (m := d.ms bs) v6 (out _ h6 _ 7 (y4.trans x46) v6 (fin 7 h6 ?_ x46))) fun hb => ?_
  · unfold wrongS
    rw [if_neg a1, if_pos (by simpa using hb)]
  have a2 : ¬ (speakF V.length c.com (d.ms bs) d.row).2 = false := by simpa using hb
  refine ⟨c.vals, c.ep, c.com, c.no, c.orp, c.ear, c.quo, c.pe, c.by_, c.win, c.ban, c.dec, (gx x46).var.at.1, ms_at (m := d.ms bs) v6 ?_⟩
  refine Board.check_spec (c := c) (L := V) (by omega) (gx x46).vals (fun v hv => by have := keys v hv; omega) (e2.ext (x24.trans x46)) hrow fun h7 x7 => ⟨_, rfl, ?_⟩
  have x47 := x46.trans x7
  have v7 := v4.ext x47
  rw [← el]
  refine If.split (fun hb => ms_at (m := d.ms bs) v7 (out _ h7 _ 8 (y4.trans x47) v7 (fin 8 h7 ?_ x47))) fun hb => ?_
  · unfold wrongS
    rw [if_neg a1, if_neg a2, if_pos (by simpa using hb)]
  have a3 : ¬ checkF V.length c.com V (d.ms bs) d.row = false := by simpa using hb
  refine ms_at (m := d.ms bs) v7 (ms_at (m := d.ms bs) v7 (mroot_spec (m := d.ms bs) (e2.ext (x24.trans x47)) hrow fun h8 x8 => ⟨_, rfl, x8, ?_⟩))
  have x48 := x47.trans x8
  refine known_spec (m := d.ms bs) (gx x48) fun h9 x9 => ⟨_, rfl, ?_⟩
  have x49 := x48.trans x9
  have v9 := v4.ext x49
  refine If.split (fun hb => ms_at (m := d.ms bs) v9 (out _ h9 _ 9 (y4.trans x49) v9 (fin 9 h9 ?_ x49))) fun hb => ms_at (m := d.ms bs) v9 (out _ h9 _ 0 (y4.trans x49) v9 (fin 0 h9 ?_ x49))
  · unfold wrongS
    rw [if_neg a1, if_neg a2, if_neg a3, if_pos hb]
  · unfold wrongS
    rw [if_neg a1, if_neg a2, if_neg a3, if_neg (by rw [hb]; decide)]

end
end Go.Proofs.YtennbinbffdimaaGreat.Gate
end

section
/- One part of a gate changes. -/
namespace Go.Proofs.YtennbinbffdimaaGreat.Gate
open Go Go.Vc
open Board (Vd Cf vds)
open Pool (It WL Mine)
open Peers (Pe)

section
variable {h h' : Heap} {g : Nat} {a : Ad} {c : Cf} {V : List Vd} {s : St} {Fp : Nat → Nat → Prop} {S' : Nat → Prop}

theorem GateB.vlt (p : GateB h g a c V s Fp) : ∀ i, In c.vals i → i < h.size := fun i ⟨l, hl, hi⟩ => by
  have k := p.can.len
  obtain ⟨v, hv⟩ : ∃ v, V[0]? = some v := ⟨_, List.getElem?_eq_getElem (by omega)⟩
  have hat := p.vals.get l hl 0 v.tv (by rw [List.getElem?_map, hv]; rfl)
  have h1 : at1 h l.b (l.o + 0 * 2) (.int .i64 v.stake) := hat.1
  have h2 : cel h l.b (l.o + 0 * 2) = some (.int .i64 v.stake) := h1
  unfold cel at h2
  split at h2
  · rename_i hb
    have := (Array.getElem?_eq_some_iff.1 hb).1
    omega
  · cases h2

theorem GateB.offs (p : GateB h g a c V s Fp) {j : Nat} (st : Step (Fp j) h S' h') : ∀ k i, upd Fp j S' k i → ¬ In c.vals i := fun k i hi hv => by
  by_cases e : k = j
  · rw [e, upd_same] at hi
    rcases st.new i hi with h1 | h1
    · exact p.off j i h1 hv
    · have := p.vlt i hv; omega
  · rw [upd_ne e] at hi
    exact p.off k i hi hv

theorem GateB.stepWait (p : GateB h g a c V s Fp) {I : List It} (pw : PoolB T.early_Early h' a.wt I c.ear c.quo S') (st : Step (Fp 5) h S' h') : GateB h' g a c V { s with wait := I } (upd Fp 5 S') := by
  have o : ∀ k, k ≠ 5 → ∀ i, Fp k i → ¬ Fp 5 i := fun k hk => p.sep.off hk
  refine ⟨p.sep.step st pw.lt, ?_, ?_, ?_, ?_, ?_, ?_, ?_, ?_, ?_, ?_, ?_, ?_, ?_, p.offs st, p.can⟩
  · rw [upd_ne (by decide)]; exact p.tree.only st.only (o 0 (by decide))
  · rw [upd_ne (by decide)]; exact p.wei.only st.only (o 1 (by decide))
  · rw [upd_ne (by decide)]; exact p.tab.only st.only (o 2 (by decide))
  · exact p.bk.only st.only (o 3 (by decide) _ (by rw [p.f3]))
  · rw [upd_ne (by decide)]; exact p.f3
  · rw [upd_ne (by decide)]; exact p.kids.only st.only (o 4 (by decide))
  · rw [upd_same]; exact pw
  · rw [upd_ne (by decide)]; exact p.who.only st.only (o 6 (by decide))
  · exact p.clk.only st.only (o 7 (by decide) _ (by rw [p.f7]))
  · rw [upd_ne (by decide)]; exact p.f7
  · exact p.var.only st.only (o 8 (by decide) _ (by rw [p.f8]))
  · rw [upd_ne (by decide)]; exact p.f8
  · exact TV.at_keep st.only p.vals fun i hi hq => p.off 5 i hq hi

theorem GateB.stepWho (p : GateB h g a c V s Fp) {P : List (Int × Int)} {gone : Int} (pw : PeB h' a.wh P c.pe c.ban c.dec gone S') (st : Step (Fp 6) h S' h') : GateB h' g a c V { s with sc := P, gone := gone } (upd Fp 6 S') := by
  have o : ∀ k, k ≠ 6 → ∀ i, Fp k i → ¬ Fp 6 i := fun k hk => p.sep.off hk
  refine ⟨p.sep.step st pw.lt, ?_, ?_, ?_, ?_, ?_, ?_, ?_, ?_, ?_, ?_, ?_, ?_, ?_, p.offs st, p.can⟩
  · rw [upd_ne (by decide)]; exact p.tree.only st.only (o 0 (by decide))
  · rw [upd_ne (by decide)]; exact p.wei.only st.only (o 1 (by decide))
  · rw [upd_ne (by decide)]; exact p.tab.only st.only (o 2 (by decide))
  · exact p.bk.only st.only (o 3 (by decide) _ (by rw [p.f3]))
  · rw [upd_ne (by decide)]; exact p.f3
  · rw [upd_ne (by decide)]; exact p.kids.only st.only (o 4 (by decide))
  · rw [upd_ne (by decide)]; exact p.wait.only st.only (o 5 (by decide))
  · rw [upd_same]; exact pw
  · exact p.clk.only st.only (o 7 (by decide) _ (by rw [p.f7]))
  · rw [upd_ne (by decide)]; exact p.f7
  · exact p.var.only st.only (o 8 (by decide) _ (by rw [p.f8]))
  · rw [upd_ne (by decide)]; exact p.f8
  · exact TV.at_keep st.only p.vals fun i hi hq => p.off 6 i hq hi

end
end Go.Proofs.YtennbinbffdimaaGreat.Gate
end

section
/- Blocks and votes that wait, in the program: what comes out. -/
namespace Go.Proofs.YtennbinbffdimaaGreat.Pool
open Go Go.Vc
open Board (Dm Ms decF nameF zeroM ms_at put_n mssz mssz1 decode_spec bsz bools take_snoc)

section
variable {R : Value → Heap → Prop} {h : Heap} {o b : Nat} {A : Sl} {S L : List It} {most quota : Int} {T : TypeId}

/-! ### What is told of an item -/

end
end Go.Proofs.YtennbinbffdimaaGreat.Pool
end

section
/- Blocks and votes that wait, in the document. -/
namespace Go.Proofs.YtennbinbffdimaaGreat.Pool
open Go Go.Vc
open Board (Dm Ms decF nameF zeroM ms_at put_n mssz mssz1 bsz bools take_snoc dec_good)

section
variable {R : Value → Heap → Prop} {h : Heap} {m : Nat} {A : Sl} {M L : List It} {most quota : Int}

/-! ### What comes out -/

theorem bytes50 : (ctx.ti 82).bytes = 96 := by kernel_rfl
theorem size50 : (ctx.ti 82).size = 67 := by kernel_rfl
theorem zsize50 : (ctx.ti 82).z.size = 67 := by kernel_rfl

end
end Go.Proofs.YtennbinbffdimaaGreat.Pool
end

section
/- Both kinds of what waits, side by side. -/
namespace Go.Proofs.YtennbinbffdimaaGreat.Pool
open Go Go.Vc
open Board (Dm decF nameF)

section
variable {h0 h h' : Heap} {o b m : Nat} {A B A' B' : Sl} {S M S' M' : List It} {most quota : Int} {T : TypeId} {want : Int → Bool}

end
end Go.Proofs.YtennbinbffdimaaGreat.Pool
end

section
/- What becomes of bytes, where no block gets through. -/
namespace Go.Proofs.YtennbinbffdimaaGreat.Gate
open Go Go.Vc
open Board (Vd Cf Ms Dm vds put_n bools zeroM decF nameF ms_at mssz mssz1)
open Pool (It WL Mine has putW)
open Peers (Pe)

section
variable {R : Value → Heap → Prop} {h h' : Heap} {g : Nat} {a : Ad} {c : Cf} {V : List Vd} {s : St} {Fp : Nat → Nat → Prop}

/-- What waits behind bytes that are no block's. -/
def WaitTo (c : Cf) (V : List Vd) (s : St) (peer : Int) (text : List UInt8) (v : Int) (I : List It) : Prop :=
  (I = s.wait ∧ v ≠ 0) ∨ ∃ d b, decF text = some d ∧ wrongS c V s (d.ms b) d.row = 0 ∧ d.kind ≠ 1 ∧ v = (putW (fun k => !decide (k = 1)) c.ear c.quo peer text s.wait).1 ∧ I = (putW (fun k => !decide (k = 1)) c.ear c.quo peer text s.wait).2.2

set_option maxRecDepth 100000 in
theorem judge_spec (p : GateB h g a c V s Fp) (n0 : 0 ≤ s.now) (n1 : s.now ≤ 1073741824) (hlen : (s.wait.length : Int) ≤ c.ear) {peer : Int} {text : List UInt8} (ht : text.length < 1000)
    (nb : ∀ d b, decF text = some d → wrongS c V s (d.ms b) d.row = 0 → d.kind ≠ 1)
    (hr : ∀ h' v I Fp', GateB h' g a c V { s with wait := I } Fp' → Step (All Fp) h (All Fp') h' → WaitTo c V s peer text v I → R (TV.int .i64 v).val h') :
    CallsH Tryz.prog F.gate_Gate_judge (TVs.vals [.ptr (some ⟨g, 0⟩), .int .i64 peer, .str text]) h R := by
  apply gate_Gate_judge_calls
  unfold gate_Gate_judge_vc
  obtain ⟨r, pe, hP⟩ := p.who
  have same : ∀ (hh : Heap) (v : Int), v ≠ 0 → Ext h hh → R (TV.int .i64 v).val hh := fun hh v hv x => hr hh v s.wait Fp (p.ext x) (.of_ext x) (.inl ⟨rfl, hv⟩)
  refine ⟨_, p.var.at1 rfl, Peers.Banned_spec pe ⟨_, rfl, If.split (fun _ => same h 3 (by decide) (Ext.refl _)) fun _ => ⟨c.by_, p.var.at1 rfl, If.dec.2 ⟨fun _ => same h 4 (by decide) (Ext.refl _), fun _ => ?_⟩⟩⟩⟩
  refine gcheck_spec p n0 n1 ht (fun hno h2 x2 => ?_) fun d hd h2 b e2 x2 => ?_
  · refine ⟨_, _, _, _, _, _, _, _, rfl, newTV_in fun h3 v3 x3 s3 => put_n (t0 := zeroM.tv) v3 (t := zeroM.tv) mssz1 mssz fun h4 v4 f4 s4 => ?_⟩
    exact If.yes (same h4 5 (by decide) (x2.trans (Only.cut x3 f4 fun i hi => Nat.le_of_eq (Eq.symm hi))))
  refine ⟨_, _, _, _, _, _, _, _, rfl, newTV_in fun h3 v3 x3 s3 => put_n (t0 := zeroM.tv) v3 (t := (d.ms b).tv) mssz1 mssz fun h4 v4 f4 s4 => ?_⟩
  have x4 : Ext h h4 := x2.trans (Only.cut x3 f4 fun i hi => Nat.le_of_eq (Eq.symm hi))
  have v4 : Var 58 h4 h2.size (d.ms b).tv := v4
  refine If.split (fun hb => same h4 _ (by simpa using hb) x4) fun hb => ?_
  have hw : wrongS c V s (d.ms b) d.row = 0 := by simpa using hb
  have hk := nb d b hd hw
  refine ⟨d.kind, v4.at1 rfl, If.dec.2 ⟨fun e => absurd e hk, fun _ => ?_⟩⟩
  have p4 := p.ext x4
  obtain ⟨wb, wA, wp, hW⟩ := p4.wait
  refine ⟨_, p4.var.at1 rfl, Pool.eput_spec (peer := peer) (text := text) wp p.can.ear.1 p.can.ear.2 hlen ht fun h5 A5 w5 g5 => ⟨_, _, rfl, ?_⟩⟩
  have st : Step (Fp 5) h4 (fun i => i = a.wt ∨ Mine wb A5 i) h5 := by
    rw [hW]
    exact ⟨g5.only.mono fun i hi => .inr hi, fun i hi => by
      rcases hi with h1 | h1
      · exact .inl (.inl h1)
      · exact (g5.new i h1).imp .inr id⟩
  exact hr h5 _ _ _ (p4.stepWait ⟨wb, A5, w5, rfl⟩ st) (.cut x4 (Step.all st)) (.inr ⟨d, b, hd, hw, hk, rfl, rfl⟩)

theorem deliver_spec (p : GateB h g a c V s Fp) (n0 : 0 ≤ s.now) (n1 : s.now ≤ 1073741824) (hlen : (s.wait.length : Int) ≤ c.ear) {peer : Int} (hp : (Lit.int .i64 peer).wf = true) (hg : 0 ≤ s.gone ∧ s.gone < 1000000) {text : List UInt8} (ht : text.length < 1000)
    (nb : ∀ d b, decF text = some d → wrongS c V s (d.ms b) d.row = 0 → d.kind ≠ 1)
    (hr : ∀ h' v I P k Fp', GateB h' g a c V { s with wait := I, sc := P, gone := s.gone + k } Fp' → Step (All Fp) h (All Fp') h' → WaitTo c V s peer text v I → Peers.FailTo c.pe s.sc peer (pointsF v) P k → R (TV.int .i64 v).val h') :
    CallsH Tryz.prog F.gate_Gate_Deliver (TVs.vals [.ptr (some ⟨g, 0⟩), .int .i64 peer, .str text]) h R := by
  apply gate_Gate_Deliver_calls
  unfold gate_Gate_Deliver_vc
  refine If.no (judge_spec p n0 n1 hlen ht nb fun h1 v I F1 p1 st1 wt => ⟨v, rfl, _, p1.var.at1 rfl, points_spec ⟨_, rfl, Ext.refl _, ?_⟩⟩)
  obtain ⟨r, pe, hP⟩ := p1.who
  refine Peers.Fail_spec pe hp hg fun h2 P k ft pe2 f2 => ⟨rfl, ?_⟩
  have st : Step (F1 6) h1 (fun i => i = a.wh ∨ i = r) h2 := by
    rw [hP]
    exact ⟨f2, fun i hi => .inl hi⟩
  exact hr h2 v I P k _ (p1.stepWho ⟨r, pe2, rfl⟩ st) (st1.trans (Step.all st)) wt ft

end
end Go.Proofs.YtennbinbffdimaaGreat.Gate
end

section
/- SizePeers. -/
namespace Go.Proofs.YtennbinbffdimaaGreat.Gate
open Go Go.Vc
open Board (Vd Cf Ms Dm vds put_n decF nameF great_spec)
open Pool (It has putW putW_yes putS itemOf insIt)
open Peers (Pe)

theorem wf_i {n : Int} (h0 : -9223372036854775808 ≤ n) (h1 : n ≤ 9223372036854775807) : (Lit.int .i64 n).wf = true := by
  have e1 : IntKind.min .i64 = -9223372036854775808 := by rfl
  have e2 : IntKind.max .i64 = 9223372036854775807 := by rfl
  show (decide (IntKind.min .i64 ≤ n) && decide (n ≤ IntKind.max .i64)) = true
  rw [e1, e2, decide_eq_true h0, decide_eq_true h1]
  rfl

/-- What waits behind bytes that one peer after the other says: nothing, or just these. -/
def OneW (text : List UInt8) (I : List It) : Prop := I = [] ∨ (I.length = 1 ∧ ∀ d b, decF text = some d → has (nameF (d.ms b) d.row) I = true)

/-- A gate to which one text is said at its beginning. -/
def peerSt (s : St) (I : List It) (P : List (Int × Int)) (gn : Int) : St := { s with wait := I, sc := P, gone := gn }

theorem one_next {c : Cf} {V : List Vd} {I I' : List It} {P : List (Int × Int)} {gn peer v : Int} {text : List UInt8} (o : OneW text I) (w : WaitTo c V (peerSt (newSt c V) I P gn) peer text v I') : OneW text I' := by
  rcases w with ⟨rfl, _⟩ | ⟨d, b, hd, hw, hk, _, rfl⟩
  · exact o
  · rcases o with rfl | ⟨_, ho⟩
    · have hwant : (!decide (d.kind = 1)) = true := by simp [hk]
      rw [putW_yes hd hwant]
      show OneW text (putS c.ear c.quo (itemOf d peer text) []).2.2
      unfold putS
      rw [if_neg (by simp [has])]
      split
      · exact .inl rfl
      split
      · refine .inr ⟨rfl, fun d' b' hd' => ?_⟩
        rw [hd] at hd'
        cases hd'
        have e : (itemOf d peer text).root = nameF (d.ms b') d.row := rfl
        unfold has insIt
        rw [List.any_cons, e]
        simp
      · exact .inl rfl
    · exfalso
      have h1 : knownS (peerSt (newSt c V) I P gn) (d.ms b).kind (nameF (d.ms b) d.row) = true := by
        unfold knownS
        rw [if_neg (show ¬ (d.ms b).kind = 1 from hk)]
        exact ho d b hd
      unfold wrongS at hw
      split at hw
      · cases hw
      split at hw
      · cases hw
      split at hw
      · cases hw
      exact absurd hw (by decide)

theorem no_block {c : Cf} {V : List Vd} {I : List It} {P : List (Int × Int)} {gn : Int} {text : List UInt8} : ∀ d b, decF text = some d → wrongS c V (peerSt (newSt c V) I P gn) (d.ms b) d.row = 0 → d.kind ≠ 1 := fun d b _ hw hk => by
  unfold wrongS at hw
  have h1 : askedS c (peerSt (newSt c V) I P gn) (d.ms b).kind (d.ms b).slot = false := by
    unfold askedS
    rw [if_pos (show (d.ms b).kind = 1 from hk)]
    show Clock.blockB 0 0 (d.ms b).slot = false
    unfold Clock.blockB
    by_cases h : 0 < (d.ms b).slot
    · rw [decide_eq_false (show ¬ (d.ms b).slot ≤ 0 by omega), Bool.and_false]
    · rw [decide_eq_false h, Bool.false_and]
  rw [if_pos h1] at hw
  cases hw

theorem votes_new (n : Nat) (sl : Int) (k : Nat) : votesN (newTb n sl) k = 0 := by
  unfold votesN
  have : ∀ i : Nat, (latestOf (newTb n sl) (i : Int)).isSome = false := fun i => by
    unfold latestOf newTb
    rw [if_pos (by omega)]
    simp only [List.getD_eq_getElem?_getD, List.getElem?_replicate]
    split <;> rfl
  simp [this]

theorem parts_peer {c : Cf} {V : List Vd} {I : List It} {P : List (Int × Int)} {gn : Int} : partsS (peerSt (newSt c V) I P gn) = ⟨1, 0, I.length, P.length, 0, 0⟩ := by
  unfold partsS
  rw [show (peerSt (newSt c V) I P gn).tb = newTb V.length c.ep from rfl, votes_new]
  rfl

theorem one_len {text : List UInt8} {I : List It} (o : OneW text I) : I.length ≤ 1 := by
  rcases o with rfl | ⟨h, _⟩
  · exact Nat.zero_le _
  · omega

theorem peer_within {c : Cf} {V : List Vd} {I : List It} {P : List (Int × Int)} {gn : Int} {text : List UInt8} (k : Can c V) (o : OneW text I) (hp : (P.length : Int) ≤ c.pe) : withinF (partsS (peerSt (newSt c V) I P gn)) (mostF c V) = true := by
  have k1 := k.no
  have k2 := k.orp
  have k3 := k.ear
  have k4 := k.len
  have k5 := k.ep
  have k6 := k.win
  have hl := one_len o
  have hd1 : 0 ≤ c.win / c.ep := Int.ediv_nonneg (by omega) (by omega)
  have hm0 : 0 ≤ (V.length : Int) * (c.win / c.ep + 2) := Int.mul_nonneg (by omega) (by omega)
  rw [parts_peer]
  unfold mostF
  rw [if_pos (good_can.2 k)]
  unfold withinF
  simp only [Bool.and_eq_true, decide_eq_true_eq]
  refine ⟨?_, ?_, ?_, hp, ?_, hm0⟩ <;> omega

section
variable {R : Value → Heap → Prop} {h : Heap} {c : Cf} {V : List Vd}

set_option maxRecDepth 100000 in
theorem sizePeers_spec (e : Elems 2 h c.vals (vds V)) {peers : Int} {text : List UInt8} (hr : ∀ h', Ext h h' → R (TV.bool true).val h') :
    CallsH Tryz.prog F.tollerlaw22_SizePeers (TVs.vals [c.tv, .int .i64 peers, .str text]) h R := by
  apply tollerlaw22_SizePeers_calls c.vals c.ep c.com c.no c.orp c.ear c.quo c.pe c.by_ c.win c.ban c.dec
  unfold tollerlaw22_SizePeers_vc
  refine newTV_in fun h1 v1 x1 s1 => alive_spec fun h2 x2 => ⟨_, rfl, If.no ?_⟩
  have v2 : Var 24 h2 h.size c.tv := v1.ext x2
  have x02 := x1.trans x2
  intro J HJ
  refine ⟨c.vals, c.ep, c.com, c.no, c.orp, c.ear, c.quo, c.pe, c.by_, c.win, c.ban, c.dec, v2.at, ?_⟩
  refine great_spec (c := c) (e.ext x02) (fun h3 x3 => ⟨_, rfl, If.yes (hr h3 (x02.trans x3))⟩) fun h3 x3 lc => ⟨_, rfl, If.no ?_⟩
  have x03 := x02.trans x3
  have v3 : Var 24 h3 h.size c.tv := v2.ext x3
  refine If.dec.2 ⟨fun _ => hr h3 x03, fun n1 => If.dec.2 ⟨fun _ => hr h3 x03, fun n2 => If.dec.2 ⟨fun _ => hr h3 x03, fun n3 => ?_⟩⟩⟩
  refine HJ _ h3 ?_
  clear HJ J
  refine ⟨c.vals, c.ep, c.com, c.no, c.orp, c.ear, c.quo, c.pe, c.by_, c.win, c.ban, c.dec, v3.at, ?_⟩
  refine gnew_spec (c := c) (V := V) (e.ext x03) (by omega) (fun _ h4 x4 => ⟨_, _, rfl, If.yes (hr h4 (x03.trans x4))⟩) fun k h4 g a s Fp p4 x4 lo slo => ⟨_, _, rfl, If.no ?_⟩
  have z1 := x1.size
  have z2 := x2.size
  have z3 := x3.size
  have x04 := x03.trans x4
  have k1 := k.no
  have k3 := k.ear
  have off0 : ∀ {hh : Heap}, Ext h hh → Ext h hh := fun x => x
  refine ⟨fun σ hh => 0 ≤ σ.2 ∧ σ.2 ≤ peers ∧ ∃ I P gn Fp, GateB hh g a { c with vals := s } V (peerSt (newSt c V) I P gn) Fp ∧ OneW text I ∧ 0 ≤ gn ∧ gn ≤ σ.2 ∧ Var 24 hh h.size c.tv ∧ Ext h hh ∧ (∀ k i, Fp k i → h3.size ≤ i),
    fun σ _ => (peers - σ.2).toNat, ⟨Int.le_refl 0, by dsimp only; omega, [], [], 0, Fp, p4, .inl rfl, Int.le_refl 0, Int.le_refl 0, v3.ext x4, x04, lo⟩, ?_⟩
  rintro ⟨t, i⟩ hh ⟨i0, i1, I, P, gn, F1, p, o, g0, g1, vc, xh, lo1⟩
  dsimp only at i0 i1 g1 ⊢
  have hl := one_len o
  refine If.dec.2 ⟨fun hi => ?_, fun hi => ?_⟩
  · refine deliver_spec p (Int.le_refl 0) (by show (0 : Int) ≤ _; decide) (by show (I.length : Int) ≤ c.ear; omega) (peer := i) (wf_i (by omega) (by omega)) ⟨g0, by show gn < _; omega⟩ (by omega) no_block fun h5 v I' P' kk F2 p5 st wt ft => ⟨_, rfl, ?_⟩
    have o' : OneW text I' := one_next (c := { c with vals := s }) (V := V) o wt
    have hkk : 0 ≤ kk ∧ kk ≤ 1 := by
      rcases ft with ⟨_, _, h⟩ | ⟨_, _, h, _⟩ | ⟨_, _, _, h, _⟩ <;> omega
    have p5 : GateB h5 g a { c with vals := s } V (peerSt (newSt c V) I' P' (gn + kk)) F2 := p5
    have lo2 : ∀ k i, F2 k i → h3.size ≤ i := fun k i hi => by
      rcases st.new i ⟨k, hi⟩ with ⟨k', h'⟩ | h'
      · exact lo1 k' i h'
      · have := xh.size
        have := p.sep.lt 8 g (by rw [p.f8])
        have := lo1 8 g (by rw [p.f8])
        omega
    have nA : ¬ All F1 h.size := fun ⟨k, hk⟩ => by have := lo1 k _ hk; omega
    have vc5 : Var 24 h5 h.size c.tv := vc.only st.only nA
    have xh5 : Ext h h5 := Only.cut xh st.only fun i ⟨k, hk⟩ => by have := lo1 k i hk; omega
    refine sizeof_spec p5 fun h6 x6 => ⟨_, _, _, _, _, _, rfl, ?_⟩
    rw [parts_peer]
    refine newTV_in fun h7 v7 x7 s7 => put_n (t := (Pt.mk 1 0 I'.length P'.length 0 0).tv) v7 rfl rfl fun h8 v8 f8 s8 => ?_
    have x68 : Ext h6 h8 := Only.cut x7 f8 fun i hi => Nat.le_of_eq (Eq.symm hi)
    have x58 := x6.trans x68
    have vc8 : Var 24 h8 h.size c.tv := vc5.ext x58
    have p8 := p5.ext x58
    obtain ⟨pr, pp, hP⟩ := p8.who
    have pl : (P'.length : Int) ≤ c.pe := pp.len
    have xh8 := xh5.trans x58
    refine ⟨_, v8.at1 rfl, _, vc8.at1 rfl, If.dec.2 ⟨fun hx => absurd (show c.pe < (P'.length : Int) from hx) (by omega), fun _ => ?_⟩⟩
    refine ⟨_, _, _, _, _, _, v8.at, c.vals, c.ep, c.com, c.no, c.orp, c.ear, c.quo, c.pe, c.by_, c.win, c.ban, c.dec, vc8.at, ?_⟩
    refine most_spec (c := c) (V := V) (e.ext xh8) (by omega) fun h9 x9 => ⟨_, _, _, _, _, _, rfl, x9, ?_⟩
    refine within_spec (x := ⟨1, 0, I'.length, P'.length, 0, 0⟩) (y := mostF c V) fun h10 x10 => ⟨_, rfl, ?_⟩
    have hw := peer_within (gn := gn + kk) k o' pl
    rw [parts_peer] at hw
    rw [hw]
    have y8 := x9.trans x10
    refine If.no ?_
    rw [wrap_i64 (n := i + 1) (by omega) (by omega)]
    exact ⟨⟨by omega, by omega, I', P', gn + kk, F2, p8.ext y8, o', by omega, by omega, vc8.ext y8, xh8.trans y8, lo2⟩, by omega⟩
  · refine sizeof_spec p fun h6 x6 => ⟨_, _, _, _, _, _, rfl, ?_⟩
    rw [parts_peer]
    refine newTV_in fun h7 v7 x7 s7 => put_n (t := (Pt.mk 1 0 I.length P.length 0 0).tv) v7 rfl rfl fun h8 v8 f8 s8 => ?_
    have x68 : Ext h6 h8 := Only.cut x7 f8 fun i hi => Nat.le_of_eq (Eq.symm hi)
    refine field_in (i := 3) (t := .int .i64 0) (t0 := .int .i64 P.length) v8 rfl rfl rfl rfl fun h9 v9 f9 s9 => ?_
    have v9 : Var T.size_Parts h9 h6.size (Pt.mk 1 0 I.length 0 0 0).tv := v9
    have x69 : Ext h6 h9 := Only.cut x68 f9 fun i hi => Nat.le_of_eq (Eq.symm hi)
    have vc9 : Var 24 h9 h.size c.tv := (vc.ext x6).ext x69
    refine ⟨_, _, _, _, _, _, v9.at, _, vc9.at1 rfl, ?_⟩
    refine total_spec (x := ⟨1, 0, I.length, 0, 0, 0⟩) fun h10 x10 => ⟨_, rfl, x10, ?_⟩
    have ht : totalF ⟨1, 0, I.length, 0, 0, 0⟩ = 96 + 384 * (I.length : Int) := by
      unfold totalF totalI
      rw [wrap_i64 (by dsimp only; omega) (by dsimp only; omega)]
      dsimp only
      omega
    rw [ht, wrap_i64 (n := 96 * c.no) (by omega) (by omega), wrap_i64 (n := 96 * c.no + 768) (by omega) (by omega), decide_eq_true (by omega)]
    exact hr h10 (((xh.trans x6).trans x69).trans x10)

theorem sizePeers_whole (ec : ∃ L, Elems 2 h c.vals (vds L) ∧ ∀ v ∈ L, v.stake < 9223372036854775808) {peers : Int} {text : List UInt8} (hr : ∀ h', Ext h h' → R (TV.bool true).val h') :
    CallsH Tryz.prog F.tollerlaw22_SizePeers (TVs.vals [c.tv, .int .i64 peers, .str text]) h R := by
  obtain ⟨V, e, _⟩ := ec
  exact sizePeers_spec e hr

end
end Go.Proofs.YtennbinbffdimaaGreat.Gate
end

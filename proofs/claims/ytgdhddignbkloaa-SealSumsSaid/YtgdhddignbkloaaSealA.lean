/- Tags: a key as 64 bytes, the tag of texts by a key, tags joined. -/
import Derived.Test.YtgdhddignbkloaaShaG
import Derived.Test.YtgdhddignbkloaaVsSealA
namespace Go.Proofs.Ytgdhddignbkloaa.Board
open Go Go.Vc

def getB {n : Nat} (b : Bs n) (i : Nat) : UInt8 := b.l.getD i 0

/-- A row of bytes that is filled from the beginning on. -/
def fillB {n : Nat} (f : Nat → UInt8) (b : Bs n) : Nat → Bs n
  | 0 => b
  | i + 1 => (fillB f b i).set i (f i)

theorem fillB_get {n : Nat} (f : Nat → UInt8) (b : Bs n) : ∀ (k j : Nat), k ≤ n → getB (fillB f b k) j = if j < k then f j else getB b j
  | 0, j, _ => by simp [fillB]
  | k + 1, j, hk => by
    have ih := fillB_get f b k j (by omega)
    unfold getB at ih ⊢
    simp only [fillB, Bs.set, List.getD_eq_getElem?_getD, List.getElem?_set] at ih ⊢
    by_cases hj : k = j
    · subst hj
      rw [if_pos rfl, if_pos (by rw [(fillB f b k).h]; omega), if_pos (Nat.lt_succ_self k)]
      rfl
    · rw [if_neg hj, ih]
      by_cases h1 : j < k
      · rw [if_pos h1, if_pos (by omega)]
      · rw [if_neg h1, if_neg (by omega)]

theorem fillB_l {n : Nat} (f : Nat → UInt8) (b : Bs n) : (fillB f b n).l = (List.range n).map f := by
  apply List.ext_getElem (by rw [(fillB f b n).h]; simp)
  intro j h1 h2
  have hj : j < n := by rw [← (fillB f b n).h]; exact h1
  have := fillB_get f b n j (Nat.le_refl n)
  rw [if_pos hj] at this
  unfold getB at this
  rw [List.getD_eq_getElem?_getD, List.getElem?_eq_getElem h1] at this
  simpa using this

theorem byte_at {T : TypeId} {h : Heap} {b n : Nat} {x : Bs n} (v : Var T h b (.bytes n x)) {i : Nat} (hi : i < n) : at1 h b (0 + i * 1) (.int .u8 ((getB x i).toNat : Int)) := by
  refine v.at1 ?_
  simp only [TV.cells, Nat.mul_one, Nat.zero_add]
  exact getElem?_toBytes x i hi

theorem Bs.get_ext {n : Nat} {a b : Bs n} (h : ∀ j, j < n → getB a j = getB b j) : a = b := by
  apply Bs.ext'
  apply List.ext_getElem (by rw [a.h, b.h])
  intro j h1 h2
  have hj : j < n := by rw [← a.h]; exact h1
  have := h j hj
  unfold getB at this
  rw [List.getD_eq_getElem?_getD, List.getD_eq_getElem?_getD, List.getElem?_eq_getElem h1, List.getElem?_eq_getElem h2] at this
  simpa using this

theorem bind_in {x : Heap} {K : Heap → Prop} (h : K x) : Bind x K := h

section
variable {R : Value → Heap → Prop} {h : Heap}

/-- One byte against another. -/
def xv (c x : Int) : Int := IntKind.wrap .u8 ((BitVec.ofInt (IntKind.bits .u8) c ^^^ BitVec.ofInt (IntKind.bits .u8) x).toNat : Int)
def xb (c : UInt8) (x : Int) : UInt8 := UInt8.ofNat (xv (c.toNat : Int) x).toNat

/-- A key as 64 bytes. -/
def padZ (key : List UInt8) : Bs 64 := ⟨(key ++ List.replicate 64 0).take 64, by simp⟩
def padL (key : List UInt8) (x : Int) : List UInt8 := (List.range 64).map fun i => xb (getB (padZ key) i) x

theorem padL_length (key : List UInt8) (x : Int) : (padL key x).length = 64 := by simp [padL]

set_option maxRecDepth 100000 in
theorem pad_spec {key : List UInt8} {x : Int} (hk : key.length ≤ 64) (hr : ∀ h', Ext h h' → R (TV.str (padL key x)).val h') : CallsH Try.prog 47 (TVs.vals [.str key, .int .u8 x]) h R := by
  apply mac_pad_calls
  unfold mac_pad_vc
  refine newTV_in fun h1 v1 x1 s1 => ⟨?_, ?_⟩
  · intro hn
    cases hn
  rintro l hl
  obtain rfl : l = ⟨h.size, 0⟩ := (Option.some.inj hl).symm
  have hm : Nat.min key.length (cutSl (Sl.mk (some (Vc.Loc.mk h.size 0)) 64 64) 0 64 1).len = key.length := Nat.min_eq_left hk
  rw [hm, List.take_length]
  have hc : (TV.bytes 64 (Bs.zero 64)).cells.length = 64 := by rw [TV.cells_length]; rfl
  have hp := putl_get (key.map fun c => Value.int .u8 (c.toNat : Int)) h1 h.size 0 _ 102 v1 (by rw [List.length_map, hc]; omega)
  refine ⟨v1.wok (by show 0 + key.length ≤ 64; omega), ?_⟩
  have v2 : Var 102 (putl h1 h.size 0 (key.map fun c => Value.int .u8 (c.toNat : Int))) h.size (.bytes 64 (padZ key)) := by
    unfold Var
    rw [hp.1]
    congr 2
    simp only [TV.cells, padZ, Bs.zero, List.take_zero, List.nil_append, List.length_map, Nat.zero_add, List.map_take, List.map_append, List.map_replicate]
    rw [List.take_append, List.take_of_length_le (by rw [List.length_map]; exact hk), List.take_replicate, List.drop_replicate, List.length_map]
    congr 2
    omega
  have x2 : Ext h (putl h1 h.size 0 (key.map fun c => Value.int .u8 (c.toNat : Int))) := by
    refine ⟨by rw [hp.2.1]; exact x1.size, fun b hb => ?_⟩
    rw [hp.2.2 b (by omega)]
    exact x1.same b hb
  refine bind_in ?_
  generalize (putl h1 h.size 0 (key.map fun c => Value.int .u8 (c.toNat : Int))) = h2 at v2 x2 ⊢
  refine ⟨fun i hh => 0 ≤ i ∧ i ≤ 64 ∧ Only (· = h.size) h2 hh ∧ Var 102 hh h.size (.bytes 64 (fillB (fun i => xb (getB (padZ key) i) x) (padZ key) i.toNat)), fun i _ => ((64 : Int) - i).toNat, ⟨Int.le_refl 0, by decide, Only.refl _ _, v2⟩, ?_⟩
  rintro i h3 ⟨i0, i1, f3, v3⟩
  refine If.dec.2 ⟨fun hi => ?_, fun hi => ?_⟩
  · have hb := byte_at v3 (i := i.toNat) (by omega)
    rw [fillB_get _ _ _ _ (by omega), if_neg (by omega)] at hb
    have hw : 0 ≤ xv ((getB (padZ key) i.toNat).toNat : Int) x ∧ xv ((getB (padZ key) i.toNat).toNat : Int) x < 256 := wrap_u8_range _
    refine ⟨i0, hi, _, hb, i0, hi, ?_⟩
    refine put_byte v3 (i := i.toNat) (o := 0 + i.toNat * 1) (by omega) (by omega) hw.1 hw.2 fun h4 v4 f4 s4 => ?_
    rw [wrap_i64 (n := i + 1) (by omega) (by omega)]
    refine ⟨⟨by omega, by omega, f3.trans f4, ?_⟩, by dsimp only; omega⟩
    rw [show (i + 1).toNat = i.toNat + 1 by omega]
    exact v4
  · have e64 : i.toNat = 64 := by omega
    rw [e64] at v3
    refine ⟨_, str_var v3, ?_⟩
    rw [fillB_l]
    exact hr h3 (Only.cut x2 f3 fun i hi => by omega)

/-! ### The tag of texts by a key -/

def cut16 (r : Bs 32) : Bs 16 := ⟨r.l.take 16, by rw [List.length_take, r.h]; rfl⟩
def macI (key s : List UInt8) : Bs 32 := docF (padL key 54 ++ s)
def macF (key s : List UInt8) : Bs 16 := cut16 (docF (padL key 92 ++ (macI key s).l))

theorem atBytes_cut {T : TypeId} {b : Nat} {x : Bs 32} (v : Var T h b (.bytes 32 x)) : atBytes h b 0 16 (cut16 x) := by
  intro j hj
  have := v.bytes j (by omega)
  rw [this]
  simp only [cut16, List.getD_eq_getElem?_getD, List.getElem?_take, if_pos hj]

theorem strs_elems {T : TypeId} (h : Heap) (ts : List (List UInt8)) : Elems 1 (h.push (row (TVs.cells (ts.map TV.str)) T)) ⟨some ⟨h.size, 0⟩, ts.length, ts.length⟩ (ts.map TV.str) := by
  have := (Own.new (T := T) (sz := 1) h (ts.map TV.str) (fun t ht => by
    obtain ⟨u, _, rfl⟩ := List.mem_map.1 ht
    rfl)).elems
  simpa using this

theorem bytes9 : (ctx.ti 9).bytes = 16 := by kernel_rfl
theorem size9 : (ctx.ti 9).size = 1 := by kernel_rfl
theorem zsize9 : (ctx.ti 9).z.size = 1 := by kernel_rfl

set_option maxRecDepth 100000 in
theorem macof_spec {key : List UInt8} {s : Sl} {ts : List (List UInt8)} (hk : key.length ≤ 64) (e : Elems 1 h s (ts.map TV.str)) (hl : ts.flatten.length < 100000) (hts : ts.length < 10000)
    (hr : ∀ h', Ext h h' → R (TV.bytes 16 (macF key ts.flatten)).val h') : CallsH Try.prog 27 (TVs.vals [.str key, .slice s]) h R := by
  apply mac_Of_calls
  unfold mac_Of_vc
  refine newTV_in fun h1 v1 x1 s1 => ?_
  intro J HJ
  refine If.dec.2 ⟨fun hlong => by omega, fun _ => HJ key h1 ?_⟩
  clear HJ J
  refine pad_spec hk fun h2 x2 => ⟨_, rfl, ?_⟩
  have xa := Ext.push h2 (row (TVs.cells [TV.str (padL key 54)]) 9)
  have e2 : Elems 1 (h2.push (row (TVs.cells [TV.str (padL key 54)]) 9)) s (ts.map TV.str) := ((e.ext x1).ext x2).ext xa
  refine ⟨_, e2.cells (fun u hu => by obtain ⟨t, _, rfl⟩ := List.mem_map.1 hu; rfl) (by decide), TVs.plain_cells_of (fun u hu => by obtain ⟨t, _, rfl⟩ := List.mem_map.1 hu; rfl), ?_⟩
  have o2 := Own.new (T := 9) (sz := 1) h2 [TV.str (padL key 54)] (fun t ht => by
    simp only [List.mem_cons, List.not_mem_nil, or_false] at ht
    subst ht; rfl)
  have elen := e.len
  rw [List.length_map] at elen
  rw [← elen, show ts.length = (ts.map TV.str).length from (List.length_map _).symm]
  refine append_raw size9 zsize9 (by rw [bytes9]; decide) (by decide) (by rw [bytes9, List.length_map]; show (1 + _) * 16 ≤ _; omega) o2 (fun u hu => by obtain ⟨t, _, rfl⟩ := List.mem_map.1 hu; rfl) fun s3 h3 o3 f3 b3 => ?_
  have x3 : Ext h2 h3 := Only.cut xa f3 fun i hi => by
    obtain ⟨l, hl, rfl⟩ := hi
    obtain rfl := Option.some.inj hl
    exact Nat.le_refl _
  have e3 : Elems 1 h3 s3 ((padL key 54 :: ts).map TV.str) := o3.elems
  refine of2_spec (ts := padL key 54 :: ts) e3 ?_ (by rw [List.length_cons]; omega) fun h4 x4 => ⟨macI key ts.flatten, rfl, ?_⟩
  · rw [List.flatten_cons, List.length_append, padL_length]; omega
  refine newTV_in fun h5 v5 x5 s5 => put_in v5 (t := .bytes 32 (macI key ts.flatten)) bsz fun h6 v6 f6 s6 => ?_
  have x6 : Ext h4 h6 := Only.cut x5 f6 fun i hi => by omega
  have x16 : Ext h1 h6 := ((x2.trans x3).trans x4).trans x6
  intro J HJ
  have hsz1 : h1.size = h.size + 1 := s1
  have hT : [padL key 92, (macI key ts.flatten).l].flatten = padL key 92 ++ (macI key ts.flatten).l := by simp
  have hTl : [padL key 92, (macI key ts.flatten).l].flatten.length < 700000 := by
    rw [hT, List.length_append, padL_length, (macI key ts.flatten).h]; decide
  have fin : ∀ (qa qb : List UInt8) (qc : Sl) (qd : List UInt8) (qe : Sl) (qf : Bs 32) (h' : Heap) (b : Nat), Ext h6 h' → h6.size ≤ b → Var 26 h' b (.bytes 32 (docF [padL key 92, (macI key ts.flatten).l].flatten)) → J (qa, qb, qc, qd, qe, qf, some ⟨b, 0⟩) h' := by
    intro qa qb qc qd qe qf h' b hx hb hv
    refine HJ _ h' ⟨by decide, by decide, Nat.le_refl 16, ?_⟩
    rw [show (cutSl (Sl.mk (some (Vc.Loc.mk b 0)) 32 32) 0 (Int.toNat 16) 1).a = some ⟨b, 0⟩ from rfl]
    refine ⟨cut16 (docF [padL key 92, (macI key ts.flatten).l].flatten), atBytes_cut hv, ?_⟩
    have v1' : Var 30 h' h.size (.bytes 16 (Bs.zero 16)) := v1.ext (x16.trans hx)
    refine put_in v1' (t := .bytes 16 (cut16 (docF [padL key 92, (macI key ts.flatten).l].flatten))) bsz fun h7 v7 f7 s7 => ⟨_, v7.bytes, ?_⟩
    have := hr h7 (Only.cut ((x1.trans x16).trans hx) f7 fun i hi => by omega)
    rw [hT]
    exact this
  clear HJ
  refine ⟨(macI key ts.flatten).l, str_var v6, ?_, ?_⟩
  · refine pad_spec hk fun h7 x7 => ⟨_, rfl, x7, ⟨?_, ?_⟩, ?_⟩
    · refine of2_spec (ts := [padL key 92, (macI key ts.flatten).l]) (strs_elems (T := 9) h7 [padL key 92, (macI key ts.flatten).l]) hTl (by simp) fun h8 x8 => ⟨_, rfl, ?_⟩
      refine newTV_in fun h9 v9 x9 s9 => ⟨x9, put_in v9 (t := .bytes 32 (docF [padL key 92, (macI key ts.flatten).l].flatten)) bsz fun h10 v10 f10 s10 => ?_⟩
      have xx : Ext h6 h8 := (x7.trans (Ext.push h7 _)).trans x8
      exact fin _ _ _ _ _ _ _ h8.size (Only.cut (xx.trans x9) f10 fun i hi => by have := xx.size; omega) xx.size v10
    · refine newTV_in fun h8 v8 x8 s8 => ⟨x8, ?_⟩
      refine of2_spec (ts := [padL key 92, (macI key ts.flatten).l]) ((strs_elems (T := 9) h7 [padL key 92, (macI key ts.flatten).l]).ext x8) hTl (by simp) fun h9 x9 => ⟨_, rfl, ?_⟩
      refine put_in (v8.ext x9) (t := .bytes 32 (docF [padL key 92, (macI key ts.flatten).l].flatten)) bsz fun h10 v10 f10 s10 => ?_
      have xx : Ext h6 (h7.push (row (TVs.cells ([padL key 92, (macI key ts.flatten).l].map TV.str)) 9)) := x7.trans (Ext.push h7 _)
      exact fin _ _ _ _ _ _ _ _ (Only.cut ((xx.trans x8).trans x9) f10 fun i hi => by have := xx.size; rw [hi]; exact this) xx.size v10
    · refine newTV_in fun h8 v8 x8 s8 => ⟨x8, ?_⟩
      refine of2_spec (ts := [padL key 92, (macI key ts.flatten).l]) (strs_elems (T := 9) h8 [padL key 92, (macI key ts.flatten).l]) hTl (by simp) fun h9 x9 => ⟨_, rfl, ?_⟩
      have xy : Ext h8 h9 := (Ext.push h8 _).trans x9
      refine put_in (v8.ext xy) (t := .bytes 32 (docF [padL key 92, (macI key ts.flatten).l].flatten)) bsz fun h10 v10 f10 s10 => ?_
      exact fin _ _ _ _ _ _ _ _ (Only.cut ((x7.trans x8).trans xy) f10 fun i hi => by have := x7.size; omega) x7.size v10
  · refine newTV_in fun h7 v7 x7 s7 => ⟨x7, ?_⟩
    refine pad_spec hk fun h8 x8 => ⟨_, rfl, x8, ?_⟩
    refine of2_spec (ts := [padL key 92, (macI key ts.flatten).l]) (strs_elems (T := 9) h8 [padL key 92, (macI key ts.flatten).l]) hTl (by simp) fun h9 x9 => ⟨_, rfl, ?_⟩
    have xy : Ext h8 h9 := (Ext.push h8 _).trans x9
    refine put_in ((v7.ext x8).ext xy) (t := .bytes 32 (docF [padL key 92, (macI key ts.flatten).l].flatten)) bsz fun h10 v10 f10 s10 => ?_
    exact fin _ _ _ _ _ _ _ _ (Only.cut ((x7.trans x8).trans xy) f10 fun i hi => by omega) (Nat.le_refl _) v10

/-! ### Tags joined -/

/-- A tag against another one, byte by byte. -/
def x16 (a t : Bs 16) : Bs 16 := fillB (fun j => xb (getB a j) ((getB t j).toNat : Int)) a 16
def joinF : List (Bs 16) → Bs 16 → Bs 16
  | [], a => a
  | t :: ts, a => joinF ts (x16 a t)

theorem joinF_snoc : ∀ (ts : List (Bs 16)) (t a : Bs 16), joinF (ts ++ [t]) a = x16 (joinF ts a) t
  | [], _, _ => rfl
  | u :: ts, t, a => by show joinF (ts ++ [t]) _ = _; rw [joinF_snoc ts t]; rfl

abbrev tags (l : List (Bs 16)) : List TV := l.map (TV.bytes 16)

set_option maxRecDepth 100000 in
theorem join_spec {s : Sl} {ts : List (Bs 16)} (e : Elems 16 h s (tags ts)) (hl : ts.length < 1000000) (hr : ∀ h', Ext h h' → R (TV.bytes 16 (joinF ts (Bs.zero 16))).val h') : CallsH Try.prog 13 (TVs.vals [.slice s]) h R := by
  apply mac_Join_calls
  unfold mac_Join_vc
  have elen := e.len
  rw [List.length_map] at elen
  refine newTV_in fun h1 v1 x1 s1 => newTV_in fun h2 v2 x2 s2 => ?_
  have hs1 : h.size < h1.size := by omega
  refine ⟨fun i hh => 0 ≤ i ∧ i ≤ ts.length ∧ Only (· = h1.size) h2 hh ∧ Var 30 hh h1.size (.bytes 16 (joinF (ts.take i.toNat) (Bs.zero 16))), fun i _ => ((ts.length : Int) - i).toNat, ⟨Int.le_refl 0, by omega, Only.refl _ _, v2⟩, ?_⟩
  rintro i h3 ⟨i0, i1, f3, v3⟩
  have e3 : Elems 16 h3 s (tags ts) := e.ext (Only.cut (x1.trans x2) f3 fun i hi => by omega)
  refine If.dec.2 ⟨fun hi => ?_, fun hi => ?_⟩
  · refine e3.read i0 (by omega) fun l t hla ht ha => ?_
    rw [List.getElem?_map] at ht
    obtain ⟨t', ht', rfl⟩ := Option.map_eq_some_iff.1 ht
    refine ⟨t', ha, ?_⟩
    refine newTV_in fun h4 v4 x4 s4 => put_in v4 (t := .bytes 16 t') bsz fun h5 v5 f5 s5 => ?_
    have x35 : Ext h3 h5 := Only.cut x4 f5 fun i hi => by omega
    have hz3 := f3.size
    have b3 : h1.size < h3.size := by omega
    refine ⟨fun j hh => 0 ≤ j ∧ j ≤ 16 ∧ Only (· = h1.size) h5 hh ∧ Var 30 hh h1.size (.bytes 16 (fillB (fun j => xb (getB (joinF (ts.take i.toNat) (Bs.zero 16)) j) ((getB t' j).toNat : Int)) (joinF (ts.take i.toNat) (Bs.zero 16)) j.toNat)), fun j _ => ((16 : Int) - j).toNat, ⟨Int.le_refl 0, by decide, Only.refl _ _, v3.ext x35⟩, ?_⟩
    rintro j h6 ⟨j0, j1, f6, v6⟩
    have v56 : Var 30 h6 h3.size (.bytes 16 t') := v5.only f6 (by omega)
    refine If.dec.2 ⟨fun hj => ?_, fun hj => ?_⟩
    · have hb := byte_at v6 (i := j.toNat) (by omega)
      rw [fillB_get _ _ _ _ (by omega), if_neg (by omega)] at hb
      have hb2 := byte_at v56 (i := j.toNat) (by omega)
      have hw : 0 ≤ xv ((getB (joinF (ts.take i.toNat) (Bs.zero 16)) j.toNat).toNat : Int) ((getB t' j.toNat).toNat : Int) ∧ xv ((getB (joinF (ts.take i.toNat) (Bs.zero 16)) j.toNat).toNat : Int) ((getB t' j.toNat).toNat : Int) < 256 := wrap_u8_range _
      refine ⟨j0, hj, _, hb, j0, hj, _, hb2, j0, hj, ?_⟩
      refine put_byte v6 (i := j.toNat) (o := 0 + j.toNat * 1) (by omega) (by omega) hw.1 hw.2 fun h7 v7 f7 s7 => ?_
      rw [wrap_i64 (n := j + 1) (by omega) (by omega)]
      refine ⟨⟨by omega, by omega, f6.trans f7, ?_⟩, by dsimp only; omega⟩
      rw [show (j + 1).toNat = j.toNat + 1 by omega]
      exact v7
    · have e16 : j.toNat = 16 := by omega
      rw [e16] at v6
      rw [wrap_i64 (n := i + 1) (by omega) (by omega)]
      refine ⟨⟨by omega, by omega, (f3.trans ((Only.of_ext x35).mono (fun _ h => h))).trans f6, ?_⟩, by dsimp only; omega⟩
      rw [show (i + 1).toNat = i.toNat + 1 by omega, take_snoc ht', joinF_snoc]
      exact v6
  · have hall : ts.take i.toNat = ts := List.take_of_length_le (by omega)
    rw [hall] at v3
    have v13 : Var 30 h3 h.size (.bytes 16 (Bs.zero 16)) := (v1.ext x2).only f3 (by omega)
    refine ⟨_, v3.bytes, put_in v13 (t := .bytes 16 (joinF ts (Bs.zero 16))) bsz fun h4 v4 f4 s4 => ⟨_, v4.bytes, ?_⟩⟩
    refine hr h4 (Only.cut (Only.cut (x1.trans x2) f3 fun i hi => by omega) f4 fun i hi => by omega)

end
end Go.Proofs.Ytgdhddignbkloaa.Board

/- The document's weights are those by definition. -/
import Derived.Test.YtahoibjgojlpeaaGhostK
namespace Go.Proofs.Ytahoibjgojlpeaa.Ghost
open Go Go.Vc

theorem cells_ints : ∀ l : List Int, TVs.cells (l.map intTV) = l.map (Value.int .i64)
  | [] => rfl
  | x :: xs => by
    simp only [List.map_cons, TVs.cells, cells_ints xs]
    rfl

theorem set_range (n k : Nat) (f : Nat → Int) (v : Int) : (((List.range n).map f).map intTV).set k (intTV v) = ((List.range n).map (fun i => if i = k then v else f i)).map intTV := by
  apply List.ext_getElem?
  intro i
  rw [List.getElem?_set]
  by_cases hi : i < n
  · by_cases e : k = i
    · subst e
      simp [hi]
    · have e' : ¬ i = k := fun h => e h.symm
      simp [hi, e, e']
  · have : ¬ (k = i ∧ i < n) := fun h => hi h.2
    by_cases e : k = i
    · subst e
      simp [hi]
    · simp [hi, e]

section
variable {R : Value → Heap → Prop} {h : Heap}

/-- A row of numbers. -/
def Nums (h : Heap) (b n : Nat) (w : Nat → Int) : Prop := Var 3 h b (.agg (((List.range n).map w).map intTV))

theorem Nums.read {b n : Nat} {w : Nat → Int} (v : Nums h b n w) {i : Nat} (hi : i < n) : at1 h b (0 + i * 1) (.int .i64 (w i)) := by
  refine Var.at1 v ?_
  simp only [TV.cells, cells_ints, Nat.zero_add, Nat.mul_one]
  simp [hi]

theorem Nums.put {b n : Nat} {w : Nat → Int} (v : Nums h b n w) {i : Nat} (hi : i < n) (x : Int) :
    wok h b (0 + i * 1) 1 ∧ ∃ h1, (TV.int .i64 x).put h b (0 + i * 1) = h1 ∧ Nums h1 b n (fun k => if k = i then x else w k) ∧ Only (· = b) h h1 ∧ h1.size = h.size := by
  have e : 0 + i * 1 = i := by omega
  rw [e]
  obtain ⟨w1, h1, e1, v1, o1, s1⟩ := put_field (i := i) v (fun t ht => by
    obtain ⟨y, _, rfl⟩ := List.mem_map.1 ht; rfl) (by simpa using hi) (t := .int .i64 x) rfl
  refine ⟨w1, h1, e1, ?_, o1, s1⟩
  have : TV.int .i64 x = intTV x := rfl
  rw [this, set_range] at v1
  exact v1

theorem zeros_range (n : Nat) : zeros (TV.int .i64 0) n = TVs.cells (((List.range n).map (fun _ => (0 : Int))).map intTV) := by
  rw [zeros_rep]
  congr 1
  apply List.ext_getElem?
  intro i
  by_cases hi : i < n
  · simp [hi, intTV]
  · simp [hi]

theorem Weights_spec {A P T K : Sl} {ps ts ks : List Int} (hl : ps.length < 255) (hkl : ts.length ≤ ks.length) (c : RCh h A P T K (plainDoc ps ts ks))
    (hr : ∀ h' b, Nums h' b (ps.length + 1) (wgt (plainDoc ps ts ks).bl (plainDoc ps ts ks).sh) → h.size ≤ b → Ext h h' → R (TV.slice ⟨some ⟨b, 0⟩, ps.length + 1, ps.length + 1⟩).val h') :
    CallsH Try.prog 32 (TVs.vals [.agg [.slice A, .slice P, .slice T, .slice K]]) h R := by
  apply tollerref20_Chain_Weights_calls
  unfold tollerref20_Chain_Weights_vc
  obtain ⟨h1, e1, v1, x1, s1⟩ := newTV_spec h (.agg [.slice A, .slice P, .slice T, .slice K]) 41
  rw [e1]
  have lA := names_len c.a
  have lP := names_len c.p
  have lT := names_len c.t
  have lK := ints_len c.k
  obtain ⟨l1, l2, l3, l4⟩ := plain_lens ps ts ks
  have l5 : (plainDoc ps ts ks).sts.length = ks.length := rfl
  have ft := c.fewt
  have htree := plain_tree (ts := ts) (ks := ks) hl
  have hroot : ∀ i, i < ps.length + 1 → (plainDoc ps ts ks).roots[i]? = some (nameN i) := fun i hi => roots_at hi
  have hpar : ∀ i, i < ps.length → (plainDoc ps ts ks).pars[i + 1]? = some (nameN (parIdx ps i)) := fun i hi => pars_at hi
  have hrt : ∀ i, i < ps.length + 1 → rootAt (plainDoc ps ts ks).bl i = (nameN i).l := fun i hi => root_plain hi
  have hplace : ∀ i, i < ps.length + 1 → (plainDoc ps ts ks).place (nameN i) = i := fun i hi => place_nameN hl hi
  have hsts : (plainDoc ps ts ks).sts = ks := rfl
  have hzip : ∀ i t k, (plainDoc ps ts ks).tgs[i]? = some t → ks[i]? = some k → (plainDoc ps ts ks).sh[i]? = some (t, k) := fun i t k h1 h2 => by
    unfold Doc.sh
    rw [List.getElem?_zip_eq_some]
    exact ⟨h1, h2⟩
  have l6 : (plainDoc ps ts ks).sh.length = ts.length := by simp [plainDoc, Doc.sh]; omega
  have hpl : ∀ r, (plainDoc ps ts ks).place r = placeOf ((plainDoc ps ts ks).bl.map fun b => b.1.l) r.l := fun r => by rw [bl_names]; rfl
  generalize plainDoc ps ts ks = d at *
  refine ⟨A, v1.at1 rfl, by omega, Int.le_refl _, by omega, by omega, T, ?_⟩
  have hn : ((A.len : Int)).toNat = ps.length + 1 := by omega
  rw [hn, zeros_range]
  have xp := Ext.push h1 (row (TVs.cells (((List.range (ps.length + 1)).map (fun _ => (0 : Int))).map intTV)) 3)
  have np : Nums (h1.push (row (TVs.cells (((List.range (ps.length + 1)).map (fun _ => (0 : Int))).map intTV)) 3)) h1.size (ps.length + 1) (fun _ => 0) := by
    unfold Nums Var
    rw [push_get]
    rfl
  generalize h1.push (row (TVs.cells (((List.range (ps.length + 1)).map (fun _ => (0 : Int))).map intTV)) 3) = h2 at *
  refine ⟨(v1.ext xp).at1 rfl, ?_⟩
  refine ⟨fun i hh => 0 ≤ i ∧ i ≤ ts.length ∧ Ext h1 hh ∧ ∃ w, Nums hh h1.size (ps.length + 1) w ∧ ∀ m, m < ps.length + 1 → w m = IntKind.wrap .i64 (weightOf d.bl (d.sh.take i.toNat) m), fun i _ => ((ts.length : Int) - i).toNat,
    ⟨by simp, by omega, xp, _, np, fun m hm => ?_⟩, ?_⟩
  · have : weightOf d.bl (d.sh.take (0 : Int).toNat) m = 0 := wt_none _ _
    rw [this]
    rfl
  rintro i hh ⟨i0, i1, x, w, nw, hw⟩
  have vh := v1.ext x
  have ch := (c.ext x1).ext x
  refine If.dec.2 ⟨fun hi => ?_, fun hi => ?_⟩
  · refine names_at ch.t i0 (by omega) fun l y hy hat => ⟨y, hat, ?_⟩
    obtain ⟨w3, h3, e3, v3, x3, s3⟩ := newput_spec hh (.bytes 32 (Bs.zero 32)) (.bytes 32 y) 37 rfl
    refine ⟨w3, ?_⟩
    rw [e3]
    have vm := vh.ext x3
    have cm := ch.ext x3
    refine ⟨A, P, T, K, ⟨vm.at1 rfl, vm.at1 rfl, vm.at1 rfl, vm.at1 rfl⟩, y, v3.bytes, ?_⟩
    refine Place_spec cm fun h4 x4 => ⟨_, rfl, ?_⟩
    obtain ⟨v, hv⟩ : ∃ v, ks[i.toNat]? = some v := ⟨_, List.getElem?_eq_getElem (by omega)⟩
    have hz := hzip _ _ _ hy hv
    have hi' : (i + 1).toNat = i.toNat + 1 := by omega
    have htake : d.sh.take (i + 1).toNat = d.sh.take i.toNat ++ [(y, v)] := by
      rw [hi', List.take_add_one, hz]
      rfl
    have n4 : Nums h4 h1.size (ps.length + 1) w := (Var.ext nw x3).ext x4
    have x14 : Ext h1 h4 := (x.trans x3).trans x4
    rw [wrap_i64 (n := i + 1) (by omega) (by omega)]
    by_cases hplaced : 0 ≤ d.place y
    · -- behind a block that is there
      have hlt : (d.place y).toNat < ps.length + 1 := by
        rw [hpl] at hplaced ⊢
        have := placeOf_lt hplaced
        simp only [List.length_map] at this
        omega
      have hyr : y.l = rootAt d.bl (d.place y).toNat := by
        rw [hpl] at hplaced hlt ⊢
        have hl9 : (placeOf (d.bl.map fun b => b.1.l) y.l).toNat < d.bl.length := by omega
        have := root_get hl9
        unfold placeOf at hplaced this ⊢
        split at hplaced
        · rename_i q hq
          obtain ⟨hl2, he, _⟩ := List.findIdx?_eq_some_iff_getElem.1 hq
          simp only [hq, Int.toNat_natCast] at this ⊢
          rw [List.getElem?_eq_getElem hl2] at this
          rw [← Option.some.inj this]
          have := of_decide_eq_true he
          exact this.symm
        · omega
      generalize hτ : (d.place y).toNat = τ at *
      have hpτ : d.place y = (τ : Int) := by omega
      rw [hpτ]
      have hstep : ∀ m, m < ps.length + 1 → weightOf d.bl (d.sh.take (i + 1).toNat) m = weightOf d.bl (d.sh.take i.toNat) m + counts (parN ps) m τ v := fun m hm => by
        rw [htake, weight_append, weight_one htree (by omega) hyr _ m (Nat.le_refl _) (by omega)]
      refine ⟨fun a hh' => ∃ q : Nat, a = (q : Int) ∧ q < ps.length + 1 ∧ Anc (parN ps) q τ ∧ Ext h1 hh' ∧ ∃ w', Nums hh' h1.size (ps.length + 1) w' ∧
          (∀ m, m < ps.length + 1 → Anc (parN ps) m τ → q < m → w' m = IntKind.wrap .i64 (weightOf d.bl (d.sh.take i.toNat) m + v)) ∧
          (∀ m, m < ps.length + 1 → ¬ (Anc (parN ps) m τ ∧ q < m) → w' m = IntKind.wrap .i64 (weightOf d.bl (d.sh.take i.toNat) m)), fun a _ => a.toNat,
        ⟨τ, rfl, hlt, .here, x14, w, n4, fun m hm ha hq => by have := Anc.le htree ha (by omega); omega, fun m hm _ => hw m hm⟩, ?_⟩
      rintro a h5 ⟨q, rfl, hq, hanc, x5, w', n5, hyes, hno⟩
      refine If.dec.2 ⟨fun _ => ?_, fun hx => by omega⟩
      have v5 := v1.ext x5
      have c5 := (c.ext x1).ext x5
      have hqn : ((q : Int)).toNat = q := by omega
      refine ⟨by omega, by omega, w' q, ?_, K, v5.at1 rfl, ?_⟩
      · rw [hqn]; exact n5.read hq
      refine ints_at c5.k i0 (by omega) fun l2 y2 hy2 hat2 => ⟨y2, hat2, ?_⟩
      obtain rfl : v = y2 := by rw [hsts, hv] at hy2; exact Option.some.inj hy2
      obtain ⟨w6, h6, e6, n6, o6, s6⟩ := n5.put hq (IntKind.wrap .i64 (w' q + v))
      rw [hqn]
      refine ⟨by omega, by omega, w6, ?_⟩
      rw [e6]
      have x6 : Ext h1 h6 := Only.cut x5 o6 (by rintro b rfl; omega)
      have hwq : w' q = IntKind.wrap .i64 (weightOf d.bl (d.sh.take i.toNat) q) := hno q hq (fun hx => by omega)
      have hval : IntKind.wrap .i64 (w' q + v) = IntKind.wrap .i64 (weightOf d.bl (d.sh.take i.toNat) q + v) := by rw [hwq, wrap_add]
      refine If.dec.2 ⟨fun hz0 => ?_, fun hz0 => ?_⟩
      · have hq0 : q = 0 := by omega
        refine ⟨⟨by omega, by omega, x6, _, n6, fun m hm => ?_⟩, by dsimp only; omega⟩
        rw [hstep m hm]
        by_cases e : m = q
        · rw [if_pos e, hval, e]
          unfold counts
          rw [if_pos hanc]
        · rw [if_neg e]
          unfold counts
          by_cases ha : Anc (parN ps) m τ
          · rw [if_pos ha]
            exact hyes m hm ha (by omega)
          · rw [if_neg ha, Int.add_zero]
            exact hno m hm (fun hx => ha hx.1)
      · have v6 := v1.ext x6
        have c6 := (c.ext x1).ext x6
        refine ⟨A, P, T, K, ⟨v6.at1 rfl, v6.at1 rfl, v6.at1 rfl, v6.at1 rfl⟩, P, v6.at1 rfl, ?_⟩
        obtain ⟨p, hp⟩ : ∃ p, q = p + 1 := ⟨q - 1, by omega⟩
        have hple := parIdx_le ps p
        refine names_at c6.p (i := (q : Int)) (by omega) (by omega) fun l3 y3 hy3 hat3 => ⟨y3, by rw [hqn] at hat3; exact hat3, ?_⟩
        obtain rfl : nameN (parIdx ps p) = y3 := by rw [hqn, hp, hpar p (by omega)] at hy3; exact Option.some.inj hy3
        refine Place_spec c6 fun h7 x7 => ⟨_, rfl, ?_⟩
        rw [hplace _ (by omega)]
        have hpn : parN ps q = parIdx ps p := by rw [hp]; rfl
        have key : ∀ k, Anc (parN ps) q k → Anc (parN ps) (parIdx ps p) k := by
          intro k hk
          induction hk with
          | here => exact .up (by omega) (by rw [hpn]; exact .here)
          | up h0 _ ih => exact .up h0 ih
        refine ⟨⟨parIdx ps p, rfl, by omega, key τ hanc, x6.trans x7, _, Var.ext n6 x7, fun m hm ha hlt2 => ?_, fun m hm hne => ?_⟩, by dsimp only; omega⟩
        · by_cases e : m = q
          · rw [if_pos e, hval, e]
          · rw [if_neg e]
            by_cases hlt3 : q < m
            · exact hyes m hm ha hlt3
            · have h8 := Anc.le htree (Anc.chain htree (show m < q by omega) hanc (by omega) ha) (by rw [hpn]; omega)
              rw [hpn] at h8
              omega
        · by_cases e : m = q
          · exact absurd ⟨by rw [e]; exact hanc, by omega⟩ hne
          · rw [if_neg e]
            exact hno m hm (fun hx => hne ⟨hx.1, by omega⟩)
    · have hneg : d.place y = -1 := by
        rw [hpl] at hplaced ⊢
        unfold placeOf at hplaced ⊢
        split at hplaced
        · omega
        · rfl
      have hstep : ∀ m, m < ps.length + 1 → weightOf d.bl (d.sh.take (i + 1).toNat) m = weightOf d.bl (d.sh.take i.toNat) m := fun m hm => by
        rw [htake, weight_append]
        have : weightOf d.bl [(y, v)] m = 0 := weight_miss (fun j hj he => by
          have hq := hplace j (by omega)
          have h9 : d.place y = d.place (nameN j) := by rw [hpl, hpl, he, hrt j (by omega)]
          rw [hq, hneg] at h9
          omega) _ m (by omega)
        rw [this, Int.add_zero]
      rw [hneg]
      refine ⟨fun a hh' => a = -1 ∧ hh' = h4, fun _ _ => 0, ⟨rfl, rfl⟩, ?_⟩
      rintro a h5 ⟨rfl, rfl⟩
      refine If.dec.2 ⟨fun hx => by omega, fun _ => ?_⟩
      refine ⟨⟨by omega, by omega, x14, w, n4, fun m hm => ?_⟩, by dsimp only; omega⟩
      rw [hw m hm, hstep m hm]
  · have hi2 : i.toNat = d.sh.length := by omega
    rw [hi2, List.take_length] at hw
    have hn2 : Nums hh h1.size (ps.length + 1) (wgt d.bl d.sh) := by
      have : (List.range (ps.length + 1)).map w = (List.range (ps.length + 1)).map (wgt d.bl d.sh) := List.map_congr_left fun m hm => hw m (List.mem_range.1 hm)
      unfold Nums at nw ⊢
      rw [← this]
      exact nw
    exact hr _ _ hn2 (by omega) (x1.trans x)

end
end Go.Proofs.Ytahoibjgojlpeaa.Ghost

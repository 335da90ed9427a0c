/- The program's chain of the document's: what chain makes; and that a chain of two children is alive. -/
import Derived.Test.YtahoibjgojlpeaaGhostD
namespace Go.Proofs.Ytahoibjgojlpeaa.Ghost
open Go Go.Vc

section
variable {R : Value → Heap → Prop} {h : Heap}

def Doc.bl (d : Doc) : List (Rt × Rt) := d.roots.zip d.pars
def Doc.sh (d : Doc) : List (Rt × Int) := d.tgs.zip d.sts

theorem chain_spec {A P T K : Sl} {d : Doc} (c : RCh h A P T K d) (h1 : d.roots.length ≤ d.pars.length) (h2 : d.tgs.length ≤ d.sts.length)
    (hr : ∀ h' B S, Ch h' B S d.bl d.sh → Ext h h' → R (TV.agg [.slice B, .slice S]).val h') : CallsH Try.prog 31 (TVs.vals [.agg [.slice A, .slice P, .slice T, .slice K]]) h R := by
  apply tollerlaw20_chain_calls
  unfold tollerlaw20_chain_vc
  obtain ⟨ha, ea, va, xa, sa⟩ := newTV_spec h (.agg [.slice A, .slice P, .slice T, .slice K]) 41
  rw [ea]
  obtain ⟨hb, eb, vb, xb, sb⟩ := newTV_spec ha (.agg [.slice Sl.nil, .slice Sl.nil]) 46
  rw [eb]
  obtain ⟨hc, ec, vc, xc, sc⟩ := newTV_spec hb (.agg [.slice Sl.nil, .slice Sl.nil]) 46
  rw [ec]
  have fr := c.few
  have ft := c.fewt
  have lA := names_len c.a
  have lP := names_len c.p
  have lT := names_len c.t
  have lK := ints_len c.k
  have blen : d.bl.length = d.roots.length := by unfold Doc.bl; rw [List.length_zip]; omega
  have slen : d.sh.length = d.tgs.length := by unfold Doc.sh; rw [List.length_zip]; omega
  have xhc : Ext h hc := (xa.trans xb).trans xc
  have va' := (va.ext xb).ext xc
  have vb' := vb.ext xc
  have ga := xa.size
  refine ⟨A, va'.at1 rfl, ?_⟩
  rw [lA]
  refine ⟨fun i hh => 0 ≤ i ∧ i ≤ d.roots.length ∧ Ext hb hh ∧ ∃ B, Var 46 hh hb.size (.agg [.slice B, .slice Sl.nil]) ∧ Own 61 64 hh B ((d.bl.take i.toNat).map blkTV) ∧ Up B (hb.size + 1), fun i _ => ((d.roots.length : Int) - i).toNat,
    ⟨by simp, by omega, xc, Sl.nil, vc, by simpa using Own.nil 61 64 hc, (fun l hl => by cases hl)⟩, ?_⟩
  rintro i hh ⟨i0, i1, x, B, v, o, up⟩
  have c' := c.ext ((xa.trans xb).trans x)
  have vA := (va.ext xb).ext x
  refine If.dec.2 ⟨fun hi => ?_, fun hi => ?_⟩
  · refine ⟨B, v.at1 rfl, A, vA.at1 rfl, ?_⟩
    refine names_at c'.a i0 hi fun l y hy hat => ⟨y, hat, P, vA.at1 rfl, ?_⟩
    refine names_at c'.p i0 (by omega) fun l' z hz hat' => ⟨z, hat', Ext.push _ _, ?_⟩
    have hlen := o.len
    simp only [List.length_map, List.length_take] at hlen
    refine append1 (C := ctx) (T := 61) (sz := 64) (x := blkTV (y, z)) rfl rfl (by decide) (by show (B.len + 1) * 64 ≤ _; omega) o rfl rfl fun B' h5 o' w' b' => ?_
    have v5 := v.only w' (by rintro ⟨l, hl, he⟩; have := up l hl; omega)
    have gx := x.size
    have gv := v.lt
    obtain ⟨w6, h6, e6, v6, o6, s6⟩ := put_field (i := 0) v5 (by simp [TV.size]) (by simp) (t := .slice B') rfl
    refine ⟨w6, ?_⟩
    rw [e6, wrap_i64 (by omega) (by omega)]
    have hi' : (i + 1).toNat = i.toNat + 1 := by omega
    have up' : Up B' (hb.size + 1) := fun l hl => by
      rcases b' l hl with ⟨l', hl', he⟩ | hx
      · rw [← he]; exact up l' hl'
      · omega
    have hz2 : d.bl[i.toNat]? = some (y, z) := by
      unfold Doc.bl
      rw [List.getElem?_zip_eq_some]
      exact ⟨hy, hz⟩
    refine ⟨⟨by omega, by omega, ?_, B', v6, ?_, up'⟩, by dsimp only; omega⟩
    · have hx5 : Ext hb h5 := Only.cut x w' (by rintro b ⟨l, hl, rfl⟩; have := up l hl; omega)
      exact Only.cut hx5 o6 (by rintro b rfl; omega)
    · rw [hi', List.take_add_one, hz2]
      have := o'.only o6 (fun l hl => by have := up' l hl; omega)
      simpa using this
  · have hi2 : i.toNat = d.bl.length := by omega
    rw [hi2, List.take_length] at o
    refine ⟨T, vA.at1 rfl, ?_⟩
    rw [lT]
    refine ⟨fun i h' => 0 ≤ i ∧ i ≤ d.tgs.length ∧ Ext hb h' ∧ hh.size ≤ h'.size ∧ ∃ S, Var 46 h' hb.size (.agg [.slice B, .slice S]) ∧ Own 61 64 h' B (d.bl.map blkTV) ∧ Own 63 33 h' S ((d.sh.take i.toNat).map shTV) ∧ Up S hh.size, fun i _ => ((d.tgs.length : Int) - i).toNat,
      ⟨by simp, by omega, x, Nat.le_refl _, Sl.nil, v, o, by simpa using Own.nil 63 33 hh, (fun l hl => by cases hl)⟩, ?_⟩
    rintro j h' ⟨j0, j1, x', z', S, v', oB, oS, upS⟩
    have c'' := c.ext ((xa.trans xb).trans x')
    have vA' := (va.ext xb).ext x'
    have gv := v.lt
    have lB := o.lt
    refine If.dec.2 ⟨fun hj => ?_, fun hj => ?_⟩
    · refine ⟨S, v'.at1 rfl, T, vA'.at1 rfl, ?_⟩
      refine names_at c''.t j0 hj fun l y hy hat => ⟨y, hat, K, vA'.at1 rfl, ?_⟩
      refine ints_at c''.k j0 (by omega) fun l' z hz hat' => ⟨z, hat', Ext.push _ _, ?_⟩
      have hlen := oS.len
      simp only [List.length_map, List.length_take] at hlen
      refine append1 (C := ctx) (T := 63) (sz := 33) (x := shTV (y, z)) rfl rfl (by decide) (by show (S.len + 1) * 40 ≤ _; omega) oS rfl rfl fun S' h5 o' w' b' => ?_
      have v5 := v'.only w' (by rintro ⟨l, hl, he⟩; have := upS l hl; omega)
      have gx := x'.size
      have gv' := v'.lt
      obtain ⟨w6, h6, e6, v6, o6, s6⟩ := put_field (i := 1) v5 (by simp [TV.size]) (by simp) (t := .slice S') rfl
      refine ⟨w6, ?_⟩
      rw [e6, wrap_i64 (by omega) (by omega)]
      have hj' : (j + 1).toNat = j.toNat + 1 := by omega
      have upS' : Up S' hh.size := fun l hl => by
        rcases b' l hl with ⟨l', hl', he⟩ | hx
        · rw [← he]; exact upS l' hl'
        · omega
      have hz2 : d.sh[j.toNat]? = some (y, z) := by
        unfold Doc.sh
        rw [List.getElem?_zip_eq_some]
        exact ⟨hy, hz⟩
      have g5 := w'.size
      refine ⟨⟨by omega, by omega, ?_, by omega, S', v6, ?_, ?_, upS'⟩, by dsimp only; omega⟩
      · have hx5 : Ext hb h5 := Only.cut x' w' (by rintro b ⟨l, hl, rfl⟩; have := upS l hl; omega)
        exact Only.cut hx5 o6 (by rintro b rfl; omega)
      · exact (oB.only w' (fun l hl => by rintro ⟨l', hl', he⟩; have := upS l' hl'; have := lB l hl; omega)).only o6 (fun l hl => by have := up l hl; omega)
      · rw [hj', List.take_add_one, hz2]
        have := o'.only o6 (fun l hl => by have := upS' l hl; omega)
        simpa using this
    · have hj2 : j.toNat = d.sh.length := by omega
      rw [hj2, List.take_length] at oS
      have vR := vb.ext x'
      refine ⟨B, S, ⟨v'.at1 rfl, v'.at1 rfl⟩, vR.wok (by simp [TV.size, TVs.size]), ?_⟩
      obtain ⟨h6, e6, v6, o6, s6⟩ := put_spec vR (.agg [.slice B, .slice S]) rfl
      rw [e6]
      refine ⟨B, S, ⟨v6.at1 rfl, v6.at1 rfl⟩, ?_⟩
      refine hr _ _ _ ⟨(oB.only o6 (fun l hl => by have := up l hl; omega)).elems, (oS.only o6 (fun l hl => by have := upS l hl; have := x.size; omega)).elems, by omega, by omega⟩ ?_
      have xx : Ext ha h6 := Only.cut (xb.trans x') o6 (by rintro b rfl; omega)
      exact xa.trans xx

theorem great_spec {sp st sk : Sl} (hr : R (TV.bool (decide (40 < sp.len) || (decide (60 < st.len) || !decide (st.len = sk.len)))).val h) : CallsH Try.prog 28 (TVs.vals [.slice sp, .slice st, .slice sk]) h R := by
  apply tollerlaw20_great_calls
  refine If.dec.2 ⟨fun h0 => ?_, fun h0 => If.dec.2 ⟨fun h1 => ?_, fun h1 => ?_⟩⟩
  · have : decide (40 < sp.len) = true := by simp; omega
    rw [this] at hr
    exact hr
  · have e1 : decide (40 < sp.len) = false := by simp; omega
    have e2 : decide (60 < st.len) = true := by simp; omega
    rw [e1, e2] at hr
    exact hr
  · have e1 : decide (40 < sp.len) = false := by simp; omega
    have e2 : decide (60 < st.len) = false := by simp; omega
    have e3 : decide (st.len = sk.len) = decide ((st.len : Int) = (sk.len : Int)) := decide_eq_decide.2 (by omega)
    rw [e1, e2, e3, Bool.false_or, Bool.false_or] at hr
    exact hr

end
end Go.Proofs.Ytahoibjgojlpeaa.Ghost

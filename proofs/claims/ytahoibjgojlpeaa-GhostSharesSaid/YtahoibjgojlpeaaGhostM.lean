/- The document's head is that by definition. -/
import Derived.Test.YtahoibjgojlpeaaGhostL
import Derived.Test.YtahoibjgojlpeaaVsGhostV
namespace Go.Proofs.Ytahoibjgojlpeaa.Ghost
open Go Go.Vc

section
variable {R : Value → Heap → Prop} {h : Heap}

theorem RHead_spec {A P T K : Sl} {ps ts ks : List Int} (hl : ps.length < 255) (hkl : ts.length ≤ ks.length) (c : RCh h A P T K (plainDoc ps ts ks))
    (hr : ∀ h' r, Ext h h' → r.l = rootAt (plainDoc ps ts ks).bl (headOf (plainDoc ps ts ks).bl (plainDoc ps ts ks).sh) → R (TV.bytes 32 r).val h') :
    CallsH Try.prog 35 (TVs.vals [.agg [.slice A, .slice P, .slice T, .slice K]]) h R := by
  apply tollerref20_Chain_Head_calls
  unfold tollerref20_Chain_Head_vc
  obtain ⟨h1, e1, v1, x1, s1⟩ := newTV_spec h (.agg [.slice A, .slice P, .slice T, .slice K]) 41
  rw [e1]
  obtain ⟨h2, e2, v2, x2, s2⟩ := newTV_spec h1 (.bytes 32 (Bs.zero 32)) 37
  rw [e2]
  have va := v1.ext x2
  have lA := names_len c.a
  have lP := names_len c.p
  obtain ⟨l1, l2, _, l4⟩ := plain_lens ps ts ks
  refine ⟨A, va.at1 rfl, ?_⟩
  refine If.dec.2 ⟨fun h0 => by omega, fun _ => ?_⟩
  refine ⟨A, P, T, K, ⟨va.at1 rfl, va.at1 rfl, va.at1 rfl, va.at1 rfl⟩, ?_⟩
  refine Weights_spec hl hkl ((c.ext x1).ext x2) fun h3 bw nw _ x3 => ⟨_, rfl, ?_⟩
  have c3 := ((c.ext x1).ext x2).ext x3
  have v3 := va.ext x3
  have r3 := v2.ext x3
  generalize plainDoc ps ts ks = d at *
  refine ⟨fun k hh => 0 ≤ k ∧ k < ps.length + 1 ∧ headFrom d.bl d.sh d.bl.length k.toNat = headOf d.bl d.sh ∧ Ext h3 hh, fun k _ => ((ps.length + 1 : Int) - k).toNat, ⟨by simp, by omega, rfl, Ext.refl _⟩, ?_⟩
  rintro k hh ⟨k0, k1, hk, x⟩
  rw [wrap_i64 (n := k + 1) (by omega) (by omega)]
  refine ⟨fun s h' => k + 1 ≤ s.2 ∧ s.2 ≤ ps.length + 1 ∧ Ext h3 h' ∧ ∃ m, (s.1, m) = (kidsTo d.bl k.toNat s.2.toNat).foldl (bestStep d.bl d.sh) (-1, 0) ∧ (0 ≤ s.1 → m = wgt d.bl d.sh s.1.toNat ∧ s.1 < ps.length + 1),
    fun s _ => ((ps.length + 1 : Int) - s.2).toNat, ⟨by simp, by simp; omega, x, 0, ?_, by simp⟩, ?_⟩
  · have : (k + 1).toNat = k.toNat + 1 := by omega
    simp only [this, kidsTo_le]
    rfl
  rintro ⟨b, i⟩ h4 ⟨i0, i1, x4, m, hm, hb⟩
  simp only at i0 i1 hm hb ⊢
  have c4 := c3.ext x4
  have v4 := v3.ext x4
  have n4 : Nums h4 bw (ps.length + 1) (wgt d.bl d.sh) := Var.ext nw x4
  refine ⟨A, v4.at1 rfl, ?_⟩
  refine If.dec.2 ⟨fun hi => ?_, fun hi => ?_⟩
  · refine ⟨P, v4.at1 rfl, ?_⟩
    refine names_at c4.p (i := i) (by omega) (by omega) fun l p hp' hat => ⟨p, hat, A, v4.at1 rfl, ?_⟩
    refine names_at c4.a (i := k) (by omega) (by omega) fun l' r hr' hat' => ⟨r, hat', ?_⟩
    obtain ⟨ri, hri⟩ : ∃ ri, d.roots[i.toNat]? = some ri := ⟨_, List.getElem?_eq_getElem (by omega)⟩
    obtain ⟨pk, hpk⟩ : ∃ pk, d.pars[k.toNat]? = some pk := ⟨_, List.getElem?_eq_getElem (by omega)⟩
    have hbi := bl_at hri hp'
    have hbk := bl_at hr' hpk
    have hi' : (i + 1).toNat = i.toNat + 1 := by omega
    have hin : ((i.toNat : Nat) : Int) = i := by omega
    rw [wrap_i64 (n := i + 1) (by omega) (by omega)]
    refine If.dec.2 ⟨fun he => ?_, fun he => ?_⟩
    · have hkid : kid d.bl k.toNat i.toNat = true := by
        simp only [kid, parAt_of hbi, rootAt_of hbk, Bool.and_eq_true, decide_eq_true_eq]
        exact ⟨by omega, he⟩
      have hnext : (kidsTo d.bl k.toNat (i + 1).toNat).foldl (bestStep d.bl d.sh) (-1, 0) = bestStep d.bl d.sh (b, m) i.toNat := by
        rw [hi', kidsTo_succ, hkid, List.foldl_append, ← hm]
        rfl
      have yes : ∀ h', Ext h3 h' → (b < 0 ∨ m < wgt d.bl d.sh i.toNat ∨ (wgt d.bl d.sh i.toNat = m ∧ Op.bytesLess (rootAt d.bl b.toNat) (rootAt d.bl i.toNat) = true)) →
          (k + 1 ≤ i + 1 ∧ i + 1 ≤ (ps.length : Int) + 1 ∧ Ext h3 h' ∧ ∃ m', (i, m') = (kidsTo d.bl k.toNat (i + 1).toNat).foldl (bestStep d.bl d.sh) (-1, 0) ∧ (0 ≤ i → m' = wgt d.bl d.sh i.toNat ∧ i < (ps.length : Int) + 1)) ∧
            ((ps.length + 1 : Int) - (i + 1)).toNat < ((ps.length + 1 : Int) - i).toNat := fun h' hx hc => by
        refine ⟨⟨by omega, by omega, hx, wgt d.bl d.sh i.toNat, ?_, fun _ => ⟨rfl, by omega⟩⟩, by omega⟩
        rw [hnext]
        unfold bestStep
        rw [if_pos hc, hin]
      have no : ∀ h', Ext h3 h' → ¬ (b < 0 ∨ m < wgt d.bl d.sh i.toNat ∨ (wgt d.bl d.sh i.toNat = m ∧ Op.bytesLess (rootAt d.bl b.toNat) (rootAt d.bl i.toNat) = true)) →
          (k + 1 ≤ i + 1 ∧ i + 1 ≤ (ps.length : Int) + 1 ∧ Ext h3 h' ∧ ∃ m', (b, m') = (kidsTo d.bl k.toNat (i + 1).toNat).foldl (bestStep d.bl d.sh) (-1, 0) ∧ (0 ≤ b → m' = wgt d.bl d.sh b.toNat ∧ b < (ps.length : Int) + 1)) ∧
            ((ps.length + 1 : Int) - (i + 1)).toNat < ((ps.length + 1 : Int) - i).toNat := fun h' hx hc => by
        refine ⟨⟨by omega, by omega, hx, m, ?_, hb⟩, by omega⟩
        rw [hnext]
        unfold bestStep
        rw [if_neg hc]
      refine If.dec.2 ⟨fun h0 => yes h4 x4 (.inl h0), fun h0 => ?_⟩
      obtain ⟨hmb, hbl⟩ := hb (by omega)
      have ri1 : at1 h4 bw (0 + i.toNat * 1) (.int .i64 (wgt d.bl d.sh i.toNat)) := n4.read (by omega)
      have rb1 : at1 h4 bw (0 + b.toNat * 1) (.int .i64 (wgt d.bl d.sh b.toNat)) := n4.read (by omega)
      refine ⟨by omega, (by show i < ((ps.length + 1 : Nat) : Int); omega), _, ri1, by omega, (by show b < ((ps.length + 1 : Nat) : Int); omega), _, rb1, ?_⟩
      refine If.dec.2 ⟨fun h5 => yes h4 x4 (.inr (.inl (by rw [hmb]; exact h5))), fun h5 => ?_⟩
      refine ⟨by omega, (by show i < ((ps.length + 1 : Nat) : Int); omega), _, ri1, by omega, (by show b < ((ps.length + 1 : Nat) : Int); omega), _, rb1, ?_⟩
      refine If.dec.2 ⟨fun h6 => ?_, fun h6 => no h4 x4 (by rw [hmb]; rintro (a | a | ⟨a, _⟩) <;> contradiction)⟩
      refine ⟨A, v4.at1 rfl, ?_⟩
      refine names_at c4.a (i := b) (by omega) (by omega) fun l1 rb hrb hat1 => ⟨rb, hat1, A, v4.at1 rfl, ?_⟩
      refine names_at c4.a (i := i) (by omega) (by omega) fun l2 ri2 hri2 hat2 => ⟨ri2, hat2, ?_⟩
      obtain rfl : ri = ri2 := by rw [hri] at hri2; exact Option.some.inj hri2
      obtain ⟨pb, hpb⟩ : ∃ pb, d.pars[b.toNat]? = some pb := ⟨_, List.getElem?_eq_getElem (by omega)⟩
      have hbb := bl_at hrb hpb
      refine Less_spec fun h5' x5 => ⟨_, rfl, ?_⟩
      refine If.split (fun hlb => yes h5' (x4.trans x5) (.inr (.inr ⟨by rw [hmb]; exact h6, by rw [rootAt_of hbb, rootAt_of hbi]; exact hlb⟩))) (fun hlb => no h5' (x4.trans x5) ?_)
      rw [hmb]
      rintro (a | a | ⟨_, a⟩)
      · contradiction
      · contradiction
      · rw [rootAt_of hbb, rootAt_of hbi, hlb] at a; cases a
    · have hkid : kid d.bl k.toNat i.toNat = false := by
        simp only [kid, parAt_of hbi, rootAt_of hbk, Bool.and_eq_false_iff, decide_eq_false_iff_not]
        exact .inr he
      refine ⟨⟨by omega, by omega, x4, m, ?_, hb⟩, by omega⟩
      rw [hi', kidsTo_succ, hkid]
      simpa using hm
  · have hie : i.toNat = d.bl.length := by omega
    rw [hie] at hm
    have hbest : b = bestOf d.bl d.sh k.toNat := by
      unfold bestOf kidsOf
      rw [← hm]
    refine If.dec.2 ⟨fun h0 => ?_, fun h0 => ?_⟩
    · rw [hbest] at h0
      rw [headFrom_end (by omega) h0] at hk
      refine ⟨A, v4.at1 rfl, ?_⟩
      refine names_at c4.a (i := k) (by omega) (by omega) fun l' r hr' hat' => ⟨r, hat', ?_⟩
      obtain ⟨pk, hpk⟩ : ∃ pk, d.pars[k.toNat]? = some pk := ⟨_, List.getElem?_eq_getElem (by omega)⟩
      refine ⟨(r3.ext x4).wok (by simp [TV.size]), ?_⟩
      obtain ⟨h5, e5, v5, o5, s5⟩ := put_spec (r3.ext x4) (.bytes 32 r) rfl
      rw [e5]
      refine ⟨r, v5.bytes, hr _ r (Only.cut (((x1.trans x2).trans x3).trans x4) o5 (fun i hi => by have := x1.size; omega)) ?_⟩
      rw [← hk]
      exact (rootAt_of (bl_at hr' hpk)).symm
    · rw [hbest] at h0
      have hg := bestOf_gt h0
      rw [headFrom_step (by omega) h0] at hk
      rw [hbest]
      exact ⟨⟨by omega, by omega, hk, x4⟩, by omega⟩

end
end Go.Proofs.Ytahoibjgojlpeaa.Ghost

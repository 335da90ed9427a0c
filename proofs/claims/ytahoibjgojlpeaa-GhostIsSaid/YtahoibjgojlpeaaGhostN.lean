/- Weight and Head answer what the document says. -/
import Derived.Test.YtahoibjgojlpeaaGhostM
import Derived.Test.YtahoibjgojlpeaaVsGhostW
namespace Go.Proofs.Ytahoibjgojlpeaa.Ghost
open Go Go.Vc

section
variable {R : Value → Heap → Prop} {h : Heap}

theorem weightAt_none {bl : List (Rt × Rt)} {sh : List (Rt × Int)} {r : List UInt8} (hn : ¬ 0 ≤ placeOf (bl.map fun x => x.1.l) r) : weightAt bl sh r = 0 := by
  unfold weightAt
  rw [if_neg hn]

theorem ghostIs_spec {sp st sk : Sl} {ps ts ks : List Int} {odd : Rt} (hp : Ints .i64 h sp ps) (ht : Ints .i64 h st ts) (hk : Ints .i64 h sk ks) (hr : ∀ h', Ext h h' → R (TV.bool true).val h') :
    CallsH Try.prog 7 (TVs.vals [.slice sp, .slice st, .slice sk, .bytes 32 odd]) h R := by
  apply tollerlaw20_GhostIs_calls
  unfold tollerlaw20_GhostIs_vc
  obtain ⟨h0, e0, v0, x0, s0⟩ := newTV_spec h (.bytes 32 odd) 37
  rw [e0]
  refine alive_spec fun h1 x1 => ⟨_, rfl, If.no ?_⟩
  refine great_spec ⟨_, rfl, ?_⟩
  refine If.split (fun _ => hr _ (x0.trans x1)) (fun hgr => ?_)
  have lp := hp.len
  have lt := ht.len
  have lk := hk.len
  simp only [Bool.or_eq_false_iff, decide_eq_false_iff_not, Bool.not_eq_false', decide_eq_true_eq] at hgr
  obtain ⟨g1, g2, g3⟩ := hgr
  have hl : ps.length < 255 := by omega
  have xx1 := x0.trans x1
  refine plain_spec (hp.ext xx1) (ht.ext xx1) (hk.ext xx1) (by omega) (by omega) (by omega) fun h2 A P T c x2 => ⟨A, P, T, sk, rfl, ?_⟩
  obtain ⟨w3, h3, e3, v3, x3, s3⟩ := newput_spec h2 (.agg [.slice Sl.nil, .slice Sl.nil, .slice Sl.nil, .slice Sl.nil]) (.agg [.slice A, .slice P, .slice T, .slice sk]) 41 rfl
  refine ⟨w3, ?_⟩
  rw [e3]
  have c3 := c.ext x3
  refine ⟨A, P, T, sk, ⟨v3.at1 rfl, v3.at1 rfl, v3.at1 rfl, v3.at1 rfl⟩, ?_⟩
  refine Good_spec hl hk.fit c3 fun h4 x4 => ⟨_, rfl, ?_⟩
  have xx4 := ((xx1.trans x2).trans x3).trans x4
  refine If.split (fun _ => hr _ xx4) (fun hg => ?_)
  have v4 := v3.ext x4
  have c4 := c3.ext x4
  obtain ⟨l1, l2, l3, l4⟩ := plain_lens ps ts ks
  have l5 : (plainDoc ps ts ks).sts.length = ks.length := rfl
  refine ⟨A, P, T, sk, ⟨v4.at1 rfl, v4.at1 rfl, v4.at1 rfl, v4.at1 rfl⟩, ?_⟩
  refine chain_spec c4 (by omega) (by omega) fun h5 B Z c5 x5 => ⟨B, Z, rfl, ?_⟩
  obtain ⟨w6, h6, e6, v6, x6, s6⟩ := newput_spec h5 (.agg [.slice Sl.nil, .slice Sl.nil]) (.agg [.slice B, .slice Z]) 46 rfl
  refine ⟨w6, ?_⟩
  rw [e6]
  have vm := (v4.ext x5).ext x6
  have cm := (c4.ext x5).ext x6
  have cc := c5.ext x6
  have xx6 := (xx4.trans x5).trans x6
  have vo : Var 37 h6 h.size (.bytes 32 odd) := v0.ext (((((x1.trans x2).trans x3).trans x4).trans x5).trans x6)
  refine ⟨A, P, T, sk, ⟨vm.at1 rfl, vm.at1 rfl, vm.at1 rfl, vm.at1 rfl⟩, ?_⟩
  refine Weights_spec hl (by omega) cm fun h7 bw nw _ x7 => ⟨_, rfl, ?_⟩
  have vm7 := vm.ext x7
  have cm7 := cm.ext x7
  have lA := names_len cm7.a
  refine ⟨A, vm7.at1 rfl, ?_⟩
  refine ⟨fun s hh => 0 ≤ s.2 ∧ s.2 ≤ ps.length + 1 ∧ Ext h7 hh, fun s _ => ((ps.length + 1 : Int) - s.2).toNat, ⟨by simp, by simp; omega, Ext.refl _⟩, ?_⟩
  rintro ⟨u, i⟩ hh ⟨i0, i1, x⟩
  simp only at i0 i1 ⊢
  have vmh := vm7.ext x
  have cmh := cm7.ext x
  have vch := (v6.ext x7).ext x
  have cch := (cc.ext x7).ext x
  have nwh : Nums hh bw (ps.length + 1) _ := Var.ext nw x
  refine If.dec.2 ⟨fun hi => ?_, fun hi => ?_⟩
  · refine names_at cmh.a i0 (by omega) fun l y hy hat => ⟨y, hat, ?_⟩
    obtain rfl : nameN i.toNat = y := by
      have := roots_at (ps := ps) (ts := ts) (ks := ks) (i := i.toNat) (by omega)
      rw [hy] at this
      exact (Option.some.inj this).symm
    obtain ⟨w8, h8, e8, v8, x8, s8⟩ := newput_spec hh (.bytes 32 (Bs.zero 32)) (.bytes 32 (nameN i.toNat)) 37 rfl
    refine ⟨w8, ?_⟩
    rw [e8]
    have vc8 := vch.ext x8
    have n8 : Nums h8 bw (ps.length + 1) _ := Var.ext nwh x8
    refine ⟨B, Z, ⟨vc8.at1 rfl, vc8.at1 rfl⟩, nameN i.toNat, v8.bytes, i0, (by show i < ((ps.length + 1 : Nat) : Int); omega), _, n8.read (i := i.toNat) (by omega), ?_⟩
    refine Weight_spec (cch.ext x8) fun h9 x9 => ⟨_, rfl, x9, ?_⟩
    rw [weightAt_plain hl _ (by omega), decide_eq_true rfl]
    refine If.no ?_
    rw [wrap_i64 (n := i + 1) (by omega) (by omega)]
    exact ⟨⟨by omega, by omega, (x.trans x8).trans x9⟩, by omega⟩
  · refine ⟨Z, vch.at1 rfl, ?_⟩
    obtain ⟨w8, h8, e8, v8, x8, s8⟩ := newput_spec hh (.agg [.slice Sl.nil, .slice Sl.nil]) (.agg [.slice Sl.nil, .slice Z]) 46 rfl
    refine ⟨w8, ?_⟩
    rw [e8]
    have vc8 := vch.ext x8
    have vm8 := vmh.ext x8
    have c8 := cch.ext x8
    have m8 := cmh.ext x8
    have none8 : Ch h8 Sl.nil Z [] (plainDoc ps ts ks).sh := ⟨Elems.nil_ 64 h8, c8.s, by simp, c8.fews⟩
    refine ⟨B, Z, ⟨vc8.at1 rfl, vc8.at1 rfl⟩, A, P, T, sk, ⟨vm8.at1 rfl, vm8.at1 rfl, vm8.at1 rfl, vm8.at1 rfl⟩, ?_⟩
    refine Head_spec c8 fun h9 r9 x9 _ hroot => ⟨r9, rfl, x9, ?_⟩
    have hr9 := hroot (by intro hn; rw [hn] at l4; simp at l4)
    refine RHead_spec hl (by omega) (m8.ext x9) fun h10 r10 x10 hr10 => ⟨r10, rfl, ?_⟩
    have he : decide (r9.1 = r10.1) = true := by rw [decide_eq_true_eq]; exact hr9.trans hr10.symm
    rw [he]
    refine If.yes ?_
    have vm10 := (vm8.ext x9).ext x10
    have vo10 := ((((vo.ext x7).ext x).ext x8).ext x9).ext x10
    refine ⟨A, P, T, sk, ⟨vm10.at1 rfl, vm10.at1 rfl, vm10.at1 rfl, vm10.at1 rfl⟩, odd, vo10.bytes, ?_⟩
    refine Place_spec ((m8.ext x9).ext x10) fun h11 x11 => ⟨_, rfl, ?_⟩
    have n11 := ((none8.ext x9).ext x10).ext x11
    have v11 := ((v8.ext x9).ext x10).ext x11
    have o11 := vo10.ext x11
    have xx11 := ((((xx6.trans x7).trans x).trans x8).trans x9).trans (x10.trans x11)
    have w0 : weightAt [] (plainDoc ps ts ks).sh odd.l = 0 := weightAt_none (by simp [placeOf])
    -- the one without blocks
    refine If.dec.2 ⟨fun hpl => ?_, fun hpl => ?_⟩
    · refine ⟨Sl.nil, Z, ⟨v11.at1 rfl, v11.at1 rfl⟩, ?_⟩
      refine Head_spec n11 fun h12 r12 x12 hz _ => ⟨r12, rfl, x12, ?_⟩
      have hz' := hz rfl
      subst hz'
      refine If.yes ?_
      refine ⟨Sl.nil, Z, ⟨(v11.ext x12).at1 rfl, (v11.ext x12).at1 rfl⟩, odd, (o11.ext x12).bytes, ?_⟩
      refine Weight_spec (n11.ext x12) fun h13 x13 => ⟨_, rfl, ?_⟩
      rw [w0, decide_eq_true rfl]
      exact hr _ ((xx11.trans x12).trans x13)
    · have vc11 := ((vc8.ext x9).ext x10).ext x11
      refine ⟨B, Z, ⟨vc11.at1 rfl, vc11.at1 rfl⟩, odd, o11.bytes, ?_⟩
      refine Weight_spec (((c8.ext x9).ext x10).ext x11) fun h12 x12 => ⟨_, rfl, ?_⟩
      have w1 : weightAt (plainDoc ps ts ks).bl (plainDoc ps ts ks).sh odd.l = 0 := weightAt_none (by rw [bl_names]; exact hpl)
      rw [w1, decide_eq_true rfl]
      refine If.yes ?_
      have v12 := v11.ext x12
      refine ⟨Sl.nil, Z, ⟨v12.at1 rfl, v12.at1 rfl⟩, ?_⟩
      refine Head_spec (n11.ext x12) fun h13 r13 x13 hz _ => ⟨r13, rfl, x13, ?_⟩
      have hz' := hz rfl
      subst hz'
      refine If.yes ?_
      refine ⟨Sl.nil, Z, ⟨(v12.ext x13).at1 rfl, (v12.ext x13).at1 rfl⟩, odd, ((o11.ext x12).ext x13).bytes, ?_⟩
      refine Weight_spec ((n11.ext x12).ext x13) fun h14 x14 => ⟨_, rfl, ?_⟩
      rw [w0, decide_eq_true rfl]
      exact hr _ (((xx11.trans x12).trans x13).trans x14)

end
end Go.Proofs.Ytahoibjgojlpeaa.Ghost

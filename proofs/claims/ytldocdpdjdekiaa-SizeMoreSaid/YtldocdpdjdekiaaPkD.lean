/- Texts that the proof needs, joined: GateO, VsSize, SizeW, VsSizeA, SizeA, VsSizeL, SizeL, SizeF, VsSizeN, SizeN, VsSizeI, SizeI, VsSizeM, SizeM. -/
import Derived.Deep.Strs
import Derived.Test.YtldocdpdjdekiaaPkC

section
/- gate.New. -/
namespace Go.Proofs.Ytldocdpdjdekiaa.Gate
open Go Go.Vc
open Board (Vd Cf vds put_n)
open Pool (It WL Mine)
open Peers (Pe)

theorem vd_bytes : (ctx.ti T.api_Validator).bytes = 24 := by kernel_rfl
theorem vd_size : (ctx.ti T.api_Validator).size = 2 := by kernel_rfl
theorem vd_zsize : (ctx.ti T.api_Validator).z.size = 2 := by kernel_rfl

def ptrs4 (a : Ad) : TV := .agg [.ptr (some ⟨a.bk, 0⟩), .ptr (some ⟨a.kd, 0⟩), .ptr (some ⟨a.wt, 0⟩), .ptr (some ⟨a.wh, 0⟩)]

section
variable {R : Value → Heap → Prop} {h h' : Heap} {g lo m1 m2 : Nat} {a : Ad} {c : Cf} {V : List Vd} {s : St} {S0 S1 S2 S4 S5 S6 : Nat → Prop}

theorem NewB.only {Q : Nat → Prop} (p : NewB lo h c V a m1 m2 S0 S1 S2) (f : Only Q h h') (hs : ∀ i, lo ≤ i → i ≤ a.bk → ¬ Q i) : NewB lo h' c V a m1 m2 S0 S1 S2 :=
  have l0 := p.l0
  have l1 := p.l1
  have l2 := p.l2
  ⟨p.var.only f (hs _ (by omega) (Nat.le_refl _)), p.tree.only f (fun i hi => by have := p.r0 i hi; exact hs i (by omega) (by omega)), p.wei.only f (fun i hi => by have := p.r1 i hi; exact hs i (by omega) (by omega)), p.tab.only f (fun i hi => by have := p.r2 i hi; exact hs i (by omega) (by omega)), p.r0, p.r1, p.r2, l0, l1, l2⟩

theorem Valid_of (k : Can c V) : Peers.Valid c.pe c.ban c.dec := ⟨k.pe.1, k.pe.2, k.ban.1, k.ban.2, k.dec.1, k.dec.2⟩

set_option maxRecDepth 100000 in
theorem gnew_spec (e : Elems 2 h c.vals (vds V)) (hl : c.vals.len < 100000) (hr0 : goodC c V = false → ∀ h', Ext h h' → R (TV.tup [.ptr none, .int .i64 1]).val h')
    (hr : Can c V → ∀ h' g a s Fp, GateB h' g a { c with vals := s } V (newSt c V) Fp → Ext h h' → (∀ k i, Fp k i → h.size ≤ i) → (∀ i, In s i → h.size ≤ i) → R (TV.tup [.ptr (some ⟨g, 0⟩), .int .i64 0]).val h') :
    CallsH Try.prog F.gate_New (TVs.vals [c.tv]) h R := by
  apply gate_New_calls c.vals c.ep c.com c.no c.orp c.ear c.quo c.pe c.by_ c.win c.ban c.dec
  unfold gate_New_vc
  have el : V.length = c.vals.len := by have := e.len; rwa [List.length_map] at this
  refine newTV_in fun h1 v1 x1 s1 => ?_
  refine ⟨c.vals, c.ep, c.com, c.no, c.orp, c.ear, c.quo, c.pe, c.by_, c.win, c.ban, c.dec, v1.at, ?_⟩
  refine ggood_spec (e.ext x1) hl fun h2 x2 => ⟨_, rfl, ?_⟩
  have v2 : Var 24 h2 h.size c.tv := v1.ext x2
  have x02 := x1.trans x2
  refine If.split (fun hb => ?_) fun hb => ?_
  · exact hr0 (by simpa using hb) h2 x02
  have k : Can c V := good_can.1 (by simpa using hb)
  have kl := k.len
  have z1 := x1.size
  have z2 := x2.size
  have on := Own.new (T := T.api_Validator) (sz := 2) h2 [] (fun t ht => by cases ht)
  have xp := Ext.push h2 (row (TVs.cells []) T.api_Validator)
  have sp : (h2.push (row (TVs.cells []) T.api_Validator)).size = h2.size + 1 := by simp
  refine ⟨c.vals, (v2.ext xp).at1 rfl, ?_⟩
  refine appendN (C := ctx) (T := T.api_Validator) (t := Sl.mk (some (Vc.Loc.mk h2.size 0)) 0 0) vd_size vd_zsize (by rw [vd_bytes]; decide) (by decide) (by rw [vd_bytes]; simp only; omega) on ((e.ext x02).ext xp) (fun u hu => by obtain ⟨v, _, rfl⟩ := List.mem_map.1 hu; rfl) (fun u hu => by obtain ⟨v, _, rfl⟩ := List.mem_map.1 hu; rfl) fun s3 h3 o3 xx3 f3 b3 => ?_
  have x3 := xx3 rfl
  have v3 : Var 24 h3 h.size c.tv := (v2.ext xp).ext x3
  have x03 := (x02.trans xp).trans x3
  rw [List.nil_append] at o3
  have s3lt : ∀ i, In s3 i → i < h3.size := fun i hi => o3.In_lt i hi
  have s3lo : ∀ i, In s3 i → h.size + 1 ≤ i := fun i ⟨l, hl, hi⟩ => by
    rcases b3 l hl with ⟨l', h1, h2'⟩ | h1
    · cases h1
      simp only at h2'
      omega
    · have h9 : h2.size + 1 ≤ l.b := by simpa using h1
      omega
  refine field_in (i := 0) (t := .slice s3) (t0 := .slice c.vals) v3 rfl rfl rfl rfl fun h4 v4 f4 z4 => ?_
  have x04 : Ext h h4 := Only.cut x03 f4 fun i hi => by omega
  have e4 : Elems 2 h4 s3 (vds V) := TV.at_keep f4 o3.elems fun i hi => by have := s3lo i hi; omega
  have v4 : Var 24 h4 h.size { c with vals := s3 }.tv := v4
  have k' : Can { c with vals := s3 } V := ⟨k.tot, k.len, k.ep, k.com, k.no, k.orp, k.ear, k.quo, k.pe, k.by_, k.win, k.ban, k.dec⟩
  intro J HJ
  refine ⟨s3, c.ep, c.com, c.no, c.orp, c.ear, c.quo, c.pe, c.by_, c.win, c.ban, c.dec, v4.at, c.orp, v4.at1 rfl, c.quo, v4.at1 rfl, c.ear, v4.at1 rfl, c.quo, v4.at1 rfl, c.pe, v4.at1 rfl, c.ban, v4.at1 rfl, c.dec, v4.at1 rfl, ?_⟩
  have hz4 : h.size ≤ h4.size := x04.size
  have fin : ∀ (hh : Heap) (lo q tr we ta bk kd wt wh m1 m2 k4 k5 k6 : Nat) (S0 S1 S2 S4 S5 S6 : Nat → Prop), Ext h4 hh → h4.size ≤ lo → Var T.gate_parts hh q (ptrs4 ⟨tr, we, ta, bk, kd, wt, wh, 0⟩) →
      NewP lo hh { c with vals := s3 } V ⟨tr, we, ta, bk, kd, wt, wh, 0⟩ m1 m2 k4 k5 k6 S0 S1 S2 S4 S5 S6 → k6 + 2 ≤ hh.size →
      J (some ⟨bk, 0⟩, c.orp, c.quo, some ⟨kd, 0⟩, c.ear, c.quo, some ⟨wt, 0⟩, c.pe, c.ban, c.dec, some ⟨wh, 0⟩, some ⟨q, 0⟩) hh := by
    intro hh lo q tr we ta bk kd wt wh m1 m2 k4 k5 k6 S0 S1 S2 S4 S5 S6 xh hlo vq p hk6
    have vh : Var 24 hh h.size { c with vals := s3 }.tv := v4.ext xh
    refine HJ _ hh ⟨s3, c.ep, c.com, c.no, c.orp, c.ear, c.quo, c.pe, c.by_, c.win, c.ban, c.dec, vh.at, c.win, vh.at1 rfl, _, _, _, _, vq.at, ?_⟩
    refine Clock.new_spec fun h5 clk5 x5 z5 => ⟨_, rfl, x5, newTV_in fun h6 v6 x6 s6 => ?_⟩
    have x56 := x5.trans x6
    have p6 : NewP lo h6 { c with vals := s3 } V ⟨tr, we, ta, bk, kd, wt, wh, hh.size⟩ m1 m2 k4 k5 k6 S0 S1 S2 S4 S5 S6 :=
      ⟨⟨p.b.var.ext x56, (p.b.ext x56).tree, (p.b.ext x56).wei, (p.b.ext x56).tab, p.b.r0, p.b.r1, p.b.r2, p.b.l0, p.b.l1, p.b.l2⟩, p.kids.ext x56, p.wait.ext x56, p.who.ext x56, p.r4, p.r5, p.r6, p.l4, p.l5, p.l6⟩
    have gate := p6.gate (g := h5.size) hk6 (by show hh.size < h5.size; omega) (clk5.ext x6) v6 ((e4.ext xh).ext x56) (fun i hi => by have := s3lt i hi; omega) k'
    refine hr k h6 h5.size _ s3 _ gate ((x04.trans xh).trans x56) (fun j i hi => ?_) fun i hi => by have := s3lo i hi; omega
    have := gate.sep.lt j i hi
    have hzh := xh.size
    match j, hi with
    | 0, hi => have := p.b.r0 i hi; omega
    | 1, hi => have := p.b.r1 i hi; have := p.b.l0; omega
    | 2, hi => have := p.b.r2 i hi; have := p.b.l0; have := p.b.l1; omega
    | 3, hi => have hi : i = bk := hi; have := p.b.l0; have := p.b.l1; have := p.b.l2; simp only at this; omega
    | 4, hi => have := p.r4 i hi; have := p.b.l0; have := p.b.l1; have := p.b.l2; have := p.l4; simp only at *; omega
    | 5, hi => have := p.r5 i hi; have := p.b.l0; have := p.b.l1; have := p.b.l2; have := p.l4; have := p.l5; simp only at *; omega
    | 6, hi => have := p.r6 i hi; have := p.b.l0; have := p.b.l1; have := p.b.l2; have := p.l4; have := p.l5; have := p.l6; simp only at *; omega
    | 7, hi => have hi : i = hh.size := hi; omega
    | 8, hi => have hi : i = h5.size := hi; omega
    | _ + 9, hi => exact hi.elim
  have kc : 1 ≤ c.orp ∧ c.orp ≤ 64 := k.orp
  have vp := Valid_of k
  have t78 : ∀ (hh : Heap) (lo q tr we ta bk kd wt m1 m2 k4 k5 : Nat) (S0 S1 S2 S4 S5 : Nat → Prop), Ext h4 hh → h4.size ≤ lo → h4.size ≤ q → (q < lo ∨ bk < q) → (q < k4 ∨ k4 + 2 ≤ q) → (q < k5 ∨ k5 + 2 ≤ q) → Var T.gate_parts hh q (.agg [.ptr none, .ptr none, .ptr none, .ptr none]) →
      NewB lo hh { c with vals := s3 } V ⟨tr, we, ta, bk, 0, 0, 0, 0⟩ m1 m2 S0 S1 S2 → PoolB T.orphans_Orphans hh kd [] c.orp c.quo S4 → PoolB T.early_Early hh wt [] c.ear c.quo S5 → Two k4 S4 → Two k5 S5 → bk < k4 → k4 + 2 ≤ k5 → k5 + 2 ≤ hh.size →
      CallsH Try.prog 70 (TVs.vals [.int .i64 c.pe, .int .i64 c.ban, .int .i64 c.dec]) hh fun v h7 => ∃ (p3 : Option Vc.Loc), v = (TV.ptr p3).val ∧ wok h7 q 0 4 ∧ Bind (TV.put h7 q 0 (.agg [.ptr (some ⟨bk, 0⟩), .ptr (some ⟨kd, 0⟩), .ptr (some ⟨wt, 0⟩), .ptr p3])) fun h8 => J (some ⟨bk, 0⟩, c.orp, c.quo, some ⟨kd, 0⟩, c.ear, c.quo, some ⟨wt, 0⟩, c.pe, c.ban, c.dec, p3, some ⟨q, 0⟩) h8 := by
    intro hh lo q tr we ta bk kd wt m1 m2 k4 k5 S0 S1 S2 S4 S5 xh hlo hq c1 c2 c3 vq nb pk pw r4 r5 l4 l5 l6
    have ql := vq.lt
    refine pnewB vp fun h7 S6 p6 r6 x7 => ⟨_, rfl, ?_⟩
    have z7 := x7.size
    refine put_n (t := ptrs4 ⟨tr, we, ta, bk, kd, wt, hh.size + 1, 0⟩) (vq.ext x7) rfl rfl fun h8 v8 f8 z8 => ?_
    refine fin h8 lo q tr we ta bk kd wt (hh.size + 1) m1 m2 k4 k5 hh.size S0 S1 S2 S4 S5 S6 (Only.cut (xh.trans x7) f8 fun i hi => ?_) hlo v8 ?_ ?_
    · omega
    · have nb8 := (nb.ext x7).only f8 fun i h1 h2 => by simp only at h2; omega
      refine ⟨⟨nb8.var, nb8.tree, nb8.wei, nb8.tab, nb8.r0, nb8.r1, nb8.r2, nb8.l0, nb8.l1, nb8.l2⟩, (pk.ext x7).only f8 fun i hi => by have := r4 i hi; omega, (pw.ext x7).only f8 fun i hi => by have := r5 i hi; omega, p6.only f8 fun i hi => by have := r6 i hi; omega, r4, r5, r6, l4, l5, l6⟩
    · obtain ⟨r, pp, _⟩ := p6
      have := pp.var.lt
      omega
  have t77 : ∀ (hh : Heap) (lo q tr we ta bk kd m1 m2 k4 : Nat) (S0 S1 S2 S4 : Nat → Prop), Ext h4 hh → h4.size ≤ lo → h4.size ≤ q → (q < lo ∨ bk < q) → (q < k4 ∨ k4 + 2 ≤ q) → Var T.gate_parts hh q (.agg [.ptr none, .ptr none, .ptr none, .ptr none]) →
      NewB lo hh { c with vals := s3 } V ⟨tr, we, ta, bk, 0, 0, 0, 0⟩ m1 m2 S0 S1 S2 → PoolB T.orphans_Orphans hh kd [] c.orp c.quo S4 → Two k4 S4 → bk < k4 → k4 + 2 ≤ hh.size →
      CallsH Try.prog 22 (TVs.vals [.int .i64 c.ear, .int .i64 c.quo]) hh fun v h6 => ∃ (p2 : Option Vc.Loc), v = (TV.ptr p2).val ∧ Ext hh h6 ∧
        CallsH Try.prog 70 (TVs.vals [.int .i64 c.pe, .int .i64 c.ban, .int .i64 c.dec]) h6 fun v h7 => ∃ (p3 : Option Vc.Loc), v = (TV.ptr p3).val ∧ wok h7 q 0 4 ∧ Bind (TV.put h7 q 0 (.agg [.ptr (some ⟨bk, 0⟩), .ptr (some ⟨kd, 0⟩), .ptr p2, .ptr p3])) fun h8 => J (some ⟨bk, 0⟩, c.orp, c.quo, some ⟨kd, 0⟩, c.ear, c.quo, p2, c.pe, c.ban, c.dec, p3, some ⟨q, 0⟩) h8 := by
    intro hh lo q tr we ta bk kd m1 m2 k4 S0 S1 S2 S4 xh hlo hq c1 c2 vq nb pk r4 l4 l5
    have ql := vq.lt
    refine enewB k.ear k.quo fun h6 S5 p6 r6 x6 z6 => ⟨_, rfl, x6, ?_⟩
    exact t78 h6 lo q tr we ta bk kd (hh.size + 1) m1 m2 k4 hh.size S0 S1 S2 S4 S5 (xh.trans x6) hlo hq c1 c2 (by omega) (vq.ext x6) (nb.ext x6) (pk.ext x6) p6 r4 r6 l4 (by omega) (by omega)
  have t76 : ∀ (hh : Heap) (lo q tr we ta bk m1 m2 : Nat) (S0 S1 S2 : Nat → Prop), Ext h4 hh → h4.size ≤ lo → h4.size ≤ q → (q < lo ∨ bk < q) → Var T.gate_parts hh q (.agg [.ptr none, .ptr none, .ptr none, .ptr none]) →
      NewB lo hh { c with vals := s3 } V ⟨tr, we, ta, bk, 0, 0, 0, 0⟩ m1 m2 S0 S1 S2 → bk < hh.size →
      CallsH Try.prog 31 (TVs.vals [.int .i64 c.orp, .int .i64 c.quo]) hh fun v h5 => ∃ (p1 : Option Vc.Loc), v = (TV.ptr p1).val ∧ Ext hh h5 ∧
      CallsH Try.prog 22 (TVs.vals [.int .i64 c.ear, .int .i64 c.quo]) h5 fun v h6 => ∃ (p2 : Option Vc.Loc), v = (TV.ptr p2).val ∧ Ext h5 h6 ∧
        CallsH Try.prog 70 (TVs.vals [.int .i64 c.pe, .int .i64 c.ban, .int .i64 c.dec]) h6 fun v h7 => ∃ (p3 : Option Vc.Loc), v = (TV.ptr p3).val ∧ wok h7 q 0 4 ∧ Bind (TV.put h7 q 0 (.agg [.ptr (some ⟨bk, 0⟩), .ptr p1, .ptr p2, .ptr p3])) fun h8 => J (some ⟨bk, 0⟩, c.orp, c.quo, p1, c.ear, c.quo, p2, c.pe, c.ban, c.dec, p3, some ⟨q, 0⟩) h8 := by
    intro hh lo q tr we ta bk m1 m2 S0 S1 S2 xh hlo hq c1 vq nb l3
    have ql := vq.lt
    refine onewB k.orp k.quo fun h5 S4 p5 r5 x5 z5 => ⟨_, rfl, x5, ?_⟩
    exact t77 h5 lo q tr we ta bk (hh.size + 1) m1 m2 hh.size S0 S1 S2 S4 (xh.trans x5) hlo hq c1 (by omega) (vq.ext x5) (nb.ext x5) p5 r5 l3 (by omega)
  refine ⟨?_, ?_⟩
  · refine bnew_spec e4 k' fun h5 tr we ta bk m1 m2 S0 S1 S2 v5 tb5 wb5 ta5 x5 r0 r1 r2 l0 l1 l2 l3 => ⟨_, rfl, x5, ⟨?_, ?_⟩⟩
    all_goals have nb5 : NewB h4.size h5 { c with vals := s3 } V ⟨tr, we, ta, bk, 0, 0, 0, 0⟩ m1 m2 S0 S1 S2 := ⟨v5, tb5, wb5, ta5, r0, r1, r2, l0, l1, l2⟩
    all_goals have z5 := x5.size
    · refine onewB k.orp k.quo fun h6 S4 p6 r6 x6 z6 => ⟨_, rfl, x6, ⟨?_, ?_⟩⟩
      · refine enewB k.ear k.quo fun h7 S5 p7 r7 x7 z7 => ⟨_, rfl, x7, ⟨?_, ?_⟩⟩
        · refine pnewB vp fun h8 S6 p8 r8 x8 => ⟨_, rfl, newTV_in fun h9 v9 x9 s9 => ⟨x9, ?_⟩⟩
          have z8 := x8.size
          refine put_n (t := ptrs4 ⟨tr, we, ta, bk, h5.size + 1, h6.size + 1, h7.size + 1, 0⟩) v9 rfl rfl fun h10 v10 f10 z10 => ?_
          have x10 : Ext h8 h10 := Only.cut x9 f10 fun i hi => by omega
          have nb8 := ((((nb5.ext x6).ext x7).ext x8).ext x10)
          obtain ⟨r, pp, hS⟩ := p8
          have ppl := pp.var.lt
          refine fin h10 h4.size h8.size tr we ta bk (h5.size + 1) (h6.size + 1) (h7.size + 1) m1 m2 h5.size h6.size h7.size S0 S1 S2 S4 S5 S6 ((((x5.trans x6).trans x7).trans x8).trans x10) (Nat.le_refl _) v10 ?_ (by omega)
          exact ⟨⟨nb8.var, nb8.tree, nb8.wei, nb8.tab, nb8.r0, nb8.r1, nb8.r2, nb8.l0, nb8.l1, nb8.l2⟩, ((p6.ext x7).ext x8).ext x10, (p7.ext x8).ext x10, PeB.ext ⟨r, pp, hS⟩ x10, r6, r7, r8, l3, by omega, by omega⟩
        · refine newTV_in fun h8 v8 x8 s8 => ⟨x8, ?_⟩
          exact t78 h8 h4.size h7.size tr we ta bk (h5.size + 1) (h6.size + 1) m1 m2 h5.size h6.size S0 S1 S2 S4 S5 (((x5.trans x6).trans x7).trans x8) (Nat.le_refl _) (by omega) (by omega) (by omega) (by omega) v8 (((nb5.ext x6).ext x7).ext x8) ((p6.ext x7).ext x8) (p7.ext x8) r6 r7 l3 (by omega) (by omega)
      · refine newTV_in fun h7 v7 x7 s7 => ⟨x7, ?_⟩
        exact t77 h7 h4.size h6.size tr we ta bk (h5.size + 1) m1 m2 h5.size S0 S1 S2 S4 ((x5.trans x6).trans x7) (Nat.le_refl _) (by omega) (by omega) (by omega) v7 ((nb5.ext x6).ext x7) (p6.ext x7) r6 l3 (by omega)
    · refine newTV_in fun h6 v6 x6 s6 => ⟨x6, ?_⟩
      exact t76 h6 h4.size h5.size tr we ta bk m1 m2 S0 S1 S2 (x5.trans x6) (Nat.le_refl _) (by omega) (by omega) v6 (nb5.ext x6) (by omega)
  · refine newTV_in fun h5 v5 x5 s5 => ⟨x5, ?_⟩
    refine bnew_spec (e4.ext x5) k' fun h6 tr we ta bk m1 m2 S0 S1 S2 v6 tb6 wb6 ta6 x6 r0 r1 r2 l0 l1 l2 l3 => ⟨_, rfl, x6, ?_⟩
    exact t76 h6 h5.size h4.size tr we ta bk m1 m2 S0 S1 S2 (x5.trans x6) x5.size (Nat.le_refl _) (by omega) (v5.ext x6) ⟨v6, tb6, wb6, ta6, r0, r1, r2, l0, l1, l2⟩ l3

end
end Go.Proofs.Ytldocdpdjdekiaa.Gate
end

section
/- The conditions of functions, as the generator reckons them out, each with the proof that it is that. -/
namespace Go.Proofs.Ytldocdpdjdekiaa
open Go Go.Vc
set_option maxRecDepth 100000
set_option linter.unusedVariables false

def size_Parts_Within_vc (p_Nodes : Int) (p_Orphans : Int) (p_Early : Int) (p_Peers : Int) (p_Votes : Int) (p_Marks : Int) (q_Nodes : Int) (q_Orphans : Int) (q_Early : Int) (q_Peers : Int) (q_Votes : Int) (q_Marks : Int) (h : Heap) (R : Value → Heap → Prop) : Prop := Vc.Bind (newTV h (.agg [.int .i64 p_Nodes, .int .i64 p_Orphans, .int .i64 p_Early, .int .i64 p_Peers, .int .i64 p_Votes, .int .i64 p_Marks]) 29) fun h_1 ↦ Vc.Bind (newTV h_1 (.agg [.int .i64 q_Nodes, .int .i64 q_Orphans, .int .i64 q_Early, .int .i64 q_Peers, .int .i64 q_Votes, .int .i64 q_Marks]) 29) fun h_2 ↦ ∃ (n : Int), at1 h_2 h.size 0 (.int .i64 n) ∧ ∃ (n_1 : Int), at1 h_2 h_1.size 0 (.int .i64 n_1) ∧ If (decide (n ≤ n_1)) (∃ (n : Int), at1 h_2 h.size 1 (.int .i64 n) ∧ ∃ (n_2 : Int), at1 h_2 h_1.size 1 (.int .i64 n_2) ∧ If (decide (n ≤ n_2)) (∃ (n : Int), at1 h_2 h.size 2 (.int .i64 n) ∧ ∃ (n_3 : Int), at1 h_2 h_1.size 2 (.int .i64 n_3) ∧ If (decide (n ≤ n_3)) (∃ (n : Int), at1 h_2 h.size 3 (.int .i64 n) ∧ ∃ (n_4 : Int), at1 h_2 h_1.size 3 (.int .i64 n_4) ∧ If (decide (n ≤ n_4)) (∃ (n : Int), at1 h_2 h.size 4 (.int .i64 n) ∧ ∃ (n_5 : Int), at1 h_2 h_1.size 4 (.int .i64 n_5) ∧ If (decide (n ≤ n_5)) (∃ (n : Int), at1 h_2 h.size 5 (.int .i64 n) ∧ ∃ (n_6 : Int), at1 h_2 h_1.size 5 (.int .i64 n_6) ∧ R (TV.val (.bool (decide (n ≤ n_6)))) h_2) (R (TV.val (.bool false)) h_2)) (R (TV.val (.bool false)) h_2)) (R (TV.val (.bool false)) h_2)) (R (TV.val (.bool false)) h_2)) (R (TV.val (.bool false)) h_2)
theorem size_Parts_Within_calls (p_Nodes : Int) (p_Orphans : Int) (p_Early : Int) (p_Peers : Int) (p_Votes : Int) (p_Marks : Int) (q_Nodes : Int) (q_Orphans : Int) (q_Early : Int) (q_Peers : Int) (q_Votes : Int) (q_Marks : Int) (h : Heap) (R : Value → Heap → Prop) (H : size_Parts_Within_vc p_Nodes p_Orphans p_Early p_Peers p_Votes p_Marks q_Nodes q_Orphans q_Early q_Peers q_Votes q_Marks h R) : CallsH Try.prog 14 (TVs.vals [.agg [.int .i64 p_Nodes, .int .i64 p_Orphans, .int .i64 p_Early, .int .i64 p_Peers, .int .i64 p_Votes, .int .i64 p_Marks], .agg [.int .i64 q_Nodes, .int .i64 q_Orphans, .int .i64 q_Early, .int .i64 q_Peers, .int .i64 q_Votes, .int .i64 q_Marks]]) h R := via ctx_ok Try.func14 (by kernel_rfl) H

def size_Parts_Total_vc (p_Nodes : Int) (p_Orphans : Int) (p_Early : Int) (p_Peers : Int) (p_Votes : Int) (p_Marks : Int) (h : Heap) (R : Value → Heap → Prop) : Prop := Vc.Bind (newTV h (.agg [.int .i64 p_Nodes, .int .i64 p_Orphans, .int .i64 p_Early, .int .i64 p_Peers, .int .i64 p_Votes, .int .i64 p_Marks]) 29) fun h_1 ↦ ∃ (n : Int), at1 h_1 h.size 0 (.int .i64 n) ∧ ∃ (n_1 : Int), at1 h_1 h.size 1 (.int .i64 n_1) ∧ ∃ (n_2 : Int), at1 h_1 h.size 2 (.int .i64 n_2) ∧ ∃ (n_3 : Int), at1 h_1 h.size 3 (.int .i64 n_3) ∧ ∃ (n_4 : Int), at1 h_1 h.size 4 (.int .i64 n_4) ∧ ∃ (n_5 : Int), at1 h_1 h.size 5 (.int .i64 n_5) ∧ R (TV.val (.int .i64 (IntKind.wrap .i64 (IntKind.wrap .i64 (IntKind.wrap .i64 (IntKind.wrap .i64 (IntKind.wrap .i64 (96 * n) + IntKind.wrap .i64 (384 * IntKind.wrap .i64 (n_1 + n_2))) + IntKind.wrap .i64 (16 * n_3)) + IntKind.wrap .i64 (64 * n_4)) + IntKind.wrap .i64 (64 * n_5))))) h_1
theorem size_Parts_Total_calls (p_Nodes : Int) (p_Orphans : Int) (p_Early : Int) (p_Peers : Int) (p_Votes : Int) (p_Marks : Int) (h : Heap) (R : Value → Heap → Prop) (H : size_Parts_Total_vc p_Nodes p_Orphans p_Early p_Peers p_Votes p_Marks h R) : CallsH Try.prog 12 (TVs.vals [.agg [.int .i64 p_Nodes, .int .i64 p_Orphans, .int .i64 p_Early, .int .i64 p_Peers, .int .i64 p_Votes, .int .i64 p_Marks]]) h R := via ctx_ok Try.func12 (by kernel_rfl) H

def size_Most_vc (c_Validators : Sl) (c_Epoch : Int) (c_Committee : Int) (c_Nodes : Int) (c_Orphans : Int) (c_Early : Int) (c_Quota : Int) (c_Peers : Int) (c_Bytes : Int) (c_Window : Int) (c_Ban : Int) (c_Decay : Int) (h : Heap) (R : Value → Heap → Prop) : Prop := Vc.Bind (newTV h (.agg [.slice c_Validators, .int .i64 c_Epoch, .int .i64 c_Committee, .int .i64 c_Nodes, .int .i64 c_Orphans, .int .i64 c_Early, .int .i64 c_Quota, .int .i64 c_Peers, .int .i64 c_Bytes, .int .i64 c_Window, .int .i64 c_Ban, .int .i64 c_Decay]) 24) fun h_1 ↦ Vc.Bind (newTV h_1 (.agg [.int .i64 0, .int .i64 0, .int .i64 0, .int .i64 0, .int .i64 0, .int .i64 0]) 29) fun h_2 ↦ ∃ (s : Sl), ∃ (n n_1 n_2 n_3 n_4 n_5 n_6 n_7 n_8 n_9 n_10 : Int), (at1 h_2 h.size 0 (slVal s) ∧ at1 h_2 h.size 1 (.int .i64 n) ∧ at1 h_2 h.size 2 (.int .i64 n_1) ∧ at1 h_2 h.size 3 (.int .i64 n_2) ∧ at1 h_2 h.size 4 (.int .i64 n_3) ∧ at1 h_2 h.size 5 (.int .i64 n_4) ∧ at1 h_2 h.size 6 (.int .i64 n_5) ∧ at1 h_2 h.size 7 (.int .i64 n_6) ∧ at1 h_2 h.size 8 (.int .i64 n_7) ∧ at1 h_2 h.size 9 (.int .i64 n_8) ∧ at1 h_2 h.size 10 (.int .i64 n_9) ∧ at1 h_2 h.size 11 (.int .i64 n_10)) ∧ CallsH Try.prog 37 (TVs.vals [.agg [.slice s, .int .i64 n, .int .i64 n_1, .int .i64 n_2, .int .i64 n_3, .int .i64 n_4, .int .i64 n_5, .int .i64 n_6, .int .i64 n_7, .int .i64 n_8, .int .i64 n_9, .int .i64 n_10]]) h_2 fun v h_3 ↦ ∃ (b : Bool), v = TV.val (.bool b) ∧ If (!b) (wok h_3 h_1.size 0 6 ∧ Vc.Bind (TV.put h_3 h_1.size 0 (.agg [.int .i64 0, .int .i64 0, .int .i64 0, .int .i64 0, .int .i64 0, .int .i64 0])) fun h ↦ ∃ (n n_11 n_12 n_13 n_14 n_15 : Int), (at1 h h_1.size 0 (.int .i64 n) ∧ at1 h h_1.size 1 (.int .i64 n_11) ∧ at1 h h_1.size 2 (.int .i64 n_12) ∧ at1 h h_1.size 3 (.int .i64 n_13) ∧ at1 h h_1.size 4 (.int .i64 n_14) ∧ at1 h h_1.size 5 (.int .i64 n_15)) ∧ R (TV.val (.agg [.int .i64 n, .int .i64 n_11, .int .i64 n_12, .int .i64 n_13, .int .i64 n_14, .int .i64 n_15])) h) (∃ (s : Sl), at1 h_3 h.size 0 (slVal s) ∧ ∃ (n : Int), at1 h_3 h.size 3 (.int .i64 n) ∧ ∃ (n_11 : Int), at1 h_3 h.size 4 (.int .i64 n_11) ∧ ∃ (n_12 : Int), at1 h_3 h.size 5 (.int .i64 n_12) ∧ ∃ (n_13 : Int), at1 h_3 h.size 7 (.int .i64 n_13) ∧ ∃ (n_14 : Int), at1 h_3 h.size 9 (.int .i64 n_14) ∧ ∃ (n_15 : Int), at1 h_3 h.size 1 (.int .i64 n_15) ∧ n_15 ≠ 0 ∧ wok h_3 h_1.size 0 6 ∧ Vc.Bind (TV.put h_3 h_1.size 0 (.agg [.int .i64 n, .int .i64 n_11, .int .i64 n_12, .int .i64 n_13, .int .i64 (↑s.len : Int), .int .i64 (IntKind.wrap .i64 ((↑s.len : Int) * IntKind.wrap .i64 (IntKind.wrap .i64 (Int.tdiv n_14 n_15) + 2)))])) fun h ↦ ∃ (n n_16 n_17 n_18 n_19 n_20 : Int), (at1 h h_1.size 0 (.int .i64 n) ∧ at1 h h_1.size 1 (.int .i64 n_16) ∧ at1 h h_1.size 2 (.int .i64 n_17) ∧ at1 h h_1.size 3 (.int .i64 n_18) ∧ at1 h h_1.size 4 (.int .i64 n_19) ∧ at1 h h_1.size 5 (.int .i64 n_20)) ∧ R (TV.val (.agg [.int .i64 n, .int .i64 n_16, .int .i64 n_17, .int .i64 n_18, .int .i64 n_19, .int .i64 n_20])) h)
theorem size_Most_calls (c_Validators : Sl) (c_Epoch : Int) (c_Committee : Int) (c_Nodes : Int) (c_Orphans : Int) (c_Early : Int) (c_Quota : Int) (c_Peers : Int) (c_Bytes : Int) (c_Window : Int) (c_Ban : Int) (c_Decay : Int) (h : Heap) (R : Value → Heap → Prop) (H : size_Most_vc c_Validators c_Epoch c_Committee c_Nodes c_Orphans c_Early c_Quota c_Peers c_Bytes c_Window c_Ban c_Decay h R) : CallsH Try.prog 15 (TVs.vals [.agg [.slice c_Validators, .int .i64 c_Epoch, .int .i64 c_Committee, .int .i64 c_Nodes, .int .i64 c_Orphans, .int .i64 c_Early, .int .i64 c_Quota, .int .i64 c_Peers, .int .i64 c_Bytes, .int .i64 c_Window, .int .i64 c_Ban, .int .i64 c_Decay]]) h R := via ctx_ok Try.func15 (by kernel_rfl) H

def size_sum_vc (number : Vc.One) (p_Nodes : Int) (p_Orphans : Int) (p_Early : Int) (p_Peers : Int) (p_Votes : Int) (p_Marks : Int) (h : Heap) (R : Value → Heap → Prop) : Prop := Vc.Bind (newTV h (.agg [.int .i64 p_Nodes, .int .i64 p_Orphans, .int .i64 p_Early, .int .i64 p_Peers, .int .i64 p_Votes, .int .i64 p_Marks]) 29) fun h_1 ↦ ∃ (n n_1 n_2 n_3 n_4 n_5 : Int), (at1 h_1 h.size 0 (.int .i64 n) ∧ at1 h_1 h.size 1 (.int .i64 n_1) ∧ at1 h_1 h.size 2 (.int .i64 n_2) ∧ at1 h_1 h.size 3 (.int .i64 n_3) ∧ at1 h_1 h.size 4 (.int .i64 n_4) ∧ at1 h_1 h.size 5 (.int .i64 n_5)) ∧ ∃ (g : Nat), ∃ (first cap : Array Value), number.v = Value.func (Fn.func g) first cap ∧ EntP Try.prog g ∧ CallsH Try.prog g (first.toList ++ TVs.vals [.agg [.int .i64 n, .int .i64 n_1, .int .i64 n_2, .int .i64 n_3, .int .i64 n_4, .int .i64 n_5]] ++ cap.toList) h_1 fun v h ↦ ∃ (n : Int), v = TV.val (.int .i64 n) ∧ R (TV.val (.int .i64 n)) h
theorem size_sum_calls (number : Vc.One) (p_Nodes : Int) (p_Orphans : Int) (p_Early : Int) (p_Peers : Int) (p_Votes : Int) (p_Marks : Int) (h : Heap) (R : Value → Heap → Prop) (H : size_sum_vc number p_Nodes p_Orphans p_Early p_Peers p_Votes p_Marks h R) : CallsH Try.prog 75 (TVs.vals [.one number, .agg [.int .i64 p_Nodes, .int .i64 p_Orphans, .int .i64 p_Early, .int .i64 p_Peers, .int .i64 p_Votes, .int .i64 p_Marks]]) h R := via ctx_ok Try.func75 (by kernel_rfl) H

def size_Bound_vc (c_Validators : Sl) (c_Epoch : Int) (c_Committee : Int) (c_Nodes : Int) (c_Orphans : Int) (c_Early : Int) (c_Quota : Int) (c_Peers : Int) (c_Bytes : Int) (c_Window : Int) (c_Ban : Int) (c_Decay : Int) (h : Heap) (R : Value → Heap → Prop) : Prop := Vc.Bind (newTV h (.agg [.slice c_Validators, .int .i64 c_Epoch, .int .i64 c_Committee, .int .i64 c_Nodes, .int .i64 c_Orphans, .int .i64 c_Early, .int .i64 c_Quota, .int .i64 c_Peers, .int .i64 c_Bytes, .int .i64 c_Window, .int .i64 c_Ban, .int .i64 c_Decay]) 24) fun h_1 ↦ ∃ (s : Sl), ∃ (n n_1 n_2 n_3 n_4 n_5 n_6 n_7 n_8 n_9 n_10 : Int), (at1 h_1 h.size 0 (slVal s) ∧ at1 h_1 h.size 1 (.int .i64 n) ∧ at1 h_1 h.size 2 (.int .i64 n_1) ∧ at1 h_1 h.size 3 (.int .i64 n_2) ∧ at1 h_1 h.size 4 (.int .i64 n_3) ∧ at1 h_1 h.size 5 (.int .i64 n_4) ∧ at1 h_1 h.size 6 (.int .i64 n_5) ∧ at1 h_1 h.size 7 (.int .i64 n_6) ∧ at1 h_1 h.size 8 (.int .i64 n_7) ∧ at1 h_1 h.size 9 (.int .i64 n_8) ∧ at1 h_1 h.size 10 (.int .i64 n_9) ∧ at1 h_1 h.size 11 (.int .i64 n_10)) ∧ CallsH Try.prog 38 (TVs.vals [.fn (Fn.func 15) [] [], .agg [.slice s, .int .i64 n, .int .i64 n_1, .int .i64 n_2, .int .i64 n_3, .int .i64 n_4, .int .i64 n_5, .int .i64 n_6, .int .i64 n_7, .int .i64 n_8, .int .i64 n_9, .int .i64 n_10]]) h_1 fun v h ↦ ∃ (n : Int), v = TV.val (.int .i64 n) ∧ R (TV.val (.int .i64 n)) h
theorem size_Bound_calls (c_Validators : Sl) (c_Epoch : Int) (c_Committee : Int) (c_Nodes : Int) (c_Orphans : Int) (c_Early : Int) (c_Quota : Int) (c_Peers : Int) (c_Bytes : Int) (c_Window : Int) (c_Ban : Int) (c_Decay : Int) (h : Heap) (R : Value → Heap → Prop) (H : size_Bound_vc c_Validators c_Epoch c_Committee c_Nodes c_Orphans c_Early c_Quota c_Peers c_Bytes c_Window c_Ban c_Decay h R) : CallsH Try.prog 17 (TVs.vals [.agg [.slice c_Validators, .int .i64 c_Epoch, .int .i64 c_Committee, .int .i64 c_Nodes, .int .i64 c_Orphans, .int .i64 c_Early, .int .i64 c_Quota, .int .i64 c_Peers, .int .i64 c_Bytes, .int .i64 c_Window, .int .i64 c_Ban, .int .i64 c_Decay]]) h R := via ctx_ok Try.func17 (by kernel_rfl) H

def size_total_vc (of : Vc.One) (c_Validators : Sl) (c_Epoch : Int) (c_Committee : Int) (c_Nodes : Int) (c_Orphans : Int) (c_Early : Int) (c_Quota : Int) (c_Peers : Int) (c_Bytes : Int) (c_Window : Int) (c_Ban : Int) (c_Decay : Int) (h : Heap) (R : Value → Heap → Prop) : Prop := Vc.Bind (newTV h (.agg [.slice c_Validators, .int .i64 c_Epoch, .int .i64 c_Committee, .int .i64 c_Nodes, .int .i64 c_Orphans, .int .i64 c_Early, .int .i64 c_Quota, .int .i64 c_Peers, .int .i64 c_Bytes, .int .i64 c_Window, .int .i64 c_Ban, .int .i64 c_Decay]) 24) fun h_1 ↦ ∃ (s : Sl), ∃ (n n_1 n_2 n_3 n_4 n_5 n_6 n_7 n_8 n_9 n_10 : Int), (at1 h_1 h.size 0 (slVal s) ∧ at1 h_1 h.size 1 (.int .i64 n) ∧ at1 h_1 h.size 2 (.int .i64 n_1) ∧ at1 h_1 h.size 3 (.int .i64 n_2) ∧ at1 h_1 h.size 4 (.int .i64 n_3) ∧ at1 h_1 h.size 5 (.int .i64 n_4) ∧ at1 h_1 h.size 6 (.int .i64 n_5) ∧ at1 h_1 h.size 7 (.int .i64 n_6) ∧ at1 h_1 h.size 8 (.int .i64 n_7) ∧ at1 h_1 h.size 9 (.int .i64 n_8) ∧ at1 h_1 h.size 10 (.int .i64 n_9) ∧ at1 h_1 h.size 11 (.int .i64 n_10)) ∧ ∃ (g : Nat), ∃ (first cap : Array Value), of.v = Value.func (Fn.func g) first cap ∧ EntP Try.prog g ∧ CallsH Try.prog g (first.toList ++ TVs.vals [.agg [.slice s, .int .i64 n, .int .i64 n_1, .int .i64 n_2, .int .i64 n_3, .int .i64 n_4, .int .i64 n_5, .int .i64 n_6, .int .i64 n_7, .int .i64 n_8, .int .i64 n_9, .int .i64 n_10]] ++ cap.toList) h_1 fun v h ↦ ∃ (n n_11 n_12 n_13 n_14 n_15 : Int), v = TV.val (.agg [.int .i64 n, .int .i64 n_11, .int .i64 n_12, .int .i64 n_13, .int .i64 n_14, .int .i64 n_15]) ∧ CallsH Try.prog 75 (TVs.vals [.fn (Fn.func 12) [] [], .agg [.int .i64 n, .int .i64 n_11, .int .i64 n_12, .int .i64 n_13, .int .i64 n_14, .int .i64 n_15]]) h fun v h ↦ ∃ (n : Int), v = TV.val (.int .i64 n) ∧ R (TV.val (.int .i64 n)) h
theorem size_total_calls (of : Vc.One) (c_Validators : Sl) (c_Epoch : Int) (c_Committee : Int) (c_Nodes : Int) (c_Orphans : Int) (c_Early : Int) (c_Quota : Int) (c_Peers : Int) (c_Bytes : Int) (c_Window : Int) (c_Ban : Int) (c_Decay : Int) (h : Heap) (R : Value → Heap → Prop) (H : size_total_vc of c_Validators c_Epoch c_Committee c_Nodes c_Orphans c_Early c_Quota c_Peers c_Bytes c_Window c_Ban c_Decay h R) : CallsH Try.prog 38 (TVs.vals [.one of, .agg [.slice c_Validators, .int .i64 c_Epoch, .int .i64 c_Committee, .int .i64 c_Nodes, .int .i64 c_Orphans, .int .i64 c_Early, .int .i64 c_Quota, .int .i64 c_Peers, .int .i64 c_Bytes, .int .i64 c_Window, .int .i64 c_Ban, .int .i64 c_Decay]]) h R := via ctx_ok Try.func38 (by kernel_rfl) H

def gate_Gate_Book_vc (g : Option Go.Vc.Loc) (h : Heap) (R : Value → Heap → Prop) : Prop := If (Option.isNone g) (R (TV.val (.ptr none)) h) (Nn g fun l ↦ ∃ (p : Option Go.Vc.Loc), at1 h l.b (l.o + 13) (Value.pointer (Option.map Loc.addr p)) ∧ R (TV.val (.ptr p)) h)
theorem gate_Gate_Book_calls (g : Option Go.Vc.Loc) (h : Heap) (R : Value → Heap → Prop) (H : gate_Gate_Book_vc g h R) : CallsH Try.prog 39 (TVs.vals [.ptr g]) h R := via ctx_ok Try.func39 (by kernel_rfl) H

def gate_Gate_Orphans_vc (g : Option Go.Vc.Loc) (h : Heap) (R : Value → Heap → Prop) : Prop := If (Option.isNone g) (R (TV.val (.ptr none)) h) (Nn g fun l ↦ ∃ (p : Option Go.Vc.Loc), at1 h l.b (l.o + 13 + 1) (Value.pointer (Option.map Loc.addr p)) ∧ R (TV.val (.ptr p)) h)
theorem gate_Gate_Orphans_calls (g : Option Go.Vc.Loc) (h : Heap) (R : Value → Heap → Prop) (H : gate_Gate_Orphans_vc g h R) : CallsH Try.prog 42 (TVs.vals [.ptr g]) h R := via ctx_ok Try.func42 (by kernel_rfl) H

def gate_Gate_Early_vc (g : Option Go.Vc.Loc) (h : Heap) (R : Value → Heap → Prop) : Prop := If (Option.isNone g) (R (TV.val (.ptr none)) h) (Nn g fun l ↦ ∃ (p : Option Go.Vc.Loc), at1 h l.b (l.o + 13 + 2) (Value.pointer (Option.map Loc.addr p)) ∧ R (TV.val (.ptr p)) h)
theorem gate_Gate_Early_calls (g : Option Go.Vc.Loc) (h : Heap) (R : Value → Heap → Prop) (H : gate_Gate_Early_vc g h R) : CallsH Try.prog 44 (TVs.vals [.ptr g]) h R := via ctx_ok Try.func44 (by kernel_rfl) H

def gate_Gate_Peers_vc (g : Option Go.Vc.Loc) (h : Heap) (R : Value → Heap → Prop) : Prop := If (Option.isNone g) (R (TV.val (.ptr none)) h) (Nn g fun l ↦ ∃ (p : Option Go.Vc.Loc), at1 h l.b (l.o + 13 + 3) (Value.pointer (Option.map Loc.addr p)) ∧ R (TV.val (.ptr p)) h)
theorem gate_Gate_Peers_calls (g : Option Go.Vc.Loc) (h : Heap) (R : Value → Heap → Prop) (H : gate_Gate_Peers_vc g h R) : CallsH Try.prog 45 (TVs.vals [.ptr g]) h R := via ctx_ok Try.func45 (by kernel_rfl) H

def votes_Book_Tree_vc (b : Option Go.Vc.Loc) (h : Heap) (R : Value → Heap → Prop) : Prop := If (Option.isNone b) (R (TV.val (.ptr none)) h) (Nn b fun l ↦ ∃ (p : Option Go.Vc.Loc), at1 h l.b (l.o + 12) (Value.pointer (Option.map Loc.addr p)) ∧ R (TV.val (.ptr p)) h)
theorem votes_Book_Tree_calls (b : Option Go.Vc.Loc) (h : Heap) (R : Value → Heap → Prop) (H : votes_Book_Tree_vc b h R) : CallsH Try.prog 40 (TVs.vals [.ptr b]) h R := via ctx_ok Try.func40 (by kernel_rfl) H

def votes_Book_Table_vc (b : Option Go.Vc.Loc) (h : Heap) (R : Value → Heap → Prop) : Prop := If (Option.isNone b) (R (TV.val (.ptr none)) h) (Nn b fun l ↦ ∃ (p : Option Go.Vc.Loc), at1 h l.b (l.o + 14) (Value.pointer (Option.map Loc.addr p)) ∧ R (TV.val (.ptr p)) h)
theorem votes_Book_Table_calls (b : Option Go.Vc.Loc) (h : Heap) (R : Value → Heap → Prop) (H : votes_Book_Table_vc b h R) : CallsH Try.prog 47 (TVs.vals [.ptr b]) h R := via ctx_ok Try.func47 (by kernel_rfl) H

def size_Of_vc (g : Option Go.Vc.Loc) (h : Heap) (R : Value → Heap → Prop) : Prop := Vc.Bind (newTV h (.agg [.int .i64 0, .int .i64 0, .int .i64 0, .int .i64 0, .int .i64 0, .int .i64 0]) 29) fun h_1 ↦ CallsH Try.prog 39 (TVs.vals [.ptr g]) h_1 fun v h_2 ↦ ∃ (p : Option Go.Vc.Loc), v = TV.val (.ptr p) ∧ CallsH Try.prog 40 (TVs.vals [.ptr p]) h_2 fun v h_3 ↦ ∃ (p : Option Go.Vc.Loc), v = TV.val (.ptr p) ∧ CallsH Try.prog 41 (TVs.vals [.ptr p]) h_3 fun v h_4 ↦ ∃ (n : Int), v = TV.val (.int .i64 n) ∧ CallsH Try.prog 42 (TVs.vals [.ptr g]) h_4 fun v h_5 ↦ ∃ (p : Option Go.Vc.Loc), v = TV.val (.ptr p) ∧ CallsH Try.prog 43 (TVs.vals [.ptr p]) h_5 fun v h_6 ↦ ∃ (n_1 : Int), v = TV.val (.int .i64 n_1) ∧ CallsH Try.prog 44 (TVs.vals [.ptr g]) h_6 fun v h_7 ↦ ∃ (p : Option Go.Vc.Loc), v = TV.val (.ptr p) ∧ CallsH Try.prog 27 (TVs.vals [.ptr p]) h_7 fun v h_8 ↦ ∃ (n_2 : Int), v = TV.val (.int .i64 n_2) ∧ CallsH Try.prog 45 (TVs.vals [.ptr g]) h_8 fun v h_9 ↦ ∃ (p : Option Go.Vc.Loc), v = TV.val (.ptr p) ∧ CallsH Try.prog 46 (TVs.vals [.ptr p]) h_9 fun v h_10 ↦ ∃ (s : Sl), v = TV.val (.slice s) ∧ CallsH Try.prog 39 (TVs.vals [.ptr g]) h_10 fun v h_11 ↦ ∃ (p : Option Go.Vc.Loc), v = TV.val (.ptr p) ∧ CallsH Try.prog 47 (TVs.vals [.ptr p]) h_11 fun v h_12 ↦ ∃ (p : Option Go.Vc.Loc), v = TV.val (.ptr p) ∧ CallsH Try.prog 48 (TVs.vals [.ptr p]) h_12 fun v h_13 ↦ ∃ (n_3 : Int), v = TV.val (.int .i64 n_3) ∧ Vc.Bind (newTV h_13 (.agg [.int .i64 0, .int .i64 0, .int .i64 0, .int .i64 0, .int .i64 0, .int .i64 0]) 29) fun h_14 ↦ wok h_14 h_13.size 0 6 ∧ Vc.Bind (TV.put h_14 h_13.size 0 (.agg [.int .i64 n, .int .i64 n_1, .int .i64 n_2, .int .i64 (↑s.len : Int), .int .i64 0, .int .i64 n_3])) fun h_15 ↦ Go.Vc.Loop (0 : Int) h_15 fun (s : Int) (h_16 : Array Obj) (K : Int → Array Obj → Prop) ↦ If (decide (s < 64)) (CallsH Try.prog 39 (TVs.vals [.ptr g]) h_16 fun v h ↦ ∃ (p : Option Go.Vc.Loc), v = TV.val (.ptr p) ∧ CallsH Try.prog 47 (TVs.vals [.ptr p]) h fun v h ↦ ∃ (p : Option Go.Vc.Loc), v = TV.val (.ptr p) ∧ CallsH Try.prog 49 (TVs.vals [.ptr p, .int .i64 s]) h fun v h ↦ ∃ (n n_4 : Int), ∃ (b : Bs 32), ∃ (b_1 : Bool), v = TV.val (.tup [.agg [.int .i64 n, .int .i64 n_4, .bytes 32 b], .bool b_1]) ∧ Vc.Bind (newTV h (.agg [.int .i64 0, .int .i64 0, .bytes 32 (Bs.zero 32)]) 95) fun h_17 ↦ wok h_17 h.size 0 34 ∧ Vc.Bind (TV.put h_17 h.size 0 (.agg [.int .i64 n, .int .i64 n_4, .bytes 32 b])) fun h ↦ If b_1 (∃ (n : Int), at1 h h_13.size 4 (.int .i64 n) ∧ wok h h_13.size 4 1 ∧ Vc.Bind (TV.put h h_13.size 4 (.int .i64 (IntKind.wrap .i64 (n + 1)))) fun h ↦ K (IntKind.wrap .i64 (s + 1)) h) (K (IntKind.wrap .i64 (s + 1)) h)) (∃ (n n_4 n_5 n_6 n_7 n_8 : Int), (at1 h_16 h_13.size 0 (.int .i64 n) ∧ at1 h_16 h_13.size 1 (.int .i64 n_4) ∧ at1 h_16 h_13.size 2 (.int .i64 n_5) ∧ at1 h_16 h_13.size 3 (.int .i64 n_6) ∧ at1 h_16 h_13.size 4 (.int .i64 n_7) ∧ at1 h_16 h_13.size 5 (.int .i64 n_8)) ∧ wok h_16 h.size 0 6 ∧ Vc.Bind (TV.put h_16 h.size 0 (.agg [.int .i64 n, .int .i64 n_4, .int .i64 n_5, .int .i64 n_6, .int .i64 n_7, .int .i64 n_8])) fun h_17 ↦ ∃ (n n_9 n_10 n_11 n_12 n_13 : Int), (at1 h_17 h.size 0 (.int .i64 n) ∧ at1 h_17 h.size 1 (.int .i64 n_9) ∧ at1 h_17 h.size 2 (.int .i64 n_10) ∧ at1 h_17 h.size 3 (.int .i64 n_11) ∧ at1 h_17 h.size 4 (.int .i64 n_12) ∧ at1 h_17 h.size 5 (.int .i64 n_13)) ∧ R (TV.val (.agg [.int .i64 n, .int .i64 n_9, .int .i64 n_10, .int .i64 n_11, .int .i64 n_12, .int .i64 n_13])) h_17)
theorem size_Of_calls (g : Option Go.Vc.Loc) (h : Heap) (R : Value → Heap → Prop) (H : size_Of_vc g h R) : CallsH Try.prog 18 (TVs.vals [.ptr g]) h R := via ctx_ok Try.func18 (by kernel_rfl) H

end Go.Proofs.Ytldocdpdjdekiaa
end

section
/- A gate's parts, and what they come to. -/
namespace Go.Proofs.Ytldocdpdjdekiaa.Gate
open Go Go.Vc
open Board (Vd Cf vds put_n)
open Pool (It WL Mine)
open Peers (Pe)

/-- How many of each kind. -/
structure Pt where
  n : Int
  o : Int
  e : Int
  p : Int
  v : Int
  m : Int
def Pt.tv (x : Pt) : TV := .agg [.int .i64 x.n, .int .i64 x.o, .int .i64 x.e, .int .i64 x.p, .int .i64 x.v, .int .i64 x.m]
def Pt.zero : Pt := ⟨0, 0, 0, 0, 0, 0⟩
/-- What parts come to. -/
def totalI (x : Pt) : Int := 96 * x.n + 384 * (x.o + x.e) + 16 * x.p + 64 * x.v + 64 * x.m
def totalF (x : Pt) : Int := IntKind.wrap .i64 (totalI x)
def withinF (x y : Pt) : Bool := decide (x.n ≤ y.n) && (decide (x.o ≤ y.o) && (decide (x.e ≤ y.e) && (decide (x.p ≤ y.p) && (decide (x.v ≤ y.v) && decide (x.m ≤ y.m)))))
def mostF (c : Cf) (V : List Vd) : Pt := if goodC c V = true then ⟨c.no, c.orp, c.ear, c.pe, V.length, V.length * (c.win / c.ep + 2)⟩ else Pt.zero

theorem wrap_i64_mod (n : Int) : IntKind.wrap .i64 n = (n + 9223372036854775808) % 18446744073709551616 - 9223372036854775808 := by
  unfold IntKind.wrap
  simp only [IntKind.signed, IntKind.bits, Bool.true_and]
  split
  · rename_i h1
    have h1 := of_decide_eq_true h1
    have e1 : (2 : Int) ^ 64 = 18446744073709551616 := by decide
    have e2 : (2 : Int) ^ (64 - 1) = 9223372036854775808 := by decide
    rw [e1, e2] at h1
    rw [e1]
    omega
  · rename_i h1
    have h1 : ¬ _ := fun h => h1 (decide_eq_true h)
    have e1 : (2 : Int) ^ 64 = 18446744073709551616 := by decide
    have e2 : (2 : Int) ^ (64 - 1) = 9223372036854775808 := by decide
    rw [e1, e2] at h1
    rw [e1]
    omega

section
variable {R : Value → Heap → Prop} {h h' : Heap} {g : Nat} {a : Ad} {c : Cf} {V : List Vd} {s : St} {Fp : Nat → Nat → Prop} {x y : Pt}

theorem within_spec (hr : ∀ h', Ext h h' → R (TV.bool (withinF x y)).val h') : CallsH Try.prog F.size_Parts_Within (TVs.vals [x.tv, y.tv]) h R := by
  apply size_Parts_Within_calls x.n x.o x.e x.p x.v x.m y.n y.o y.e y.p y.v y.m
  unfold size_Parts_Within_vc
  refine newTV_in fun h1 v1 x1 s1 => newTV_in fun h2 v2 x2 s2 => ?_
  have v1 : Var T.size_Parts h2 h.size x.tv := v1.ext x2
  have v2 : Var T.size_Parts h2 h1.size y.tv := v2
  have hr2 := hr h2 (x1.trans x2)
  unfold withinF at hr2
  have step : ∀ {A : Prop} [Decidable A] {B : Bool} {K : Prop}, R (TV.bool (decide A && B)).val h2 → (R (TV.bool B).val h2 → K) → If (decide A) K (R (TV.bool false).val h2) := fun {A} _ {B} {K} hr hk => by
    refine If.dec.2 ⟨fun h => hk ?_, fun h => ?_⟩
    · rw [decide_eq_true h, Bool.true_and] at hr; exact hr
    · rw [decide_eq_false h, Bool.false_and] at hr; exact hr
  exact ⟨_, v1.at1 rfl, _, v2.at1 rfl, step hr2 fun hr3 => ⟨_, v1.at1 rfl, _, v2.at1 rfl, step hr3 fun hr4 => ⟨_, v1.at1 rfl, _, v2.at1 rfl, step hr4 fun hr5 => ⟨_, v1.at1 rfl, _, v2.at1 rfl, step hr5 fun hr6 => ⟨_, v1.at1 rfl, _, v2.at1 rfl, step hr6 fun hr7 => ⟨_, v1.at1 rfl, _, v2.at1 rfl, hr7⟩⟩⟩⟩⟩⟩

theorem total_spec (hr : ∀ h', Ext h h' → R (TV.int .i64 (totalF x)).val h') : CallsH Try.prog F.size_Parts_Total (TVs.vals [x.tv]) h R := by
  apply size_Parts_Total_calls x.n x.o x.e x.p x.v x.m
  unfold size_Parts_Total_vc
  refine newTV_in fun h1 v1 x1 s1 => ?_
  have v1 : Var T.size_Parts h1 h.size x.tv := v1
  refine ⟨_, v1.at1 rfl, _, v1.at1 rfl, _, v1.at1 rfl, _, v1.at1 rfl, _, v1.at1 rfl, _, v1.at1 rfl, ?_⟩
  have e : IntKind.wrap .i64 (IntKind.wrap .i64 (IntKind.wrap .i64 (IntKind.wrap .i64 (IntKind.wrap .i64 (96 * x.n) + IntKind.wrap .i64 (384 * IntKind.wrap .i64 (x.o + x.e))) + IntKind.wrap .i64 (16 * x.p)) + IntKind.wrap .i64 (64 * x.v)) + IntKind.wrap .i64 (64 * x.m)) = totalF x := by
    unfold totalF totalI
    simp only [wrap_i64_mod]
    omega
  rw [e]
  exact hr h1 x1

theorem most_spec (e : Elems 2 h c.vals (vds V)) (hl : c.vals.len < 100000) (hr : ∀ h', Ext h h' → R (mostF c V).tv.val h') : CallsH Try.prog F.size_Most (TVs.vals [c.tv]) h R := by
  apply size_Most_calls c.vals c.ep c.com c.no c.orp c.ear c.quo c.pe c.by_ c.win c.ban c.dec
  unfold size_Most_vc
  have el : V.length = c.vals.len := by have := e.len; rwa [List.length_map] at this
  refine newTV_in fun h1 v1 x1 s1 => newTV_in fun h2 v2 x2 s2 => ?_
  have v1 : Var 24 h2 h.size c.tv := v1.ext x2
  have x02 := x1.trans x2
  refine ⟨c.vals, c.ep, c.com, c.no, c.orp, c.ear, c.quo, c.pe, c.by_, c.win, c.ban, c.dec, v1.at, ?_⟩
  refine ggood_spec (e.ext x02) hl fun h3 x3 => ⟨_, rfl, ?_⟩
  have v13 : Var 24 h3 h.size c.tv := v1.ext x3
  have z1 := x1.size
  have fin : ∀ (y : Pt) (h4 : Heap), y = mostF c V → Var T.size_Parts h4 h1.size y.tv → Only (· = h1.size) h3 h4 → R y.tv.val h4 := fun y h4 he v4 f4 => by
    rw [he]
    exact hr h4 (Only.cut (x02.trans x3) f4 fun i hi => by omega)
  refine If.split (fun hb => ?_) fun hb => ?_
  · have hb : goodC c V = false := by simpa using hb
    refine put_n (t := Pt.zero.tv) (v2.ext x3) rfl rfl fun h4 v4 f4 z4 => ⟨_, _, _, _, _, _, v4.at, fin Pt.zero h4 ?_ v4 f4⟩
    unfold mostF
    rw [hb]
    rfl
  · have hb : goodC c V = true := by simpa using hb
    have k := good_can.1 hb
    have k1 := k.len
    have k2 := k.ep
    have k3 := k.win
    have hd : Int.tdiv c.win c.ep = c.win / c.ep := Int.tdiv_eq_ediv_of_nonneg (by omega)
    have hd1 : 0 ≤ c.win / c.ep := Int.ediv_nonneg (by omega) (by omega)
    have hd2 : c.win / c.ep ≤ 64 := by
      have := Int.ediv_le_self c.ep (show 0 ≤ c.win by omega)
      omega
    have hm : (V.length : Int) * (c.win / c.ep + 2) ≤ 64 * 66 := Int.mul_le_mul (by omega) (by omega) (by omega) (by omega)
    have hm0 : 0 ≤ (V.length : Int) * (c.win / c.ep + 2) := Int.mul_nonneg (by omega) (by omega)
    refine ⟨c.vals, v13.at1 rfl, _, v13.at1 rfl, _, v13.at1 rfl, _, v13.at1 rfl, _, v13.at1 rfl, _, v13.at1 rfl, c.ep, v13.at1 rfl, by omega, ?_⟩
    rw [hd, ← el, wrap_i64 (n := c.win / c.ep) (by omega) (by omega), wrap_i64 (n := c.win / c.ep + 2) (by omega) (by omega), wrap_i64 (n := (V.length : Int) * (c.win / c.ep + 2)) (by omega) (by omega)]
    refine put_n (t := (Pt.mk c.no c.orp c.ear c.pe V.length (V.length * (c.win / c.ep + 2))).tv) (v2.ext x3) rfl rfl fun h4 v4 f4 z4 => ⟨_, _, _, _, _, _, v4.at, fin _ h4 ?_ v4 f4⟩
    unfold mostF
    rw [if_pos hb]

theorem sum_spec (hr : ∀ h', Ext h h' → R (TV.int .i64 (totalF x)).val h') : CallsH Try.prog F.size_sum (TVs.vals [.fn (.func F.size_Parts_Total) [] [], x.tv]) h R := by
  apply size_sum_calls ⟨.func (.func F.size_Parts_Total) #[] #[], by rfl⟩ x.n x.o x.e x.p x.v x.m
  unfold size_sum_vc
  refine newTV_in fun h1 v1 x1 s1 => ?_
  have v1 : Var T.size_Parts h1 h.size x.tv := v1
  exact ⟨_, _, _, _, _, _, v1.at, F.size_Parts_Total, #[], #[], rfl, ctx_ok.entP (by kernel_rfl), total_spec (x := x) fun h2 x2 => ⟨_, rfl, hr h2 (x1.trans x2)⟩⟩

theorem bound_spec (e : Elems 2 h c.vals (vds V)) (hl : c.vals.len < 100000) (hr : ∀ h', Ext h h' → R (TV.int .i64 (totalF (mostF c V))).val h') : CallsH Try.prog F.size_Bound (TVs.vals [c.tv]) h R := by
  apply size_Bound_calls c.vals c.ep c.com c.no c.orp c.ear c.quo c.pe c.by_ c.win c.ban c.dec
  unfold size_Bound_vc
  refine newTV_in fun h1 v1 x1 s1 => ?_
  refine ⟨c.vals, c.ep, c.com, c.no, c.orp, c.ear, c.quo, c.pe, c.by_, c.win, c.ban, c.dec, v1.at, ?_⟩
  apply size_total_calls ⟨.func (.func F.size_Most) #[] #[], by rfl⟩ c.vals c.ep c.com c.no c.orp c.ear c.quo c.pe c.by_ c.win c.ban c.dec
  unfold size_total_vc
  refine newTV_in fun h2 v2 x2 s2 => ?_
  refine ⟨c.vals, c.ep, c.com, c.no, c.orp, c.ear, c.quo, c.pe, c.by_, c.win, c.ban, c.dec, v2.at, F.size_Most, #[], #[], rfl, ctx_ok.entP (by kernel_rfl), most_spec (c := c) (V := V) (e.ext (x1.trans x2)) hl fun h3 x3 => ?_⟩
  exact ⟨_, _, _, _, _, _, rfl, sum_spec (x := mostF c V) fun h4 x4 => ⟨_, rfl, _, rfl, hr h4 (((x1.trans x2).trans x3).trans x4)⟩⟩

/-- How many validators have a latest vote. -/
def votesN (t : Tb) (n : Nat) : Int := (((List.range n).filter fun (i : Nat) => (latestOf t (i : Int)).isSome).length : Int)
def partsS (s : St) : Pt := ⟨s.N.length, s.kids.length, s.wait.length, s.sc.length, votesN s.tb 64, s.tb.first.length⟩

theorem votesN_succ (t : Tb) (n : Nat) : votesN t (n + 1) = if (latestOf t (n : Int)).isSome = true then votesN t n + 1 else votesN t n := by
  unfold votesN
  rw [List.range_succ, List.filter_append, List.length_append]
  by_cases hc : (latestOf t (n : Int)).isSome = true
  · simp [hc]
  · simp [hc]

theorem votesN_le (t : Tb) (n : Nat) : 0 ≤ votesN t n ∧ votesN t n ≤ n := by
  unfold votesN
  have := List.length_filter_le (fun i : Nat => (latestOf t (i : Int)).isSome) (List.range n)
  rw [List.length_range] at this
  omega

theorem voteR_some (t : Tb) (i : Int) : (voteR t i).2 = (latestOf t i).isSome := by
  unfold voteR
  cases latestOf t i <;> rfl

theorem GateB.book (p : GateB h g a c V s Fp) {K : Value → Heap → Prop} (hk : K (TV.ptr (some ⟨a.bk, 0⟩)).val h) : CallsH Try.prog F.gate_Gate_Book (TVs.vals [.ptr (some ⟨g, 0⟩)]) h K := by
  apply gate_Gate_Book_calls
  unfold gate_Gate_Book_vc
  exact If.no ⟨_, p.var.at1 rfl, hk⟩
theorem GateB.orph (p : GateB h g a c V s Fp) {K : Value → Heap → Prop} (hk : K (TV.ptr (some ⟨a.kd, 0⟩)).val h) : CallsH Try.prog F.gate_Gate_Orphans (TVs.vals [.ptr (some ⟨g, 0⟩)]) h K := by
  apply gate_Gate_Orphans_calls
  unfold gate_Gate_Orphans_vc
  exact If.no ⟨_, p.var.at1 rfl, hk⟩
theorem GateB.early (p : GateB h g a c V s Fp) {K : Value → Heap → Prop} (hk : K (TV.ptr (some ⟨a.wt, 0⟩)).val h) : CallsH Try.prog F.gate_Gate_Early (TVs.vals [.ptr (some ⟨g, 0⟩)]) h K := by
  apply gate_Gate_Early_calls
  unfold gate_Gate_Early_vc
  exact If.no ⟨_, p.var.at1 rfl, hk⟩
theorem GateB.peers (p : GateB h g a c V s Fp) {K : Value → Heap → Prop} (hk : K (TV.ptr (some ⟨a.wh, 0⟩)).val h) : CallsH Try.prog F.gate_Gate_Peers (TVs.vals [.ptr (some ⟨g, 0⟩)]) h K := by
  apply gate_Gate_Peers_calls
  unfold gate_Gate_Peers_vc
  exact If.no ⟨_, p.var.at1 rfl, hk⟩
theorem GateB.btree (p : GateB h g a c V s Fp) {K : Value → Heap → Prop} (hk : K (TV.ptr (some ⟨a.tr, 0⟩)).val h) : CallsH Try.prog F.votes_Book_Tree (TVs.vals [.ptr (some ⟨a.bk, 0⟩)]) h K := by
  apply votes_Book_Tree_calls
  unfold votes_Book_Tree_vc
  exact If.no ⟨_, p.bk.at1 rfl, hk⟩
theorem GateB.btab (p : GateB h g a c V s Fp) {K : Value → Heap → Prop} (hk : K (TV.ptr (some ⟨a.ta, 0⟩)).val h) : CallsH Try.prog F.votes_Book_Table (TVs.vals [.ptr (some ⟨a.bk, 0⟩)]) h K := by
  apply votes_Book_Table_calls
  unfold votes_Book_Table_vc
  exact If.no ⟨_, p.bk.at1 rfl, hk⟩

set_option maxRecDepth 100000 in
theorem sizeof_spec (p : GateB h g a c V s Fp) (hr : ∀ h', Ext h h' → R (partsS s).tv.val h') : CallsH Try.prog F.size_Of (TVs.vals [.ptr (some ⟨g, 0⟩)]) h R := by
  apply size_Of_calls
  unfold size_Of_vc
  refine newTV_in fun h1 v1 x1 s1 => ?_
  have p1 := p.ext x1
  obtain ⟨r, A, tp, hS⟩ := p1.tree
  obtain ⟨kb, kA, kp, hK⟩ := p1.kids
  obtain ⟨wb, wA, wp, hW⟩ := p1.wait
  obtain ⟨pr, pp, hP⟩ := p1.who
  obtain ⟨tr, La, Ou, ps, tab, hT⟩ := p1.tab
  refine p1.book ⟨_, rfl, p1.btree ⟨_, rfl, Len_spec tp ⟨_, rfl, p1.orph ⟨_, rfl, Pool.olen_spec kp ⟨_, rfl, p1.early ⟨_, rfl, Pool.elen_spec wp ⟨_, rfl, p1.peers ⟨_, rfl, ?_⟩⟩⟩⟩⟩⟩⟩⟩
  refine Peers.Known_spec pp fun h2 sl x2 o2 _ => ⟨_, rfl, ?_⟩
  have ol := o2.len
  rw [List.length_map, Peers.srt_length] at ol
  have p2 := p1.ext x2
  refine p2.book ⟨_, rfl, p2.btab ⟨_, rfl, Marks_spec (tab.ext x2) ⟨_, rfl, ?_⟩⟩⟩
  refine newTV_in fun h3 v3 x3 s3 => put_n (t := (Pt.mk s.N.length s.kids.length s.wait.length sl.len 0 s.tb.first.length).tv) v3 rfl rfl fun h4 v4 f4 s4 => ?_
  have x24 : Ext h2 h4 := Only.cut x3 f4 fun i hi => by omega
  have z2 := x2.size
  have v14 : Var T.size_Parts h4 h.size Pt.zero.tv := (v1.ext x2).ext x24
  refine ⟨fun i hh => 0 ≤ i ∧ i ≤ 64 ∧ Var T.size_Parts hh h2.size (Pt.mk s.N.length s.kids.length s.wait.length sl.len (votesN s.tb i.toNat) s.tb.first.length).tv ∧ Ext h2 hh, fun i _ => (64 - i).toNat, ⟨Int.le_refl 0, by decide, v4, x24⟩, ?_⟩
  rintro i h5 ⟨i0, i1, v5, x5⟩
  refine If.dec.2 ⟨fun hi => ?_, fun hi => ?_⟩
  · have p5 := p2.ext x5
    refine p5.book ⟨_, rfl, p5.btab ⟨_, rfl, Vote_spec ((tab.ext x2).ext x5) fun h6 x6 => ⟨_, _, _, _, rfl, ?_⟩⟩⟩
    refine newTV_in fun h7 v7 x7 s7 => put_n (t := (voteR s.tb i).1.tv) v7 rfl rfl fun h8 v8 f8 s8 => ?_
    have x68 : Ext h6 h8 := Only.cut x7 f8 fun i hi => by omega
    have x58 := x6.trans x68
    have v58 := v5.ext x58
    have nn := votesN_le s.tb i.toNat
    have ns := votesN_succ s.tb i.toNat
    rw [show ((i.toNat : Nat) : Int) = i by omega, ← voteR_some] at ns
    rw [wrap_i64 (n := i + 1) (by omega) (by omega)]
    refine If.split (fun hb => ?_) fun hb => ?_
    · rw [if_pos hb] at ns
      refine ⟨_, v58.at1 rfl, ?_⟩
      rw [wrap_i64 (n := votesN s.tb i.toNat + 1) (by omega) (by omega)]
      refine field_in (i := 4) (t := .int .i64 (votesN s.tb i.toNat + 1)) (t0 := .int .i64 (votesN s.tb i.toNat)) v58 rfl rfl rfl rfl fun h9 v9 f9 s9 => ?_
      refine ⟨⟨by omega, by omega, ?_, Only.cut (x5.trans x58) f9 fun i hi => Nat.le_of_eq (Eq.symm hi)⟩, by first | omega | (dsimp only; omega)⟩
      rw [show (i + 1).toNat = i.toNat + 1 by omega, ns]
      exact v9
    · rw [if_neg (by rw [hb]; decide)] at ns
      refine ⟨⟨by omega, by omega, ?_, x5.trans x58⟩, by first | omega | (dsimp only; omega)⟩
      rw [show (i + 1).toNat = i.toNat + 1 by omega, ns]
      exact v58
  · have h64 : i.toNat = 64 := by omega
    rw [h64] at v5
    have he : (Pt.mk s.N.length s.kids.length s.wait.length sl.len (votesN s.tb 64) s.tb.first.length) = partsS s := by unfold partsS; rw [← ol]
    rw [he] at v5
    generalize partsS s = y at v5 hr
    refine ⟨y.n, y.o, y.e, y.p, y.v, y.m, v5.at, ?_⟩
    refine put_n (t := y.tv) ((v1.ext x2).ext x5) rfl rfl fun h6 v6 f6 s6 => ⟨y.n, y.o, y.e, y.p, y.v, y.m, v6.at, ?_⟩
    exact hr h6 (Only.cut ((x1.trans x2).trans x5) f6 fun i hi => Nat.le_of_eq (Eq.symm hi))

end
end Go.Proofs.Ytldocdpdjdekiaa.Gate
end

section
/- The conditions of functions, as the generator reckons them out, each with the proof that it is that. -/
namespace Go.Proofs.Ytldocdpdjdekiaa
open Go Go.Vc
set_option maxRecDepth 100000
set_option linter.unusedVariables false

def tollerlaw22_alive_vc (h : Heap) (R : Value → Heap → Prop) : Prop := Vc.Bind (newTV (Array.push h (row (TVs.cells [.agg [.int .i64 5, .str (ByteArray.mk #[(107 : UInt8)]).data.toList]]) 78)) (.agg [.slice Sl.nil, .int .i64 0, .int .i64 0, .int .i64 0, .int .i64 0, .int .i64 0, .int .i64 0, .int .i64 0, .int .i64 0, .int .i64 0, .int .i64 0, .int .i64 0]) 24) fun h_1 ↦ wok h_1 (Array.size (Array.push h (row (TVs.cells [.agg [.int .i64 5, .str (ByteArray.mk #[(107 : UInt8)]).data.toList]]) 78))) 0 12 ∧ Vc.Bind (TV.put h_1 (Array.size (Array.push h (row (TVs.cells [.agg [.int .i64 5, .str (ByteArray.mk #[(107 : UInt8)]).data.toList]]) 78))) 0 (.agg [.slice (Sl.mk (some (Loc.mk h.size 0)) 1 1), .int .i64 4, .int .i64 1, .int .i64 9, .int .i64 1, .int .i64 1, .int .i64 1, .int .i64 1, .int .i64 99, .int .i64 9, .int .i64 9, .int .i64 1])) fun h_2 ↦ ∃ (s : Sl), ∃ (n n_1 n_2 n_3 n_4 n_5 n_6 n_7 n_8 n_9 n_10 : Int), (at1 h_2 (Array.size (Array.push h (row (TVs.cells [.agg [.int .i64 5, .str (ByteArray.mk #[(107 : UInt8)]).data.toList]]) 78))) 0 (slVal s) ∧ at1 h_2 (Array.size (Array.push h (row (TVs.cells [.agg [.int .i64 5, .str (ByteArray.mk #[(107 : UInt8)]).data.toList]]) 78))) 1 (.int .i64 n) ∧ at1 h_2 (Array.size (Array.push h (row (TVs.cells [.agg [.int .i64 5, .str (ByteArray.mk #[(107 : UInt8)]).data.toList]]) 78))) 2 (.int .i64 n_1) ∧ at1 h_2 (Array.size (Array.push h (row (TVs.cells [.agg [.int .i64 5, .str (ByteArray.mk #[(107 : UInt8)]).data.toList]]) 78))) 3 (.int .i64 n_2) ∧ at1 h_2 (Array.size (Array.push h (row (TVs.cells [.agg [.int .i64 5, .str (ByteArray.mk #[(107 : UInt8)]).data.toList]]) 78))) 4 (.int .i64 n_3) ∧ at1 h_2 (Array.size (Array.push h (row (TVs.cells [.agg [.int .i64 5, .str (ByteArray.mk #[(107 : UInt8)]).data.toList]]) 78))) 5 (.int .i64 n_4) ∧ at1 h_2 (Array.size (Array.push h (row (TVs.cells [.agg [.int .i64 5, .str (ByteArray.mk #[(107 : UInt8)]).data.toList]]) 78))) 6 (.int .i64 n_5) ∧ at1 h_2 (Array.size (Array.push h (row (TVs.cells [.agg [.int .i64 5, .str (ByteArray.mk #[(107 : UInt8)]).data.toList]]) 78))) 7 (.int .i64 n_6) ∧ at1 h_2 (Array.size (Array.push h (row (TVs.cells [.agg [.int .i64 5, .str (ByteArray.mk #[(107 : UInt8)]).data.toList]]) 78))) 8 (.int .i64 n_7) ∧ at1 h_2 (Array.size (Array.push h (row (TVs.cells [.agg [.int .i64 5, .str (ByteArray.mk #[(107 : UInt8)]).data.toList]]) 78))) 9 (.int .i64 n_8) ∧ at1 h_2 (Array.size (Array.push h (row (TVs.cells [.agg [.int .i64 5, .str (ByteArray.mk #[(107 : UInt8)]).data.toList]]) 78))) 10 (.int .i64 n_9) ∧ at1 h_2 (Array.size (Array.push h (row (TVs.cells [.agg [.int .i64 5, .str (ByteArray.mk #[(107 : UInt8)]).data.toList]]) 78))) 11 (.int .i64 n_10)) ∧ CallsH Try.prog 36 (TVs.vals [.agg [.slice s, .int .i64 n, .int .i64 n_1, .int .i64 n_2, .int .i64 n_3, .int .i64 n_4, .int .i64 n_5, .int .i64 n_6, .int .i64 n_7, .int .i64 n_8, .int .i64 n_9, .int .i64 n_10]]) h_2 fun v h_3 ↦ ∃ (p : Option Go.Vc.Loc), ∃ (n : Int), v = TV.val (.tup [.ptr p, .int .i64 n]) ∧ If (decide (n = 0)) (CallsH Try.prog 18 (TVs.vals [.ptr p]) h_3 fun v h_4 ↦ ∃ (n n_11 n_12 n_13 n_14 n_15 : Int), v = TV.val (.agg [.int .i64 n, .int .i64 n_11, .int .i64 n_12, .int .i64 n_13, .int .i64 n_14, .int .i64 n_15]) ∧ If (decide (n = 1) && (decide (n_11 = 0) && (decide (n_12 = 0) && (decide (n_13 = 0) && (decide (n_14 = 0) && (decide (n_15 = 0) && true)))))) (∃ (s : Sl), ∃ (n n_16 n_17 n_18 n_19 n_20 n_21 n_22 n_23 n_24 n_25 : Int), (at1 h_4 (Array.size (Array.push h (row (TVs.cells [.agg [.int .i64 5, .str (ByteArray.mk #[(107 : UInt8)]).data.toList]]) 78))) 0 (slVal s) ∧ at1 h_4 (Array.size (Array.push h (row (TVs.cells [.agg [.int .i64 5, .str (ByteArray.mk #[(107 : UInt8)]).data.toList]]) 78))) 1 (.int .i64 n) ∧ at1 h_4 (Array.size (Array.push h (row (TVs.cells [.agg [.int .i64 5, .str (ByteArray.mk #[(107 : UInt8)]).data.toList]]) 78))) 2 (.int .i64 n_16) ∧ at1 h_4 (Array.size (Array.push h (row (TVs.cells [.agg [.int .i64 5, .str (ByteArray.mk #[(107 : UInt8)]).data.toList]]) 78))) 3 (.int .i64 n_17) ∧ at1 h_4 (Array.size (Array.push h (row (TVs.cells [.agg [.int .i64 5, .str (ByteArray.mk #[(107 : UInt8)]).data.toList]]) 78))) 4 (.int .i64 n_18) ∧ at1 h_4 (Array.size (Array.push h (row (TVs.cells [.agg [.int .i64 5, .str (ByteArray.mk #[(107 : UInt8)]).data.toList]]) 78))) 5 (.int .i64 n_19) ∧ at1 h_4 (Array.size (Array.push h (row (TVs.cells [.agg [.int .i64 5, .str (ByteArray.mk #[(107 : UInt8)]).data.toList]]) 78))) 6 (.int .i64 n_20) ∧ at1 h_4 (Array.size (Array.push h (row (TVs.cells [.agg [.int .i64 5, .str (ByteArray.mk #[(107 : UInt8)]).data.toList]]) 78))) 7 (.int .i64 n_21) ∧ at1 h_4 (Array.size (Array.push h (row (TVs.cells [.agg [.int .i64 5, .str (ByteArray.mk #[(107 : UInt8)]).data.toList]]) 78))) 8 (.int .i64 n_22) ∧ at1 h_4 (Array.size (Array.push h (row (TVs.cells [.agg [.int .i64 5, .str (ByteArray.mk #[(107 : UInt8)]).data.toList]]) 78))) 9 (.int .i64 n_23) ∧ at1 h_4 (Array.size (Array.push h (row (TVs.cells [.agg [.int .i64 5, .str (ByteArray.mk #[(107 : UInt8)]).data.toList]]) 78))) 10 (.int .i64 n_24) ∧ at1 h_4 (Array.size (Array.push h (row (TVs.cells [.agg [.int .i64 5, .str (ByteArray.mk #[(107 : UInt8)]).data.toList]]) 78))) 11 (.int .i64 n_25)) ∧ CallsH Try.prog 15 (TVs.vals [.agg [.slice s, .int .i64 n, .int .i64 n_16, .int .i64 n_17, .int .i64 n_18, .int .i64 n_19, .int .i64 n_20, .int .i64 n_21, .int .i64 n_22, .int .i64 n_23, .int .i64 n_24, .int .i64 n_25]]) h_4 fun v h_5 ↦ ∃ (n n_26 n_27 n_28 n_29 n_30 : Int), v = TV.val (.agg [.int .i64 n, .int .i64 n_26, .int .i64 n_27, .int .i64 n_28, .int .i64 n_29, .int .i64 n_30]) ∧ If (decide (n_30 = 4)) (∃ (s : Sl), ∃ (n n_31 n_32 n_33 n_34 n_35 n_36 n_37 n_38 n_39 n_40 : Int), (at1 h_5 (Array.size (Array.push h (row (TVs.cells [.agg [.int .i64 5, .str (ByteArray.mk #[(107 : UInt8)]).data.toList]]) 78))) 0 (slVal s) ∧ at1 h_5 (Array.size (Array.push h (row (TVs.cells [.agg [.int .i64 5, .str (ByteArray.mk #[(107 : UInt8)]).data.toList]]) 78))) 1 (.int .i64 n) ∧ at1 h_5 (Array.size (Array.push h (row (TVs.cells [.agg [.int .i64 5, .str (ByteArray.mk #[(107 : UInt8)]).data.toList]]) 78))) 2 (.int .i64 n_31) ∧ at1 h_5 (Array.size (Array.push h (row (TVs.cells [.agg [.int .i64 5, .str (ByteArray.mk #[(107 : UInt8)]).data.toList]]) 78))) 3 (.int .i64 n_32) ∧ at1 h_5 (Array.size (Array.push h (row (TVs.cells [.agg [.int .i64 5, .str (ByteArray.mk #[(107 : UInt8)]).data.toList]]) 78))) 4 (.int .i64 n_33) ∧ at1 h_5 (Array.size (Array.push h (row (TVs.cells [.agg [.int .i64 5, .str (ByteArray.mk #[(107 : UInt8)]).data.toList]]) 78))) 5 (.int .i64 n_34) ∧ at1 h_5 (Array.size (Array.push h (row (TVs.cells [.agg [.int .i64 5, .str (ByteArray.mk #[(107 : UInt8)]).data.toList]]) 78))) 6 (.int .i64 n_35) ∧ at1 h_5 (Array.size (Array.push h (row (TVs.cells [.agg [.int .i64 5, .str (ByteArray.mk #[(107 : UInt8)]).data.toList]]) 78))) 7 (.int .i64 n_36) ∧ at1 h_5 (Array.size (Array.push h (row (TVs.cells [.agg [.int .i64 5, .str (ByteArray.mk #[(107 : UInt8)]).data.toList]]) 78))) 8 (.int .i64 n_37) ∧ at1 h_5 (Array.size (Array.push h (row (TVs.cells [.agg [.int .i64 5, .str (ByteArray.mk #[(107 : UInt8)]).data.toList]]) 78))) 9 (.int .i64 n_38) ∧ at1 h_5 (Array.size (Array.push h (row (TVs.cells [.agg [.int .i64 5, .str (ByteArray.mk #[(107 : UInt8)]).data.toList]]) 78))) 10 (.int .i64 n_39) ∧ at1 h_5 (Array.size (Array.push h (row (TVs.cells [.agg [.int .i64 5, .str (ByteArray.mk #[(107 : UInt8)]).data.toList]]) 78))) 11 (.int .i64 n_40)) ∧ CallsH Try.prog 17 (TVs.vals [.agg [.slice s, .int .i64 n, .int .i64 n_31, .int .i64 n_32, .int .i64 n_33, .int .i64 n_34, .int .i64 n_35, .int .i64 n_36, .int .i64 n_37, .int .i64 n_38, .int .i64 n_39, .int .i64 n_40]]) h_5 fun v h ↦ ∃ (n : Int), v = TV.val (.int .i64 n) ∧ R (TV.val (.bool (decide (n = 1968)))) h) (R (TV.val (.bool false)) h_5)) (R (TV.val (.bool false)) h_4)) (R (TV.val (.bool false)) h_3)
theorem tollerlaw22_alive_calls (h : Heap) (R : Value → Heap → Prop) (H : tollerlaw22_alive_vc h R) : CallsH Try.prog 9 (TVs.vals []) h R := via ctx_ok Try.func9 (by kernel_rfl) H

end Go.Proofs.Ytldocdpdjdekiaa
end

section
/- A new gate of one configuration. -/
namespace Go.Proofs.Ytldocdpdjdekiaa.Gate
open Go Go.Vc
open Board (Vd Cf vds put_n)

def V0 : List Vd := [⟨5, (ByteArray.mk #[(107 : UInt8)]).data.toList⟩]
def c0 (s : Sl) : Cf := ⟨s, 4, 1, 9, 1, 1, 1, 1, 99, 9, 9, 1⟩
theorem good0 (s : Sl) : goodC (c0 s) V0 = true := by rfl
theorem most0 (s : Sl) : mostF (c0 s) V0 = ⟨9, 1, 1, 1, 1, 4⟩ := by
  unfold mostF
  rw [if_pos (good0 s)]
  rfl
theorem parts0 (c : Cf) : partsS (newSt c V0) = ⟨1, 0, 0, 0, 0, 0⟩ := by
  have : votesN (newTb 1 c.ep) 64 = 0 := by rfl
  unfold partsS newSt
  show Pt.mk _ _ _ _ (votesN (newTb 1 c.ep) 64) _ = _
  rw [this]
  rfl

set_option maxRecDepth 100000 in
theorem alive_spec {R : Value → Heap → Prop} {h : Heap} (hr : ∀ h', Ext h h' → R (TV.bool true).val h') : CallsH Try.prog F.tollerlaw22_alive (TVs.vals []) h R := by
  apply tollerlaw22_alive_calls
  unfold tollerlaw22_alive_vc
  have on := Own.new (T := 78) (sz := 2) h (vds V0) (fun t ht => by
    obtain ⟨x, _, rfl⟩ := List.mem_map.1 ht
    rfl)
  have hc : TVs.cells [TV.agg [TV.int IntKind.i64 5, TV.str (ByteArray.mk #[(107 : UInt8)]).data.toList]] = TVs.cells (vds V0) := rfl
  rw [hc]
  have x0 := Ext.push h (row (TVs.cells (vds V0)) 78)
  have s0 : (h.push (row (TVs.cells (vds V0)) 78)).size = h.size + 1 := by simp
  generalize h.push (row (TVs.cells (vds V0)) 78) = h0 at on x0 s0 ⊢
  refine newTV_in fun h1 v1 x1 s1 => put_n (t := (c0 ⟨some ⟨h.size, 0⟩, 1, 1⟩).tv) v1 rfl rfl fun h2 v2 f2 s2 => ?_
  have x2 : Ext h0 h2 := Only.cut x1 f2 fun i hi => Nat.le_of_eq (Eq.symm hi)
  have e2 : Elems 2 h2 (c0 ⟨some ⟨h.size, 0⟩, 1, 1⟩).vals (vds V0) := on.elems.ext x2
  refine ⟨_, _, _, _, _, _, _, _, _, _, _, _, v2.at, ?_⟩
  refine gnew_spec (c := c0 ⟨some ⟨h.size, 0⟩, 1, 1⟩) (V := V0) e2 (show 1 < 100000 by decide) (fun hg => by rw [good0] at hg; cases hg) fun k h3 g a s Fp p3 x3 _ _ => ⟨_, _, rfl, If.yes ?_⟩
  refine sizeof_spec p3 fun h4 x4 => ?_
  have x24 := x3.trans x4
  rw [parts0]
  refine ⟨_, _, _, _, _, _, rfl, If.yes ?_⟩
  have v4 := v2.ext x24
  refine ⟨_, _, _, _, _, _, _, _, _, _, _, _, v4.at, ?_⟩
  refine most_spec (c := c0 ⟨some ⟨h.size, 0⟩, 1, 1⟩) (V := V0) (e2.ext x24) (show 1 < 100000 by decide) fun h5 x5 => ?_
  rw [most0]
  refine ⟨_, _, _, _, _, _, rfl, If.yes ?_⟩
  have x25 := x24.trans x5
  refine ⟨_, _, _, _, _, _, _, _, _, _, _, _, (v2.ext x25).at, ?_⟩
  refine bound_spec (c := c0 ⟨some ⟨h.size, 0⟩, 1, 1⟩) (V := V0) (e2.ext x25) (show 1 < 100000 by decide) fun h6 x6 => ⟨_, rfl, ?_⟩
  have ht : totalF (mostF (c0 ⟨some ⟨h.size, 0⟩, 1, 1⟩) V0) = 1968 := by rw [most0]; rfl
  rw [ht]
  exact hr h6 ((x0.trans x2).trans (x25.trans x6))

end Go.Proofs.Ytldocdpdjdekiaa.Gate
end

section
/- The conditions of functions, as the generator reckons them out, each with the proof that it is that. -/
namespace Go.Proofs.Ytldocdpdjdekiaa
open Go Go.Vc
set_option maxRecDepth 100000
set_option linter.unusedVariables false

def tollerlaw22_parts_vc (l_ : Sl) (h : Heap) (R : Value → Heap → Prop) : Prop := Vc.Bind (newTV h (.agg [.int .i64 0, .int .i64 0, .int .i64 0, .int .i64 0, .int .i64 0, .int .i64 0]) 29) fun h_1 ↦ (0 : Int) ≤ 0 ∧ 0 < (↑l_.len : Int) ∧ Nn l_.a fun l ↦ ∃ (n : Int), at1 h_1 l.b (l.o + Int.toNat 0 * 1) (.int .i64 n) ∧ (0 : Int) ≤ 1 ∧ 1 < (↑l_.len : Int) ∧ Nn l_.a fun l ↦ ∃ (n_1 : Int), at1 h_1 l.b (l.o + Int.toNat 1 * 1) (.int .i64 n_1) ∧ (0 : Int) ≤ 2 ∧ 2 < (↑l_.len : Int) ∧ Nn l_.a fun l ↦ ∃ (n_2 : Int), at1 h_1 l.b (l.o + Int.toNat 2 * 1) (.int .i64 n_2) ∧ (0 : Int) ≤ 3 ∧ 3 < (↑l_.len : Int) ∧ Nn l_.a fun l ↦ ∃ (n_3 : Int), at1 h_1 l.b (l.o + Int.toNat 3 * 1) (.int .i64 n_3) ∧ (0 : Int) ≤ 4 ∧ 4 < (↑l_.len : Int) ∧ Nn l_.a fun l ↦ ∃ (n_4 : Int), at1 h_1 l.b (l.o + Int.toNat 4 * 1) (.int .i64 n_4) ∧ (0 : Int) ≤ 5 ∧ 5 < (↑l_.len : Int) ∧ Nn l_.a fun l ↦ ∃ (n_5 : Int), at1 h_1 l.b (l.o + Int.toNat 5 * 1) (.int .i64 n_5) ∧ wok h_1 h.size 0 6 ∧ Vc.Bind (TV.put h_1 h.size 0 (.agg [.int .i64 n, .int .i64 n_1, .int .i64 n_2, .int .i64 n_3, .int .i64 n_4, .int .i64 n_5])) fun h_2 ↦ ∃ (n n_6 n_7 n_8 n_9 n_10 : Int), (at1 h_2 h.size 0 (.int .i64 n) ∧ at1 h_2 h.size 1 (.int .i64 n_6) ∧ at1 h_2 h.size 2 (.int .i64 n_7) ∧ at1 h_2 h.size 3 (.int .i64 n_8) ∧ at1 h_2 h.size 4 (.int .i64 n_9) ∧ at1 h_2 h.size 5 (.int .i64 n_10)) ∧ R (TV.val (.agg [.int .i64 n, .int .i64 n_6, .int .i64 n_7, .int .i64 n_8, .int .i64 n_9, .int .i64 n_10])) h_2
theorem tollerlaw22_parts_calls (l_ : Sl) (h : Heap) (R : Value → Heap → Prop) (H : tollerlaw22_parts_vc l_ h R) : CallsH Try.prog 11 (TVs.vals [.slice l_]) h R := via ctx_ok Try.func11 (by kernel_rfl) H

def tollerlaw22_SizeWithin_vc (a : Sl) (b : Sl) (c : Sl) (h : Heap) (R : Value → Heap → Prop) : Prop := CallsH Try.prog 9 (TVs.vals []) h fun (v : Value) (h : Heap) ↦ ∃ (b_1 : Bool), v = TV.val (.bool b_1) ∧ If (!b_1) (R (TV.val (.bool false)) h) (Join (fun (s : Bool × Int) (h : Array Obj) ↦ CallsH Try.prog 11 (TVs.vals [.slice a]) h fun v h ↦ ∃ (n n_1 n_2 n_3 n_4 n_5 : Int), v = TV.val (.agg [.int .i64 n, .int .i64 n_1, .int .i64 n_2, .int .i64 n_3, .int .i64 n_4, .int .i64 n_5]) ∧ CallsH Try.prog 11 (TVs.vals [.slice b]) h fun v h ↦ ∃ (n_6 n_7 n_8 n_9 n_10 n_11 : Int), v = TV.val (.agg [.int .i64 n_6, .int .i64 n_7, .int .i64 n_8, .int .i64 n_9, .int .i64 n_10, .int .i64 n_11]) ∧ CallsH Try.prog 11 (TVs.vals [.slice c]) h fun v h ↦ ∃ (n_12 n_13 n_14 n_15 n_16 n_17 : Int), v = TV.val (.agg [.int .i64 n_12, .int .i64 n_13, .int .i64 n_14, .int .i64 n_15, .int .i64 n_16, .int .i64 n_17]) ∧ Vc.Bind (newTV h (.agg [.int .i64 0, .int .i64 0, .int .i64 0, .int .i64 0, .int .i64 0, .int .i64 0]) 29) fun h_1 ↦ Vc.Bind (newTV h_1 (.agg [.int .i64 0, .int .i64 0, .int .i64 0, .int .i64 0, .int .i64 0, .int .i64 0]) 29) fun h_2 ↦ Vc.Bind (newTV h_2 (.agg [.int .i64 0, .int .i64 0, .int .i64 0, .int .i64 0, .int .i64 0, .int .i64 0]) 29) fun h_3 ↦ wok h_3 h.size 0 6 ∧ Vc.Bind (TV.put h_3 h.size 0 (.agg [.int .i64 n, .int .i64 n_1, .int .i64 n_2, .int .i64 n_3, .int .i64 n_4, .int .i64 n_5])) fun h_4 ↦ wok h_4 h_1.size 0 6 ∧ Vc.Bind (TV.put h_4 h_1.size 0 (.agg [.int .i64 n_6, .int .i64 n_7, .int .i64 n_8, .int .i64 n_9, .int .i64 n_10, .int .i64 n_11])) fun h_5 ↦ wok h_5 h_2.size 0 6 ∧ Vc.Bind (TV.put h_5 h_2.size 0 (.agg [.int .i64 n_12, .int .i64 n_13, .int .i64 n_14, .int .i64 n_15, .int .i64 n_16, .int .i64 n_17])) fun h_6 ↦ Join (fun (s : Bool) (h_7 : Array Obj) ↦ ∃ (n n_18 n_19 n_20 n_21 n_22 : Int), (at1 h_7 h.size 0 (.int .i64 n) ∧ at1 h_7 h.size 1 (.int .i64 n_18) ∧ at1 h_7 h.size 2 (.int .i64 n_19) ∧ at1 h_7 h.size 3 (.int .i64 n_20) ∧ at1 h_7 h.size 4 (.int .i64 n_21) ∧ at1 h_7 h.size 5 (.int .i64 n_22)) ∧ ∃ (n_23 n_24 n_25 n_26 n_27 n_28 : Int), (at1 h_7 h_1.size 0 (.int .i64 n_23) ∧ at1 h_7 h_1.size 1 (.int .i64 n_24) ∧ at1 h_7 h_1.size 2 (.int .i64 n_25) ∧ at1 h_7 h_1.size 3 (.int .i64 n_26) ∧ at1 h_7 h_1.size 4 (.int .i64 n_27) ∧ at1 h_7 h_1.size 5 (.int .i64 n_28)) ∧ CallsH Try.prog 14 (TVs.vals [.agg [.int .i64 n, .int .i64 n_18, .int .i64 n_19, .int .i64 n_20, .int .i64 n_21, .int .i64 n_22], .agg [.int .i64 n_23, .int .i64 n_24, .int .i64 n_25, .int .i64 n_26, .int .i64 n_27, .int .i64 n_28]]) h_7 fun v h_8 ↦ ∃ (b : Bool), v = TV.val (.bool b) ∧ If b (∃ (n n_29 n_30 n_31 n_32 n_33 : Int), (at1 h_8 h_1.size 0 (.int .i64 n) ∧ at1 h_8 h_1.size 1 (.int .i64 n_29) ∧ at1 h_8 h_1.size 2 (.int .i64 n_30) ∧ at1 h_8 h_1.size 3 (.int .i64 n_31) ∧ at1 h_8 h_1.size 4 (.int .i64 n_32) ∧ at1 h_8 h_1.size 5 (.int .i64 n_33)) ∧ ∃ (n_34 n_35 n_36 n_37 n_38 n_39 : Int), (at1 h_8 h.size 0 (.int .i64 n_34) ∧ at1 h_8 h.size 1 (.int .i64 n_35) ∧ at1 h_8 h.size 2 (.int .i64 n_36) ∧ at1 h_8 h.size 3 (.int .i64 n_37) ∧ at1 h_8 h.size 4 (.int .i64 n_38) ∧ at1 h_8 h.size 5 (.int .i64 n_39)) ∧ CallsH Try.prog 14 (TVs.vals [.agg [.int .i64 n, .int .i64 n_29, .int .i64 n_30, .int .i64 n_31, .int .i64 n_32, .int .i64 n_33], .agg [.int .i64 n_34, .int .i64 n_35, .int .i64 n_36, .int .i64 n_37, .int .i64 n_38, .int .i64 n_39]]) h_8 fun v h_9 ↦ ∃ (b : Bool), v = TV.val (.bool b) ∧ If (!b) (R (TV.val (.bool true)) h_9) (∃ (n n_40 n_41 n_42 n_43 n_44 : Int), (at1 h_9 h.size 0 (.int .i64 n) ∧ at1 h_9 h.size 1 (.int .i64 n_40) ∧ at1 h_9 h.size 2 (.int .i64 n_41) ∧ at1 h_9 h.size 3 (.int .i64 n_42) ∧ at1 h_9 h.size 4 (.int .i64 n_43) ∧ at1 h_9 h.size 5 (.int .i64 n_44)) ∧ ∃ (n_45 n_46 n_47 n_48 n_49 n_50 : Int), (at1 h_9 h_1.size 0 (.int .i64 n_45) ∧ at1 h_9 h_1.size 1 (.int .i64 n_46) ∧ at1 h_9 h_1.size 2 (.int .i64 n_47) ∧ at1 h_9 h_1.size 3 (.int .i64 n_48) ∧ at1 h_9 h_1.size 4 (.int .i64 n_49) ∧ at1 h_9 h_1.size 5 (.int .i64 n_50)) ∧ R (TV.val (.bool (decide (n = n_45) && (decide (n_40 = n_46) && (decide (n_41 = n_47) && (decide (n_42 = n_48) && (decide (n_43 = n_49) && (decide (n_44 = n_50) && true)))))))) h_9)) (R (TV.val (.bool true)) h_8)) fun (J : Bool → Array Obj → Prop) ↦ ∃ (n n_18 n_19 n_20 n_21 n_22 : Int), (at1 h_6 h.size 0 (.int .i64 n) ∧ at1 h_6 h.size 1 (.int .i64 n_18) ∧ at1 h_6 h.size 2 (.int .i64 n_19) ∧ at1 h_6 h.size 3 (.int .i64 n_20) ∧ at1 h_6 h.size 4 (.int .i64 n_21) ∧ at1 h_6 h.size 5 (.int .i64 n_22)) ∧ ∃ (n_23 n_24 n_25 n_26 n_27 n_28 : Int), (at1 h_6 h.size 0 (.int .i64 n_23) ∧ at1 h_6 h.size 1 (.int .i64 n_24) ∧ at1 h_6 h.size 2 (.int .i64 n_25) ∧ at1 h_6 h.size 3 (.int .i64 n_26) ∧ at1 h_6 h.size 4 (.int .i64 n_27) ∧ at1 h_6 h.size 5 (.int .i64 n_28)) ∧ CallsH Try.prog 14 (TVs.vals [.agg [.int .i64 n, .int .i64 n_18, .int .i64 n_19, .int .i64 n_20, .int .i64 n_21, .int .i64 n_22], .agg [.int .i64 n_23, .int .i64 n_24, .int .i64 n_25, .int .i64 n_26, .int .i64 n_27, .int .i64 n_28]]) h_6 fun v h_7 ↦ ∃ (b_2 : Bool), v = TV.val (.bool b_2) ∧ If (!b_2) (R (TV.val (.bool false)) h_7) (∃ (n n_29 n_30 n_31 n_32 n_33 : Int), (at1 h_7 h.size 0 (.int .i64 n) ∧ at1 h_7 h.size 1 (.int .i64 n_29) ∧ at1 h_7 h.size 2 (.int .i64 n_30) ∧ at1 h_7 h.size 3 (.int .i64 n_31) ∧ at1 h_7 h.size 4 (.int .i64 n_32) ∧ at1 h_7 h.size 5 (.int .i64 n_33)) ∧ ∃ (n_34 n_35 n_36 n_37 n_38 n_39 : Int), (at1 h_7 h_1.size 0 (.int .i64 n_34) ∧ at1 h_7 h_1.size 1 (.int .i64 n_35) ∧ at1 h_7 h_1.size 2 (.int .i64 n_36) ∧ at1 h_7 h_1.size 3 (.int .i64 n_37) ∧ at1 h_7 h_1.size 4 (.int .i64 n_38) ∧ at1 h_7 h_1.size 5 (.int .i64 n_39)) ∧ CallsH Try.prog 14 (TVs.vals [.agg [.int .i64 n, .int .i64 n_29, .int .i64 n_30, .int .i64 n_31, .int .i64 n_32, .int .i64 n_33], .agg [.int .i64 n_34, .int .i64 n_35, .int .i64 n_36, .int .i64 n_37, .int .i64 n_38, .int .i64 n_39]]) h_7 fun v h_8 ↦ ∃ (b_3 : Bool), v = TV.val (.bool b_3) ∧ If b_3 (∃ (n n_40 n_41 n_42 n_43 n_44 : Int), (at1 h_8 h_1.size 0 (.int .i64 n) ∧ at1 h_8 h_1.size 1 (.int .i64 n_40) ∧ at1 h_8 h_1.size 2 (.int .i64 n_41) ∧ at1 h_8 h_1.size 3 (.int .i64 n_42) ∧ at1 h_8 h_1.size 4 (.int .i64 n_43) ∧ at1 h_8 h_1.size 5 (.int .i64 n_44)) ∧ ∃ (n_45 n_46 n_47 n_48 n_49 n_50 : Int), (at1 h_8 h_2.size 0 (.int .i64 n_45) ∧ at1 h_8 h_2.size 1 (.int .i64 n_46) ∧ at1 h_8 h_2.size 2 (.int .i64 n_47) ∧ at1 h_8 h_2.size 3 (.int .i64 n_48) ∧ at1 h_8 h_2.size 4 (.int .i64 n_49) ∧ at1 h_8 h_2.size 5 (.int .i64 n_50)) ∧ CallsH Try.prog 14 (TVs.vals [.agg [.int .i64 n, .int .i64 n_40, .int .i64 n_41, .int .i64 n_42, .int .i64 n_43, .int .i64 n_44], .agg [.int .i64 n_45, .int .i64 n_46, .int .i64 n_47, .int .i64 n_48, .int .i64 n_49, .int .i64 n_50]]) h_8 fun v h_9 ↦ ∃ (b_4 : Bool), v = TV.val (.bool b_4) ∧ If b_4 (∃ (n n_51 n_52 n_53 n_54 n_55 : Int), (at1 h_9 h.size 0 (.int .i64 n) ∧ at1 h_9 h.size 1 (.int .i64 n_51) ∧ at1 h_9 h.size 2 (.int .i64 n_52) ∧ at1 h_9 h.size 3 (.int .i64 n_53) ∧ at1 h_9 h.size 4 (.int .i64 n_54) ∧ at1 h_9 h.size 5 (.int .i64 n_55)) ∧ ∃ (n_56 n_57 n_58 n_59 n_60 n_61 : Int), (at1 h_9 h_2.size 0 (.int .i64 n_56) ∧ at1 h_9 h_2.size 1 (.int .i64 n_57) ∧ at1 h_9 h_2.size 2 (.int .i64 n_58) ∧ at1 h_9 h_2.size 3 (.int .i64 n_59) ∧ at1 h_9 h_2.size 4 (.int .i64 n_60) ∧ at1 h_9 h_2.size 5 (.int .i64 n_61)) ∧ CallsH Try.prog 14 (TVs.vals [.agg [.int .i64 n, .int .i64 n_51, .int .i64 n_52, .int .i64 n_53, .int .i64 n_54, .int .i64 n_55], .agg [.int .i64 n_56, .int .i64 n_57, .int .i64 n_58, .int .i64 n_59, .int .i64 n_60, .int .i64 n_61]]) h_9 fun v h ↦ ∃ (b_5 : Bool), v = TV.val (.bool b_5) ∧ If (!b_5) (R (TV.val (.bool false)) h) (J s.fst h)) (J s.fst h_9)) (J s.fst h_8))) fun (J : Bool × Int → Array Obj → Prop) ↦ If (!decide ((↑a.len : Int) = 6)) (R (TV.val (.bool true)) h) (If (!decide ((↑b.len : Int) = 6)) (R (TV.val (.bool true)) h) (If (!decide ((↑c.len : Int) = 6)) (R (TV.val (.bool true)) h) (J (false, (↑a.len : Int)) h))))
theorem tollerlaw22_SizeWithin_calls (a : Sl) (b : Sl) (c : Sl) (h : Heap) (R : Value → Heap → Prop) (H : tollerlaw22_SizeWithin_vc a b c h R) : CallsH Try.prog 5 (TVs.vals [.slice a, .slice b, .slice c]) h R := via ctx_ok Try.func5 (by kernel_rfl) H

end Go.Proofs.Ytldocdpdjdekiaa
end

section
/- Rows of numbers as parts; within is an order. -/
namespace Go.Proofs.Ytldocdpdjdekiaa.Gate
open Go Go.Vc
open Board (Vd Cf vds put_n ints read_int)

def ptOf (A : List Int) : Pt := ⟨A.getD 0 0, A.getD 1 0, A.getD 2 0, A.getD 3 0, A.getD 4 0, A.getD 5 0⟩

section
variable {R : Value → Heap → Prop} {h : Heap} {a b c : Sl} {A B C : List Int}

theorem getD_of {l : List Int} {i : Nat} {x : Int} (h : l[i]? = some x) : l.getD i 0 = x := by
  rw [List.getD_eq_getElem?_getD, h]
  rfl

set_option maxRecDepth 100000 in
theorem parts_spec (e : Elems 1 h a (ints A)) (hA : A.length = 6) (hr : ∀ h', Ext h h' → R (ptOf A).tv.val h') : CallsH Try.prog F.tollerlaw22_parts (TVs.vals [.slice a]) h R := by
  apply tollerlaw22_parts_calls
  unfold tollerlaw22_parts_vc
  refine newTV_in fun h1 v1 x1 s1 => ?_
  have e1 := e.ext x1
  refine read_int e1 (i := 0) (by decide) (by omega) fun n0 g0 => read_int e1 (i := 1) (by decide) (by omega) fun n1 g1 => read_int e1 (i := 2) (by decide) (by omega) fun n2 g2 => read_int e1 (i := 3) (by decide) (by omega) fun n3 g3 => read_int e1 (i := 4) (by decide) (by omega) fun n4 g4 => read_int e1 (i := 5) (by decide) (by omega) fun n5 g5 => ?_
  have he : ptOf A = ⟨n0, n1, n2, n3, n4, n5⟩ := by
    have g0 : A[0]? = some n0 := g0
    have g1 : A[1]? = some n1 := g1
    have g2 : A[2]? = some n2 := g2
    have g3 : A[3]? = some n3 := g3
    have g4 : A[4]? = some n4 := g4
    have g5 : A[5]? = some n5 := g5
    unfold ptOf
    rw [getD_of g0, getD_of g1, getD_of g2, getD_of g3, getD_of g4, getD_of g5]
  refine put_n (t := (Pt.mk n0 n1 n2 n3 n4 n5).tv) v1 rfl rfl fun h2 v2 f2 s2 => ⟨_, _, _, _, _, _, v2.at, ?_⟩
  have := hr h2 (Only.cut x1 f2 fun i hi => Nat.le_of_eq (Eq.symm hi))
  rw [he] at this
  exact this

theorem within_iff {x y : Pt} : withinF x y = true ↔ x.n ≤ y.n ∧ x.o ≤ y.o ∧ x.e ≤ y.e ∧ x.p ≤ y.p ∧ x.v ≤ y.v ∧ x.m ≤ y.m := by
  unfold withinF
  simp only [Bool.and_eq_true, decide_eq_true_eq]

theorem len6 (e : Elems 1 h a (ints A)) (hn : (a.len : Int) = 6) : A.length = 6 := by
  have := e.len
  rw [List.length_map] at this
  omega

set_option maxRecDepth 100000 in
theorem sizeWithin_spec (ea : Elems 1 h a (ints A)) (eb : Elems 1 h b (ints B)) (ec : Elems 1 h c (ints C)) (hr : ∀ h', Ext h h' → R (TV.bool true).val h') : CallsH Try.prog F.tollerlaw22_SizeWithin (TVs.vals [.slice a, .slice b, .slice c]) h R := by
  apply tollerlaw22_SizeWithin_calls
  unfold tollerlaw22_SizeWithin_vc
  refine alive_spec fun h1 x1 => ⟨_, rfl, If.no ?_⟩
  intro J HJ
  refine If.split (fun _ => hr h1 x1) fun n1 => If.split (fun _ => hr h1 x1) fun n2 => If.split (fun _ => hr h1 x1) fun n3 => ?_
  have lA := len6 ea (by simpa using n1)
  have lB := len6 eb (by simpa using n2)
  have lC := len6 ec (by simpa using n3)
  refine HJ _ h1 ?_
  refine parts_spec (ea.ext x1) lA fun h2 x2 => ⟨_, _, _, _, _, _, rfl, parts_spec (eb.ext (x1.trans x2)) lB fun h3 x3 => ⟨_, _, _, _, _, _, rfl, parts_spec (ec.ext ((x1.trans x2).trans x3)) lC fun h4 x4 => ⟨_, _, _, _, _, _, rfl, ?_⟩⟩⟩
  generalize ptOf A = p
  generalize ptOf B = q
  generalize ptOf C = r
  have x04 := ((x1.trans x2).trans x3).trans x4
  refine newTV_in fun h5 v5 x5 s5 => newTV_in fun h6 v6 x6 s6 => newTV_in fun h7 v7 x7 s7 => ?_
  refine put_n (t := p.tv) ((v5.ext x6).ext x7) rfl rfl fun h8 v8 f8 s8 => ?_
  refine put_n (t := q.tv) ((v6.ext x7).only f8 (by omega)) rfl rfl fun h9 v9 f9 s9 => ?_
  refine put_n (t := r.tv) ((v7.only f8 (by omega)).only f9 (by omega)) rfl rfl fun h10 v10 f10 s10 => ?_
  have vp : Var T.size_Parts h10 h4.size p.tv := (v8.only f9 (by omega)).only f10 (by omega)
  have vq : Var T.size_Parts h10 h5.size q.tv := v9.only f10 (by omega)
  have x10 : Ext h h10 := by
    have y8 : Ext h4 h8 := Only.cut ((x5.trans x6).trans x7) f8 fun i hi => Nat.le_of_eq (Eq.symm hi)
    have y9 : Ext h4 h9 := Only.cut y8 f9 fun i hi => by have hi : i = h5.size := hi; omega
    have y10 : Ext h4 h10 := Only.cut y9 f10 fun i hi => by have hi : i = h6.size := hi; omega
    exact x04.trans y10
  clear v8 v9
  intro J2 HJ2
  have last : ∀ hh s, Ext h10 hh → J2 s hh := by
    intro hh s xh
    refine HJ2 s hh ?_
    have wp := vp.ext xh
    have wq := vq.ext xh
    refine ⟨_, _, _, _, _, _, wp.at, _, _, _, _, _, _, wq.at, within_spec (x := p) (y := q) fun h11 x11 => ⟨_, rfl, ?_⟩⟩
    have up := wp.ext x11
    have uq := wq.ext x11
    refine If.split (fun c1 => ?_) fun _ => hr _ ((x10.trans xh).trans x11)
    refine ⟨_, _, _, _, _, _, uq.at, _, _, _, _, _, _, up.at, within_spec (x := q) (y := p) fun h12 x12 => ⟨_, rfl, ?_⟩⟩
    refine If.split (fun _ => hr _ (((x10.trans xh).trans x11).trans x12)) fun c2 => ?_
    refine ⟨_, _, _, _, _, _, (up.ext x12).at, _, _, _, _, _, _, (uq.ext x12).at, ?_⟩
    have c1 := within_iff.1 c1
    have c2 := within_iff.1 (show withinF q p = true by simpa using c2)
    have he : (decide (p.n = q.n) && (decide (p.o = q.o) && (decide (p.e = q.e) && (decide (p.p = q.p) && (decide (p.v = q.v) && (decide (p.m = q.m) && true)))))) = true := by
      obtain ⟨d1, d2, d3, d4, d5, d6⟩ := c1
      obtain ⟨e1, e2, e3, e4, e5, e6⟩ := c2
      rw [decide_eq_true (Int.le_antisymm d1 e1), decide_eq_true (Int.le_antisymm d2 e2), decide_eq_true (Int.le_antisymm d3 e3), decide_eq_true (Int.le_antisymm d4 e4), decide_eq_true (Int.le_antisymm d5 e5), decide_eq_true (Int.le_antisymm d6 e6)]
      rfl
    rw [he]
    exact hr _ (((x10.trans xh).trans x11).trans x12)
  refine ⟨_, _, _, _, _, _, vp.at, _, _, _, _, _, _, vp.at, within_spec (x := p) (y := p) fun h11 x11 => ⟨_, rfl, ?_⟩⟩
  rw [show withinF p p = true from within_iff.2 (by omega)]
  refine If.no ?_
  refine ⟨_, _, _, _, _, _, (vp.ext x11).at, _, _, _, _, _, _, (vq.ext x11).at, within_spec (x := p) (y := q) fun h12 x12 => ⟨_, rfl, ?_⟩⟩
  have x112 := x11.trans x12
  refine If.split (fun c1 => ?_) fun _ => last _ _ x112
  refine ⟨_, _, _, _, _, _, (vq.ext x112).at, _, _, _, _, _, _, (v10.ext x112).at, within_spec (x := q) (y := r) fun h13 x13 => ⟨_, rfl, ?_⟩⟩
  have x113 := x112.trans x13
  refine If.split (fun c2 => ?_) fun _ => last _ _ x113
  refine ⟨_, _, _, _, _, _, (vp.ext x113).at, _, _, _, _, _, _, (v10.ext x113).at, within_spec (x := p) (y := r) fun h14 x14 => ⟨_, rfl, ?_⟩⟩
  have c1 := within_iff.1 c1
  have c2 := within_iff.1 c2
  rw [show withinF p r = true from within_iff.2 (by omega)]
  exact If.no (last _ _ (x113.trans x14))

end
end Go.Proofs.Ytldocdpdjdekiaa.Gate
end

section
/- Configurations and rows of numbers that come in. -/
namespace Go.Proofs.Ytldocdpdjdekiaa.Board
open Go Go.Vc

theorem wf_top {n : Int} (h : (Lit.int .i64 n).wf = true) : n < 9223372036854775808 := by
  have h : (decide (IntKind.min .i64 ≤ n) && decide (n ≤ IntKind.max .i64)) = true := h
  have h2 := of_decide_eq_true (Bool.and_eq_true_iff.1 h).2
  have h3 : IntKind.max .i64 = 9223372036854775807 := by rfl
  omega

section
variable {H : Type} {enc : TypeId × Value → H} {w : World} {base fuel : Nat} {spare : Nat → Bool} {held : Bool}

theorem cell_spot {P : Program} {r : Reach} {base : Nat} {t e : TypeId} (ht : P.underlying t = some (.slice e)) {a : Addr} {len cap : Nat} (h : Cell.okWide P w r base t (.slice (some a) len cap)) : a.spot = none := by
  unfold Cell.okWide at h
  rw [ht] at h
  simp only at h
  unfold Cell.ok at h
  rw [ht] at h
  exact h.2.2.2.1

set_option maxRecDepth 100000 in
theorem vd_in {cs : List Value} {x : DataW H × List MemPlace} (h : DataW.trod enc Try.prog w base spare held fuel 78 cs = some x) : ∃ v : Vd, cs = v.tv.cells ∧ v.stake < 9223372036854775808 := by
  have hd : ∃ f0 f1 : Field, Try.prog.underlying 78 = some (.struct #[f0, f1]) ∧ f0.type = 3 ∧ f0.offset = 0 ∧ f1.type = 9 ∧ f1.offset = 1 := ⟨_, _, Try.underlying78, rfl, rfl, rfl, rfl⟩
  obtain ⟨f0, f1, hu, e0, e1, e2, e3⟩ := hd
  obtain ⟨xs, n, _, rfl, hlen, hl, hf⟩ := DataW.trod_struct hu h
  have c3 : Try.prog.cellsOf 3 = 1 := by kernel_rfl
  have c9 : Try.prog.cellsOf 9 = 1 := by kernel_rfl
  have c41 : Try.prog.cellsOf 78 = 2 := by kernel_rfl
  match xs, hl with
  | [y0, y1], _ =>
    have t0 := hf 0 f0 rfl
    have t1 := hf 1 f1 rfl
    rw [e0, e1, c3] at t0
    rw [e2, e3, c9] at t1
    obtain ⟨n0, h0, w0, w1⟩ := DataW.trod_int Try.underlying3 t0
    obtain ⟨s, h1, _, _⟩ := DataW.trod_string Try.underlying9 t1
    rw [c41] at hlen
    match cs, hlen with
    | [v0, v1], _ =>
      simp only [List.drop_zero, List.take_succ_cons, List.take_zero, List.drop_succ_cons, List.cons.injEq, and_true] at h0 h1
      subst h0; subst h1
      exact ⟨⟨n0, s.data.toList⟩, by simp [Vd.tv, TV.cells, TVs.cells], by
        exact wf_top w1⟩

/-- A slice whose elements are known one by one. -/
theorem slice_in {α : Type} [Inhabited α] {Q : α → Prop} {tv : α → TV} {sz t e : Nat} (ht : Try.prog.underlying t = some (.slice e)) (he : Try.prog.cellsOf e = sz) (hsz : ∀ x, (tv x).size = sz)
    (hin : ∀ {fuel : Nat} {cs : List Value} {x : DataW H × List MemPlace}, DataW.trod enc Try.prog w base spare held fuel e cs = some x → ∃ v : α, cs = (tv v).cells ∧ Q v)
    {a : Option Addr} {len cap : Nat} {x : DataW H × List MemPlace} (hs : ∀ x, a = some x → x.spot = none) (h : DataW.trod enc Try.prog w base spare held fuel t [.slice a len cap] = some x) :
    ∃ (sl : Sl) (cs : List α), Value.slice a len cap = (TV.slice sl).val ∧ Elems sz w.heap sl (cs.map tv) ∧ ∀ c ∈ cs, Q c := by
  rcases Deep.open_slice ht h with ⟨hc, _⟩ | ⟨a', l', c', m, n, D, Pl, hc, _, hl, _, hm, _, hel⟩
  · simp only [List.cons.injEq, Value.slice.injEq, and_true] at hc
    obtain ⟨rfl, rfl, rfl⟩ := hc
    exact ⟨Sl.nil, [], rfl, Elems.nil_ sz _, fun c hc => by cases hc⟩
  · simp only [List.cons.injEq, Value.slice.injEq, and_true] at hc
    obtain ⟨rfl, rfl, rfl⟩ := hc
    have hsp := hs a' rfl
    have hlm : len ≤ m := by rw [hm]; split <;> omega
    have each : ∀ i, i < len → ∃ c : α, (tv c).at w.heap a'.block (a'.off + i * sz) ∧ Q c := by
      intro i hi
      obtain ⟨cs', h1, h2⟩ := hel i (by omega)
      rw [he] at h1
      obtain ⟨_, hlen, hcell⟩ := World.cells?_some h1
      obtain ⟨c, rfl, hq⟩ := hin h2
      refine ⟨c, ?_, hq⟩
      rw [TV.at_iff]
      intro j hj
      have hj5 : j < sz := by rw [hsz] at hj; exact hj
      have := hcell j hj5
      rw [Deep.add_add] at this
      have hc2 := cel_of_cell hsp (i := i * sz + j) (v := (tv c).cells[j]'(by rw [TV.cells_length]; exact hj)) (by
        rw [this]
        simp [TV.cells_length, hj])
      rw [List.getElem?_eq_getElem (by rw [TV.cells_length]; exact hj), ← hc2, Nat.add_assoc]
    obtain ⟨f, hf⟩ := Deep.choose_lt each
    refine ⟨⟨some ⟨a'.block, a'.off⟩, len, cap⟩, (List.range len).map f, ?_, ⟨?_, ?_, ?_⟩, fun c hc => by
      obtain ⟨k, hk, rfl⟩ := List.mem_map.1 hc
      exact (hf k (List.mem_range.1 hk)).2⟩
    · cases a'
      simp only at hsp
      subst hsp
      rfl
    · simp
    · intro hn; cases hn
    · rintro l ⟨rfl⟩ i t ht
      rw [List.getElem?_map, Option.map_eq_some_iff] at ht
      obtain ⟨c, hc, rfl⟩ := ht
      rw [List.getElem?_map, Option.map_eq_some_iff] at hc
      obtain ⟨k, hk, rfl⟩ := hc
      have hk' := List.getElem?_eq_some_iff.1 hk
      obtain ⟨hi, he⟩ := hk'
      simp only [List.length_range] at hi
      simp only [List.getElem_range] at he
      subst he
      exact (hf i hi).1

theorem ints_in {a : Option Addr} {len cap : Nat} {x : DataW H × List MemPlace} (hs : ∀ x, a = some x → x.spot = none) (h : DataW.trod enc Try.prog w base spare held fuel 25 [.slice a len cap] = some x) :
    ∃ sl cs, Value.slice a len cap = (TV.slice sl).val ∧ Elems 1 w.heap sl (ints cs) := by
  obtain ⟨sl, cs, h1, h2, _⟩ := slice_in (Q := fun _ => True) (tv := fun n => TV.int .i64 n) Try.underlying25 (by kernel_rfl) (fun _ => rfl) (fun {fuel cs x} h => by
    obtain ⟨b, h0, _⟩ := DataW.trod_int Try.underlying3 h
    exact ⟨b, by rw [h0]; rfl, trivial⟩) hs h
  exact ⟨sl, cs, h1, h2⟩

set_option maxRecDepth 100000 in
theorem cf_in {r : Reach} {base2 : Nat} {v : Value} {d : DataW H} {p : List MemPlace} (hv : Value.okWide Try.prog w r base2 24 v) (h : DataW.Trod enc Try.prog w base spare held 24 v d p) :
    ∃ c : Cf, (∃ L, Elems 2 w.heap c.vals (vds L) ∧ ∀ v ∈ L, v.stake < 9223372036854775808) ∧ v = c.tv.val := by
  have hd : ∃ f0 f1 f2 f3 f4 f5 f6 f7 f8 f9 f10 f11 : Field, Try.prog.underlying 24 = some (.struct #[f0, f1, f2, f3, f4, f5, f6, f7, f8, f9, f10, f11]) ∧ (f0.type = 22 ∧ f0.offset = 0) ∧ (f1.type = 3 ∧ f1.offset = 1) ∧ (f2.type = 3 ∧ f2.offset = 2) ∧
      (f3.type = 3 ∧ f3.offset = 3) ∧ (f4.type = 3 ∧ f4.offset = 4) ∧ (f5.type = 3 ∧ f5.offset = 5) ∧ (f6.type = 3 ∧ f6.offset = 6) ∧ (f7.type = 3 ∧ f7.offset = 7) ∧ (f8.type = 3 ∧ f8.offset = 8) ∧ (f9.type = 3 ∧ f9.offset = 9) ∧
      (f10.type = 3 ∧ f10.offset = 10) ∧ (f11.type = 3 ∧ f11.offset = 11) := ⟨_, _, _, _, _, _, _, _, _, _, _, _, Try.underlying24, ⟨rfl, rfl⟩, ⟨rfl, rfl⟩, ⟨rfl, rfl⟩, ⟨rfl, rfl⟩, ⟨rfl, rfl⟩, ⟨rfl, rfl⟩, ⟨rfl, rfl⟩, ⟨rfl, rfl⟩, ⟨rfl, rfl⟩, ⟨rfl, rfl⟩, ⟨rfl, rfl⟩, ⟨rfl, rfl⟩⟩
  obtain ⟨f0, f1, f2, f3, f4, f5, f6, f7, f8, f9, f10, f11, hu, e0, e1, e2, e3, e4, e5, e6, e7, e8, e9, e10, e11⟩ := hd
  have hct : Try.prog.cellTypes Try.prog.depth 24 = some [22, 3, 3, 3, 3, 3, 3, 3, 3, 3, 3, 3] := by kernel_rfl
  have c24 : Try.prog.cellsOf 24 = 12 := by kernel_rfl
  have c3 : Try.prog.cellsOf 3 = 1 := by kernel_rfl
  have c22 : Try.prog.cellsOf 22 = 1 := by kernel_rfl
  unfold Value.okWide at hv
  rw [hu] at hv
  simp only at hv
  obtain ⟨cs, rfl, hs, ts, hts, _, hcell⟩ := hv
  rw [hct] at hts
  obtain rfl := Option.some.inj hts
  obtain ⟨fuel, hf0⟩ := h
  have hf1 : DataW.trod enc Try.prog w base spare held fuel 24 cs.toList = some (d, p) := hf0
  obtain ⟨xs, n, _, _, hlen, hl, hf⟩ := DataW.trod_struct hu hf1
  rw [c24] at hlen
  match xs, hl with
  | [y0, y1, y2, y3, y4, y5, y6, y7, y8, y9, y10, y11], _ =>
    have t0 := hf 0 f0 rfl
    have t1 := hf 1 f1 rfl
    have t2 := hf 2 f2 rfl
    have t3 := hf 3 f3 rfl
    have t4 := hf 4 f4 rfl
    have t5 := hf 5 f5 rfl
    have t6 := hf 6 f6 rfl
    have t7 := hf 7 f7 rfl
    have t8 := hf 8 f8 rfl
    have t9 := hf 9 f9 rfl
    have t10 := hf 10 f10 rfl
    have t11 := hf 11 f11 rfl
    rw [e0.1, e0.2, c22] at t0
    rw [e1.1, e1.2, c3] at t1
    rw [e2.1, e2.2, c3] at t2
    rw [e3.1, e3.2, c3] at t3
    rw [e4.1, e4.2, c3] at t4
    rw [e5.1, e5.2, c3] at t5
    rw [e6.1, e6.2, c3] at t6
    rw [e7.1, e7.2, c3] at t7
    rw [e8.1, e8.2, c3] at t8
    rw [e9.1, e9.2, c3] at t9
    rw [e10.1, e10.2, c3] at t10
    rw [e11.1, e11.2, c3] at t11
    clear hf hf0 hf1
    obtain ⟨n1, h1, _, _⟩ := DataW.trod_int Try.underlying3 t1
    obtain ⟨n2, h2, _, _⟩ := DataW.trod_int Try.underlying3 t2
    obtain ⟨n3, h3, _, _⟩ := DataW.trod_int Try.underlying3 t3
    obtain ⟨n4, h4, _, _⟩ := DataW.trod_int Try.underlying3 t4
    obtain ⟨n5, h5, _, _⟩ := DataW.trod_int Try.underlying3 t5
    obtain ⟨n6, h6, _, _⟩ := DataW.trod_int Try.underlying3 t6
    obtain ⟨n7, h7, _, _⟩ := DataW.trod_int Try.underlying3 t7
    obtain ⟨n8, h8, _, _⟩ := DataW.trod_int Try.underlying3 t8
    obtain ⟨n9, h9, _, _⟩ := DataW.trod_int Try.underlying3 t9
    obtain ⟨n10, h10, _, _⟩ := DataW.trod_int Try.underlying3 t10
    obtain ⟨n11, h11, _, _⟩ := DataW.trod_int Try.underlying3 t11
    clear t1 t2 t3 t4 t5 t6 t7 t8 t9 t10 t11
    obtain ⟨cl⟩ := cs
    simp only at hlen hcell h1 h2 h3 h4 h5 h6 h7 h8 h9 h10 h11 t0
    match cl, hlen with
    | [v0, v1, v2, v3, v4, v5, v6, v7, v8, v9, v10, v11], _ =>
      simp only [List.drop_zero, List.take_succ_cons, List.take_zero, List.drop_succ_cons, List.cons.injEq, and_true] at h1 h2 h3 h4 h5 h6 h7 h8 h9 h10 h11 t0
      subst h1; subst h2; subst h3; subst h4; subst h5; subst h6; subst h7; subst h8; subst h9; subst h10; subst h11
      have hsl : ∃ a len cap, v0 = Value.slice a len cap := by
        rcases Deep.open_slice Try.underlying22 t0 with ⟨hc, _⟩ | ⟨a', l', c', m, n, D, Pl, hc, _⟩
        · exact ⟨_, _, _, by simpa using hc⟩
        · exact ⟨_, _, _, by simpa using hc⟩
      obtain ⟨a, len, cap, rfl⟩ := hsl
      obtain ⟨u, hu0, hok⟩ := hcell 0 _ rfl
      have hu22 : u = 22 := by
        have : some 22 = some u := hu0
        injection this with this
        exact this.symm
      subst hu22
      have hsp : ∀ x, a = some x → x.spot = none := fun x hx => by
        subst hx
        exact cell_spot Try.underlying22 hok
      obtain ⟨sl, L, e, hel, hq⟩ := slice_in (Q := fun v => v.stake < 9223372036854775808) (tv := Vd.tv) (sz := 2) Try.underlying22 (by kernel_rfl) Vd.size (fun {fuel cs x} h => vd_in h) hsp t0
      have e' : Value.slice a len cap = slVal sl := e
      rw [e']
      exact ⟨⟨sl, n1, n2, n3, n4, n5, n6, n7, n8, n9, n10, n11⟩, ⟨L, hel, hq⟩, rfl⟩

end

end Go.Proofs.Ytldocdpdjdekiaa.Board
end

section
/- The conditions of functions, as the generator reckons them out, each with the proof that it is that. -/
namespace Go.Proofs.Ytldocdpdjdekiaa
open Go Go.Vc
set_option maxRecDepth 100000
set_option linter.unusedVariables false

def tollerref22_Total_vc (l_ : Sl) (h : Heap) (R : Value → Heap → Prop) : Prop := Go.Vc.Loop (0, 0) (Array.push h (row (TVs.cells [.int .i64 96, .int .i64 384, .int .i64 384, .int .i64 16, .int .i64 64, .int .i64 64]) 3)) fun (s : Int × Int) (h_1 : Array Obj) (K : Int × Int → Array Obj → Prop) ↦ If (decide (s.snd < (↑6 : Int))) (0 ≤ s.snd ∧ s.snd < (↑6 : Int) ∧ ∃ (n : Int), at1 h_1 h.size (0 + Int.toNat s.snd * 1) (.int .i64 n) ∧ 0 ≤ s.snd ∧ s.snd < (↑l_.len : Int) ∧ Nn l_.a fun l ↦ ∃ (n_1 : Int), at1 h_1 l.b (l.o + Int.toNat s.snd * 1) (.int .i64 n_1) ∧ K (IntKind.wrap .i64 (s.fst + IntKind.wrap .i64 (n * n_1)), IntKind.wrap .i64 (s.snd + 1)) h_1) (R (TV.val (.int .i64 s.fst)) h_1)
theorem tollerref22_Total_calls (l_ : Sl) (h : Heap) (R : Value → Heap → Prop) (H : tollerref22_Total_vc l_ h R) : CallsH Try.prog 13 (TVs.vals [.slice l_]) h R := via ctx_ok Try.func13 (by kernel_rfl) H

def tollerref22_Most_vc (c_Validators : Sl) (c_Epoch : Int) (c_Committee : Int) (c_Nodes : Int) (c_Orphans : Int) (c_Early : Int) (c_Quota : Int) (c_Peers : Int) (c_Bytes : Int) (c_Window : Int) (c_Ban : Int) (c_Decay : Int) (h : Heap) (R : Value → Heap → Prop) : Prop := Vc.Bind (newTV h (.agg [.slice c_Validators, .int .i64 c_Epoch, .int .i64 c_Committee, .int .i64 c_Nodes, .int .i64 c_Orphans, .int .i64 c_Early, .int .i64 c_Quota, .int .i64 c_Peers, .int .i64 c_Bytes, .int .i64 c_Window, .int .i64 c_Ban, .int .i64 c_Decay]) 24) fun h_1 ↦ ∃ (s : Sl), ∃ (n n_1 n_2 n_3 n_4 n_5 n_6 n_7 n_8 n_9 n_10 : Int), (at1 h_1 h.size 0 (slVal s) ∧ at1 h_1 h.size 1 (.int .i64 n) ∧ at1 h_1 h.size 2 (.int .i64 n_1) ∧ at1 h_1 h.size 3 (.int .i64 n_2) ∧ at1 h_1 h.size 4 (.int .i64 n_3) ∧ at1 h_1 h.size 5 (.int .i64 n_4) ∧ at1 h_1 h.size 6 (.int .i64 n_5) ∧ at1 h_1 h.size 7 (.int .i64 n_6) ∧ at1 h_1 h.size 8 (.int .i64 n_7) ∧ at1 h_1 h.size 9 (.int .i64 n_8) ∧ at1 h_1 h.size 10 (.int .i64 n_9) ∧ at1 h_1 h.size 11 (.int .i64 n_10)) ∧ CallsH Try.prog 19 (TVs.vals [.agg [.slice s, .int .i64 n, .int .i64 n_1, .int .i64 n_2, .int .i64 n_3, .int .i64 n_4, .int .i64 n_5, .int .i64 n_6, .int .i64 n_7, .int .i64 n_8, .int .i64 n_9, .int .i64 n_10]]) h_1 fun v h_2 ↦ ∃ (b : Bool), v = TV.val (.bool b) ∧ If (!b) ((0 : Int) ≤ 6 ∧ (6 : Int) ≤ 6 ∧ (↑8 : Int) * (6 : Int) ≤ 281474976710656 ∧ (6 : Int) < 9223372036854775808 ∧ R (TV.val (.slice (Sl.mk (some (Loc.mk h_2.size 0)) (Int.toNat 6) (Int.toNat 6)))) (Array.push h_2 (row (zeros (.int .i64 0) (Int.toNat 6)) 3))) (∃ (s_1 : Sl), at1 h_2 h.size 0 (slVal s_1) ∧ ∃ (n_11 : Int), at1 h_2 h.size 1 (.int .i64 n_11) ∧ Go.Vc.Loop (2, n_11) h_2 fun (s_2 : Int × Int) (h_3 : Array Obj) (K : Int × Int → Array Obj → Prop) ↦ ∃ (n_12 : Int), at1 h_3 h.size 9 (.int .i64 n_12) ∧ If (decide (s_2.snd ≤ n_12)) (∃ (n_13 : Int), at1 h_3 h.size 1 (.int .i64 n_13) ∧ K (IntKind.wrap .i64 (s_2.fst + 1), IntKind.wrap .i64 (s_2.snd + n_13)) h_3) (∃ (n_13 : Int), at1 h_3 h.size 3 (.int .i64 n_13) ∧ ∃ (n_14 : Int), at1 h_3 h.size 4 (.int .i64 n_14) ∧ ∃ (n_15 : Int), at1 h_3 h.size 5 (.int .i64 n_15) ∧ ∃ (n_16 : Int), at1 h_3 h.size 7 (.int .i64 n_16) ∧ R (TV.val (.slice (Sl.mk (some (Loc.mk h_3.size 0)) 6 6))) (Array.push h_3 (row (TVs.cells [.int .i64 n_13, .int .i64 n_14, .int .i64 n_15, .int .i64 n_16, .int .i64 (↑s_1.len : Int), .int .i64 (IntKind.wrap .i64 ((↑s_1.len : Int) * s_2.fst))]) 3))))
theorem tollerref22_Most_calls (c_Validators : Sl) (c_Epoch : Int) (c_Committee : Int) (c_Nodes : Int) (c_Orphans : Int) (c_Early : Int) (c_Quota : Int) (c_Peers : Int) (c_Bytes : Int) (c_Window : Int) (c_Ban : Int) (c_Decay : Int) (h : Heap) (R : Value → Heap → Prop) (H : tollerref22_Most_vc c_Validators c_Epoch c_Committee c_Nodes c_Orphans c_Early c_Quota c_Peers c_Bytes c_Window c_Ban c_Decay h R) : CallsH Try.prog 16 (TVs.vals [.agg [.slice c_Validators, .int .i64 c_Epoch, .int .i64 c_Committee, .int .i64 c_Nodes, .int .i64 c_Orphans, .int .i64 c_Early, .int .i64 c_Quota, .int .i64 c_Peers, .int .i64 c_Bytes, .int .i64 c_Window, .int .i64 c_Ban, .int .i64 c_Decay]]) h R := via ctx_ok Try.func16 (by kernel_rfl) H

end Go.Proofs.Ytldocdpdjdekiaa
end

section
/- The parts of no gate; what the document says of the most, and of what they come to. -/
namespace Go.Proofs.Ytldocdpdjdekiaa.Gate
open Go Go.Vc
open Board (Vd Cf vds put_n ints read_int)

section
variable {R : Value → Heap → Prop} {h : Heap} {a : Sl} {A : List Int} {c : Cf} {V : List Vd}

theorem book_nil {K : Value → Heap → Prop} (hk : K (TV.ptr none).val h) : CallsH Try.prog F.gate_Gate_Book (TVs.vals [.ptr none]) h K := by
  apply gate_Gate_Book_calls
  exact If.yes hk
theorem orph_nil {K : Value → Heap → Prop} (hk : K (TV.ptr none).val h) : CallsH Try.prog F.gate_Gate_Orphans (TVs.vals [.ptr none]) h K := by
  apply gate_Gate_Orphans_calls
  exact If.yes hk
theorem early_nil {K : Value → Heap → Prop} (hk : K (TV.ptr none).val h) : CallsH Try.prog F.gate_Gate_Early (TVs.vals [.ptr none]) h K := by
  apply gate_Gate_Early_calls
  exact If.yes hk
theorem peers_nil {K : Value → Heap → Prop} (hk : K (TV.ptr none).val h) : CallsH Try.prog F.gate_Gate_Peers (TVs.vals [.ptr none]) h K := by
  apply gate_Gate_Peers_calls
  exact If.yes hk
theorem btree_nil {K : Value → Heap → Prop} (hk : K (TV.ptr none).val h) : CallsH Try.prog F.votes_Book_Tree (TVs.vals [.ptr none]) h K := by
  apply votes_Book_Tree_calls
  exact If.yes hk
theorem btab_nil {K : Value → Heap → Prop} (hk : K (TV.ptr none).val h) : CallsH Try.prog F.votes_Book_Table (TVs.vals [.ptr none]) h K := by
  apply votes_Book_Table_calls
  exact If.yes hk
theorem known_nil {K : Value → Heap → Prop} (hk : K (TV.slice Sl.nil).val h) : CallsH Try.prog F.peers_Peers_Known (TVs.vals [.ptr none]) h K := by
  apply peers_Peers_Known_calls
  exact If.yes hk

set_option maxRecDepth 100000 in
theorem sizeof_nil (hr : ∀ h', Ext h h' → R Pt.zero.tv.val h') : CallsH Try.prog F.size_Of (TVs.vals [.ptr none]) h R := by
  apply size_Of_calls
  unfold size_Of_vc
  refine newTV_in fun h1 v1 x1 s1 => ?_
  refine book_nil ⟨_, rfl, btree_nil ⟨_, rfl, Len_nil ⟨_, rfl, orph_nil ⟨_, rfl, Pool.olen_nil ⟨_, rfl, early_nil ⟨_, rfl, Pool.elen_nil ⟨_, rfl, peers_nil ⟨_, rfl, known_nil ⟨_, rfl, ?_⟩⟩⟩⟩⟩⟩⟩⟩⟩
  refine book_nil ⟨_, rfl, btab_nil ⟨_, rfl, Marks_nil ⟨_, rfl, ?_⟩⟩⟩
  refine newTV_in fun h3 v3 x3 s3 => put_n (t := Pt.zero.tv) v3 rfl rfl fun h4 v4 f4 s4 => ?_
  have x14 : Ext h1 h4 := Only.cut x3 f4 fun i hi => Nat.le_of_eq (Eq.symm hi)
  refine ⟨fun i hh => 0 ≤ i ∧ i ≤ 64 ∧ Var T.size_Parts hh h1.size Pt.zero.tv ∧ Ext h1 hh, fun i _ => (64 - i).toNat, ⟨Int.le_refl 0, by decide, v4, x14⟩, ?_⟩
  rintro i h5 ⟨i0, i1, v5, x5⟩
  refine If.dec.2 ⟨fun hi => ?_, fun hi => ?_⟩
  · refine book_nil ⟨_, rfl, btab_nil ⟨_, rfl, Vote_nil fun h6 x6 => ⟨_, _, _, _, rfl, ?_⟩⟩⟩
    refine newTV_in fun h7 v7 x7 s7 => put_n (t := zeroVt.tv) v7 rfl rfl fun h8 v8 f8 s8 => ?_
    have x68 : Ext h6 h8 := Only.cut x7 f8 fun i hi => Nat.le_of_eq (Eq.symm hi)
    rw [wrap_i64 (n := i + 1) (by omega) (by omega)]
    exact If.no ⟨⟨by omega, by omega, v5.ext (x6.trans x68), x5.trans (x6.trans x68)⟩, by first | omega | (dsimp only; omega)⟩
  · refine ⟨_, _, _, _, _, _, v5.at, ?_⟩
    refine put_n (t := Pt.zero.tv) (v1.ext x5) rfl rfl fun h6 v6 f6 s6 => ⟨_, _, _, _, _, _, v6.at, ?_⟩
    exact hr h6 (Only.cut (x1.trans x5) f6 fun i hi => Nat.le_of_eq (Eq.symm hi))

def eachL : List Int := [96, 384, 384, 16, 64, 64]
def docSum (A : List Int) : Nat → Int
  | 0 => 0
  | k + 1 => IntKind.wrap .i64 (docSum A k + IntKind.wrap .i64 (eachL.getD k 0 * A.getD k 0))

theorem docSum_total : docSum A 6 = totalF (ptOf A) := by
  have e0 : eachL.getD 0 0 = 96 := rfl
  have e1 : eachL.getD 1 0 = 384 := rfl
  have e2 : eachL.getD 2 0 = 384 := rfl
  have e3 : eachL.getD 3 0 = 16 := rfl
  have e4 : eachL.getD 4 0 = 64 := rfl
  have e5 : eachL.getD 5 0 = 64 := rfl
  unfold totalF totalI ptOf
  simp only [docSum, e0, e1, e2, e3, e4, e5, wrap_i64_mod]
  omega

theorem doctotal22_spec (e : Elems 1 h a (ints A)) (hA : A.length = 6) (hr : ∀ h', Ext h h' → R (TV.int .i64 (totalF (ptOf A))).val h') : CallsH Try.prog F.tollerref22_Total (TVs.vals [.slice a]) h R := by
  apply tollerref22_Total_calls
  unfold tollerref22_Total_vc
  have on := Own.new (T := 3) (sz := 1) h (ints eachL) (fun t ht => by
    obtain ⟨x, _, rfl⟩ := List.mem_map.1 ht
    rfl)
  have hc : TVs.cells [TV.int IntKind.i64 96, TV.int IntKind.i64 384, TV.int IntKind.i64 384, TV.int IntKind.i64 16, TV.int IntKind.i64 64, TV.int IntKind.i64 64] = TVs.cells (ints eachL) := rfl
  rw [hc]
  have x0 := Ext.push h (row (TVs.cells (ints eachL)) 3)
  generalize h.push (row (TVs.cells (ints eachL)) 3) = h1 at on x0 ⊢
  refine ⟨fun σ hh => 0 ≤ σ.2 ∧ σ.2 ≤ 6 ∧ hh = h1 ∧ σ.1 = docSum A σ.2.toNat, fun σ _ => (6 - σ.2).toNat, ⟨Int.le_refl 0, by decide, rfl, rfl⟩, ?_⟩
  rintro ⟨t, i⟩ hh ⟨i0, i1, rfl, ht⟩
  dsimp only at i0 i1 ht ⊢
  refine If.dec.2 ⟨fun hi => ?_, fun hi => ?_⟩
  · have hi : i < 6 := hi
    obtain ⟨x, hx⟩ : ∃ x, eachL[i.toNat]? = some x := ⟨_, List.getElem?_eq_getElem (show i.toNat < eachL.length by show i.toNat < 6; omega)⟩
    have hat := on.elems.get _ rfl i.toNat (.int .i64 x) (by rw [List.getElem?_map, hx]; rfl)
    refine ⟨i0, hi, x, hat, read_int (e.ext x0) i0 (by omega) fun y hy => ?_⟩
    rw [wrap_i64 (n := i + 1) (by omega) (by omega)]
    refine ⟨⟨by first | omega | (dsimp only; omega), by first | omega | (dsimp only; omega), rfl, ?_⟩, by first | omega | (dsimp only; omega)⟩
    show _ = docSum A (i + 1).toNat
    rw [show (i + 1).toNat = i.toNat + 1 by omega]
    unfold docSum
    rw [getD_of hx, getD_of hy, ← ht]
  · have h6 : i.toNat = 6 := by have : ¬ i < 6 := hi; omega
    rw [h6, docSum_total] at ht
    rw [ht]
    exact hr _ x0

def ptL (x : Pt) : List Int := [x.n, x.o, x.e, x.p, x.v, x.m]
theorem ptOf_ptL (x : Pt) : ptOf (ptL x) = x := rfl

theorem docmost_spec (e : Elems 2 h c.vals (vds V)) (hk : ∀ v ∈ V, v.stake < 9223372036854775808) (hl : c.vals.len < 100000) (hr : ∀ h' s, Ext h h' → Elems 1 h' s (ints (ptL (mostF c V))) → R (TV.slice s).val h') : CallsH Try.prog F.tollerref22_Most (TVs.vals [c.tv]) h R := by
  apply tollerref22_Most_calls c.vals c.ep c.com c.no c.orp c.ear c.quo c.pe c.by_ c.win c.ban c.dec
  unfold tollerref22_Most_vc
  have el : V.length = c.vals.len := by have := e.len; rwa [List.length_map] at this
  refine newTV_in fun h1 v1 x1 s1 => ?_
  refine ⟨c.vals, c.ep, c.com, c.no, c.orp, c.ear, c.quo, c.pe, c.by_, c.win, c.ban, c.dec, v1.at, ?_⟩
  refine docgood2_spec (e.ext x1) hk hl fun h2 x2 => ⟨_, rfl, ?_⟩
  have v2 : Var 24 h2 h.size c.tv := v1.ext x2
  have new : ∀ L : List Int, Own 3 1 (h2.push (row (TVs.cells (ints L)) 3)) ⟨some ⟨h2.size, 0⟩, L.length, L.length⟩ (ints L) := fun L => by
    have := Own.new (T := 3) (sz := 1) h2 (ints L) (fun t ht => by
      obtain ⟨x, _, rfl⟩ := List.mem_map.1 ht
      rfl)
    rwa [List.length_map] at this
  refine If.split (fun hb => ?_) fun hb => ?_
  · have hb : goodC c V = false := by simpa using hb
    have hm : mostF c V = Pt.zero := by unfold mostF; rw [hb]; rfl
    refine ⟨by decide, by decide, by decide, by decide, ?_⟩
    have hz : zeros (TV.int .i64 0) (Int.toNat 6) = TVs.cells (ints (ptL (mostF c V))) := by rw [hm]; rfl
    rw [hz]
    refine hr _ _ ((x1.trans x2).trans (Ext.push _ _)) ?_
    exact (new (ptL (mostF c V))).elems
  · have hb : goodC c V = true := by simpa using hb
    have k := good_can.1 hb
    have k1 := k.len
    have k2 := k.ep
    have k3 := k.win
    have hm : mostF c V = ⟨c.no, c.orp, c.ear, c.pe, V.length, V.length * (c.win / c.ep + 2)⟩ := by unfold mostF; rw [if_pos hb]
    refine ⟨c.vals, v2.at1 rfl, c.ep, v2.at1 rfl, ?_⟩
    refine ⟨fun σ hh => hh = h2 ∧ ∃ m : Int, 0 ≤ m ∧ σ.1 = 2 + m ∧ σ.2 = m * c.ep + c.ep ∧ m * c.ep ≤ c.win, fun σ _ => (200 - σ.2).toNat, ⟨rfl, 0, Int.le_refl 0, rfl, by simp, by simp; omega⟩, ?_⟩
    rintro ⟨n, q⟩ hh ⟨rfl, m, m0, hn, hq, hw⟩
    dsimp only at hn hq ⊢
    have m1 : m ≤ m * c.ep := by
      have := Int.mul_le_mul_of_nonneg_left k2.1 m0
      omega
    refine ⟨c.win, v2.at1 rfl, If.dec.2 ⟨fun hi => ⟨c.ep, v2.at1 rfl, ?_⟩, fun hi => ?_⟩⟩
    · rw [wrap_i64 (n := n + 1) (by omega) (by omega), wrap_i64 (n := q + c.ep) (by omega) (by omega)]
      have hmul : (m + 1) * c.ep = m * c.ep + c.ep := by rw [Int.add_mul, Int.one_mul]
      refine ⟨⟨rfl, m + 1, by omega, by first | omega | (dsimp only; omega), by rw [hmul]; first | omega | (dsimp only; omega), by rw [hmul]; omega⟩, by first | omega | (dsimp only; omega)⟩
    · have hd : c.win / c.ep = m := by
        have h1 : m ≤ c.win / c.ep := Int.le_ediv_of_mul_le (by omega) hw
        have h2 : c.win / c.ep < m + 1 := Int.ediv_lt_of_lt_mul (by omega) (by rw [Int.add_mul, Int.one_mul]; omega)
        omega
      refine ⟨c.no, v2.at1 rfl, c.orp, v2.at1 rfl, c.ear, v2.at1 rfl, c.pe, v2.at1 rfl, ?_⟩
      have hm2 : (V.length : Int) * (c.win / c.ep + 2) ≤ 64 * 66 := Int.mul_le_mul (by omega) (by omega) (by omega) (by omega)
      have hm0 : 0 ≤ (V.length : Int) * (c.win / c.ep + 2) := Int.mul_nonneg (by omega) (by omega)
      have hz : IntKind.wrap .i64 ((c.vals.len : Int) * n) = V.length * (c.win / c.ep + 2) := by
        rw [← el, hn, show 2 + m = c.win / c.ep + 2 by omega, wrap_i64 (by omega) (by omega)]
      rw [hz, ← el]
      refine hr _ _ ((x1.trans x2).trans (Ext.push _ _)) ?_
      rw [hm]
      exact (new (ptL ⟨c.no, c.orp, c.ear, c.pe, V.length, V.length * (c.win / c.ep + 2)⟩)).elems

end
end Go.Proofs.Ytldocdpdjdekiaa.Gate
end

section
/- The conditions of functions, as the generator reckons them out, each with the proof that it is that. -/
namespace Go.Proofs.Ytldocdpdjdekiaa
open Go Go.Vc
set_option maxRecDepth 100000
set_option linter.unusedVariables false

def tollerlaw22_SizeIs_vc (c_Validators : Sl) (c_Epoch : Int) (c_Committee : Int) (c_Nodes : Int) (c_Orphans : Int) (c_Early : Int) (c_Quota : Int) (c_Peers : Int) (c_Bytes : Int) (c_Window : Int) (c_Ban : Int) (c_Decay : Int) (a : Sl) (b : Sl) (h : Heap) (R : Value → Heap → Prop) : Prop := Vc.Bind (newTV h (.agg [.slice c_Validators, .int .i64 c_Epoch, .int .i64 c_Committee, .int .i64 c_Nodes, .int .i64 c_Orphans, .int .i64 c_Early, .int .i64 c_Quota, .int .i64 c_Peers, .int .i64 c_Bytes, .int .i64 c_Window, .int .i64 c_Ban, .int .i64 c_Decay]) 24) fun h_1 ↦ CallsH Try.prog 9 (TVs.vals []) h_1 fun v h_2 ↦ ∃ (b_1 : Bool), v = TV.val (.bool b_1) ∧ If (!b_1) (R (TV.val (.bool false)) h_2) (Join (fun (s : Bool × Bool) (h_3 : Array Obj) ↦ CallsH Try.prog 11 (TVs.vals [.slice a]) h_3 fun v h_4 ↦ ∃ (n n_1 n_2 n_3 n_4 n_5 : Int), v = TV.val (.agg [.int .i64 n, .int .i64 n_1, .int .i64 n_2, .int .i64 n_3, .int .i64 n_4, .int .i64 n_5]) ∧ CallsH Try.prog 11 (TVs.vals [.slice b]) h_4 fun v h_5 ↦ ∃ (n_6 n_7 n_8 n_9 n_10 n_11 : Int), v = TV.val (.agg [.int .i64 n_6, .int .i64 n_7, .int .i64 n_8, .int .i64 n_9, .int .i64 n_10, .int .i64 n_11]) ∧ Vc.Bind (newTV h_5 (.agg [.int .i64 0, .int .i64 0, .int .i64 0, .int .i64 0, .int .i64 0, .int .i64 0]) 29) fun h_6 ↦ Vc.Bind (newTV h_6 (.agg [.int .i64 0, .int .i64 0, .int .i64 0, .int .i64 0, .int .i64 0, .int .i64 0]) 29) fun h_7 ↦ wok h_7 h_5.size 0 6 ∧ Vc.Bind (TV.put h_7 h_5.size 0 (.agg [.int .i64 n, .int .i64 n_1, .int .i64 n_2, .int .i64 n_3, .int .i64 n_4, .int .i64 n_5])) fun h_8 ↦ wok h_8 h_6.size 0 6 ∧ Vc.Bind (TV.put h_8 h_6.size 0 (.agg [.int .i64 n_6, .int .i64 n_7, .int .i64 n_8, .int .i64 n_9, .int .i64 n_10, .int .i64 n_11])) fun h_9 ↦ Go.Vc.Loop (true, 0) h_9 fun (s : Bool × Int) (h_10 : Array Obj) (K : Bool × Int → Array Obj → Prop) ↦ If (decide (s.snd < (↑a.len : Int))) (If s.fst (0 ≤ s.snd ∧ s.snd < (↑a.len : Int) ∧ Nn a.a fun l ↦ ∃ (n : Int), at1 h_10 l.b (l.o + Int.toNat s.snd * 1) (.int .i64 n) ∧ 0 ≤ s.snd ∧ s.snd < (↑b.len : Int) ∧ Nn b.a fun l ↦ ∃ (n_12 : Int), at1 h_10 l.b (l.o + Int.toNat s.snd * 1) (.int .i64 n_12) ∧ K (decide (n ≤ n_12), IntKind.wrap .i64 (s.snd + 1)) h_10) (K (false, IntKind.wrap .i64 (s.snd + 1)) h_10)) (∃ (n n_12 n_13 n_14 n_15 n_16 : Int), (at1 h_10 h_5.size 0 (.int .i64 n) ∧ at1 h_10 h_5.size 1 (.int .i64 n_12) ∧ at1 h_10 h_5.size 2 (.int .i64 n_13) ∧ at1 h_10 h_5.size 3 (.int .i64 n_14) ∧ at1 h_10 h_5.size 4 (.int .i64 n_15) ∧ at1 h_10 h_5.size 5 (.int .i64 n_16)) ∧ CallsH Try.prog 12 (TVs.vals [.agg [.int .i64 n, .int .i64 n_12, .int .i64 n_13, .int .i64 n_14, .int .i64 n_15, .int .i64 n_16]]) h_10 fun v h_11 ↦ ∃ (n : Int), v = TV.val (.int .i64 n) ∧ CallsH Try.prog 13 (TVs.vals [.slice a]) h_11 fun v h_12 ↦ ∃ (n_17 : Int), v = TV.val (.int .i64 n_17) ∧ If (decide (n = n_17)) (∃ (n n_18 n_19 n_20 n_21 n_22 : Int), (at1 h_12 h_5.size 0 (.int .i64 n) ∧ at1 h_12 h_5.size 1 (.int .i64 n_18) ∧ at1 h_12 h_5.size 2 (.int .i64 n_19) ∧ at1 h_12 h_5.size 3 (.int .i64 n_20) ∧ at1 h_12 h_5.size 4 (.int .i64 n_21) ∧ at1 h_12 h_5.size 5 (.int .i64 n_22)) ∧ ∃ (n_23 n_24 n_25 n_26 n_27 n_28 : Int), (at1 h_12 h_6.size 0 (.int .i64 n_23) ∧ at1 h_12 h_6.size 1 (.int .i64 n_24) ∧ at1 h_12 h_6.size 2 (.int .i64 n_25) ∧ at1 h_12 h_6.size 3 (.int .i64 n_26) ∧ at1 h_12 h_6.size 4 (.int .i64 n_27) ∧ at1 h_12 h_6.size 5 (.int .i64 n_28)) ∧ CallsH Try.prog 14 (TVs.vals [.agg [.int .i64 n, .int .i64 n_18, .int .i64 n_19, .int .i64 n_20, .int .i64 n_21, .int .i64 n_22], .agg [.int .i64 n_23, .int .i64 n_24, .int .i64 n_25, .int .i64 n_26, .int .i64 n_27, .int .i64 n_28]]) h_12 fun v h_13 ↦ ∃ (b : Bool), v = TV.val (.bool b) ∧ If (b == s.fst) (∃ (s : Sl), ∃ (n n_29 n_30 n_31 n_32 n_33 n_34 n_35 n_36 n_37 n_38 : Int), (at1 h_13 h.size 0 (slVal s) ∧ at1 h_13 h.size 1 (.int .i64 n) ∧ at1 h_13 h.size 2 (.int .i64 n_29) ∧ at1 h_13 h.size 3 (.int .i64 n_30) ∧ at1 h_13 h.size 4 (.int .i64 n_31) ∧ at1 h_13 h.size 5 (.int .i64 n_32) ∧ at1 h_13 h.size 6 (.int .i64 n_33) ∧ at1 h_13 h.size 7 (.int .i64 n_34) ∧ at1 h_13 h.size 8 (.int .i64 n_35) ∧ at1 h_13 h.size 9 (.int .i64 n_36) ∧ at1 h_13 h.size 10 (.int .i64 n_37) ∧ at1 h_13 h.size 11 (.int .i64 n_38)) ∧ ∃ (s_1 : Sl), ∃ (n_39 n_40 n_41 n_42 n_43 n_44 n_45 n_46 n_47 n_48 n_49 : Int), (at1 h_13 h.size 0 (slVal s_1) ∧ at1 h_13 h.size 1 (.int .i64 n_39) ∧ at1 h_13 h.size 2 (.int .i64 n_40) ∧ at1 h_13 h.size 3 (.int .i64 n_41) ∧ at1 h_13 h.size 4 (.int .i64 n_42) ∧ at1 h_13 h.size 5 (.int .i64 n_43) ∧ at1 h_13 h.size 6 (.int .i64 n_44) ∧ at1 h_13 h.size 7 (.int .i64 n_45) ∧ at1 h_13 h.size 8 (.int .i64 n_46) ∧ at1 h_13 h.size 9 (.int .i64 n_47) ∧ at1 h_13 h.size 10 (.int .i64 n_48) ∧ at1 h_13 h.size 11 (.int .i64 n_49)) ∧ CallsH Try.prog 15 (TVs.vals [.agg [.slice s, .int .i64 n, .int .i64 n_29, .int .i64 n_30, .int .i64 n_31, .int .i64 n_32, .int .i64 n_33, .int .i64 n_34, .int .i64 n_35, .int .i64 n_36, .int .i64 n_37, .int .i64 n_38]]) h_13 fun v h_14 ↦ ∃ (n n_50 n_51 n_52 n_53 n_54 : Int), v = TV.val (.agg [.int .i64 n, .int .i64 n_50, .int .i64 n_51, .int .i64 n_52, .int .i64 n_53, .int .i64 n_54]) ∧ Ext h_13 h_14 ∧ CallsH Try.prog 16 (TVs.vals [.agg [.slice s_1, .int .i64 n_39, .int .i64 n_40, .int .i64 n_41, .int .i64 n_42, .int .i64 n_43, .int .i64 n_44, .int .i64 n_45, .int .i64 n_46, .int .i64 n_47, .int .i64 n_48, .int .i64 n_49]]) h_14 fun v h_15 ↦ ∃ (s : Sl), v = TV.val (.slice s) ∧ CallsH Try.prog 11 (TVs.vals [.slice s]) h_15 fun v h_16 ↦ ∃ (n_55 n_56 n_57 n_58 n_59 n_60 : Int), v = TV.val (.agg [.int .i64 n_55, .int .i64 n_56, .int .i64 n_57, .int .i64 n_58, .int .i64 n_59, .int .i64 n_60]) ∧ If (decide (n = n_55) && (decide (n_50 = n_56) && (decide (n_51 = n_57) && (decide (n_52 = n_58) && (decide (n_53 = n_59) && (decide (n_54 = n_60) && true)))))) (∃ (s : Sl), ∃ (n n_61 n_62 n_63 n_64 n_65 n_66 n_67 n_68 n_69 n_70 : Int), (at1 h_16 h.size 0 (slVal s) ∧ at1 h_16 h.size 1 (.int .i64 n) ∧ at1 h_16 h.size 2 (.int .i64 n_61) ∧ at1 h_16 h.size 3 (.int .i64 n_62) ∧ at1 h_16 h.size 4 (.int .i64 n_63) ∧ at1 h_16 h.size 5 (.int .i64 n_64) ∧ at1 h_16 h.size 6 (.int .i64 n_65) ∧ at1 h_16 h.size 7 (.int .i64 n_66) ∧ at1 h_16 h.size 8 (.int .i64 n_67) ∧ at1 h_16 h.size 9 (.int .i64 n_68) ∧ at1 h_16 h.size 10 (.int .i64 n_69) ∧ at1 h_16 h.size 11 (.int .i64 n_70)) ∧ ∃ (s_2 : Sl), ∃ (n_71 n_72 n_73 n_74 n_75 n_76 n_77 n_78 n_79 n_80 n_81 : Int), (at1 h_16 h.size 0 (slVal s_2) ∧ at1 h_16 h.size 1 (.int .i64 n_71) ∧ at1 h_16 h.size 2 (.int .i64 n_72) ∧ at1 h_16 h.size 3 (.int .i64 n_73) ∧ at1 h_16 h.size 4 (.int .i64 n_74) ∧ at1 h_16 h.size 5 (.int .i64 n_75) ∧ at1 h_16 h.size 6 (.int .i64 n_76) ∧ at1 h_16 h.size 7 (.int .i64 n_77) ∧ at1 h_16 h.size 8 (.int .i64 n_78) ∧ at1 h_16 h.size 9 (.int .i64 n_79) ∧ at1 h_16 h.size 10 (.int .i64 n_80) ∧ at1 h_16 h.size 11 (.int .i64 n_81)) ∧ CallsH Try.prog 17 (TVs.vals [.agg [.slice s, .int .i64 n, .int .i64 n_61, .int .i64 n_62, .int .i64 n_63, .int .i64 n_64, .int .i64 n_65, .int .i64 n_66, .int .i64 n_67, .int .i64 n_68, .int .i64 n_69, .int .i64 n_70]]) h_16 fun v h ↦ ∃ (n : Int), v = TV.val (.int .i64 n) ∧ Ext h_16 h ∧ CallsH Try.prog 16 (TVs.vals [.agg [.slice s_2, .int .i64 n_71, .int .i64 n_72, .int .i64 n_73, .int .i64 n_74, .int .i64 n_75, .int .i64 n_76, .int .i64 n_77, .int .i64 n_78, .int .i64 n_79, .int .i64 n_80, .int .i64 n_81]]) h fun v h ↦ ∃ (s : Sl), v = TV.val (.slice s) ∧ CallsH Try.prog 13 (TVs.vals [.slice s]) h fun v h ↦ ∃ (n_82 : Int), v = TV.val (.int .i64 n_82) ∧ If (decide (n = n_82)) (CallsH Try.prog 18 (TVs.vals [.ptr none]) h fun v h ↦ ∃ (n n_83 n_84 n_85 n_86 n_87 : Int), v = TV.val (.agg [.int .i64 n, .int .i64 n_83, .int .i64 n_84, .int .i64 n_85, .int .i64 n_86, .int .i64 n_87]) ∧ R (TV.val (.bool (decide (n = 0) && (decide (n_83 = 0) && (decide (n_84 = 0) && (decide (n_85 = 0) && (decide (n_86 = 0) && (decide (n_87 = 0) && true)))))))) h) (R (TV.val (.bool false)) h)) (R (TV.val (.bool false)) h_16)) (R (TV.val (.bool false)) h_13)) (R (TV.val (.bool false)) h_12))) fun (J : Bool × Bool → Array Obj → Prop) ↦ ∃ (s : Sl), ∃ (n n_1 n_2 n_3 n_4 n_5 n_6 n_7 n_8 n_9 n_10 : Int), (at1 h_2 h.size 0 (slVal s) ∧ at1 h_2 h.size 1 (.int .i64 n) ∧ at1 h_2 h.size 2 (.int .i64 n_1) ∧ at1 h_2 h.size 3 (.int .i64 n_2) ∧ at1 h_2 h.size 4 (.int .i64 n_3) ∧ at1 h_2 h.size 5 (.int .i64 n_4) ∧ at1 h_2 h.size 6 (.int .i64 n_5) ∧ at1 h_2 h.size 7 (.int .i64 n_6) ∧ at1 h_2 h.size 8 (.int .i64 n_7) ∧ at1 h_2 h.size 9 (.int .i64 n_8) ∧ at1 h_2 h.size 10 (.int .i64 n_9) ∧ at1 h_2 h.size 11 (.int .i64 n_10)) ∧ CallsH Try.prog 10 (TVs.vals [.agg [.slice s, .int .i64 n, .int .i64 n_1, .int .i64 n_2, .int .i64 n_3, .int .i64 n_4, .int .i64 n_5, .int .i64 n_6, .int .i64 n_7, .int .i64 n_8, .int .i64 n_9, .int .i64 n_10]]) h_2 fun v h ↦ ∃ (b_2 : Bool), v = TV.val (.bool b_2) ∧ If b_2 (R (TV.val (.bool true)) h) (If (!decide ((↑a.len : Int) = 6)) (R (TV.val (.bool true)) h) (If (!decide ((↑b.len : Int) = 6)) (R (TV.val (.bool true)) h) (J (false, !decide ((↑a.len : Int) = 6)) h))))
theorem tollerlaw22_SizeIs_calls (c_Validators : Sl) (c_Epoch : Int) (c_Committee : Int) (c_Nodes : Int) (c_Orphans : Int) (c_Early : Int) (c_Quota : Int) (c_Peers : Int) (c_Bytes : Int) (c_Window : Int) (c_Ban : Int) (c_Decay : Int) (a : Sl) (b : Sl) (h : Heap) (R : Value → Heap → Prop) (H : tollerlaw22_SizeIs_vc c_Validators c_Epoch c_Committee c_Nodes c_Orphans c_Early c_Quota c_Peers c_Bytes c_Window c_Ban c_Decay a b h R) : CallsH Try.prog 3 (TVs.vals [.agg [.slice c_Validators, .int .i64 c_Epoch, .int .i64 c_Committee, .int .i64 c_Nodes, .int .i64 c_Orphans, .int .i64 c_Early, .int .i64 c_Quota, .int .i64 c_Peers, .int .i64 c_Bytes, .int .i64 c_Window, .int .i64 c_Ban, .int .i64 c_Decay], .slice a, .slice b]) h R := via ctx_ok Try.func3 (by kernel_rfl) H

end Go.Proofs.Ytldocdpdjdekiaa
end

section
/- SizeIs. -/
namespace Go.Proofs.Ytldocdpdjdekiaa.Gate
open Go Go.Vc
open Board (Vd Cf vds put_n ints read_int great_spec)

def leUp (A B : List Int) : Nat → Bool
  | 0 => true
  | k + 1 => leUp A B k && decide (A.getD k 0 ≤ B.getD k 0)
theorem leUp_within {A B : List Int} : leUp A B 6 = withinF (ptOf A) (ptOf B) := by
  unfold withinF ptOf
  simp only [leUp, Bool.true_and, Bool.and_assoc]

section
variable {R : Value → Heap → Prop} {h : Heap} {a b : Sl} {A B : List Int} {c : Cf} {V : List Vd}

theorem pt_same (x : Pt) : (decide (x.n = x.n) && (decide (x.o = x.o) && (decide (x.e = x.e) && (decide (x.p = x.p) && (decide (x.v = x.v) && (decide (x.m = x.m) && true)))))) = true := by
  simp

set_option maxRecDepth 100000 in
theorem sizeIs_spec (e : Elems 2 h c.vals (vds V)) (hk : ∀ v ∈ V, v.stake < 9223372036854775808) (ea : Elems 1 h a (ints A)) (eb : Elems 1 h b (ints B)) (hr : ∀ h', Ext h h' → R (TV.bool true).val h') :
    CallsH Try.prog F.tollerlaw22_SizeIs (TVs.vals [c.tv, .slice a, .slice b]) h R := by
  apply tollerlaw22_SizeIs_calls c.vals c.ep c.com c.no c.orp c.ear c.quo c.pe c.by_ c.win c.ban c.dec
  unfold tollerlaw22_SizeIs_vc
  refine newTV_in fun h1 v1 x1 s1 => alive_spec fun h2 x2 => ⟨_, rfl, If.no ?_⟩
  have v2 : Var 24 h2 h.size c.tv := v1.ext x2
  have x02 := x1.trans x2
  intro J HJ
  refine ⟨c.vals, c.ep, c.com, c.no, c.orp, c.ear, c.quo, c.pe, c.by_, c.win, c.ban, c.dec, v2.at, ?_⟩
  refine great_spec (c := c) (e.ext x02) (fun h3 x3 => ⟨_, rfl, If.yes (hr h3 (x02.trans x3))⟩) fun h3 x3 lc => ⟨_, rfl, If.no ?_⟩
  have x03 := x02.trans x3
  refine If.split (fun _ => hr h3 x03) fun n1 => If.split (fun _ => hr h3 x03) fun n2 => ?_
  have lA := len6 ea (by simpa using n1)
  have lB := len6 eb (by simpa using n2)
  refine HJ _ h3 ?_
  clear HJ n1 n2
  refine parts_spec (ea.ext x03) lA fun h4 x4 => ⟨_, _, _, _, _, _, rfl, parts_spec (eb.ext (x03.trans x4)) lB fun h5 x5 => ⟨_, _, _, _, _, _, rfl, ?_⟩⟩
  have x05 := (x03.trans x4).trans x5
  refine newTV_in fun h6 v6 x6 s6 => newTV_in fun h7 v7 x7 s7 => ?_
  refine put_n (t := (ptOf A).tv) (v6.ext x7) rfl rfl fun h8 v8 f8 s8 => ?_
  refine put_n (t := (ptOf B).tv) (v7.only f8 (by omega)) rfl rfl fun h9 v9 f9 s9 => ?_
  have vp : Var T.size_Parts h9 h5.size (ptOf A).tv := v8.only f9 (by omega)
  have x59 : Ext h5 h9 := by
    have y8 : Ext h5 h8 := Only.cut (x6.trans x7) f8 fun i hi => Nat.le_of_eq (Eq.symm hi)
    exact Only.cut y8 f9 fun i hi => by have hi : i = h6.size := hi; omega
  have x09 := x05.trans x59
  have lAs : A.length = a.len := by have := ea.len; rwa [List.length_map] at this
  have vc : Var 24 h9 h.size c.tv := (((v2.ext x3).ext x4).ext x5).ext x59
  refine ⟨fun σ hh => 0 ≤ σ.2 ∧ σ.2 ≤ 6 ∧ hh = h9 ∧ σ.1 = leUp A B σ.2.toNat, fun σ _ => (6 - σ.2).toNat, ⟨Int.le_refl 0, by decide, rfl, rfl⟩, ?_⟩
  rintro ⟨t, i⟩ hh ⟨i0, i1, rfl, ht⟩
  dsimp only at i0 i1 ht ⊢
  refine If.dec.2 ⟨fun hi => ?_, fun hi => ?_⟩
  · have hs : leUp A B (i + 1).toNat = (leUp A B i.toNat && decide (A.getD i.toNat 0 ≤ B.getD i.toNat 0)) := by rw [show (i + 1).toNat = i.toNat + 1 by omega]; rfl
    rw [wrap_i64 (n := i + 1) (by omega) (by omega)]
    refine If.split (fun hb => ?_) fun hb => ?_
    · refine read_int (ea.ext x09) i0 (by omega) fun x hx => read_int (eb.ext x09) i0 (by omega) fun y hy => ?_
      refine ⟨⟨by first | omega | (dsimp only; omega), by first | omega | (dsimp only; omega), rfl, ?_⟩, by first | omega | (dsimp only; omega)⟩
      show _ = leUp A B (i + 1).toNat
      rw [hs, ← ht, hb, getD_of hx, getD_of hy, Bool.true_and]
    · refine ⟨⟨by first | omega | (dsimp only; omega), by first | omega | (dsimp only; omega), rfl, ?_⟩, by first | omega | (dsimp only; omega)⟩
      show _ = leUp A B (i + 1).toNat
      rw [hs, ← ht, hb, Bool.false_and]
  · have h6' : i.toNat = 6 := by omega
    rw [h6', leUp_within] at ht
    generalize hpA : ptOf A = p at *
    generalize ptOf B = q at *
    refine ⟨_, _, _, _, _, _, vp.at, total_spec (x := p) fun h10 x10 => ⟨_, rfl, ?_⟩⟩
    refine doctotal22_spec (ea.ext (x09.trans x10)) lA fun h11 x11 => ⟨_, rfl, ?_⟩
    rw [hpA]
    refine If.dec.2 ⟨fun _ => ?_, fun hn => absurd rfl hn⟩
    have y11 := x10.trans x11
    refine ⟨_, _, _, _, _, _, (vp.ext y11).at, _, _, _, _, _, _, (v9.ext y11).at, within_spec (x := p) (y := q) fun h12 x12 => ⟨_, rfl, ?_⟩⟩
    rw [ht]
    refine If.split (fun _ => ?_) fun hn => by simp at hn
    have y12 := y11.trans x12
    have v12 := vc.ext y12
    have x012 := x09.trans y12
    refine ⟨c.vals, c.ep, c.com, c.no, c.orp, c.ear, c.quo, c.pe, c.by_, c.win, c.ban, c.dec, v12.at, c.vals, c.ep, c.com, c.no, c.orp, c.ear, c.quo, c.pe, c.by_, c.win, c.ban, c.dec, v12.at, ?_⟩
    refine most_spec (c := c) (V := V) (e.ext x012) (by omega) fun h13 x13 => ⟨_, _, _, _, _, _, rfl, x13, ?_⟩
    have x013 := x012.trans x13
    refine docmost_spec (c := c) (V := V) (e.ext x013) hk (by omega) fun h14 s14 x14 e14 => ⟨_, rfl, ?_⟩
    refine parts_spec e14 rfl fun h15 x15 => ⟨_, _, _, _, _, _, rfl, ?_⟩
    rw [ptOf_ptL, pt_same]
    have x015 := (x013.trans x14).trans x15
    have v15 := ((v12.ext x13).ext x14).ext x15
    refine If.yes ⟨c.vals, c.ep, c.com, c.no, c.orp, c.ear, c.quo, c.pe, c.by_, c.win, c.ban, c.dec, v15.at, c.vals, c.ep, c.com, c.no, c.orp, c.ear, c.quo, c.pe, c.by_, c.win, c.ban, c.dec, v15.at, ?_⟩
    refine bound_spec (c := c) (V := V) (e.ext x015) (by omega) fun h16 x16 => ⟨_, rfl, x16, ?_⟩
    have x016 := x015.trans x16
    refine docmost_spec (c := c) (V := V) (e.ext x016) hk (by omega) fun h17 s17 x17 e17 => ⟨_, rfl, ?_⟩
    refine doctotal22_spec e17 rfl fun h18 x18 => ⟨_, rfl, ?_⟩
    rw [ptOf_ptL]
    refine If.dec.2 ⟨fun _ => ?_, fun hn => absurd rfl hn⟩
    refine sizeof_nil fun h19 x19 => ⟨_, _, _, _, _, _, rfl, ?_⟩
    exact hr h19 (((x016.trans x17).trans x18).trans x19)

theorem sizeIs_whole (ec : ∃ L, Elems 2 h c.vals (vds L) ∧ ∀ v ∈ L, v.stake < 9223372036854775808) (ea : Elems 1 h a (ints A)) (eb : Elems 1 h b (ints B)) (hr : ∀ h', Ext h h' → R (TV.bool true).val h') :
    CallsH Try.prog F.tollerlaw22_SizeIs (TVs.vals [c.tv, .slice a, .slice b]) h R := by
  obtain ⟨V, e, hk⟩ := ec
  exact sizeIs_spec e hk ea eb hr

end
end Go.Proofs.Ytldocdpdjdekiaa.Gate
end

section
/- The conditions of functions, as the generator reckons them out, each with the proof that it is that. -/
namespace Go.Proofs.Ytldocdpdjdekiaa
open Go Go.Vc
set_option maxRecDepth 100000
set_option linter.unusedVariables false

def tollerlaw22_SizeMore_vc (c_Validators : Sl) (c_Epoch : Int) (c_Committee : Int) (c_Nodes : Int) (c_Orphans : Int) (c_Early : Int) (c_Quota : Int) (c_Peers : Int) (c_Bytes : Int) (c_Window : Int) (c_Ban : Int) (c_Decay : Int) (more : Sl) (h : Heap) (R : Value → Heap → Prop) : Prop := Vc.Bind (newTV h (.agg [.slice c_Validators, .int .i64 c_Epoch, .int .i64 c_Committee, .int .i64 c_Nodes, .int .i64 c_Orphans, .int .i64 c_Early, .int .i64 c_Quota, .int .i64 c_Peers, .int .i64 c_Bytes, .int .i64 c_Window, .int .i64 c_Ban, .int .i64 c_Decay]) 24) fun h_1 ↦ CallsH Try.prog 9 (TVs.vals []) h_1 fun v h_2 ↦ ∃ (b : Bool), v = TV.val (.bool b) ∧ If (!b) (R (TV.val (.bool false)) h_2) (Join (fun (s : Bool) (h_3 : Array Obj) ↦ ∃ (s_1 : Sl), ∃ (n n_1 n_2 n_3 n_4 n_5 n_6 n_7 n_8 n_9 n_10 : Int), (at1 h_3 h.size 0 (slVal s_1) ∧ at1 h_3 h.size 1 (.int .i64 n) ∧ at1 h_3 h.size 2 (.int .i64 n_1) ∧ at1 h_3 h.size 3 (.int .i64 n_2) ∧ at1 h_3 h.size 4 (.int .i64 n_3) ∧ at1 h_3 h.size 5 (.int .i64 n_4) ∧ at1 h_3 h.size 6 (.int .i64 n_5) ∧ at1 h_3 h.size 7 (.int .i64 n_6) ∧ at1 h_3 h.size 8 (.int .i64 n_7) ∧ at1 h_3 h.size 9 (.int .i64 n_8) ∧ at1 h_3 h.size 10 (.int .i64 n_9) ∧ at1 h_3 h.size 11 (.int .i64 n_10)) ∧ Vc.Bind (newTV h_3 (.agg [.slice Sl.nil, .int .i64 0, .int .i64 0, .int .i64 0, .int .i64 0, .int .i64 0, .int .i64 0, .int .i64 0, .int .i64 0, .int .i64 0, .int .i64 0, .int .i64 0]) 24) fun h_4 ↦ wok h_4 h_3.size 0 12 ∧ Vc.Bind (TV.put h_4 h_3.size 0 (.agg [.slice s_1, .int .i64 n, .int .i64 n_1, .int .i64 n_2, .int .i64 n_3, .int .i64 n_4, .int .i64 n_5, .int .i64 n_6, .int .i64 n_7, .int .i64 n_8, .int .i64 n_9, .int .i64 n_10])) fun h_5 ↦ ∃ (n_11 : Int), at1 h_5 h.size 3 (.int .i64 n_11) ∧ (0 : Int) ≤ 0 ∧ 0 < (↑more.len : Int) ∧ Nn more.a fun l ↦ ∃ (n_12 : Int), at1 h_5 l.b (l.o + Int.toNat 0 * 1) (.int .i64 n_12) ∧ wok h_5 h_3.size 3 1 ∧ Vc.Bind (TV.put h_5 h_3.size 3 (.int .i64 (IntKind.wrap .i64 (n_11 + n_12)))) fun h_6 ↦ ∃ (n_13 : Int), at1 h_6 h.size 4 (.int .i64 n_13) ∧ (0 : Int) ≤ 1 ∧ 1 < (↑more.len : Int) ∧ Nn more.a fun l_1 ↦ ∃ (n_14 : Int), at1 h_6 l_1.b (l_1.o + Int.toNat 1 * 1) (.int .i64 n_14) ∧ wok h_6 h_3.size 4 1 ∧ Vc.Bind (TV.put h_6 h_3.size 4 (.int .i64 (IntKind.wrap .i64 (n_13 + n_14)))) fun h_7 ↦ ∃ (n_15 : Int), at1 h_7 h.size 5 (.int .i64 n_15) ∧ (0 : Int) ≤ 2 ∧ 2 < (↑more.len : Int) ∧ Nn more.a fun l_2 ↦ ∃ (n_16 : Int), at1 h_7 l_2.b (l_2.o + Int.toNat 2 * 1) (.int .i64 n_16) ∧ wok h_7 h_3.size 5 1 ∧ Vc.Bind (TV.put h_7 h_3.size 5 (.int .i64 (IntKind.wrap .i64 (n_15 + n_16)))) fun h_8 ↦ ∃ (n_17 : Int), at1 h_8 h.size 7 (.int .i64 n_17) ∧ (0 : Int) ≤ 3 ∧ 3 < (↑more.len : Int) ∧ Nn more.a fun l_3 ↦ ∃ (n_18 : Int), at1 h_8 l_3.b (l_3.o + Int.toNat 3 * 1) (.int .i64 n_18) ∧ wok h_8 h_3.size 7 1 ∧ Vc.Bind (TV.put h_8 h_3.size 7 (.int .i64 (IntKind.wrap .i64 (n_17 + n_18)))) fun h_9 ↦ Go.Vc.Loop (s, 0) h_9 fun (s_2 : Bool × Int) (h_10 : Array Obj) (K : Bool × Int → Array Obj → Prop) ↦ If (decide (s_2.snd < (↑more.len : Int))) (0 ≤ s_2.snd ∧ s_2.snd < (↑more.len : Int) ∧ Nn more.a fun l ↦ ∃ (n : Int), at1 h_10 l.b (l.o + Int.toNat s_2.snd * 1) (.int .i64 n) ∧ If (decide (n < 0)) (R (TV.val (.bool true)) h_10) (If (decide (300 < n)) (R (TV.val (.bool true)) h_10) (K (s_2.fst, IntKind.wrap .i64 (s_2.snd + 1)) h_10))) (Join (fun (s_3 : Bool) (h_11 : Array Obj) ↦ Join (fun (s_4 : Option Go.Vc.Loc × Option Go.Vc.Loc) (h_12 : Array Obj) ↦ Nn s_4.fst fun l_4 ↦ ∃ (n_19 n_20 n_21 n_22 n_23 n_24 : Int), (at1 h_12 l_4.b l_4.o (.int .i64 n_19) ∧ at1 h_12 l_4.b (l_4.o + 1) (.int .i64 n_20) ∧ at1 h_12 l_4.b (l_4.o + 1 + 1) (.int .i64 n_21) ∧ at1 h_12 l_4.b (l_4.o + 1 + 1 + 1) (.int .i64 n_22) ∧ at1 h_12 l_4.b (l_4.o + 1 + 1 + 1 + 1) (.int .i64 n_23) ∧ at1 h_12 l_4.b (l_4.o + 1 + 1 + 1 + 1 + 1) (.int .i64 n_24)) ∧ Nn s_4.snd fun l_5 ↦ ∃ (n_25 n_26 n_27 n_28 n_29 n_30 : Int), (at1 h_12 l_5.b l_5.o (.int .i64 n_25) ∧ at1 h_12 l_5.b (l_5.o + 1) (.int .i64 n_26) ∧ at1 h_12 l_5.b (l_5.o + 1 + 1) (.int .i64 n_27) ∧ at1 h_12 l_5.b (l_5.o + 1 + 1 + 1) (.int .i64 n_28) ∧ at1 h_12 l_5.b (l_5.o + 1 + 1 + 1 + 1) (.int .i64 n_29) ∧ at1 h_12 l_5.b (l_5.o + 1 + 1 + 1 + 1 + 1) (.int .i64 n_30)) ∧ CallsH Try.prog 14 (TVs.vals [.agg [.int .i64 n_19, .int .i64 n_20, .int .i64 n_21, .int .i64 n_22, .int .i64 n_23, .int .i64 n_24], .agg [.int .i64 n_25, .int .i64 n_26, .int .i64 n_27, .int .i64 n_28, .int .i64 n_29, .int .i64 n_30]]) h_12 fun v h_13 ↦ ∃ (b_1 : Bool), v = TV.val (.bool b_1) ∧ If b_1 (∃ (s_5 : Sl), ∃ (n_31 n_32 n_33 n_34 n_35 n_36 n_37 n_38 n_39 n_40 n_41 : Int), (at1 h_13 h.size 0 (slVal s_5) ∧ at1 h_13 h.size 1 (.int .i64 n_31) ∧ at1 h_13 h.size 2 (.int .i64 n_32) ∧ at1 h_13 h.size 3 (.int .i64 n_33) ∧ at1 h_13 h.size 4 (.int .i64 n_34) ∧ at1 h_13 h.size 5 (.int .i64 n_35) ∧ at1 h_13 h.size 6 (.int .i64 n_36) ∧ at1 h_13 h.size 7 (.int .i64 n_37) ∧ at1 h_13 h.size 8 (.int .i64 n_38) ∧ at1 h_13 h.size 9 (.int .i64 n_39) ∧ at1 h_13 h.size 10 (.int .i64 n_40) ∧ at1 h_13 h.size 11 (.int .i64 n_41)) ∧ ∃ (s_6 : Sl), ∃ (n_42 n_43 n_44 n_45 n_46 n_47 n_48 n_49 n_50 n_51 n_52 : Int), (at1 h_13 h_3.size 0 (slVal s_6) ∧ at1 h_13 h_3.size 1 (.int .i64 n_42) ∧ at1 h_13 h_3.size 2 (.int .i64 n_43) ∧ at1 h_13 h_3.size 3 (.int .i64 n_44) ∧ at1 h_13 h_3.size 4 (.int .i64 n_45) ∧ at1 h_13 h_3.size 5 (.int .i64 n_46) ∧ at1 h_13 h_3.size 6 (.int .i64 n_47) ∧ at1 h_13 h_3.size 7 (.int .i64 n_48) ∧ at1 h_13 h_3.size 8 (.int .i64 n_49) ∧ at1 h_13 h_3.size 9 (.int .i64 n_50) ∧ at1 h_13 h_3.size 10 (.int .i64 n_51) ∧ at1 h_13 h_3.size 11 (.int .i64 n_52)) ∧ CallsH Try.prog 17 (TVs.vals [.agg [.slice s_5, .int .i64 n_31, .int .i64 n_32, .int .i64 n_33, .int .i64 n_34, .int .i64 n_35, .int .i64 n_36, .int .i64 n_37, .int .i64 n_38, .int .i64 n_39, .int .i64 n_40, .int .i64 n_41]]) h_13 fun v h_14 ↦ ∃ (n_53 : Int), v = TV.val (.int .i64 n_53) ∧ Ext h_13 h_14 ∧ CallsH Try.prog 17 (TVs.vals [.agg [.slice s_6, .int .i64 n_42, .int .i64 n_43, .int .i64 n_44, .int .i64 n_45, .int .i64 n_46, .int .i64 n_47, .int .i64 n_48, .int .i64 n_49, .int .i64 n_50, .int .i64 n_51, .int .i64 n_52]]) h_14 fun v h_15 ↦ ∃ (n_54 : Int), v = TV.val (.int .i64 n_54) ∧ If (decide (n_53 ≤ n_54)) (∃ (s_7 : Sl), ∃ (n_55 n_56 n_57 n_58 n_59 n_60 n_61 n_62 n_63 n_64 n_65 : Int), (at1 h_15 h.size 0 (slVal s_7) ∧ at1 h_15 h.size 1 (.int .i64 n_55) ∧ at1 h_15 h.size 2 (.int .i64 n_56) ∧ at1 h_15 h.size 3 (.int .i64 n_57) ∧ at1 h_15 h.size 4 (.int .i64 n_58) ∧ at1 h_15 h.size 5 (.int .i64 n_59) ∧ at1 h_15 h.size 6 (.int .i64 n_60) ∧ at1 h_15 h.size 7 (.int .i64 n_61) ∧ at1 h_15 h.size 8 (.int .i64 n_62) ∧ at1 h_15 h.size 9 (.int .i64 n_63) ∧ at1 h_15 h.size 10 (.int .i64 n_64) ∧ at1 h_15 h.size 11 (.int .i64 n_65)) ∧ ∃ (s_8 : Sl), ∃ (n_66 n_67 n_68 n_69 n_70 n_71 n_72 n_73 n_74 n_75 n_76 : Int), (at1 h_15 h_3.size 0 (slVal s_8) ∧ at1 h_15 h_3.size 1 (.int .i64 n_66) ∧ at1 h_15 h_3.size 2 (.int .i64 n_67) ∧ at1 h_15 h_3.size 3 (.int .i64 n_68) ∧ at1 h_15 h_3.size 4 (.int .i64 n_69) ∧ at1 h_15 h_3.size 5 (.int .i64 n_70) ∧ at1 h_15 h_3.size 6 (.int .i64 n_71) ∧ at1 h_15 h_3.size 7 (.int .i64 n_72) ∧ at1 h_15 h_3.size 8 (.int .i64 n_73) ∧ at1 h_15 h_3.size 9 (.int .i64 n_74) ∧ at1 h_15 h_3.size 10 (.int .i64 n_75) ∧ at1 h_15 h_3.size 11 (.int .i64 n_76)) ∧ (0 : Int) ≤ 0 ∧ 0 < (↑more.len : Int) ∧ Nn more.a fun l_6 ↦ ∃ (n_77 : Int), at1 h_15 l_6.b (l_6.o + Int.toNat 0 * 1) (.int .i64 n_77) ∧ (0 : Int) ≤ 1 ∧ 1 < (↑more.len : Int) ∧ Nn more.a fun l_7 ↦ ∃ (n_78 : Int), at1 h_15 l_7.b (l_7.o + Int.toNat 1 * 1) (.int .i64 n_78) ∧ (0 : Int) ≤ 2 ∧ 2 < (↑more.len : Int) ∧ Nn more.a fun l_8 ↦ ∃ (n_79 : Int), at1 h_15 l_8.b (l_8.o + Int.toNat 2 * 1) (.int .i64 n_79) ∧ (0 : Int) ≤ 3 ∧ 3 < (↑more.len : Int) ∧ Nn more.a fun l_9 ↦ ∃ (n_80 : Int), at1 h_15 l_9.b (l_9.o + Int.toNat 3 * 1) (.int .i64 n_80) ∧ CallsH Try.prog 17 (TVs.vals [.agg [.slice s_7, .int .i64 n_55, .int .i64 n_56, .int .i64 n_57, .int .i64 n_58, .int .i64 n_59, .int .i64 n_60, .int .i64 n_61, .int .i64 n_62, .int .i64 n_63, .int .i64 n_64, .int .i64 n_65]]) h_15 fun v h_16 ↦ ∃ (n_81 : Int), v = TV.val (.int .i64 n_81) ∧ Ext h_15 h_16 ∧ CallsH Try.prog 17 (TVs.vals [.agg [.slice s_8, .int .i64 n_66, .int .i64 n_67, .int .i64 n_68, .int .i64 n_69, .int .i64 n_70, .int .i64 n_71, .int .i64 n_72, .int .i64 n_73, .int .i64 n_74, .int .i64 n_75, .int .i64 n_76]]) h_16 fun v h_17 ↦ ∃ (n_82 : Int), v = TV.val (.int .i64 n_82) ∧ Ext h_16 h_17 ∧ If (decide (n_81 = n_82) == decide (IntKind.wrap .i64 (IntKind.wrap .i64 (IntKind.wrap .i64 (n_77 + n_78) + n_79) + n_80) = 0)) (Nn s_4.fst fun l ↦ ∃ (n n_83 n_84 n_85 n_86 n_87 : Int), (at1 h_17 l.b l.o (.int .i64 n) ∧ at1 h_17 l.b (l.o + 1) (.int .i64 n_83) ∧ at1 h_17 l.b (l.o + 1 + 1) (.int .i64 n_84) ∧ at1 h_17 l.b (l.o + 1 + 1 + 1) (.int .i64 n_85) ∧ at1 h_17 l.b (l.o + 1 + 1 + 1 + 1) (.int .i64 n_86) ∧ at1 h_17 l.b (l.o + 1 + 1 + 1 + 1 + 1) (.int .i64 n_87)) ∧ ∃ (s : Sl), ∃ (n_88 n_89 n_90 n_91 n_92 n_93 n_94 n_95 n_96 n_97 n_98 : Int), (at1 h_17 h.size 0 (slVal s) ∧ at1 h_17 h.size 1 (.int .i64 n_88) ∧ at1 h_17 h.size 2 (.int .i64 n_89) ∧ at1 h_17 h.size 3 (.int .i64 n_90) ∧ at1 h_17 h.size 4 (.int .i64 n_91) ∧ at1 h_17 h.size 5 (.int .i64 n_92) ∧ at1 h_17 h.size 6 (.int .i64 n_93) ∧ at1 h_17 h.size 7 (.int .i64 n_94) ∧ at1 h_17 h.size 8 (.int .i64 n_95) ∧ at1 h_17 h.size 9 (.int .i64 n_96) ∧ at1 h_17 h.size 10 (.int .i64 n_97) ∧ at1 h_17 h.size 11 (.int .i64 n_98)) ∧ CallsH Try.prog 12 (TVs.vals [.agg [.int .i64 n, .int .i64 n_83, .int .i64 n_84, .int .i64 n_85, .int .i64 n_86, .int .i64 n_87]]) h_17 fun v h ↦ ∃ (n : Int), v = TV.val (.int .i64 n) ∧ Ext h_17 h ∧ CallsH Try.prog 17 (TVs.vals [.agg [.slice s, .int .i64 n_88, .int .i64 n_89, .int .i64 n_90, .int .i64 n_91, .int .i64 n_92, .int .i64 n_93, .int .i64 n_94, .int .i64 n_95, .int .i64 n_96, .int .i64 n_97, .int .i64 n_98]]) h fun v h ↦ ∃ (n_99 : Int), v = TV.val (.int .i64 n_99) ∧ R (TV.val (.bool (decide (n = n_99)))) h) (R (TV.val (.bool false)) h_17)) (R (TV.val (.bool false)) h_15)) (R (TV.val (.bool false)) h_13)) fun (J : Option Go.Vc.Loc × Option Go.Vc.Loc → Array Obj → Prop) ↦ ∃ (s : Sl), ∃ (n n_19 n_20 n_21 n_22 n_23 n_24 n_25 n_26 n_27 n_28 : Int), (at1 h_11 h.size 0 (slVal s) ∧ at1 h_11 h.size 1 (.int .i64 n) ∧ at1 h_11 h.size 2 (.int .i64 n_19) ∧ at1 h_11 h.size 3 (.int .i64 n_20) ∧ at1 h_11 h.size 4 (.int .i64 n_21) ∧ at1 h_11 h.size 5 (.int .i64 n_22) ∧ at1 h_11 h.size 6 (.int .i64 n_23) ∧ at1 h_11 h.size 7 (.int .i64 n_24) ∧ at1 h_11 h.size 8 (.int .i64 n_25) ∧ at1 h_11 h.size 9 (.int .i64 n_26) ∧ at1 h_11 h.size 10 (.int .i64 n_27) ∧ at1 h_11 h.size 11 (.int .i64 n_28)) ∧ ∃ (s_4 : Sl), ∃ (n_29 n_30 n_31 n_32 n_33 n_34 n_35 n_36 n_37 n_38 n_39 : Int), (at1 h_11 h_3.size 0 (slVal s_4) ∧ at1 h_11 h_3.size 1 (.int .i64 n_29) ∧ at1 h_11 h_3.size 2 (.int .i64 n_30) ∧ at1 h_11 h_3.size 3 (.int .i64 n_31) ∧ at1 h_11 h_3.size 4 (.int .i64 n_32) ∧ at1 h_11 h_3.size 5 (.int .i64 n_33) ∧ at1 h_11 h_3.size 6 (.int .i64 n_34) ∧ at1 h_11 h_3.size 7 (.int .i64 n_35) ∧ at1 h_11 h_3.size 8 (.int .i64 n_36) ∧ at1 h_11 h_3.size 9 (.int .i64 n_37) ∧ at1 h_11 h_3.size 10 (.int .i64 n_38) ∧ at1 h_11 h_3.size 11 (.int .i64 n_39)) ∧ (CallsH Try.prog 15 (TVs.vals [.agg [.slice s, .int .i64 n, .int .i64 n_19, .int .i64 n_20, .int .i64 n_21, .int .i64 n_22, .int .i64 n_23, .int .i64 n_24, .int .i64 n_25, .int .i64 n_26, .int .i64 n_27, .int .i64 n_28]]) h_11 fun v h ↦ ∃ (n n_40 n_41 n_42 n_43 n_44 : Int), v = TV.val (.agg [.int .i64 n, .int .i64 n_40, .int .i64 n_41, .int .i64 n_42, .int .i64 n_43, .int .i64 n_44]) ∧ Ext h_11 h ∧ (CallsH Try.prog 15 (TVs.vals [.agg [.slice s_4, .int .i64 n_29, .int .i64 n_30, .int .i64 n_31, .int .i64 n_32, .int .i64 n_33, .int .i64 n_34, .int .i64 n_35, .int .i64 n_36, .int .i64 n_37, .int .i64 n_38, .int .i64 n_39]]) h fun v h ↦ ∃ (n_45 n_46 n_47 n_48 n_49 n_50 : Int), v = TV.val (.agg [.int .i64 n_45, .int .i64 n_46, .int .i64 n_47, .int .i64 n_48, .int .i64 n_49, .int .i64 n_50]) ∧ (Vc.Bind (newTV h (.agg [.int .i64 0, .int .i64 0, .int .i64 0, .int .i64 0, .int .i64 0, .int .i64 0]) 29) fun h_12 ↦ Ext h h_12 ∧ Vc.Bind (newTV h_12 (.agg [.int .i64 0, .int .i64 0, .int .i64 0, .int .i64 0, .int .i64 0, .int .i64 0]) 29) fun h_13 ↦ Ext h_12 h_13 ∧ wok h_13 h.size 0 6 ∧ Vc.Bind (TV.put h_13 h.size 0 (.agg [.int .i64 n, .int .i64 n_40, .int .i64 n_41, .int .i64 n_42, .int .i64 n_43, .int .i64 n_44])) fun h_14 ↦ wok h_14 h_12.size 0 6 ∧ Vc.Bind (TV.put h_14 h_12.size 0 (.agg [.int .i64 n_45, .int .i64 n_46, .int .i64 n_47, .int .i64 n_48, .int .i64 n_49, .int .i64 n_50])) fun h_15 ↦ J (some (Loc.mk h.size 0), some (Loc.mk h_12.size 0)) h_15) ∧ Vc.Bind (newTV h (.agg [.int .i64 0, .int .i64 0, .int .i64 0, .int .i64 0, .int .i64 0, .int .i64 0]) 29) fun h_12 ↦ Ext h h_12 ∧ Vc.Bind (newTV h_12 (.agg [.int .i64 0, .int .i64 0, .int .i64 0, .int .i64 0, .int .i64 0, .int .i64 0]) 29) fun h_13 ↦ Ext h_12 h_13 ∧ wok h_13 h_12.size 0 6 ∧ Vc.Bind (TV.put h_13 h_12.size 0 (.agg [.int .i64 n, .int .i64 n_40, .int .i64 n_41, .int .i64 n_42, .int .i64 n_43, .int .i64 n_44])) fun h_14 ↦ wok h_14 h.size 0 6 ∧ Vc.Bind (TV.put h_14 h.size 0 (.agg [.int .i64 n_45, .int .i64 n_46, .int .i64 n_47, .int .i64 n_48, .int .i64 n_49, .int .i64 n_50])) fun h_15 ↦ J (some (Loc.mk h_12.size 0), some (Loc.mk h.size 0)) h_15) ∧ (Vc.Bind (newTV h (.agg [.int .i64 0, .int .i64 0, .int .i64 0, .int .i64 0, .int .i64 0, .int .i64 0]) 29) fun h_12 ↦ Ext h h_12 ∧ (CallsH Try.prog 15 (TVs.vals [.agg [.slice s_4, .int .i64 n_29, .int .i64 n_30, .int .i64 n_31, .int .i64 n_32, .int .i64 n_33, .int .i64 n_34, .int .i64 n_35, .int .i64 n_36, .int .i64 n_37, .int .i64 n_38, .int .i64 n_39]]) h_12 fun v h_13 ↦ ∃ (n_45 n_46 n_47 n_48 n_49 n_50 : Int), v = TV.val (.agg [.int .i64 n_45, .int .i64 n_46, .int .i64 n_47, .int .i64 n_48, .int .i64 n_49, .int .i64 n_50]) ∧ Vc.Bind (newTV h_13 (.agg [.int .i64 0, .int .i64 0, .int .i64 0, .int .i64 0, .int .i64 0, .int .i64 0]) 29) fun h_14 ↦ Ext h_13 h_14 ∧ wok h_14 h.size 0 6 ∧ Vc.Bind (TV.put h_14 h.size 0 (.agg [.int .i64 n, .int .i64 n_40, .int .i64 n_41, .int .i64 n_42, .int .i64 n_43, .int .i64 n_44])) fun h_15 ↦ wok h_15 h_13.size 0 6 ∧ Vc.Bind (TV.put h_15 h_13.size 0 (.agg [.int .i64 n_45, .int .i64 n_46, .int .i64 n_47, .int .i64 n_48, .int .i64 n_49, .int .i64 n_50])) fun h_16 ↦ J (some (Loc.mk h.size 0), some (Loc.mk h_13.size 0)) h_16) ∧ Vc.Bind (newTV h_12 (.agg [.int .i64 0, .int .i64 0, .int .i64 0, .int .i64 0, .int .i64 0, .int .i64 0]) 29) fun h_13 ↦ Ext h_12 h_13 ∧ CallsH Try.prog 15 (TVs.vals [.agg [.slice s_4, .int .i64 n_29, .int .i64 n_30, .int .i64 n_31, .int .i64 n_32, .int .i64 n_33, .int .i64 n_34, .int .i64 n_35, .int .i64 n_36, .int .i64 n_37, .int .i64 n_38, .int .i64 n_39]]) h_13 fun v h_14 ↦ ∃ (n_45 n_46 n_47 n_48 n_49 n_50 : Int), v = TV.val (.agg [.int .i64 n_45, .int .i64 n_46, .int .i64 n_47, .int .i64 n_48, .int .i64 n_49, .int .i64 n_50]) ∧ wok h_14 h.size 0 6 ∧ Vc.Bind (TV.put h_14 h.size 0 (.agg [.int .i64 n, .int .i64 n_40, .int .i64 n_41, .int .i64 n_42, .int .i64 n_43, .int .i64 n_44])) fun h_15 ↦ wok h_15 h_12.size 0 6 ∧ Vc.Bind (TV.put h_15 h_12.size 0 (.agg [.int .i64 n_45, .int .i64 n_46, .int .i64 n_47, .int .i64 n_48, .int .i64 n_49, .int .i64 n_50])) fun h_16 ↦ J (some (Loc.mk h.size 0), some (Loc.mk h_12.size 0)) h_16) ∧ Vc.Bind (newTV h (.agg [.int .i64 0, .int .i64 0, .int .i64 0, .int .i64 0, .int .i64 0, .int .i64 0]) 29) fun h_12 ↦ Ext h h_12 ∧ (CallsH Try.prog 15 (TVs.vals [.agg [.slice s_4, .int .i64 n_29, .int .i64 n_30, .int .i64 n_31, .int .i64 n_32, .int .i64 n_33, .int .i64 n_34, .int .i64 n_35, .int .i64 n_36, .int .i64 n_37, .int .i64 n_38, .int .i64 n_39]]) h_12 fun v h_13 ↦ ∃ (n_45 n_46 n_47 n_48 n_49 n_50 : Int), v = TV.val (.agg [.int .i64 n_45, .int .i64 n_46, .int .i64 n_47, .int .i64 n_48, .int .i64 n_49, .int .i64 n_50]) ∧ Vc.Bind (newTV h_13 (.agg [.int .i64 0, .int .i64 0, .int .i64 0, .int .i64 0, .int .i64 0, .int .i64 0]) 29) fun h_14 ↦ Ext h_13 h_14 ∧ wok h_14 h_13.size 0 6 ∧ Vc.Bind (TV.put h_14 h_13.size 0 (.agg [.int .i64 n, .int .i64 n_40, .int .i64 n_41, .int .i64 n_42, .int .i64 n_43, .int .i64 n_44])) fun h_15 ↦ wok h_15 h.size 0 6 ∧ Vc.Bind (TV.put h_15 h.size 0 (.agg [.int .i64 n_45, .int .i64 n_46, .int .i64 n_47, .int .i64 n_48, .int .i64 n_49, .int .i64 n_50])) fun h_16 ↦ J (some (Loc.mk h_13.size 0), some (Loc.mk h.size 0)) h_16) ∧ Vc.Bind (newTV h_12 (.agg [.int .i64 0, .int .i64 0, .int .i64 0, .int .i64 0, .int .i64 0, .int .i64 0]) 29) fun h_13 ↦ Ext h_12 h_13 ∧ CallsH Try.prog 15 (TVs.vals [.agg [.slice s_4, .int .i64 n_29, .int .i64 n_30, .int .i64 n_31, .int .i64 n_32, .int .i64 n_33, .int .i64 n_34, .int .i64 n_35, .int .i64 n_36, .int .i64 n_37, .int .i64 n_38, .int .i64 n_39]]) h_13 fun v h_14 ↦ ∃ (n_45 n_46 n_47 n_48 n_49 n_50 : Int), v = TV.val (.agg [.int .i64 n_45, .int .i64 n_46, .int .i64 n_47, .int .i64 n_48, .int .i64 n_49, .int .i64 n_50]) ∧ wok h_14 h_12.size 0 6 ∧ Vc.Bind (TV.put h_14 h_12.size 0 (.agg [.int .i64 n, .int .i64 n_40, .int .i64 n_41, .int .i64 n_42, .int .i64 n_43, .int .i64 n_44])) fun h_15 ↦ wok h_15 h.size 0 6 ∧ Vc.Bind (TV.put h_15 h.size 0 (.agg [.int .i64 n_45, .int .i64 n_46, .int .i64 n_47, .int .i64 n_48, .int .i64 n_49, .int .i64 n_50])) fun h_16 ↦ J (some (Loc.mk h_12.size 0), some (Loc.mk h.size 0)) h_16) ∧ (Vc.Bind (newTV h_11 (.agg [.int .i64 0, .int .i64 0, .int .i64 0, .int .i64 0, .int .i64 0, .int .i64 0]) 29) fun h ↦ Ext h_11 h ∧ (CallsH Try.prog 15 (TVs.vals [.agg [.slice s, .int .i64 n, .int .i64 n_19, .int .i64 n_20, .int .i64 n_21, .int .i64 n_22, .int .i64 n_23, .int .i64 n_24, .int .i64 n_25, .int .i64 n_26, .int .i64 n_27, .int .i64 n_28]]) h fun v h_12 ↦ ∃ (n n_40 n_41 n_42 n_43 n_44 : Int), v = TV.val (.agg [.int .i64 n, .int .i64 n_40, .int .i64 n_41, .int .i64 n_42, .int .i64 n_43, .int .i64 n_44]) ∧ Ext h h_12 ∧ (CallsH Try.prog 15 (TVs.vals [.agg [.slice s_4, .int .i64 n_29, .int .i64 n_30, .int .i64 n_31, .int .i64 n_32, .int .i64 n_33, .int .i64 n_34, .int .i64 n_35, .int .i64 n_36, .int .i64 n_37, .int .i64 n_38, .int .i64 n_39]]) h_12 fun v h ↦ ∃ (n_45 n_46 n_47 n_48 n_49 n_50 : Int), v = TV.val (.agg [.int .i64 n_45, .int .i64 n_46, .int .i64 n_47, .int .i64 n_48, .int .i64 n_49, .int .i64 n_50]) ∧ Vc.Bind (newTV h (.agg [.int .i64 0, .int .i64 0, .int .i64 0, .int .i64 0, .int .i64 0, .int .i64 0]) 29) fun h_13 ↦ Ext h h_13 ∧ wok h_13 h_11.size 0 6 ∧ Vc.Bind (TV.put h_13 h_11.size 0 (.agg [.int .i64 n, .int .i64 n_40, .int .i64 n_41, .int .i64 n_42, .int .i64 n_43, .int .i64 n_44])) fun h_14 ↦ wok h_14 h.size 0 6 ∧ Vc.Bind (TV.put h_14 h.size 0 (.agg [.int .i64 n_45, .int .i64 n_46, .int .i64 n_47, .int .i64 n_48, .int .i64 n_49, .int .i64 n_50])) fun h_15 ↦ J (some (Loc.mk h_11.size 0), some (Loc.mk h.size 0)) h_15) ∧ Vc.Bind (newTV h_12 (.agg [.int .i64 0, .int .i64 0, .int .i64 0, .int .i64 0, .int .i64 0, .int .i64 0]) 29) fun h ↦ Ext h_12 h ∧ CallsH Try.prog 15 (TVs.vals [.agg [.slice s_4, .int .i64 n_29, .int .i64 n_30, .int .i64 n_31, .int .i64 n_32, .int .i64 n_33, .int .i64 n_34, .int .i64 n_35, .int .i64 n_36, .int .i64 n_37, .int .i64 n_38, .int .i64 n_39]]) h fun v h ↦ ∃ (n_45 n_46 n_47 n_48 n_49 n_50 : Int), v = TV.val (.agg [.int .i64 n_45, .int .i64 n_46, .int .i64 n_47, .int .i64 n_48, .int .i64 n_49, .int .i64 n_50]) ∧ wok h h_11.size 0 6 ∧ Vc.Bind (TV.put h h_11.size 0 (.agg [.int .i64 n, .int .i64 n_40, .int .i64 n_41, .int .i64 n_42, .int .i64 n_43, .int .i64 n_44])) fun h ↦ wok h h_12.size 0 6 ∧ Vc.Bind (TV.put h h_12.size 0 (.agg [.int .i64 n_45, .int .i64 n_46, .int .i64 n_47, .int .i64 n_48, .int .i64 n_49, .int .i64 n_50])) fun h ↦ J (some (Loc.mk h_11.size 0), some (Loc.mk h_12.size 0)) h) ∧ Vc.Bind (newTV h (.agg [.int .i64 0, .int .i64 0, .int .i64 0, .int .i64 0, .int .i64 0, .int .i64 0]) 29) fun h_12 ↦ Ext h h_12 ∧ CallsH Try.prog 15 (TVs.vals [.agg [.slice s, .int .i64 n, .int .i64 n_19, .int .i64 n_20, .int .i64 n_21, .int .i64 n_22, .int .i64 n_23, .int .i64 n_24, .int .i64 n_25, .int .i64 n_26, .int .i64 n_27, .int .i64 n_28]]) h_12 fun v h_13 ↦ ∃ (n n_40 n_41 n_42 n_43 n_44 : Int), v = TV.val (.agg [.int .i64 n, .int .i64 n_40, .int .i64 n_41, .int .i64 n_42, .int .i64 n_43, .int .i64 n_44]) ∧ Ext h_12 h_13 ∧ CallsH Try.prog 15 (TVs.vals [.agg [.slice s_4, .int .i64 n_29, .int .i64 n_30, .int .i64 n_31, .int .i64 n_32, .int .i64 n_33, .int .i64 n_34, .int .i64 n_35, .int .i64 n_36, .int .i64 n_37, .int .i64 n_38, .int .i64 n_39]]) h_13 fun v h_14 ↦ ∃ (n_45 n_46 n_47 n_48 n_49 n_50 : Int), v = TV.val (.agg [.int .i64 n_45, .int .i64 n_46, .int .i64 n_47, .int .i64 n_48, .int .i64 n_49, .int .i64 n_50]) ∧ wok h_14 h_11.size 0 6 ∧ Vc.Bind (TV.put h_14 h_11.size 0 (.agg [.int .i64 n, .int .i64 n_40, .int .i64 n_41, .int .i64 n_42, .int .i64 n_43, .int .i64 n_44])) fun h_15 ↦ wok h_15 h.size 0 6 ∧ Vc.Bind (TV.put h_15 h.size 0 (.agg [.int .i64 n_45, .int .i64 n_46, .int .i64 n_47, .int .i64 n_48, .int .i64 n_49, .int .i64 n_50])) fun h_16 ↦ J (some (Loc.mk h_11.size 0), some (Loc.mk h.size 0)) h_16) ∧ Vc.Bind (newTV h_11 (.agg [.int .i64 0, .int .i64 0, .int .i64 0, .int .i64 0, .int .i64 0, .int .i64 0]) 29) fun h ↦ Ext h_11 h ∧ (CallsH Try.prog 15 (TVs.vals [.agg [.slice s, .int .i64 n, .int .i64 n_19, .int .i64 n_20, .int .i64 n_21, .int .i64 n_22, .int .i64 n_23, .int .i64 n_24, .int .i64 n_25, .int .i64 n_26, .int .i64 n_27, .int .i64 n_28]]) h fun v h_12 ↦ ∃ (n n_40 n_41 n_42 n_43 n_44 : Int), v = TV.val (.agg [.int .i64 n, .int .i64 n_40, .int .i64 n_41, .int .i64 n_42, .int .i64 n_43, .int .i64 n_44]) ∧ Ext h h_12 ∧ (CallsH Try.prog 15 (TVs.vals [.agg [.slice s_4, .int .i64 n_29, .int .i64 n_30, .int .i64 n_31, .int .i64 n_32, .int .i64 n_33, .int .i64 n_34, .int .i64 n_35, .int .i64 n_36, .int .i64 n_37, .int .i64 n_38, .int .i64 n_39]]) h_12 fun v h ↦ ∃ (n_45 n_46 n_47 n_48 n_49 n_50 : Int), v = TV.val (.agg [.int .i64 n_45, .int .i64 n_46, .int .i64 n_47, .int .i64 n_48, .int .i64 n_49, .int .i64 n_50]) ∧ Vc.Bind (newTV h (.agg [.int .i64 0, .int .i64 0, .int .i64 0, .int .i64 0, .int .i64 0, .int .i64 0]) 29) fun h_13 ↦ Ext h h_13 ∧ wok h_13 h.size 0 6 ∧ Vc.Bind (TV.put h_13 h.size 0 (.agg [.int .i64 n, .int .i64 n_40, .int .i64 n_41, .int .i64 n_42, .int .i64 n_43, .int .i64 n_44])) fun h_14 ↦ wok h_14 h_11.size 0 6 ∧ Vc.Bind (TV.put h_14 h_11.size 0 (.agg [.int .i64 n_45, .int .i64 n_46, .int .i64 n_47, .int .i64 n_48, .int .i64 n_49, .int .i64 n_50])) fun h_15 ↦ J (some (Loc.mk h.size 0), some (Loc.mk h_11.size 0)) h_15) ∧ Vc.Bind (newTV h_12 (.agg [.int .i64 0, .int .i64 0, .int .i64 0, .int .i64 0, .int .i64 0, .int .i64 0]) 29) fun h ↦ Ext h_12 h ∧ CallsH Try.prog 15 (TVs.vals [.agg [.slice s_4, .int .i64 n_29, .int .i64 n_30, .int .i64 n_31, .int .i64 n_32, .int .i64 n_33, .int .i64 n_34, .int .i64 n_35, .int .i64 n_36, .int .i64 n_37, .int .i64 n_38, .int .i64 n_39]]) h fun v h ↦ ∃ (n_45 n_46 n_47 n_48 n_49 n_50 : Int), v = TV.val (.agg [.int .i64 n_45, .int .i64 n_46, .int .i64 n_47, .int .i64 n_48, .int .i64 n_49, .int .i64 n_50]) ∧ wok h h_12.size 0 6 ∧ Vc.Bind (TV.put h h_12.size 0 (.agg [.int .i64 n, .int .i64 n_40, .int .i64 n_41, .int .i64 n_42, .int .i64 n_43, .int .i64 n_44])) fun h ↦ wok h h_11.size 0 6 ∧ Vc.Bind (TV.put h h_11.size 0 (.agg [.int .i64 n_45, .int .i64 n_46, .int .i64 n_47, .int .i64 n_48, .int .i64 n_49, .int .i64 n_50])) fun h ↦ J (some (Loc.mk h_12.size 0), some (Loc.mk h_11.size 0)) h) ∧ Vc.Bind (newTV h (.agg [.int .i64 0, .int .i64 0, .int .i64 0, .int .i64 0, .int .i64 0, .int .i64 0]) 29) fun h_12 ↦ Ext h h_12 ∧ CallsH Try.prog 15 (TVs.vals [.agg [.slice s, .int .i64 n, .int .i64 n_19, .int .i64 n_20, .int .i64 n_21, .int .i64 n_22, .int .i64 n_23, .int .i64 n_24, .int .i64 n_25, .int .i64 n_26, .int .i64 n_27, .int .i64 n_28]]) h_12 fun v h_13 ↦ ∃ (n n_40 n_41 n_42 n_43 n_44 : Int), v = TV.val (.agg [.int .i64 n, .int .i64 n_40, .int .i64 n_41, .int .i64 n_42, .int .i64 n_43, .int .i64 n_44]) ∧ Ext h_12 h_13 ∧ CallsH Try.prog 15 (TVs.vals [.agg [.slice s_4, .int .i64 n_29, .int .i64 n_30, .int .i64 n_31, .int .i64 n_32, .int .i64 n_33, .int .i64 n_34, .int .i64 n_35, .int .i64 n_36, .int .i64 n_37, .int .i64 n_38, .int .i64 n_39]]) h_13 fun v h_14 ↦ ∃ (n_45 n_46 n_47 n_48 n_49 n_50 : Int), v = TV.val (.agg [.int .i64 n_45, .int .i64 n_46, .int .i64 n_47, .int .i64 n_48, .int .i64 n_49, .int .i64 n_50]) ∧ wok h_14 h.size 0 6 ∧ Vc.Bind (TV.put h_14 h.size 0 (.agg [.int .i64 n, .int .i64 n_40, .int .i64 n_41, .int .i64 n_42, .int .i64 n_43, .int .i64 n_44])) fun h_15 ↦ wok h_15 h_11.size 0 6 ∧ Vc.Bind (TV.put h_15 h_11.size 0 (.agg [.int .i64 n_45, .int .i64 n_46, .int .i64 n_47, .int .i64 n_48, .int .i64 n_49, .int .i64 n_50])) fun h_16 ↦ J (some (Loc.mk h.size 0), some (Loc.mk h_11.size 0)) h_16) fun (J : Bool → Array Obj → Prop) ↦ ∃ (s_3 : Sl), ∃ (n n_19 n_20 n_21 n_22 n_23 n_24 n_25 n_26 n_27 n_28 : Int), (at1 h_10 h.size 0 (slVal s_3) ∧ at1 h_10 h.size 1 (.int .i64 n) ∧ at1 h_10 h.size 2 (.int .i64 n_19) ∧ at1 h_10 h.size 3 (.int .i64 n_20) ∧ at1 h_10 h.size 4 (.int .i64 n_21) ∧ at1 h_10 h.size 5 (.int .i64 n_22) ∧ at1 h_10 h.size 6 (.int .i64 n_23) ∧ at1 h_10 h.size 7 (.int .i64 n_24) ∧ at1 h_10 h.size 8 (.int .i64 n_25) ∧ at1 h_10 h.size 9 (.int .i64 n_26) ∧ at1 h_10 h.size 10 (.int .i64 n_27) ∧ at1 h_10 h.size 11 (.int .i64 n_28)) ∧ CallsH Try.prog 19 (TVs.vals [.agg [.slice s_3, .int .i64 n, .int .i64 n_19, .int .i64 n_20, .int .i64 n_21, .int .i64 n_22, .int .i64 n_23, .int .i64 n_24, .int .i64 n_25, .int .i64 n_26, .int .i64 n_27, .int .i64 n_28]]) h_10 fun v h ↦ ∃ (b : Bool), v = TV.val (.bool b) ∧ If (!b) (R (TV.val (.bool true)) h) (∃ (s_4 : Sl), ∃ (n n_29 n_30 n_31 n_32 n_33 n_34 n_35 n_36 n_37 n_38 : Int), (at1 h h_3.size 0 (slVal s_4) ∧ at1 h h_3.size 1 (.int .i64 n) ∧ at1 h h_3.size 2 (.int .i64 n_29) ∧ at1 h h_3.size 3 (.int .i64 n_30) ∧ at1 h h_3.size 4 (.int .i64 n_31) ∧ at1 h h_3.size 5 (.int .i64 n_32) ∧ at1 h h_3.size 6 (.int .i64 n_33) ∧ at1 h h_3.size 7 (.int .i64 n_34) ∧ at1 h h_3.size 8 (.int .i64 n_35) ∧ at1 h h_3.size 9 (.int .i64 n_36) ∧ at1 h h_3.size 10 (.int .i64 n_37) ∧ at1 h h_3.size 11 (.int .i64 n_38)) ∧ CallsH Try.prog 19 (TVs.vals [.agg [.slice s_4, .int .i64 n, .int .i64 n_29, .int .i64 n_30, .int .i64 n_31, .int .i64 n_32, .int .i64 n_33, .int .i64 n_34, .int .i64 n_35, .int .i64 n_36, .int .i64 n_37, .int .i64 n_38]]) h fun v h ↦ ∃ (b : Bool), v = TV.val (.bool b) ∧ If (!b) (R (TV.val (.bool true)) h) (J s_2.fst h)))) fun (J : Bool → Array Obj → Prop) ↦ ∃ (s : Sl), ∃ (n n_1 n_2 n_3 n_4 n_5 n_6 n_7 n_8 n_9 n_10 : Int), (at1 h_2 h.size 0 (slVal s) ∧ at1 h_2 h.size 1 (.int .i64 n) ∧ at1 h_2 h.size 2 (.int .i64 n_1) ∧ at1 h_2 h.size 3 (.int .i64 n_2) ∧ at1 h_2 h.size 4 (.int .i64 n_3) ∧ at1 h_2 h.size 5 (.int .i64 n_4) ∧ at1 h_2 h.size 6 (.int .i64 n_5) ∧ at1 h_2 h.size 7 (.int .i64 n_6) ∧ at1 h_2 h.size 8 (.int .i64 n_7) ∧ at1 h_2 h.size 9 (.int .i64 n_8) ∧ at1 h_2 h.size 10 (.int .i64 n_9) ∧ at1 h_2 h.size 11 (.int .i64 n_10)) ∧ CallsH Try.prog 10 (TVs.vals [.agg [.slice s, .int .i64 n, .int .i64 n_1, .int .i64 n_2, .int .i64 n_3, .int .i64 n_4, .int .i64 n_5, .int .i64 n_6, .int .i64 n_7, .int .i64 n_8, .int .i64 n_9, .int .i64 n_10]]) h_2 fun v h ↦ ∃ (b : Bool), v = TV.val (.bool b) ∧ If b (R (TV.val (.bool true)) h) (If (!decide ((↑more.len : Int) = 4)) (R (TV.val (.bool true)) h) (J false h)))
theorem tollerlaw22_SizeMore_calls (c_Validators : Sl) (c_Epoch : Int) (c_Committee : Int) (c_Nodes : Int) (c_Orphans : Int) (c_Early : Int) (c_Quota : Int) (c_Peers : Int) (c_Bytes : Int) (c_Window : Int) (c_Ban : Int) (c_Decay : Int) (more : Sl) (h : Heap) (R : Value → Heap → Prop) (H : tollerlaw22_SizeMore_vc c_Validators c_Epoch c_Committee c_Nodes c_Orphans c_Early c_Quota c_Peers c_Bytes c_Window c_Ban c_Decay more h R) : CallsH Try.prog 4 (TVs.vals [.agg [.slice c_Validators, .int .i64 c_Epoch, .int .i64 c_Committee, .int .i64 c_Nodes, .int .i64 c_Orphans, .int .i64 c_Early, .int .i64 c_Quota, .int .i64 c_Peers, .int .i64 c_Bytes, .int .i64 c_Window, .int .i64 c_Ban, .int .i64 c_Decay], .slice more]) h R := via ctx_ok Try.func4 (by kernel_rfl) H

end Go.Proofs.Ytldocdpdjdekiaa
end

section
/- SizeMore. -/
namespace Go.Proofs.Ytldocdpdjdekiaa.Gate
open Go Go.Vc
open Board (Vd Cf vds put_n ints read_int great_spec)

/-- Of the most parts of a configuration that can be. -/
theorem most_tot {c : Cf} {V : List Vd} (hg : goodC c V = true) : mostF c V = ⟨c.no, c.orp, c.ear, c.pe, V.length, V.length * (c.win / c.ep + 2)⟩ ∧ 0 ≤ (V.length : Int) * (c.win / c.ep + 2) ∧ (V.length : Int) * (c.win / c.ep + 2) ≤ 4224 := by
  have k := good_can.1 hg
  have k1 := k.len
  have k2 := k.ep
  have k3 := k.win
  have hd1 : 0 ≤ c.win / c.ep := Int.ediv_nonneg (by omega) (by omega)
  have hd2 : c.win / c.ep ≤ 64 := by
    have := Int.ediv_le_self c.ep (show 0 ≤ c.win by omega)
    omega
  refine ⟨by unfold mostF; rw [if_pos hg], Int.mul_nonneg (by omega) (by omega), ?_⟩
  have : (V.length : Int) * (c.win / c.ep + 2) ≤ 64 * 66 := Int.mul_le_mul (by omega) (by omega) (by omega) (by omega)
  omega

theorem more_pure {c : Cf} {V : List Vd} {m0 m1 m2 m3 : Int} {d : Cf} (hd : d = { c with no := IntKind.wrap .i64 (c.no + m0), orp := IntKind.wrap .i64 (c.orp + m1), ear := IntKind.wrap .i64 (c.ear + m2), pe := IntKind.wrap .i64 (c.pe + m3) })
    (b0 : 0 ≤ m0 ∧ m0 ≤ 300) (b1 : 0 ≤ m1 ∧ m1 ≤ 300) (b2 : 0 ≤ m2 ∧ m2 ≤ 300) (b3 : 0 ≤ m3 ∧ m3 ≤ 300) (gc : goodC c V = true) (gd : goodC d V = true) :
    withinF (mostF c V) (mostF d V) = true ∧ totalF (mostF c V) ≤ totalF (mostF d V) ∧ (totalF (mostF c V) = totalF (mostF d V) ↔ IntKind.wrap .i64 (IntKind.wrap .i64 (IntKind.wrap .i64 (m0 + m1) + m2) + m3) = 0) := by
  have k := good_can.1 gc
  have k1 := k.no
  have k2 := k.orp
  have k3 := k.ear
  have k4 := k.pe
  have kl := k.len
  obtain ⟨e1, l1, u1⟩ := most_tot gc
  obtain ⟨e2, _, _⟩ := most_tot gd
  rw [hd] at e2
  simp only at e2
  rw [wrap_i64 (n := c.no + m0) (by omega) (by omega), wrap_i64 (n := c.orp + m1) (by omega) (by omega), wrap_i64 (n := c.ear + m2) (by omega) (by omega), wrap_i64 (n := c.pe + m3) (by omega) (by omega)] at e2
  rw [hd, wrap_i64 (n := c.no + m0) (by omega) (by omega), wrap_i64 (n := c.orp + m1) (by omega) (by omega), wrap_i64 (n := c.ear + m2) (by omega) (by omega), wrap_i64 (n := c.pe + m3) (by omega) (by omega), e2, e1, wrap_i64 (n := m0 + m1) (by omega) (by omega), wrap_i64 (n := m0 + m1 + m2) (by omega) (by omega), wrap_i64 (n := m0 + m1 + m2 + m3) (by omega) (by omega)]
  generalize (V.length : Int) * (c.win / c.ep + 2) = z at *
  have t1 : totalF ⟨c.no, c.orp, c.ear, c.pe, V.length, z⟩ = 96 * c.no + 384 * (c.orp + c.ear) + 16 * c.pe + 64 * V.length + 64 * z := by
    unfold totalF totalI
    exact wrap_i64 (by dsimp only; omega) (by dsimp only; omega)
  have t2 : totalF ⟨c.no + m0, c.orp + m1, c.ear + m2, c.pe + m3, V.length, z⟩ = 96 * (c.no + m0) + 384 * ((c.orp + m1) + (c.ear + m2)) + 16 * (c.pe + m3) + 64 * V.length + 64 * z := by
    unfold totalF totalI
    exact wrap_i64 (by dsimp only; omega) (by dsimp only; omega)
  rw [t1, t2]
  refine ⟨within_iff.2 ⟨?_, ?_, ?_, ?_, ?_, ?_⟩, by omega, by omega⟩ <;> (dsimp only; omega)

section
variable {R : Value → Heap → Prop} {h : Heap} {a b : Sl} {M : List Int} {c : Cf} {V : List Vd}

set_option maxRecDepth 100000 in
theorem sizeMore_spec (e : Elems 2 h c.vals (vds V)) (hk : ∀ v ∈ V, v.stake < 9223372036854775808) (em : Elems 1 h a (ints M)) (hr : ∀ h', Ext h h' → R (TV.bool true).val h') :
    CallsH Try.prog F.tollerlaw22_SizeMore (TVs.vals [c.tv, .slice a]) h R := by
  apply tollerlaw22_SizeMore_calls c.vals c.ep c.com c.no c.orp c.ear c.quo c.pe c.by_ c.win c.ban c.dec
  unfold tollerlaw22_SizeMore_vc
  refine newTV_in fun h1 v1 x1 s1 => alive_spec fun h2 x2 => ⟨_, rfl, If.no ?_⟩
  have v2 : Var 24 h2 h.size c.tv := v1.ext x2
  have x02 := x1.trans x2
  intro J HJ
  refine ⟨c.vals, c.ep, c.com, c.no, c.orp, c.ear, c.quo, c.pe, c.by_, c.win, c.ban, c.dec, v2.at, ?_⟩
  refine great_spec (c := c) (e.ext x02) (fun h3 x3 => ⟨_, rfl, If.yes (hr h3 (x02.trans x3))⟩) fun h3 x3 lc => ⟨_, rfl, If.no ?_⟩
  have x03 := x02.trans x3
  refine If.split (fun _ => hr h3 x03) fun n1 => HJ _ h3 ?_
  have lM : M.length = 4 := by
    have h1 := em.len
    rw [List.length_map] at h1
    have h2 : (a.len : Int) = 4 := by simpa using n1
    omega
  clear HJ n1
  have v3 : Var 24 h3 h.size c.tv := v2.ext x3
  refine ⟨c.vals, c.ep, c.com, c.no, c.orp, c.ear, c.quo, c.pe, c.by_, c.win, c.ban, c.dec, v3.at, ?_⟩
  refine newTV_in fun h4 v4 x4 s4 => put_n (t := c.tv) v4 rfl rfl fun h5 v5 f5 s5 => ?_
  have z1 := x1.size
  have z2 := x2.size
  have z3 := x3.size
  have x35 : Ext h3 h5 := Only.cut x4 f5 fun i hi => Nat.le_of_eq (Eq.symm hi)
  have w5 : Var 24 h5 h.size c.tv := v3.ext x35
  have v5 : Var 24 h5 h3.size c.tv := v5
  have x05 := x03.trans x35
  refine ⟨c.no, w5.at1 rfl, read_int (em.ext x05) (i := 0) (by decide) (by omega) fun m0 g0 => ?_⟩
  refine field_in (i := 3) (t := .int .i64 (IntKind.wrap .i64 (c.no + m0))) (t0 := .int .i64 c.no) v5 rfl rfl rfl rfl fun h6 v6 f6 s6 => ?_
  have w6 : Var 24 h6 h.size c.tv := w5.only f6 (by omega)
  have x06 : Ext h h6 := Only.cut x05 f6 fun i hi => by have hi : i = h3.size := hi; omega
  refine ⟨c.orp, w6.at1 rfl, read_int (em.ext x06) (i := 1) (by decide) (by omega) fun m1 g1 => ?_⟩
  refine field_in (i := 4) (t := .int .i64 (IntKind.wrap .i64 (c.orp + m1))) (t0 := .int .i64 c.orp) v6 rfl rfl rfl rfl fun h7 v7 f7 s7 => ?_
  have w7 : Var 24 h7 h.size c.tv := w6.only f7 (by omega)
  have x07 : Ext h h7 := Only.cut x06 f7 fun i hi => by have hi : i = h3.size := hi; omega
  refine ⟨c.ear, w7.at1 rfl, read_int (em.ext x07) (i := 2) (by decide) (by omega) fun m2 g2 => ?_⟩
  refine field_in (i := 5) (t := .int .i64 (IntKind.wrap .i64 (c.ear + m2))) (t0 := .int .i64 c.ear) v7 rfl rfl rfl rfl fun h8 v8 f8 s8 => ?_
  have w8 : Var 24 h8 h.size c.tv := w7.only f8 (by omega)
  have x08 : Ext h h8 := Only.cut x07 f8 fun i hi => by have hi : i = h3.size := hi; omega
  refine ⟨c.pe, w8.at1 rfl, read_int (em.ext x08) (i := 3) (by decide) (by omega) fun m3 g3 => ?_⟩
  refine field_in (i := 7) (t := .int .i64 (IntKind.wrap .i64 (c.pe + m3))) (t0 := .int .i64 c.pe) v8 rfl rfl rfl rfl fun h9 v9 f9 s9 => ?_
  have w9 : Var 24 h9 h.size c.tv := w8.only f9 (by omega)
  have x09 : Ext h h9 := Only.cut x08 f9 fun i hi => by have hi : i = h3.size := hi; omega
  clear w5 w6 w7 w8 v5 v6 v7 v8 v4
  obtain ⟨d, hd⟩ : ∃ d : Cf, d = { c with no := IntKind.wrap .i64 (c.no + m0), orp := IntKind.wrap .i64 (c.orp + m1), ear := IntKind.wrap .i64 (c.ear + m2), pe := IntKind.wrap .i64 (c.pe + m3) } := ⟨_, rfl⟩
  have vd9 : Var 24 h9 h3.size d.tv := by rw [hd]; exact v9
  have hdv : d.vals = c.vals := by rw [hd]
  have g0 : M[0]? = some m0 := g0
  have g1 : M[1]? = some m1 := g1
  have g2 : M[2]? = some m2 := g2
  have g3 : M[3]? = some m3 := g3
  refine ⟨fun σ hh => 0 ≤ σ.2 ∧ σ.2 ≤ 4 ∧ hh = h9 ∧ ∀ j : Nat, j < σ.2.toNat → ∀ x, M[j]? = some x → 0 ≤ x ∧ x ≤ 300, fun σ _ => (4 - σ.2).toNat, ⟨Int.le_refl 0, by decide, rfl, fun j hj => by simp at hj⟩, ?_⟩
  rintro ⟨t, i⟩ hh ⟨i0, i1, rfl, hall⟩
  dsimp only at i0 i1 hall ⊢
  have lMa : a.len = 4 := by have := em.len; rw [List.length_map] at this; omega
  refine If.dec.2 ⟨fun hi => ?_, fun hi => ?_⟩
  · refine read_int (em.ext x09) i0 (by omega) fun x hx => If.dec.2 ⟨fun _ => hr _ x09, fun hx0 => If.dec.2 ⟨fun _ => hr _ x09, fun hx1 => ?_⟩⟩
    rw [wrap_i64 (n := i + 1) (by omega) (by omega)]
    refine ⟨⟨by first | omega | (dsimp only; omega), by first | omega | (dsimp only; omega), rfl, fun j hj y hy => ?_⟩, by first | omega | (dsimp only; omega)⟩
    have hj : j < (i + 1).toNat := hj
    by_cases hji : j < i.toNat
    · exact hall j hji y hy
    · have : j = i.toNat := by omega
      subst this
      rw [hx] at hy
      injection hy with hy
      omega
  have hi4 : i.toNat = 4 := by omega
  rw [hi4] at hall
  have b0 := hall 0 (by decide) m0 g0
  have b1 := hall 1 (by decide) m1 g1
  have b2 := hall 2 (by decide) m2 g2
  have b3 := hall 3 (by decide) m3 g3
  intro J2 HJ2
  refine ⟨c.vals, c.ep, c.com, c.no, c.orp, c.ear, c.quo, c.pe, c.by_, c.win, c.ban, c.dec, w9.at, ?_⟩
  refine docgood2_spec (c := c) (L := V) (e.ext x09) hk (by omega) fun h10 x10 => ⟨_, rfl, ?_⟩
  refine If.split (fun _ => hr _ (x09.trans x10)) fun gc => ?_
  have gc : goodC c V = true := by simpa using gc
  have vd10 := vd9.ext x10
  refine ⟨d.vals, d.ep, d.com, d.no, d.orp, d.ear, d.quo, d.pe, d.by_, d.win, d.ban, d.dec, vd10.at, ?_⟩
  refine docgood2_spec (c := d) (L := V) (by rw [hdv]; exact e.ext (x09.trans x10)) hk (by rw [hdv]; omega) fun h11 x11 => ⟨_, rfl, ?_⟩
  have x011 := (x09.trans x10).trans x11
  refine If.split (fun _ => hr _ x011) fun gd => HJ2 _ h11 ?_
  have gd : goodC d V = true := by simpa using gd
  clear HJ2
  obtain ⟨pw, pt, pe⟩ := more_pure hd b0 b1 b2 b3 gc gd
  have vc11 : Var 24 h11 h.size c.tv := (w9.ext x10).ext x11
  have vd11 : Var 24 h11 h3.size d.tv := vd10.ext x11
  have ec : ∀ {hh}, Ext h11 hh → Elems 2 hh c.vals (vds V) := fun x => e.ext (x011.trans x)
  have ed : ∀ {hh}, Ext h11 hh → Elems 2 hh d.vals (vds V) := fun x => by rw [hdv]; exact e.ext (x011.trans x)
  have lcc : c.vals.len < 100000 := by omega
  have ldd : d.vals.len < 100000 := by rw [hdv]; omega
  intro J3 HJ3
  have fin : ∀ (hh : Heap) (qa qb : Nat), Ext h11 hh → Var T.size_Parts hh qa (mostF c V).tv → Var T.size_Parts hh qb (mostF d V).tv → J3 (some ⟨qa, 0⟩, some ⟨qb, 0⟩) hh := by
    intro hh qa qb xh va vb
    refine HJ3 _ hh ?_
    refine ⟨_, _, _, _, _, _, va.at, _, _, _, _, _, _, vb.at, within_spec (x := mostF c V) (y := mostF d V) fun h13 x13 => ⟨_, rfl, ?_⟩⟩
    rw [pw]
    have y13 := xh.trans x13
    have c13 := vc11.ext y13
    have d13 := vd11.ext y13
    refine If.yes ⟨c.vals, c.ep, c.com, c.no, c.orp, c.ear, c.quo, c.pe, c.by_, c.win, c.ban, c.dec, c13.at, d.vals, d.ep, d.com, d.no, d.orp, d.ear, d.quo, d.pe, d.by_, d.win, d.ban, d.dec, d13.at, ?_⟩
    refine bound_spec (c := c) (V := V) (ec y13) lcc fun h14 x14 => ⟨_, rfl, x14, bound_spec (c := d) (V := V) (ed (y13.trans x14)) ldd fun h15 x15 => ⟨_, rfl, ?_⟩⟩
    refine If.dec.2 ⟨fun _ => ?_, fun hn => absurd pt hn⟩
    have y15 := (y13.trans x14).trans x15
    have c15 := vc11.ext y15
    have d15 := vd11.ext y15
    refine ⟨c.vals, c.ep, c.com, c.no, c.orp, c.ear, c.quo, c.pe, c.by_, c.win, c.ban, c.dec, c15.at, d.vals, d.ep, d.com, d.no, d.orp, d.ear, d.quo, d.pe, d.by_, d.win, d.ban, d.dec, d15.at, ?_⟩
    have em15 := em.ext (x011.trans y15)
    refine read_int em15 (i := 0) (by decide) (by omega) fun k0 q0 => read_int em15 (i := 1) (by decide) (by omega) fun k1 q1 => read_int em15 (i := 2) (by decide) (by omega) fun k2 q2 => read_int em15 (i := 3) (by decide) (by omega) fun k3 q3 => ?_
    have q0 : M[0]? = some k0 := q0
    have q1 : M[1]? = some k1 := q1
    have q2 : M[2]? = some k2 := q2
    have q3 : M[3]? = some k3 := q3
    rw [g0] at q0
    rw [g1] at q1
    rw [g2] at q2
    rw [g3] at q3
    cases q0
    cases q1
    cases q2
    cases q3
    refine bound_spec (c := c) (V := V) (ec y15) lcc fun h16 x16 => ⟨_, rfl, x16, bound_spec (c := d) (V := V) (ed (y15.trans x16)) ldd fun h17 x17 => ⟨_, rfl, x17, ?_⟩⟩
    have y17 := (y15.trans x16).trans x17
    refine If.split (fun _ => ?_) fun hn => ?_
    · refine ⟨_, _, _, _, _, _, (va.ext (((x13.trans x14).trans x15).trans (x16.trans x17))).at, c.vals, c.ep, c.com, c.no, c.orp, c.ear, c.quo, c.pe, c.by_, c.win, c.ban, c.dec, (vc11.ext y17).at, ?_⟩
      refine total_spec (x := mostF c V) fun h18 x18 => ⟨_, rfl, x18, bound_spec (c := c) (V := V) (ec (y17.trans x18)) lcc fun h19 x19 => ⟨_, rfl, ?_⟩⟩
      rw [decide_eq_true rfl]
      exact hr _ (x011.trans ((y17.trans x18).trans x19))
    · exfalso
      rw [decide_eq_decide.2 pe, beq_self_eq_true] at hn
      cases hn
  have puts : ∀ (hh : Heap) (qa qb : Nat), Ext h11 hh → h11.size ≤ qa → h11.size ≤ qb → qa ≠ qb → Var T.size_Parts hh qa Pt.zero.tv → Var T.size_Parts hh qb Pt.zero.tv →
      wok hh qa 0 6 ∧ Bind (TV.put hh qa 0 (mostF c V).tv) fun h14 => wok h14 qb 0 6 ∧ Bind (TV.put h14 qb 0 (mostF d V).tv) fun h15 => J3 (some ⟨qa, 0⟩, some ⟨qb, 0⟩) h15 := by
    intro hh qa qb xh la lb hne va vb
    refine put_n (t := (mostF c V).tv) va rfl rfl fun h14 v14 f14 s14 => ?_
    refine put_n (t := (mostF d V).tv) (vb.only f14 (by omega)) rfl rfl fun h15 v15 f15 s15 => ?_
    have y14 : Ext h11 h14 := Only.cut xh f14 fun i hi => by have hi : i = qa := hi; omega
    exact fin h15 qa qb (Only.cut y14 f15 fun i hi => by have hi : i = qb := hi; omega) (v14.only f15 (by omega)) v15
  refine ⟨c.vals, c.ep, c.com, c.no, c.orp, c.ear, c.quo, c.pe, c.by_, c.win, c.ban, c.dec, vc11.at, d.vals, d.ep, d.com, d.no, d.orp, d.ear, d.quo, d.pe, d.by_, d.win, d.ban, d.dec, vd11.at, ?_⟩
  have mc : ∀ {hh : Heap} {K : Value → Heap → Prop}, Ext h11 hh → (∀ h', Ext hh h' → K (mostF c V).tv.val h') → CallsH Try.prog F.size_Most (TVs.vals [c.tv]) hh K := fun x hk => most_spec (c := c) (V := V) (ec x) lcc hk
  have md : ∀ {hh : Heap} {K : Value → Heap → Prop}, Ext h11 hh → (∀ h', Ext hh h' → K (mostF d V).tv.val h') → CallsH Try.prog F.size_Most (TVs.vals [d.tv]) hh K := fun x hk => most_spec (c := d) (V := V) (ed x) ldd hk
  refine ⟨?_, ?_, ?_⟩
  · refine mc (Ext.refl _) fun k1 y1 => ⟨_, _, _, _, _, _, rfl, y1, ⟨?_, ?_, ?_⟩⟩
    · refine md y1 fun k2 y2 => ⟨_, _, _, _, _, _, rfl, ⟨?_, ?_⟩⟩
      · refine newTV_in fun k3 u3 y3 t3 => ⟨y3, newTV_in fun k4 u4 y4 t4 => ⟨y4, ?_⟩⟩
        have g1 := y1.size
        have g2 := y2.size
        exact puts k4 k2.size k3.size (((y1.trans y2).trans y3).trans y4) (by omega) (by omega) (by omega) (u3.ext y4) u4
      · refine newTV_in fun k3 u3 y3 t3 => ⟨y3, newTV_in fun k4 u4 y4 t4 => ⟨y4, ?_⟩⟩
        have g1 := y1.size
        have g2 := y2.size
        exact puts k4 k3.size k2.size (((y1.trans y2).trans y3).trans y4) (by omega) (by omega) (by omega) u4 (u3.ext y4)
    · refine newTV_in fun k2 u2 y2 t2 => ⟨y2, ⟨?_, ?_⟩⟩
      · refine md (y1.trans y2) fun k3 y3 => ⟨_, _, _, _, _, _, rfl, newTV_in fun k4 u4 y4 t4 => ⟨y4, ?_⟩⟩
        have g1 := y1.size
        have g3 := y3.size
        exact puts k4 k1.size k3.size (((y1.trans y2).trans y3).trans y4) (by omega) (by omega) (by omega) ((u2.ext y3).ext y4) u4
      · refine newTV_in fun k3 u3 y3 t3 => ⟨y3, md ((y1.trans y2).trans y3) fun k4 y4 => ⟨_, _, _, _, _, _, rfl, ?_⟩⟩
        have g1 := y1.size
        exact puts k4 k1.size k2.size (((y1.trans y2).trans y3).trans y4) (by omega) (by omega) (by omega) ((u2.ext y3).ext y4) (u3.ext y4)
    · refine newTV_in fun k2 u2 y2 t2 => ⟨y2, ⟨?_, ?_⟩⟩
      · refine md (y1.trans y2) fun k3 y3 => ⟨_, _, _, _, _, _, rfl, newTV_in fun k4 u4 y4 t4 => ⟨y4, ?_⟩⟩
        have g1 := y1.size
        have g3 := y3.size
        exact puts k4 k3.size k1.size (((y1.trans y2).trans y3).trans y4) (by omega) (by omega) (by omega) u4 ((u2.ext y3).ext y4)
      · refine newTV_in fun k3 u3 y3 t3 => ⟨y3, md ((y1.trans y2).trans y3) fun k4 y4 => ⟨_, _, _, _, _, _, rfl, ?_⟩⟩
        have g1 := y1.size
        exact puts k4 k2.size k1.size (((y1.trans y2).trans y3).trans y4) (by omega) (by omega) (by omega) (u3.ext y4) ((u2.ext y3).ext y4)
  · refine newTV_in fun k1 u1 y1 t1 => ⟨y1, ⟨?_, ?_⟩⟩
    · refine mc y1 fun k2 y2 => ⟨_, _, _, _, _, _, rfl, y2, ⟨?_, ?_⟩⟩
      · refine md (y1.trans y2) fun k3 y3 => ⟨_, _, _, _, _, _, rfl, newTV_in fun k4 u4 y4 t4 => ⟨y4, ?_⟩⟩
        have g2 := y2.size
        have g3 := y3.size
        exact puts k4 h11.size k3.size (((y1.trans y2).trans y3).trans y4) (Nat.le_refl _) (by omega) (by omega) (((u1.ext y2).ext y3).ext y4) u4
      · refine newTV_in fun k3 u3 y3 t3 => ⟨y3, md ((y1.trans y2).trans y3) fun k4 y4 => ⟨_, _, _, _, _, _, rfl, ?_⟩⟩
        have g2 := y2.size
        exact puts k4 h11.size k2.size (((y1.trans y2).trans y3).trans y4) (Nat.le_refl _) (by omega) (by omega) (((u1.ext y2).ext y3).ext y4) (u3.ext y4)
    · refine newTV_in fun k2 u2 y2 t2 => ⟨y2, mc (y1.trans y2) fun k3 y3 => ⟨_, _, _, _, _, _, rfl, y3, md ((y1.trans y2).trans y3) fun k4 y4 => ⟨_, _, _, _, _, _, rfl, ?_⟩⟩⟩
      exact puts k4 h11.size k1.size (((y1.trans y2).trans y3).trans y4) (Nat.le_refl _) (by omega) (by omega) (((u1.ext y2).ext y3).ext y4) ((u2.ext y3).ext y4)
  · refine newTV_in fun k1 u1 y1 t1 => ⟨y1, ⟨?_, ?_⟩⟩
    · refine mc y1 fun k2 y2 => ⟨_, _, _, _, _, _, rfl, y2, ⟨?_, ?_⟩⟩
      · refine md (y1.trans y2) fun k3 y3 => ⟨_, _, _, _, _, _, rfl, newTV_in fun k4 u4 y4 t4 => ⟨y4, ?_⟩⟩
        have g2 := y2.size
        have g3 := y3.size
        exact puts k4 k3.size h11.size (((y1.trans y2).trans y3).trans y4) (by omega) (Nat.le_refl _) (by omega) u4 (((u1.ext y2).ext y3).ext y4)
      · refine newTV_in fun k3 u3 y3 t3 => ⟨y3, md ((y1.trans y2).trans y3) fun k4 y4 => ⟨_, _, _, _, _, _, rfl, ?_⟩⟩
        have g2 := y2.size
        exact puts k4 k2.size h11.size (((y1.trans y2).trans y3).trans y4) (by omega) (Nat.le_refl _) (by omega) (u3.ext y4) (((u1.ext y2).ext y3).ext y4)
    · refine newTV_in fun k2 u2 y2 t2 => ⟨y2, mc (y1.trans y2) fun k3 y3 => ⟨_, _, _, _, _, _, rfl, y3, md ((y1.trans y2).trans y3) fun k4 y4 => ⟨_, _, _, _, _, _, rfl, ?_⟩⟩⟩
      exact puts k4 k1.size h11.size (((y1.trans y2).trans y3).trans y4) (by omega) (Nat.le_refl _) (by omega) ((u2.ext y3).ext y4) (((u1.ext y2).ext y3).ext y4)

theorem sizeMore_whole (ec : ∃ L, Elems 2 h c.vals (vds L) ∧ ∀ v ∈ L, v.stake < 9223372036854775808) (em : Elems 1 h a (ints M)) (hr : ∀ h', Ext h h' → R (TV.bool true).val h') :
    CallsH Try.prog F.tollerlaw22_SizeMore (TVs.vals [c.tv, .slice a]) h R := by
  obtain ⟨V, e, hk⟩ := ec
  exact sizeMore_spec e hk em hr

end
end Go.Proofs.Ytldocdpdjdekiaa.Gate
end

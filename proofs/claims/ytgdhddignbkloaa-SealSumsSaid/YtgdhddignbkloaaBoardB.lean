/- Digests: what the program's sha makes of short texts, under what `take` makes of a block. -/
import Derived.Test.YtgdhddignbkloaaBoardA
namespace Go.Proofs.Ytgdhddignbkloaa.Board
open Go Go.Vc

/-- Elements laid behind those of a slice, whatever they came from. -/
theorem append_raw {C : Ctx} {T : TypeId} {sz : Nat} {h : Heap} {t : Sl} {ts us : List TV} {K : Sl → Heap → Prop} (hsz : (C.ti T).size = sz) (hz : (C.ti T).z.size = sz) (hpos : 0 < (C.ti T).bytes) (h0 : 0 < sz)
    (hb : (t.len + us.length) * (C.ti T).bytes ≤ 70368744177664) (o : Own T sz h t ts) (hs : ∀ u ∈ us, u.size = sz)
    (hk : ∀ t' h', Own T sz h' t' (ts ++ us) → Only (fun b => ∃ l, t.a = some l ∧ l.b = b) h h' → (∀ l, t'.a = some l → (∃ l', t.a = some l' ∧ l'.b = l.b) ∨ h.size ≤ l.b) → K t' h') :
    vcAppend C T t us.length (TVs.cells us) h K := by
  have hlu := TVs.cells_uniform us hs
  have hsize : ∀ x ∈ ts ++ us, x.size = sz := fun x hx => by
    rcases List.mem_append.1 hx with h1 | h1
    · exact o.size x h1
    · exact hs x h1
  have hlen := TVs.cells_uniform ts o.size
  have olen := o.len
  have ocap := o.cap
  refine ⟨TVs.cells ts, ?_, hb, hpos, ?_, ?_, ?_⟩
  · rw [hsz]
    exact o.elems.cells o.size h0
  · intro hroom
    rcases o.row with rfl | ⟨b, rest, ha, hbk, hr⟩
    · simp only [Sl.nil] at hroom ⊢
      exact ⟨.inl (by omega), fun l hl => by cases hl⟩
    · refine ⟨.inr (by rw [ha]; rfl), fun l hl => ?_⟩
      rw [ha] at hl
      cases hl
      rw [hsz]
      simp only [Nat.zero_add]
      have hcl : us.length * sz ≤ rest.length := by
        rw [hr]
        exact Nat.mul_le_mul_right _ (by omega)
      have hfit : t.len * sz + (TVs.cells us).length ≤ (TVs.cells ts ++ rest).length := by
        simp only [List.length_append, hlen, ← o.len, hlu]
        omega
      refine ⟨wok_row hbk hfit, ?_⟩
      obtain ⟨g1, g2, g3⟩ := putl_get (TVs.cells us) h b (t.len * sz) _ T hbk hfit
      have hcc : TVs.cells (ts ++ us) = TVs.cells ts ++ TVs.cells us := TVs.cells_append _ _
      have hrow : (putl h b (t.len * sz) (TVs.cells us))[b]? = some (Go.Vc.row (TVs.cells (ts ++ us) ++ rest.drop (us.length * sz)) T) := by
        rw [g1, hcc, ← o.len, ← hlen]
        congr 2
        simp [hlu]
      have hrl : (rest.drop (us.length * sz)).length = (t.cap - (t.len + us.length)) * sz := by
        simp only [List.length_drop, hr]
        rw [← Nat.sub_sub, Nat.sub_mul (t.cap - t.len)]
      refine hk _ _ ⟨hsize, by simp [olen], by simp only; omega, .inr ⟨b, rest.drop (us.length * sz), rfl, hrow, hrl⟩⟩ ?_ ?_
      · refine ⟨by rw [g2]; exact Nat.le_refl _, fun b' hb' hn => ?_⟩
        exact g3 b' (fun hx => hn ⟨_, ha, hx.symm⟩)
      · intro l hl
        cases hl
        exact .inl ⟨_, ha, rfl⟩
  · intro hroom hn
    rcases o.row with rfl | ⟨b, rest, ha, _⟩
    · simp only [Sl.nil] at hroom
      have hu0 : us = [] := List.eq_nil_of_length_eq_zero (by omega)
      have ht0 : ts = [] := List.eq_nil_of_length_eq_zero (by simpa [Sl.nil] using olen)
      subst hu0
      refine hk _ _ ?_ (Only.refl _ _) (fun l hl => by cases hl)
      rw [ht0]
      exact Own.nil T sz h
    · rw [ha] at hn; cases hn
  · intro hroom c hc
    refine hk _ _ ⟨hsize, by simp [olen], hc, .inr ⟨_, zeros (C.ti T).z (c - (t.len + us.length)), rfl, ?_, ?_⟩⟩ ?_ ?_
    · rw [push_get, TVs.cells_append]
    · rw [zeros_length, hz]
    · exact Only.of_ext (Ext.push _ _)
    · intro l hl
      cases hl
      exact .inr (Nat.le_refl _)

abbrev bys (bs : List UInt8) : List TV := bs.map byTV

theorem bys_size (bs : List UInt8) : ∀ u ∈ bys bs, u.size = 1 := fun u hu => by
  obtain ⟨x, _, rfl⟩ := List.mem_map.1 hu
  rfl

theorem bys_cells : ∀ bs : List UInt8, TVs.cells (bys bs) = bs.map fun c => Value.int .u8 (c.toNat : Int)
  | [] => rfl
  | c :: bs => by
    show TV.cells (byTV c) ++ TVs.cells (bys bs) = _
    rw [bys_cells bs]
    rfl

theorem bytes5 : (ctx.ti 5).bytes = 1 := by kernel_rfl
theorem size5 : (ctx.ti 5).size = 1 := by kernel_rfl
theorem zsize5 : (ctx.ti 5).z.size = 1 := by kernel_rfl

section
variable {R : Value → Heap → Prop} {h : Heap}

/-- A row of bytes that lies in blocks of Q, as all blocks to come do. -/
structure Row (Q : Nat → Prop) (h : Heap) (s : Sl) (bs : List UInt8) : Prop where
  own : Own 5 1 h s (bys bs)
  far : ∀ l, s.a = some l → Q l.b
  new : ∀ i, h.size ≤ i → Q i

theorem Row.len {Q : Nat → Prop} {s : Sl} {bs : List UInt8} (r : Row Q h s bs) : bs.length = s.len := by have := r.own.len; rwa [List.length_map] at this

theorem app_bytes {Q : Nat → Prop} {s : Sl} {bs us : List UInt8} {K : Sl → Heap → Prop} (r : Row Q h s bs) (hl : bs.length + us.length < 10000)
    (hk : ∀ s' h', Row Q h' s' (bs ++ us) → Only (In s) h h' → (∀ l, s'.a = some l → (∃ l', s.a = some l' ∧ l'.b = l.b) ∨ h.size ≤ l.b) → K s' h') :
    vcAppend ctx 5 s us.length (us.map fun c => Value.int .u8 (c.toNat : Int)) h K := by
  have rl := r.len
  have := append_raw (C := ctx) (T := 5) (us := bys us) (K := K) size5 zsize5 (by rw [bytes5]; decide) (by decide) (by rw [bytes5, List.length_map]; omega) r.own (bys_size us) fun s' h' o f b => hk s' h' ⟨by simpa [bys] using o, fun l hl => ?_, fun i hi => r.new i (Nat.le_trans f.size hi)⟩ f b
  · rw [List.length_map, bys_cells] at this
    exact this
  · rcases b l hl with ⟨l', h1, h2⟩ | h1
    · rw [← h2]; exact r.far l' h1
    · exact r.new _ h1

theorem app_byte {Q : Nat → Prop} {s : Sl} {bs : List UInt8} {c : Int} {K : Sl → Heap → Prop} (r : Row Q h s bs) (hl : bs.length < 10000) (c0 : 0 ≤ c) (c1 : c < 256)
    (hk : ∀ s' h', Row Q h' s' (bs ++ [UInt8.ofNat c.toNat]) → Only (In s) h h' → (∀ l, s'.a = some l → (∃ l', s.a = some l' ∧ l'.b = l.b) ∨ h.size ≤ l.b) → K s' h') :
    ∃ new, slAt (h.push (row (TVs.cells [TV.int .u8 c]) 5)) (Sl.mk (some (Vc.Loc.mk h.size 0)) 1 1) 1 new ∧ (∀ v ∈ new, isOne v = true) ∧ vcAppend ctx 5 s 1 new (h.push (row (TVs.cells [TV.int .u8 c]) 5)) K := by
  have rl := r.len
  refine append1 (C := ctx) (T := 5) (sz := 1) (x := .int .u8 c) size5 zsize5 (by rw [bytes5]; decide) (by rw [bytes5]; omega) r.own rfl rfl fun s' h' o f b => hk s' h' ⟨?_, fun l hl => ?_, fun i hi => r.new i (Nat.le_trans f.size hi)⟩ f b
  · have e : byTV (UInt8.ofNat c.toNat) = TV.int .u8 c := by
      unfold byTV
      rw [UInt8.toNat_ofNat']
      congr 1
      omega
    have : bys (bs ++ [UInt8.ofNat c.toNat]) = bys bs ++ [TV.int .u8 c] := by simp [bys, e]
    rw [this]
    exact o
  · rcases b l hl with ⟨l', h1, h2⟩ | h1
    · rw [← h2]; exact r.far l' h1
    · exact r.new _ h1

theorem Row.cut {Q : Nat → Prop} {s : Sl} {bs : List UInt8} (r : Row Q h s bs) {h' : Heap} (o : Only (In s) h h') : Only Q h h' := o.mono fun i ⟨l, hl, e⟩ => by rw [← e]; exact r.far l hl

/-! ### The state -/

structure St (Q : Nat → Prop) (h : Heap) (b : Nat) (w : Ws 8) (s : Sl) (bs : List UInt8) (n : Int) : Prop where
  var : Var 99 h b (.agg [.words .u32 8 w, .slice s, .int .u64 n])
  row : Row Q h s bs
  far : Q b
  apart : ∀ l, s.a = some l → l.b ≠ b

variable {Q : Nat → Prop} {b : Nat} {w : Ws 8} {s : Sl} {bs : List UInt8} {n : Int}

theorem St.words (st : St Q h b w s bs n) : atWords h b 0 .u32 8 w := st.var.at.1
theorem St.rest (st : St Q h b w s bs n) : at1 h b 8 (slVal s) := st.var.at.2.1
theorem St.count (st : St Q h b w s bs n) : at1 h b 9 (.int .u64 n) := st.var.at.2.2

/-- Behind an append to the rest, and its storing. -/
theorem St.grown {h1 : Heap} {s' : Sl} {bs' : List UInt8} (st : St Q h b w s bs n) (r1 : Row Q h1 s' bs') (o1 : Only (In s) h h1) (b1 : ∀ l, s'.a = some l → (∃ l', s.a = some l' ∧ l'.b = l.b) ∨ h.size ≤ l.b) {K : Heap → Prop}
    (hk : ∀ h2, St Q h2 b w s' bs' n → Only Q h h2 → h2.size = h1.size → K h2) : wok h1 b 8 1 ∧ Bind ((TV.slice s').put h1 b 8) K := by
  have hne : ∀ l, s'.a = some l → l.b ≠ b := fun l hl e => by
    rcases b1 l hl with ⟨l', h9, h10⟩ | h9
    · exact st.apart l' h9 (h10.trans e)
    · have := st.var.lt; omega
  have v1 := st.var.only o1 (fun ⟨l, hl, e⟩ => st.apart l hl e)
  refine field_in (i := 1) (t0 := .slice s) v1 rfl rfl rfl rfl fun h2 v2 o2 s2 => hk h2 ⟨v2, ⟨r1.own.only o2 hne, r1.far, fun i hi => r1.new i (by omega)⟩, st.far, hne⟩ ((st.row.cut o1).trans (o2.mono fun i hi => by subst hi; exact st.far)) s2

def lenAt (h : Heap) (b : Nat) : Nat := match cel h b 8 with
  | some (.slice _ l _) => l
  | _ => 0

theorem lenAt_of (hr : at1 h b 8 (slVal s)) : lenAt h b = s.len := by
  unfold Board.lenAt
  unfold at1 at hr
  rw [hr]
  rfl

/-- Bytes more, as long as there is no whole block. -/
theorem add_spec (st : St Q h b w s bs n) {text : List UInt8} (hl : bs.length + text.length < 64) (hr : ∀ h' s', St Q h' b w s' (bs ++ text) (IntKind.wrap .u64 (n + IntKind.wrap .u64 (text.length : Int))) → Only Q h h' → R (TV.tup []).val h') :
    CallsH Try.prog 60 (TVs.vals [.ptr (some ⟨b, 0⟩), .str text]) h R := by
  apply sha_state_add_calls
  unfold sha_state_add_vc
  refine ⟨n, st.count, ?_⟩
  refine field_in (i := 2) (t0 := .int .u64 n) st.var rfl rfl rfl rfl fun h1 v1 o1 s1 => ?_
  have st1 : St Q h1 b w s bs (IntKind.wrap .u64 (n + IntKind.wrap .u64 (text.length : Int))) := ⟨v1, ⟨st.row.own.only o1 st.apart, st.row.far, fun i hi => st.row.new i (by omega)⟩, st.far, st.apart⟩
  have f1 : Only Q h h1 := o1.mono fun i hi => by subst hi; exact st.far
  refine ⟨s, st1.rest, ?_⟩
  refine app_bytes st1.row (by omega) fun s' h2 r2 o2 b2 => ?_
  refine st1.grown r2 o2 b2 fun h3 st3 f3 s3 => ?_
  refine ⟨fun _ hh => hh = h3, fun _ _ => 0, rfl, ?_⟩
  rintro u hh rfl
  refine ⟨s', st3.rest, If.dec.2 ⟨fun h9 => ?_, fun _ => hr _ s' st3 (f1.trans f3)⟩⟩
  have := st3.row.len
  rw [List.length_append] at this
  omega

end
end Go.Proofs.Ytgdhddignbkloaa.Board

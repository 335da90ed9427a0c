/- Digests: the end of a digest, and the digest of two short texts, under what `take` makes of a block; a validator's lot. -/
import Derived.Test.YtgdhddignbkloaaBoardB
namespace Go.Proofs.Ytgdhddignbkloaa.Board
open Go Go.Vc
section
variable {R : Value → Heap → Prop} {h : Heap}

/-- What take makes of a block of 64 bytes. -/
def Takes (takeF : Ws 8 → List UInt8 → Ws 8) : Prop := ∀ (h : Heap) (R : Value → Heap → Prop) (b : Nat) (w : Ws 8) (s q : Sl) (bs : List UInt8) (n : Int), Var 99 h b (.agg [.words .u32 8 w, .slice s, .int .u64 n]) →
  Elems 1 h q (bys bs) → bs.length = 64 → (∀ l, q.a = some l → l.b ≠ b) →
  (∀ h', Var 99 h' b (.agg [.words .u32 8 (takeF w bs), .slice s, .int .u64 n]) → Only (· = b) h h' → R (TV.tup []).val h') → CallsH Try.prog 68 (TVs.vals [.ptr (some ⟨b, 0⟩), .slice q]) h R

theorem cut_elems {s : Sl} {ts : List TV} {i j : Nat} (e : Elems 1 h s ts) (hij : i ≤ j) (hj : j ≤ s.len) (hcap : s.len ≤ s.cap) : Elems 1 h (cutSl s i j 1) ((ts.drop i).take (j - i)) := by
  have hl := e.len
  refine ⟨by simp only [cutSl, List.length_take, List.length_drop]; omega, fun hn => ?_, fun l hla k t ht => ?_⟩
  · unfold cutSl at hn
    simp only at hn
    have : ts = [] ∨ i = j := by
      split at hn
      · right
        omega
      · left
        cases hs : s.a with
        | none => exact e.nil hs
        | some l => rw [hs] at hn; simp at hn
    rcases this with rfl | rfl
    · simp
    · simp
  · unfold cutSl at hla
    simp only at hla
    rw [List.getElem?_take] at ht
    split at ht
    · rename_i hk
      rw [List.getElem?_drop] at ht
      split at hla
      · omega
      · cases hs : s.a with
        | none => rw [hs] at hla; simp at hla
        | some l0 =>
          rw [hs] at hla
          simp only [Option.map_some, Option.some.injEq] at hla
          subst hla
          have := e.get l0 hs (i + k) t ht
          simp only [Nat.mul_one] at this ⊢
          rw [Nat.add_assoc]
          exact this
    · cases ht

theorem cut_block {s : Sl} {i j : Nat} {l : Vc.Loc} (hl : (cutSl s i j 1).a = some l) : ∃ l', s.a = some l' ∧ l'.b = l.b := by
  unfold cutSl at hl
  simp only at hl
  split at hl
  · exact ⟨l, hl, rfl⟩
  · cases hs : s.a with
    | none => rw [hs] at hl; simp at hl
    | some l0 =>
      rw [hs] at hl
      simp only [Option.map_some, Option.some.injEq] at hl
      subst hl
      exact ⟨l0, rfl, rfl⟩

theorem wrap_u8 (n : Int) : IntKind.wrap .u8 n = n % 256 := by
  unfold IntKind.wrap
  show (if (false && _) = true then _ else n % 2 ^ 8) = n % 256
  simp

theorem wrap_u8_range (n : Int) : 0 ≤ IntKind.wrap .u8 n ∧ IntKind.wrap .u8 n < 256 := by
  rw [wrap_u8]
  omega

theorem put_byte {T : TypeId} {h : Heap} {b n i o : Nat} {x : Bs n} {K : Heap → Prop} (v : Var T h b (.bytes n x)) (hi : i < n) (ho : o = i) {c : Int} (h0 : 0 ≤ c) (h1 : c < 256)
    (hk : ∀ h1, Var T h1 b (.bytes n (x.set i (UInt8.ofNat c.toNat))) → Only (· = b) h h1 → h1.size = h.size → K h1) : wok h b o 1 ∧ Bind ((TV.int .u8 c).put h b o) K := by
  subst ho
  have hl : o + (TV.int .u8 c).size ≤ (TV.bytes n x).cells.length := by rw [TV.cells_length]; simp only [TV.size]; omega
  refine ⟨v.wok (by simp only [TV.size]; omega), hk _ ?_ (put_only v hl) (put_size v hl)⟩
  have := put_row (t := .int .u8 c) v hl
  unfold Var
  rw [this]
  congr 2
  simp only [TV.cells, TV.size, Bs.set, List.map_set]
  have e : ((UInt8.ofNat c.toNat).toNat : Int) = c := by
    rw [UInt8.toNat_ofNat']
    omega
  rw [e, List.set_eq_take_append_cons_drop, if_pos (by rw [List.length_map, x.h]; exact hi)]
  simp

def lenB (n i : Int) : Int := IntKind.wrap .u8 (Int.fdiv (IntKind.wrap .u64 (n * 8)) (2 ^ min (Int.toNat (IntKind.wrap .i64 (56 - IntKind.wrap .i64 (8 * i)))) (IntKind.bits .u64)))
def lens (n : Int) : Nat → List UInt8
  | 0 => []
  | i + 1 => lens n i ++ [UInt8.ofNat (lenB n (i : Int)).toNat]

theorem lens_length (n : Int) : ∀ i, (lens n i).length = i
  | 0 => rfl
  | i + 1 => by simp [lens, lens_length n i]

def ob (x k : Int) : Int := IntKind.wrap .u8 (Int.fdiv x (2 ^ min (Int.toNat k) (IntKind.bits .u32)))
def out1 (w : Ws 8) (i : Nat) (x : Bs 32) : Bs 32 :=
  (((x.set (4 * i) (UInt8.ofNat (ob (wd w i) 24).toNat)).set (4 * i + 1) (UInt8.ofNat (ob (wd w i) 16).toNat)).set (4 * i + 2) (UInt8.ofNat (ob (wd w i) 8).toNat)).set (4 * i + 3) (UInt8.ofNat (IntKind.wrap .u8 (wd w i)).toNat)
def outF (w : Ws 8) : Nat → Bs 32
  | 0 => Bs.zero 32
  | i + 1 => out1 w i (outF w i)

/-- The whole block. -/
def fullF (bs : List UInt8) (n : Int) : List UInt8 := (bs ++ [128]) ++ List.replicate (55 - bs.length) 0 ++ lens n 8

variable {Q : Nat → Prop} {b : Nat} {w : Ws 8} {s : Sl} {bs : List UInt8} {n : Int} {takeF : Ws 8 → List UInt8 → Ws 8}

theorem end_spec (ht : Takes takeF) (st : St Q h b w s bs n) (hl : bs.length ≤ 55) (hr : ∀ h', Only Q h h' → R (TV.bytes 32 (outF (takeF w (fullF bs n)) 8)).val h') : CallsH Try.prog 61 (TVs.vals [.ptr (some ⟨b, 0⟩)]) h R := by
  apply sha_state_end_calls
  unfold sha_state_end_vc
  have blt := st.var.lt
  have slt := st.row.own.lt
  refine newTV_in fun h1 v1 x1 s1 => ?_
  -- the result's own variable is touched by nothing
  have st1 : St (fun i => Q i ∧ i ≠ h.size) h1 b w s bs n := ⟨st.var.ext x1, ⟨st.row.own.ext x1, fun l hl' => ⟨st.row.far l hl', by have := slt l hl'; omega⟩, fun i hi => ⟨st.row.new i (by omega), by omega⟩⟩, ⟨st.far, by omega⟩, st.apart⟩
  have f1 : Only Q h h1 := Only.of_ext x1
  refine ⟨n, st1.count, s, st1.rest, ?_⟩
  refine app_byte st1.row (by omega) (by decide) (by decide) fun s2 h2 r2 o2 b2 => ?_
  have e128 : UInt8.ofNat (Int.toNat 128) = 128 := by decide
  rw [e128] at r2
  refine st1.grown r2 o2 b2 fun h3 st3 f3 s3 => ?_
  refine ⟨fun _ hh => ∃ s' k, St (fun i => Q i ∧ i ≠ h.size) hh b w s' ((bs ++ [128]) ++ List.replicate k 0) n ∧ bs.length + 1 + k ≤ 56 ∧ Only (fun i => Q i ∧ i ≠ h.size) h1 hh, fun _ hh => 64 - lenAt hh b, ⟨s2, 0, by simpa using st3, by omega, f3⟩, ?_⟩
  rintro _ h4 ⟨s4, k, st4, hk, f4⟩
  have l4 := st4.row.len
  rw [List.length_append, List.length_append, List.length_singleton, List.length_replicate] at l4
  have hmod : Int.tmod (s4.len : Int) 64 = ((s4.len % 64 : Nat) : Int) := by
    rw [Int.tmod_eq_emod_of_nonneg (by omega)]
    rfl
  refine ⟨s4, st4.rest, by decide, ?_⟩
  rw [hmod]
  refine If.split (fun hne => ?_) (fun heq => ?_)
  · have hne' : ¬ s4.len % 64 = 56 := fun e => by rw [e] at hne; simp at hne
    refine ⟨s4, st4.rest, ?_⟩
    refine app_byte st4.row (by rw [List.length_append, List.length_append, List.length_singleton, List.length_replicate]; omega) (by decide) (by decide) fun s5 h5 r5 o5 b5 => ?_
    refine st4.grown r5 o5 b5 fun h6 st6 f6 s6 => ?_
    have e0 : UInt8.ofNat (Int.toNat 0) = 0 := by decide
    have er : ((bs ++ [128]) ++ List.replicate k 0) ++ [UInt8.ofNat (Int.toNat 0)] = (bs ++ [128]) ++ List.replicate (k + 1) 0 := by
      rw [e0, List.append_assoc, List.replicate_succ']
    rw [er] at st6
    have l6 := st6.row.len
    rw [List.length_append, List.length_append, List.length_singleton, List.length_replicate] at l6
    refine ⟨⟨s5, k + 1, st6, by omega, f4.trans f6⟩, ?_⟩
    have g1 := lenAt_of st4.rest
    have g2 := lenAt_of st6.rest
    dsimp only
    omega
  · have heq' : s4.len % 64 = 56 := by simp at heq; omega
    have hk2 : k = 55 - bs.length := by omega
    subst hk2
    refine ⟨fun i hh => 0 ≤ i ∧ i ≤ 8 ∧ ∃ s', St (fun i => Q i ∧ i ≠ h.size) hh b w s' (((bs ++ [128]) ++ List.replicate (55 - bs.length) 0) ++ lens n i.toNat) n ∧ Only (fun i => Q i ∧ i ≠ h.size) h1 hh, fun i _ => ((8 : Int) - i).toNat, ⟨Int.le_refl 0, by decide, s4, by simpa [lens] using st4, f4⟩, ?_⟩
    rintro i h5 ⟨i0, i1, s5, st5, f5⟩
    have l5 := st5.row.len
    rw [List.length_append, List.length_append, List.length_append, List.length_singleton, List.length_replicate, lens_length] at l5
    refine If.dec.2 ⟨fun hi => ?_, fun hi => ?_⟩
    · refine ⟨s5, st5.rest, ?_, Ext.push _ _, ?_⟩
      · rw [wrap_i64 (n := 8 * i) (by omega) (by omega), wrap_i64 (by omega) (by omega)]
        omega
      refine app_byte st5.row (by rw [List.length_append, List.length_append, List.length_append, List.length_singleton, List.length_replicate, lens_length]; omega) (wrap_u8_range _).1 (wrap_u8_range _).2 fun s6 h6 r6 o6 b6 => ?_
      refine st5.grown r6 o6 b6 fun h7 st7 f7 s7 => ?_
      rw [wrap_i64 (n := i + 1) (by omega) (by omega)]
      have hi1 : (i + 1).toNat = i.toNat + 1 := by omega
      refine ⟨⟨by omega, by omega, s6, ?_, f5.trans f7⟩, by first | omega | (dsimp only; omega)⟩
      rw [hi1]
      unfold lens lenB
      rw [show ((i.toNat : Nat) : Int) = i by omega, ← List.append_assoc]
      exact st7
    · have hi2 : i.toNat = 8 := by omega
      rw [hi2] at st5 l5
      have full : ((bs ++ [128]) ++ List.replicate (55 - bs.length) 0) ++ lens n 8 = fullF bs n := rfl
      rw [full] at st5
      have l64 : (fullF bs n).length = 64 := by
        unfold fullF
        rw [List.length_append, List.length_append, List.length_append, List.length_singleton, List.length_replicate, lens_length]
        omega
      refine ⟨fun _ hh => (∃ s', St (fun i => Q i ∧ i ≠ h.size) hh b w s' (fullF bs n) n ∧ Only (fun i => Q i ∧ i ≠ h.size) h1 hh) ∨ (∃ z : Sl, z.len = 0 ∧ Var 99 hh b (.agg [.words .u32 8 (takeF w (fullF bs n)), .slice z, .int .u64 n]) ∧ Only (fun i => Q i ∧ i ≠ h.size) h1 hh), fun _ hh => lenAt hh b, .inl ⟨s5, st5, f5⟩, ?_⟩
      rintro _ h6 (⟨s6, st6, f6⟩ | ⟨z, hz, vz, fz⟩)
      · have l6 := st6.row.len
        refine ⟨s6, st6.rest, If.dec.2 ⟨fun _ => ?_, fun h9 => by omega⟩⟩
        refine ⟨s6, st6.rest, by decide, by have := st6.row.own.cap; omega, ?_⟩
        have ec := cut_elems (i := 0) (j := 64) st6.row.own.elems (by omega) (by omega) st6.row.own.cap
        have et : ((bys (fullF bs n)).drop 0).take (64 - 0) = bys (fullF bs n) := by
          rw [List.drop_zero, List.take_of_length_le (by rw [List.length_map, l64]; decide)]
        rw [et] at ec
        refine ht h6 _ b w s6 (cutSl s6 0 64 1) (fullF bs n) n st6.var ec l64 (fun l hl => by
          obtain ⟨l', h1, h2⟩ := cut_block hl
          rw [← h2]
          exact st6.apart l' h1) fun h7 v7 o7 => ⟨rfl, ?_⟩
        refine ⟨s6, v7.at.2.1, by decide, by omega, ?_⟩
        refine field_in (i := 1) (t0 := .slice s6) v7 rfl rfl rfl rfl fun h8 v8 o8 s8 => ?_
        refine ⟨.inr ⟨cutSl s6 64 s6.len 1, by simp only [cutSl]; omega, v8, f6.trans ((o7.mono fun i hi => by subst hi; exact st6.far).trans (o8.mono fun i hi => by subst hi; exact st6.far))⟩, ?_⟩
        have g1 := lenAt_of st6.rest
        have g2 : lenAt h8 b = (cutSl s6 64 s6.len 1).len := lenAt_of v8.at.2.1
        simp only [cutSl] at g2
        dsimp only
        omega
      · refine ⟨z, vz.at.2.1, If.dec.2 ⟨fun h9 => by omega, fun _ => ?_⟩⟩
        refine newTV_in fun h7 v7 x7 s7 => ?_
        have vz7 := vz.ext x7
        refine ⟨takeF w (fullF bs n), vz7.at.1, ?_⟩
        have f6s := fz.size
        refine ⟨fun i hh => 0 ≤ i ∧ i ≤ 8 ∧ Var 26 hh h6.size (.bytes 32 (outF (takeF w (fullF bs n)) i.toNat)) ∧ Only (· = h6.size) h7 hh, fun i _ => ((8 : Int) - i).toNat, ⟨Int.le_refl 0, by decide, v7, Only.refl _ _⟩, ?_⟩
        rintro i h8 ⟨i0, i1, v8, o8⟩
        refine If.dec.2 ⟨fun hi => ?_, fun hi => ?_⟩
        · rw [wrap_i64 (n := 4 * i) (by omega) (by omega), wrap_i64 (n := 4 * i + 1) (by omega) (by omega), wrap_i64 (n := 4 * i + 2) (by omega) (by omega), wrap_i64 (n := 4 * i + 3) (by omega) (by omega), wrap_i64 (n := i + 1) (by omega) (by omega)]
          refine ⟨i0, by omega, by decide, by decide, by decide, by omega, by omega, put_byte v8 (i := 4 * i.toNat) (by omega) (by omega) (wrap_u8_range _).1 (wrap_u8_range _).2 fun h9 v9 o9 s9 => ?_⟩
          refine ⟨by omega, by omega, put_byte v9 (i := 4 * i.toNat + 1) (by omega) (by omega) (wrap_u8_range _).1 (wrap_u8_range _).2 fun h10 v10 o10 s10 => ?_⟩
          refine ⟨by omega, by omega, put_byte v10 (i := 4 * i.toNat + 2) (by omega) (by omega) (wrap_u8_range _).1 (wrap_u8_range _).2 fun h11 v11 o11 s11 => ?_⟩
          refine ⟨by omega, by omega, put_byte v11 (i := 4 * i.toNat + 3) (by omega) (by omega) (wrap_u8_range _).1 (wrap_u8_range _).2 fun h12 v12 o12 s12 => ?_⟩
          have hi1 : (i + 1).toNat = i.toNat + 1 := by omega
          refine ⟨⟨by omega, by omega, ?_, o8.trans (o9.trans (o10.trans (o11.trans o12)))⟩, by first | omega | (dsimp only; omega)⟩
          rw [hi1]
          unfold outF out1 ob
          exact v12
        · have hi3 : i.toNat = 8 := by omega
          rw [hi3] at v8
          have vr : Var 26 h8 h.size (.bytes 32 (Bs.zero 32)) := ((v1.only fz (fun h9 => h9.2 rfl)).ext x7).only o8 (by omega)
          refine ⟨_, v8.bytes, put_in vr (t := .bytes 32 (outF (takeF w (fullF bs n)) 8)) (by simp only [TV.size]) fun h9 v9 o9 s9 => ⟨_, v9.bytes, ?_⟩⟩
          refine hr _ (f1.trans ((fz.mono fun i hi => hi.1).trans ((Only.of_ext x7).trans ((o8.mono fun i hi => ?_).trans (o9.mono fun i hi => ?_)))))
          · subst hi; exact st.row.new _ (by omega)
          · subst hi; exact st.row.new _ (Nat.le_refl _)

end
end Go.Proofs.Ytgdhddignbkloaa.Board

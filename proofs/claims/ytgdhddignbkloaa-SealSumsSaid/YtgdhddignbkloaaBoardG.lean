/- Members, plainly: as many as Committee says, each once; configurations that are read. -/
import Derived.Test.YtgdhddignbkloaaBoardF
namespace Go.Proofs.Ytgdhddignbkloaa.Board
open Go Go.Vc

/-! ### The plain law -/

noncomputable def whos (slot : Int) (n : Nat) : List Int := (sorted slot n).map Seat.who

theorem whos_perm (slot : Int) (n : Nat) : (whos slot n).Perm ((List.range n).map fun (i : Nat) => (i : Int)) := by
  have := (sorted_perm slot n).map Seat.who
  unfold sts at this
  rw [List.map_map] at this
  exact this

theorem whos_nodup (slot : Int) (n : Nat) : (whos slot n).Nodup := by
  rw [(whos_perm slot n).nodup_iff]
  exact List.Pairwise.map _ (fun a b (h : a ≠ b) => by omega) List.nodup_range

theorem whos_mem {slot : Int} {n : Nat} {x : Int} (h : x ∈ whos slot n) : 0 ≤ x ∧ x < n := by
  have := (whos_perm slot n).mem_iff.1 h
  obtain ⟨i, hi, rfl⟩ := List.mem_map.1 this
  have := List.mem_range.1 hi
  omega

theorem whos_length (slot : Int) (n : Nat) : (whos slot n).length = n := by rw [(whos_perm slot n).length_eq]; simp

theorem mem_eq {n : Nat} {com slot : Int} (h0 : 0 ≤ slot) (h1 : slot ≤ 1073741824) : mem n com slot = (whos slot n).take (min (max com 0) (n : Int)).toNat := by
  unfold mem whos
  rw [if_neg (by omega), List.map_take]

theorem mem_out {n : Nat} {com slot : Int} (h : slot < 0 ∨ 1073741824 < slot) : mem n com slot = [] := by
  unfold mem
  rw [if_pos h]

theorem mem_len {n : Nat} {com slot : Int} (h0 : 0 ≤ slot) (h1 : slot ≤ 1073741824) (c0 : 0 ≤ com) (c1 : com ≤ n) : ((mem n com slot).length : Int) = com := by
  rw [mem_eq h0 h1, List.length_take, whos_length]
  omega

/-- With a lesser committee: the beginning of it. -/
theorem mem_less {n : Nat} {com less slot : Int} (l0 : 0 ≤ less) : mem n (com - less) slot = (mem n com slot).take (mem n (com - less) slot).length := by
  by_cases h : slot < 0 ∨ 1073741824 < slot
  · rw [mem_out h, mem_out h]; rfl
  · rw [mem_eq (by omega) (by omega), mem_eq (by omega) (by omega), List.length_take, whos_length, List.take_take]
    congr 1
    omega

theorem idx_at : ∀ (l : List Int) (k : Int) (i : Nat) (x : Int), l.Nodup → l[i]? = some x → idx l x k = k + i
  | [], _, _, _, _, h => by cases h
  | y :: ys, k, 0, x, _, h => by
    injection h with h
    subst h
    simp [idx]
  | y :: ys, k, i + 1, x, hn, h => by
    have hn' := List.nodup_cons.1 hn
    have hx : x ∈ ys := List.mem_of_getElem? h
    have hne : x ≠ y := fun e => hn'.1 (by rw [← e]; exact hx)
    rw [idx, if_neg hne, idx_at ys (k + 1) i x hn'.2 h]
    omega

theorem idx_out : ∀ (l : List Int) (k x : Int), x ∉ l → idx l x k = -1
  | [], _, _, _ => rfl
  | y :: ys, k, x, h => by
    rw [idx, if_neg (fun e => h (by rw [e]; exact List.mem_cons_self ..)), idx_out ys _ x (fun hx => h (List.mem_cons_of_mem _ hx))]

theorem pk_all : ∀ (l : List Int), pk l (List.replicate l.length true) = l
  | [] => rfl
  | x :: xs => by
    rw [List.length_cons, List.replicate_succ, pk, if_pos rfl, pk_all xs]

theorem pk_none : ∀ (l : List Int) (n : Nat), pk l (List.replicate n false) = []
  | [], 0 => rfl
  | [], n + 1 => rfl
  | x :: xs, 0 => rfl
  | x :: xs, n + 1 => by
    rw [List.replicate_succ, pk, if_neg (by decide), pk_none xs]

theorem pk_both : ∀ (l : List Int) (r : List Bool), r.length = l.length → (pk l r).length + (pk l (r.map not)).length = l.length
  | [], [], _ => rfl
  | [], _ :: _, h => by cases h
  | _ :: _, [], h => by cases h
  | x :: xs, b :: bs, h => by
    have ih := pk_both xs bs (by simpa using h)
    cases b
    · simp [pk]; omega
    · simp [pk]; omega

theorem set_true (m : Nat) : ∀ a : Nat, (List.replicate a true ++ List.replicate (m + 1) false).set a true = List.replicate (a + 1) true ++ List.replicate m false
  | 0 => by simp [List.replicate_succ]
  | a + 1 => by
    rw [List.replicate_succ, List.cons_append, List.set_cons_succ, set_true m a, List.replicate_succ (n := a + 1), List.cons_append]

/-! ### The program -/

section
variable {R : Value → Heap → Prop} {h : Heap} {c : Cf}

/-- A configuration is read. -/
theorem cf_at {b : Nat} (v : Var 24 h b c.tv) {K : Sl → Int → Int → Int → Int → Int → Int → Int → Int → Int → Int → Int → Prop} (hk : K c.vals c.ep c.com c.no c.orp c.ear c.quo c.pe c.by_ c.win c.ban c.dec) :
    ∃ (s : Sl), ∃ (n n_1 n_2 n_3 n_4 n_5 n_6 n_7 n_8 n_9 n_10 : Int), (at1 h b 0 (slVal s) ∧ at1 h b 1 (.int .i64 n) ∧ at1 h b 2 (.int .i64 n_1) ∧ at1 h b 3 (.int .i64 n_2) ∧ at1 h b 4 (.int .i64 n_3) ∧ at1 h b 5 (.int .i64 n_4) ∧ at1 h b 6 (.int .i64 n_5) ∧ at1 h b 7 (.int .i64 n_6) ∧
      at1 h b 8 (.int .i64 n_7) ∧ at1 h b 9 (.int .i64 n_8) ∧ at1 h b 10 (.int .i64 n_9) ∧ at1 h b 11 (.int .i64 n_10)) ∧ K s n n_1 n_2 n_3 n_4 n_5 n_6 n_7 n_8 n_9 n_10 :=
  ⟨c.vals, c.ep, c.com, c.no, c.orp, c.ear, c.quo, c.pe, c.by_, c.win, c.ban, c.dec, v.at, hk⟩

theorem cfsz {c d : Cf} : c.tv.size = d.tv.size := by simp only [Cf.tv, TV.size, TVs.size]
theorem cfsz1 {c : Cf} : 12 = c.tv.size := by simp only [Cf.tv, TV.size, TVs.size]

def zeroC : Cf := ⟨Sl.nil, 0, 0, 0, 0, 0, 0, 0, 0, 0, 0, 0⟩

end
end Go.Proofs.Ytgdhddignbkloaa.Board

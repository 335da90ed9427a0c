/- What the clock's functions do, the program's and the reference's: contracts. -/
import Derived.Test.YtahoibjgojlpeaaVcL
import Derived.Test.YtahoibjgojlpeaaVsClock
namespace Go.Proofs.Ytahoibjgojlpeaa.Clock
open Go Go.Vc

/-- A clock at block b: the slot, and the window. -/
def CI (T : TypeId) (h : Heap) (b : Nat) (n w : Int) : Prop := h[b]? = some (row [.int .i64 n, .int .i64 w] T)

theorem CI.now {T : TypeId} {h : Heap} {b : Nat} {n w : Int} (hc : CI T h b n w) : at1 h b 0 (.int .i64 n) := at1_row hc rfl
theorem CI.win {T : TypeId} {h : Heap} {b : Nat} {n w : Int} (hc : CI T h b n w) : at1 h b 1 (.int .i64 w) := at1_row hc rfl
theorem CI.lt {T : TypeId} {h : Heap} {b : Nat} {n w : Int} (hc : CI T h b n w) : b < h.size := row_lt hc
theorem CI.only {T : TypeId} {h h' : Heap} {b : Nat} {n w : Int} {S : Nat → Prop} (hc : CI T h b n w) (ho : Only S h h') (hs : ¬ S b) : CI T h' b n w := by
  have hl := hc.lt
  unfold CI at *
  rw [ho.same b hl hs, hc]
theorem CI.ext {T : TypeId} {h h' : Heap} {b : Nat} {n w : Int} (hc : CI T h b n w) (e : Ext h h') : CI T h' b n w := by
  have hl := hc.lt
  unfold CI at *
  rw [e.same b hl, hc]

def clampW (w : Int) : Int := mn (mx w 1) 64

theorem clampW_le (w : Int) : 1 ≤ clampW w ∧ clampW w ≤ 64 := by unfold clampW mn mx; omega

section
variable {R : Value → Heap → Prop} {h : Heap} {b : Nat} {n w : Int}

theorem new_spec {win : Int} (hr : ∀ h', CI 58 h' h.size 0 (clampW win) → Ext h h' → h'.size = h.size + 1 → R (TV.ptr (some ⟨h.size, 0⟩)).val h') : CallsH Try.prog 20 (TVs.vals [.int .i64 win]) h R := by
  apply clock_New_calls
  unfold clock_New_vc
  exact hr _ (newTV_get _ _ _) (newTV_ext _ _ _) (newTV_size _ _ _)

theorem now_spec (hc : CI 58 h b n w) (hr : R (TV.int .i64 n).val h) : CallsH Try.prog 14 (TVs.vals [.ptr (some ⟨b, 0⟩)]) h R := by
  apply clock_Clock_Now_calls
  exact ex_int hc.now hr

theorem now_nil (hr : R (TV.int .i64 0).val h) : CallsH Try.prog 14 (TVs.vals [.ptr none]) h R := by
  apply clock_Clock_Now_calls
  exact hr

theorem tick_spec (hc : CI 58 h b n w) (hn : n < 1073741824) (h0 : 0 ≤ n) (hr : ∀ h', CI 58 h' b (n + 1) w → Only (· = b) h h' → h'.size = h.size → R (TV.bool true).val h') : CallsH Try.prog 15 (TVs.vals [.ptr (some ⟨b, 0⟩)]) h R := by
  apply clock_Clock_Tick_calls
  refine ex_int hc.now ?_
  rw [If.dec]
  refine ⟨fun hx => by omega, fun _ => ?_⟩
  refine ex_int hc.now ?_
  refine ⟨wok_row hc (by simp), ?_⟩
  rw [wrap_i64 (by omega) (by omega)]
  exact hr _ (put_row hc (by simp [TV.size])) (put_only hc (by simp [TV.size])) (put_size hc (by simp [TV.size]))

theorem tick_nil (hr : R (TV.bool false).val h) : CallsH Try.prog 15 (TVs.vals [.ptr none]) h R := by
  apply clock_Clock_Tick_calls
  exact hr

theorem first_spec (hc : CI 58 h b n w) (h0 : 0 ≤ n) (h1 : n ≤ 1073741824) (hw0 : 1 ≤ w) (hw1 : w ≤ 64) (hr : R (TV.int .i64 (mx (n - w) 0)).val h) : CallsH Try.prog 16 (TVs.vals [.ptr (some ⟨b, 0⟩)]) h R := by
  apply clock_Clock_First_calls
  refine ex_int hc.now ?_
  refine ex_int hc.win ?_
  rw [wrap_i64 (by omega) (by omega)]
  exact hr

theorem first_nil (hr : R (TV.int .i64 0).val h) : CallsH Try.prog 16 (TVs.vals [.ptr none]) h R := by
  apply clock_Clock_First_calls
  exact hr

def blockB (n final slot : Int) : Bool := decide (final < slot) && decide (slot ≤ n)

theorem block_spec (hc : CI 58 h b n w) {final slot : Int} (hr : R (TV.bool (blockB n final slot)).val h) : CallsH Try.prog 17 (TVs.vals [.ptr (some ⟨b, 0⟩), .int .i64 final, .int .i64 slot]) h R := by
  apply clock_Clock_Block_calls
  refine If.yes ?_
  unfold blockB at hr
  refine If.split (fun hd => ?_) (fun hd => ?_)
  · refine ex_int hc.now ?_
    rw [hd] at hr
    exact hr
  · rw [hd] at hr
    exact hr

theorem block_nil {final slot : Int} (hr : R (TV.bool false).val h) : CallsH Try.prog 17 (TVs.vals [.ptr none, .int .i64 final, .int .i64 slot]) h R := by
  apply clock_Clock_Block_calls
  exact hr

def voteB (n w slot : Int) : Bool := decide (mx (n - w) 0 ≤ slot) && decide (slot ≤ mn (n + 1) 1073741824)

theorem vote_spec (hc : CI 58 h b n w) (h0 : 0 ≤ n) (h1 : n ≤ 1073741824) (hw0 : 1 ≤ w) (hw1 : w ≤ 64) {slot : Int} (hr : R (TV.bool (voteB n w slot)).val h) : CallsH Try.prog 18 (TVs.vals [.ptr (some ⟨b, 0⟩), .int .i64 slot]) h R := by
  apply clock_Clock_Vote_calls
  refine If.yes ?_
  refine first_spec hc h0 h1 hw0 hw1 ⟨_, rfl, ?_⟩
  unfold voteB at hr
  refine If.split (fun hd => ?_) (fun hd => ?_)
  · refine ex_int hc.now ?_
    rw [hd] at hr
    rw [wrap_i64 (by omega) (by omega)]
    exact hr
  · rw [hd] at hr
    exact hr

theorem vote_nil {slot : Int} (hr : R (TV.bool false).val h) : CallsH Try.prog 18 (TVs.vals [.ptr none, .int .i64 slot]) h R := by
  apply clock_Clock_Vote_calls
  exact hr

theorem ripe_spec (hc : CI 58 h b n w) {slot : Int} (hr : R (TV.bool (decide (slot < n))).val h) : CallsH Try.prog 19 (TVs.vals [.ptr (some ⟨b, 0⟩), .int .i64 slot]) h R := by
  apply clock_Clock_Ripe_calls
  exact ex_int hc.now hr

theorem ripe_nil {slot : Int} (hr : R (TV.bool false).val h) : CallsH Try.prog 19 (TVs.vals [.ptr none, .int .i64 slot]) h R := by
  apply clock_Clock_Ripe_calls
  exact hr

/-! ### The reference -/

theorem rnew_spec {win : Int} (hr : ∀ h', CI 32 h' h.size 0 (clampW win) → Ext h h' → h'.size = h.size + 1 → R (TV.ptr (some ⟨h.size, 0⟩)).val h') : CallsH Try.prog 21 (TVs.vals [.int .i64 win]) h R := by
  apply tollerref09_New_calls
  refine If.dec.2 ⟨fun h1 => ?_, fun h1 => If.dec.2 ⟨fun h2 => ?_, fun h2 => ?_⟩⟩
  · have e : clampW win = 1 := by unfold clampW mn mx; omega
    rw [e] at hr
    exact hr _ (newTV_get _ _ _) (newTV_ext _ _ _) (newTV_size _ _ _)
  · have e : clampW win = 64 := by unfold clampW mn mx; omega
    rw [e] at hr
    exact hr _ (newTV_get _ _ _) (newTV_ext _ _ _) (newTV_size _ _ _)
  · have e : clampW win = win := by unfold clampW mn mx; omega
    rw [e] at hr
    exact hr _ (newTV_get _ _ _) (newTV_ext _ _ _) (newTV_size _ _ _)

theorem rtick_spec (hc : CI 32 h b n w) (hn : n < 1073741824) (h0 : 0 ≤ n) (hr : ∀ h', CI 32 h' b (n + 1) w → Only (· = b) h h' → h'.size = h.size → R (TV.bool true).val h') : CallsH Try.prog 22 (TVs.vals [.ptr (some ⟨b, 0⟩)]) h R := by
  apply tollerref09_Clock_Tick_calls
  refine ex_int hc.now ?_
  rw [If.dec]
  refine ⟨fun hx => by omega, fun _ => ?_⟩
  refine ex_int hc.now ?_
  refine ⟨wok_row hc (by simp), ?_⟩
  rw [wrap_i64 (by omega) (by omega)]
  exact hr _ (put_row hc (by simp [TV.size])) (put_only hc (by simp [TV.size])) (put_size hc (by simp [TV.size]))

theorem rfirst_spec (hc : CI 32 h b n w) (h0 : 0 ≤ n) (h1 : n ≤ 1073741824) (hw0 : 1 ≤ w) (hw1 : w ≤ 64) (hr : R (TV.int .i64 (mx (n - w) 0)).val h) : CallsH Try.prog 26 (TVs.vals [.ptr (some ⟨b, 0⟩)]) h R := by
  apply tollerref09_Clock_First_calls
  refine ex_int hc.now ?_
  refine ex_int hc.win ?_
  refine If.dec.2 ⟨fun hx => ?_, fun hx => ?_⟩
  · have e : mx (n - w) 0 = 0 := by unfold mx; omega
    rw [e] at hr
    exact hr
  · have e : mx (n - w) 0 = n - w := by unfold mx; omega
    rw [e] at hr
    refine ex_int hc.now ?_
    refine ex_int hc.win ?_
    rw [wrap_i64 (by omega) (by omega)]
    exact hr

theorem rblock_spec (hc : CI 32 h b n w) {final slot : Int} (hr : R (TV.bool (blockB n final slot)).val h) : CallsH Try.prog 23 (TVs.vals [.ptr (some ⟨b, 0⟩), .int .i64 final, .int .i64 slot]) h R := by
  apply tollerref09_Clock_Block_calls
  unfold blockB at hr
  refine If.split (fun hd => ?_) (fun hd => ?_)
  · refine ex_int hc.now ?_
    rw [hd] at hr
    exact hr
  · rw [hd] at hr
    exact hr

theorem rvote_spec (hc : CI 32 h b n w) (h0 : 0 ≤ n) (h1 : n ≤ 1073741824) (hw0 : 1 ≤ w) (hw1 : w ≤ 64) {slot : Int} (hs : slot ≤ 9223372036854775807) (hr : R (TV.bool (voteB n w slot)).val h) : CallsH Try.prog 24 (TVs.vals [.ptr (some ⟨b, 0⟩), .int .i64 slot]) h R := by
  apply tollerref09_Clock_Vote_calls
  refine rfirst_spec hc h0 h1 hw0 hw1 ⟨_, rfl, ?_⟩
  refine If.dec.2 ⟨fun hx => ?_, fun hx => ?_⟩
  · refine ex_int hc.now ?_
    have h2 : 0 ≤ slot := by unfold mx at hx; omega
    rw [wrap_i64 (by omega) (by omega)]
    refine If.dec.2 ⟨fun hy => ?_, fun hy => ?_⟩
    · have e : voteB n w slot = decide (slot ≤ 1073741824) := by
        unfold voteB
        rw [decide_eq_true hx, Bool.true_and]
        exact decide_eq_decide.2 (by unfold mn; omega)
      rw [e] at hr
      exact hr
    · have e : voteB n w slot = false := by
        unfold voteB
        rw [decide_eq_true hx, Bool.true_and]
        exact decide_eq_false (by unfold mn; omega)
      rw [e] at hr
      exact hr
  · have e : voteB n w slot = false := by
      unfold voteB
      rw [decide_eq_false hx, Bool.false_and]
    rw [e] at hr
    exact hr

theorem rripe_spec (hc : CI 32 h b n w) {slot : Int} (hr : R (TV.bool (decide (slot < n))).val h) : CallsH Try.prog 25 (TVs.vals [.ptr (some ⟨b, 0⟩), .int .i64 slot]) h R := by
  apply tollerref09_Clock_Ripe_calls
  exact ex_int hc.now hr

theorem alive_spec (hr : ∀ h', Ext h h' → R (TV.bool true).val h') : CallsH Try.prog 13 (TVs.vals []) h R := by
  apply tollerlaw09_alive_calls
  refine new_spec fun h1 c1 e1 s1 => ⟨_, rfl, ?_⟩
  have hw : clampW 2 = 2 := rfl
  rw [hw] at c1
  refine vote_spec c1 (by decide) (by decide) (by decide) (by decide) ⟨_, rfl, ?_⟩
  refine If.yes ?_
  refine vote_spec c1 (by decide) (by decide) (by decide) (by decide) ⟨_, rfl, ?_⟩
  refine If.yes ?_
  refine vote_spec c1 (by decide) (by decide) (by decide) (by decide) ⟨_, rfl, ?_⟩
  refine If.yes ?_
  refine block_spec c1 ⟨_, rfl, ?_⟩
  refine If.yes ?_
  refine tick_spec c1 (by decide) (by decide) fun h2 c2 o2 s2 => ⟨_, rfl, ?_⟩
  refine If.yes ?_
  refine now_spec c2 ⟨_, rfl, ?_⟩
  refine If.yes ?_
  refine block_spec c2 ⟨_, rfl, ?_⟩
  refine If.yes ?_
  refine ripe_spec c2 ⟨_, rfl, ?_⟩
  refine If.yes ?_
  refine ripe_spec c2 ⟨_, rfl, ?_⟩
  exact hr _ (Only.cut e1 o2 (fun i hi => by omega))

end
end Go.Proofs.Ytahoibjgojlpeaa.Clock

/- Plain laws of shares: how they stand, and are cut, plays no part. -/
import Derived.Test.YtahoibjgojlpeaaGhostR
namespace Go.Proofs.Ytahoibjgojlpeaa.Ghost
open Go Go.Vc

section
variable {bl : List (Rt × Rt)} {sh sh' : List (Rt × Int)}

theorem wt_same (h : ∀ r, own sh r = own sh' r) : ∀ f k, wt bl sh f k = wt bl sh' f k
  | 0, _ => rfl
  | f + 1, k => by
    simp only [wt, h]
    have : (kidsOf bl k).map (wt bl sh f) = (kidsOf bl k).map (wt bl sh' f) := List.map_congr_left fun i _ => wt_same h f i
    rw [this]

theorem wgt_same (h : ∀ r, own sh r = own sh' r) (k : Nat) : wgt bl sh k = wgt bl sh' k := wgt_eq (wt_same h _ k)

theorem best_same (h : ∀ r, own sh r = own sh' r) (k : Nat) : bestOf bl sh k = bestOf bl sh' k := best_congr rfl fun i _ => ⟨wgt_same h i, rfl⟩

theorem headFrom_same (h : ∀ r, own sh r = own sh' r) : ∀ f k, headFrom bl sh f k = headFrom bl sh' f k
  | 0, _ => rfl
  | f + 1, k => by
    unfold headFrom
    rw [best_same h, headFrom_same h f]

theorem headOf_same (h : ∀ r, own sh r = own sh' r) : headOf bl sh = headOf bl sh' := headFrom_same h _ _

theorem weightAt_same (h : ∀ r, own sh r = own sh' r) (r : List UInt8) : weightAt bl sh r = weightAt bl sh' r := by
  unfold weightAt
  rw [wgt_same h]

theorem S_split (f : Nat → Int) (a : Nat) : ∀ c, S (a + c) f = S a f + S c (fun i => f (a + i))
  | 0 => by simp [S]
  | c + 1 => by
    rw [← Nat.add_assoc, S_succ, S_split f a c, S_succ]
    omega

theorem S_turn (f : Nat → Int) {n b : Nat} (hb : b < n) : S n (fun j => f ((j + b) % n)) = S n f := by
  have h1 := S_split (fun j => f ((j + b) % n)) (n - b) b
  have h2 := S_split f b (n - b)
  rw [show n - b + b = n by omega] at h1
  rw [show b + (n - b) = n by omega] at h2
  have h3 : S (n - b) (fun j => f ((j + b) % n)) = S (n - b) (fun i => f (b + i)) := S_congr _ fun i hi => by
    rw [Nat.mod_eq_of_lt (by omega), Nat.add_comm]
  have h4 : S b (fun i => f ((n - b + i + b) % n)) = S b f := S_congr _ fun i hi => by
    have : n - b + i + b = i + n := by omega
    rw [this, Nat.add_mod_right, Nat.mod_eq_of_lt (by omega)]
  omega

theorem S_head (f : Nat → Int) (n : Nat) : S (n + 1) f = f 0 + S n (fun i => f (i + 1)) := by
  have := S_split f 1 n
  rw [Nat.add_comm 1 n] at this
  rw [this]
  have e : S n (fun i => f (1 + i)) = S n (fun i => f (i + 1)) := S_congr _ fun i _ => by rw [Nat.add_comm]
  rw [e]
  simp [S]

theorem zip_sum (g : Rt → Int → Int) : ∀ (ts : List Rt) (ks : List Int), ts.length = ks.length → ((ts.zip ks).map fun x => g x.1 x.2).sum = S ks.length (fun i => match ts[i]?, ks[i]? with | some t, some k => g t k | _, _ => 0)
  | [], [], _ => rfl
  | t :: ts, k :: ks, h => by
    rw [List.length_cons, S_head]
    simp only [List.zip_cons_cons, List.map_cons, List.sum_cons, List.getElem?_cons_zero, List.getElem?_cons_succ]
    rw [zip_sum g ts ks (by simpa using h)]
  | [], _ :: _, h => by simp at h
  | _ :: _, [], h => by simp at h

end

/-- What is cut off a stake. -/
def partOf (cut k : Int) : Int := mn (mx cut 0) k

theorem partOf_range {cut k : Int} (h : 0 ≤ k) : 0 ≤ partOf cut k ∧ partOf cut k ≤ k := by
  unfold partOf mn mx
  split <;> split <;> omega

def tgAt (ts : List Int) (b j : Nat) : Rt := name (ts.getD ((j + b) % ts.length) 0)
def stAt (ks : List Int) (b j : Nat) : Int := ks.getD ((j + b) % ks.length) 0

/-- The shares, turned and cut. -/
def cutT (ts : List Int) (b i : Nat) : List Rt := (List.range i).flatMap fun j => [tgAt ts b j, tgAt ts b j]
def cutK (ks : List Int) (b : Nat) (cut : Int) (i : Nat) : List Int := (List.range i).flatMap fun j => [partOf cut (stAt ks b j), stAt ks b j - partOf cut (stAt ks b j)]

theorem cutT_succ (ts : List Int) (b i : Nat) : cutT ts b (i + 1) = cutT ts b i ++ [tgAt ts b i, tgAt ts b i] := by simp [cutT, List.range_succ]
theorem cutK_succ (ks : List Int) (b : Nat) (cut : Int) (i : Nat) : cutK ks b cut (i + 1) = cutK ks b cut i ++ [partOf cut (stAt ks b i), stAt ks b i - partOf cut (stAt ks b i)] := by simp [cutK, List.range_succ]
theorem cutT_len (ts : List Int) (b : Nat) : ∀ i, (cutT ts b i).length = 2 * i
  | 0 => rfl
  | i + 1 => by rw [cutT_succ, List.length_append, cutT_len ts b i]; simp; omega
theorem cutK_len (ks : List Int) (b : Nat) (cut : Int) : ∀ i, (cutK ks b cut i).length = 2 * i
  | 0 => rfl
  | i + 1 => by rw [cutK_succ, List.length_append, cutK_len ks b cut i]; simp; omega

theorem own_cut (ts ks : List Int) (b : Nat) (cut : Int) (r : List UInt8) : ∀ i, own ((cutT ts b i).zip (cutK ks b cut i)) r = S i (fun j => if (tgAt ts b j).l = r then stAt ks b j else 0)
  | 0 => rfl
  | i + 1 => by
    rw [cutT_succ, cutK_succ, List.zip_append (by rw [cutT_len, cutK_len]), own_append, own_cut ts ks b cut r i, S_succ]
    congr 1
    unfold own
    simp only [List.zip_cons_cons, List.zip_nil_right, List.map_cons, List.map_nil, List.sum_cons, List.sum_nil]
    split <;> omega

theorem own_all {ps ts ks : List Int} (hl : ks.length = ts.length) (r : List UInt8) : own (plainDoc ps ts ks).sh r = S ks.length (fun i => if (name (ts.getD i 0)).l = r then ks.getD i 0 else 0) := by
  unfold own
  have h1 := zip_sum (fun t k => if t.l = r then k else 0) (ts.map name) ks (by simp [hl])
  have h2 : (plainDoc ps ts ks).sh = (ts.map name).zip ks := rfl
  rw [h2, h1]
  refine S_congr _ fun i hi => ?_
  have hi' : i < ts.length := by omega
  simp [hi, hi']

theorem own_turn {ps ts ks : List Int} {b : Nat} (hl : ks.length = ts.length) (hb : b < ks.length) (cut : Int) (r : List UInt8) :
    own (plainDoc ps ts ks).sh r = own ((cutT ts b ks.length).zip (cutK ks b cut ks.length)) r := by
  rw [own_all hl, own_cut, ← S_turn _ hb]
  refine S_congr _ fun i hi => ?_
  unfold tgAt stAt
  rw [hl]

end Go.Proofs.Ytahoibjgojlpeaa.Ghost

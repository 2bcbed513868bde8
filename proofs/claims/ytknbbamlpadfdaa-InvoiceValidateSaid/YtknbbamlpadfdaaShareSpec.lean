/-
  The shares of the largest remainder as a plain function, and its laws: the sum, the bounds, the order, scaling. No statement of the seat is proved here. No conditions beyond those typed.
-/
import Derived.Test.YtknbbamlpadfdaaShareMath
namespace Go.Proofs.Ytknbbamlpadfdaa
set_option linter.unusedVariables false

/-- The divisor: the sum of the weights, or their number if all are 0. -/
def wsum (ws : List Int) : Int := if ws.sum = 0 then ws.length else ws.sum
/-- What a weight counts. -/
def wt (ws : List Int) (i : Nat) : Int := if ws.sum = 0 then 1 else ws.getD i 0
def quoI (t : Int) (ws : List Int) (i : Nat) : Int := t * wt ws i / wsum ws
def rstI (t : Int) (ws : List Int) (i : Nat) : Int := t * wt ws i % wsum ws
/-- The units that the floors leave. -/
def leftI (t : Int) (ws : List Int) : Int := t - sumN ws.length (quoI t ws)
def shareI (t : Int) (ws : List Int) (i : Nat) : Int := quoI t ws i + if (rank (rstI t ws) ws.length i : Int) < leftI t ws then 1 else 0
/-- The shares of the largest remainder. -/
def shareL (t : Int) (ws : List Int) : List Int := (List.range ws.length).map (shareI t ws)

theorem shareL_length (t : Int) (ws : List Int) : (shareL t ws).length = ws.length := by simp [shareL]
theorem shareL_get (t : Int) (ws : List Int) (i : Nat) (h : i < ws.length) : (shareL t ws).getD i 0 = shareI t ws i := by
  simp [shareL, List.getD, h]

/-- Weights from 0 on. -/
def NonNeg (ws : List Int) : Prop := ∀ i : Nat, 0 ≤ ws.getD i 0

variable {t : Int} {ws : List Int}

theorem sum_nonneg (h : NonNeg ws) : 0 ≤ ws.sum := by
  rw [← sumN_list]
  exact sumN_nonneg fun i _ => h i

theorem wsum_pos (h : NonNeg ws) (hn : 0 < ws.length) : 0 < wsum ws := by
  have := sum_nonneg h
  unfold wsum
  split <;> omega

theorem wt_nonneg (h : NonNeg ws) (i : Nat) : 0 ≤ wt ws i := by
  unfold wt
  split
  · omega
  · exact h i

theorem sum_wt (ws : List Int) : sumN ws.length (wt ws) = wsum ws := by
  unfold wsum
  by_cases h : ws.sum = 0
  · rw [if_pos h]
    have : sumN ws.length (wt ws) = sumN ws.length (fun _ => 1) := sumN_congr fun i _ => by simp [wt, h]
    rw [this, sumN_const]
    omega
  · rw [if_neg h, ← sumN_list ws]
    exact sumN_congr fun i _ => by simp [wt, h]

theorem rst_nonneg (h : NonNeg ws) (hn : 0 < ws.length) (i : Nat) : 0 ≤ rstI t ws i := Int.emod_nonneg _ (by have := wsum_pos h hn; omega)
theorem rst_lt (h : NonNeg ws) (hn : 0 < ws.length) (i : Nat) : rstI t ws i < wsum ws := Int.emod_lt_of_pos _ (wsum_pos h hn)
theorem quo_nonneg (h : NonNeg ws) (ht : 0 ≤ t) (hn : 0 < ws.length) (i : Nat) : 0 ≤ quoI t ws i := Int.ediv_nonneg (Int.mul_nonneg ht (wt_nonneg h i)) (by have := wsum_pos h hn; omega)
theorem quo_rst (t : Int) (ws : List Int) (i : Nat) : wsum ws * quoI t ws i + rstI t ws i = t * wt ws i := Int.mul_ediv_add_emod _ _

/-- The remainders add up to the units that are left, times the divisor. -/
theorem sum_rst (t : Int) (ws : List Int) : sumN ws.length (rstI t ws) = leftI t ws * wsum ws := by
  have h1 : sumN ws.length (fun i => wsum ws * quoI t ws i + rstI t ws i) = t * wsum ws := by
    rw [sumN_congr (fun i _ => quo_rst t ws i), sumN_mul, sum_wt]
  rw [sumN_add, sumN_mul] at h1
  unfold leftI
  rw [Int.sub_mul, Int.mul_comm (sumN _ _)]
  omega

theorem left_nonneg (h : NonNeg ws) (hn : 0 < ws.length) : 0 ≤ leftI t ws := by
  have h1 := sum_rst t ws
  have h2 := sumN_nonneg (n := ws.length) (f := rstI t ws) fun i _ => rst_nonneg h hn i
  have h3 := wsum_pos h hn
  rcases Int.lt_or_le (leftI t ws) 0 with h4 | h4
  · have := Int.mul_neg_of_neg_of_pos h4 h3
    omega
  · exact h4

theorem left_lt (h : NonNeg ws) (hn : 0 < ws.length) : leftI t ws < ws.length := by
  have h1 := sum_rst t ws
  have h2 := sumN_le (n := ws.length) (f := rstI t ws) (g := fun _ => wsum ws - 1) fun i _ => by have := rst_lt (t := t) h hn i; omega
  rw [sumN_const, h1] at h2
  have h3 := wsum_pos h hn
  rcases Int.lt_or_le (leftI t ws) ws.length with h4 | h4
  · exact h4
  · have h5 : (ws.length : Int) * wsum ws ≤ leftI t ws * wsum ws := Int.mul_le_mul_of_nonneg_right h4 (by omega)
    rw [Int.mul_sub] at h2
    omega

/-- The shares add up to the total. -/
theorem sum_share (h : NonNeg ws) (hn : 0 < ws.length) : sumN ws.length (shareI t ws) = t := by
  have h1 := left_nonneg (t := t) h hn
  have h2 := left_lt (t := t) h hn
  have h3 := sum_below (rstI t ws) ws.length (leftI t ws) h1 (by omega)
  have h4 : sumN ws.length (shareI t ws) = sumN ws.length (quoI t ws) + sumN ws.length (fun i => if (rank (rstI t ws) ws.length i : Int) < leftI t ws then 1 else 0) := sumN_add _ _ _
  rw [h4, h3]
  unfold leftI
  omega

theorem share_ge (t : Int) (ws : List Int) (i : Nat) : quoI t ws i ≤ shareI t ws i := by unfold shareI; split <;> omega
theorem share_le (t : Int) (ws : List Int) (i : Nat) : shareI t ws i ≤ quoI t ws i + 1 := by unfold shareI; split <;> omega
theorem share_nonneg (h : NonNeg ws) (ht : 0 ≤ t) (hn : 0 < ws.length) (i : Nat) : 0 ≤ shareI t ws i := by have := share_ge t ws i; have := quo_nonneg h ht hn i; omega

theorem sumN_le_all {n : Nat} {f : Nat → Int} (h : ∀ i, i < n → 0 ≤ f i) (i : Nat) (hi : i < n) : f i ≤ sumN n f := by
  induction n with
  | zero => omega
  | succ n ih =>
    rw [sumN_succ]
    have h1 := sumN_nonneg (n := n) (f := f) fun i hi => h i (by omega)
    have h2 := h n (by omega)
    by_cases e : i = n
    · subst e; omega
    · have := ih (fun i hi => h i (by omega)) (by omega); omega

theorem share_le_total (h : NonNeg ws) (ht : 0 ≤ t) (hn : 0 < ws.length) (i : Nat) (hi : i < ws.length) : shareI t ws i ≤ t := by
  have := sumN_le_all (n := ws.length) (f := shareI t ws) (fun i _ => share_nonneg h ht hn i) i hi
  rw [sum_share h hn] at this
  exact this

/-- Who has no remainder is not raised. -/
theorem not_raised (h : NonNeg ws) (hn : 0 < ws.length) (i : Nat) (hi : i < ws.length) (hr : rstI t ws i = 0) : leftI t ws ≤ rank (rstI t ws) ws.length i := by
  rcases Int.lt_or_le (rank (rstI t ws) ws.length i) (leftI t ws) with h1 | h1
  · exfalso
    -- all that have a remainder come before i, so fewer than left of them: the sum of remainders is too small
    have h2 : sumN ws.length (rstI t ws) ≤ sumN ws.length (fun j => (wsum ws - 1) * (if (rank (rstI t ws) ws.length j : Int) < rank (rstI t ws) ws.length i then 1 else 0)) := by
      refine sumN_le fun j hj => ?_
      by_cases hb : bef (rstI t ws) j i = true
      · have := rank_lt_of_bef (rstI t ws) ws.length j i hj hb
        rw [if_pos (by omega)]
        have := rst_lt (t := t) h hn j
        omega
      · have h0 := rst_nonneg (t := t) h hn j
        have hz : rstI t ws j = 0 := by simp [bef] at hb; omega
        rw [hz]
        have h3 := wsum_pos h hn
        exact Int.mul_nonneg (by omega) (by split <;> omega)
    rw [sumN_mul, sum_below _ _ _ (by omega) (by have := rank_lt (rstI t ws) ws.length i hi; omega), sum_rst] at h2
    have h3 := wsum_pos h hn
    have h4 : (wsum ws - 1) * (rank (rstI t ws) ws.length i : Int) ≤ (rank (rstI t ws) ws.length i : Int) * wsum ws := by
      rw [Int.sub_mul, Int.mul_comm]
      omega
    have h5 : ((rank (rstI t ws) ws.length i : Int) + 1) * wsum ws ≤ leftI t ws * wsum ws := Int.mul_le_mul_of_nonneg_right (by omega) (by omega)
    rw [Int.add_mul] at h5
    omega
  · exact h1

/-- Each share is the rounded quotient. -/
theorem share_ceil (h : NonNeg ws) (hn : 0 < ws.length) (i : Nat) (hi : i < ws.length) : shareI t ws i ≤ (t * wt ws i + wsum ws - 1) / wsum ws := by
  have h3 := wsum_pos h hn
  have h1 := quo_rst t ws i
  have h2 := rst_nonneg (t := t) h hn i
  rw [Int.le_ediv_iff_mul_le h3]
  by_cases hr : rstI t ws i = 0
  · have h4 := not_raised (t := t) h hn i hi hr
    have h5 : shareI t ws i = quoI t ws i := by unfold shareI; rw [if_neg (by omega)]; omega
    rw [h5, Int.mul_comm]
    omega
  · have h4 := share_le t ws i
    have h5 : shareI t ws i * wsum ws ≤ (quoI t ws i + 1) * wsum ws := Int.mul_le_mul_of_nonneg_right h4 (by omega)
    rw [Int.add_mul, Int.mul_comm (quoI t ws i)] at h5
    omega

/-- No share of a total below the sum is above its weight. -/
theorem share_le_weight (h : NonNeg ws) (hn : 0 < ws.length) (ht : 0 ≤ t) (hs : t < ws.sum) (i : Nat) (hi : i < ws.length) : shareI t ws i ≤ ws.getD i 0 := by
  have hsum : ¬ ws.sum = 0 := by omega
  have hw : wsum ws = ws.sum := by simp [wsum, hsum]
  have hwt : wt ws i = ws.getD i 0 := by simp [wt, hsum]
  have h1 := share_ceil (t := t) h hn i hi
  rw [hw, hwt] at h1
  refine Int.le_trans h1 ?_
  have h0 := h i
  have h2 : (t * ws.getD i 0 + ws.sum - 1) / ws.sum < ws.getD i 0 + 1 := by
    rw [Int.ediv_lt_iff_lt_mul (by omega), Int.add_mul, Int.mul_comm t]
    have : ws.getD i 0 * t ≤ ws.getD i 0 * ws.sum := Int.mul_le_mul_of_nonneg_left (by omega) h0
    omega
  omega

/-- The order of the shares. -/
theorem share_mono (h : NonNeg ws) (hn : 0 < ws.length) (ht : 0 ≤ t) (i k : Nat) (hi : i < ws.length) (hk : k < ws.length) (hw : wt ws k ≤ wt ws i) (hik : wt ws k < wt ws i ∨ i < k) : shareI t ws k ≤ shareI t ws i := by
  have h3 := wsum_pos h hn
  have hm : t * wt ws k ≤ t * wt ws i := Int.mul_le_mul_of_nonneg_left hw ht
  have hq : quoI t ws k ≤ quoI t ws i := Int.ediv_le_ediv h3 hm
  have e1 := quo_rst t ws i
  have e2 := quo_rst t ws k
  rcases Int.lt_or_le (quoI t ws k) (quoI t ws i) with h4 | h4
  · have := share_le t ws k
    have := share_ge t ws i
    omega
  · have hqe : quoI t ws k = quoI t ws i := by omega
    rw [hqe] at e2
    by_cases hb : bef (rstI t ws) i k = true
    · have := rank_lt_of_bef (rstI t ws) ws.length i k hi hb
      unfold shareI
      rw [hqe]
      split <;> split <;> omega
    · -- the same remainder: the total is 0, or the weights are equal and i comes first
      have hr : rstI t ws i = rstI t ws k := by simp [bef] at hb; omega
      have hwlt : wt ws k < wt ws i := by
        rcases hik with h5 | h5
        · exact h5
        · exfalso; apply hb; simp [bef]; omega
      have ht0 : t = 0 := by
        have h6 : t * (wt ws i - wt ws k) = 0 := by rw [Int.mul_sub]; omega
        rcases Int.mul_eq_zero.1 h6 with h7 | h7
        · exact h7
        · omega
      have hl : leftI t ws = 0 := by
        have hs : sumN ws.length (quoI t ws) = sumN ws.length (fun _ => 0) := sumN_congr fun i _ => by simp [quoI, ht0]
        unfold leftI
        rw [hs, sumN_const, ht0]
        omega
      unfold shareI
      rw [hl, hqe, if_neg (by omega), if_neg (by omega)]
      omega

end Go.Proofs.Ytknbbamlpadfdaa

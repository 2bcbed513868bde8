/-
  Multiplying all weights by a factor does not change the shares: the plain law. No statement of the seat is proved here. No conditions beyond those typed.
-/
import Derived.Test.YtpadpohaadfefaaShareSpec
namespace Go.Proofs.Ytpadpohaadfefaa
set_option linter.unusedVariables false

theorem rank_congr (r r' : Nat → Int) (n i : Nat) (hi : i < n) (h : ∀ j, j < n → ∀ l, l < n → bef r j l = bef r' j l) : rank r n i = rank r' n i := by
  unfold rank
  exact List.countP_congr fun j hj => by rw [h j (List.mem_range.1 hj) i hi]

theorem shareL_scale (t k : Int) (ws ws' : List Int) (hk : 0 < k) (hl : ws'.length = ws.length) (h : ∀ i, i < ws.length → ws'.getD i 0 = k * ws.getD i 0) (hN : NonNeg ws) : shareL t ws' = shareL t ws := by
  have hs : ws'.sum = k * ws.sum := by
    rw [← sumN_list ws', ← sumN_list ws, hl, ← sumN_mul]
    exact sumN_congr h
  have hq : ∀ i, i < ws.length → quoI t ws' i = quoI t ws i := by
    intro i hi
    unfold quoI wt wsum
    by_cases h0 : ws.sum = 0
    · rw [hs, h0, hl]; simp
    · have h1 : ¬ k * ws.sum = 0 := fun e => by rcases Int.mul_eq_zero.1 e with e | e <;> omega
      rw [hs, if_neg h1, if_neg h1, if_neg h0, if_neg h0, h i hi]
      rw [show t * (k * ws.getD i 0) = k * (t * ws.getD i 0) by grind, Int.mul_ediv_mul_of_pos _ _ hk]
  have hr : ∀ i, i < ws.length → rstI t ws' i = rstI t ws i ∨ rstI t ws' i = k * rstI t ws i := by
    intro i hi
    unfold rstI wt wsum
    by_cases h0 : ws.sum = 0
    · left; rw [hs, h0, hl]; simp
    · right
      have h1 : ¬ k * ws.sum = 0 := fun e => by rcases Int.mul_eq_zero.1 e with e | e <;> omega
      rw [hs, if_neg h1, if_neg h1, if_neg h0, if_neg h0, h i hi]
      rw [show t * (k * ws.getD i 0) = k * (t * ws.getD i 0) by grind, Int.mul_emod_mul_of_pos _ _ hk]
  have hb : ∀ j, j < ws.length → ∀ l, l < ws.length → bef (rstI t ws') j l = bef (rstI t ws) j l := by
    intro j hj l hl2
    by_cases h0 : ws.sum = 0
    · have e : ∀ i, rstI t ws' i = rstI t ws i := fun i => by unfold rstI wt wsum; rw [hs, h0, hl]; simp
      unfold bef; rw [e j, e l]
    · have h1 : ¬ k * ws.sum = 0 := fun e => by rcases Int.mul_eq_zero.1 e with e | e <;> omega
      have e : ∀ i, i < ws.length → rstI t ws' i = k * rstI t ws i := fun i hi => by
        unfold rstI wt wsum
        rw [hs, if_neg h1, if_neg h1, if_neg h0, if_neg h0, h i hi]
        rw [show t * (k * ws.getD i 0) = k * (t * ws.getD i 0) by grind, Int.mul_emod_mul_of_pos _ _ hk]
      unfold bef
      rw [e j hj, e l hl2]
      have e1 : (k * rstI t ws l < k * rstI t ws j) = (rstI t ws l < rstI t ws j) := propext ⟨fun h => Int.lt_of_mul_lt_mul_left h (by omega), fun h => Int.mul_lt_mul_of_pos_left h hk⟩
      have e2 : (k * rstI t ws j = k * rstI t ws l) = (rstI t ws j = rstI t ws l) := propext ⟨fun h => Int.eq_of_mul_eq_mul_left (by omega) h, fun h => by rw [h]⟩
      simp only [e1, e2]
  have hleft : leftI t ws' = leftI t ws := by
    unfold leftI
    rw [hl, sumN_congr hq]
  unfold shareL
  rw [hl]
  refine List.map_congr_left fun i hi => ?_
  have hi := List.mem_range.1 hi
  unfold shareI
  rw [hq i hi, hleft, hl, rank_congr _ _ _ i hi hb]

end Go.Proofs.Ytpadpohaadfefaa

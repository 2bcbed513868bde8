/-
  The plain mathematics of chapter 17: bounds, the sum of the values, charges that change nothing, charges exchanged. No statement of the seat is proved here. No conditions beyond those typed.
-/
import Derived.Test.YtknbbamlpadfdaaSpec17
namespace Go.Proofs.Ytknbbamlpadfdaa
set_option linter.unusedVariables false

section
variable {t : List Exch} {cur : List UInt8} {day : Int} {ls : List (Int × Int)} {cs : List Chg}

theorem invErr_zero (h : invErr day ls cs = 0) : 0 < ls.length ∧ ls.length ≤ 100 ∧ cs.length ≤ 50 ∧ 0 ≤ day ∧ day ≤ 36524 ∧ linesOk ls ∧ chgsOk ls.length cs := by
  unfold invErr at h
  split at h
  · omega
  · split at h
    · rename_i h1 h2
      exact ⟨by omega, by omega, by omega, h2.1, h2.2.1, h2.2.2.1, h2.2.2.2⟩
    · omega
theorem invErr_ok (h1 : 0 < ls.length) (h2 : ls.length ≤ 100) (h3 : cs.length ≤ 50) (h4 : 0 ≤ day) (h5 : day ≤ 36524) (h6 : linesOk ls) (h7 : chgsOk ls.length cs) : invErr day ls cs = 0 := by
  unfold invErr
  rw [if_neg (by omega), if_pos ⟨h4, h5, h6, h7⟩]

theorem prices_len (ls : List (Int × Int)) : (pricesOf ls).length = ls.length := by simp [pricesOf]
theorem weights_len (ls : List (Int × Int)) : (weightsOf ls).length = ls.length := by simp [weightsOf]
theorem prices_get (i : Nat) (h : i < ls.length) : (pricesOf ls).getD i 0 = ls[i]!.1 := by simp [pricesOf, List.getD, List.getElem?_eq_getElem h, getElem!_pos ls i h]
theorem weights_get (i : Nat) (h : i < ls.length) : (weightsOf ls).getD i 0 = ls[i]!.2 := by simp [weightsOf, List.getD, List.getElem?_eq_getElem h, getElem!_pos ls i h]
theorem prices_in (h : linesOk ls) : AllIn (pricesOf ls) := fun i => by
  by_cases hi : i < ls.length
  · rw [prices_get i hi]; exact ⟨(h i hi).1, (h i hi).2.1⟩
  · simp [List.getD, List.getElem?_eq_none (show (pricesOf ls).length ≤ i by rw [prices_len]; omega)]
theorem weights_in (h : linesOk ls) : AllIn (weightsOf ls) := fun i => by
  by_cases hi : i < ls.length
  · rw [weights_get i hi]; have := h i hi; unfold lineOk at this; omega
  · simp [List.getD, List.getElem?_eq_none (show (weightsOf ls).length ≤ i by rw [weights_len]; omega)]
theorem in_nonneg {ws : List Int} (h : AllIn ws) : NonNeg ws := fun i => (h i).1

theorem partV_bounds (h : linesOk ls) (hn : 0 < ls.length) (c : Chg) (n : Int) (h0 : 0 ≤ n) (j : Nat) (hj : j < ls.length) : 0 ≤ partV ls c n j ∧ partV ls c n j ≤ n := by
  unfold partV
  split
  · exact ⟨share_nonneg (in_nonneg (prices_in h)) h0 (by rw [prices_len]; exact hn) j, share_le_total (in_nonneg (prices_in h)) h0 (by rw [prices_len]; exact hn) j (by rw [prices_len]; exact hj)⟩
  · split
    · exact ⟨share_nonneg (in_nonneg (weights_in h)) h0 (by rw [weights_len]; exact hn) j, share_le_total (in_nonneg (weights_in h)) h0 (by rw [weights_len]; exact hn) j (by rw [weights_len]; exact hj)⟩
    · split <;> omega
theorem sumN_one (n : Nat) (l v : Int) (h0 : 0 ≤ l) : sumN n (fun j => if (j : Int) = l then v else 0) = if l < n then v else 0 := by
  induction n with
  | zero => rw [sumN_zero, if_neg (by omega)]
  | succ n ih =>
    rw [sumN_succ, ih]
    by_cases h1 : l < (n : Int)
    · rw [if_pos h1, if_neg (by omega), if_pos (by omega)]; omega
    · by_cases h2 : (n : Int) = l
      · rw [if_neg h1, if_pos h2, if_pos (by omega)]; omega
      · rw [if_neg h1, if_neg h2, if_neg (by omega)]; omega
theorem partV_sum (h : linesOk ls) (hn : 0 < ls.length) (c : Chg) (hc : chgOk ls.length c) (n : Int) (h0 : 0 ≤ n) : sumN ls.length (partV ls c n) = n := by
  unfold chgOk at hc
  by_cases h1 : c.basis = 1
  · have e : sumN ls.length (partV ls c n) = sumN (pricesOf ls).length (shareI n (pricesOf ls)) := by
      rw [prices_len]; exact sumN_congr fun i _ => by unfold partV; rw [if_pos h1]
    rw [e]
    exact sum_share (in_nonneg (prices_in h)) (by rw [prices_len]; exact hn)
  · by_cases h2 : c.basis = 2
    · have e : sumN ls.length (partV ls c n) = sumN (weightsOf ls).length (shareI n (weightsOf ls)) := by
        rw [weights_len]; exact sumN_congr fun i _ => by unfold partV; rw [if_neg h1, if_pos h2]
      rw [e]
      exact sum_share (in_nonneg (weights_in h)) (by rw [weights_len]; exact hn)
    · have e : sumN ls.length (partV ls c n) = sumN ls.length (fun j => if (j : Int) = c.line then n else 0) := sumN_congr fun i _ => by unfold partV; rw [if_neg h1, if_neg h2]
      rw [e, sumN_one _ _ _ (by omega), if_pos (hc.2.2.2.2.2.2.2.1 (by omega))]

theorem contrib_bounds (h : linesOk ls) (hn : 0 < ls.length) (hc : chgsOk ls.length cs) (i : Nat) (hi : i < cs.length) (j : Nat) (hj : j < ls.length) : -1000000000000 ≤ contrib t day ls j cs[i]! ∧ contrib t day ls j cs[i]! ≤ 1000000000000 := by
  have h1 := hc i hi
  unfold chgOk at h1
  have h2 := convOut_bounds (xs := t) (amt := cs[i]!.amt) (c := cs[i]!.cur.toList) (day := day) (by omega)
  have h3 := partV_bounds h hn cs[i]! (convOut t cs[i]!.amt cs[i]!.cur.toList day) h2.1 j hj
  unfold contrib
  split
  · omega
  · split <;> omega
theorem valTo_bounds (h : linesOk ls) (hn : 0 < ls.length) (hc : chgsOk ls.length cs) (hs : 0 ≤ (pricesOf ls).sum) (k : Nat) (hk : k ≤ cs.length) (j : Nat) (hj : j < ls.length) : -((k : Int) * 1000000000000) ≤ valTo t cur day ls cs k j ∧ valTo t cur day ls cs k j ≤ ((k : Int) + 1) * 1000000000000 := by
  unfold valTo
  have h1 := convOut_bounds (xs := t) (amt := (pricesOf ls).sum) (c := cur) (day := day) hs
  have h2 := share_nonneg (t := convOut t (pricesOf ls).sum cur day) (in_nonneg (prices_in h)) h1.1 (by rw [prices_len]; exact hn) j
  have h3 := share_le_total (t := convOut t (pricesOf ls).sum cur day) (in_nonneg (prices_in h)) h1.1 (by rw [prices_len]; exact hn) j (by rw [prices_len]; exact hj)
  have h4 : -((k : Int) * 1000000000000) ≤ sumN k (fun i => contrib t day ls j cs[i]!) ∧ sumN k (fun i => contrib t day ls j cs[i]!) ≤ (k : Int) * 1000000000000 := by
    have a1 := sumN_le (n := k) (f := fun i => contrib t day ls j cs[i]!) (g := fun _ => 1000000000000) fun i hi => (contrib_bounds h hn hc i (by omega) j hj).2
    have a2 := sumN_le (n := k) (f := fun _ => -1000000000000) (g := fun i => contrib t day ls j cs[i]!) fun i hi => (contrib_bounds h hn hc i (by omega) j hj).1
    rw [sumN_const] at a1 a2
    omega
  omega
theorem valTo_succ (k j : Nat) : valTo t cur day ls cs (k + 1) j = valTo t cur day ls cs k j + contrib t day ls j cs[k]! := by
  unfold valTo; rw [sumN_succ]; omega
theorem prices_sum_nonneg (h : linesOk ls) : 0 ≤ (pricesOf ls).sum := sum_nonneg (in_nonneg (prices_in h))

/-- What a charge adds to the total. -/
def signed (t : List Exch) (day : Int) (c : Chg) : Int := if c.kind = 9 then 0 else if c.kind ≤ 5 then convOut t c.amt c.cur.toList day else - convOut t c.amt c.cur.toList day
theorem sumN_neg (n : Nat) (f : Nat → Int) : sumN n (fun i => - f i) = - sumN n f := by
  induction n with
  | zero => simp [sumN_zero]
  | succ n ih => rw [sumN_succ, sumN_succ, ih]; omega
theorem contrib_sum (h : linesOk ls) (hn : 0 < ls.length) (c : Chg) (hc : chgOk ls.length c) : sumN ls.length (fun j => contrib t day ls j c) = signed t day c := by
  have h2 := convOut_bounds (xs := t) (amt := c.amt) (c := c.cur.toList) (day := day) (by unfold chgOk at hc; omega)
  have h3 := partV_sum h hn c hc (convOut t c.amt c.cur.toList day) h2.1
  unfold signed
  by_cases e1 : c.kind = 9
  · have : sumN ls.length (fun j => contrib t day ls j c) = sumN ls.length (fun _ => 0) := sumN_congr fun i _ => by unfold contrib; rw [if_pos e1]
    rw [this, sumN_const, if_pos e1]; omega
  · rw [if_neg e1]
    by_cases e2 : c.kind ≤ 5
    · have : sumN ls.length (fun j => contrib t day ls j c) = sumN ls.length (partV ls c (convOut t c.amt c.cur.toList day)) := sumN_congr fun i _ => by unfold contrib; rw [if_neg e1, if_pos e2]
      rw [this, h3, if_pos e2]
    · have : sumN ls.length (fun j => contrib t day ls j c) = sumN ls.length (fun j => - partV ls c (convOut t c.amt c.cur.toList day) j) := sumN_congr fun i _ => by unfold contrib; rw [if_neg e1, if_neg e2]
      rw [this, sumN_neg, h3, if_neg e2]
theorem vals_sum (h : linesOk ls) (hn : 0 < ls.length) (hc : chgsOk ls.length cs) : ∀ k, k ≤ cs.length → sumN ls.length (valTo t cur day ls cs k) = convOut t (pricesOf ls).sum cur day + sumN k (fun i => signed t day cs[i]!) := by
  intro k
  induction k with
  | zero =>
    intro _
    have : sumN ls.length (valTo t cur day ls cs 0) = sumN (pricesOf ls).length (shareI (convOut t (pricesOf ls).sum cur day) (pricesOf ls)) := by
      rw [prices_len]; exact sumN_congr fun i _ => by unfold valTo; rw [sumN_zero]; omega
    rw [this, sum_share (in_nonneg (prices_in h)) (by rw [prices_len]; exact hn), sumN_zero]; omega
  | succ k ih =>
    intro hk
    have : sumN ls.length (valTo t cur day ls cs (k + 1)) = sumN ls.length (fun j => valTo t cur day ls cs k j + contrib t day ls j cs[k]!) := sumN_congr fun j _ => valTo_succ k j
    rw [this, sumN_add, ih (by omega), contrib_sum h hn _ (hc k (by omega)), sumN_succ]; omega

theorem valErr_zero (h : valErr t cur day ls cs = 0) : invErr day ls cs = 0 ∧ (pricesOf ls).sum ≤ 1000000000000 ∧ convErr t (pricesOf ls).sum cur day = 0 ∧ (∀ i, i < cs.length → chgErr t day cs i = 0) ∧ ∀ j, j < ls.length → 0 ≤ valTo t cur day ls cs cs.length j ∧ valTo t cur day ls cs cs.length j ≤ 1000000000000 := by
  unfold valErr at h
  split at h
  · omega
  split at h
  · omega
  split at h
  · omega
  split at h
  · omega
  rename_i h1 h2 h3 h4
  exact ⟨by omega, by omega, by omega, firstErr_all (by omega), endErr_zero h⟩
theorem valErr_ok (h1 : invErr day ls cs = 0) (h2 : (pricesOf ls).sum ≤ 1000000000000) (h3 : convErr t (pricesOf ls).sum cur day = 0) (h4 : ∀ i, i < cs.length → chgErr t day cs i = 0) : valErr t cur day ls cs = endErr ls.length (valTo t cur day ls cs cs.length) := by
  unfold valErr
  rw [if_neg (by omega), if_neg (by omega), if_neg (by omega), if_neg (by rw [firstErr_zero h4]; simp)]
theorem valOut_len (h : valErr t cur day ls cs = 0) : (valOut t cur day ls cs).length = ls.length := by unfold valOut; rw [if_pos h]; simp
theorem valOut_sum (h : valErr t cur day ls cs = 0) : (valOut t cur day ls cs).sum = sumN ls.length (valTo t cur day ls cs cs.length) := by unfold valOut; rw [if_pos h]; rfl

/-- Two lists of charges that give the same values and the same first error give the same result. -/
theorem val_same {cs' : List Chg} (hi : invErr day ls cs = invErr day ls cs') (he : firstErr (chgErr t day cs) cs.length = firstErr (chgErr t day cs') cs'.length) (hv : ∀ j, j < ls.length → valTo t cur day ls cs cs.length j = valTo t cur day ls cs' cs'.length j) :
    valErr t cur day ls cs = valErr t cur day ls cs' ∧ valOut t cur day ls cs = valOut t cur day ls cs' := by
  have e : valErr t cur day ls cs = valErr t cur day ls cs' := by
    unfold valErr
    rw [hi, he, endErr_congr hv]
  refine ⟨e, ?_⟩
  unfold valOut
  rw [e]
  split
  · exact List.map_congr_left fun j hj => hv j (List.mem_range.1 hj)
  · rfl

theorem firstErr_app (e : Nat → Int) (n m : Nat) (h : ∀ i, n ≤ i → i < n + m → e i = 0) : firstErr e (n + m) = firstErr e n := by
  induction m with
  | zero => rfl
  | succ m ih =>
    rw [← Nat.add_assoc, firstErr, ih fun i h1 h2 => h i h1 (by omega), h (n + m) (by omega) (by omega)]
    split
    · rename_i h1; exact h1.symm
    · rfl

/-- The rate of the union's own currency. -/
theorem rate_eur : rateOf t eur day = 1000000 := by unfold rateOf; rw [if_pos rfl]
theorem div_million (a : Int) (h0 : 0 ≤ a) (h : a ≤ 1000000000000) : divOut (a * 1000000) 1000000 2 = (a, 0) := by
  unfold divOut raisedB
  have e1 : a * 1000000 / 1000000 = a := Int.mul_ediv_cancel _ (by omega)
  have e2 : a * 1000000 % 1000000 = 0 := Int.mul_emod_left _ _
  rw [e1, e2]
  simp
  omega
theorem conv_eur {a : Int} (h0 : 0 ≤ a) (h : a ≤ 1000000000000) (ht : atErr t eur day = 0) : convErr t a eur day = 0 ∧ convOut t a eur day = a := by
  have e := div_million a h0 h
  have e1 : convErr t a eur day = 0 := by
    unfold convErr scaleErr
    rw [if_neg (by omega), rate_eur, e, if_neg (by omega), if_neg (by omega)]
  refine ⟨e1, ?_⟩
  unfold convOut
  rw [if_pos e1, rate_eur, e]
/-- Where any currency has a rate, the table and the day are right, so the union's own has one, too. -/
theorem at_eur {c : List UInt8} (h : atErr t c day = 0) : atErr t eur day = 0 := by
  unfold atErr at h ⊢
  split at h
  · omega
  · split at h
    · omega
    · rename_i h1 h2
      rw [if_neg h1, if_neg h2, rate_eur, if_neg (by omega)]
theorem conv_at {a : Int} {c : List UInt8} (h : convErr t a c day = 0) : atErr t c day = 0 := by
  unfold convErr at h
  split at h
  · omega
  · omega
end

theorem sumN_update (n : Nat) (F : Nat → Int) (p : Nat) (a : Int) (hp : p < n) : sumN n (fun i => if i = p then a else F i) = sumN n F + (a - F p) := by
  induction n with
  | zero => omega
  | succ n ih =>
    rw [sumN_succ, sumN_succ]
    by_cases e : p = n
    · subst e
      rw [if_pos rfl, sumN_congr (g := F) fun i hi => if_neg (by omega)]; omega
    · rw [ih (by omega), if_neg (fun x => e x.symm)]; omega
/-- Two elements exchanged: the sum is the same. -/
theorem sumN_swap (n : Nat) (F : Nat → Int) (p q : Nat) (hp : p < n) (hq : q < n) : sumN n (fun i => if i = p then F q else if i = q then F p else F i) = sumN n F := by
  by_cases e : p = q
  · subst e
    exact sumN_congr fun i _ => by by_cases x : i = p <;> simp [x]
  · have h1 := sumN_update n (fun i => if i = q then F p else F i) p (F q) hp
    have h2 := sumN_update n F q (F p) hq
    rw [h1, h2, if_neg e]; omega
end Go.Proofs.Ytknbbamlpadfdaa

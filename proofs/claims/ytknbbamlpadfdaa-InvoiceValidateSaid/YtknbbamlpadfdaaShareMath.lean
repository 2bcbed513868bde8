/-
  Plain arithmetic of the method of the largest remainder: ranks, shares, their sum. No statement of the seat is proved here. No conditions beyond those typed.
-/
import Derived.Lib.Hide
namespace Go.Proofs.Ytknbbamlpadfdaa
set_option linter.unusedVariables false

/-- The sum of f over 0 .. n-1. -/
def sumN (n : Nat) (f : Nat → Int) : Int := ((List.range n).map f).sum
theorem sumN_zero (f : Nat → Int) : sumN 0 f = 0 := rfl
theorem sumN_succ (n : Nat) (f : Nat → Int) : sumN (n + 1) f = sumN n f + f n := by
  simp [sumN, List.range_succ]
theorem sumN_congr {n : Nat} {f g : Nat → Int} (h : ∀ i, i < n → f i = g i) : sumN n f = sumN n g := by
  unfold sumN
  rw [List.map_congr_left (fun i hi => h i (List.mem_range.1 hi))]
theorem sumN_add (n : Nat) (f g : Nat → Int) : sumN n (fun i => f i + g i) = sumN n f + sumN n g := by
  induction n with
  | zero => rfl
  | succ n ih => simp only [sumN_succ, ih]; omega
theorem sumN_mul (n : Nat) (c : Int) (f : Nat → Int) : sumN n (fun i => c * f i) = c * sumN n f := by
  induction n with
  | zero => simp [sumN_zero]
  | succ n ih => simp only [sumN_succ, ih, Int.mul_add]
theorem sumN_const (n : Nat) (c : Int) : sumN n (fun _ => c) = n * c := by
  induction n with
  | zero => simp [sumN_zero]
  | succ n ih => rw [sumN_succ, ih, Int.natCast_succ, Int.add_mul]; omega
theorem sumN_le {n : Nat} {f g : Nat → Int} (h : ∀ i, i < n → f i ≤ g i) : sumN n f ≤ sumN n g := by
  induction n with
  | zero => simp [sumN_zero]
  | succ n ih => rw [sumN_succ, sumN_succ]; have := ih (fun i hi => h i (by omega)); have := h n (by omega); omega
theorem sumN_nonneg {n : Nat} {f : Nat → Int} (h : ∀ i, i < n → 0 ≤ f i) : 0 ≤ sumN n f := by
  have := sumN_le (n := n) (f := fun _ => 0) (g := f) h
  rw [sumN_const] at this
  omega
theorem sumN_list (ws : List Int) : sumN ws.length (fun i => ws.getD i 0) = ws.sum := by
  unfold sumN
  congr 1
  apply List.ext_getElem
  · simp
  · intro i h1 h2
    simp [List.getD, List.getElem?_eq_getElem h2]

theorem perm_sum {l l' : List Int} (h : l.Perm l') : l.sum = l'.sum := by
  induction h with
  | nil => rfl
  | cons x _ ih => simp [ih]
  | swap x y l => simp; omega
  | trans _ _ ih1 ih2 => exact ih1.trans ih2

/-! ### Ranks -/
/-- j comes before i: a greater remainder, or the same one and a smaller index. -/
def bef (r : Nat → Int) (j i : Nat) : Bool := decide (r i < r j ∨ (r j = r i ∧ j < i))
/-- How many of 0 .. n-1 come before i. -/
def rank (r : Nat → Int) (n i : Nat) : Nat := (List.range n).countP (fun j => bef r j i)

theorem countP_pos_eq {α : Type} (f : α → Bool) (l : List α) (p : Nat) (hp : p ≤ l.length) (h1 : ∀ k (h : k < l.length), k < p → f l[k] = true) (h2 : ∀ k (h : k < l.length), p ≤ k → f l[k] = false) : l.countP f = p := by
  rw [← List.take_append_drop p l, List.countP_append]
  have e1 : (l.take p).countP f = p := by
    rw [List.countP_eq_length.2]
    · rw [List.length_take]; omega
    · intro a ha
      obtain ⟨k, hk, rfl⟩ := List.mem_iff_getElem.1 ha
      rw [List.length_take] at hk
      rw [List.getElem_take]
      exact h1 k (by omega) (by omega)
  have e2 : (l.drop p).countP f = 0 := by
    rw [List.countP_eq_zero]
    intro a ha
    obtain ⟨k, hk, rfl⟩ := List.mem_iff_getElem.1 ha
    rw [List.length_drop] at hk
    rw [List.getElem_drop, h2 (p + k) (by omega) (by omega)]
    simp
  omega

/-- In an ordered arrangement of 0 .. n-1 each stands at its rank. -/
theorem rank_of_sorted (r : Nat → Int) (n : Nat) (l : List Nat) (hp : l.Perm (List.range n)) (hs : ∀ i j (hi : i < l.length) (hj : j < l.length), i < j → bef r l[j] l[i] = false) (p : Nat) (h : p < l.length) : rank r n l[p] = p := by
  unfold rank
  rw [← hp.countP_eq]
  have hnd : l.Nodup := hp.nodup_iff.2 List.nodup_range
  refine countP_pos_eq _ l p (by omega) ?_ ?_
  · intro k hk hkp
    have h1 := hs k p hk h hkp
    have h2 : l[k] ≠ l[p] := List.pairwise_iff_getElem.1 hnd k p hk h hkp
    simp [bef] at h1 ⊢
    omega
  · intro k hk hkp
    rcases Nat.lt_or_ge p k with h3 | h3
    · exact hs p k h hk h3
    · obtain rfl : k = p := by omega
      simp [bef]

theorem exists_sorted (r : Nat → Int) (n : Nat) : ∃ l : List Nat, l.Perm (List.range n) ∧ ∀ i j (hi : i < l.length) (hj : j < l.length), i < j → bef r l[j] l[i] = false := by
  refine ⟨(List.range n).mergeSort (fun a b => !bef r b a), List.mergeSort_perm _ _, ?_⟩
  have hpw := List.pairwise_mergeSort (le := fun a b => !bef r b a) (fun a b c h1 h2 => by simp [bef] at *; omega) (fun a b => by simp [bef]; omega) (List.range n)
  intro i j hi hj hij
  have := List.pairwise_iff_getElem.1 hpw i j hi hj hij
  simpa using this

theorem perm_rank (r : Nat → Int) (n : Nat) : ((List.range n).map (rank r n)).Perm (List.range n) := by
  obtain ⟨l, hp, hs⟩ := exists_sorted r n
  have h1 : (l.map (rank r n)).Perm ((List.range n).map (rank r n)) := hp.map _
  have h2 : l.map (rank r n) = List.range n := by
    have hl : l.length = n := by rw [hp.length_eq, List.length_range]
    apply List.ext_getElem
    · simp [hl]
    · intro i h3 h4
      rw [List.getElem_map, rank_of_sorted r n l hp hs, List.getElem_range]
  rw [h2] at h1
  exact h1.symm

theorem rank_lt (r : Nat → Int) (n i : Nat) (hi : i < n) : rank r n i < n := by
  have : rank r n i ∈ List.range n := (perm_rank r n).mem_iff.1 (List.mem_map.2 ⟨i, List.mem_range.2 hi, rfl⟩)
  exact List.mem_range.1 this

theorem rank_surj (r : Nat → Int) (n p : Nat) (hp : p < n) : ∃ i, i < n ∧ rank r n i = p := by
  have := (perm_rank r n).mem_iff.2 (List.mem_range.2 hp)
  obtain ⟨i, hi, e⟩ := List.mem_map.1 this
  exact ⟨i, List.mem_range.1 hi, e⟩

theorem rank_inj (r : Nat → Int) (n i j : Nat) (hi : i < n) (hj : j < n) (h : rank r n i = rank r n j) : i = j := by
  have hnd : ((List.range n).map (rank r n)).Nodup := (perm_rank r n).nodup_iff.2 List.nodup_range
  have hl : ((List.range n).map (rank r n)).length = n := by simp
  rcases Nat.lt_trichotomy i j with h1 | h1 | h1
  · have := List.pairwise_iff_getElem.1 hnd i j (by omega) (by omega) h1
    simp at this
    exact absurd h this
  · exact h1
  · have := List.pairwise_iff_getElem.1 hnd j i (by omega) (by omega) h1
    simp at this
    exact absurd h.symm this

theorem bef_trans {r : Nat → Int} {a b c : Nat} (h1 : bef r a b = true) (h2 : bef r b c = true) : bef r a c = true := by simp [bef] at *; omega

/-- Who comes before has the smaller rank. -/
theorem rank_lt_of_bef (r : Nat → Int) (n j i : Nat) (hj : j < n) (h : bef r j i = true) : rank r n j < rank r n i := by
  unfold rank
  have key : ∀ l : List Nat, (∃ a ∈ l, a = j) → l.countP (fun k => bef r k j) < l.countP (fun k => bef r k i) := by
    intro l
    induction l with
    | nil => rintro ⟨a, ha, _⟩; cases ha
    | cons x l ih =>
      rintro ⟨a, ha, rfl⟩
      have hmono : l.countP (fun k => bef r k a) ≤ l.countP (fun k => bef r k i) := List.countP_mono_left fun k _ hk => bef_trans hk h
      rcases List.mem_cons.1 ha with e | e
      · subst e
        have hx : bef r a a = false := by simp [bef]
        rw [List.countP_cons, List.countP_cons, hx, h]
        simp
        omega
      · have := ih ⟨a, e, rfl⟩
        rw [List.countP_cons, List.countP_cons]
        by_cases hx : bef r x a = true
        · rw [hx, bef_trans hx h]
          simp
          omega
        · rw [Bool.eq_false_iff.2 hx]
          simp
          split <;> omega
  exact key _ ⟨j, List.mem_range.2 hj, rfl⟩

theorem bef_total {r : Nat → Int} {a b : Nat} (h : a ≠ b) (h2 : bef r a b = false) : bef r b a = true := by simp [bef] at *; omega

/-- How many ranks lie below L. -/
theorem sum_below (r : Nat → Int) (n : Nat) (L : Int) (h0 : 0 ≤ L) (hL : L ≤ n) : sumN n (fun i => if (rank r n i : Int) < L then 1 else 0) = L := by
  have h1 : sumN n (fun i => if (rank r n i : Int) < L then 1 else 0) = sumN n (fun p : Nat => if (p : Int) < L then 1 else 0) := by
    unfold sumN
    have : (List.range n).map (fun i => if (rank r n i : Int) < L then (1 : Int) else 0) = ((List.range n).map (rank r n)).map (fun p : Nat => if (p : Int) < L then (1 : Int) else 0) := by simp
    rw [this]
    exact perm_sum ((perm_rank r n).map _)
  rw [h1]
  have h2 : ∀ m : Nat, sumN m (fun p => if (p : Int) < L then 1 else 0) = min (m : Int) L := by
    intro m
    induction m with
    | zero => simp [sumN_zero]; omega
    | succ m ih => rw [sumN_succ, ih]; split <;> omega
  rw [h2]
  omega

end Go.Proofs.Ytknbbamlpadfdaa

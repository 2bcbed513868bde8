/-
  The plain mathematics of the stable sort of facts: exchanges, insertion, rotation, merging. No statement of the seat is proved here. No conditions beyond those typed.
  A block that holds a row of facts, and what is kept beside it. No statement of the seat is proved here. No conditions.
  Contracts of slices.swapRangeCmpFunc and slices.rotateCmpFunc at facts. No statement of the seat is proved here. Conditions: the ranges lie in the row and do not meet.
  Contracts of the comparison of the tranches and of slices.insertionSortCmpFunc at facts. No statement of the seat is proved here. Conditions: the range lies in the row.
-/
import Derived.Test.YtemhiifgplaldaaMA
import Derived.Test.YtemhiifgplaldaaShelf
import Derived.BigRegion
import Derived.Deep.DeepCutAuto
import Derived.Deep.DeepMust
import Derived.Deep.QuietTactic
import Derived.BigQuiet
import Derived.Deep.RegionHeld3
namespace Go.Proofs.Ytemhiifgplaldaa
set_option linter.unusedVariables false

/-- A fact about a quota. -/
structure Fct where
  num : Int
  kind : Int
  day : Int
  id : Int
  qty : Int
deriving Inhabited, DecidableEq

def swapF {α : Type} (f : Nat → α) (i j : Nat) : Nat → α := fun k => if k = i then f j else if k = j then f i else f k
theorem swapF_left {α : Type} (f : Nat → α) (i j : Nat) : swapF f i j i = f j := by unfold swapF; rw [if_pos rfl]
theorem swapF_right {α : Type} (f : Nat → α) (i j : Nat) : swapF f i j j = f i := by
  unfold swapF
  by_cases e : j = i
  · rw [if_pos e, e]
  · rw [if_neg e, if_pos rfl]
theorem swapF_other {α : Type} (f : Nat → α) (i j k : Nat) (h1 : k ≠ i) (h2 : k ≠ j) : swapF f i j k = f k := by unfold swapF; rw [if_neg h1, if_neg h2]

/-- g comes of f by exchanges of elements from a on, below b. -/
inductive Swaps {α : Type} (a b : Nat) (f : Nat → α) : (Nat → α) → Prop
  | refl : Swaps a b f f
  | step {g : Nat → α} (i j : Nat) : Swaps a b f g → a ≤ i → i < b → a ≤ j → j < b → Swaps a b f (swapF g i j)
section
variable {α : Type} {a b : Nat} {f g h : Nat → α}
theorem Swaps.trans (h1 : Swaps a b f g) (h2 : Swaps a b g h) : Swaps a b f h := by
  induction h2 with
  | refl => exact h1
  | step i j _ p q r s ih => exact .step i j ih p q r s
theorem Swaps.mono {a' b' : Nat} (h1 : Swaps a b f g) (ha : a' ≤ a) (hb : b ≤ b') : Swaps a' b' f g := by
  induction h1 with
  | refl => exact .refl
  | step i j _ p q r s ih => exact .step i j ih (by omega) (by omega) (by omega) (by omega)
theorem Swaps.out (h1 : Swaps a b f g) (k : Nat) (hk : k < a ∨ b ≤ k) : g k = f k := by
  induction h1 with
  | refl => rfl
  | step i j _ p q r s ih => rw [swapF_other _ _ _ _ (by omega) (by omega), ih]
theorem Swaps.in_ (h1 : Swaps a b f g) : ∀ k, a ≤ k → k < b → ∃ k', a ≤ k' ∧ k' < b ∧ g k = f k' := by
  induction h1 with
  | refl => exact fun k h2 h3 => ⟨k, h2, h3, rfl⟩
  | step i j _ p q r s ih =>
    intro k h2 h3
    by_cases e1 : k = i
    · subst e1; rw [swapF_left]; exact ih j r s
    · by_cases e2 : k = j
      · subst e2; rw [swapF_right]; exact ih i p q
      · rw [swapF_other _ _ _ _ e1 e2]; exact ih k h2 h3
theorem range_swap_perm (n i j : Nat) (f : Nat → α) (hi : i < n) (hj : j < n) : ((List.range n).map (swapF f i j)).Perm ((List.range n).map f) := by
  have hb : (List.range n).map (swapF f i j) = ((List.range n).map (swapF id i j)).map f := by
    rw [List.map_map]
    apply List.map_congr_left
    intro k _
    unfold swapF
    simp only [Function.comp, id]
    split
    · rfl
    · split <;> rfl
  rw [hb]
  refine List.Perm.map f ?_
  have nd : ((List.range n).map (swapF id i j)).Nodup := by
    rw [List.Nodup, List.pairwise_map]
    refine List.Pairwise.imp_of_mem ?_ (List.nodup_range (n := n))
    intro x y hx hy hne e
    apply hne
    unfold swapF at e
    simp only [id] at e
    split at e <;> split at e <;> (try split at e) <;> (try split at e) <;> omega
  refine (List.perm_ext_iff_of_nodup nd List.nodup_range).2 ?_
  intro x
  simp only [List.mem_map, List.mem_range]
  constructor
  · rintro ⟨y, hy, rfl⟩
    unfold swapF
    simp only [id]
    split
    · exact hj
    · split
      · exact hi
      · exact hy
  · intro hx
    by_cases e1 : x = i
    · subst e1; exact ⟨j, hj, by rw [swapF_right]; rfl⟩
    · by_cases e2 : x = j
      · subst e2; exact ⟨i, hi, by rw [swapF_left]; rfl⟩
      · exact ⟨x, hx, by rw [swapF_other _ _ _ _ e1 e2]; rfl⟩
theorem Swaps.perm {n : Nat} (h1 : Swaps 0 n f g) : ((List.range n).map g).Perm ((List.range n).map f) := by
  induction h1 with
  | refl => exact List.Perm.refl _
  | step i j _ p q r s ih => exact (range_swap_perm n i j _ q s).trans ih
end

/-- Sorted by the day from a on, below b. -/
def Srt (a b : Nat) (f : Nat → Fct) : Prop := ∀ i j, a ≤ i → i < j → j < b → (f i).day ≤ (f j).day
theorem Srt.mono {a b a' b' : Nat} {f : Nat → Fct} (h : Srt a b f) (ha : a ≤ a') (hb : b' ≤ b) : Srt a' b' f := fun i j h1 h2 h3 => h i j (by omega) h2 (by omega)
theorem Srt.le {a b : Nat} {f : Nat → Fct} (h : Srt a b f) {i j : Nat} (h1 : a ≤ i) (h2 : i ≤ j) (h3 : j < b) : (f i).day ≤ (f j).day := by
  rcases Nat.lt_or_ge i j with e | e
  · exact h i j h1 e h3
  · obtain rfl : i = j := by omega
    omega
theorem Srt.congr {a b : Nat} {f g : Nat → Fct} (h : Srt a b f) (e : ∀ k, a ≤ k → k < b → g k = f k) : Srt a b g := fun i j h1 h2 h3 => by
  rw [e i h1 (by omega), e j (by omega) h3]; exact h i j h1 h2 h3
theorem Srt.one {a b : Nat} {f : Nat → Fct} (h : b ≤ a + 1) : Srt a b f := fun i j h1 h2 h3 => by omega

/-! ### Insertion -/
/-- What the inner loop keeps: all but the element at j stand in order, and what lies behind it is no smaller. -/
def Ins (a i j : Nat) (g : Nat → Fct) : Prop := (∀ p q, a ≤ p → p < q → q ≤ i → p ≠ j → q ≠ j → (g p).day ≤ (g q).day) ∧ ∀ q, j < q → q ≤ i → (g j).day ≤ (g q).day
theorem Ins.start {a i : Nat} {g : Nat → Fct} (h : Srt a i g) : Ins a i i g := ⟨fun p q h1 h2 h3 h4 h5 => h p q h1 h2 (by omega), fun q h1 h2 => by omega⟩
theorem Ins.step {a i j : Nat} {g : Nat → Fct} (h : Ins a i j g) (ha : a < j) (hj : j ≤ i) (hlt : (g j).day < (g (j - 1)).day) : Ins a i (j - 1) (swapF g j (j - 1)) := by
  refine ⟨fun p q h1 h2 h3 h4 h5 => ?_, fun q h1 h2 => ?_⟩
  · by_cases e1 : p = j
    · subst e1
      rw [swapF_left, swapF_other _ _ _ _ (by omega) (by omega)]
      exact h.1 (p - 1) q (by omega) (by omega) h3 (by omega) (by omega)
    · by_cases e2 : q = j
      · subst e2
        rw [swapF_left, swapF_other _ _ _ _ (by omega) (by omega)]
        exact h.1 p (q - 1) h1 (by omega) (by omega) (by omega) (by omega)
      · rw [swapF_other _ _ _ _ e1 h4, swapF_other _ _ _ _ e2 h5]
        exact h.1 p q h1 h2 h3 e1 e2
  · rw [swapF_right]
    by_cases e : q = j
    · subst e; rw [swapF_left]; omega
    · rw [swapF_other _ _ _ _ e (by omega)]; exact h.2 q (by omega) h2
theorem Ins.done {a i j : Nat} {g : Nat → Fct} (h : Ins a i j g) (hj : j ≤ i) (he : j = a ∨ ¬ (g j).day < (g (j - 1)).day) (ha : a ≤ j) : Srt a (i + 1) g := by
  intro p q h1 h2 h3
  by_cases e1 : p = j
  · subst e1; exact h.2 q h2 (by omega)
  · by_cases e2 : q = j
    · subst e2
      rcases he with e | e
      · omega
      · by_cases e3 : p = q - 1
        · subst e3; omega
        · have := h.1 p (q - 1) h1 (by omega) (by omega) e1 (by omega); omega
    · exact h.1 p q h1 h2 (by omega) e1 e2

/-! ### Exchange of two ranges, rotation -/
def swapR (f : Nat → Fct) (a b n : Nat) : Nat → Fct := fun j => if a ≤ j ∧ j < a + n then f (j - a + b) else if b ≤ j ∧ j < b + n then f (j - b + a) else f j
theorem swapR_zero (f : Nat → Fct) (a b : Nat) : swapR f a b 0 = f := by
  funext j; unfold swapR; rw [if_neg (by omega), if_neg (by omega)]
theorem swapR_succ (f : Nat → Fct) (a b n : Nat) (h : a + n < b) : swapR f a b (n + 1) = swapF (swapR f a b n) (a + n) (b + n) := by
  funext j
  unfold swapF
  by_cases e1 : j = a + n
  · subst e1
    rw [if_pos rfl]
    unfold swapR
    rw [if_pos (by omega), if_neg (by omega), if_neg (by omega)]
    congr 1; omega
  · rw [if_neg e1]
    by_cases e2 : j = b + n
    · subst e2
      rw [if_pos rfl]
      unfold swapR
      rw [if_neg (by omega), if_pos (by omega), if_neg (by omega), if_neg (by omega)]
      congr 1; omega
    · rw [if_neg e2]
      unfold swapR
      by_cases e3 : a ≤ j ∧ j < a + n
      · rw [if_pos (by omega), if_pos e3]
      · rw [if_neg (by omega), if_neg e3]
        by_cases e4 : b ≤ j ∧ j < b + n
        · rw [if_pos (by omega), if_pos e4]
        · rw [if_neg (by omega), if_neg e4]
/-- The blocks from a to m and from m to b change places. -/
def rotF (f : Nat → Fct) (a m b : Nat) : Nat → Fct := fun j => if a ≤ j ∧ j < b then (if j < a + (b - m) then f (j + (m - a)) else f (j - (b - m))) else f j
theorem rot_gt (f : Nat → Fct) (m i j : Nat) (hi : i ≤ m) (h : j < i) : rotF (swapR f (m - i) m j) (m - (i - j)) m (m + j) = rotF f (m - i) m (m + j) := by
  funext k
  unfold rotF swapR
  by_cases c1 : m - i ≤ k ∧ k < m + j
  · rw [if_pos (show m - i ≤ k ∧ k < m + j from c1)]
    by_cases c2 : k < m - i + (m + j - m)
    · rw [if_pos c2, if_neg (show ¬ (m - (i - j) ≤ k ∧ k < m + j) by omega), if_pos (by omega)]
      congr 1; omega
    · rw [if_neg c2, if_pos (by omega)]
      by_cases c3 : k < m - (i - j) + (m + j - m)
      · rw [if_pos c3, if_neg (by omega), if_pos (by omega)]
        congr 1; omega
      · rw [if_neg c3, if_neg (by omega), if_neg (by omega)]
  · rw [if_neg c1, if_neg (by omega), if_neg (by omega), if_neg (by omega)]
theorem rot_lt (f : Nat → Fct) (m i j : Nat) (hi : i ≤ m) (h : i < j) : rotF (swapR f (m - i) (m + j - i) i) (m - i) m (m + (j - i)) = rotF f (m - i) m (m + j) := by
  funext k
  unfold rotF swapR
  by_cases c1 : m - i ≤ k ∧ k < m + j
  · rw [if_pos (show m - i ≤ k ∧ k < m + j from c1)]
    by_cases c2 : k < m + (j - i)
    · rw [if_pos (show m - i ≤ k ∧ k < m + (j - i) by omega)]
      by_cases c3 : k < m - i + (m + (j - i) - m)
      · rw [if_pos c3, if_neg (by omega), if_neg (by omega), if_pos (by omega)]
      · rw [if_neg c3]
        by_cases c4 : k < m - i + (m + j - m)
        · rw [if_pos c4, if_pos (by omega)]
          congr 1; omega
        · omega
    · rw [if_neg (show ¬ (m - i ≤ k ∧ k < m + (j - i)) by omega), if_neg (by omega), if_pos (by omega), if_neg (by omega)]
      congr 1; omega
  · rw [if_neg c1, if_neg (by omega), if_neg (by omega), if_neg (by omega)]
theorem rot_eq (f : Nat → Fct) (m i : Nat) (hi : i ≤ m) : swapR f (m - i) m i = rotF f (m - i) m (m + i) := by
  funext k
  unfold rotF swapR
  by_cases c1 : m - i ≤ k ∧ k < m + i
  · rw [if_pos c1]
    by_cases c2 : k < m
    · rw [if_pos (by omega), if_pos (by omega)]; congr 1; omega
    · rw [if_neg (by omega), if_pos (by omega), if_neg (by omega)]; congr 1; omega
  · rw [if_neg (by omega), if_neg (by omega), if_neg c1]

/-! ### Merging -/
/-- The element at a moves to e. -/
def mvR (f : Nat → Fct) (a e : Nat) : Nat → Fct := fun j => if a ≤ j ∧ j < e then f (j + 1) else if j = e then f a else f j
theorem mvR_zero (f : Nat → Fct) (a : Nat) : mvR f a a = f := by
  funext j; unfold mvR; rw [if_neg (by omega)]; split
  · rename_i h; rw [h]
  · rfl
theorem mvR_succ (f : Nat → Fct) (a e : Nat) (h : a ≤ e) : swapF (mvR f a e) e (e + 1) = mvR f a (e + 1) := by
  funext j
  by_cases e1 : j = e
  · subst e1; rw [swapF_left]; unfold mvR; rw [if_neg (by omega), if_neg (by omega), if_pos (by omega)]
  · by_cases e2 : j = e + 1
    · subst e2; rw [swapF_right]; unfold mvR; rw [if_neg (by omega), if_pos rfl, if_neg (by omega), if_pos rfl]
    · rw [swapF_other _ _ _ _ e1 e2]; unfold mvR
      by_cases c : a ≤ j ∧ j < e
      · rw [if_pos c, if_pos (by omega)]
      · rw [if_neg c, if_neg e1, if_neg (by omega), if_neg e2]
theorem mvR_srt {a b i : Nat} {f : Nat → Fct} (hs : Srt (a + 1) b f) (hi : a + 1 ≤ i) (hib : i ≤ b) (h1 : ∀ q, a + 1 ≤ q → q < i → (f q).day < (f a).day) (h2 : ∀ q, i ≤ q → q < b → (f a).day ≤ (f q).day) : Srt a b (mvR f a (i - 1)) := by
  intro p q hp hpq hq
  unfold mvR
  by_cases c1 : a ≤ p ∧ p < i - 1
  · rw [if_pos c1]
    by_cases c2 : a ≤ q ∧ q < i - 1
    · rw [if_pos c2]; exact hs _ _ (by omega) (by omega) (by omega)
    · rw [if_neg c2]
      by_cases c3 : q = i - 1
      · rw [if_pos c3]; have := h1 (p + 1) (by omega) (by omega); omega
      · rw [if_neg c3]; exact hs _ _ (by omega) (by omega) (by omega)
  · rw [if_neg c1, if_neg (show ¬ (a ≤ q ∧ q < i - 1) by omega)]
    by_cases c3 : p = i - 1
    · rw [if_pos c3, if_neg (by omega)]; exact h2 q (by omega) hq
    · rw [if_neg c3, if_neg (by omega)]; exact hs _ _ (by omega) hpq hq
/-- The element at m moves back to e. -/
def mvL (f : Nat → Fct) (m e : Nat) : Nat → Fct := fun j => if j = e then f m else if e < j ∧ j ≤ m then f (j - 1) else f j
theorem mvL_zero (f : Nat → Fct) (m : Nat) : mvL f m m = f := by
  funext j; unfold mvL; split
  · rename_i h; rw [h]
  · rw [if_neg (by omega)]
theorem mvL_succ (f : Nat → Fct) (m e : Nat) (h : e ≤ m) (h0 : 0 < e) : swapF (mvL f m e) e (e - 1) = mvL f m (e - 1) := by
  funext j
  by_cases e1 : j = e
  · subst e1; rw [swapF_left]; unfold mvL; rw [if_neg (by omega), if_neg (by omega), if_neg (by omega), if_pos (by omega)]
  · by_cases e2 : j = e - 1
    · subst e2; rw [swapF_right]; unfold mvL; rw [if_pos rfl, if_pos rfl]
    · rw [swapF_other _ _ _ _ e1 e2]; unfold mvL
      rw [if_neg e1, if_neg e2]
      by_cases c : e < j ∧ j ≤ m
      · rw [if_pos c, if_pos (by omega)]
      · rw [if_neg c, if_neg (by omega)]
theorem mvL_srt {a m i : Nat} {f : Nat → Fct} (hs : Srt a m f) (hi : a ≤ i) (him : i ≤ m) (h1 : ∀ q, a ≤ q → q < i → (f q).day ≤ (f m).day) (h2 : ∀ q, i ≤ q → q < m → (f m).day < (f q).day) : Srt a (m + 1) (mvL f m i) := by
  intro p q hp hpq hq
  unfold mvL
  by_cases c1 : p = i
  · rw [if_pos c1, if_neg (by omega), if_pos (by omega)]; have := h2 (q - 1) (by omega) (by omega); omega
  · rw [if_neg c1]
    by_cases c2 : q = i
    · rw [if_pos c2, if_neg (by omega)]; exact h1 p hp (by omega)
    · rw [if_neg c2]
      by_cases c3 : i < p ∧ p ≤ m
      · rw [if_pos c3, if_pos (by omega)]; exact hs _ _ (by omega) (by omega) (by omega)
      · rw [if_neg c3]
        by_cases c4 : i < q ∧ q ≤ m
        · rw [if_pos c4]
          exact hs.le (by omega) (by omega) (by omega)
        · rw [if_neg c4]; exact hs _ _ hp hpq (by omega)
/-- What the search of the merge knows. -/
def SymLo (a m b mid lo r0 : Nat) : Prop := (mid < m ∧ lo = mid + m - b ∧ r0 = mid) ∨ (m ≤ mid ∧ lo = a ∧ r0 = m)
def SymA (f : Nat → Fct) (n lo s : Nat) : Prop := ∀ c, lo ≤ c → c < s → (f c).day ≤ (f (n - 1 - c)).day
def SymB (f : Nat → Fct) (n r r0 : Nat) : Prop := ∀ c, r ≤ c → c < r0 → (f (n - 1 - c)).day < (f c).day
section
variable {a m b mid lo r0 : Nat} {f : Nat → Fct}
theorem sym_bounds (hm : mid = (a + b) / 2) (h1 : a + 2 ≤ m) (h2 : m + 2 ≤ b) (hl : SymLo a m b mid lo r0) : a ≤ lo ∧ lo ≤ r0 ∧ r0 ≤ m ∧ r0 ≤ mid ∧ mid + m - b ≤ lo ∧ a < mid ∧ mid < b := by
  unfold SymLo at hl; omega
theorem symA_step (hm : mid = (a + b) / 2) (h1 : a + 2 ≤ m) (h2 : m + 2 ≤ b) (hl : SymLo a m b mid lo r0) (hs1 : Srt a m f) (hs2 : Srt m b f) {c : Nat} (hc : c < r0) (hlc : lo ≤ c) (ht : ¬ (f (mid + m - 1 - c)).day < (f c).day) : SymA f (mid + m) lo (c + 1) := by
  have hb := sym_bounds hm h1 h2 hl
  intro x hx hxc
  have e1 := hs1.le (i := x) (j := c) (by omega) (by omega) (by omega)
  have e2 := hs2.le (i := mid + m - 1 - c) (j := mid + m - 1 - x) (by omega) (by omega) (by omega)
  omega
theorem symB_step (hm : mid = (a + b) / 2) (h1 : a + 2 ≤ m) (h2 : m + 2 ≤ b) (hl : SymLo a m b mid lo r0) (hs1 : Srt a m f) (hs2 : Srt m b f) {c : Nat} (hc : c < r0) (hlc : lo ≤ c) (ht : (f (mid + m - 1 - c)).day < (f c).day) : SymB f (mid + m) c r0 := by
  have hb := sym_bounds hm h1 h2 hl
  intro x hx hxc
  have e1 := hs1.le (i := c) (j := x) (by omega) (by omega) (by omega)
  have e2 := hs2.le (i := mid + m - 1 - x) (j := mid + m - 1 - c) (by omega) (by omega) (by omega)
  omega
/-- Behind the rotation the four pieces stand in order, and nothing left of the middle is greater than anything right of it. -/
theorem sym_rot (hm : mid = (a + b) / 2) (h1 : a + 2 ≤ m) (h2 : m + 2 ≤ b) (hl : SymLo a m b mid lo r0) (hs1 : Srt a m f) (hs2 : Srt m b f) {s : Nat} (hs : lo ≤ s) (hsr : s ≤ r0) (hA : SymA f (mid + m) lo s) (hB : SymB f (mid + m) s r0) {e : Nat} (he : e = mid + m - s) :
    m ≤ e ∧ e ≤ b ∧ mid ≤ e ∧ Srt a s (rotF f s m e) ∧ Srt s mid (rotF f s m e) ∧ Srt mid e (rotF f s m e) ∧ Srt e b (rotF f s m e) ∧ ∀ x y, a ≤ x → x < mid → mid ≤ y → y < b → (rotF f s m e x).day ≤ (rotF f s m e y).day := by
  have hb := sym_bounds hm h1 h2 hl
  have g1 : ∀ x, x < s → rotF f s m e x = f x := fun x hx => by unfold rotF; rw [if_neg (by omega)]
  have g2 : ∀ x, s ≤ x → x < mid → rotF f s m e x = f (x + (m - s)) := fun x hx hy => by unfold rotF; rw [if_pos (by omega), if_pos (by omega)]
  have g3 : ∀ x, mid ≤ x → x < e → rotF f s m e x = f (x - (mid - s)) := fun x hx hy => by unfold rotF; rw [if_pos (by omega), if_neg (by omega)]; congr 1; omega
  have g4 : ∀ x, e ≤ x → rotF f s m e x = f x := fun x hx => by unfold rotF; rw [if_neg (by omega)]
  refine ⟨by omega, by unfold SymLo at hl; omega, by omega, fun i j h3 h4 h5 => ?_, fun i j h3 h4 h5 => ?_, fun i j h3 h4 h5 => ?_, fun i j h3 h4 h5 => ?_, fun x y h3 h4 h5 h6 => ?_⟩
  · rw [g1 i (by omega), g1 j h5]; exact hs1 i j h3 h4 (by omega)
  · rw [g2 i h3 (by omega), g2 j (by omega) h5]; exact hs2 _ _ (by omega) (by omega) (by unfold SymLo at hl; omega)
  · rw [g3 i h3 (by omega), g3 j (by omega) h5]; exact hs1 _ _ (by omega) (by omega) (by omega)
  · rw [g4 i h3, g4 j (by omega)]; exact hs2 _ _ (by omega) h4 h5
  · rcases Nat.lt_or_ge x s with cx | cx
    · rw [g1 x cx]
      rcases Nat.lt_or_ge y e with cy | cy
      · rw [g3 y h5 cy]; exact hs1.le h3 (by omega) (by omega)
      · rw [g4 y cy]
        -- u1 against v2
        by_cases c0 : lo ≤ s - 1
        · have k1 := hs1.le (i := x) (j := s - 1) h3 (by omega) (by omega)
          have k2 := hA (s - 1) c0 (by omega)
          have k3 := hs2.le (i := mid + m - 1 - (s - 1)) (j := y) (by omega) (by omega) h6
          omega
        · unfold SymLo at hl; omega
    · rw [g2 x cx h4]
      rcases Nat.lt_or_ge y e with cy | cy
      · rw [g3 y h5 cy]
        by_cases c0 : s < r0
        · have k1 := hs2.le (i := x + (m - s)) (j := mid + m - 1 - s) (by omega) (by omega) (by unfold SymLo at hl; omega)
          have k2 := hB s (Nat.le_refl _) c0
          have k3 := hs1.le (i := s) (j := y - (mid - s)) (by omega) (by omega) (by omega)
          omega
        · unfold SymLo at hl; omega
      · rw [g4 y cy]; exact hs2.le (by omega) (by omega) h6
end
theorem sym_final {a mid b : Nat} {g g1 g2 : Nat → Fct} (h1 : Swaps a mid g g1) (h2 : Swaps mid b g1 g2) (s1 : Srt a mid g1) (s2 : Srt mid b g2) (hc : ∀ x y, a ≤ x → x < mid → mid ≤ y → y < b → (g x).day ≤ (g y).day) : Srt a b g2 := by
  intro i j hi hij hj
  rcases Nat.lt_or_ge j mid with c | c
  · rw [h2.out i (.inl (by omega)), h2.out j (.inl c)]; exact s1 i j hi hij c
  · rcases Nat.lt_or_ge i mid with c2 | c2
    · rw [h2.out i (.inl c2)]
      obtain ⟨j', a1, a2, a3⟩ := h2.in_ j c hj
      obtain ⟨i', b1, b2, b3⟩ := h1.in_ i hi c2
      rw [a3, b3, h1.out j' (.inr a1)]
      exact hc i' j' b1 b2 a1 a2
    · exact s2 i j c2 hij hj

/-! ### Blocks -/
/-- Each block of bs elements that begins at a multiple of bs from lo on is sorted. -/
def Blks (bs lo n : Nat) (f : Nat → Fct) : Prop := ∀ t, lo ≤ t * bs → Srt (t * bs) (min (t * bs + bs) n) f
theorem mul_gap {B x y : Nat} (h : x * B < y * B) : x * B + B ≤ y * B := by
  have : x < y := Nat.lt_of_mul_lt_mul_right h
  calc x * B + B = (x + 1) * B := (Nat.succ_mul x B).symm
    _ ≤ y * B := Nat.mul_le_mul_right B this
/-- The first blocks (below t * bs) are sorted. -/
def Bef (bs t n : Nat) (f : Nat → Fct) : Prop := ∀ k, k < t → Srt (k * bs) (min (k * bs + bs) n) f
theorem Bef.zero (bs n : Nat) (f : Nat → Fct) : Bef bs 0 n f := fun k hk => by omega
theorem Bef.succ {bs t n : Nat} {f g : Nat → Fct} (h : Bef bs t n f) (hs : Srt (t * bs) (min (t * bs + bs) n) g) (hg : ∀ k, k < t * bs → g k = f k) : Bef bs (t + 1) n g := fun k hk => by
  by_cases e : k = t
  · subst e; exact hs
  · have hkt : k < t := by omega
    have : k * bs + bs ≤ t * bs := by
      calc k * bs + bs = (k + 1) * bs := (Nat.succ_mul k bs).symm
        _ ≤ t * bs := Nat.mul_le_mul_right bs hkt
    exact (h k hkt).congr fun x h1 h2 => hg x (by omega)
theorem Bef.all {bs t n : Nat} {f : Nat → Fct} (h : Bef bs t n f) (ht : n ≤ t * bs) : Blks bs 0 n f := fun k _ => by
  by_cases e : k < t
  · exact h k e
  · have : t * bs ≤ k * bs := Nat.mul_le_mul_right bs (by omega)
    exact Srt.one (by omega)
theorem Blks.later {bs n : Nat} {f g : Nat → Fct} {x : Nat} (h : Blks bs 0 n f) (hg : ∀ k, x ≤ k → g k = f k) : Blks bs x n g := fun t ht =>
  (h t (Nat.zero_le _)).congr fun k h1 h2 => hg k (by omega)
theorem Blks.keep {bs lo lo' n : Nat} {f g : Nat → Fct} (h : Blks bs lo n f) (hl : lo ≤ lo') (hg : ∀ k, lo' ≤ k → g k = f k) : Blks bs lo' n g := fun t ht =>
  (h t (by omega)).congr fun k h1 h2 => hg k (by omega)
theorem Blks.pair {bs lo n t : Nat} {f : Nat → Fct} (h : Blks bs lo n f) (hl : lo ≤ t * (2 * bs)) : Srt (t * (2 * bs)) (min (t * (2 * bs) + bs) n) f ∧ Srt (t * (2 * bs) + bs) (min (t * (2 * bs) + 2 * bs) n) f := by
  have e1 : t * (2 * bs) = (2 * t) * bs := by rw [← Nat.mul_assoc, Nat.mul_comm t 2]
  have e2 : t * (2 * bs) + bs = (2 * t + 1) * bs := by rw [e1]; exact (Nat.succ_mul (2 * t) bs).symm
  refine ⟨?_, ?_⟩
  · have := h (2 * t) (by rw [← e1]; exact hl)
    rw [← e1] at this; exact this
  · have := h (2 * t + 1) (by rw [← e2]; omega)
    rw [← e2, show t * (2 * bs) + bs + bs = t * (2 * bs) + 2 * bs by omega] at this; exact this
theorem Blks.whole {bs n : Nat} {f : Nat → Fct} (h : Blks bs 0 n f) (hn : n ≤ bs) : Srt 0 n f := by
  have := h 0 (Nat.zero_le _)
  rw [Nat.zero_mul, Nat.zero_add, Nat.min_eq_right hn] at this
  exact this
end Go.Proofs.Ytemhiifgplaldaa

namespace Go.Proofs.Ytemhiifgplaldaa
open Go.RowKit
set_option linter.unusedVariables false

/-- From a to b only block g and new blocks have changed. -/
structure Kp (g : Nat) (a b : World) : Prop where
  os : b.os = a.os
  tape : b.tape = a.tape
  output : b.output = a.output
  size : a.heap.size ≤ b.heap.size
  block : ∀ k, k < a.heap.size → k ≠ g → b.heap[k]? = a.heap[k]?
section
variable {g : Nat} {a b c : World}
theorem Kp.refl (g : Nat) (a : World) : Kp g a a := ⟨rfl, rfl, rfl, Nat.le_refl _, fun _ _ _ => rfl⟩
theorem Kp.trans (h : Kp g a b) (h2 : Kp g b c) : Kp g a c := ⟨h2.os.trans h.os, h2.tape.trans h.tape, h2.output.trans h.output, Nat.le_trans h.size h2.size, fun k hk hg => (h2.block k (Nat.lt_of_lt_of_le hk h.size) hg).trans (h.block k hk hg)⟩
theorem Kp.below (h : Kp g a b) (hB : RowKit.Below b.heap.size b c) : Kp g a c := ⟨hB.os.trans h.os, hB.tape.trans h.tape, hB.output.trans h.output, Nat.le_trans h.size hB.size, fun k hk hg => (hB.block k (Nat.lt_of_lt_of_le hk h.size)).trans (h.block k hk hg)⟩
theorem Kp.alloc (h : Kp g a b) (o : Obj) : Kp g a (b.alloc o) := h.below ((Below.refl _ _).alloc (Nat.le_refl _) _)
theorem Kp.drew (h : Kp g a b) : Kp g a b.drew := ⟨h.os, h.tape, h.output, h.size, h.block⟩
theorem Kp.drewN (h : Kp g a b) (n : Nat) : Kp g a (b.drewN n) := ⟨h.os, h.tape, h.output, h.size, h.block⟩
theorem Kp.put (h : Kp g a b) (o : Nat) (v : Value) : Kp g a (b.setCell ⟨g, o, none⟩ v) :=
  ⟨h.os, h.tape, h.output, by simp [World.setCell]; exact h.size, fun k hk hg => (Below.heap_setCell b ⟨g, o, none⟩ v k hg).trans (h.block k hk hg)⟩
theorem Kp.bl (h : Kp g a b) {k : Nat} {t : TypeId} {cs : Array Value} (hb : Bl a k t cs) (hg : k ≠ g) : Bl b k t cs := (h.block k hb.lt hg).trans hb
theorem Kp.under (h : Kp g a b) {B : Nat} {w : World} (hB : RowKit.Below B w a) (hs : B ≤ a.heap.size) (hg : B ≤ g) : RowKit.Below B w b :=
  hB.trans ⟨h.os, h.tape, h.output, h.size, fun k hk => h.block k (by omega) (by omega)⟩
end
theorem Bl.drew {w : World} {g : Nat} {t : TypeId} {cs : Array Value} (h : Bl w g t cs) : Bl w.drew g t cs := h

def encF (x : Fct) : List Value := [.int .i64 x.num, .int .i64 x.kind, .int .i64 x.day, .int .i64 x.id, .int .i64 x.qty]
theorem encF_len (x : Fct) : (encF x).length = 5 := rfl
theorem encF_one (x : Fct) : ∀ v ∈ encF x, v.oneCell' = true := fun v hv => by
  simp [encF] at hv
  rcases hv with rfl | rfl | rfl | rfl | rfl <;> rfl
/-- The first n facts of a block. -/
def RowF (arr : Array Value) (n : Nat) (f : Nat → Fct) : Prop := ∀ j, j < n → ∀ c, c < 5 → arr[j * 5 + c]? = some ((encF (f j))[c]!)
def putF (arr : Array Value) (i : Nat) (x : Fct) : Array Value := ((((arr.setIfInBounds (i * 5) (.int .i64 x.num)).setIfInBounds (i * 5 + 1) (.int .i64 x.kind)).setIfInBounds (i * 5 + 2) (.int .i64 x.day)).setIfInBounds (i * 5 + 3) (.int .i64 x.id)).setIfInBounds (i * 5 + 4) (.int .i64 x.qty)
theorem RowF.put {arr : Array Value} {m : Nat} {f : Nat → Fct} (h : RowF arr m f) (i : Nat) (x : Fct) (hi : i < m) : RowF (putF arr i x) m (fun j => if j = i then x else f j) := by
  have hs : i * 5 + 4 < arr.size := by
    rcases Nat.lt_or_ge (i * 5 + 4) arr.size with h1 | h1
    · exact h1
    · have := h i hi 4 (by omega)
      rw [Array.getElem?_eq_none h1] at this
      cases this
  intro j hj c hc
  unfold putF
  simp only [Array.getElem?_setIfInBounds, Array.size_setIfInBounds]
  by_cases e : j = i
  · subst e
    have hcc : c = 0 ∨ c = 1 ∨ c = 2 ∨ c = 3 ∨ c = 4 := by omega
    rcases hcc with rfl | rfl | rfl | rfl | rfl
    · rw [if_neg (by omega), if_neg (by omega), if_neg (by omega), if_neg (by omega), if_pos (by omega), if_pos (by omega), if_pos rfl]; rfl
    · rw [if_neg (by omega), if_neg (by omega), if_neg (by omega), if_pos (by omega), if_pos (by omega), if_pos rfl]; rfl
    · rw [if_neg (by omega), if_neg (by omega), if_pos (by omega), if_pos (by omega), if_pos rfl]; rfl
    · rw [if_neg (by omega), if_pos (by omega), if_pos (by omega), if_pos rfl]; rfl
    · rw [if_pos (by omega), if_pos (by omega), if_pos rfl]; rfl
  · rw [if_neg (by omega), if_neg (by omega), if_neg (by omega), if_neg (by omega), if_neg (by omega), if_neg e, h j hj c hc]
theorem putF_size (arr : Array Value) (i : Nat) (x : Fct) : (putF arr i x).size = arr.size := by simp [putF]
/-- The world with a fact stored at place i of block g. -/
def setF (w : World) (g i : Nat) (x : Fct) : World := ((((w.setCell ⟨g, i * 5, none⟩ (.int .i64 x.num)).setCell ⟨g, i * 5 + 1, none⟩ (.int .i64 x.kind)).setCell ⟨g, i * 5 + 2, none⟩ (.int .i64 x.day)).setCell ⟨g, i * 5 + 3, none⟩ (.int .i64 x.id)).setCell ⟨g, i * 5 + 4, none⟩ (.int .i64 x.qty)
theorem Bl.setF {w : World} {g : Nat} {t : TypeId} {arr : Array Value} (h : Bl w g t arr) (i : Nat) (x : Fct) : Bl (setF w g i x) g t (putF arr i x) := ((((h.put _ _).put _ _).put _ _).put _ _).put _ _
theorem Kp.setF {g : Nat} {a b : World} (h : Kp g a b) (i : Nat) (x : Fct) : Kp g a (setF b g i x) := ((((h.put _ _).put _ _).put _ _).put _ _).put _ _
/-- Block g holds the facts f 0 .. f (n-1); it has sz cells. -/
def FRow (w : World) (g n sz : Nat) (f : Nat → Fct) : Prop := ∃ arr, Bl w g 39 arr ∧ arr.size = sz ∧ RowF arr n f
section
variable {w w' : World} {g n sz : Nat} {f : Nat → Fct}
theorem FRow.lt (h : FRow w g n sz f) : g < w.heap.size := h.choose_spec.1.lt
theorem FRow.free (h : FRow w g n sz f) (o : Nat) : w.frozen? ⟨g, o, none⟩ = false := h.choose_spec.1.free o
theorem FRow.keep (h : FRow w g n sz f) (hb : RowKit.Below w.heap.size w w') : FRow w' g n sz f := by
  obtain ⟨arr, h1, h2, h3⟩ := h; exact ⟨arr, h1.keep hb, h2, h3⟩
theorem FRow.drewN (h : FRow w g n sz f) (k : Nat) : FRow (w.drewN k) g n sz f := h
theorem FRow.drew (h : FRow w g n sz f) : FRow w.drew g n sz f := h
theorem FRow.congr (h : FRow w g n sz f) {f' : Nat → Fct} (e : ∀ j, j < n → f' j = f j) : FRow w g n sz f' := by
  obtain ⟨arr, h1, h2, h3⟩ := h; exact ⟨arr, h1, h2, fun j hj c hc => by rw [e j hj]; exact h3 j hj c hc⟩
theorem FRow.cells (h : FRow w g n sz f) {i : Nat} (hi : i < n) : w.cell? ⟨g, i * 5, none⟩ = some (.int .i64 (f i).num) ∧ w.cell? ⟨g, i * 5 + 1, none⟩ = some (.int .i64 (f i).kind) ∧ w.cell? ⟨g, i * 5 + 2, none⟩ = some (.int .i64 (f i).day) ∧ w.cell? ⟨g, i * 5 + 3, none⟩ = some (.int .i64 (f i).id) ∧ w.cell? ⟨g, i * 5 + 4, none⟩ = some (.int .i64 (f i).qty) := by
  obtain ⟨arr, h1, h2, h3⟩ := h
  exact ⟨(h1.cell _).trans (h3 i hi 0 (by omega)), (h1.cell _).trans (h3 i hi 1 (by omega)), (h1.cell _).trans (h3 i hi 2 (by omega)), (h1.cell _).trans (h3 i hi 3 (by omega)), (h1.cell _).trans (h3 i hi 4 (by omega))⟩
theorem FRow.set (h : FRow w g n sz f) (i : Nat) (x : Fct) (hi : i < n) : FRow (setF w g i x) g n sz (fun j => if j = i then x else f j) := by
  obtain ⟨arr, h1, h2, h3⟩ := h; exact ⟨_, h1.setF i x, by rw [putF_size]; exact h2, h3.put i x hi⟩
/-- Two facts exchanged. -/
theorem FRow.swap (h : FRow w g n sz f) (i j : Nat) (hi : i < n) (hj : j < n) (xi xj : Fct) (ei : f i = xi) (ej : f j = xj) : FRow (setF (setF w g i xj) g j xi).drew g n sz (swapF f i j) := by
  subst ei ej
  refine ((h.set i _ hi).set j _ hj).drew.congr fun k hk => ?_
  unfold swapF
  by_cases e1 : k = i
  · by_cases e2 : k = j
    · rw [if_pos e1, if_pos e2, ← e2, e1]
    · rw [if_pos e1, if_neg e2, if_pos e1]
  · rw [if_neg e1]
    by_cases e2 : k = j
    · rw [if_pos e2, if_pos e2]
    · rw [if_neg e2, if_neg e2, if_neg e1]
end
end Go.Proofs.Ytemhiifgplaldaa

namespace Go.Proofs.Ytemhiifgplaldaa
open Go.RowKit
set_option linter.unusedVariables false

/-- A function that only rearranges the row. -/
def RowRes (w : World) (g n sz : Nat) (P : (Nat → Fct) → Prop) (e : Ending) (w' : World) : Prop := e = .returned (.tuple #[]) ∧ ∃ f', P f' ∧ FRow w' g n sz f' ∧ Kp g w w'

set_option maxRecDepth 100000 in
set_option maxHeartbeats 4000000 in
theorem swapRange_any (g n c sz : Nat) (f : Nat → Fct) (a b k : Nat) (fv : Value) (w : World) (h : FRow w g n sz f) (hab : a + k ≤ b) (hb : b + k ≤ n) (hn : n ≤ 1000000) :
    Calls Try.prog 88 #[.slice (some ⟨g, 0, none⟩) n c, .int .i64 a, .int .i64 b, .int .i64 k, fv] w (RowRes w g n sz (fun f' => f' = swapR f a b k)) := by
  go_enter Try.func88, Try.ntmps88
  go_wp2
  go_loopw [10] (fun i wx => ∃ j : Nat, j ≤ k ∧ i = .int .i64 j ∧ FRow wx g n sz (swapR f a b j) ∧ Kp g w wx) (fun i _ => k - (intOf i).toNat)
  case atStart => exact ⟨0, Nat.zero_le _, rfl, by rw [swapR_zero]; exact h, Kp.refl _ _⟩
  case round =>
    clear h
    obtain ⟨j, hj, rfl, hR, hK⟩ := hrel
    by_cases hlt : j < k
    · obtain ⟨p, hp⟩ : ∃ p, a + j = p := ⟨_, rfl⟩
      obtain ⟨q, hq⟩ : ∃ q, b + j = q := ⟨_, rfl⟩
      have HS := Lib.hid (swapR_succ f a b j (by omega))
      rw [hp, hq] at HS
      have u1 : IntKind.i64.wrap ((a : Int) + (j : Int)) = (p : Int) := (IntWalk.i64_in _ (by omega)).trans (by omega)
      have u2 : IntKind.i64.wrap ((b : Int) + (j : Int)) = (q : Int) := (IntWalk.i64_in _ (by omega)).trans (by omega)
      have hpn : p < n := by omega
      have hqn : q < n := by omega
      have hpi : (p : Int) < n := by omega
      have hqi : (q : Int) < n := by omega
      have n1 : p ≠ q := by omega
      have n2 : q ≠ p := by omega
      have n3 : p * 5 ≠ q * 5 := by omega
      have n4 : q * 5 ≠ p * 5 := by omega
      obtain ⟨xp, hxp⟩ : ∃ x, swapR f a b j p = x := ⟨_, rfl⟩
      obtain ⟨xq, hxq⟩ : ∃ x, swapR f a b j q = x := ⟨_, rfl⟩
      obtain ⟨a0, a1, a2, a3, a4⟩ := hR.cells hpn
      obtain ⟨b0, b1, b2, b3, b4⟩ := hR.cells hqn
      rw [hxp] at a0 a1 a2 a3 a4
      rw [hxq] at b0 b1 b2 b3 b4
      have e0 : wr.frozen? ⟨g, p * 5, none⟩ = false := hR.free _
      have e1 : wr.frozen? ⟨g, p * 5 + 1, none⟩ = false := hR.free _
      have e2 : wr.frozen? ⟨g, p * 5 + 2, none⟩ = false := hR.free _
      have e3 : wr.frozen? ⟨g, p * 5 + 3, none⟩ = false := hR.free _
      have e4 : wr.frozen? ⟨g, p * 5 + 4, none⟩ = false := hR.free _
      have f0 : wr.frozen? ⟨g, q * 5, none⟩ = false := hR.free _
      have f1 : wr.frozen? ⟨g, q * 5 + 1, none⟩ = false := hR.free _
      have f2 : wr.frozen? ⟨g, q * 5 + 2, none⟩ = false := hR.free _
      have f3 : wr.frozen? ⟨g, q * 5 + 3, none⟩ = false := hR.free _
      have f4 : wr.frozen? ⟨g, q * 5 + 4, none⟩ = false := hR.free _
      have HR := Lib.hid (hR.swap p q hpn hqn xp xq hxp hxq)
      have HK := Lib.hid ((hK.setF p xq).setF q xp).drew
      clear hxp hxq hR hK hp hq
      go_upto_region 3 with (fail)
      go_region
      have HR2 : Hid (FRow ((((((((((wr.setCell ⟨g, p * 5, none⟩ (.int .i64 xq.num)).setCell ⟨g, p * 5 + 1, none⟩ (.int .i64 xq.kind)).setCell ⟨g, p * 5 + 2, none⟩ (.int .i64 xq.day)).setCell ⟨g, p * 5 + 3, none⟩ (.int .i64 xq.id)).setCell ⟨g, p * 5 + 4, none⟩ (.int .i64 xq.qty)).setCell ⟨g, q * 5, none⟩ (.int .i64 xp.num)).setCell ⟨g, q * 5 + 1, none⟩ (.int .i64 xp.kind)).setCell ⟨g, q * 5 + 2, none⟩ (.int .i64 xp.day)).setCell ⟨g, q * 5 + 3, none⟩ (.int .i64 xp.id)).setCell ⟨g, q * 5 + 4, none⟩ (.int .i64 xp.qty)).drew g n sz (swapF (swapR f a b j) p q)) := HR.out
      have HK2 : Hid (Kp g w ((((((((((wr.setCell ⟨g, p * 5, none⟩ (.int .i64 xq.num)).setCell ⟨g, p * 5 + 1, none⟩ (.int .i64 xq.kind)).setCell ⟨g, p * 5 + 2, none⟩ (.int .i64 xq.day)).setCell ⟨g, p * 5 + 3, none⟩ (.int .i64 xq.id)).setCell ⟨g, p * 5 + 4, none⟩ (.int .i64 xq.qty)).setCell ⟨g, q * 5, none⟩ (.int .i64 xp.num)).setCell ⟨g, q * 5 + 1, none⟩ (.int .i64 xp.kind)).setCell ⟨g, q * 5 + 2, none⟩ (.int .i64 xp.day)).setCell ⟨g, q * 5 + 3, none⟩ (.int .i64 xp.id)).setCell ⟨g, q * 5 + 4, none⟩ (.int .i64 xp.qty)).drew) := HK.out
      generalize ((((((((((wr.setCell ⟨g, p * 5, none⟩ (.int .i64 xq.num)).setCell ⟨g, p * 5 + 1, none⟩ (.int .i64 xq.kind)).setCell ⟨g, p * 5 + 2, none⟩ (.int .i64 xq.day)).setCell ⟨g, p * 5 + 3, none⟩ (.int .i64 xq.id)).setCell ⟨g, p * 5 + 4, none⟩ (.int .i64 xq.qty)).setCell ⟨g, q * 5, none⟩ (.int .i64 xp.num)).setCell ⟨g, q * 5 + 1, none⟩ (.int .i64 xp.kind)).setCell ⟨g, q * 5 + 2, none⟩ (.int .i64 xp.day)).setCell ⟨g, q * 5 + 3, none⟩ (.int .i64 xp.id)).setCell ⟨g, q * 5 + 4, none⟩ (.int .i64 xp.qty)).drew = W11 at *
      clear HR HK a0 a1 a2 a3 a4 b0 b1 b2 b3 b4 e0 e1 e2 e3 e4 f0 f1 f2 f3 f4 u1 u2
      go_wp2_with fail
      go_roundw
      case rel => exact ⟨j + 1, by omega, by go_num, by rw [HS.out]; exact HR2.out, HK2.out⟩
      case measure => simp [intOf]; omega
    · obtain rfl : k = j := by omega
      go_wp2
      go_end0
      exact ⟨rfl, _, rfl, hR, hK⟩
theorem swapRange_int (g n c sz : Nat) (f : Nat → Fct) (a b k : Nat) (ai bi ki : Int) (ea : ai = a) (eb : bi = b) (ek : ki = k) (fv : Value) (w : World) (h : FRow w g n sz f) (hab : a + k ≤ b) (hb : b + k ≤ n) (hn : n ≤ 1000000) :
    Calls Try.prog 88 #[.slice (some ⟨g, 0, none⟩) n c, .int .i64 ai, .int .i64 bi, .int .i64 ki, fv] w (RowRes w g n sz (fun f' => f' = swapR f a b k)) := by
  subst ea eb ek
  exact swapRange_any g n c sz f a b k fv w h hab hb hn
theorem swapR_swaps (f : Nat → Fct) (a b k lo hi : Nat) (h : a + k ≤ b) (hl : lo ≤ a) (hh : b + k ≤ hi) : Swaps lo hi f (swapR f a b k) := by
  induction k with
  | zero => rw [swapR_zero]; exact .refl
  | succ k ih => rw [swapR_succ f a b k (by omega)]; exact .step _ _ (ih (by omega) (by omega)) (by omega) (by omega) (by omega) (by omega)

set_option maxRecDepth 100000 in
set_option maxHeartbeats 4000000 in
theorem rotate_any (g n c sz : Nat) (f : Nat → Fct) (a m b : Nat) (fv : Value) (w : World) (h : FRow w g n sz f) (ham : a < m) (hmb : m < b) (hb : b ≤ n) (hn : n ≤ 1000000) :
    Calls Try.prog 82 #[.slice (some ⟨g, 0, none⟩) n c, .int .i64 a, .int .i64 m, .int .i64 b, fv] w (RowRes w g n sz (fun f' => f' = rotF f a m b ∧ Swaps a b f f')) := by
  have HE : Hid (a = m - (m - a) ∧ b = m + (b - m)) := ⟨by omega, by omega⟩
  go_enter Try.func82, Try.ntmps82
  go_wp2
  go_loopw [10, 11] (fun i j wx => ∃ (I J : Nat) (f' : Nat → Fct), i = .int .i64 I ∧ j = .int .i64 J ∧ 0 < I ∧ 0 < J ∧ I ≤ m - a ∧ J ≤ b - m ∧ Hid (rotF f' (m - I) m (m + J) = rotF f a m b) ∧ Hid (Swaps a b f f') ∧ FRow wx g n sz f' ∧ Kp g w wx) (fun i j _ => (intOf i).toNat + (intOf j).toNat)
  case atStart => exact ⟨m - a, b - m, f, by congr 1; omega, by congr 1; omega, by omega, by omega, Nat.le_refl _, Nat.le_refl _, by show rotF _ _ _ _ = _; rw [← HE.out.1, ← HE.out.2], .refl, h, Kp.refl _ _⟩
  case round =>
    clear h HE
    obtain ⟨I, J, f1, rfl, rfl, hI, hJ, hIa, hJb, HRT, HSW, hR, hK⟩ := hrel
    rcases Nat.lt_trichotomy I J with hc | hc | hc
    · have b1 : ((I : Int) != (J : Int)) = true := by simp; omega
      have HS := Lib.hid (fun x y => swapRange_int g n c sz f1 (m - I) (m + J - I) I ((m : Int) - I) x I (by omega) y rfl fv wr hR (by omega) (by omega) hn)
      have HQ := Lib.hid (rot_lt f1 m I J (by omega) hc)
      have HW := Lib.hid (swapR_swaps f1 (m - I) (m + J - I) I a b (by omega) (by omega) (by omega))
      clear hR
      go_wp2_with fail
      refine (HS.out _ (by omega)).mono ?_
      rintro e w1 ⟨rfl, f2, rfl, hR2, hK2⟩
      clear HS
      go_wp2_with fail
      go_roundw
      case rel => exact ⟨I, J - I, _, rfl, by congr 1; omega, hI, by omega, hIa, by omega, by show rotF _ _ _ _ = _; rw [HQ.out, HRT.out], HSW.out.trans HW.out, hR2, hK.trans hK2⟩
      case measure => simp [intOf]; omega
    · subst hc
      have b1 : ((I : Int) != (I : Int)) = false := by simp
      have HS := Lib.hid (swapRange_int g n c sz f1 (m - I) m I ((m : Int) - I) m I (by omega) rfl rfl fv wr hR (by omega) (by omega) hn)
      have HQ := Lib.hid (rot_eq f1 m I (by omega))
      have HW := Lib.hid (swapR_swaps f1 (m - I) m I a b (by omega) (by omega) (by omega))
      clear hR
      go_wp2_with fail
      refine HS.out.mono ?_
      rintro e w1 ⟨rfl, f2, rfl, hR2, hK2⟩
      clear HS
      go_wp2
      go_end0
      exact ⟨rfl, _, ⟨by rw [HQ.out, HRT.out], HSW.out.trans HW.out⟩, hR2, hK.trans hK2⟩
    · have b1 : ((I : Int) != (J : Int)) = true := by simp; omega
      have HS := Lib.hid (swapRange_int g n c sz f1 (m - I) m J ((m : Int) - I) m J (by omega) rfl rfl fv wr hR (by omega) (by omega) hn)
      have HQ := Lib.hid (rot_gt f1 m I J (by omega) hc)
      have HW := Lib.hid (swapR_swaps f1 (m - I) m J a b (by omega) (by omega) (by omega))
      clear hR
      go_wp2_with fail
      refine HS.out.mono ?_
      rintro e w1 ⟨rfl, f2, rfl, hR2, hK2⟩
      clear HS
      go_wp2_with fail
      go_roundw
      case rel => exact ⟨I - J, J, _, by congr 1; omega, rfl, by omega, hJ, by omega, hJb, by show rotF _ _ _ _ = _; rw [HQ.out, HRT.out], HSW.out.trans HW.out, hR2, hK.trans hK2⟩
      case measure => simp [intOf]; omega
end Go.Proofs.Ytemhiifgplaldaa

namespace Go.Proofs.Ytemhiifgplaldaa
open Go.RowKit
set_option linter.unusedVariables false

/-- The comparison as a value. -/
def cmpV : Value := .func (.func 53) #[] #[]
/-- What the comparison answers. -/
def CmpSays (x y : Fct) (w : World) (e : Ending) (w' : World) : Prop := (∃ r : Int, e = .returned (.int .i64 r) ∧ (x.day < y.day → r = -1) ∧ (y.day ≤ x.day → 0 ≤ r)) ∧ RowKit.Below w.heap.size w w'
theorem compareInt_says (x y : Int) : (x < y → Lib.compareInt x y = -1) ∧ (y ≤ x → 0 ≤ Lib.compareInt x y) := by
  unfold Lib.compareInt
  constructor
  · intro h; rw [if_pos h]
  · intro h; rw [if_neg (by omega)]; split <;> omega

set_option maxRecDepth 100000 in
set_option maxHeartbeats 1000000 in
theorem cmpDay_any (x y : Fct) (w : World) : Calls Try.prog 53 #[.agg #[.int .i64 x.num, .int .i64 x.kind, .int .i64 x.day, .int .i64 x.id, .int .i64 x.qty], .agg #[.int .i64 y.num, .int .i64 y.kind, .int .i64 y.day, .int .i64 y.id, .int .i64 y.qty]] w (CmpSays x y w) := by
  have HC := Lib.hid (fun w => Try.cmp_Compare_int x.day y.day w)
  have HS := Lib.hid (compareInt_says x.day y.day)
  generalize Lib.compareInt x.day y.day = r at *
  go_enter Try.func53, Try.ntmps53
  go_wp2_with fail
  refine (HC.out _).mono ?_
  rintro e w1 ⟨rfl, rfl⟩
  go_wp2
  go_ret
  exact ⟨⟨r, rfl, HS.out⟩, ((Below.refl _ _).alloc (Nat.le_refl _) _).alloc (by simp) _⟩
theorem cmp_test {x y r : Int} (h : (x < y → r = -1) ∧ (y ≤ x → 0 ≤ r)) : decide (r < 0) = decide (x < y) := by
  by_cases e : x < y
  · rw [h.1 e, decide_eq_true e]; rfl
  · rw [decide_eq_false e]; have := h.2 (by omega); simp; omega
/-- The comparison, wherever nothing below the heap's end has changed. -/
theorem cmpDay_over (x y : Fct) (w wx : World) (hb : RowKit.Below w.heap.size w wx) : Calls Try.prog 53 #[.agg #[.int .i64 x.num, .int .i64 x.kind, .int .i64 x.day, .int .i64 x.id, .int .i64 x.qty], .agg #[.int .i64 y.num, .int .i64 y.kind, .int .i64 y.day, .int .i64 y.id, .int .i64 y.qty]] wx (CmpSays x y w) :=
  (cmpDay_any x y wx).mono fun e w' ⟨h1, h2⟩ => ⟨h1, hb.trans (h2.mono hb.size)⟩
theorem cells_over {w w' : World} {g n sz : Nat} {f : Nat → Fct} (h : FRow w g n sz f) (hb : RowKit.Below w.heap.size w w') {i : Nat} (hi : i < n) : w'.cell? ⟨g, i * 5, none⟩ = some (.int .i64 (f i).num) ∧ w'.cell? ⟨g, i * 5 + 1, none⟩ = some (.int .i64 (f i).kind) ∧ w'.cell? ⟨g, i * 5 + 2, none⟩ = some (.int .i64 (f i).day) ∧ w'.cell? ⟨g, i * 5 + 3, none⟩ = some (.int .i64 (f i).id) ∧ w'.cell? ⟨g, i * 5 + 4, none⟩ = some (.int .i64 (f i).qty) := (h.keep hb).cells hi

/-- What a call that sorts a range leaves. -/
def Sorts (w : World) (g n sz a b : Nat) (f : Nat → Fct) (e : Ending) (w' : World) : Prop := e = .returned (.tuple #[]) ∧ ∃ f', Srt a b f' ∧ Swaps a b f f' ∧ FRow w' g n sz f' ∧ Kp g w w'

set_option maxRecDepth 100000 in
set_option maxHeartbeats 4000000 in
theorem insSort_any (g n c sz : Nat) (f : Nat → Fct) (a b : Nat) (w : World) (h : FRow w g n sz f) (hab : a ≤ b) (hb : b ≤ n) (hn : n ≤ 1000000) :
    Calls Try.prog 71 #[.slice (some ⟨g, 0, none⟩) n c, .int .i64 a, .int .i64 b, .func (.func 53) #[] #[]] w (Sorts w g n sz a b f) := by
  go_enter Try.func71, Try.ntmps71
  go_wp2
  go_loopw [8] (fun i wx => ∃ (I : Nat) (f' : Nat → Fct), i = .int .i64 I ∧ a + 1 ≤ I ∧ (I ≤ b ∨ I = a + 1) ∧ Hid (Srt a I f') ∧ Hid (Swaps a b f f') ∧ FRow wx g n sz f' ∧ Kp g w wx) (fun i _ => b - (intOf i).toNat)
  case atStart => exact ⟨a + 1, f, by go_num, by omega, .inr rfl, Srt.one (by omega), .refl, h, Kp.refl _ _⟩
  case round =>
    clear h
    obtain ⟨I, f1, rfl, hI1, hI2, HS1, HW1, hR1, hK1⟩ := hrel
    by_cases hIb : I < b
    · clear hI2
      go_wp2_with fail
      go_loopw [9] (fun j wx => ∃ (J : Nat) (f' : Nat → Fct), j = .int .i64 J ∧ a ≤ J ∧ J ≤ I ∧ Hid (Ins a I J f') ∧ Hid (Swaps a b f f') ∧ FRow wx g n sz f' ∧ Kp g w wx) (fun j _ => (intOf j).toNat)
      case atStart => exact ⟨I, f1, rfl, by omega, Nat.le_refl _, Ins.start HS1.out, HW1, hR1, hK1⟩
      case round =>
        clear HS1 HW1 hR1 hK1
        obtain ⟨J, f2, rfl, hJ1, hJ2, HI, HW, hR, hK⟩ := hrel
        by_cases hJa : a < J
        · obtain ⟨p, hp⟩ : ∃ p, J - 1 = p := ⟨_, rfl⟩
          have u1 : IntKind.i64.wrap ((J : Int) - 1) = (p : Int) := (IntWalk.i64_in _ (by omega)).trans (by omega)
          have hJn : J < n := by omega
          have hpn : p < n := by omega
          have hJi : (J : Int) < n := by omega
          have hpi : (p : Int) < n := by omega
          have HT := Lib.hid (HI.out.step hJa hJ2)
          have HD := Lib.hid (fun h => HI.out.done hJ2 (.inr h) hJ1)
          rw [hp] at HT HD
          obtain ⟨xj, hxj⟩ : ∃ x, f2 J = x := ⟨_, rfl⟩
          obtain ⟨xp, hxp⟩ : ∃ x, f2 p = x := ⟨_, rfl⟩
          rw [hxj, hxp] at HT HD
          have HCJ := Lib.hid (fun w' hb => cells_over (w' := w') hR hb hJn)
          have HCP := Lib.hid (fun w' hb => cells_over (w' := w') hR hb hpn)
          rw [hxj] at HCJ
          rw [hxp] at HCP
          obtain ⟨a0, a1, a2, a3, a4⟩ := hR.cells hJn
          obtain ⟨b0, b1, b2, b3, b4⟩ := hR.cells hpn
          rw [hxj] at a0 a1 a2 a3 a4
          rw [hxp] at b0 b1 b2 b3 b4
          have HXJ := Lib.hid hxj
          have HXP := Lib.hid hxp
          have HCM : Hid (∀ wx, RowKit.Below wr.heap.size wr wx → Calls Try.prog 53 #[.agg #[.int .i64 xj.num, .int .i64 xj.kind, .int .i64 xj.day, .int .i64 xj.id, .int .i64 xj.qty], .agg #[.int .i64 xp.num, .int .i64 xp.kind, .int .i64 xp.day, .int .i64 xp.id, .int .i64 xp.qty]] wx (fun e w' => (∃ r : Int, e = .returned (.int .i64 r) ∧ (xj.day < xp.day → r = -1) ∧ (xp.day ≤ xj.day → 0 ≤ r)) ∧ RowKit.Below wr.heap.size wr w')) := fun wx hb => cmpDay_over xj xp wr wx hb
          have HB0 : Hid (RowKit.Below wr.heap.size wr wr.drew) := (Below.refl _ _).drew
          have HRR := Lib.hid hR
          have hp1 : p + 1 ≤ J := by omega
          have hp2 : J ≤ p + 1 := by omega
          clear hp hxj hxp HI hR
          go_upto_region 4 with (fail)
          obtain ⟨bb, hbb⟩ : ∃ b, decide (xj.day < xp.day) = b := ⟨_, rfl⟩
          have HBB := Lib.hid (fun r h => (cmp_test (r := r) h).trans hbb)
          have HBD := Lib.hid hbb
          clear hbb
          go_cut [34] (fun v wx => v = .bool bb ∧ RowKit.Below wr.heap.size wr wx)
          case first =>
            go_region_held3 (fun w' => w'.cell? ⟨g, J * 5, none⟩ = some (.int .i64 xj.num) ∧ w'.cell? ⟨g, J * 5 + 1, none⟩ = some (.int .i64 xj.kind) ∧ w'.cell? ⟨g, J * 5 + 2, none⟩ = some (.int .i64 xj.day) ∧ w'.cell? ⟨g, J * 5 + 3, none⟩ = some (.int .i64 xj.id) ∧ w'.cell? ⟨g, J * 5 + 4, none⟩ = some (.int .i64 xj.qty) ∧ w'.cell? ⟨g, p * 5, none⟩ = some (.int .i64 xp.num) ∧ w'.cell? ⟨g, p * 5 + 1, none⟩ = some (.int .i64 xp.kind) ∧ w'.cell? ⟨g, p * 5 + 2, none⟩ = some (.int .i64 xp.day) ∧ w'.cell? ⟨g, p * 5 + 3, none⟩ = some (.int .i64 xp.id) ∧ w'.cell? ⟨g, p * 5 + 4, none⟩ = some (.int .i64 xp.qty))
              (first
                | go_keep
                | exact ⟨(HCJ.out _ hb5.out).1, (HCJ.out _ hb5.out).2.1, (HCJ.out _ hb5.out).2.2.1, (HCJ.out _ hb5.out).2.2.2.1, (HCJ.out _ hb5.out).2.2.2.2, (HCP.out _ hb5.out).1, (HCP.out _ hb5.out).2.1, (HCP.out _ hb5.out).2.2.1, (HCP.out _ hb5.out).2.2.2.1, (HCP.out _ hb5.out).2.2.2.2⟩)
              (first
                | (go_at_call 53; with_reducible (refine (HCM.out _ ?_).mono ?_); with_reducible (first | exact HB0.out | exact hb5.out); rintro e w5 ⟨⟨r, rfl, hr'⟩, hb5'⟩; have hb5 := Lib.hid hb5'; have hr := Lib.hid hr'; clear hb5' hr'))
            all_goals (go_wp2_with fail; go_meet; exact ⟨by rw [HBB.out r hr.out], hb5.out⟩)
          case rest =>
            obtain ⟨rfl, hb5⟩ := hcut
            have hR5 := HRR.out.keep hb5
            have hK5 := hK.below hb5
            clear a0 a1 a2 a3 a4 b0 b1 b2 b3 b4 HCJ HCP HCM HB0 HRR hK hb5
            cases bb
            case true =>
              have HT2 := Lib.hid (HT.out (of_decide_eq_true HBD.out))
              have HW2 : Hid (Swaps a b f (swapF f2 J p)) := .step _ _ HW.out (by omega) (by omega) (by omega) (by omega)
              clear HT HD HBD HBB
              have n1 : J ≠ p := by omega
              have n2 : p ≠ J := by omega
              have n3 : J * 5 ≠ p * 5 := by omega
              have n4 : p * 5 ≠ J * 5 := by omega
              obtain ⟨a0, a1, a2, a3, a4⟩ := hR5.cells hJn
              obtain ⟨b0, b1, b2, b3, b4⟩ := hR5.cells hpn
              rw [HXJ.out] at a0 a1 a2 a3 a4
              rw [HXP.out] at b0 b1 b2 b3 b4
              have e0 : wc.frozen? ⟨g, J * 5, none⟩ = false := hR5.free _
              have e1 : wc.frozen? ⟨g, J * 5 + 1, none⟩ = false := hR5.free _
              have e2 : wc.frozen? ⟨g, J * 5 + 2, none⟩ = false := hR5.free _
              have e3 : wc.frozen? ⟨g, J * 5 + 3, none⟩ = false := hR5.free _
              have e4 : wc.frozen? ⟨g, J * 5 + 4, none⟩ = false := hR5.free _
              have fz0 : wc.frozen? ⟨g, p * 5, none⟩ = false := hR5.free _
              have fz1 : wc.frozen? ⟨g, p * 5 + 1, none⟩ = false := hR5.free _
              have fz2 : wc.frozen? ⟨g, p * 5 + 2, none⟩ = false := hR5.free _
              have fz3 : wc.frozen? ⟨g, p * 5 + 3, none⟩ = false := hR5.free _
              have fz4 : wc.frozen? ⟨g, p * 5 + 4, none⟩ = false := hR5.free _
              have HR2 : Hid (FRow ((((((((((wc.setCell ⟨g, J * 5, none⟩ (.int .i64 xp.num)).setCell ⟨g, J * 5 + 1, none⟩ (.int .i64 xp.kind)).setCell ⟨g, J * 5 + 2, none⟩ (.int .i64 xp.day)).setCell ⟨g, J * 5 + 3, none⟩ (.int .i64 xp.id)).setCell ⟨g, J * 5 + 4, none⟩ (.int .i64 xp.qty)).setCell ⟨g, p * 5, none⟩ (.int .i64 xj.num)).setCell ⟨g, p * 5 + 1, none⟩ (.int .i64 xj.kind)).setCell ⟨g, p * 5 + 2, none⟩ (.int .i64 xj.day)).setCell ⟨g, p * 5 + 3, none⟩ (.int .i64 xj.id)).setCell ⟨g, p * 5 + 4, none⟩ (.int .i64 xj.qty)).drew g n sz (swapF f2 J p)) := hR5.swap J p hJn hpn xj xp HXJ.out HXP.out
              have HK2 : Hid (Kp g w ((((((((((wc.setCell ⟨g, J * 5, none⟩ (.int .i64 xp.num)).setCell ⟨g, J * 5 + 1, none⟩ (.int .i64 xp.kind)).setCell ⟨g, J * 5 + 2, none⟩ (.int .i64 xp.day)).setCell ⟨g, J * 5 + 3, none⟩ (.int .i64 xp.id)).setCell ⟨g, J * 5 + 4, none⟩ (.int .i64 xp.qty)).setCell ⟨g, p * 5, none⟩ (.int .i64 xj.num)).setCell ⟨g, p * 5 + 1, none⟩ (.int .i64 xj.kind)).setCell ⟨g, p * 5 + 2, none⟩ (.int .i64 xj.day)).setCell ⟨g, p * 5 + 3, none⟩ (.int .i64 xj.id)).setCell ⟨g, p * 5 + 4, none⟩ (.int .i64 xj.qty)).drew) := ((hK5.setF J xp).setF p xj).drew
              clear hR5 hK5
              go_upto_region 6 with (fail)
              go_region
              generalize ((((((((((wc.setCell ⟨g, J * 5, none⟩ (.int .i64 xp.num)).setCell ⟨g, J * 5 + 1, none⟩ (.int .i64 xp.kind)).setCell ⟨g, J * 5 + 2, none⟩ (.int .i64 xp.day)).setCell ⟨g, J * 5 + 3, none⟩ (.int .i64 xp.id)).setCell ⟨g, J * 5 + 4, none⟩ (.int .i64 xp.qty)).setCell ⟨g, p * 5, none⟩ (.int .i64 xj.num)).setCell ⟨g, p * 5 + 1, none⟩ (.int .i64 xj.kind)).setCell ⟨g, p * 5 + 2, none⟩ (.int .i64 xj.day)).setCell ⟨g, p * 5 + 3, none⟩ (.int .i64 xj.id)).setCell ⟨g, p * 5 + 4, none⟩ (.int .i64 xj.qty)).drew = W11 at *
              clear a0 a1 a2 a3 a4 b0 b1 b2 b3 b4 e0 e1 e2 e3 e4 fz0 fz1 fz2 fz3 fz4 u1
              go_wp2_with fail
              go_roundw
              case rel => exact ⟨p, _, by congr 1; omega, by omega, by omega, HT2, HW2, HR2.out, HK2.out⟩
              case measure => simp [intOf]; omega
            case false =>
              have HD2 := Lib.hid (HD.out (of_decide_eq_false HBD.out))
              clear HT HD HBD HBB
              go_wp2_with fail
              go_roundw
              case rel => exact ⟨I + 1, f2, by go_num, by omega, .inl (by omega), HD2, HW, hR5, hK5⟩
              case measure => simp [intOf]; omega
        · have hd : decide ((a : Int) < (J : Int)) = false := by simp; omega
          have hd2 : decide (a < J) = false := by simp; omega
          have HD2 := Lib.hid (HI.out.done hJ2 (.inl (by omega)) hJ1)
          clear hJa
          go_upto_region 4 with (fail)
          go_quiet (fail)
          go_wp2_with fail
          go_roundw
          case rel => exact ⟨I + 1, f2, by go_num, by omega, .inl (by omega), HD2, HW, hR.drewN _, hK.drewN _⟩
          case measure => simp [intOf]; omega
    · have HS2 := Lib.hid (HS1.out.mono (Nat.le_refl _) (show b ≤ I by omega))
      go_wp2
      go_end0
      exact ⟨rfl, f1, HS2.out, HW1.out, hR1, hK1⟩
end Go.Proofs.Ytemhiifgplaldaa

/-
  Contracts of apportion.byRest and of the method sort of apportion.ranking: portions sorted by descending remainders, then by their indexes. No statement of the seat is proved here. Conditions: fewer than 2^62 portions.
  Plain arithmetic of the method of the largest remainder: ranks, shares, their sum. No statement of the seat is proved here. No conditions beyond those typed.
  The shares of the largest remainder as a plain function, and its laws: the sum, the bounds, the order, scaling. No statement of the seat is proved here. No conditions beyond those typed.
  The sorted portions: at place p stands the portion whose rank is p. No statement of the seat is proved here. No conditions beyond those typed.
  Contract of apportion.Share: the shares of the largest remainder, or the error of check. No statement of the seat is proved here. Conditions: the list's length fits.
  Contract of apportion.Share, all cases in one. No statement of the seat is proved here. Conditions: the list's length fits an int.
-/
import Derived.Test.YtemhiifgplaldaaMB
import Derived.Lib.Hide
import Derived.StillTailTactics
namespace Go.Proofs.Ytemhiifgplaldaa
open Go.RowKit Go.Shelf Go.Lib Go.Sort
set_option linter.unusedVariables false

/-- A portion: index, share, remainder. -/
structure Por where
  index : Int
  share : Int
  rest : Int
instance : Inhabited Por := ⟨⟨0, 0, 0⟩⟩
def encP (p : Por) : List Value := [.int .i64 p.index, .int .u64 p.share, .int .u64 p.rest]
def cmpP (x y : Por) : Int := if Lib.compareInt y.rest x.rest != 0 then Lib.compareInt y.rest x.rest else Lib.compareInt x.index y.index

set_option maxHeartbeats 1000000 in
theorem cmpU_any (x y : Int) (w : World) : Calls Try.prog 92 #[.int .u64 x, .int .u64 y] w fun e w' => e = .returned (.int .i64 (Lib.compareInt x y)) ∧ w = w' := by
  by_cases h1 : x < y
  · have E := Lib.hid (show Lib.compareInt x y = -1 by simp [Lib.compareInt, h1])
    go_enter Try.func92, Try.ntmps92
    go_wp2
    go_ret
    exact ⟨ret_int' E.out.symm, rfl⟩
  by_cases h2 : y < x
  · have E := Lib.hid (show Lib.compareInt x y = 1 by simp [Lib.compareInt, h1, h2])
    go_enter Try.func92, Try.ntmps92
    go_wp2
    go_ret
    exact ⟨ret_int' E.out.symm, rfl⟩
  · have E := Lib.hid (show Lib.compareInt x y = 0 by simp [Lib.compareInt, h1, h2])
    go_enter Try.func92, Try.ntmps92
    go_wp2
    go_ret
    exact ⟨ret_int' E.out.symm, rfl⟩

set_option maxHeartbeats 1000000 in
theorem byRest_any (x y : Por) (w : World) : Calls Try.prog 85 #[.agg #[.int .i64 x.index, .int .u64 x.share, .int .u64 x.rest], .agg #[.int .i64 y.index, .int .u64 y.share, .int .u64 y.rest]] w
    fun e w' => e = .returned (.int .i64 (cmpP x y)) ∧ ∃ os', w' = grow w os' := by
  have H1 := Lib.hid (fun w => cmpU_any y.rest x.rest w)
  have H2 := Lib.hid (fun w => Try.cmp_Compare_int x.index y.index w)
  have HE := Lib.hid (show cmpP x y = if Lib.compareInt y.rest x.rest != 0 then Lib.compareInt y.rest x.rest else Lib.compareInt x.index y.index from rfl)
  generalize cmpP x y = r at *
  generalize Lib.compareInt y.rest x.rest = a at *
  generalize Lib.compareInt x.index y.index = b at *
  cases h : (a != 0) with
  | true =>
    go_enter Try.func85, Try.ntmps85
    go_wp2_with (first | (go_at_call 92; refine (H1.out _).mono ?_; rintro e w' ⟨rfl, rfl⟩) | (go_at_call 36; refine (H2.out _).mono ?_; rintro e w' ⟨rfl, rfl⟩))
    go_ret
    exact ⟨ret_int' (by rw [HE.out, h]; rfl), _, by rw [alloc_eq_grow, alloc_eq_grow, grow_grow]⟩
  | false =>
    go_enter Try.func85, Try.ntmps85
    go_wp2_with (first | (go_at_call 92; refine (H1.out _).mono ?_; rintro e w' ⟨rfl, rfl⟩) | (go_at_call 36; refine (H2.out _).mono ?_; rintro e w' ⟨rfl, rfl⟩))
    go_ret
    exact ⟨ret_int' (by rw [HE.out, h]; rfl), _, by rw [alloc_eq_grow, alloc_eq_grow, grow_grow]⟩


set_option maxHeartbeats 1000000 in
theorem rankCmp_any (x y : Por) (bk : Nat) (W : World) (hc : W.cell? ⟨bk, 0, none⟩ = some (.func (.func 85) #[] #[])) (hb : bk < W.heap.size) :
    Calls Try.prog 94 #[.agg #[.int .i64 x.index, .int .u64 x.share, .int .u64 x.rest], .agg #[.int .i64 y.index, .int .u64 y.share, .int .u64 y.rest], .pointer (some ⟨bk, 0, none⟩)] W
    fun e w' => e = .returned (.int .i64 (cmpP x y)) ∧ ∃ q os', w' = grow (W.drewN q) os' := by
  have H1 := Lib.hid (fun w => byRest_any x y w)
  have hc' : ∀ o1 o2, ((W.alloc o1).alloc o2).cell? ⟨bk, 0, none⟩ = some (.func (.func 85) #[] #[]) := fun o1 o2 => by
    rw [World.cell?_alloc_lt _ _ _ (by simp; omega), World.cell?_alloc_lt _ _ _ hb, hc]
  generalize cmpP x y = r at *
  go_enter Try.func94, Try.ntmps94
  go_wp2_with (go_at_call 85; refine (H1.out _).mono ?_; rintro e w' ⟨rfl, os, rfl⟩)
  go_ret
  exact ⟨rfl, 0, _, by rw [alloc_eq_grow, alloc_eq_grow, grow_grow, grow_grow]; rfl⟩

theorem rankLays (blk off size : Nat) (w : World) (T : TypeId) (hblk : blk < w.heap.size) :
    CmpLays Try.prog 94 #[.pointer (some ⟨w.heap.size, 0, none⟩)] encP 3 cmpP blk off size (w.alloc (.cells #[.func (.func 85) #[] #[]] T)) := by
  intro m os dk _ x y
  refine rankCmp_any x y w.heap.size _ ?_ ?_
  · unfold sortWorldK
    rw [cell?_grow _ _ _ (by simp [putRowK]), cell?_putRowK_other encP 3 _ _ _ _ _ (by show w.heap.size ≠ blk; omega), cell?_ahead]
    simp only [World.cell?, heap_alloc_new]
    rfl
  · simp [sortWorldK, putRowK]
    omega

theorem ltP (x y : Por) : ltOf cmpP x y = decide (y.rest < x.rest ∨ (x.rest = y.rest ∧ x.index < y.index)) := by
  unfold ltOf cmpP Lib.compareInt
  by_cases h1 : y.rest < x.rest
  · simp [h1]
  · by_cases h2 : x.rest < y.rest
    · have : ¬ x.rest = y.rest := by omega
      simp [h1, h2, this]
    · have : x.rest = y.rest := by omega
      simp [this]
      by_cases h3 : x.index < y.index
      · simp [h3]
      · by_cases h4 : y.index < x.index <;> simp [h3, h4]

theorem swoP : SWO (ltOf cmpP) where
  irrefl x := by rw [ltP]; simp
  trans x y z h1 h2 := by rw [ltP] at *; simp at *; omega
  ntrans x y z h1 h2 := by rw [ltP] at *; simp at *; omega

set_option maxHeartbeats 1000000 in
theorem rankSort_any (blk off cap : Nat) (d : Array Por) (w : World) (hH : HoldsK encP 3 w blk off d) (hblk : blk < w.heap.size) (hsz : d.size < 4611686018427387904) :
    Calls Try.prog 86 #[.agg #[.func (.func 85) #[] #[]], .slice (some ⟨blk, off, none⟩) d.size cap] w fun e w' => e = .returned (.tuple #[]) ∧
      ∃ d' n os, PermIn 0 d.size d d' ∧ SortedIn (ltOf cmpP) 0 d.size d' ∧ w' = sortWorldK encP 3 w blk off n d' os := by
  have eg : ∀ args w, (callFunc 94 args).run Try.prog w = .ok (.enter 94 args) w := enters_of Try.func94 (by kernel_rfl) rfl
  have hcon := fun T => AnyQ.slices_SortFunc Try.sortP 3 Try.isAgg138 Try.sizeOf138 encP (fun _ => rfl) (fun x v hv => by simp [encP] at hv; rcases hv with rfl | rfl | rfl <;> rfl) cmpP swoP 94 #[.pointer (some ⟨w.heap.size, 0, none⟩)] blk off cap d (w.alloc (.cells #[.func (.func 85) #[] #[]] T)) eg (rankLays blk off d.size w T hblk)
    (by rw [alloc_eq_grow]; exact holdsK_grow encP 3 w _ blk off d hblk hH) (by simp; omega) hsz
  change ∀ T, Calls Try.prog 93 _ _ _ at hcon
  have HC := Lib.hid hcon
  clear hH hcon eg
  go_enter Try.func86, Try.ntmps86
  go_wp2_with (go_at_call 93; refine (HC.out _).mono ?_; rintro e w' ⟨rfl, d', n, os, hp, hs, rfl⟩)
  go_end0
  refine ⟨rfl, d', n, #[.cells #[.func (.func 85) #[] #[]] 141] ++ os, hp, hs, ?_⟩
  unfold sortWorldK
  rw [alloc_eq_grow, ahead_grow, putRowK_grow encP 3 _ _ _ _ _ (by simpa using hblk), grow_grow]
end Go.Proofs.Ytemhiifgplaldaa

namespace Go.Proofs.Ytemhiifgplaldaa
set_option linter.unusedVariables false

/-- The sum of f over 0 .. n-1. -/
def sumN (n : Nat) (f : Nat → Int) : Int := ((List.range n).map f).sum
theorem sumN_zero (f : Nat → Int) : sumN 0 f = 0 := rfl
theorem sumN_succ (n : Nat) (f : Nat → Int) : sumN (n + 1) f = sumN n f + f n := by
  simp [sumN, List.range_succ]
theorem sumN_congr {n : Nat} {f g : Nat → Int} (h : ∀ i, i < n → f i = g i) : sumN n f = sumN n g := by
  unfold sumN
  rw [List.map_congr_left (fun i hi => h i (List.mem_range.1 hi))]
theorem sumN_add (n : Nat) (f g : Nat → Int) : sumN n (fun i => f i + g i) = sumN n f + sumN n g := by
  induction n with
  | zero => rfl
  | succ n ih => simp only [sumN_succ, ih]; omega
theorem sumN_mul (n : Nat) (c : Int) (f : Nat → Int) : sumN n (fun i => c * f i) = c * sumN n f := by
  induction n with
  | zero => simp [sumN_zero]
  | succ n ih => simp only [sumN_succ, ih, Int.mul_add]
theorem sumN_const (n : Nat) (c : Int) : sumN n (fun _ => c) = n * c := by
  induction n with
  | zero => simp [sumN_zero]
  | succ n ih => rw [sumN_succ, ih, Int.natCast_succ, Int.add_mul]; omega
theorem sumN_le {n : Nat} {f g : Nat → Int} (h : ∀ i, i < n → f i ≤ g i) : sumN n f ≤ sumN n g := by
  induction n with
  | zero => simp [sumN_zero]
  | succ n ih => rw [sumN_succ, sumN_succ]; have := ih (fun i hi => h i (by omega)); have := h n (by omega); omega
theorem sumN_nonneg {n : Nat} {f : Nat → Int} (h : ∀ i, i < n → 0 ≤ f i) : 0 ≤ sumN n f := by
  have := sumN_le (n := n) (f := fun _ => 0) (g := f) h
  rw [sumN_const] at this
  omega
theorem sumN_list (ws : List Int) : sumN ws.length (fun i => ws.getD i 0) = ws.sum := by
  unfold sumN
  congr 1
  apply List.ext_getElem
  · simp
  · intro i h1 h2
    simp [List.getD, List.getElem?_eq_getElem h2]

theorem perm_sum {l l' : List Int} (h : l.Perm l') : l.sum = l'.sum := by
  induction h with
  | nil => rfl
  | cons x _ ih => simp [ih]
  | swap x y l => simp; omega
  | trans _ _ ih1 ih2 => exact ih1.trans ih2

/-! ### Ranks -/
/-- j comes before i: a greater remainder, or the same one and a smaller index. -/
def bef (r : Nat → Int) (j i : Nat) : Bool := decide (r i < r j ∨ (r j = r i ∧ j < i))
/-- How many of 0 .. n-1 come before i. -/
def rank (r : Nat → Int) (n i : Nat) : Nat := (List.range n).countP (fun j => bef r j i)

theorem countP_pos_eq {α : Type} (f : α → Bool) (l : List α) (p : Nat) (hp : p ≤ l.length) (h1 : ∀ k (h : k < l.length), k < p → f l[k] = true) (h2 : ∀ k (h : k < l.length), p ≤ k → f l[k] = false) : l.countP f = p := by
  rw [← List.take_append_drop p l, List.countP_append]
  have e1 : (l.take p).countP f = p := by
    rw [List.countP_eq_length.2]
    · rw [List.length_take]; omega
    · intro a ha
      obtain ⟨k, hk, rfl⟩ := List.mem_iff_getElem.1 ha
      rw [List.length_take] at hk
      rw [List.getElem_take]
      exact h1 k (by omega) (by omega)
  have e2 : (l.drop p).countP f = 0 := by
    rw [List.countP_eq_zero]
    intro a ha
    obtain ⟨k, hk, rfl⟩ := List.mem_iff_getElem.1 ha
    rw [List.length_drop] at hk
    rw [List.getElem_drop, h2 (p + k) (by omega) (by omega)]
    simp
  omega

/-- In an ordered arrangement of 0 .. n-1 each stands at its rank. -/
theorem rank_of_sorted (r : Nat → Int) (n : Nat) (l : List Nat) (hp : l.Perm (List.range n)) (hs : ∀ i j (hi : i < l.length) (hj : j < l.length), i < j → bef r l[j] l[i] = false) (p : Nat) (h : p < l.length) : rank r n l[p] = p := by
  unfold rank
  rw [← hp.countP_eq]
  have hnd : l.Nodup := hp.nodup_iff.2 List.nodup_range
  refine countP_pos_eq _ l p (by omega) ?_ ?_
  · intro k hk hkp
    have h1 := hs k p hk h hkp
    have h2 : l[k] ≠ l[p] := List.pairwise_iff_getElem.1 hnd k p hk h hkp
    simp [bef] at h1 ⊢
    omega
  · intro k hk hkp
    rcases Nat.lt_or_ge p k with h3 | h3
    · exact hs p k h hk h3
    · obtain rfl : k = p := by omega
      simp [bef]

theorem exists_sorted (r : Nat → Int) (n : Nat) : ∃ l : List Nat, l.Perm (List.range n) ∧ ∀ i j (hi : i < l.length) (hj : j < l.length), i < j → bef r l[j] l[i] = false := by
  refine ⟨(List.range n).mergeSort (fun a b => !bef r b a), List.mergeSort_perm _ _, ?_⟩
  have hpw := List.pairwise_mergeSort (le := fun a b => !bef r b a) (fun a b c h1 h2 => by simp [bef] at *; omega) (fun a b => by simp [bef]; omega) (List.range n)
  intro i j hi hj hij
  have := List.pairwise_iff_getElem.1 hpw i j hi hj hij
  simpa using this

theorem perm_rank (r : Nat → Int) (n : Nat) : ((List.range n).map (rank r n)).Perm (List.range n) := by
  obtain ⟨l, hp, hs⟩ := exists_sorted r n
  have h1 : (l.map (rank r n)).Perm ((List.range n).map (rank r n)) := hp.map _
  have h2 : l.map (rank r n) = List.range n := by
    have hl : l.length = n := by rw [hp.length_eq, List.length_range]
    apply List.ext_getElem
    · simp [hl]
    · intro i h3 h4
      rw [List.getElem_map, rank_of_sorted r n l hp hs, List.getElem_range]
  rw [h2] at h1
  exact h1.symm

theorem rank_lt (r : Nat → Int) (n i : Nat) (hi : i < n) : rank r n i < n := by
  have : rank r n i ∈ List.range n := (perm_rank r n).mem_iff.1 (List.mem_map.2 ⟨i, List.mem_range.2 hi, rfl⟩)
  exact List.mem_range.1 this

theorem rank_surj (r : Nat → Int) (n p : Nat) (hp : p < n) : ∃ i, i < n ∧ rank r n i = p := by
  have := (perm_rank r n).mem_iff.2 (List.mem_range.2 hp)
  obtain ⟨i, hi, e⟩ := List.mem_map.1 this
  exact ⟨i, List.mem_range.1 hi, e⟩

theorem rank_inj (r : Nat → Int) (n i j : Nat) (hi : i < n) (hj : j < n) (h : rank r n i = rank r n j) : i = j := by
  have hnd : ((List.range n).map (rank r n)).Nodup := (perm_rank r n).nodup_iff.2 List.nodup_range
  have hl : ((List.range n).map (rank r n)).length = n := by simp
  rcases Nat.lt_trichotomy i j with h1 | h1 | h1
  · have := List.pairwise_iff_getElem.1 hnd i j (by omega) (by omega) h1
    simp at this
    exact absurd h this
  · exact h1
  · have := List.pairwise_iff_getElem.1 hnd j i (by omega) (by omega) h1
    simp at this
    exact absurd h.symm this

theorem bef_trans {r : Nat → Int} {a b c : Nat} (h1 : bef r a b = true) (h2 : bef r b c = true) : bef r a c = true := by simp [bef] at *; omega

/-- Who comes before has the smaller rank. -/
theorem rank_lt_of_bef (r : Nat → Int) (n j i : Nat) (hj : j < n) (h : bef r j i = true) : rank r n j < rank r n i := by
  unfold rank
  have key : ∀ l : List Nat, (∃ a ∈ l, a = j) → l.countP (fun k => bef r k j) < l.countP (fun k => bef r k i) := by
    intro l
    induction l with
    | nil => rintro ⟨a, ha, _⟩; cases ha
    | cons x l ih =>
      rintro ⟨a, ha, rfl⟩
      have hmono : l.countP (fun k => bef r k a) ≤ l.countP (fun k => bef r k i) := List.countP_mono_left fun k _ hk => bef_trans hk h
      rcases List.mem_cons.1 ha with e | e
      · subst e
        have hx : bef r a a = false := by simp [bef]
        rw [List.countP_cons, List.countP_cons, hx, h]
        simp
        omega
      · have := ih ⟨a, e, rfl⟩
        rw [List.countP_cons, List.countP_cons]
        by_cases hx : bef r x a = true
        · rw [hx, bef_trans hx h]
          simp
          omega
        · rw [Bool.eq_false_iff.2 hx]
          simp
          split <;> omega
  exact key _ ⟨j, List.mem_range.2 hj, rfl⟩

theorem bef_total {r : Nat → Int} {a b : Nat} (h : a ≠ b) (h2 : bef r a b = false) : bef r b a = true := by simp [bef] at *; omega

/-- How many ranks lie below L. -/
theorem sum_below (r : Nat → Int) (n : Nat) (L : Int) (h0 : 0 ≤ L) (hL : L ≤ n) : sumN n (fun i => if (rank r n i : Int) < L then 1 else 0) = L := by
  have h1 : sumN n (fun i => if (rank r n i : Int) < L then 1 else 0) = sumN n (fun p : Nat => if (p : Int) < L then 1 else 0) := by
    unfold sumN
    have : (List.range n).map (fun i => if (rank r n i : Int) < L then (1 : Int) else 0) = ((List.range n).map (rank r n)).map (fun p : Nat => if (p : Int) < L then (1 : Int) else 0) := by simp
    rw [this]
    exact perm_sum ((perm_rank r n).map _)
  rw [h1]
  have h2 : ∀ m : Nat, sumN m (fun p => if (p : Int) < L then 1 else 0) = min (m : Int) L := by
    intro m
    induction m with
    | zero => simp [sumN_zero]; omega
    | succ m ih => rw [sumN_succ, ih]; split <;> omega
  rw [h2]
  omega

end Go.Proofs.Ytemhiifgplaldaa

namespace Go.Proofs.Ytemhiifgplaldaa
set_option linter.unusedVariables false

/-- The divisor: the sum of the weights, or their number if all are 0. -/
def wsum (ws : List Int) : Int := if ws.sum = 0 then ws.length else ws.sum
/-- What a weight counts. -/
def wt (ws : List Int) (i : Nat) : Int := if ws.sum = 0 then 1 else ws.getD i 0
def quoI (t : Int) (ws : List Int) (i : Nat) : Int := t * wt ws i / wsum ws
def rstI (t : Int) (ws : List Int) (i : Nat) : Int := t * wt ws i % wsum ws
/-- The units that the floors leave. -/
def leftI (t : Int) (ws : List Int) : Int := t - sumN ws.length (quoI t ws)
def shareI (t : Int) (ws : List Int) (i : Nat) : Int := quoI t ws i + if (rank (rstI t ws) ws.length i : Int) < leftI t ws then 1 else 0
/-- The shares of the largest remainder. -/
def shareL (t : Int) (ws : List Int) : List Int := (List.range ws.length).map (shareI t ws)

theorem shareL_length (t : Int) (ws : List Int) : (shareL t ws).length = ws.length := by simp [shareL]
theorem shareL_get (t : Int) (ws : List Int) (i : Nat) (h : i < ws.length) : (shareL t ws).getD i 0 = shareI t ws i := by
  simp [shareL, List.getD, h]

/-- Weights from 0 on. -/
def NonNeg (ws : List Int) : Prop := ∀ i : Nat, 0 ≤ ws.getD i 0

variable {t : Int} {ws : List Int}

theorem sum_nonneg (h : NonNeg ws) : 0 ≤ ws.sum := by
  rw [← sumN_list]
  exact sumN_nonneg fun i _ => h i

theorem wsum_pos (h : NonNeg ws) (hn : 0 < ws.length) : 0 < wsum ws := by
  have := sum_nonneg h
  unfold wsum
  split <;> omega

theorem wt_nonneg (h : NonNeg ws) (i : Nat) : 0 ≤ wt ws i := by
  unfold wt
  split
  · omega
  · exact h i

theorem sum_wt (ws : List Int) : sumN ws.length (wt ws) = wsum ws := by
  unfold wsum
  by_cases h : ws.sum = 0
  · rw [if_pos h]
    have : sumN ws.length (wt ws) = sumN ws.length (fun _ => 1) := sumN_congr fun i _ => by simp [wt, h]
    rw [this, sumN_const]
    omega
  · rw [if_neg h, ← sumN_list ws]
    exact sumN_congr fun i _ => by simp [wt, h]

theorem rst_nonneg (h : NonNeg ws) (hn : 0 < ws.length) (i : Nat) : 0 ≤ rstI t ws i := Int.emod_nonneg _ (by have := wsum_pos h hn; omega)
theorem rst_lt (h : NonNeg ws) (hn : 0 < ws.length) (i : Nat) : rstI t ws i < wsum ws := Int.emod_lt_of_pos _ (wsum_pos h hn)
theorem quo_nonneg (h : NonNeg ws) (ht : 0 ≤ t) (hn : 0 < ws.length) (i : Nat) : 0 ≤ quoI t ws i := Int.ediv_nonneg (Int.mul_nonneg ht (wt_nonneg h i)) (by have := wsum_pos h hn; omega)
theorem quo_rst (t : Int) (ws : List Int) (i : Nat) : wsum ws * quoI t ws i + rstI t ws i = t * wt ws i := Int.mul_ediv_add_emod _ _

/-- The remainders add up to the units that are left, times the divisor. -/
theorem sum_rst (t : Int) (ws : List Int) : sumN ws.length (rstI t ws) = leftI t ws * wsum ws := by
  have h1 : sumN ws.length (fun i => wsum ws * quoI t ws i + rstI t ws i) = t * wsum ws := by
    rw [sumN_congr (fun i _ => quo_rst t ws i), sumN_mul, sum_wt]
  rw [sumN_add, sumN_mul] at h1
  unfold leftI
  rw [Int.sub_mul, Int.mul_comm (sumN _ _)]
  omega

theorem left_nonneg (h : NonNeg ws) (hn : 0 < ws.length) : 0 ≤ leftI t ws := by
  have h1 := sum_rst t ws
  have h2 := sumN_nonneg (n := ws.length) (f := rstI t ws) fun i _ => rst_nonneg h hn i
  have h3 := wsum_pos h hn
  rcases Int.lt_or_le (leftI t ws) 0 with h4 | h4
  · have := Int.mul_neg_of_neg_of_pos h4 h3
    omega
  · exact h4

theorem left_lt (h : NonNeg ws) (hn : 0 < ws.length) : leftI t ws < ws.length := by
  have h1 := sum_rst t ws
  have h2 := sumN_le (n := ws.length) (f := rstI t ws) (g := fun _ => wsum ws - 1) fun i _ => by have := rst_lt (t := t) h hn i; omega
  rw [sumN_const, h1] at h2
  have h3 := wsum_pos h hn
  rcases Int.lt_or_le (leftI t ws) ws.length with h4 | h4
  · exact h4
  · have h5 : (ws.length : Int) * wsum ws ≤ leftI t ws * wsum ws := Int.mul_le_mul_of_nonneg_right h4 (by omega)
    rw [Int.mul_sub] at h2
    omega

/-- The shares add up to the total. -/
theorem sum_share (h : NonNeg ws) (hn : 0 < ws.length) : sumN ws.length (shareI t ws) = t := by
  have h1 := left_nonneg (t := t) h hn
  have h2 := left_lt (t := t) h hn
  have h3 := sum_below (rstI t ws) ws.length (leftI t ws) h1 (by omega)
  have h4 : sumN ws.length (shareI t ws) = sumN ws.length (quoI t ws) + sumN ws.length (fun i => if (rank (rstI t ws) ws.length i : Int) < leftI t ws then 1 else 0) := sumN_add _ _ _
  rw [h4, h3]
  unfold leftI
  omega

theorem share_ge (t : Int) (ws : List Int) (i : Nat) : quoI t ws i ≤ shareI t ws i := by unfold shareI; split <;> omega
theorem share_le (t : Int) (ws : List Int) (i : Nat) : shareI t ws i ≤ quoI t ws i + 1 := by unfold shareI; split <;> omega
theorem share_nonneg (h : NonNeg ws) (ht : 0 ≤ t) (hn : 0 < ws.length) (i : Nat) : 0 ≤ shareI t ws i := by have := share_ge t ws i; have := quo_nonneg h ht hn i; omega

theorem sumN_le_all {n : Nat} {f : Nat → Int} (h : ∀ i, i < n → 0 ≤ f i) (i : Nat) (hi : i < n) : f i ≤ sumN n f := by
  induction n with
  | zero => omega
  | succ n ih =>
    rw [sumN_succ]
    have h1 := sumN_nonneg (n := n) (f := f) fun i hi => h i (by omega)
    have h2 := h n (by omega)
    by_cases e : i = n
    · subst e; omega
    · have := ih (fun i hi => h i (by omega)) (by omega); omega

theorem share_le_total (h : NonNeg ws) (ht : 0 ≤ t) (hn : 0 < ws.length) (i : Nat) (hi : i < ws.length) : shareI t ws i ≤ t := by
  have := sumN_le_all (n := ws.length) (f := shareI t ws) (fun i _ => share_nonneg h ht hn i) i hi
  rw [sum_share h hn] at this
  exact this

/-- Who has no remainder is not raised. -/
theorem not_raised (h : NonNeg ws) (hn : 0 < ws.length) (i : Nat) (hi : i < ws.length) (hr : rstI t ws i = 0) : leftI t ws ≤ rank (rstI t ws) ws.length i := by
  rcases Int.lt_or_le (rank (rstI t ws) ws.length i) (leftI t ws) with h1 | h1
  · exfalso
    -- all that have a remainder come before i, so fewer than left of them: the sum of remainders is too small
    have h2 : sumN ws.length (rstI t ws) ≤ sumN ws.length (fun j => (wsum ws - 1) * (if (rank (rstI t ws) ws.length j : Int) < rank (rstI t ws) ws.length i then 1 else 0)) := by
      refine sumN_le fun j hj => ?_
      by_cases hb : bef (rstI t ws) j i = true
      · have := rank_lt_of_bef (rstI t ws) ws.length j i hj hb
        rw [if_pos (by omega)]
        have := rst_lt (t := t) h hn j
        omega
      · have h0 := rst_nonneg (t := t) h hn j
        have hz : rstI t ws j = 0 := by simp [bef] at hb; omega
        rw [hz]
        have h3 := wsum_pos h hn
        exact Int.mul_nonneg (by omega) (by split <;> omega)
    rw [sumN_mul, sum_below _ _ _ (by omega) (by have := rank_lt (rstI t ws) ws.length i hi; omega), sum_rst] at h2
    have h3 := wsum_pos h hn
    have h4 : (wsum ws - 1) * (rank (rstI t ws) ws.length i : Int) ≤ (rank (rstI t ws) ws.length i : Int) * wsum ws := by
      rw [Int.sub_mul, Int.mul_comm]
      omega
    have h5 : ((rank (rstI t ws) ws.length i : Int) + 1) * wsum ws ≤ leftI t ws * wsum ws := Int.mul_le_mul_of_nonneg_right (by omega) (by omega)
    rw [Int.add_mul] at h5
    omega
  · exact h1

/-- Each share is the rounded quotient. -/
theorem share_ceil (h : NonNeg ws) (hn : 0 < ws.length) (i : Nat) (hi : i < ws.length) : shareI t ws i ≤ (t * wt ws i + wsum ws - 1) / wsum ws := by
  have h3 := wsum_pos h hn
  have h1 := quo_rst t ws i
  have h2 := rst_nonneg (t := t) h hn i
  rw [Int.le_ediv_iff_mul_le h3]
  by_cases hr : rstI t ws i = 0
  · have h4 := not_raised (t := t) h hn i hi hr
    have h5 : shareI t ws i = quoI t ws i := by unfold shareI; rw [if_neg (by omega)]; omega
    rw [h5, Int.mul_comm]
    omega
  · have h4 := share_le t ws i
    have h5 : shareI t ws i * wsum ws ≤ (quoI t ws i + 1) * wsum ws := Int.mul_le_mul_of_nonneg_right h4 (by omega)
    rw [Int.add_mul, Int.mul_comm (quoI t ws i)] at h5
    omega

/-- No share of a total below the sum is above its weight. -/
theorem share_le_weight (h : NonNeg ws) (hn : 0 < ws.length) (ht : 0 ≤ t) (hs : t < ws.sum) (i : Nat) (hi : i < ws.length) : shareI t ws i ≤ ws.getD i 0 := by
  have hsum : ¬ ws.sum = 0 := by omega
  have hw : wsum ws = ws.sum := by simp [wsum, hsum]
  have hwt : wt ws i = ws.getD i 0 := by simp [wt, hsum]
  have h1 := share_ceil (t := t) h hn i hi
  rw [hw, hwt] at h1
  refine Int.le_trans h1 ?_
  have h0 := h i
  have h2 : (t * ws.getD i 0 + ws.sum - 1) / ws.sum < ws.getD i 0 + 1 := by
    rw [Int.ediv_lt_iff_lt_mul (by omega), Int.add_mul, Int.mul_comm t]
    have : ws.getD i 0 * t ≤ ws.getD i 0 * ws.sum := Int.mul_le_mul_of_nonneg_left (by omega) h0
    omega
  omega

/-- The order of the shares. -/
theorem share_mono (h : NonNeg ws) (hn : 0 < ws.length) (ht : 0 ≤ t) (i k : Nat) (hi : i < ws.length) (hk : k < ws.length) (hw : wt ws k ≤ wt ws i) (hik : wt ws k < wt ws i ∨ i < k) : shareI t ws k ≤ shareI t ws i := by
  have h3 := wsum_pos h hn
  have hm : t * wt ws k ≤ t * wt ws i := Int.mul_le_mul_of_nonneg_left hw ht
  have hq : quoI t ws k ≤ quoI t ws i := Int.ediv_le_ediv h3 hm
  have e1 := quo_rst t ws i
  have e2 := quo_rst t ws k
  rcases Int.lt_or_le (quoI t ws k) (quoI t ws i) with h4 | h4
  · have := share_le t ws k
    have := share_ge t ws i
    omega
  · have hqe : quoI t ws k = quoI t ws i := by omega
    rw [hqe] at e2
    by_cases hb : bef (rstI t ws) i k = true
    · have := rank_lt_of_bef (rstI t ws) ws.length i k hi hb
      unfold shareI
      rw [hqe]
      split <;> split <;> omega
    · -- the same remainder: the total is 0, or the weights are equal and i comes first
      have hr : rstI t ws i = rstI t ws k := by simp [bef] at hb; omega
      have hwlt : wt ws k < wt ws i := by
        rcases hik with h5 | h5
        · exact h5
        · exfalso; apply hb; simp [bef]; omega
      have ht0 : t = 0 := by
        have h6 : t * (wt ws i - wt ws k) = 0 := by rw [Int.mul_sub]; omega
        rcases Int.mul_eq_zero.1 h6 with h7 | h7
        · exact h7
        · omega
      have hl : leftI t ws = 0 := by
        have hs : sumN ws.length (quoI t ws) = sumN ws.length (fun _ => 0) := sumN_congr fun i _ => by simp [quoI, ht0]
        unfold leftI
        rw [hs, sumN_const, ht0]
        omega
      unfold shareI
      rw [hl, hqe, if_neg (by omega), if_neg (by omega)]
      omega

end Go.Proofs.Ytemhiifgplaldaa

namespace Go.Proofs.Ytemhiifgplaldaa
open Go.RowKit Go.Shelf Go.Lib Go.Sort
set_option linter.unusedVariables false

def porOf (t : Int) (ws : List Int) (j : Nat) : Por := ⟨j, quoI t ws j, rstI t ws j⟩
def porArr (t : Int) (ws : List Int) : Array Por := ((List.range ws.length).map (porOf t ws)).toArray
theorem porArr_size (t : Int) (ws : List Int) : (porArr t ws).size = ws.length := by simp [porArr]
theorem porArr_get (t : Int) (ws : List Int) (j : Nat) (h : j < ws.length) : (porArr t ws)[j]! = porOf t ws j := by
  simp [porArr, h]

theorem sorted_at (t : Int) (ws : List Int) (d' : Array Por) (hp : PermIn 0 ws.length (porArr t ws) d') (hs : SortedIn (ltOf cmpP) 0 ws.length d') (p : Nat) (h : p < ws.length) :
    ∃ j, j < ws.length ∧ d'[p]! = porOf t ws j ∧ rank (rstI t ws) ws.length j = p := by
  obtain ⟨h1, _, h3⟩ := hp
  rw [porArr_size] at h1
  have hperm : d'.toList.Perm ((List.range ws.length).map (porOf t ws)) := by
    have e1 : (d'.extract 0 ws.length).toList = d'.toList := by rw [← h1]; simp
    have e2 : ((porArr t ws).extract 0 ws.length).toList = (List.range ws.length).map (porOf t ws) := by
      rw [show ws.length = (porArr t ws).size from (porArr_size t ws).symm, Array.extract_size]
      simp [porArr]
    rw [e1, e2] at h3
    exact h3
  have hmem : ∀ i (hi : i < d'.size), ∃ j, j < ws.length ∧ d'[i] = porOf t ws j := by
    intro i hi
    have : d'[i] ∈ d'.toList := by simp
    obtain ⟨j, hj, e⟩ := List.mem_map.1 (hperm.mem_iff.1 this)
    exact ⟨j, List.mem_range.1 hj, e.symm⟩
  have hl : (d'.toList.map fun x => x.index.toNat).Perm (List.range ws.length) := by
    have := hperm.map fun x => x.index.toNat
    rwa [List.map_map, show (List.range ws.length).map ((fun x : Por => x.index.toNat) ∘ porOf t ws) = List.range ws.length from by
      conv => rhs; rw [← List.map_id (List.range ws.length)]
      apply List.map_congr_left; intro j _; simp [porOf]] at this
  have hlen : (d'.toList.map fun x => x.index.toNat).length = ws.length := by simp [h1]
  have hr := rank_of_sorted (rstI t ws) ws.length _ hl (by
    intro i j hi hj hij
    rw [hlen] at hi hj
    have h4 := hs i j (Nat.zero_le _) hij hj
    obtain ⟨a, ha, ea⟩ := hmem i (by omega)
    obtain ⟨b, hb, eb⟩ := hmem j (by omega)
    rw [getElem!_pos d' i (by omega), getElem!_pos d' j (by omega), ltP, ea, eb] at h4
    simp only [List.getElem_map, Array.getElem_toList, ea, eb]
    rw [← h4]
    rw [Bool.eq_iff_iff]
    simp [bef, porOf]
    exact decide_eq_true_iff) p (by omega)
  obtain ⟨j, hj, e⟩ := hmem p (by omega)
  refine ⟨j, hj, by rw [getElem!_pos d' p (by omega), e], ?_⟩
  simp only [List.getElem_map, Array.getElem_toList, e] at hr
  simpa [porOf] using hr

/-- The list that the first loop fills, as the sort asks for it. -/
theorem holds_porArr (t : Int) (ws : List Int) (w : World) (g : Nat) (hc : ∀ j, j < ws.length → w.cell? ⟨g, j * 3, none⟩ = some (.int .i64 j) ∧ w.cell? ⟨g, j * 3 + 1, none⟩ = some (.int .u64 (quoI t ws j)) ∧ w.cell? ⟨g, j * 3 + 2, none⟩ = some (.int .u64 (rstI t ws j)))
    (hf : ∀ o, w.frozen? ⟨g, o, none⟩ = false) : HoldsK encP 3 w g 0 (porArr t ws) := by
  intro i hi
  rw [size_flatK, porArr_size] at hi
  rw [get_flatK _ _ _ _ (by rw [porArr_size]; exact hi), porArr_get t ws (i / 3) (by omega)]
  refine ⟨?_, hf _⟩
  obtain ⟨c0, c1, c2⟩ := hc (i / 3) (by omega)
  have hm : i % 3 = 0 ∨ i % 3 = 1 ∨ i % 3 = 2 := by omega
  rcases hm with e | e | e
  · rw [e, show 0 + i = i / 3 * 3 by omega, c0]; rfl
  · rw [e, show 0 + i = i / 3 * 3 + 1 by omega, c1]; rfl
  · rw [e, show 0 + i = i / 3 * 3 + 2 by omega, c2]; rfl

theorem holdsK_cells (w : World) (g : Nat) (d : Array Por) (h : HoldsK encP 3 w g 0 d) (i : Nat) (hi : i < d.size) :
    w.cell? ⟨g, i * 3, none⟩ = some (.int .i64 d[i]!.index) ∧ w.cell? ⟨g, i * 3 + 1, none⟩ = some (.int .u64 d[i]!.share) ∧ w.cell? ⟨g, i * 3 + 2, none⟩ = some (.int .u64 d[i]!.rest) := by
  have h1 : ∀ c, c < 3 → w.cell? ⟨g, 0 + (i * 3 + c), none⟩ = some ((encP d[i]!)[c]!) := by
    intro c hc
    have := (h (i * 3 + c) (by rw [size_flatK]; omega)).1
    rw [this, get_flatK _ _ _ _ (by omega), show (i * 3 + c) / 3 = i by omega, show (i * 3 + c) % 3 = c by omega]
    rfl
  have a := h1 0 (by omega)
  have b := h1 1 (by omega)
  have c := h1 2 (by omega)
  rw [Nat.zero_add] at a b c
  exact ⟨a, b, c⟩

/-- What the world behind the sort is: nothing below the row has turned, and the row holds the sorted portions. -/
theorem sorted_world (w0 w : World) (g n m : Nat) (d d' : Array Por) (os : Array Obj) (hb : RowKit.Below w0.heap.size w0 w) (hg : w0.heap.size ≤ g) (hg' : g < w.heap.size) (hH : HoldsK encP 3 w g 0 d) (hs : d'.size = d.size) :
    RowKit.Below w0.heap.size w0 (sortWorldK encP 3 w g 0 m d' os) ∧ HoldsK encP 3 (sortWorldK encP 3 w g 0 m d' os) g 0 d' ∧ g < (sortWorldK encP 3 w g 0 m d' os).heap.size := by
  have hsz : (putRowK encP 3 (Sort.ahead w m) g 0 d').heap.size = w.heap.size := by simp [putRowK]
  refine ⟨⟨hb.os, hb.tape, hb.output, ?_, fun k hk => ?_⟩, ?_, ?_⟩
  · have := hb.size
    simp [sortWorldK, hsz]
    omega
  · have h1 : (sortWorldK encP 3 w g 0 m d' os).heap[k]? = (putRowK encP 3 (Sort.ahead w m) g 0 d').heap[k]? := heap_grow_old _ _ (by rw [hsz]; omega)
    rw [h1, ← hb.block k hk]
    simp only [putRowK, putRow, mapBlock, heap_ahead]
    rw [Array.getElem?_modify, if_neg (by omega)]
  · unfold sortWorldK
    exact holdsK_grow encP 3 _ _ _ _ _ (by rw [hsz]; exact hg') (holdsK_putRowK encP 3 _ _ _ _ _ (holdsK_ahead encP 3 w m g 0 d hH) hs)
  · simp [sortWorldK, hsz]
    omega

end Go.Proofs.Ytemhiifgplaldaa

namespace Go.Proofs.Ytemhiifgplaldaa
open Go.RowKit Go.Shelf Go.Lib Go.Sort
set_option linter.unusedVariables false

theorem infoP : (Try.prog.info? 138).map (fun i => (i.zero, i.size, i.bytes)) = some (some (.agg #[.int .i64 0, .int .u64 0, .int .u64 0]), 3, 24) := by kernel_rfl
theorem infoI : (Try.prog.info? 3).map (fun i => (i.zero, i.size, i.bytes)) = some (some (.int .i64 0), 1, 8) := by kernel_rfl

theorem ret_share {A B : Value} {a b : Int} (h : a = b) (h2 : A = B) : Ending.returned (.tuple #[A, .int .i64 a]) = .returned (.tuple #[B, .int .i64 b]) := by rw [h, h2]

/-- The portions 0 .. k-1 lie in the list. -/
def PorRow (cs : Array Value) (t : Int) (ws : List Int) (k : Nat) : Prop :=
  cs.size = ws.length * 3 ∧ ∀ j, j < k → cs[j * 3]? = some (.int .i64 j) ∧ cs[j * 3 + 1]? = some (.int .u64 (quoI t ws j)) ∧ cs[j * 3 + 2]? = some (.int .u64 (rstI t ws j))

set_option maxHeartbeats 1000000 in
theorem share_err (t : Int) (A : Option Addr) (n c : Nat) (xs : List Int) (w : World) (h : Ints w A n xs) (hm : n ≤ 9223372036854775807) (he : chkErr t xs ≠ 0) :
    Calls Try.prog 76 #[.int .i64 t, .slice A n c] w fun e w' => e = .returned (.tuple #[.slice none 0 0, .int .i64 (chkErr t xs)]) ∧ w = w' := by
  have HC := Lib.hid (fun w h => check_any t A n c xs w h hm)
  have hb : (chkErr t xs != 0) = true := by simpa using he
  clear he
  generalize chkErr t xs = er at *
  go_enter Try.func76, Try.ntmps76
  go_wp2_with (go_at_call 73; refine (HC.out _ h).mono ?_; rintro e w' ⟨rfl, rfl⟩)
  go_ret2
  exact ⟨rfl, rfl⟩

theorem divOut_down (N c : Int) (hN : 0 ≤ N) (hc : 0 < c) (h : N / c ≤ 18446744073709551615) : divOut N c 0 = (N / c, 0) := by
  have h1 : ¬ c ≤ N / 18446744073709551616 := by
    intro h2
    have h3 : N < (N / c + 1) * c := by
      have := Int.mul_ediv_add_emod N c
      have := Int.emod_lt_of_pos N hc
      rw [Int.add_mul, Int.mul_comm (N / c)]
      omega
    have h4 : (N / c + 1) * c ≤ 18446744073709551616 * c := Int.mul_le_mul_of_nonneg_right (by omega) (by omega)
    omega
  have h2 : ¬ c = 0 := by omega
  simp [divOut, h1, h2, raisedB]

theorem getD_le_sum (ws : List Int) (h : NonNeg ws) (i : Nat) (hi : i < ws.length) : ws.getD i 0 ≤ ws.sum := by
  rw [← sumN_list]
  exact sumN_le_all (f := fun i => ws.getD i 0) (fun i _ => h i) i hi

theorem wt_le_wsum (ws : List Int) (h : NonNeg ws) (i : Nat) (hi : i < ws.length) : wt ws i ≤ wsum ws := by
  unfold wt wsum
  by_cases h0 : ws.sum = 0
  · simp [h0]; omega
  · simp only [h0, if_false]; exact getD_le_sum ws h i hi

theorem quo_le (t : Int) (ws : List Int) (ht : 0 ≤ t) (h : NonNeg ws) (i : Nat) (hi : i < ws.length) : quoI t ws i ≤ t := by
  have h1 := wt_le_wsum ws h i hi
  have h2 := wsum_pos h (by omega)
  unfold quoI
  have h3 : t * wt ws i / wsum ws < t + 1 := by
    rw [Int.ediv_lt_iff_lt_mul h2, Int.add_mul]
    have : t * wt ws i ≤ t * wsum ws := Int.mul_le_mul_of_nonneg_left h1 ht
    omega
  omega

theorem sum_quo_bounds (t : Int) (ws : List Int) (ht : 0 ≤ t) (h : NonNeg ws) (k : Nat) (hk : k ≤ ws.length) (hn : 0 < ws.length) : 0 ≤ sumN k (quoI t ws) ∧ sumN k (quoI t ws) ≤ t := by
  refine ⟨sumN_nonneg fun i _ => quo_nonneg h ht hn i, ?_⟩
  have h1 : ∀ m, sumN k (quoI t ws) ≤ sumN (k + m) (quoI t ws) := by
    intro m
    induction m with
    | zero => exact Int.le_refl _
    | succ m ih => rw [← Nat.add_assoc, sumN_succ]; have := quo_nonneg h ht hn (k + m); omega
  have h2 := h1 (ws.length - k)
  rw [show k + (ws.length - k) = ws.length by omega] at h2
  have h3 := left_nonneg (t := t) h hn
  unfold leftI at h3
  omega

theorem PorRow.put {cs : Array Value} {t : Int} {ws : List Int} {k : Nat} (h : PorRow cs t ws k) (hk : k < ws.length) :
    PorRow (((cs.setIfInBounds (k * 3) (.int .i64 k)).setIfInBounds (k * 3 + 1) (.int .u64 (quoI t ws k))).setIfInBounds (k * 3 + 2) (.int .u64 (rstI t ws k))) t ws (k + 1) := by
  have hs := h.1
  refine ⟨by simpa using hs, fun j hj => ?_⟩
  by_cases e : j = k
  · subst e
    simp [Array.getElem?_setIfInBounds]
    omega
  · have := h.2 j (by omega)
    simp only [Array.getElem?_setIfInBounds, Array.size_setIfInBounds]
    refine ⟨?_, ?_, ?_⟩
    · rw [if_neg (by omega), if_neg (by omega), if_neg (by omega)]; exact this.1
    · rw [if_neg (by omega), if_neg (by omega), if_neg (by omega)]; exact this.2.1
    · rw [if_neg (by omega), if_neg (by omega), if_neg (by omega)]; exact this.2.2

theorem Bl.three {w : World} {g : Nat} {T : TypeId} {cs : Array Value} (h : Bl w g T cs) (o : Nat) (ho : o + 2 < cs.size) :
    (∃ v, w.cell? ⟨g, o, none⟩ = some v) ∧ (∃ v, w.cell? ⟨g, o + 1, none⟩ = some v) ∧ (∃ v, w.cell? ⟨g, o + 2, none⟩ = some v) ∧ w.frozen? ⟨g, o, none⟩ = false ∧ w.frozen? ⟨g, o + 1, none⟩ = false ∧ w.frozen? ⟨g, o + 2, none⟩ = false :=
  ⟨⟨_, (h.cell o).trans (Array.getElem?_eq_getElem (by omega))⟩, ⟨_, (h.cell (o + 1)).trans (Array.getElem?_eq_getElem (by omega))⟩, ⟨_, (h.cell (o + 2)).trans (Array.getElem?_eq_getElem (by omega))⟩, h.free _, h.free _, h.free _⟩

/-- The result after p rounds: whoever's rank is below p has its share. -/
def ResRow (rs : Array Value) (t : Int) (ws : List Int) (p : Nat) : Prop :=
  rs.size = ws.length ∧ ∀ j, j < ws.length → rs[j]? = some (.int .i64 (if rank (rstI t ws) ws.length j < p then shareI t ws j else 0))

theorem ResRow.put {rs : Array Value} {t : Int} {ws : List Int} {p j : Nat} {q : Int} (h : ResRow rs t ws p) (hj : j < ws.length) (hr : rank (rstI t ws) ws.length j = p) (hq : shareI t ws j = q) :
    ResRow (rs.setIfInBounds j (.int .i64 q)) t ws (p + 1) := by
  refine ⟨by simpa using h.1, fun i hi => ?_⟩
  rw [Array.getElem?_setIfInBounds]
  by_cases e : j = i
  · subst e
    rw [if_pos rfl, if_pos (by rw [h.1]; exact hj), if_pos (by omega), hq]
  · rw [if_neg e, h.2 i hi]
    have : rank (rstI t ws) ws.length i ≠ p := fun e2 => e (rank_inj (rstI t ws) ws.length j i hj hi (by omega))
    by_cases h2 : rank (rstI t ws) ws.length i < p
    · rw [if_pos h2, if_pos (by omega)]
    · rw [if_neg h2, if_neg (by omega)]

set_option maxHeartbeats 1000000 in
theorem share_ok (t : Int) (A : Option Addr) (n c : Nat) (xs : List Int) (w : World) (h : Ints w A n xs) (hn : n ≤ 1000) (h0 : chkErr t xs = 0) (ht0 : 0 ≤ t) (ht : t ≤ 1000000000000) (ha : AllIn xs) (hs : xs.sum ≠ 0) (W : Int) (HW : Hid (xs.sum = W)) (HWs : Hid (wsum xs = W)) (hW : 0 < W) (hW' : W ≤ 1000000000000000) :
    Calls Try.prog 76 #[.int .i64 t, .slice A n c] w fun e w' => ∃ g, e = .returned (.tuple #[.slice (some ⟨g, 0, none⟩) n n, .int .i64 0]) ∧ w.heap.size ≤ g ∧ w'.ownsRow w.heap.size 3 1 (.slice (some ⟨g, 0, none⟩) n n) n ((shareL t xs).map (Value.int .i64)) ∧ Below w.heap.size w w' := by
  have HC := Lib.hid (fun w h => check_any t A n c xs w h (by omega))
  rw [h0] at HC
  clear h0
  have HS := Lib.hid (fun w h => sumOf_any A n c xs w h hn ha)
  obtain ⟨C1, HC1, hmk1⟩ := make_any (P := Try.prog) 132 138 _ 3 24 n Try.underlying132 infoP (by omega) (by omega)
  obtain ⟨C2, HC2, hmk2⟩ := make_any (P := Try.prog) 33 3 _ 1 8 n Try.underlying33 infoI (by omega) (by omega)
  have HN := Lib.hid (show NonNeg xs from fun i => (ha i).1)
  have HL := Lib.hid h.1
  rw [HW.out] at HS
  have hb : (W == 0) = false := by simp; omega
  clear ha
  go_enter Try.func76, Try.ntmps76
  go_wp2_with (first | (go_at_call 73; refine (HC.out _ h).mono ?_; rintro e w' ⟨rfl, rfl⟩) | (go_at_call 74; refine (HS.out _ h).mono ?_; rintro e w' ⟨rfl, rfl⟩))
  go_loopw [9, 38] (fun l i wr => ∃ (k : Nat) (cs : Array Value), k ≤ n ∧ i = .int .i64 k ∧ l = .int .i64 (t - sumN k (quoI t xs)) ∧ Bl wr w.heap.size 138 cs ∧ PorRow cs t xs k ∧ Below w.heap.size w wr) (fun _ i _ => n - (intOf i).toNat)
  case atStart => exact ⟨0, C1, Nat.zero_le _, rfl, by simp [sumN_zero], Bl.new _ _ _, ⟨by rw [HC1.out.1, HL.out], fun j hj => absurd hj (by omega)⟩, (Below.refl _ _).alloc (Nat.le_refl _) _⟩
  case round =>
    obtain ⟨k, cs, hk, rfl, rfl, HB, HP, hbel⟩ := hrel
    by_cases hlt : k < n
    · obtain ⟨b, off, x, hA, hbw, hc, HX⟩ := h.get hlt
      subst hA
      have hc1 : wr.cell? ⟨b, off + k, none⟩ = some (.int .i64 x) := (hbel.cell (p := ⟨b, off + k, none⟩) hbw).trans hc
      have hqn := quo_nonneg HN.out ht0 (by have := HL.out; omega) k
      have hql := quo_le t xs ht0 HN.out k (by have := HL.out; omega)
      have hx0 : 0 ≤ x := by have := HN.out k; rw [HX.out] at this; exact this
      have hxW : x ≤ W := by have := getD_le_sum xs HN.out k (by have := HL.out; omega); rw [HX.out, HW.out] at this; exact this
      have hwt : wt xs k = x := by rw [← HX.out]; simp [wt, hs]
      have HMD := Lib.hid (fun w => mulDiv_any t x W 0 w ht0 (by omega) hx0 (by omega) (by omega) (by omega))
      have HMM := Lib.hid (fun w => mulMod_any t x W w ht0 (by omega) hx0 (by omega) (by omega) (by omega))
      have eq1 : t * x / W = quoI t xs k := by unfold quoI; rw [hwt, HWs.out]
      have eq2 : t * x % W = rstI t xs k := by unfold rstI; rw [hwt, HWs.out]
      rw [divOut_down _ _ (Int.mul_nonneg ht0 hx0) (by omega) (by rw [eq1]; omega), eq1] at HMD
      rw [eq2] at HMM
      have HP' := HP.put (by have := HL.out; omega)
      have HQ := Lib.hid (sumN_succ k (quoI t xs))
      obtain ⟨hb1, hb2⟩ := sum_quo_bounds t xs ht0 HN.out k (by have := HL.out; omega) (by have := HL.out; omega)
      obtain ⟨hb3, hb4⟩ := sum_quo_bounds t xs ht0 HN.out (k + 1) (by have := HL.out; omega) (by have := HL.out; omega)
      rw [HQ.out] at hb3 hb4
      clear eq1 eq2 hwt
      generalize quoI t xs k = q at *
      generalize rstI t xs k = r at *
      generalize sumN k (quoI t xs) = s at *
      go_wp2_with (first | (go_at_call 83; refine (HMD.out _).mono ?_; rintro e w1 ⟨rfl, hbd1⟩) | (go_at_call 84; refine (HMM.out _).mono ?_; rintro e w2 ⟨rfl, hbd2⟩; have HB2 := (HB.keep hbd1).keep hbd2; obtain ⟨⟨v0, c0⟩, ⟨v1, c1⟩, ⟨v2, c2⟩, z0, z1, z2⟩ := HB2.three (k * 3) (by have := HP.1; have := HL.out; omega)))
      go_roundw
      case rel => exact ⟨k + 1, _, by omega, by go_num, by rw [HQ.out]; go_num, ((HB2.put _ _).put _ _).put _ _, HP', ((((hbel.trans (hbd1.mono hbel.size)).trans (hbd2.mono (Nat.le_trans hbel.size hbd1.size))).setCell (Nat.le_refl _) _).setCell (Nat.le_refl _) _).setCell (Nat.le_refl _) _⟩
      case measure => simp [intOf]; omega
    · obtain rfl : k = n := by omega
      have hH : HoldsK encP 3 wr w.heap.size 0 (porArr t xs) := holds_porArr t xs wr w.heap.size (fun j hj => by
        have := HP.2 j (by have := HL.out; omega)
        exact ⟨(HB.cell _).trans this.1, (HB.cell _).trans this.2.1, (HB.cell _).trans this.2.2⟩) (fun o => HB.free o)
      have hsort := rankSort_any w.heap.size 0 k (porArr t xs) wr hH HB.lt (by rw [porArr_size, HL.out]; omega)
      rw [porArr_size, HL.out] at hsort
      have HSO := Lib.hid hsort
      clear hsort
      go_wp2_with (go_at_call 86; refine HSO.out.mono ?_; rintro e w3 ⟨rfl, d', m, os, hpm, hsd, hw3⟩; have hw3f := sorted_world w wr w.heap.size k m (porArr t xs) d' os hbel (Nat.le_refl _) HB.lt hH hpm.1; rw [← hw3] at hw3f; clear hw3)
      obtain ⟨hbel3, hH3, hg3⟩ := hw3f
      have HPM := Lib.hid hpm
      have HSD := Lib.hid hsd
      have hd' : d'.size = k := by rw [hpm.1, porArr_size, HL.out]
      have HD := Lib.hid hd'
      clear hpm hsd hd' HSO HB HP hbel hH HC HS HC1 hmk1
      have eL : t - sumN k (quoI t xs) = leftI t xs := by unfold leftI; rw [HL.out]
      rw [eL]
      clear eL
      obtain ⟨L, hLe⟩ : ∃ L, leftI t xs = L := ⟨_, rfl⟩
      rw [hLe]
      have HLE := Lib.hid hLe
      clear hLe
      go_loopw [81] (fun i wr2 => ∃ (p : Nat) (rs : Array Value), p ≤ k ∧ i = .int .i64 p ∧ Bl wr2 w3.heap.size 3 rs ∧ ResRow rs t xs p ∧ RowKit.Below w3.heap.size w3 wr2) (fun i _ => k - (intOf i).toNat)
      case atStart => exact ⟨0, C2, Nat.zero_le _, rfl, Bl.new _ _ _, ⟨by rw [HC2.out.1, HL.out]; omega, fun j hj => by rw [HC2.out.2 j (by have := HL.out; omega), if_neg (by omega)]; simp [Value.cells, Nat.mod_one]⟩, (Below.refl _ _).alloc (Nat.le_refl _) _⟩
      case round =>
        obtain ⟨p, rs, hp, rfl, HB, HR, hbel⟩ := hrel
        by_cases hlt2 : p < k
        · obtain ⟨j, hj, ej, hrk⟩ := sorted_at t xs d' (by rw [HL.out]; exact HPM.out) (by rw [HL.out]; exact HSD.out) p (by have := HL.out; omega)
          obtain ⟨c0, c1, c2⟩ := holdsK_cells w3 w.heap.size d' hH3 p (by have := HD.out; omega)
          rw [ej] at c0 c1 c2
          have c0' : wr.cell? ⟨w.heap.size, p * 3, none⟩ = some (.int .i64 j) := (hbel.cell (p := ⟨w.heap.size, p * 3, none⟩) hg3).trans c0
          have c1' : wr.cell? ⟨w.heap.size, p * 3 + 1, none⟩ = some (.int .u64 (quoI t xs j)) := (hbel.cell (p := ⟨w.heap.size, p * 3 + 1, none⟩) hg3).trans c1
          have c2' : wr.cell? ⟨w.heap.size, p * 3 + 2, none⟩ = some (.int .u64 (rstI t xs j)) := (hbel.cell (p := ⟨w.heap.size, p * 3 + 2, none⟩) hg3).trans c2
          clear c0 c1 c2
          have hqn := quo_nonneg HN.out ht0 (by have := HL.out; omega) j
          have hql := quo_le t xs ht0 HN.out j hj
          have hjk : j < k := by have := HL.out; omega
          have HRP := Lib.hid (fun q hq => HR.put (q := q) hj hrk hq)
          have HSH : Hid (shareI t xs j = quoI t xs j + if (p : Int) < L then 1 else 0) := by unfold shareI; rw [hrk, HLE.out]; exact rfl
          have hcj : wr.cell? ⟨w3.heap.size, j, none⟩ = some (.int .i64 0) := by rw [HB.cell, HR.2 j hj, if_neg (by omega)]
          have hfj : wr.frozen? ⟨w3.heap.size, j, none⟩ = false := HB.free j
          have hcj' : ∀ o, (wr.alloc o).cell? ⟨w3.heap.size, j, none⟩ = some (.int .i64 0) := fun o => (World.cell?_alloc_lt _ _ _ HB.lt).trans hcj
          have hfj' : ∀ o, (wr.alloc o).frozen? ⟨w3.heap.size, j, none⟩ = false := fun o => (HB.alloc o).free j
          have hlt3 := HB.lt
          clear ej hrk
          generalize quoI t xs j = q at *
          generalize rstI t xs j = r at *
          by_cases hpL : (p : Int) < L
          · have HE : Hid (shareI t xs j = q + 1) := by rw [HSH.out, if_pos hpL]; exact rfl
            go_wp2
            go_roundw
            case rel => exact ⟨p + 1, _, by omega, by go_num, ((HB.put _ _).put _ _).alloc _, by rw [Array.setIfInBounds_setIfInBounds]; exact HRP.out _ HE.out, ((hbel.setCell (Nat.le_refl _) _).setCell (Nat.le_refl _) _).alloc (by have := hbel.size; simpa [World.setCell] using this) _⟩
            case measure => simp [intOf]; omega
          · have HE : Hid (shareI t xs j = q) := by rw [HSH.out, if_neg hpL]; exact Int.add_zero _
            go_wp2
            go_roundw
            case rel => exact ⟨p + 1, _, by omega, by go_num, (HB.put _ _).alloc _, HRP.out _ HE.out, (hbel.setCell (Nat.le_refl _) _).alloc (by have := hbel.size; simpa [World.setCell] using this) _⟩
            case measure => simp [intOf]; omega
        · obtain rfl : p = k := by omega
          have HF : Hid (∀ i, i < xs.length → rs[i]? = some (.int .i64 (shareI t xs i))) := fun i hi => by rw [HR.2 i hi, if_pos (by have := rank_lt (rstI t xs) xs.length i hi; have := HL.out; omega)]
          go_wp2
          go_ret2
          exact ⟨w3.heap.size, rfl, hbel3.size, HB.own_ints hbel3.size (by rw [HR.1, HL.out]) (by rw [shareL_length, HL.out]) (by omega) (fun i hi => by rw [HF.out i (by have := HL.out; omega), shareL_get t xs i (by have := HL.out; omega)]), hbel3.trans (hbel.mono hbel3.size)⟩
set_option maxHeartbeats 1000000 in
theorem share_okz (t : Int) (A : Option Addr) (n c : Nat) (xs : List Int) (w : World) (h : Ints w A n xs) (hn : n ≤ 1000) (h0 : chkErr t xs = 0) (ht0 : 0 ≤ t) (ht : t ≤ 1000000000000) (ha : AllIn xs) (hs : xs.sum = 0) (HWs : Hid (wsum xs = n)) :
    Calls Try.prog 76 #[.int .i64 t, .slice A n c] w fun e w' => ∃ g, e = .returned (.tuple #[.slice (some ⟨g, 0, none⟩) n n, .int .i64 0]) ∧ w.heap.size ≤ g ∧ w'.ownsRow w.heap.size 3 1 (.slice (some ⟨g, 0, none⟩) n n) n ((shareL t xs).map (Value.int .i64)) ∧ Below w.heap.size w w' := by
  have HC := Lib.hid (fun w h => check_any t A n c xs w h (by omega))
  rw [h0] at HC
  clear h0
  have HS := Lib.hid (fun w h => sumOf_any A n c xs w h hn ha)
  obtain ⟨C1, HC1, hmk1⟩ := make_any (P := Try.prog) 132 138 _ 3 24 n Try.underlying132 infoP (by omega) (by omega)
  obtain ⟨C2, HC2, hmk2⟩ := make_any (P := Try.prog) 33 3 _ 1 8 n Try.underlying33 infoI (by omega) (by omega)
  have HN := Lib.hid (show NonNeg xs from fun i => (ha i).1)
  have HL := Lib.hid h.1
  rw [hs] at HS
  have HSs := Lib.hid hs
  clear hs
  clear ha
  go_enter Try.func76, Try.ntmps76
  go_wp2_with (first | (go_at_call 73; refine (HC.out _ h).mono ?_; rintro e w' ⟨rfl, rfl⟩) | (go_at_call 74; refine (HS.out _ h).mono ?_; rintro e w' ⟨rfl, rfl⟩))
  go_loopw [9, 38] (fun l i wr => ∃ (k : Nat) (cs : Array Value), k ≤ n ∧ i = .int .i64 k ∧ l = .int .i64 (t - sumN k (quoI t xs)) ∧ Bl wr w.heap.size 138 cs ∧ PorRow cs t xs k ∧ Below w.heap.size w wr) (fun _ i _ => n - (intOf i).toNat)
  case atStart => exact ⟨0, C1, Nat.zero_le _, rfl, by simp [sumN_zero], Bl.new _ _ _, ⟨by rw [HC1.out.1, HL.out], fun j hj => absurd hj (by omega)⟩, (Below.refl _ _).alloc (Nat.le_refl _) _⟩
  case round =>
    obtain ⟨k, cs, hk, rfl, rfl, HB, HP, hbel⟩ := hrel
    by_cases hlt : k < n
    · obtain ⟨b, off, x, hA, hbw, hc, HX⟩ := h.get hlt
      subst hA
      have hc1 : wr.cell? ⟨b, off + k, none⟩ = some (.int .i64 x) := (hbel.cell (p := ⟨b, off + k, none⟩) hbw).trans hc
      have hqn := quo_nonneg HN.out ht0 (by have := HL.out; omega) k
      have hql := quo_le t xs ht0 HN.out k (by have := HL.out; omega)
      have hwt : wt xs k = 1 := by simp [wt, HSs.out]
      have HMD := Lib.hid (fun w => mulDiv_any t 1 n 0 w ht0 (by omega) (by omega) (by omega) (by omega) (by omega))
      have HMM := Lib.hid (fun w => mulMod_any t 1 n w ht0 (by omega) (by omega) (by omega) (by omega) (by omega))
      have eq1 : t * 1 / n = quoI t xs k := by unfold quoI; rw [hwt, HWs.out]
      have eq2 : t * 1 % n = rstI t xs k := by unfold rstI; rw [hwt, HWs.out]
      rw [divOut_down _ _ (Int.mul_nonneg ht0 (by omega)) (by omega) (by rw [eq1]; omega), eq1] at HMD
      rw [eq2] at HMM
      have HP' := HP.put (by have := HL.out; omega)
      have HQ := Lib.hid (sumN_succ k (quoI t xs))
      obtain ⟨hb1, hb2⟩ := sum_quo_bounds t xs ht0 HN.out k (by have := HL.out; omega) (by have := HL.out; omega)
      obtain ⟨hb3, hb4⟩ := sum_quo_bounds t xs ht0 HN.out (k + 1) (by have := HL.out; omega) (by have := HL.out; omega)
      rw [HQ.out] at hb3 hb4
      clear eq1 eq2 hwt
      generalize quoI t xs k = q at *
      generalize rstI t xs k = r at *
      generalize sumN k (quoI t xs) = s at *
      go_wp2_with (first | (go_at_call 83; refine (HMD.out _).mono ?_; rintro e w1 ⟨rfl, hbd1⟩) | (go_at_call 84; refine (HMM.out _).mono ?_; rintro e w2 ⟨rfl, hbd2⟩; have HB2 := (HB.keep hbd1).keep hbd2; obtain ⟨⟨v0, c0⟩, ⟨v1, c1⟩, ⟨v2, c2⟩, z0, z1, z2⟩ := HB2.three (k * 3) (by have := HP.1; have := HL.out; omega)))
      go_roundw
      case rel => exact ⟨k + 1, _, by omega, by go_num, by rw [HQ.out]; go_num, ((HB2.put _ _).put _ _).put _ _, HP', ((((hbel.trans (hbd1.mono hbel.size)).trans (hbd2.mono (Nat.le_trans hbel.size hbd1.size))).setCell (Nat.le_refl _) _).setCell (Nat.le_refl _) _).setCell (Nat.le_refl _) _⟩
      case measure => simp [intOf]; omega
    · obtain rfl : k = n := by omega
      have hH : HoldsK encP 3 wr w.heap.size 0 (porArr t xs) := holds_porArr t xs wr w.heap.size (fun j hj => by
        have := HP.2 j (by have := HL.out; omega)
        exact ⟨(HB.cell _).trans this.1, (HB.cell _).trans this.2.1, (HB.cell _).trans this.2.2⟩) (fun o => HB.free o)
      have hsort := rankSort_any w.heap.size 0 k (porArr t xs) wr hH HB.lt (by rw [porArr_size, HL.out]; omega)
      rw [porArr_size, HL.out] at hsort
      have HSO := Lib.hid hsort
      clear hsort
      go_wp2_with (go_at_call 86; refine HSO.out.mono ?_; rintro e w3 ⟨rfl, d', m, os, hpm, hsd, hw3⟩; have hw3f := sorted_world w wr w.heap.size k m (porArr t xs) d' os hbel (Nat.le_refl _) HB.lt hH hpm.1; rw [← hw3] at hw3f; clear hw3)
      obtain ⟨hbel3, hH3, hg3⟩ := hw3f
      have HPM := Lib.hid hpm
      have HSD := Lib.hid hsd
      have hd' : d'.size = k := by rw [hpm.1, porArr_size, HL.out]
      have HD := Lib.hid hd'
      clear hpm hsd hd' HSO HB HP hbel hH HC HS HC1 hmk1
      have eL : t - sumN k (quoI t xs) = leftI t xs := by unfold leftI; rw [HL.out]
      rw [eL]
      clear eL
      obtain ⟨L, hLe⟩ : ∃ L, leftI t xs = L := ⟨_, rfl⟩
      rw [hLe]
      have HLE := Lib.hid hLe
      clear hLe
      go_loopw [81] (fun i wr2 => ∃ (p : Nat) (rs : Array Value), p ≤ k ∧ i = .int .i64 p ∧ Bl wr2 w3.heap.size 3 rs ∧ ResRow rs t xs p ∧ RowKit.Below w3.heap.size w3 wr2) (fun i _ => k - (intOf i).toNat)
      case atStart => exact ⟨0, C2, Nat.zero_le _, rfl, Bl.new _ _ _, ⟨by rw [HC2.out.1, HL.out]; omega, fun j hj => by rw [HC2.out.2 j (by have := HL.out; omega), if_neg (by omega)]; simp [Value.cells, Nat.mod_one]⟩, (Below.refl _ _).alloc (Nat.le_refl _) _⟩
      case round =>
        obtain ⟨p, rs, hp, rfl, HB, HR, hbel⟩ := hrel
        by_cases hlt2 : p < k
        · obtain ⟨j, hj, ej, hrk⟩ := sorted_at t xs d' (by rw [HL.out]; exact HPM.out) (by rw [HL.out]; exact HSD.out) p (by have := HL.out; omega)
          obtain ⟨c0, c1, c2⟩ := holdsK_cells w3 w.heap.size d' hH3 p (by have := HD.out; omega)
          rw [ej] at c0 c1 c2
          have c0' : wr.cell? ⟨w.heap.size, p * 3, none⟩ = some (.int .i64 j) := (hbel.cell (p := ⟨w.heap.size, p * 3, none⟩) hg3).trans c0
          have c1' : wr.cell? ⟨w.heap.size, p * 3 + 1, none⟩ = some (.int .u64 (quoI t xs j)) := (hbel.cell (p := ⟨w.heap.size, p * 3 + 1, none⟩) hg3).trans c1
          have c2' : wr.cell? ⟨w.heap.size, p * 3 + 2, none⟩ = some (.int .u64 (rstI t xs j)) := (hbel.cell (p := ⟨w.heap.size, p * 3 + 2, none⟩) hg3).trans c2
          clear c0 c1 c2
          have hqn := quo_nonneg HN.out ht0 (by have := HL.out; omega) j
          have hql := quo_le t xs ht0 HN.out j hj
          have hjk : j < k := by have := HL.out; omega
          have HRP := Lib.hid (fun q hq => HR.put (q := q) hj hrk hq)
          have HSH : Hid (shareI t xs j = quoI t xs j + if (p : Int) < L then 1 else 0) := by unfold shareI; rw [hrk, HLE.out]; exact rfl
          have hcj : wr.cell? ⟨w3.heap.size, j, none⟩ = some (.int .i64 0) := by rw [HB.cell, HR.2 j hj, if_neg (by omega)]
          have hfj : wr.frozen? ⟨w3.heap.size, j, none⟩ = false := HB.free j
          have hcj' : ∀ o, (wr.alloc o).cell? ⟨w3.heap.size, j, none⟩ = some (.int .i64 0) := fun o => (World.cell?_alloc_lt _ _ _ HB.lt).trans hcj
          have hfj' : ∀ o, (wr.alloc o).frozen? ⟨w3.heap.size, j, none⟩ = false := fun o => (HB.alloc o).free j
          have hlt3 := HB.lt
          clear ej hrk
          generalize quoI t xs j = q at *
          generalize rstI t xs j = r at *
          by_cases hpL : (p : Int) < L
          · have HE : Hid (shareI t xs j = q + 1) := by rw [HSH.out, if_pos hpL]; exact rfl
            go_wp2
            go_roundw
            case rel => exact ⟨p + 1, _, by omega, by go_num, ((HB.put _ _).put _ _).alloc _, by rw [Array.setIfInBounds_setIfInBounds]; exact HRP.out _ HE.out, ((hbel.setCell (Nat.le_refl _) _).setCell (Nat.le_refl _) _).alloc (by have := hbel.size; simpa [World.setCell] using this) _⟩
            case measure => simp [intOf]; omega
          · have HE : Hid (shareI t xs j = q) := by rw [HSH.out, if_neg hpL]; exact Int.add_zero _
            go_wp2
            go_roundw
            case rel => exact ⟨p + 1, _, by omega, by go_num, (HB.put _ _).alloc _, HRP.out _ HE.out, (hbel.setCell (Nat.le_refl _) _).alloc (by have := hbel.size; simpa [World.setCell] using this) _⟩
            case measure => simp [intOf]; omega
        · obtain rfl : p = k := by omega
          have HF : Hid (∀ i, i < xs.length → rs[i]? = some (.int .i64 (shareI t xs i))) := fun i hi => by rw [HR.2 i hi, if_pos (by have := rank_lt (rstI t xs) xs.length i hi; have := HL.out; omega)]
          go_wp2
          go_ret2
          exact ⟨w3.heap.size, rfl, hbel3.size, HB.own_ints hbel3.size (by rw [HR.1, HL.out]) (by rw [shareL_length, HL.out]) (by omega) (fun i hi => by rw [HF.out i (by have := HL.out; omega), shareL_get t xs i (by have := HL.out; omega)]), hbel3.trans (hbel.mono hbel3.size)⟩
end Go.Proofs.Ytemhiifgplaldaa

namespace Go.Proofs.Ytemhiifgplaldaa
open Go.RowKit
set_option linter.unusedVariables false

/-- What a function returns that gives a list of its own and an error. -/
def SlRes (w : World) (er : Int) (out : List Int) (e : Ending) (w' : World) : Prop :=
  ∃ A n c, e = .returned (.tuple #[.slice A n c, .int .i64 er]) ∧ w'.ownsRow w.heap.size 3 1 (.slice A n c) n (out.map (Value.int .i64)) ∧ RowKit.Below w.heap.size w w'

/-- The list of Share: nothing where there is an error. -/
def shareOut (t : Int) (ws : List Int) : List Int := if chkErr t ws = 0 then shareL t ws else []

theorem own_nil (w : World) (b : Nat) (T : TypeId) : w.ownsRow b T 1 (.slice none 0 0) 0 ([].map (Value.int .i64)) := ⟨by simp, .inl ⟨rfl, rfl⟩⟩

theorem chk_zero {t : Int} {ws : List Int} (h : chkErr t ws = 0) : ws.length ≤ 1000 ∧ 0 ≤ t ∧ t ≤ 1000000000000 ∧ AllIn ws ∧ (ws.length = 0 → t = 0) := by
  unfold chkErr at h
  split at h
  · omega
  · split at h
    · omega
    · split at h
      · rename_i h3
        split at h
        · omega
        · exact ⟨by omega, by omega, by omega, h3, by omega⟩
      · omega

theorem share_any (t : Int) (A : Option Addr) (n c : Nat) (xs : List Int) (w : World) (h : Ints w A n xs) (hm : n ≤ 9223372036854775807) :
    Calls Try.prog 76 #[.int .i64 t, .slice A n c] w (SlRes w (chkErr t xs) (shareOut t xs)) := by
  by_cases he : chkErr t xs = 0
  · obtain ⟨h1, h2, h3, h4, h5⟩ := chk_zero he
    have hl := h.1
    have hN : NonNeg xs := fun i => (h4 i).1
    unfold shareOut
    rw [if_pos he, he]
    by_cases hs : xs.sum = 0
    · refine (share_okz t A n c xs w h (by omega) he h2 h3 h4 hs (Lib.hid (by rw [← hl]; simp [wsum, hs]))).mono ?_
      rintro e w' ⟨g, rfl, _, ho, hb⟩
      exact ⟨_, _, _, rfl, ho, hb⟩
    · have hw : wsum xs = xs.sum := by simp [wsum, hs]
      have hp := sum_nonneg hN
      have hb := (sum_take_bound xs 1000000000000 h4 xs.length (Nat.le_refl _)).2
      rw [List.take_length] at hb
      refine (share_ok t A n c xs w h (by omega) he h2 h3 h4 hs xs.sum rfl hw (by omega) (by omega)).mono ?_
      rintro e w' ⟨g, rfl, _, ho, hb⟩
      exact ⟨_, _, _, rfl, ho, hb⟩
  · unfold shareOut
    rw [if_neg he]
    refine (share_err t A n c xs w h hm he).mono ?_
    rintro e w' ⟨rfl, rfl⟩
    exact ⟨_, _, _, rfl, own_nil _ _ _, Below.refl _ _⟩

end Go.Proofs.Ytemhiifgplaldaa

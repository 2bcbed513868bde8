/-
  What the documents' chapters 5 and 17 ask, as plain functions: the errors of a table of rates, the rate on a day, the conversion, the errors of an invoice, the customs values. No statement of the seat is proved here. No conditions.
-/
import Derived.Test.YtknbbamlpadfdaaExact
import Derived.Test.YtknbbamlpadfdaaShareSpec
import Derived.Test.YtknbbamlpadfdaaChk
namespace Go.Proofs.Ytknbbamlpadfdaa
set_option linter.unusedVariables false

/-- A row of a table: the currency, the first day, the rate. -/
structure Exch where
  cur : ByteArray
  day : Int
  per : Int
deriving Inhabited
/-- A charge. -/
structure Chg where
  kind : Int
  amt : Int
  cur : ByteArray
  basis : Int
  line : Int
deriving Inhabited

/-- The first number of e 0, e 1, .., e (n-1) that is not 0, or 0. -/
def firstErr (e : Nat → Int) : Nat → Int
  | 0 => 0
  | n + 1 => if firstErr e n = 0 then e n else firstErr e n
theorem firstErr_zero {e : Nat → Int} {n : Nat} (h : ∀ i, i < n → e i = 0) : firstErr e n = 0 := by
  induction n with
  | zero => rfl
  | succ n ih => rw [firstErr, if_pos (ih fun i hi => h i (by omega))]; exact h n (by omega)
theorem firstErr_at {e : Nat → Int} {k : Nat} (h : ∀ i, i < k → e i = 0) (hk : e k ≠ 0) : ∀ n, k < n → firstErr e n = e k := by
  intro n hn
  induction n with
  | zero => omega
  | succ n ih =>
    rw [firstErr]
    by_cases x : k = n
    · subst x; rw [if_pos (firstErr_zero h)]
    · rw [ih (by omega), if_neg hk]
theorem firstErr_all {e : Nat → Int} {n : Nat} (h : firstErr e n = 0) : ∀ i, i < n → e i = 0 := by
  induction n with
  | zero => intro i hi; omega
  | succ n ih =>
    rw [firstErr] at h
    by_cases x : firstErr e n = 0
    · rw [if_pos x] at h
      intro i hi
      by_cases y : i = n
      · subst y; exact h
      · exact ih x i (by omega)
    · rw [if_neg x] at h; exact absurd h x
theorem firstErr_ne {e : Nat → Int} {n : Nat} (h : firstErr e n ≠ 0) : ∃ k, k < n ∧ (∀ i, i < k → e i = 0) ∧ e k ≠ 0 ∧ firstErr e n = e k := by
  induction n with
  | zero => exact absurd rfl h
  | succ n ih =>
    by_cases x : firstErr e n = 0
    · rw [firstErr, if_pos x] at h ⊢
      exact ⟨n, by omega, firstErr_all x, h, rfl⟩
    · obtain ⟨k, h1, h2, h3, h4⟩ := ih x
      rw [firstErr, if_neg x]
      exact ⟨k, by omega, h2, h3, h4⟩
theorem firstErr_congr {e f : Nat → Int} {n : Nat} (h : ∀ i, i < n → e i = f i) : firstErr e n = firstErr f n := by
  induction n with
  | zero => rfl
  | succ n ih => rw [firstErr, firstErr, ih fun i hi => h i (by omega), h n (by omega)]

/-! ### Currencies -/
def eur : List UInt8 := [69, 85, 82]
/-- Three letters from A to Z. -/
def curB (s : List UInt8) : Bool := s.length == 3 && s.all fun b => 65 ≤ b.toNat && b.toNat ≤ 90
def befB (a b : Exch) : Bool := if a.cur.toList == b.cur.toList then decide (a.day < b.day) else Op.bytesLess a.cur.toList b.cur.toList
def rowErr (xs : List Exch) (i : Nat) : Int :=
  if curB xs[i]!.cur.toList = false ∨ (xs[i]!.cur.toList == eur) = true then 1
  else if xs[i]!.day < 0 ∨ 36524 < xs[i]!.day ∨ xs[i]!.per < 1 ∨ 1000000000 < xs[i]!.per then 2
  else if 0 < i ∧ befB xs[i - 1]! xs[i]! = false then 9 else 0
/-- P5.1. -/
def tabErr (xs : List Exch) : Int := if 1000 < xs.length then 8 else firstErr (rowErr xs) xs.length
/-- The rate that the first k rows give, 0 if none. -/
def rateTo (xs : List Exch) (c : List UInt8) (day : Int) : Nat → Int
  | 0 => 0
  | k + 1 => if (xs[k]!.cur.toList == c) = true ∧ xs[k]!.day ≤ day then xs[k]!.per else rateTo xs c day k
def rateOf (xs : List Exch) (c : List UInt8) (day : Int) : Int := if c = eur then 1000000 else rateTo xs c day xs.length
/-- P5.2: the error. -/
def atErr (xs : List Exch) (c : List UInt8) (day : Int) : Int :=
  if tabErr xs ≠ 0 then tabErr xs else if day < 0 ∨ 36524 < day then 2 else if rateOf xs c day = 0 then 6 else 0
def scaleErr (amt n : Int) : Int := if 1000000000000 < amt then 2 else if (divOut (amt * n) 1000000 2).2 ≠ 0 ∨ 1000000000000 < (divOut (amt * n) 1000000 2).1 then 3 else 0
/-- P5.3 at the mode HalfUp, for amounts from 0 on: the error. -/
def convErr (xs : List Exch) (amt : Int) (c : List UInt8) (day : Int) : Int := if atErr xs c day ≠ 0 then atErr xs c day else scaleErr amt (rateOf xs c day)
def convOut (xs : List Exch) (amt : Int) (c : List UInt8) (day : Int) : Int := if convErr xs amt c day = 0 then (divOut (amt * rateOf xs c day) 1000000 2).1 else 0

theorem rateTo_bounds {xs : List Exch} (h : ∀ i, i < xs.length → rowErr xs i = 0) (c : List UInt8) (day : Int) : ∀ k, k ≤ xs.length → 0 ≤ rateTo xs c day k ∧ rateTo xs c day k ≤ 1000000000 := by
  intro k
  induction k with
  | zero => intro _; rw [rateTo]; omega
  | succ k ih =>
    intro hk
    rw [rateTo]
    split
    · have := h k (by omega)
      unfold rowErr at this
      split at this
      · omega
      · split at this
        · omega
        · omega
    · exact ih (by omega)
theorem tabErr_zero {xs : List Exch} (h : tabErr xs = 0) : xs.length ≤ 1000 ∧ ∀ i, i < xs.length → rowErr xs i = 0 := by
  unfold tabErr at h
  split at h
  · omega
  · exact ⟨by omega, firstErr_all h⟩
theorem rateOf_bounds {xs : List Exch} (h : tabErr xs = 0) (c : List UInt8) (day : Int) : 0 ≤ rateOf xs c day ∧ rateOf xs c day ≤ 1000000000 := by
  unfold rateOf
  split
  · omega
  · exact rateTo_bounds (tabErr_zero h).2 c day _ (Nat.le_refl _)
theorem divOut_nonneg (n c m : Int) (hn : 0 ≤ n) (hc : 0 ≤ c) : 0 ≤ (divOut n c m).1 := by
  unfold divOut
  have := Int.ediv_nonneg hn hc
  split
  · exact Int.le_refl _
  · split
    · exact Int.le_refl _
    · split
      · split
        · exact Int.le_refl _
        · show 0 ≤ n / c + 1; omega
      · exact this
theorem convOut_bounds {xs : List Exch} {amt : Int} {c : List UInt8} {day : Int} (h0 : 0 ≤ amt) : 0 ≤ convOut xs amt c day ∧ convOut xs amt c day ≤ 1000000000000 := by
  unfold convOut
  by_cases h : convErr xs amt c day = 0
  · rw [if_pos h]
    unfold convErr at h
    split at h
    · omega
    · rename_i ha
      have ha : atErr xs c day = 0 := by omega
      unfold atErr at ha
      split at ha
      · omega
      · rename_i ht
        have hr := rateOf_bounds (xs := xs) (by omega) c day
        have := divOut_nonneg (amt * rateOf xs c day) 1000000 2 (Int.mul_nonneg h0 hr.1) (by omega)
        unfold scaleErr at h
        split at h
        · omega
        · split at h
          · omega
          · omega
  · rw [if_neg h]; omega

/-! ### Invoices -/
def lineOk (p : Int × Int) : Prop := 0 ≤ p.1 ∧ p.1 ≤ 1000000000000 ∧ 0 ≤ p.2 ∧ p.2 ≤ 1000000000
instance (p : Int × Int) : Decidable (lineOk p) := by unfold lineOk; infer_instance
def chgOk (n : Nat) (c : Chg) : Prop := 1 ≤ c.kind ∧ c.kind ≤ 9 ∧ 1 ≤ c.basis ∧ c.basis ≤ 3 ∧ 0 ≤ c.amt ∧ c.amt ≤ 1000000000000 ∧ 0 ≤ c.line ∧ (c.basis = 3 → c.line < n) ∧ (c.basis ≠ 3 → c.line = 0)
instance (n : Nat) (c : Chg) : Decidable (chgOk n c) := by unfold chgOk; infer_instance
def linesOk (ls : List (Int × Int)) : Prop := ∀ i, i < ls.length → lineOk ls[i]!
def chgsOk (n : Nat) (cs : List Chg) : Prop := ∀ i, i < cs.length → chgOk n cs[i]!
instance (ls : List (Int × Int)) : Decidable (linesOk ls) := by unfold linesOk; infer_instance
instance (n : Nat) (cs : List Chg) : Decidable (chgsOk n cs) := by unfold chgsOk; infer_instance
/-- P17.1. -/
def invErr (day : Int) (ls : List (Int × Int)) (cs : List Chg) : Int :=
  if ls.length = 0 ∨ 100 < ls.length ∨ 50 < cs.length then 8
  else if 0 ≤ day ∧ day ≤ 36524 ∧ linesOk ls ∧ chgsOk ls.length cs then 0 else 2
def pricesOf (ls : List (Int × Int)) : List Int := ls.map (·.1)
def weightsOf (ls : List (Int × Int)) : List Int := ls.map (·.2)
/-- What a charge gives line j, without its sign, the converted amount being n. -/
def partV (ls : List (Int × Int)) (c : Chg) (n : Int) (j : Nat) : Int :=
  if c.basis = 1 then shareI n (pricesOf ls) j else if c.basis = 2 then shareI n (weightsOf ls) j else if (j : Int) = c.line then n else 0
def contrib (t : List Exch) (day : Int) (ls : List (Int × Int)) (j : Nat) (c : Chg) : Int :=
  if c.kind = 9 then 0 else if c.kind ≤ 5 then partV ls c (convOut t c.amt c.cur.toList day) j else - partV ls c (convOut t c.amt c.cur.toList day) j
/-- The value of line j after the first k charges. -/
def valTo (t : List Exch) (cur : List UInt8) (day : Int) (ls : List (Int × Int)) (cs : List Chg) (k j : Nat) : Int :=
  shareI (convOut t (pricesOf ls).sum cur day) (pricesOf ls) j + sumN k (fun i => contrib t day ls j cs[i]!)
def chgErr (t : List Exch) (day : Int) (cs : List Chg) (i : Nat) : Int := if cs[i]!.kind = 9 then 0 else convErr t cs[i]!.amt cs[i]!.cur.toList day
/-- The errors of the values behind the charges. -/
def endErr (n : Nat) (v : Nat → Int) : Int :=
  if (List.range n).any (fun j => decide (v j < 0)) = true then 12 else if (List.range n).any (fun j => decide (1000000000000 < v j)) = true then 3 else 0
theorem any_at {n : Nat} {p : Nat → Bool} (j : Nat) (hj : j < n) (h : p j = true) : (List.range n).any p = true := List.any_eq_true.2 ⟨j, List.mem_range.2 hj, h⟩
theorem any_none {n : Nat} {p : Nat → Bool} (h : ∀ j, j < n → p j = false) : (List.range n).any p = false := List.any_eq_false.2 fun j hj => by rw [h j (List.mem_range.1 hj)]; simp
theorem any_none_inv {n : Nat} {p : Nat → Bool} (h : (List.range n).any p = false) : ∀ j, j < n → p j = false := fun j hj => by
  have := List.any_eq_false.1 h j (List.mem_range.2 hj)
  simpa using this
theorem endErr_neg {n : Nat} {v : Nat → Int} (j : Nat) (hj : j < n) (h : v j < 0) : endErr n v = 12 := by
  unfold endErr; rw [if_pos (any_at j hj (by simpa using h))]
theorem endErr_over {n : Nat} {v : Nat → Int} (h0 : ∀ j, j < n → 0 ≤ v j) (j : Nat) (hj : j < n) (h : 1000000000000 < v j) : endErr n v = 3 := by
  unfold endErr
  rw [if_neg (by rw [any_none fun j hj => by simpa using h0 j hj]; simp), if_pos (any_at j hj (by simpa using h))]
theorem endErr_ok {n : Nat} {v : Nat → Int} (h0 : ∀ j, j < n → 0 ≤ v j ∧ v j ≤ 1000000000000) : endErr n v = 0 := by
  unfold endErr
  rw [if_neg (by rw [any_none fun j hj => by simpa using (h0 j hj).1]; simp), if_neg (by rw [any_none fun j hj => by simpa using (h0 j hj).2]; simp)]
theorem endErr_zero {n : Nat} {v : Nat → Int} (h : endErr n v = 0) : ∀ j, j < n → 0 ≤ v j ∧ v j ≤ 1000000000000 := by
  unfold endErr at h
  split at h
  · omega
  · rename_i h1
    split at h
    · omega
    · rename_i h2
      intro j hj
      have e1 := any_none_inv (Bool.eq_false_iff.2 h1) j hj
      have e2 := any_none_inv (Bool.eq_false_iff.2 h2) j hj
      simp at e1 e2
      omega
theorem endErr_congr {n : Nat} {v u : Nat → Int} (h : ∀ j, j < n → v j = u j) : endErr n v = endErr n u := by
  have e1 : (List.range n).any (fun j => decide (v j < 0)) = (List.range n).any (fun j => decide (u j < 0)) := by
    rw [Bool.eq_iff_iff, List.any_eq_true, List.any_eq_true]
    constructor <;> rintro ⟨j, hj, hp⟩ <;> exact ⟨j, hj, by rw [List.mem_range] at hj; simpa [h j hj] using hp⟩
  have e2 : (List.range n).any (fun j => decide (1000000000000 < v j)) = (List.range n).any (fun j => decide (1000000000000 < u j)) := by
    rw [Bool.eq_iff_iff, List.any_eq_true, List.any_eq_true]
    constructor <;> rintro ⟨j, hj, hp⟩ <;> exact ⟨j, hj, by rw [List.mem_range] at hj; simpa [h j hj] using hp⟩
  unfold endErr
  rw [e1, e2]
def valErr (t : List Exch) (cur : List UInt8) (day : Int) (ls : List (Int × Int)) (cs : List Chg) : Int :=
  if invErr day ls cs ≠ 0 then invErr day ls cs
  else if 1000000000000 < (pricesOf ls).sum then 3
  else if convErr t (pricesOf ls).sum cur day ≠ 0 then convErr t (pricesOf ls).sum cur day
  else if firstErr (chgErr t day cs) cs.length ≠ 0 then firstErr (chgErr t day cs) cs.length
  else endErr ls.length (valTo t cur day ls cs cs.length)
def valOut (t : List Exch) (cur : List UInt8) (day : Int) (ls : List (Int × Int)) (cs : List Chg) : List Int :=
  if valErr t cur day ls cs = 0 then (List.range ls.length).map (valTo t cur day ls cs cs.length) else []
def totErr (t : List Exch) (cur : List UInt8) (day : Int) (ls : List (Int × Int)) (cs : List Chg) : Int :=
  if valErr t cur day ls cs ≠ 0 then valErr t cur day ls cs else if 1000000000000 < (valOut t cur day ls cs).sum then 3 else 0
def totOut (t : List Exch) (cur : List UInt8) (day : Int) (ls : List (Int × Int)) (cs : List Chg) : Int :=
  if totErr t cur day ls cs = 0 then (valOut t cur day ls cs).sum else 0
end Go.Proofs.Ytknbbamlpadfdaa

/-
  Words for memory: slices of structs of k cells that read as lists. No statement of the seat is proved here. No conditions.
-/
import Derived.Test.YtknbbamlpadfdaaWords2
import Derived.Test.YtknbbamlpadfdaaAppend
namespace Go.Proofs.Ytknbbamlpadfdaa
open Go.RowKit
set_option linter.unusedVariables false

/-- The slice '.slice A n c' holds the records xs, each as the k cells that enc gives. -/
def Recs {α : Type} [Inhabited α] (enc : α → List Value) (k : Nat) (w : World) (A : Option Addr) (n : Nat) (xs : List α) : Prop :=
  xs.length = n ∧ (0 < n → ∃ b off, A = some ⟨b, off, none⟩ ∧ b < w.heap.size ∧ ∀ i, i < n → ∀ c, c < k → w.cell? ⟨b, off + i * k + c, none⟩ = some ((enc xs[i]!)[c]!))

section
variable {α : Type} {enc : α → List Value} {k n : Nat} {w : World}
/-- The cells of a list of records. -/
def flat (enc : α → List Value) (xs : List α) : List Value := xs.flatMap enc
theorem flat_length (hk : ∀ x, (enc x).length = k) (xs : List α) : (flat enc xs).length = xs.length * k := by
  induction xs with
  | nil => simp [flat]
  | cons x xs ih =>
    have : flat enc (x :: xs) = enc x ++ flat enc xs := by simp [flat]
    rw [this, List.length_append, ih, hk, List.length_cons, Nat.add_mul]
    omega
theorem flat_append (xs ys : List α) : flat enc (xs ++ ys) = flat enc xs ++ flat enc ys := by simp [flat]
theorem flat_one (x : α) : flat enc [x] = enc x := by simp [flat]

/-- A block of n records f 0 .. f (n-1). -/
def RecRow (enc : α → List Value) (k : Nat) (cs : Array Value) (n : Nat) (f : Nat → α) : Prop := cs.size = n * k ∧ ∀ j, j < n → ∀ c, c < k → cs[j * k + c]? = some ((enc (f j))[c]!)

theorem RecRow.congr {cs : Array Value} {f g : Nat → α} (h : RecRow enc k cs n f) (e : ∀ j, j < n → f j = g j) : RecRow enc k cs n g := ⟨h.1, fun j hj c hc => by rw [h.2 j hj c hc, e j hj]⟩
theorem RecRow.cell {cs : Array Value} {f : Nat → α} {b : Nat} {t : TypeId} (h : RecRow enc k cs n f) (hb : Bl w b t cs) {j c : Nat} (hj : j < n) (hc : c < k) : w.cell? ⟨b, j * k + c, none⟩ = some ((enc (f j))[c]!) := (hb.cell _).trans (h.2 j hj c hc)

end

section
variable {α : Type} [Inhabited α] {enc : α → List Value} {k : Nat} {w w' : World} {A : Option Addr} {n : Nat} {xs : List α}
theorem Recs.len (h : Recs enc k w A n xs) : xs.length = n := h.1
theorem Recs.nil : Recs enc k w A 0 [] := ⟨rfl, fun h => absurd h (by omega)⟩
theorem Recs.below (h : Recs enc k w A n xs) (hb : RowKit.Below w.heap.size w w') : Recs enc k w' A n xs :=
  ⟨h.1, fun hn => by
    obtain ⟨b, off, e, hlt, hc⟩ := h.2 hn
    exact ⟨b, off, e, by have := hb.size; omega, fun i hi c hcc => (hb.cell (p := ⟨b, off + i * k + c, none⟩) hlt).trans (hc i hi c hcc)⟩⟩
theorem Recs.alloc (h : Recs enc k w A n xs) (o : Obj) : Recs enc k (w.alloc o) A n xs := h.below ((Below.refl _ _).alloc (Nat.le_refl _) _)
theorem Recs.drewN (h : Recs enc k w A n xs) (m : Nat) : Recs enc k (w.drewN m) A n xs := h
theorem Recs.at_ (h : Recs enc k w A n xs) {i : Nat} (hi : i < n) : ∃ b off, A = some ⟨b, off, none⟩ ∧ b < w.heap.size ∧ ∀ c, c < k → w.cell? ⟨b, off + i * k + c, none⟩ = some ((enc xs[i]!)[c]!) := by
  obtain ⟨b, off, e, hlt, hc⟩ := h.2 (by omega)
  exact ⟨b, off, e, hlt, fun c hcc => hc i hi c hcc⟩

theorem flat_get (hk : ∀ x, (enc x).length = k) (xs : List α) (i c : Nat) (hi : i < xs.length) (hc : c < k) : (flat enc xs)[i * k + c]? = some ((enc xs[i]!)[c]!) := by
  induction xs generalizing i with
  | nil => simp at hi
  | cons x xs ih =>
    have e : flat enc (x :: xs) = enc x ++ flat enc xs := by simp [flat]
    rw [e]
    cases i with
    | zero =>
      rw [Nat.zero_mul, Nat.zero_add, List.getElem?_append_left (by rw [hk]; exact hc), List.getElem?_eq_getElem (by rw [hk]; exact hc)]
      simp [getElem!_pos, hk, hc]
    | succ i =>
      rw [List.getElem?_append_right (by rw [hk, Nat.add_mul]; omega), hk, show (i + 1) * k + c - k = i * k + c by rw [Nat.add_mul]; omega, ih i (by simpa using hi)]
      simp
/-- A row of the call's own reads as its records. -/
theorem Recs.of_own (hk : ∀ x, (enc x).length = k) {base : Nat} {e : TypeId} {c : Nat} (h : w.ownsRow base e k (.slice A n c) n (flat enc xs)) (hl : xs.length = n) : Recs enc k w A n xs := by
  refine ⟨hl, fun hn => ?_⟩
  rcases h.2 with ⟨hv, h0⟩ | ⟨g, cap, cur, hv, _, hh, _⟩
  · omega
  · injection hv with h1 h2 h3
    subst h1
    have hlt : g < w.heap.size := by
      rcases Nat.lt_or_ge g w.heap.size with h4 | h4
      · exact h4
      · rw [Array.getElem?_eq_none h4] at hh; cases hh
    refine ⟨g, 0, rfl, hlt, fun i hi c hc => ?_⟩
    have hlt2 : i * k + c < n * k := by
      have : (i + 1) * k ≤ n * k := Nat.mul_le_mul_right _ hi
      rw [Nat.add_mul] at this
      omega
    rw [Nat.zero_add, h.cellAt (g := g) (i * k + c) hlt2, flat_get hk xs i c (by omega) hc]

theorem RecRow.own {cs : Array Value} {f : Nat → α} {b base : Nat} {t : TypeId} (hk : ∀ x, (enc x).length = k) (h : RecRow enc k cs n f) (hb : Bl w b t cs) (hg : base ≤ b) (hn : n ≤ 9223372036854775807) : w.ownsRow base t k (.slice (some ⟨b, 0, none⟩) n n) n (flat enc ((List.range n).map f)) := by
  have hfl := flat_length hk ((List.range n).map f)
  rw [List.length_map, List.length_range] at hfl
  refine ⟨hfl, .inr ⟨b, n, cs, rfl, hg, hb, Nat.le_refl _, by unfold maxLen; omega, h.1, ?_⟩⟩
  rw [← h.1, ← Array.length_toList, List.take_length]
  apply List.ext_getElem?
  intro i
  by_cases hi : i < n * k
  · have hk0 : 0 < k := by
      rcases Nat.eq_zero_or_pos k with e | e
      · rw [e] at hi; omega
      · exact e
    have e1 : i / k * k + i % k = i := by have := Nat.div_add_mod i k; rw [Nat.mul_comm] at this; exact this
    have hj : i / k < n := (Nat.div_lt_iff_lt_mul hk0).2 hi
    have hc : i % k < k := Nat.mod_lt _ hk0
    have h1 := h.2 (i / k) hj (i % k) hc
    have h2 := flat_get hk ((List.range n).map f) (i / k) (i % k) (by simpa using hj) hc
    rw [e1] at h1 h2
    rw [Array.getElem?_toList, h1, h2]
    congr 2
    simp [hj]
  · rw [List.getElem?_eq_none (by rw [Array.length_toList, h.1]; omega), List.getElem?_eq_none (by omega)]

theorem RecRow.recs {cs : Array Value} {f : Nat → α} {b : Nat} {t : TypeId} (h : RecRow enc k cs n f) (hb : Bl w b t cs) : Recs enc k w (some ⟨b, 0, none⟩) n ((List.range n).map f) :=
  ⟨by simp, fun _ => ⟨b, 0, rfl, hb.lt, fun i hi c hc => by rw [Nat.zero_add, h.cell hb hi hc]; simp [hi]⟩⟩
end

/-! ### Pairs of integers -/
def enc2 (p : Int × Int) : List Value := [.int .i64 p.1, .int .i64 p.2]
theorem enc2_len (p : Int × Int) : (enc2 p).length = 2 := rfl
theorem enc2_one (p : Int × Int) : ∀ v ∈ enc2 p, v.oneCell' = true := fun v hv => by
  simp [enc2] at hv
  rcases hv with rfl | rfl <;> rfl

theorem Recs.get2 {w : World} {A : Option Addr} {n : Nat} {xs : List (Int × Int)} (h : Recs enc2 2 w A n xs) {i : Nat} (hi : i < n) :
    ∃ b off x y, A = some ⟨b, off, none⟩ ∧ b < w.heap.size ∧ w.cell? ⟨b, off + i * 2, none⟩ = some (.int .i64 x) ∧ w.cell? ⟨b, off + i * 2 + 1, none⟩ = some (.int .i64 y) ∧ Hid (xs[i]! = (x, y)) := by
  obtain ⟨b, off, e, hlt, hc⟩ := h.at_ hi
  exact ⟨b, off, xs[i]!.1, xs[i]!.2, e, hlt, hc 0 (by omega), hc 1 (by omega), rfl⟩

theorem RecRow.put2 {cs : Array Value} {n : Nat} {f : Nat → Int × Int} (h : RecRow enc2 2 cs n f) (i : Nat) (p : Int × Int) (hi : i < n) :
    RecRow enc2 2 ((cs.setIfInBounds (i * 2) (.int .i64 p.1)).setIfInBounds (i * 2 + 1) (.int .i64 p.2)) n (fun j => if j = i then p else f j) := by
  have hs := h.1
  refine ⟨by simpa using hs, fun j hj c hc => ?_⟩
  simp only [Array.getElem?_setIfInBounds, Array.size_setIfInBounds]
  have hcc : c = 0 ∨ c = 1 := by omega
  by_cases e : j = i
  · subst e
    rcases hcc with rfl | rfl
    · rw [if_neg (by omega), if_pos (by omega), if_pos (by omega), if_pos rfl]; rfl
    · rw [if_pos rfl, if_pos (by omega), if_pos rfl]; rfl
  · rw [if_neg (by omega), if_neg (by omega), if_neg e, h.2 j hj c hc]

end Go.Proofs.Ytknbbamlpadfdaa

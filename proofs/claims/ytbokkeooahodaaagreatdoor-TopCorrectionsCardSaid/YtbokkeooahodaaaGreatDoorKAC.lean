/-
  Words for memory: slices of structs of k cells that read as lists. No statement of the seat is proved here. No conditions.
  Words for memory: rows of rates of exchange (a string and two ints) and of charges (four ints and a string). No statement of the seat is proved here. No conditions.
  Contracts of apportion.byRest and of the method sort of apportion.ranking: portions sorted by descending remainders, then by their indexes. No statement of the seat is proved here. Conditions: fewer than 2^62 portions.
  The sorted portions: at place p stands the portion whose rank is p. No statement of the seat is proved here. No conditions beyond those typed.
  Contract of apportion.Share: the shares of the largest remainder, or the error of check. No statement of the seat is proved here. Conditions: the list's length fits.
  Contract of apportion.Share, all cases in one. No statement of the seat is proved here. Conditions: the list's length fits an int.
  Words for memory: rows of the call's own, small lemmas. No statement of the seat is proved here. No conditions.
-/
import Derived.Test.YtbokkeooahodaaaGreatDoorKAB
import Derived.Test.YtbokkeooahodaaaGreatDoorKAA
import Derived.StillTailTactics
namespace Go.Proofs.YtbokkeooahodaaaGreatDoor
open Go.RowKit
set_option linter.unusedVariables false

def Recs {α : Type} [Inhabited α] (enc : α → List Value) (k : Nat) (w : World) (A : Option Addr) (n : Nat) (xs : List α) : Prop :=
  xs.length = n ∧ (0 < n → ∃ b off, A = some ⟨b, off, none⟩ ∧ b < w.heap.size ∧ ∀ i, i < n → ∀ c, c < k → w.cell? ⟨b, off + i * k + c, none⟩ = some ((enc xs[i]!)[c]!))

section
variable {α : Type} {enc : α → List Value} {k n : Nat} {w : World}
def flat (enc : α → List Value) (xs : List α) : List Value := xs.flatMap enc
theorem flat_length (hk : ∀ x, (enc x).length = k) (xs : List α) : (flat enc xs).length = xs.length * k := by
  induction xs with
  | nil => simp [flat]
  | cons x xs ih =>
    have : flat enc (x :: xs) = enc x ++ flat enc xs := by simp [flat]
    rw [this, List.length_append, ih, hk, List.length_cons, Nat.add_mul]
    omega
theorem flat_append (xs ys : List α) : flat enc (xs ++ ys) = flat enc xs ++ flat enc ys := by simp [flat]
theorem flat_one (x : α) : flat enc [x] = enc x := by simp [flat]

def RecRow (enc : α → List Value) (k : Nat) (cs : Array Value) (n : Nat) (f : Nat → α) : Prop := cs.size = n * k ∧ ∀ j, j < n → ∀ c, c < k → cs[j * k + c]? = some ((enc (f j))[c]!)

theorem RecRow.congr {cs : Array Value} {f g : Nat → α} (h : RecRow enc k cs n f) (e : ∀ j, j < n → f j = g j) : RecRow enc k cs n g := ⟨h.1, fun j hj c hc => by rw [h.2 j hj c hc, e j hj]⟩
theorem RecRow.cell {cs : Array Value} {f : Nat → α} {b : Nat} {t : TypeId} (h : RecRow enc k cs n f) (hb : Bl w b t cs) {j c : Nat} (hj : j < n) (hc : c < k) : w.cell? ⟨b, j * k + c, none⟩ = some ((enc (f j))[c]!) := (hb.cell _).trans (h.2 j hj c hc)

end

section
variable {α : Type} [Inhabited α] {enc : α → List Value} {k : Nat} {w w' : World} {A : Option Addr} {n : Nat} {xs : List α}
theorem Recs.len (h : Recs enc k w A n xs) : xs.length = n := h.1
theorem Recs.nil : Recs enc k w A 0 [] := ⟨rfl, fun h => absurd h (by omega)⟩
theorem Recs.below (h : Recs enc k w A n xs) (hb : RowKit.Below w.heap.size w w') : Recs enc k w' A n xs :=
  ⟨h.1, fun hn => by
    obtain ⟨b, off, e, hlt, hc⟩ := h.2 hn
    exact ⟨b, off, e, by have := hb.size; omega, fun i hi c hcc => (hb.cell (p := ⟨b, off + i * k + c, none⟩) hlt).trans (hc i hi c hcc)⟩⟩
theorem Recs.alloc (h : Recs enc k w A n xs) (o : Obj) : Recs enc k (w.alloc o) A n xs := h.below ((Below.refl _ _).alloc (Nat.le_refl _) _)
theorem Recs.drewN (h : Recs enc k w A n xs) (m : Nat) : Recs enc k (w.drewN m) A n xs := h
theorem Recs.at_ (h : Recs enc k w A n xs) {i : Nat} (hi : i < n) : ∃ b off, A = some ⟨b, off, none⟩ ∧ b < w.heap.size ∧ ∀ c, c < k → w.cell? ⟨b, off + i * k + c, none⟩ = some ((enc xs[i]!)[c]!) := by
  obtain ⟨b, off, e, hlt, hc⟩ := h.2 (by omega)
  exact ⟨b, off, e, hlt, fun c hcc => hc i hi c hcc⟩

theorem flat_get (hk : ∀ x, (enc x).length = k) (xs : List α) (i c : Nat) (hi : i < xs.length) (hc : c < k) : (flat enc xs)[i * k + c]? = some ((enc xs[i]!)[c]!) := by
  induction xs generalizing i with
  | nil => simp at hi
  | cons x xs ih =>
    have e : flat enc (x :: xs) = enc x ++ flat enc xs := by simp [flat]
    rw [e]
    cases i with
    | zero =>
      rw [Nat.zero_mul, Nat.zero_add, List.getElem?_append_left (by rw [hk]; exact hc), List.getElem?_eq_getElem (by rw [hk]; exact hc)]
      simp [getElem!_pos, hk, hc]
    | succ i =>
      rw [List.getElem?_append_right (by rw [hk, Nat.add_mul]; omega), hk, show (i + 1) * k + c - k = i * k + c by rw [Nat.add_mul]; omega, ih i (by simpa using hi)]
      simp
theorem Recs.of_own (hk : ∀ x, (enc x).length = k) {base : Nat} {e : TypeId} {c : Nat} (h : w.ownsRow base e k (.slice A n c) n (flat enc xs)) (hl : xs.length = n) : Recs enc k w A n xs := by
  refine ⟨hl, fun hn => ?_⟩
  rcases h.2 with ⟨hv, h0⟩ | ⟨g, cap, cur, hv, _, hh, _⟩
  · omega
  · injection hv with h1 h2 h3
    subst h1
    have hlt : g < w.heap.size := by
      rcases Nat.lt_or_ge g w.heap.size with h4 | h4
      · exact h4
      · rw [Array.getElem?_eq_none h4] at hh; cases hh
    refine ⟨g, 0, rfl, hlt, fun i hi c hc => ?_⟩
    have hlt2 : i * k + c < n * k := by
      have : (i + 1) * k ≤ n * k := Nat.mul_le_mul_right _ hi
      rw [Nat.add_mul] at this
      omega
    rw [Nat.zero_add, h.cellAt (g := g) (i * k + c) hlt2, flat_get hk xs i c (by omega) hc]

theorem RecRow.own {cs : Array Value} {f : Nat → α} {b base : Nat} {t : TypeId} (hk : ∀ x, (enc x).length = k) (h : RecRow enc k cs n f) (hb : Bl w b t cs) (hg : base ≤ b) (hn : n ≤ 9223372036854775807) : w.ownsRow base t k (.slice (some ⟨b, 0, none⟩) n n) n (flat enc ((List.range n).map f)) := by
  have hfl := flat_length hk ((List.range n).map f)
  rw [List.length_map, List.length_range] at hfl
  refine ⟨hfl, .inr ⟨b, n, cs, rfl, hg, hb, Nat.le_refl _, by unfold maxLen; omega, h.1, ?_⟩⟩
  rw [← h.1, ← Array.length_toList, List.take_length]
  apply List.ext_getElem?
  intro i
  by_cases hi : i < n * k
  · have hk0 : 0 < k := by
      rcases Nat.eq_zero_or_pos k with e | e
      · rw [e] at hi; omega
      · exact e
    have e1 : i / k * k + i % k = i := by have := Nat.div_add_mod i k; rw [Nat.mul_comm] at this; exact this
    have hj : i / k < n := (Nat.div_lt_iff_lt_mul hk0).2 hi
    have hc : i % k < k := Nat.mod_lt _ hk0
    have h1 := h.2 (i / k) hj (i % k) hc
    have h2 := flat_get hk ((List.range n).map f) (i / k) (i % k) (by simpa using hj) hc
    rw [e1] at h1 h2
    rw [Array.getElem?_toList, h1, h2]
    congr 2
    simp [hj]
  · rw [List.getElem?_eq_none (by rw [Array.length_toList, h.1]; omega), List.getElem?_eq_none (by omega)]

theorem RecRow.recs {cs : Array Value} {f : Nat → α} {b : Nat} {t : TypeId} (h : RecRow enc k cs n f) (hb : Bl w b t cs) : Recs enc k w (some ⟨b, 0, none⟩) n ((List.range n).map f) :=
  ⟨by simp, fun _ => ⟨b, 0, rfl, hb.lt, fun i hi c hc => by rw [Nat.zero_add, h.cell hb hi hc]; simp [hi]⟩⟩
end

/-! ### Pairs of integers -/
def enc2 (p : Int × Int) : List Value := [.int .i64 p.1, .int .i64 p.2]
theorem enc2_len (p : Int × Int) : (enc2 p).length = 2 := rfl
theorem Recs.get2 {w : World} {A : Option Addr} {n : Nat} {xs : List (Int × Int)} (h : Recs enc2 2 w A n xs) {i : Nat} (hi : i < n) :
    ∃ b off x y, A = some ⟨b, off, none⟩ ∧ b < w.heap.size ∧ w.cell? ⟨b, off + i * 2, none⟩ = some (.int .i64 x) ∧ w.cell? ⟨b, off + i * 2 + 1, none⟩ = some (.int .i64 y) ∧ Hid (xs[i]! = (x, y)) := by
  obtain ⟨b, off, e, hlt, hc⟩ := h.at_ hi
  exact ⟨b, off, xs[i]!.1, xs[i]!.2, e, hlt, hc 0 (by omega), hc 1 (by omega), rfl⟩

end Go.Proofs.YtbokkeooahodaaaGreatDoor

namespace Go.Proofs.YtbokkeooahodaaaGreatDoor
open Go.RowKit
set_option linter.unusedVariables false

def encX (x : Exch) : List Value := [.string x.cur, .int .i64 x.day, .int .i64 x.per]
def encC (c : Chg) : List Value := [.int .i64 c.kind, .int .i64 c.amt, .string c.cur, .int .i64 c.basis, .int .i64 c.line]
theorem Recs.getX {w : World} {A : Option Addr} {n : Nat} {xs : List Exch} (h : Recs encX 3 w A n xs) {i : Nat} (hi : i < n) :
    ∃ b off c d p, A = some ⟨b, off, none⟩ ∧ b < w.heap.size ∧ w.cell? ⟨b, off + i * 3, none⟩ = some (.string c) ∧ w.cell? ⟨b, off + i * 3 + 1, none⟩ = some (.int .i64 d) ∧ w.cell? ⟨b, off + i * 3 + 2, none⟩ = some (.int .i64 p) ∧ Hid (xs[i]! = ⟨c, d, p⟩) := by
  obtain ⟨b, off, e, hlt, hc⟩ := h.at_ hi
  exact ⟨b, off, xs[i]!.cur, xs[i]!.day, xs[i]!.per, e, hlt, hc 0 (by omega), hc 1 (by omega), hc 2 (by omega), rfl⟩
theorem Recs.getC {w : World} {A : Option Addr} {n : Nat} {xs : List Chg} (h : Recs encC 5 w A n xs) {i : Nat} (hi : i < n) :
    ∃ b off k a c s l, A = some ⟨b, off, none⟩ ∧ b < w.heap.size ∧ w.cell? ⟨b, off + i * 5, none⟩ = some (.int .i64 k) ∧ w.cell? ⟨b, off + i * 5 + 1, none⟩ = some (.int .i64 a) ∧ w.cell? ⟨b, off + i * 5 + 2, none⟩ = some (.string c) ∧ w.cell? ⟨b, off + i * 5 + 3, none⟩ = some (.int .i64 s) ∧ w.cell? ⟨b, off + i * 5 + 4, none⟩ = some (.int .i64 l) ∧ Hid (xs[i]! = ⟨k, a, c, s, l⟩) := by
  obtain ⟨b, off, e, hlt, hc⟩ := h.at_ hi
  exact ⟨b, off, xs[i]!.kind, xs[i]!.amt, xs[i]!.cur, xs[i]!.basis, xs[i]!.line, e, hlt, hc 0 (by omega), hc 1 (by omega), hc 2 (by omega), hc 3 (by omega), hc 4 (by omega), rfl⟩

theorem drop_get (s : ByteArray) (k : Nat) (h : k < s.size) : s.toList[k]? = some s[k] := by
  rw [ByteArray.toList_eq, Array.getElem?_toList]
  exact Array.getElem?_eq_getElem h
theorem toList_len (s : ByteArray) : s.toList.length = s.size := by rw [ByteArray.toList_eq]; simp

theorem curB_true {s : ByteArray} (h3 : s.size = 3) (h : ∀ i (hi : i < s.size), 65 ≤ s[i].toNat ∧ s[i].toNat ≤ 90) : curB s.toList = true := by
  unfold curB
  rw [toList_len, h3]
  simp only [beq_self_eq_true, Bool.true_and, List.all_eq_true, Bool.and_eq_true, decide_eq_true_eq]
  intro b hb
  obtain ⟨i, hi, e⟩ := List.getElem_of_mem hb
  have hi2 : i < s.size := by rw [toList_len] at hi; exact hi
  have := drop_get s i hi2
  rw [List.getElem?_eq_getElem hi] at this
  injection this with this
  rw [← e, this]
  exact h i hi2
theorem curB_size {s : ByteArray} (h3 : s.size ≠ 3) : curB s.toList = false := by
  unfold curB
  rw [toList_len]
  simp [h3]
theorem curB_byte {s : ByteArray} (i : Nat) (hi : i < s.size) (h : ¬ (65 ≤ s[i].toNat ∧ s[i].toNat ≤ 90)) : curB s.toList = false := by
  rcases Bool.eq_false_or_eq_true (curB s.toList) with e | e
  · exfalso
    unfold curB at e
    simp only [Bool.and_eq_true, List.all_eq_true, decide_eq_true_eq] at e
    have hm : s[i] ∈ s.toList := List.mem_of_getElem? (drop_get s i hi)
    exact h (e.2 _ hm)
  · exact e

theorem bytesLess_flip : ∀ (a b : List UInt8), a ≠ b → Op.bytesLess a b = !Op.bytesLess b a
  | [], [], h => absurd rfl h
  | [], _ :: _, _ => by simp [Op.bytesLess]
  | _ :: _, [], _ => by simp [Op.bytesLess]
  | a :: x, b :: y, h => by
    by_cases e : a = b
    · subst e
      have ih := bytesLess_flip x y (fun e => h (by rw [e]))
      simp [Op.bytesLess, ih, UInt8.lt_irrefl]
    · have h1 : (a == b) = false := by simpa using e
      have h2 : (b == a) = false := by simpa using fun x => e x.symm
      simp only [Op.bytesLess, h1, h2, Bool.false_and, Bool.or_false]
      have h3 : a.toNat ≠ b.toNat := fun x => e (UInt8.toNat_inj.1 x)
      by_cases g : a < b
      · have : ¬ b < a := by rw [UInt8.lt_iff_toNat_lt] at g ⊢; omega
        simp [g, this]
      · have : b < a := by rw [UInt8.lt_iff_toNat_lt] at g ⊢; omega
        simp [g, this]
theorem bytesLess_irrefl : ∀ (a : List UInt8), Op.bytesLess a a = false
  | [] => by simp [Op.bytesLess]
  | a :: x => by simp [Op.bytesLess, bytesLess_irrefl x, UInt8.lt_irrefl]
end Go.Proofs.YtbokkeooahodaaaGreatDoor

namespace Go.Proofs.YtbokkeooahodaaaGreatDoor
open Go.RowKit Go.Shelf Go.Lib Go.Sort
set_option linter.unusedVariables false

structure Por where
  index : Int
  share : Int
  rest : Int
instance : Inhabited Por := ⟨⟨0, 0, 0⟩⟩
def encP (p : Por) : List Value := [.int .i64 p.index, .int .u64 p.share, .int .u64 p.rest]
def cmpP (x y : Por) : Int := if Lib.compareInt y.rest x.rest != 0 then Lib.compareInt y.rest x.rest else Lib.compareInt x.index y.index

set_option maxHeartbeats 1000000 in
theorem cmpU_any (x y : Int) (w : World) : Calls Tryz.prog 154 #[.int .u64 x, .int .u64 y] w fun e w' => e = .returned (.int .i64 (Lib.compareInt x y)) ∧ w = w' := by
  by_cases h1 : x < y
  · have E := Lib.hid (show Lib.compareInt x y = -1 by simp [Lib.compareInt, h1])
    go_enter Tryz.func154, Tryz.ntmps154
    go_wp2
    go_ret
    exact ⟨ret_int' E.out.symm, rfl⟩
  by_cases h2 : y < x
  · have E := Lib.hid (show Lib.compareInt x y = 1 by simp [Lib.compareInt, h1, h2])
    go_enter Tryz.func154, Tryz.ntmps154
    go_wp2
    go_ret
    exact ⟨ret_int' E.out.symm, rfl⟩
  · have E := Lib.hid (show Lib.compareInt x y = 0 by simp [Lib.compareInt, h1, h2])
    go_enter Tryz.func154, Tryz.ntmps154
    go_wp2
    go_ret
    exact ⟨ret_int' E.out.symm, rfl⟩

set_option maxHeartbeats 1000000 in
theorem byRest_any (x y : Por) (w : World) : Calls Tryz.prog 95 #[.agg #[.int .i64 x.index, .int .u64 x.share, .int .u64 x.rest], .agg #[.int .i64 y.index, .int .u64 y.share, .int .u64 y.rest]] w
    fun e w' => e = .returned (.int .i64 (cmpP x y)) ∧ ∃ os', w' = grow w os' := by
  have H1 := Lib.hid (fun w => cmpU_any y.rest x.rest w)
  have H2 := Lib.hid (fun w => Tryz.cmp_Compare_int x.index y.index w)
  have HE := Lib.hid (show cmpP x y = if Lib.compareInt y.rest x.rest != 0 then Lib.compareInt y.rest x.rest else Lib.compareInt x.index y.index from rfl)
  generalize cmpP x y = r at *
  generalize Lib.compareInt y.rest x.rest = a at *
  generalize Lib.compareInt x.index y.index = b at *
  cases h : (a != 0) with
  | true =>
    go_enter Tryz.func95, Tryz.ntmps95
    go_wp2_with (first | (go_at_call 154; refine (H1.out _).mono ?_; rintro e w' ⟨rfl, rfl⟩) | (go_at_call 31; refine (H2.out _).mono ?_; rintro e w' ⟨rfl, rfl⟩))
    go_ret
    exact ⟨ret_int' (by rw [HE.out, h]; rfl), _, by rw [alloc_eq_grow, alloc_eq_grow, grow_grow]⟩
  | false =>
    go_enter Tryz.func95, Tryz.ntmps95
    go_wp2_with (first | (go_at_call 154; refine (H1.out _).mono ?_; rintro e w' ⟨rfl, rfl⟩) | (go_at_call 31; refine (H2.out _).mono ?_; rintro e w' ⟨rfl, rfl⟩))
    go_ret
    exact ⟨ret_int' (by rw [HE.out, h]; rfl), _, by rw [alloc_eq_grow, alloc_eq_grow, grow_grow]⟩


set_option maxHeartbeats 1000000 in
theorem rankCmp_any (x y : Por) (bk : Nat) (W : World) (hc : W.cell? ⟨bk, 0, none⟩ = some (.func (.func 95) #[] #[])) (hb : bk < W.heap.size) :
    Calls Tryz.prog 156 #[.agg #[.int .i64 x.index, .int .u64 x.share, .int .u64 x.rest], .agg #[.int .i64 y.index, .int .u64 y.share, .int .u64 y.rest], .pointer (some ⟨bk, 0, none⟩)] W
    fun e w' => e = .returned (.int .i64 (cmpP x y)) ∧ ∃ q os', w' = grow (W.drewN q) os' := by
  have H1 := Lib.hid (fun w => byRest_any x y w)
  have hc' : ∀ o1 o2, ((W.alloc o1).alloc o2).cell? ⟨bk, 0, none⟩ = some (.func (.func 95) #[] #[]) := fun o1 o2 => by
    rw [World.cell?_alloc_lt _ _ _ (by simp; omega), World.cell?_alloc_lt _ _ _ hb, hc]
  generalize cmpP x y = r at *
  go_enter Tryz.func156, Tryz.ntmps156
  go_wp2_with (go_at_call 95; refine (H1.out _).mono ?_; rintro e w' ⟨rfl, os, rfl⟩)
  go_ret
  exact ⟨rfl, 0, _, by rw [alloc_eq_grow, alloc_eq_grow, grow_grow, grow_grow]; rfl⟩

theorem rankLays (blk off size : Nat) (w : World) (T : TypeId) (hblk : blk < w.heap.size) :
    CmpLays Tryz.prog 156 #[.pointer (some ⟨w.heap.size, 0, none⟩)] encP 3 cmpP blk off size (w.alloc (.cells #[.func (.func 95) #[] #[]] T)) := by
  intro m os dk _ x y
  refine rankCmp_any x y w.heap.size _ ?_ ?_
  · unfold sortWorldK
    rw [cell?_grow _ _ _ (by simp [putRowK]), cell?_putRowK_other encP 3 _ _ _ _ _ (by show w.heap.size ≠ blk; omega), cell?_ahead]
    simp only [World.cell?, heap_alloc_new]
    rfl
  · simp [sortWorldK, putRowK]
    omega

theorem ltP (x y : Por) : ltOf cmpP x y = decide (y.rest < x.rest ∨ (x.rest = y.rest ∧ x.index < y.index)) := by
  unfold ltOf cmpP Lib.compareInt
  by_cases h1 : y.rest < x.rest
  · simp [h1]
  · by_cases h2 : x.rest < y.rest
    · have : ¬ x.rest = y.rest := by omega
      simp [h1, h2, this]
    · have : x.rest = y.rest := by omega
      simp [this]
      by_cases h3 : x.index < y.index
      · simp [h3]
      · by_cases h4 : y.index < x.index <;> simp [h3, h4]

theorem swoP : SWO (ltOf cmpP) where
  irrefl x := by rw [ltP]; simp
  trans x y z h1 h2 := by rw [ltP] at *; simp at *; omega
  ntrans x y z h1 h2 := by rw [ltP] at *; simp at *; omega

set_option maxHeartbeats 1000000 in
theorem rankSort_any (blk off cap : Nat) (d : Array Por) (w : World) (hH : HoldsK encP 3 w blk off d) (hblk : blk < w.heap.size) (hsz : d.size < 4611686018427387904) :
    Calls Tryz.prog 96 #[.agg #[.func (.func 95) #[] #[]], .slice (some ⟨blk, off, none⟩) d.size cap] w fun e w' => e = .returned (.tuple #[]) ∧
      ∃ d' n os, PermIn 0 d.size d d' ∧ SortedIn (ltOf cmpP) 0 d.size d' ∧ w' = sortWorldK encP 3 w blk off n d' os := by
  have eg : ∀ args w, (callFunc 156 args).run Tryz.prog w = .ok (.enter 156 args) w := enters_of Tryz.func156 (by kernel_rfl) rfl
  have hcon := fun T => AnyQ.slices_SortFunc Tryz.sortP 3 Tryz.isAgg192 Tryz.sizeOf192 encP (fun _ => rfl) (fun x v hv => by simp [encP] at hv; rcases hv with rfl | rfl | rfl <;> rfl) cmpP swoP 156 #[.pointer (some ⟨w.heap.size, 0, none⟩)] blk off cap d (w.alloc (.cells #[.func (.func 95) #[] #[]] T)) eg (rankLays blk off d.size w T hblk)
    (by rw [alloc_eq_grow]; exact holdsK_grow encP 3 w _ blk off d hblk hH) (by simp; omega) hsz
  change ∀ T, Calls Tryz.prog 155 _ _ _ at hcon
  have HC := Lib.hid hcon
  clear hH hcon eg
  go_enter Tryz.func96, Tryz.ntmps96
  go_wp2_with (go_at_call 155; refine (HC.out _).mono ?_; rintro e w' ⟨rfl, d', n, os, hp, hs, rfl⟩)
  go_end0
  refine ⟨rfl, d', n, #[.cells #[.func (.func 95) #[] #[]] 195] ++ os, hp, hs, ?_⟩
  unfold sortWorldK
  rw [alloc_eq_grow, ahead_grow, putRowK_grow encP 3 _ _ _ _ _ (by simpa using hblk), grow_grow]
end Go.Proofs.YtbokkeooahodaaaGreatDoor

namespace Go.Proofs.YtbokkeooahodaaaGreatDoor
open Go.RowKit Go.Shelf Go.Lib Go.Sort
set_option linter.unusedVariables false

def porOf (t : Int) (ws : List Int) (j : Nat) : Por := ⟨j, quoI t ws j, rstI t ws j⟩
def porArr (t : Int) (ws : List Int) : Array Por := ((List.range ws.length).map (porOf t ws)).toArray
theorem porArr_size (t : Int) (ws : List Int) : (porArr t ws).size = ws.length := by simp [porArr]
theorem porArr_get (t : Int) (ws : List Int) (j : Nat) (h : j < ws.length) : (porArr t ws)[j]! = porOf t ws j := by
  simp [porArr, h]

theorem sorted_at (t : Int) (ws : List Int) (d' : Array Por) (hp : PermIn 0 ws.length (porArr t ws) d') (hs : SortedIn (ltOf cmpP) 0 ws.length d') (p : Nat) (h : p < ws.length) :
    ∃ j, j < ws.length ∧ d'[p]! = porOf t ws j ∧ rank (rstI t ws) ws.length j = p := by
  obtain ⟨h1, _, h3⟩ := hp
  rw [porArr_size] at h1
  have hperm : d'.toList.Perm ((List.range ws.length).map (porOf t ws)) := by
    have e1 : (d'.extract 0 ws.length).toList = d'.toList := by rw [← h1]; simp
    have e2 : ((porArr t ws).extract 0 ws.length).toList = (List.range ws.length).map (porOf t ws) := by
      rw [show ws.length = (porArr t ws).size from (porArr_size t ws).symm, Array.extract_size]
      simp [porArr]
    rw [e1, e2] at h3
    exact h3
  have hmem : ∀ i (hi : i < d'.size), ∃ j, j < ws.length ∧ d'[i] = porOf t ws j := by
    intro i hi
    have : d'[i] ∈ d'.toList := by simp
    obtain ⟨j, hj, e⟩ := List.mem_map.1 (hperm.mem_iff.1 this)
    exact ⟨j, List.mem_range.1 hj, e.symm⟩
  have hl : (d'.toList.map fun x => x.index.toNat).Perm (List.range ws.length) := by
    have := hperm.map fun x => x.index.toNat
    rwa [List.map_map, show (List.range ws.length).map ((fun x : Por => x.index.toNat) ∘ porOf t ws) = List.range ws.length from by
      conv => rhs; rw [← List.map_id (List.range ws.length)]
      apply List.map_congr_left; intro j _; simp [porOf]] at this
  have hlen : (d'.toList.map fun x => x.index.toNat).length = ws.length := by simp [h1]
  have hr := rank_of_sorted (rstI t ws) ws.length _ hl (by
    intro i j hi hj hij
    rw [hlen] at hi hj
    have h4 := hs i j (Nat.zero_le _) hij hj
    obtain ⟨a, ha, ea⟩ := hmem i (by omega)
    obtain ⟨b, hb, eb⟩ := hmem j (by omega)
    rw [getElem!_pos d' i (by omega), getElem!_pos d' j (by omega), ltP, ea, eb] at h4
    simp only [List.getElem_map, Array.getElem_toList, ea, eb]
    rw [← h4]
    rw [Bool.eq_iff_iff]
    simp [bef, porOf]
    exact decide_eq_true_iff) p (by omega)
  obtain ⟨j, hj, e⟩ := hmem p (by omega)
  refine ⟨j, hj, by rw [getElem!_pos d' p (by omega), e], ?_⟩
  simp only [List.getElem_map, Array.getElem_toList, e] at hr
  simpa [porOf] using hr

theorem holds_porArr (t : Int) (ws : List Int) (w : World) (g : Nat) (hc : ∀ j, j < ws.length → w.cell? ⟨g, j * 3, none⟩ = some (.int .i64 j) ∧ w.cell? ⟨g, j * 3 + 1, none⟩ = some (.int .u64 (quoI t ws j)) ∧ w.cell? ⟨g, j * 3 + 2, none⟩ = some (.int .u64 (rstI t ws j)))
    (hf : ∀ o, w.frozen? ⟨g, o, none⟩ = false) : HoldsK encP 3 w g 0 (porArr t ws) := by
  intro i hi
  rw [size_flatK, porArr_size] at hi
  rw [get_flatK _ _ _ _ (by rw [porArr_size]; exact hi), porArr_get t ws (i / 3) (by omega)]
  refine ⟨?_, hf _⟩
  obtain ⟨c0, c1, c2⟩ := hc (i / 3) (by omega)
  have hm : i % 3 = 0 ∨ i % 3 = 1 ∨ i % 3 = 2 := by omega
  rcases hm with e | e | e
  · rw [e, show 0 + i = i / 3 * 3 by omega, c0]; rfl
  · rw [e, show 0 + i = i / 3 * 3 + 1 by omega, c1]; rfl
  · rw [e, show 0 + i = i / 3 * 3 + 2 by omega, c2]; rfl

theorem holdsK_cells (w : World) (g : Nat) (d : Array Por) (h : HoldsK encP 3 w g 0 d) (i : Nat) (hi : i < d.size) :
    w.cell? ⟨g, i * 3, none⟩ = some (.int .i64 d[i]!.index) ∧ w.cell? ⟨g, i * 3 + 1, none⟩ = some (.int .u64 d[i]!.share) ∧ w.cell? ⟨g, i * 3 + 2, none⟩ = some (.int .u64 d[i]!.rest) := by
  have h1 : ∀ c, c < 3 → w.cell? ⟨g, 0 + (i * 3 + c), none⟩ = some ((encP d[i]!)[c]!) := by
    intro c hc
    have := (h (i * 3 + c) (by rw [size_flatK]; omega)).1
    rw [this, get_flatK _ _ _ _ (by omega), show (i * 3 + c) / 3 = i by omega, show (i * 3 + c) % 3 = c by omega]
    rfl
  have a := h1 0 (by omega)
  have b := h1 1 (by omega)
  have c := h1 2 (by omega)
  rw [Nat.zero_add] at a b c
  exact ⟨a, b, c⟩

theorem sorted_world (w0 w : World) (g n m : Nat) (d d' : Array Por) (os : Array Obj) (hb : RowKit.Below w0.heap.size w0 w) (hg : w0.heap.size ≤ g) (hg' : g < w.heap.size) (hH : HoldsK encP 3 w g 0 d) (hs : d'.size = d.size) :
    RowKit.Below w0.heap.size w0 (sortWorldK encP 3 w g 0 m d' os) ∧ HoldsK encP 3 (sortWorldK encP 3 w g 0 m d' os) g 0 d' ∧ g < (sortWorldK encP 3 w g 0 m d' os).heap.size := by
  have hsz : (putRowK encP 3 (Sort.ahead w m) g 0 d').heap.size = w.heap.size := by simp [putRowK]
  refine ⟨⟨hb.os, hb.tape, hb.output, ?_, fun k hk => ?_⟩, ?_, ?_⟩
  · have := hb.size
    simp [sortWorldK, hsz]
    omega
  · have h1 : (sortWorldK encP 3 w g 0 m d' os).heap[k]? = (putRowK encP 3 (Sort.ahead w m) g 0 d').heap[k]? := heap_grow_old _ _ (by rw [hsz]; omega)
    rw [h1, ← hb.block k hk]
    simp only [putRowK, putRow, mapBlock, heap_ahead]
    rw [Array.getElem?_modify, if_neg (by omega)]
  · unfold sortWorldK
    exact holdsK_grow encP 3 _ _ _ _ _ (by rw [hsz]; exact hg') (holdsK_putRowK encP 3 _ _ _ _ _ (holdsK_ahead encP 3 w m g 0 d hH) hs)
  · simp [sortWorldK, hsz]
    omega

end Go.Proofs.YtbokkeooahodaaaGreatDoor

namespace Go.Proofs.YtbokkeooahodaaaGreatDoor
open Go.RowKit Go.Shelf Go.Lib Go.Sort
set_option linter.unusedVariables false

theorem infoP : (Tryz.prog.info? 192).map (fun i => (i.zero, i.size, i.bytes)) = some (some (.agg #[.int .i64 0, .int .u64 0, .int .u64 0]), 3, 24) := by kernel_rfl
theorem infoI : (Tryz.prog.info? 3).map (fun i => (i.zero, i.size, i.bytes)) = some (some (.int .i64 0), 1, 8) := by kernel_rfl

def PorRow (cs : Array Value) (t : Int) (ws : List Int) (k : Nat) : Prop :=
  cs.size = ws.length * 3 ∧ ∀ j, j < k → cs[j * 3]? = some (.int .i64 j) ∧ cs[j * 3 + 1]? = some (.int .u64 (quoI t ws j)) ∧ cs[j * 3 + 2]? = some (.int .u64 (rstI t ws j))

set_option maxHeartbeats 1000000 in
theorem share_err (t : Int) (A : Option Addr) (n c : Nat) (xs : List Int) (w : World) (h : Ints w A n xs) (hm : n ≤ 9223372036854775807) (he : chkErr t xs ≠ 0) :
    Calls Tryz.prog 54 #[.int .i64 t, .slice A n c] w fun e w' => e = .returned (.tuple #[.slice none 0 0, .int .i64 (chkErr t xs)]) ∧ w = w' := by
  have HC := Lib.hid (fun w h => check_any t A n c xs w h hm)
  have hb : (chkErr t xs != 0) = true := by simpa using he
  clear he
  generalize chkErr t xs = er at *
  go_enter Tryz.func54, Tryz.ntmps54
  go_wp2_with (go_at_call 73; refine (HC.out _ h).mono ?_; rintro e w' ⟨rfl, rfl⟩)
  go_ret2
  exact ⟨rfl, rfl⟩

theorem divOut_down (N c : Int) (hN : 0 ≤ N) (hc : 0 < c) (h : N / c ≤ 18446744073709551615) : divOut N c 0 = (N / c, 0) := by
  have h1 : ¬ c ≤ N / 18446744073709551616 := by
    intro h2
    have h3 : N < (N / c + 1) * c := by
      have := Int.mul_ediv_add_emod N c
      have := Int.emod_lt_of_pos N hc
      rw [Int.add_mul, Int.mul_comm (N / c)]
      omega
    have h4 : (N / c + 1) * c ≤ 18446744073709551616 * c := Int.mul_le_mul_of_nonneg_right (by omega) (by omega)
    omega
  have h2 : ¬ c = 0 := by omega
  simp [divOut, h1, h2, raisedB]

theorem getD_le_sum (ws : List Int) (h : NonNeg ws) (i : Nat) (hi : i < ws.length) : ws.getD i 0 ≤ ws.sum := by
  rw [← sumN_list]
  exact sumN_le_all (f := fun i => ws.getD i 0) (fun i _ => h i) i hi

theorem wt_le_wsum (ws : List Int) (h : NonNeg ws) (i : Nat) (hi : i < ws.length) : wt ws i ≤ wsum ws := by
  unfold wt wsum
  by_cases h0 : ws.sum = 0
  · simp [h0]; omega
  · simp only [h0, if_false]; exact getD_le_sum ws h i hi

theorem quo_le (t : Int) (ws : List Int) (ht : 0 ≤ t) (h : NonNeg ws) (i : Nat) (hi : i < ws.length) : quoI t ws i ≤ t := by
  have h1 := wt_le_wsum ws h i hi
  have h2 := wsum_pos h (by omega)
  unfold quoI
  have h3 : t * wt ws i / wsum ws < t + 1 := by
    rw [Int.ediv_lt_iff_lt_mul h2, Int.add_mul]
    have : t * wt ws i ≤ t * wsum ws := Int.mul_le_mul_of_nonneg_left h1 ht
    omega
  omega

theorem sum_quo_bounds (t : Int) (ws : List Int) (ht : 0 ≤ t) (h : NonNeg ws) (k : Nat) (hk : k ≤ ws.length) (hn : 0 < ws.length) : 0 ≤ sumN k (quoI t ws) ∧ sumN k (quoI t ws) ≤ t := by
  refine ⟨sumN_nonneg fun i _ => quo_nonneg h ht hn i, ?_⟩
  have h1 : ∀ m, sumN k (quoI t ws) ≤ sumN (k + m) (quoI t ws) := by
    intro m
    induction m with
    | zero => exact Int.le_refl _
    | succ m ih => rw [← Nat.add_assoc, sumN_succ]; have := quo_nonneg h ht hn (k + m); omega
  have h2 := h1 (ws.length - k)
  rw [show k + (ws.length - k) = ws.length by omega] at h2
  have h3 := left_nonneg (t := t) h hn
  unfold leftI at h3
  omega

theorem PorRow.put {cs : Array Value} {t : Int} {ws : List Int} {k : Nat} (h : PorRow cs t ws k) (hk : k < ws.length) :
    PorRow (((cs.setIfInBounds (k * 3) (.int .i64 k)).setIfInBounds (k * 3 + 1) (.int .u64 (quoI t ws k))).setIfInBounds (k * 3 + 2) (.int .u64 (rstI t ws k))) t ws (k + 1) := by
  have hs := h.1
  refine ⟨by simpa using hs, fun j hj => ?_⟩
  by_cases e : j = k
  · subst e
    simp [Array.getElem?_setIfInBounds]
    omega
  · have := h.2 j (by omega)
    simp only [Array.getElem?_setIfInBounds, Array.size_setIfInBounds]
    refine ⟨?_, ?_, ?_⟩
    · rw [if_neg (by omega), if_neg (by omega), if_neg (by omega)]; exact this.1
    · rw [if_neg (by omega), if_neg (by omega), if_neg (by omega)]; exact this.2.1
    · rw [if_neg (by omega), if_neg (by omega), if_neg (by omega)]; exact this.2.2

theorem Bl.three {w : World} {g : Nat} {T : TypeId} {cs : Array Value} (h : Bl w g T cs) (o : Nat) (ho : o + 2 < cs.size) :
    (∃ v, w.cell? ⟨g, o, none⟩ = some v) ∧ (∃ v, w.cell? ⟨g, o + 1, none⟩ = some v) ∧ (∃ v, w.cell? ⟨g, o + 2, none⟩ = some v) ∧ w.frozen? ⟨g, o, none⟩ = false ∧ w.frozen? ⟨g, o + 1, none⟩ = false ∧ w.frozen? ⟨g, o + 2, none⟩ = false :=
  ⟨⟨_, (h.cell o).trans (Array.getElem?_eq_getElem (by omega))⟩, ⟨_, (h.cell (o + 1)).trans (Array.getElem?_eq_getElem (by omega))⟩, ⟨_, (h.cell (o + 2)).trans (Array.getElem?_eq_getElem (by omega))⟩, h.free _, h.free _, h.free _⟩

def ResRow (rs : Array Value) (t : Int) (ws : List Int) (p : Nat) : Prop :=
  rs.size = ws.length ∧ ∀ j, j < ws.length → rs[j]? = some (.int .i64 (if rank (rstI t ws) ws.length j < p then shareI t ws j else 0))

theorem ResRow.put {rs : Array Value} {t : Int} {ws : List Int} {p j : Nat} {q : Int} (h : ResRow rs t ws p) (hj : j < ws.length) (hr : rank (rstI t ws) ws.length j = p) (hq : shareI t ws j = q) :
    ResRow (rs.setIfInBounds j (.int .i64 q)) t ws (p + 1) := by
  refine ⟨by simpa using h.1, fun i hi => ?_⟩
  rw [Array.getElem?_setIfInBounds]
  by_cases e : j = i
  · subst e
    rw [if_pos rfl, if_pos (by rw [h.1]; exact hj), if_pos (by omega), hq]
  · rw [if_neg e, h.2 i hi]
    have : rank (rstI t ws) ws.length i ≠ p := fun e2 => e (rank_inj (rstI t ws) ws.length j i hj hi (by omega))
    by_cases h2 : rank (rstI t ws) ws.length i < p
    · rw [if_pos h2, if_pos (by omega)]
    · rw [if_neg h2, if_neg (by omega)]

set_option maxHeartbeats 1000000 in
theorem share_ok (t : Int) (A : Option Addr) (n c : Nat) (xs : List Int) (w : World) (h : Ints w A n xs) (hn : n ≤ 1000) (h0 : chkErr t xs = 0) (ht0 : 0 ≤ t) (ht : t ≤ 1000000000000) (ha : AllIn xs) (hs : xs.sum ≠ 0) (W : Int) (HW : Hid (xs.sum = W)) (HWs : Hid (wsum xs = W)) (hW : 0 < W) (hW' : W ≤ 1000000000000000) :
    Calls Tryz.prog 54 #[.int .i64 t, .slice A n c] w fun e w' => ∃ g, e = .returned (.tuple #[.slice (some ⟨g, 0, none⟩) n n, .int .i64 0]) ∧ w.heap.size ≤ g ∧ w'.ownsRow w.heap.size 3 1 (.slice (some ⟨g, 0, none⟩) n n) n ((shareL t xs).map (Value.int .i64)) ∧ Below w.heap.size w w' := by
  have HC := Lib.hid (fun w h => check_any t A n c xs w h (by omega))
  rw [h0] at HC
  clear h0
  have HS := Lib.hid (fun w h => sumOf_any A n c xs w h hn ha)
  obtain ⟨C1, HC1, hmk1⟩ := make_any (P := Tryz.prog) 188 192 _ 3 24 n Tryz.underlying188 infoP (by omega) (by omega)
  obtain ⟨C2, HC2, hmk2⟩ := make_any (P := Tryz.prog) 22 3 _ 1 8 n Tryz.underlying22 infoI (by omega) (by omega)
  have HN := Lib.hid (show NonNeg xs from fun i => (ha i).1)
  have HL := Lib.hid h.1
  rw [HW.out] at HS
  have hb : (W == 0) = false := by simp; omega
  clear ha
  go_enter Tryz.func54, Tryz.ntmps54
  go_wp2_with (first | (go_at_call 73; refine (HC.out _ h).mono ?_; rintro e w' ⟨rfl, rfl⟩) | (go_at_call 74; refine (HS.out _ h).mono ?_; rintro e w' ⟨rfl, rfl⟩))
  go_loopw [9, 38] (fun l i wr => ∃ (k : Nat) (cs : Array Value), k ≤ n ∧ i = .int .i64 k ∧ l = .int .i64 (t - sumN k (quoI t xs)) ∧ Bl wr w.heap.size 192 cs ∧ PorRow cs t xs k ∧ Below w.heap.size w wr) (fun _ i _ => n - (intOf i).toNat)
  case atStart => exact ⟨0, C1, Nat.zero_le _, rfl, by simp [sumN_zero], Bl.new _ _ _, ⟨by rw [HC1.out.1, HL.out], fun j hj => absurd hj (by omega)⟩, (Below.refl _ _).alloc (Nat.le_refl _) _⟩
  case round =>
    obtain ⟨k, cs, hk, rfl, rfl, HB, HP, hbel⟩ := hrel
    by_cases hlt : k < n
    · obtain ⟨b, off, x, hA, hbw, hc, HX⟩ := h.get hlt
      subst hA
      have hc1 : wr.cell? ⟨b, off + k, none⟩ = some (.int .i64 x) := (hbel.cell (p := ⟨b, off + k, none⟩) hbw).trans hc
      have hqn := quo_nonneg HN.out ht0 (by have := HL.out; omega) k
      have hql := quo_le t xs ht0 HN.out k (by have := HL.out; omega)
      have hx0 : 0 ≤ x := by have := HN.out k; rw [HX.out] at this; exact this
      have hxW : x ≤ W := by have := getD_le_sum xs HN.out k (by have := HL.out; omega); rw [HX.out, HW.out] at this; exact this
      have hwt : wt xs k = x := by rw [← HX.out]; simp [wt, hs]
      have HMD := Lib.hid (fun w => mulDiv_any t x W 0 w ht0 (by omega) hx0 (by omega) (by omega) (by omega))
      have HMM := Lib.hid (fun w => mulMod_any t x W w ht0 (by omega) hx0 (by omega) (by omega) (by omega))
      have eq1 : t * x / W = quoI t xs k := by unfold quoI; rw [hwt, HWs.out]
      have eq2 : t * x % W = rstI t xs k := by unfold rstI; rw [hwt, HWs.out]
      rw [divOut_down _ _ (Int.mul_nonneg ht0 hx0) (by omega) (by rw [eq1]; omega), eq1] at HMD
      rw [eq2] at HMM
      have HP' := HP.put (by have := HL.out; omega)
      have HQ := Lib.hid (sumN_succ k (quoI t xs))
      obtain ⟨hb1, hb2⟩ := sum_quo_bounds t xs ht0 HN.out k (by have := HL.out; omega) (by have := HL.out; omega)
      obtain ⟨hb3, hb4⟩ := sum_quo_bounds t xs ht0 HN.out (k + 1) (by have := HL.out; omega) (by have := HL.out; omega)
      rw [HQ.out] at hb3 hb4
      clear eq1 eq2 hwt
      generalize quoI t xs k = q at *
      generalize rstI t xs k = r at *
      generalize sumN k (quoI t xs) = s at *
      go_wp2_with (first | (go_at_call 93; refine (HMD.out _).mono ?_; rintro e w1 ⟨rfl, hbd1⟩) | (go_at_call 94; refine (HMM.out _).mono ?_; rintro e w2 ⟨rfl, hbd2⟩; have HB2 := (HB.keep hbd1).keep hbd2; obtain ⟨⟨v0, c0⟩, ⟨v1, c1⟩, ⟨v2, c2⟩, z0, z1, z2⟩ := HB2.three (k * 3) (by have := HP.1; have := HL.out; omega)))
      go_roundw
      case rel => exact ⟨k + 1, _, by omega, by go_num, by rw [HQ.out]; go_num, ((HB2.put _ _).put _ _).put _ _, HP', ((((hbel.trans (hbd1.mono hbel.size)).trans (hbd2.mono (Nat.le_trans hbel.size hbd1.size))).setCell (Nat.le_refl _) _).setCell (Nat.le_refl _) _).setCell (Nat.le_refl _) _⟩
      case measure => simp [intOf]; omega
    · obtain rfl : k = n := by omega
      have hH : HoldsK encP 3 wr w.heap.size 0 (porArr t xs) := holds_porArr t xs wr w.heap.size (fun j hj => by
        have := HP.2 j (by have := HL.out; omega)
        exact ⟨(HB.cell _).trans this.1, (HB.cell _).trans this.2.1, (HB.cell _).trans this.2.2⟩) (fun o => HB.free o)
      have hsort := rankSort_any w.heap.size 0 k (porArr t xs) wr hH HB.lt (by rw [porArr_size, HL.out]; omega)
      rw [porArr_size, HL.out] at hsort
      have HSO := Lib.hid hsort
      clear hsort
      go_wp2_with (go_at_call 96; refine HSO.out.mono ?_; rintro e w3 ⟨rfl, d', m, os, hpm, hsd, hw3⟩; have hw3f := sorted_world w wr w.heap.size k m (porArr t xs) d' os hbel (Nat.le_refl _) HB.lt hH hpm.1; rw [← hw3] at hw3f; clear hw3)
      obtain ⟨hbel3, hH3, hg3⟩ := hw3f
      have HPM := Lib.hid hpm
      have HSD := Lib.hid hsd
      have hd' : d'.size = k := by rw [hpm.1, porArr_size, HL.out]
      have HD := Lib.hid hd'
      clear hpm hsd hd' HSO HB HP hbel hH HC HS HC1 hmk1
      have eL : t - sumN k (quoI t xs) = leftI t xs := by unfold leftI; rw [HL.out]
      rw [eL]
      clear eL
      obtain ⟨L, hLe⟩ : ∃ L, leftI t xs = L := ⟨_, rfl⟩
      rw [hLe]
      have HLE := Lib.hid hLe
      clear hLe
      go_loopw [81] (fun i wr2 => ∃ (p : Nat) (rs : Array Value), p ≤ k ∧ i = .int .i64 p ∧ Bl wr2 w3.heap.size 3 rs ∧ ResRow rs t xs p ∧ RowKit.Below w3.heap.size w3 wr2) (fun i _ => k - (intOf i).toNat)
      case atStart => exact ⟨0, C2, Nat.zero_le _, rfl, Bl.new _ _ _, ⟨by rw [HC2.out.1, HL.out]; omega, fun j hj => by rw [HC2.out.2 j (by have := HL.out; omega), if_neg (by omega)]; simp [Value.cells, Nat.mod_one]⟩, (Below.refl _ _).alloc (Nat.le_refl _) _⟩
      case round =>
        obtain ⟨p, rs, hp, rfl, HB, HR, hbel⟩ := hrel
        by_cases hlt2 : p < k
        · obtain ⟨j, hj, ej, hrk⟩ := sorted_at t xs d' (by rw [HL.out]; exact HPM.out) (by rw [HL.out]; exact HSD.out) p (by have := HL.out; omega)
          obtain ⟨c0, c1, c2⟩ := holdsK_cells w3 w.heap.size d' hH3 p (by have := HD.out; omega)
          rw [ej] at c0 c1 c2
          have c0' : wr.cell? ⟨w.heap.size, p * 3, none⟩ = some (.int .i64 j) := (hbel.cell (p := ⟨w.heap.size, p * 3, none⟩) hg3).trans c0
          have c1' : wr.cell? ⟨w.heap.size, p * 3 + 1, none⟩ = some (.int .u64 (quoI t xs j)) := (hbel.cell (p := ⟨w.heap.size, p * 3 + 1, none⟩) hg3).trans c1
          have c2' : wr.cell? ⟨w.heap.size, p * 3 + 2, none⟩ = some (.int .u64 (rstI t xs j)) := (hbel.cell (p := ⟨w.heap.size, p * 3 + 2, none⟩) hg3).trans c2
          clear c0 c1 c2
          have hqn := quo_nonneg HN.out ht0 (by have := HL.out; omega) j
          have hql := quo_le t xs ht0 HN.out j hj
          have hjk : j < k := by have := HL.out; omega
          have HRP := Lib.hid (fun q hq => HR.put (q := q) hj hrk hq)
          have HSH : Hid (shareI t xs j = quoI t xs j + if (p : Int) < L then 1 else 0) := by unfold shareI; rw [hrk, HLE.out]; exact rfl
          have hcj : wr.cell? ⟨w3.heap.size, j, none⟩ = some (.int .i64 0) := by rw [HB.cell, HR.2 j hj, if_neg (by omega)]
          have hfj : wr.frozen? ⟨w3.heap.size, j, none⟩ = false := HB.free j
          have hcj' : ∀ o, (wr.alloc o).cell? ⟨w3.heap.size, j, none⟩ = some (.int .i64 0) := fun o => (World.cell?_alloc_lt _ _ _ HB.lt).trans hcj
          have hfj' : ∀ o, (wr.alloc o).frozen? ⟨w3.heap.size, j, none⟩ = false := fun o => (HB.alloc o).free j
          have hlt3 := HB.lt
          clear ej hrk
          generalize quoI t xs j = q at *
          generalize rstI t xs j = r at *
          by_cases hpL : (p : Int) < L
          · have HE : Hid (shareI t xs j = q + 1) := by rw [HSH.out, if_pos hpL]; exact rfl
            go_wp2
            go_roundw
            case rel => exact ⟨p + 1, _, by omega, by go_num, ((HB.put _ _).put _ _).alloc _, by rw [Array.setIfInBounds_setIfInBounds]; exact HRP.out _ HE.out, ((hbel.setCell (Nat.le_refl _) _).setCell (Nat.le_refl _) _).alloc (by have := hbel.size; simpa [World.setCell] using this) _⟩
            case measure => simp [intOf]; omega
          · have HE : Hid (shareI t xs j = q) := by rw [HSH.out, if_neg hpL]; exact Int.add_zero _
            go_wp2
            go_roundw
            case rel => exact ⟨p + 1, _, by omega, by go_num, (HB.put _ _).alloc _, HRP.out _ HE.out, (hbel.setCell (Nat.le_refl _) _).alloc (by have := hbel.size; simpa [World.setCell] using this) _⟩
            case measure => simp [intOf]; omega
        · obtain rfl : p = k := by omega
          have HF : Hid (∀ i, i < xs.length → rs[i]? = some (.int .i64 (shareI t xs i))) := fun i hi => by rw [HR.2 i hi, if_pos (by have := rank_lt (rstI t xs) xs.length i hi; have := HL.out; omega)]
          go_wp2
          go_ret2
          exact ⟨w3.heap.size, rfl, hbel3.size, HB.own_ints hbel3.size (by rw [HR.1, HL.out]) (by rw [shareL_length, HL.out]) (by omega) (fun i hi => by rw [HF.out i (by have := HL.out; omega), shareL_get t xs i (by have := HL.out; omega)]), hbel3.trans (hbel.mono hbel3.size)⟩
set_option maxHeartbeats 1000000 in
theorem share_okz (t : Int) (A : Option Addr) (n c : Nat) (xs : List Int) (w : World) (h : Ints w A n xs) (hn : n ≤ 1000) (h0 : chkErr t xs = 0) (ht0 : 0 ≤ t) (ht : t ≤ 1000000000000) (ha : AllIn xs) (hs : xs.sum = 0) (HWs : Hid (wsum xs = n)) :
    Calls Tryz.prog 54 #[.int .i64 t, .slice A n c] w fun e w' => ∃ g, e = .returned (.tuple #[.slice (some ⟨g, 0, none⟩) n n, .int .i64 0]) ∧ w.heap.size ≤ g ∧ w'.ownsRow w.heap.size 3 1 (.slice (some ⟨g, 0, none⟩) n n) n ((shareL t xs).map (Value.int .i64)) ∧ Below w.heap.size w w' := by
  have HC := Lib.hid (fun w h => check_any t A n c xs w h (by omega))
  rw [h0] at HC
  clear h0
  have HS := Lib.hid (fun w h => sumOf_any A n c xs w h hn ha)
  obtain ⟨C1, HC1, hmk1⟩ := make_any (P := Tryz.prog) 188 192 _ 3 24 n Tryz.underlying188 infoP (by omega) (by omega)
  obtain ⟨C2, HC2, hmk2⟩ := make_any (P := Tryz.prog) 22 3 _ 1 8 n Tryz.underlying22 infoI (by omega) (by omega)
  have HN := Lib.hid (show NonNeg xs from fun i => (ha i).1)
  have HL := Lib.hid h.1
  rw [hs] at HS
  have HSs := Lib.hid hs
  clear hs
  clear ha
  go_enter Tryz.func54, Tryz.ntmps54
  go_wp2_with (first | (go_at_call 73; refine (HC.out _ h).mono ?_; rintro e w' ⟨rfl, rfl⟩) | (go_at_call 74; refine (HS.out _ h).mono ?_; rintro e w' ⟨rfl, rfl⟩))
  go_loopw [9, 38] (fun l i wr => ∃ (k : Nat) (cs : Array Value), k ≤ n ∧ i = .int .i64 k ∧ l = .int .i64 (t - sumN k (quoI t xs)) ∧ Bl wr w.heap.size 192 cs ∧ PorRow cs t xs k ∧ Below w.heap.size w wr) (fun _ i _ => n - (intOf i).toNat)
  case atStart => exact ⟨0, C1, Nat.zero_le _, rfl, by simp [sumN_zero], Bl.new _ _ _, ⟨by rw [HC1.out.1, HL.out], fun j hj => absurd hj (by omega)⟩, (Below.refl _ _).alloc (Nat.le_refl _) _⟩
  case round =>
    obtain ⟨k, cs, hk, rfl, rfl, HB, HP, hbel⟩ := hrel
    by_cases hlt : k < n
    · obtain ⟨b, off, x, hA, hbw, hc, HX⟩ := h.get hlt
      subst hA
      have hc1 : wr.cell? ⟨b, off + k, none⟩ = some (.int .i64 x) := (hbel.cell (p := ⟨b, off + k, none⟩) hbw).trans hc
      have hqn := quo_nonneg HN.out ht0 (by have := HL.out; omega) k
      have hql := quo_le t xs ht0 HN.out k (by have := HL.out; omega)
      have hwt : wt xs k = 1 := by simp [wt, HSs.out]
      have HMD := Lib.hid (fun w => mulDiv_any t 1 n 0 w ht0 (by omega) (by omega) (by omega) (by omega) (by omega))
      have HMM := Lib.hid (fun w => mulMod_any t 1 n w ht0 (by omega) (by omega) (by omega) (by omega) (by omega))
      have eq1 : t * 1 / n = quoI t xs k := by unfold quoI; rw [hwt, HWs.out]
      have eq2 : t * 1 % n = rstI t xs k := by unfold rstI; rw [hwt, HWs.out]
      rw [divOut_down _ _ (Int.mul_nonneg ht0 (by omega)) (by omega) (by rw [eq1]; omega), eq1] at HMD
      rw [eq2] at HMM
      have HP' := HP.put (by have := HL.out; omega)
      have HQ := Lib.hid (sumN_succ k (quoI t xs))
      obtain ⟨hb1, hb2⟩ := sum_quo_bounds t xs ht0 HN.out k (by have := HL.out; omega) (by have := HL.out; omega)
      obtain ⟨hb3, hb4⟩ := sum_quo_bounds t xs ht0 HN.out (k + 1) (by have := HL.out; omega) (by have := HL.out; omega)
      rw [HQ.out] at hb3 hb4
      clear eq1 eq2 hwt
      generalize quoI t xs k = q at *
      generalize rstI t xs k = r at *
      generalize sumN k (quoI t xs) = s at *
      go_wp2_with (first | (go_at_call 93; refine (HMD.out _).mono ?_; rintro e w1 ⟨rfl, hbd1⟩) | (go_at_call 94; refine (HMM.out _).mono ?_; rintro e w2 ⟨rfl, hbd2⟩; have HB2 := (HB.keep hbd1).keep hbd2; obtain ⟨⟨v0, c0⟩, ⟨v1, c1⟩, ⟨v2, c2⟩, z0, z1, z2⟩ := HB2.three (k * 3) (by have := HP.1; have := HL.out; omega)))
      go_roundw
      case rel => exact ⟨k + 1, _, by omega, by go_num, by rw [HQ.out]; go_num, ((HB2.put _ _).put _ _).put _ _, HP', ((((hbel.trans (hbd1.mono hbel.size)).trans (hbd2.mono (Nat.le_trans hbel.size hbd1.size))).setCell (Nat.le_refl _) _).setCell (Nat.le_refl _) _).setCell (Nat.le_refl _) _⟩
      case measure => simp [intOf]; omega
    · obtain rfl : k = n := by omega
      have hH : HoldsK encP 3 wr w.heap.size 0 (porArr t xs) := holds_porArr t xs wr w.heap.size (fun j hj => by
        have := HP.2 j (by have := HL.out; omega)
        exact ⟨(HB.cell _).trans this.1, (HB.cell _).trans this.2.1, (HB.cell _).trans this.2.2⟩) (fun o => HB.free o)
      have hsort := rankSort_any w.heap.size 0 k (porArr t xs) wr hH HB.lt (by rw [porArr_size, HL.out]; omega)
      rw [porArr_size, HL.out] at hsort
      have HSO := Lib.hid hsort
      clear hsort
      go_wp2_with (go_at_call 96; refine HSO.out.mono ?_; rintro e w3 ⟨rfl, d', m, os, hpm, hsd, hw3⟩; have hw3f := sorted_world w wr w.heap.size k m (porArr t xs) d' os hbel (Nat.le_refl _) HB.lt hH hpm.1; rw [← hw3] at hw3f; clear hw3)
      obtain ⟨hbel3, hH3, hg3⟩ := hw3f
      have HPM := Lib.hid hpm
      have HSD := Lib.hid hsd
      have hd' : d'.size = k := by rw [hpm.1, porArr_size, HL.out]
      have HD := Lib.hid hd'
      clear hpm hsd hd' HSO HB HP hbel hH HC HS HC1 hmk1
      have eL : t - sumN k (quoI t xs) = leftI t xs := by unfold leftI; rw [HL.out]
      rw [eL]
      clear eL
      obtain ⟨L, hLe⟩ : ∃ L, leftI t xs = L := ⟨_, rfl⟩
      rw [hLe]
      have HLE := Lib.hid hLe
      clear hLe
      go_loopw [81] (fun i wr2 => ∃ (p : Nat) (rs : Array Value), p ≤ k ∧ i = .int .i64 p ∧ Bl wr2 w3.heap.size 3 rs ∧ ResRow rs t xs p ∧ RowKit.Below w3.heap.size w3 wr2) (fun i _ => k - (intOf i).toNat)
      case atStart => exact ⟨0, C2, Nat.zero_le _, rfl, Bl.new _ _ _, ⟨by rw [HC2.out.1, HL.out]; omega, fun j hj => by rw [HC2.out.2 j (by have := HL.out; omega), if_neg (by omega)]; simp [Value.cells, Nat.mod_one]⟩, (Below.refl _ _).alloc (Nat.le_refl _) _⟩
      case round =>
        obtain ⟨p, rs, hp, rfl, HB, HR, hbel⟩ := hrel
        by_cases hlt2 : p < k
        · obtain ⟨j, hj, ej, hrk⟩ := sorted_at t xs d' (by rw [HL.out]; exact HPM.out) (by rw [HL.out]; exact HSD.out) p (by have := HL.out; omega)
          obtain ⟨c0, c1, c2⟩ := holdsK_cells w3 w.heap.size d' hH3 p (by have := HD.out; omega)
          rw [ej] at c0 c1 c2
          have c0' : wr.cell? ⟨w.heap.size, p * 3, none⟩ = some (.int .i64 j) := (hbel.cell (p := ⟨w.heap.size, p * 3, none⟩) hg3).trans c0
          have c1' : wr.cell? ⟨w.heap.size, p * 3 + 1, none⟩ = some (.int .u64 (quoI t xs j)) := (hbel.cell (p := ⟨w.heap.size, p * 3 + 1, none⟩) hg3).trans c1
          have c2' : wr.cell? ⟨w.heap.size, p * 3 + 2, none⟩ = some (.int .u64 (rstI t xs j)) := (hbel.cell (p := ⟨w.heap.size, p * 3 + 2, none⟩) hg3).trans c2
          clear c0 c1 c2
          have hqn := quo_nonneg HN.out ht0 (by have := HL.out; omega) j
          have hql := quo_le t xs ht0 HN.out j hj
          have hjk : j < k := by have := HL.out; omega
          have HRP := Lib.hid (fun q hq => HR.put (q := q) hj hrk hq)
          have HSH : Hid (shareI t xs j = quoI t xs j + if (p : Int) < L then 1 else 0) := by unfold shareI; rw [hrk, HLE.out]; exact rfl
          have hcj : wr.cell? ⟨w3.heap.size, j, none⟩ = some (.int .i64 0) := by rw [HB.cell, HR.2 j hj, if_neg (by omega)]
          have hfj : wr.frozen? ⟨w3.heap.size, j, none⟩ = false := HB.free j
          have hcj' : ∀ o, (wr.alloc o).cell? ⟨w3.heap.size, j, none⟩ = some (.int .i64 0) := fun o => (World.cell?_alloc_lt _ _ _ HB.lt).trans hcj
          have hfj' : ∀ o, (wr.alloc o).frozen? ⟨w3.heap.size, j, none⟩ = false := fun o => (HB.alloc o).free j
          have hlt3 := HB.lt
          clear ej hrk
          generalize quoI t xs j = q at *
          generalize rstI t xs j = r at *
          by_cases hpL : (p : Int) < L
          · have HE : Hid (shareI t xs j = q + 1) := by rw [HSH.out, if_pos hpL]; exact rfl
            go_wp2
            go_roundw
            case rel => exact ⟨p + 1, _, by omega, by go_num, ((HB.put _ _).put _ _).alloc _, by rw [Array.setIfInBounds_setIfInBounds]; exact HRP.out _ HE.out, ((hbel.setCell (Nat.le_refl _) _).setCell (Nat.le_refl _) _).alloc (by have := hbel.size; simpa [World.setCell] using this) _⟩
            case measure => simp [intOf]; omega
          · have HE : Hid (shareI t xs j = q) := by rw [HSH.out, if_neg hpL]; exact Int.add_zero _
            go_wp2
            go_roundw
            case rel => exact ⟨p + 1, _, by omega, by go_num, (HB.put _ _).alloc _, HRP.out _ HE.out, (hbel.setCell (Nat.le_refl _) _).alloc (by have := hbel.size; simpa [World.setCell] using this) _⟩
            case measure => simp [intOf]; omega
        · obtain rfl : p = k := by omega
          have HF : Hid (∀ i, i < xs.length → rs[i]? = some (.int .i64 (shareI t xs i))) := fun i hi => by rw [HR.2 i hi, if_pos (by have := rank_lt (rstI t xs) xs.length i hi; have := HL.out; omega)]
          go_wp2
          go_ret2
          exact ⟨w3.heap.size, rfl, hbel3.size, HB.own_ints hbel3.size (by rw [HR.1, HL.out]) (by rw [shareL_length, HL.out]) (by omega) (fun i hi => by rw [HF.out i (by have := HL.out; omega), shareL_get t xs i (by have := HL.out; omega)]), hbel3.trans (hbel.mono hbel3.size)⟩
end Go.Proofs.YtbokkeooahodaaaGreatDoor

namespace Go.Proofs.YtbokkeooahodaaaGreatDoor
open Go.RowKit
set_option linter.unusedVariables false

def SlRes (w : World) (er : Int) (out : List Int) (e : Ending) (w' : World) : Prop :=
  ∃ A n c, e = .returned (.tuple #[.slice A n c, .int .i64 er]) ∧ w'.ownsRow w.heap.size 3 1 (.slice A n c) n (out.map (Value.int .i64)) ∧ RowKit.Below w.heap.size w w'

def shareOut (t : Int) (ws : List Int) : List Int := if chkErr t ws = 0 then shareL t ws else []

theorem own_nil (w : World) (b : Nat) (T : TypeId) : w.ownsRow b T 1 (.slice none 0 0) 0 ([].map (Value.int .i64)) := ⟨by simp, .inl ⟨rfl, rfl⟩⟩

theorem chk_zero {t : Int} {ws : List Int} (h : chkErr t ws = 0) : ws.length ≤ 1000 ∧ 0 ≤ t ∧ t ≤ 1000000000000 ∧ AllIn ws ∧ (ws.length = 0 → t = 0) := by
  unfold chkErr at h
  split at h
  · omega
  · split at h
    · omega
    · split at h
      · rename_i h3
        split at h
        · omega
        · exact ⟨by omega, by omega, by omega, h3, by omega⟩
      · omega

theorem share_any (t : Int) (A : Option Addr) (n c : Nat) (xs : List Int) (w : World) (h : Ints w A n xs) (hm : n ≤ 9223372036854775807) :
    Calls Tryz.prog 54 #[.int .i64 t, .slice A n c] w (SlRes w (chkErr t xs) (shareOut t xs)) := by
  by_cases he : chkErr t xs = 0
  · obtain ⟨h1, h2, h3, h4, h5⟩ := chk_zero he
    have hl := h.1
    have hN : NonNeg xs := fun i => (h4 i).1
    unfold shareOut
    rw [if_pos he, he]
    by_cases hs : xs.sum = 0
    · refine (share_okz t A n c xs w h (by omega) he h2 h3 h4 hs (Lib.hid (by rw [← hl]; simp [wsum, hs]))).mono ?_
      rintro e w' ⟨g, rfl, _, ho, hb⟩
      exact ⟨_, _, _, rfl, ho, hb⟩
    · have hw : wsum xs = xs.sum := by simp [wsum, hs]
      have hp := sum_nonneg hN
      have hb := (sum_take_bound xs 1000000000000 h4 xs.length (Nat.le_refl _)).2
      rw [List.take_length] at hb
      refine (share_ok t A n c xs w h (by omega) he h2 h3 h4 hs xs.sum rfl hw (by omega) (by omega)).mono ?_
      rintro e w' ⟨g, rfl, _, ho, hb⟩
      exact ⟨_, _, _, rfl, ho, hb⟩
  · unfold shareOut
    rw [if_neg he]
    refine (share_err t A n c xs w h hm he).mono ?_
    rintro e w' ⟨rfl, rfl⟩
    exact ⟨_, _, _, rfl, own_nil _ _ _, Below.refl _ _⟩

end Go.Proofs.YtbokkeooahodaaaGreatDoor

namespace Go.Proofs.YtbokkeooahodaaaGreatDoor
open Go.RowKit
set_option linter.unusedVariables false

def PRow (cs : Array Value) (n : Nat) (f : Nat → Int) : Prop := n ≤ cs.size ∧ ∀ j, j < n → cs[j]? = some (.int .i64 (f j))
section
variable {cs : Array Value} {n : Nat} {f g : Nat → Int}
theorem PRow.congr (h : PRow cs n f) (e : ∀ j, j < n → f j = g j) : PRow cs n g := ⟨h.1, fun j hj => by rw [h.2 j hj, e j hj]⟩
theorem PRow.set (h : PRow cs n f) (i : Nat) (v : Int) (hi : i < n) (e : ∀ j, j < n → g j = if j = i then v else f j) : PRow (cs.setIfInBounds i (.int .i64 v)) n g := by
  refine ⟨by simpa using h.1, fun j hj => ?_⟩
  have h1 := h.1
  rw [Array.getElem?_setIfInBounds, e j hj]
  by_cases e2 : i = j
  · subst e2
    rw [if_pos rfl, if_pos (by omega), if_pos rfl]
  · rw [if_neg e2, if_neg (fun x => e2 x.symm), h.2 j hj]
theorem PRow.cell {w : World} {b : Nat} {t : TypeId} (h : PRow cs n f) (hb : Bl w b t cs) {j : Nat} (hj : j < n) : w.cell? ⟨b, j, none⟩ = some (.int .i64 (f j)) := (hb.cell j).trans (h.2 j hj)
theorem PRow.own {w : World} {b base c : Nat} {t : TypeId} (h : PRow cs n f) (hb : Bl w b t cs) (hg : base ≤ b) (hc : cs.size = c) (hm : c ≤ 9223372036854775807) : w.ownsRow base t 1 (.slice (some ⟨b, 0, none⟩) n c) n (((List.range n).map f).map (Value.int .i64)) := by
  have h1 := h.1
  refine ⟨by simp, .inr ⟨b, c, cs, rfl, hg, hb, by omega, by unfold maxLen; omega, by omega, ?_⟩⟩
  apply List.ext_getElem?
  intro i
  by_cases hi : i < n
  · rw [List.getElem?_take, if_pos (by omega), Array.getElem?_toList, h.2 i hi]
    simp [hi]
  · rw [List.getElem?_eq_none (by simp; omega), List.getElem?_eq_none (by simp; omega)]
end

theorem own_len {w : World} {base : Nat} {t : TypeId} {v : Value} {n : Nat} {xs : List Int} (h : w.ownsRow base t 1 v n (xs.map (Value.int .i64))) : xs.length = n := by have := h.1; simpa using this

theorem one_ints (k : IntKind) (xs : List Int) : ∀ u ∈ xs.map (Value.int k), u.oneCell' = true := fun u hu => by
  obtain ⟨x, _, rfl⟩ := List.mem_map.1 hu
  rfl

theorem own_mono {w : World} {base base' : Nat} {e : TypeId} {size : Nat} {v : Value} {n : Nat} {xs : List Value} (h : w.ownsRow base e size v n xs) (hb : base' ≤ base) : w.ownsRow base' e size v n xs := by
  refine ⟨h.1, ?_⟩
  rcases h.2 with h1 | ⟨g, cap, cur, h1, h2, h3⟩
  · exact .inl h1
  · exact .inr ⟨g, cap, cur, h1, by omega, h3⟩

theorem lit_ints (w : World) (T : TypeId) (xs : List Int) : Ints (w.alloc (.cells (xs.map (Value.int .i64)).toArray T)) (some ⟨w.heap.size, 0, none⟩) xs.length xs :=
  (Bl.new w T _).ints fun i hi => by simp [List.getElem?_eq_getElem hi, List.getD]

theorem tmod_bounds (x m : Int) (hm : 0 < m) : -m < x.tmod m ∧ x.tmod m < m := by
  rcases Int.lt_or_le x 0 with h | h
  · have h1 : x.tmod m = -((-x).tmod m) := by rw [Int.neg_tmod, Int.neg_neg]
    have h2 : (-x).tmod m = (-x) % m := Int.tmod_eq_emod_of_nonneg (by omega)
    have h3 := Int.emod_nonneg (-x) (show m ≠ 0 by omega)
    have h4 := Int.emod_lt_of_pos (-x) hm
    omega
  · have h2 : x.tmod m = x % m := Int.tmod_eq_emod_of_nonneg h
    have h3 := Int.emod_nonneg x (show m ≠ 0 by omega)
    have h4 := Int.emod_lt_of_pos x hm
    omega
end Go.Proofs.YtbokkeooahodaaaGreatDoor

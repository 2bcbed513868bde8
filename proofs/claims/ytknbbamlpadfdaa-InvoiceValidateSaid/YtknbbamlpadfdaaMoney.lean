/-
  Contracts of money.within, isAmount and Scale (the latter at the denominator Million and the mode HalfUp). No statement of the seat is proved here. Conditions: the numbers are in range.
-/
import Derived.Test.YtknbbamlpadfdaaStrs
import Derived.Test.YtknbbamlpadfdaaGenB
namespace Go.Proofs.Ytknbbamlpadfdaa
open Go.RowKit
set_option linter.unusedVariables false

def allB (lo hi : Int) (xs : List Int) : Bool := xs.all fun x => decide (lo ≤ x ∧ x ≤ hi)
theorem allB_bad {lo hi : Int} {xs : List Int} (k : Nat) (hk : k < xs.length) (h : ¬ (lo ≤ xs.getD k 0 ∧ xs.getD k 0 ≤ hi)) : allB lo hi xs = false := by
  unfold allB
  rw [List.all_eq_false]
  refine ⟨xs.getD k 0, ?_, by simpa using h⟩
  rw [List.getD, List.getElem?_eq_getElem hk]
  exact List.getElem_mem hk
theorem allB_ok {lo hi : Int} {xs : List Int} (h : ∀ i, i < xs.length → lo ≤ xs.getD i 0 ∧ xs.getD i 0 ≤ hi) : allB lo hi xs = true := by
  unfold allB
  rw [List.all_eq_true]
  intro x hx
  obtain ⟨i, hi, rfl⟩ := List.getElem_of_mem hx
  have := h i hi
  rw [List.getD, List.getElem?_eq_getElem hi] at this
  simpa using this
theorem allB_one (lo hi x : Int) : allB lo hi [x] = decide (lo ≤ x ∧ x ≤ hi) := by simp [allB]

set_option maxHeartbeats 1000000 in
theorem mwithin_any (lo hi : Int) (A : Option Addr) (n c : Nat) (xs : List Int) (w : World) (h : Ints w A n xs) (hm : n ≤ 9223372036854775807) :
    Calls Try.prog 51 #[.int .i64 lo, .int .i64 hi, .slice A n c] w fun e w' => e = .returned (.bool (allB lo hi xs)) ∧ w = w' := by
  have HL := Lib.hid h.1
  go_enter Try.func51, Try.ntmps51
  go_wp2
  go_loop [11] (fun i => ∃ k : Nat, k ≤ n ∧ i = .int .i64 k ∧ Hid (∀ j, j < k → lo ≤ xs.getD j 0 ∧ xs.getD j 0 ≤ hi)) (fun i => n - (intOf i).toNat)
  case atStart => exact ⟨0, Nat.zero_le _, rfl, fun j hj => absurd hj (by omega)⟩
  case round =>
    obtain ⟨k, hk, rfl, HA⟩ := hrel
    by_cases hlt : k < n
    · obtain ⟨b, off, x, rfl, _, hc, HX⟩ := h.get hlt
      by_cases g1 : x < lo
      · have d1 : decide (x < lo) = true := by simpa using g1
        have E := Lib.hid (allB_bad (lo := lo) (hi := hi) (xs := xs) k (by have := HL.out; omega) (by rw [HX.out]; omega))
        go_wp2
        go_ret
        exact ⟨ret_bool E.out.symm, rfl⟩
      have d1 : decide (x < lo) = false := by simpa using g1
      by_cases g2 : hi < x
      · have d2 : decide (hi < x) = true := by simpa using g2
        have E := Lib.hid (allB_bad (lo := lo) (hi := hi) (xs := xs) k (by have := HL.out; omega) (by rw [HX.out]; omega))
        go_wp2
        go_ret
        exact ⟨ret_bool E.out.symm, rfl⟩
      have d2 : decide (hi < x) = false := by simpa using g2
      have HA' : Hid (∀ j, j < k + 1 → lo ≤ xs.getD j 0 ∧ xs.getD j 0 ≤ hi) := fun j hj => by
        by_cases e : j = k
        · subst e; rw [HX.out]; omega
        · exact HA.out j (by omega)
      go_wp2
      go_round
      case rel => exact ⟨k + 1, by omega, by go_num, HA'.out⟩
      case measure => simp [intOf]; omega
    · have E := Lib.hid (allB_ok (lo := lo) (hi := hi) (xs := xs) (fun i hi => HA.out i (by have := HL.out; omega)))
      go_wp2
      go_ret
      exact ⟨ret_bool E.out.symm, rfl⟩

def BRes (w : World) (b : Bool) (e : Ending) (w' : World) : Prop := e = .returned (.bool b) ∧ RowKit.Below w.heap.size w w'

theorem isAmount_any (x : Int) (w : World) : Calls Try.prog 50 #[.int .i64 x] w (BRes w (decide (-1000000000000 ≤ x ∧ x ≤ 1000000000000))) := by
  have HC := Lib.hid (mwithin_any (-1000000000000) 1000000000000 (some ⟨w.heap.size, 0, none⟩) 1 1 [x] _ (lit_ints w 3 [x]) (by omega))
  rw [allB_one] at HC
  generalize decide (-1000000000000 ≤ x ∧ x ≤ 1000000000000) = bb at *
  go_enter Try.func50, Try.ntmps50
  go_wp2_with fail
  refine HC.out.mono ?_
  rintro e w1 ⟨rfl, rfl⟩
  go_wp2
  go_ret
  exact ⟨rfl, (Below.refl _ _).alloc (Nat.le_refl _) _⟩

/-- What Scale returns. -/
def scaleV (amt n : Int) : Int := if scaleErr amt n = 0 then (divOut (amt * n) 1000000 2).1 else 0
/-- A number and an error. -/
def NRes (w : World) (v er : Int) (e : Ending) (w' : World) : Prop := e = .returned (.tuple #[.int .i64 v, .int .i64 er]) ∧ RowKit.Below w.heap.size w w'

set_option maxRecDepth 100000 in
set_option maxHeartbeats 4000000 in
theorem scale_any (amt n : Int) (w : World) (h0 : 0 ≤ amt) (h1 : amt ≤ 1000000000000000000) (hn0 : 0 ≤ n) (hn : n ≤ 1000000000000) :
    Calls Try.prog 37 #[.int .i64 amt, .int .i64 n, .int .i64 1000000, .int .i64 2] w (NRes w (scaleV amt n) (scaleErr amt n)) := by
  have HA := Lib.hid (isAmount_any amt w)
  by_cases hb : 1000000000000 < amt
  · have e1 : scaleErr amt n = 2 := by unfold scaleErr; rw [if_pos hb]
    have e2 : scaleV amt n = 0 := by unfold scaleV; rw [e1, if_neg (by omega)]
    rw [e1, e2]
    rw [show decide (-1000000000000 ≤ amt ∧ amt ≤ 1000000000000) = false by simp; omega] at HA
    clear e1 e2
    go_enter Try.func37, Try.ntmps37
    go_wp2_with fail
    refine HA.out.mono ?_
    rintro e w1 ⟨rfl, hb1⟩
    go_wp2
    go_ret2
    exact ⟨rfl, hb1⟩
  rw [show decide (-1000000000000 ≤ amt ∧ amt ≤ 1000000000000) = true by simp; omega] at HA
  have hp0 : 0 ≤ amt * n := Int.mul_nonneg h0 hn0
  have HW1 : Hid (∀ w : World, Calls Try.prog 51 #[.int .i64 0, .int .i64 1000000000000, .slice (some ⟨w.heap.size, 0, none⟩) 1 1] (w.alloc (.cells #[.int .i64 n] 3)) fun e w' => e = .returned (.bool true) ∧ w.alloc (.cells #[.int .i64 n] 3) = w') := fun w => by
    have := mwithin_any 0 1000000000000 (some ⟨w.heap.size, 0, none⟩) 1 1 [n] _ (lit_ints w 3 [n]) (by omega)
    rw [allB_one, decide_eq_true ⟨hn0, hn⟩] at this
    exact this
  have HW2 : Hid (∀ (w : World) (o : Obj), Calls Try.prog 51 #[.int .i64 1, .int .i64 1000000000000, .slice (some ⟨w.heap.size + 1, 0, none⟩) 1 1] ((w.alloc o).alloc (.cells #[.int .i64 1000000] 3)) fun e w' => e = .returned (.bool true) ∧ (w.alloc o).alloc (.cells #[.int .i64 1000000] 3) = w') := fun w o => by
    have := mwithin_any 1 1000000000000 (some ⟨w.heap.size + 1, 0, none⟩) 1 1 [1000000] _ ((Bl.new1 w o 3 #[.int .i64 1000000]).ints (xs := [1000000]) (fun i hi => by simp at hi; subst hi; rfl)) (by omega)
    rw [allB_one] at this
    exact this
  have HM : Hid (∀ w : World, Calls Try.prog 40 #[.int .u64 amt, .int .u64 n, .int .u64 1000000, .int .i64 2] w fun e w' => e = .returned (.tuple #[.int .u64 (divOut (amt * n) 1000000 2).1, .int .i64 (divOut (amt * n) 1000000 2).2]) ∧ Below w.heap.size w w') := fun w => mulDiv_any amt n 1000000 2 w h0 (by omega) hn0 (by omega) (by omega) (by omega)
  have hd0 := divOut_nonneg (amt * n) 1000000 2 hp0 (by omega)
  have e1 : scaleErr amt n = if (divOut (amt * n) 1000000 2).2 ≠ 0 ∨ 1000000000000 < (divOut (amt * n) 1000000 2).1 then 3 else 0 := by unfold scaleErr; rw [if_neg hb]
  have e2 : scaleV amt n = if scaleErr amt n = 0 then (divOut (amt * n) 1000000 2).1 else 0 := rfl
  have hmax : max amt (-amt) = amt := by omega
  obtain ⟨er, ee⟩ : ∃ er, (divOut (amt * n) 1000000 2).2 = er := ⟨_, rfl⟩
  obtain ⟨q, eq⟩ : ∃ q, (divOut (amt * n) 1000000 2).1 = q := ⟨_, rfl⟩
  rw [ee, eq] at e1 HM
  rw [eq] at e2 hd0
  rw [e2, e1]
  clear e1 e2 ee eq hp0
  have dn : decide (amt < 0) = false := by simp; omega
  by_cases g1 : er = 0
  · subst g1
    by_cases g2 : 1000000000000 < q
    · rw [if_pos (show (0 : Int) ≠ 0 ∨ 1000000000000 < q by omega), if_neg (by omega)]
      have d2 : decide (1000000000000 < q) = true := by simpa using g2
      go_enter Try.func37, Try.ntmps37
      go_wp2_with fail
      refine HA.out.mono ?_
      rintro e w1 ⟨rfl, hb1⟩
      go_wp2_with fail
      refine (HW1.out _).mono ?_
      rintro e w2 ⟨rfl, rfl⟩
      go_wp2_with fail
      refine (HW2.out _ _).mono ?_
      rintro e w3 ⟨rfl, rfl⟩
      go_wp2_with fail
      refine (HM.out _).mono ?_
      rintro e w4 ⟨rfl, hb4⟩
      go_wp2
      go_ret2
      exact ⟨rfl, ((hb1.alloc hb1.size _).alloc (by simp; have := hb1.size; omega) _).trans (hb4.mono (by simp; have := hb1.size; omega))⟩
    · rw [if_neg (show ¬ ((0 : Int) ≠ 0 ∨ 1000000000000 < q) by omega), if_pos rfl]
      have d2 : decide (1000000000000 < q) = false := by simpa using g2
      go_enter Try.func37, Try.ntmps37
      go_wp2_with fail
      refine HA.out.mono ?_
      rintro e w1 ⟨rfl, hb1⟩
      go_wp2_with fail
      refine (HW1.out _).mono ?_
      rintro e w2 ⟨rfl, rfl⟩
      go_wp2_with fail
      refine (HW2.out _ _).mono ?_
      rintro e w3 ⟨rfl, rfl⟩
      go_wp2_with fail
      refine (HM.out _).mono ?_
      rintro e w4 ⟨rfl, hb4⟩
      go_wp2
      go_ret2
      exact ⟨rfl, ((hb1.alloc hb1.size _).alloc (by simp; have := hb1.size; omega) _).trans (hb4.mono (by simp; have := hb1.size; omega))⟩
  · rw [if_pos (show er ≠ 0 ∨ 1000000000000 < q from .inl g1), if_neg (by omega)]
    have b1 : (er != 0) = true := by simpa using g1
    go_enter Try.func37, Try.ntmps37
    go_wp2_with fail
    refine HA.out.mono ?_
    rintro e w1 ⟨rfl, hb1⟩
    go_wp2_with fail
    refine (HW1.out _).mono ?_
    rintro e w2 ⟨rfl, rfl⟩
    go_wp2_with fail
    refine (HW2.out _ _).mono ?_
    rintro e w3 ⟨rfl, rfl⟩
    go_wp2_with fail
    refine (HM.out _).mono ?_
    rintro e w4 ⟨rfl, hb4⟩
    go_wp2
    go_ret2
    exact ⟨rfl, ((hb1.alloc hb1.size _).alloc (by simp; have := hb1.size; omega) _).trans (hb4.mono (by simp; have := hb1.size; omega))⟩
end Go.Proofs.Ytknbbamlpadfdaa

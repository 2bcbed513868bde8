/-
  Contract of the reference's Share (customsref02). No statement of the seat is proved here. Conditions: the list's length fits an int.
-/
import Derived.Test.YtknbbamlpadfdaaRefDiv
import Derived.Test.YtknbbamlpadfdaaWords2
import Derived.Test.YtknbbamlpadfdaaShareAny
namespace Go.Proofs.Ytknbbamlpadfdaa
open Go.RowKit
set_option linter.unusedVariables false

/-- Whether the total or one of the first k weights is out of range. -/
def badK (t : Int) (xs : List Int) : Nat → Bool
  | 0 => decide (t < 0) || decide (1000000000000 < t)
  | k + 1 => badK t xs k || (decide (xs.getD k 0 < 0) || decide (1000000000000 < xs.getD k 0))

theorem badK_false (t : Int) (xs : List Int) (k : Nat) : badK t xs k = false ↔ (0 ≤ t ∧ t ≤ 1000000000000) ∧ ∀ i : Nat, i < k → 0 ≤ xs.getD i 0 ∧ xs.getD i 0 ≤ 1000000000000 := by
  induction k with
  | zero => simp [badK]
  | succ k ih =>
    rw [badK, Bool.or_eq_false_iff, ih]
    constructor
    · rintro ⟨⟨h1, h2⟩, h3⟩
      refine ⟨h1, fun i hi => ?_⟩
      simp at h3
      by_cases e : i = k
      · subst e; simpa [List.getD] using h3
      · exact h2 i (by omega)
    · rintro ⟨h1, h2⟩
      refine ⟨⟨h1, fun i hi => h2 i (by omega)⟩, ?_⟩
      have := h2 k (by omega)
      simp at this ⊢
      omega

theorem badK_all (t : Int) (xs : List Int) : badK t xs xs.length = false ↔ (0 ≤ t ∧ t ≤ 1000000000000) ∧ AllIn xs := by
  rw [badK_false]
  exact ⟨fun h => ⟨h.1, allIn_end xs h.2⟩, fun h => ⟨h.1, fun i _ => h.2 i⟩⟩

/-- The reference's Share where the number of weights, the total or a weight is out of range. -/
theorem chk_bad {t : Int} {xs : List Int} (hn : xs.length ≤ 1000) (h : badK t xs xs.length = true) : chkErr t xs = 2 := by
  unfold chkErr
  rw [if_neg (by omega)]
  by_cases h1 : t < 0 ∨ 1000000000000 < t
  · rw [if_pos h1]
  · rw [if_neg h1, if_neg]
    intro h2
    have := (badK_all t xs).2 ⟨by omega, h2⟩
    rw [h] at this
    cases this

theorem chk_good {t : Int} {xs : List Int} (hn : xs.length ≤ 1000) (h : badK t xs xs.length = false) : chkErr t xs = if xs.length = 0 ∧ 0 < t then 7 else 0 := by
  obtain ⟨h1, h2⟩ := (badK_all t xs).1 h
  unfold chkErr
  rw [if_neg (by omega), if_neg (by omega), if_pos h2]

set_option maxHeartbeats 1000000 in
theorem rshare_long (t : Int) (A : Option Addr) (n c : Nat) (xs : List Int) (w : World) (h : Ints w A n xs) (hm : n ≤ 9223372036854775807) (h1 : 1000 < n) :
    Calls Try.prog 34 #[.int .i64 t, .slice A n c] w (SlRes w (chkErr t xs) (shareOut t xs)) := by
  have E : chkErr t xs = 8 := by unfold chkErr; rw [if_pos (by rw [h.1]; exact h1)]
  have E2 : shareOut t xs = [] := by unfold shareOut; rw [if_neg (by omega)]
  rw [E, E2]
  clear E E2
  go_enter Try.func34, Try.ntmps34
  go_wp2
  go_ret2
  exact ⟨_, _, _, rfl, own_nil _ _ _, Below.refl _ _⟩

set_option maxHeartbeats 1000000 in
/-- The first loop: what is left of the function is asked for at its end. -/
theorem rshare_bad (t : Int) (A : Option Addr) (n c : Nat) (xs : List Int) (w : World) (h : Ints w A n xs) (h1 : n ≤ 1000) (hbad : badK t xs n = true) :
    Calls Try.prog 34 #[.int .i64 t, .slice A n c] w (SlRes w 2 []) := by
  have HL := Lib.hid h.1
  have HB := Lib.hid hbad
  clear hbad
  have d0 : ((decide (t < 0)) || (decide (1000000000000 < t))) = badK t xs 0 := rfl
  have HD := Lib.hid d0
  clear d0
  cases e1 : decide (t < 0) <;> cases e2 : decide (1000000000000 < t)
  all_goals
    go_enter Try.func34, Try.ntmps34
    go_wp2
    go_loop [6, 8] (fun b i => ∃ (k : Nat) (bb : Bool), k ≤ n ∧ i = .int .i64 k ∧ b = .bool bb ∧ Hid (bb = badK t xs k)) (fun _ i => n - (intOf i).toNat)
    case atStart => exact ⟨0, _, Nat.zero_le _, rfl, rfl, by have := HD.out; rw [e1, e2] at this; exact this⟩
    case round =>
      obtain ⟨k, bb, hk, rfl, rfl, HK⟩ := hrel
      by_cases hlt : k < n
      · obtain ⟨b, off, x, rfl, _, hc, HX⟩ := h.get hlt
        have HS : Hid (badK t xs (k + 1) = (bb || (decide (x < 0) || decide (1000000000000 < x)))) := by rw [badK, HX.out, ← HK.out]; exact rfl
        cases bb
        · cases e3 : decide (x < 0) <;> cases e4 : decide (1000000000000 < x)
          all_goals
            rw [e3, e4] at HS
            go_wp2
            go_round
            case rel => exact ⟨k + 1, _, by omega, by go_num, rfl, by rw [HS.out]; exact rfl⟩
            case measure => simp [intOf]; omega
        · go_wp2
          go_round
          case rel => exact ⟨k + 1, _, by omega, by go_num, rfl, by rw [HS.out]; exact rfl⟩
          case measure => simp [intOf]; omega
      · obtain rfl : k = n := by omega
        obtain rfl : bb = true := HK.out.trans HB.out
        go_wp2
        go_ret2
        exact ⟨_, _, _, rfl, own_nil _ _ _, Below.refl _ _⟩
end Go.Proofs.Ytknbbamlpadfdaa

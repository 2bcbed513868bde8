/-
  Contracts of apportion.check and apportion.sumOf. No statement of the seat is proved here. Conditions: the list holds integers of 64 bits.
-/
import Derived.Test.YtknbbamlpadfdaaWords
import Derived.Test.YtknbbamlpadfdaaProg
import Derived.BigQuiet
import Derived.Deep.QuietTactic
import Derived.WalkLawsBesides
namespace Go.Proofs.Ytknbbamlpadfdaa
open Go.RowKit

theorem ret_int {k : IntKind} {a b : Int} (h : a = b) : Ending.returned (.int k a) = .returned (.int k b) := by rw [h]

theorem sum_take_succ (xs : List Int) (k : Nat) (h : k < xs.length) : (xs.take (k + 1)).sum = (xs.take k).sum + xs.getD k 0 := by
  rw [List.take_succ_eq_append_getElem h, List.sum_append]
  simp [List.getD, List.getElem?_eq_getElem h]

theorem sum_take_bound (xs : List Int) (m : Int) (hr : ∀ i : Nat, 0 ≤ xs.getD i 0 ∧ xs.getD i 0 ≤ m) (k : Nat) (hk : k ≤ xs.length) : 0 ≤ (xs.take k).sum ∧ (xs.take k).sum ≤ k * m := by
  induction k with
  | zero => simp
  | succ k ih =>
    have h1 := ih (by omega)
    rw [sum_take_succ xs k (by omega)]
    have h2 := hr k
    rw [Int.natCast_succ, Int.add_mul]
    omega

set_option maxHeartbeats 400000 in
/-- The sum of at most 1000 weights. -/
theorem sumOf_any (A : Option Addr) (n c : Nat) (xs : List Int) (w : World) (h : Ints w A n xs) (hn : n ≤ 1000) (hr : ∀ i : Nat, 0 ≤ xs.getD i 0 ∧ xs.getD i 0 ≤ 1000000000000) :
    Calls Try.prog 39 #[.slice A n c] w fun e w' => e = .returned (.int .i64 xs.sum) ∧ w = w' := by
  have HR := Lib.hid hr
  clear hr
  have hl := Lib.hid h.1
  go_enter Try.func39, Try.ntmps39
  go_wp2
  go_loop [3, 8] (fun s i => ∃ k : Nat, k ≤ n ∧ i = .int .i64 k ∧ s = .int .i64 (xs.take k).sum) (fun _ i => n - (intOf i).toNat)
  case atStart => exact ⟨0, Nat.zero_le _, rfl, by simp⟩
  case round =>
    obtain ⟨k, hk, rfl, rfl⟩ := hrel
    by_cases hlt : k < n
    · obtain ⟨b, off, rfl, _, hc⟩ := h.at_ hlt
      have hb := sum_take_bound xs 1000000000000 HR.out k (by have := hl.out; omega)
      have hb0 := HR.out k
      have HS := Lib.hid (sum_take_succ xs k (by have := hl.out; omega))
      generalize xs.getD k 0 = x at *
      generalize (xs.take k).sum = s at *
      go_wp2
      go_round
      case rel => exact ⟨k + 1, by omega, by go_num, by rw [HS.out]⟩
      case measure => simp [intOf]; omega
    · go_wp2
      go_ret
      exact ⟨ret_int (by rw [List.take_of_length_le (by have := hl.out; omega)]), rfl⟩

/-- Every weight is an amount from 0 on. -/
def AllIn (ws : List Int) : Prop := ∀ i : Nat, 0 ≤ ws.getD i 0 ∧ ws.getD i 0 ≤ 1000000000000
instance (ws : List Int) : Decidable (AllIn ws) := decidable_of_iff (∀ x ∈ ws, 0 ≤ x ∧ x ≤ 1000000000000) (by
  constructor
  · intro h i
    by_cases hi : i < ws.length
    · have := h ws[i] (List.getElem_mem hi)
      simpa [List.getD, List.getElem?_eq_getElem hi] using this
    · simp [List.getD, List.getElem?_eq_none (Nat.le_of_not_lt hi)]
  · intro h x hx
    obtain ⟨i, hi, rfl⟩ := List.mem_iff_getElem.1 hx
    have := h i
    simpa [List.getD, List.getElem?_eq_getElem hi] using this)

/-- The error of Share, as a function. -/
def chkErr (total : Int) (ws : List Int) : Int :=
  if 1000 < ws.length then 8 else if total < 0 ∨ 1000000000000 < total then 2
  else if AllIn ws then (if ws.length = 0 ∧ 0 < total then 7 else 0) else 2

theorem allIn_step (ws : List Int) (k : Nat) (h : ∀ i : Nat, i < k → 0 ≤ ws.getD i 0 ∧ ws.getD i 0 ≤ 1000000000000) (h0 : 0 ≤ ws.getD k 0) (h1 : ws.getD k 0 ≤ 1000000000000) : ∀ i : Nat, i < k + 1 → 0 ≤ ws.getD i 0 ∧ ws.getD i 0 ≤ 1000000000000 := by
  intro i hi
  by_cases e : i = k
  · subst e; exact ⟨h0, h1⟩
  · exact h i (by omega)

theorem allIn_end (ws : List Int) (h : ∀ i : Nat, i < ws.length → 0 ≤ ws.getD i 0 ∧ ws.getD i 0 ≤ 1000000000000) : AllIn ws := by
  intro i
  by_cases hi : i < ws.length
  · exact h i hi
  · simp [List.getD, List.getElem?_eq_none (Nat.le_of_not_lt hi)]

set_option maxHeartbeats 400000 in
theorem check_any (t : Int) (A : Option Addr) (n c : Nat) (xs : List Int) (w : World) (h : Ints w A n xs) (hm : n ≤ 9223372036854775807) :
    Calls Try.prog 38 #[.int .i64 t, .slice A n c] w fun e w' => e = .returned (.int .i64 (chkErr t xs)) ∧ w = w' := by
  have hl := h.1
  by_cases h1 : 1000 < n
  · have E := Lib.hid (show chkErr t xs = 8 by unfold chkErr; rw [if_pos (by omega)])
    clear hl
    go_enter Try.func38, Try.ntmps38
    go_wp2
    go_ret
    exact ⟨ret_int E.out.symm, rfl⟩
  by_cases h2 : t < 0
  · have E := Lib.hid (show chkErr t xs = 2 by unfold chkErr; rw [if_neg (by omega), if_pos (by omega)])
    clear hl
    go_enter Try.func38, Try.ntmps38
    go_wp2
    go_ret
    exact ⟨ret_int E.out.symm, rfl⟩
  by_cases h3 : 1000000000000 < t
  · have E := Lib.hid (show chkErr t xs = 2 by unfold chkErr; rw [if_neg (by omega), if_pos (by omega)])
    clear hl
    go_enter Try.func38, Try.ntmps38
    go_wp2
    go_ret
    exact ⟨ret_int E.out.symm, rfl⟩
  have E : chkErr t xs = if AllIn xs then (if xs.length = 0 ∧ 0 < t then 7 else 0) else 2 := by unfold chkErr; rw [if_neg (by omega), if_neg (by omega)]
  have HE := Lib.hid E
  have HL := Lib.hid hl
  clear hl E
  have hd1 : decide (t < 0) = false := by simpa using h2
  have hd2 : decide (1000000000000 < t) = false := by simpa using h3
  go_enter Try.func38, Try.ntmps38
  go_wp2
  go_loop [6, 18] (fun _ i => ∃ k : Nat, k ≤ n ∧ i = .int .i64 k ∧ Hid (∀ i : Nat, i < k → 0 ≤ xs.getD i 0 ∧ xs.getD i 0 ≤ 1000000000000)) (fun _ i => n - (intOf i).toNat)
  case atStart => exact ⟨0, Nat.zero_le _, rfl, fun i hi => absurd hi (by omega)⟩
  case round =>
    obtain ⟨k, hk, rfl, HA⟩ := hrel
    by_cases hlt : k < n
    · obtain ⟨b, off, x, rfl, _, hc, HX⟩ := h.get hlt
      by_cases g1 : x < 0
      · have g1' : decide (x < 0) = true := by simpa using g1
        go_wp2
        go_ret
        exact ⟨ret_int (by rw [HE.out, if_neg (fun ha => by have := ha k; rw [HX.out] at this; omega)]), rfl⟩
      by_cases g2 : 1000000000000 < x
      · go_wp2
        go_ret
        exact ⟨ret_int (by rw [HE.out, if_neg (fun ha => by have := ha k; rw [HX.out] at this; omega)]), rfl⟩
      have HB := Lib.hid (allIn_step xs k HA.out (by rw [HX.out]; omega) (by rw [HX.out]; omega))
      go_wp2
      go_round
      case rel => exact ⟨k + 1, by omega, by go_num, HB.out⟩
      case measure => simp [intOf]; omega
    · have HB := Lib.hid (allIn_end xs (fun i hi => HA.out i (by have := HL.out; omega)))
      by_cases g1 : n = 0
      · subst g1
        by_cases g2 : 0 < t
        · go_wp2
          go_ret
          exact ⟨ret_int (by rw [HE.out, if_pos HB.out, if_pos ⟨HL.out, g2⟩]), rfl⟩
        · go_wp2
          go_ret
          exact ⟨ret_int (by rw [HE.out, if_pos HB.out, if_neg (fun ha => by omega)]), rfl⟩
      · have g1' : ((n : Int) == 0) = false := by simpa using g1
        go_wp2
        go_ret
        exact ⟨ret_int (by rw [HE.out, if_pos HB.out, if_neg (fun ha => g1 (HL.out.symm.trans ha.1))]), rfl⟩

end Go.Proofs.Ytknbbamlpadfdaa

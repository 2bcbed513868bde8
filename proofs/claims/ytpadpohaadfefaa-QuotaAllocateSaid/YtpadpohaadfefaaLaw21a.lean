/-
  Contracts of the reference's SameGrants and Critical, of quota.Critical and of customslaw21.sum. No statement of the seat is proved here. Conditions: the lists are equal (SameGrants), small (sum).
-/
import Derived.Test.YtpadpohaadfefaaAlloc
namespace Go.Proofs.Ytpadpohaadfefaa
open Go.RowKit
set_option linter.unusedVariables false

set_option maxRecDepth 100000 in
set_option maxHeartbeats 1000000 in
theorem sameG_true (A B : Option Addr) (n c d : Nat) (xs : List (Int × Int)) (w : World) (hA : Recs enc2 2 w A n xs) (hB : Recs enc2 2 w B n xs) (hm : n ≤ 9223372036854775807) :
    Calls Try.prog 32 #[.slice A n c, .slice B n d] w fun e w' => e = .returned (.bool true) ∧ ∃ q, w' = w.drewN q := by
  go_enter Try.func32, Try.ntmps32
  go_wp2
  go_loopw [5] (fun i wr => ∃ k q : Nat, k ≤ n ∧ i = .int .i64 k ∧ wr = w.drewN q) (fun i _ => n - (intOf i).toNat)
  case atStart => exact ⟨0, 0, Nat.zero_le _, rfl, rfl⟩
  case round =>
    obtain ⟨k, q, hk, rfl, rfl⟩ := hrel
    by_cases hlt : k < n
    · obtain ⟨b, off, x, y, rfl, _, hc1, hc2, HX⟩ := hA.get2 hlt
      obtain ⟨b2, off2, x2, y2, rfl, _, hc3, hc4, HX2⟩ := hB.get2 hlt
      obtain ⟨rfl, rfl⟩ : x = x2 ∧ y = y2 := by have := HX.out.symm.trans HX2.out; simpa using this
      have i1 : (0 : Int) ≤ (k : Int) := by omega
      have i2 : (k : Int) < (n : Int) := by omega
      go_wp2
      go_quiet (fail)
      go_wp2
      go_roundw
      case rel => exact ⟨k + 1, _, by omega, by go_num, rfl⟩
      case measure => simp [intOf]; omega
    · go_wp2
      go_ret
      exact ⟨rfl, _, rfl⟩

/-- Whether at least level parts per million of the volume are used. -/
def critB (v l k : Int) : Bool := decide (1 ≤ v ∧ v ≤ 1000000000000 ∧ 0 ≤ l ∧ l ≤ v ∧ 0 ≤ k ∧ k ≤ 1000000 ∧ v * k ≤ (v - l) * 1000000)
theorem crit_false {v l k : Int} (h : ¬ (1 ≤ v ∧ v ≤ 1000000000000 ∧ 0 ≤ l ∧ l ≤ v ∧ 0 ≤ k ∧ k ≤ 1000000)) : critB v l k = false := by
  unfold critB
  rw [decide_eq_false_iff_not]
  intro h2
  exact h ⟨h2.1, h2.2.1, h2.2.2.1, h2.2.2.2.1, h2.2.2.2.2.1, h2.2.2.2.2.2.1⟩

set_option maxRecDepth 100000 in
set_option maxHeartbeats 2000000 in
theorem crit_any (v l k : Int) (w : World) : Calls Try.prog 35 #[.int .i64 v, .int .i64 l, .int .i64 k] w fun e w' => e = .returned (.bool (critB v l k)) ∧ w = w' := by
  by_cases g0 : v < 1
  · have d0 : decide (v < 1) = true := by simpa using g0
    have E := Lib.hid (crit_false (v := v) (l := l) (k := k) (by omega))
    go_enter Try.func35, Try.ntmps35
    go_wp2
    go_ret
    exact ⟨ret_bool E.out.symm, rfl⟩
  have d0 : decide (v < 1) = false := by simpa using g0
  by_cases g1 : 1000000000000 < v
  · have d1 : decide (1000000000000 < v) = true := by simpa using g1
    have E := Lib.hid (crit_false (v := v) (l := l) (k := k) (by omega))
    go_enter Try.func35, Try.ntmps35
    go_wp2
    go_ret
    exact ⟨ret_bool E.out.symm, rfl⟩
  have d1 : decide (1000000000000 < v) = false := by simpa using g1
  by_cases g2 : l < 0
  · have d2 : decide (l < 0) = true := by simpa using g2
    have E := Lib.hid (crit_false (v := v) (l := l) (k := k) (by omega))
    go_enter Try.func35, Try.ntmps35
    go_wp2
    go_ret
    exact ⟨ret_bool E.out.symm, rfl⟩
  have d2 : decide (l < 0) = false := by simpa using g2
  by_cases g3 : v < l
  · have d3 : decide (v < l) = true := by simpa using g3
    have E := Lib.hid (crit_false (v := v) (l := l) (k := k) (by omega))
    go_enter Try.func35, Try.ntmps35
    go_wp2
    go_ret
    exact ⟨ret_bool E.out.symm, rfl⟩
  have d3 : decide (v < l) = false := by simpa using g3
  by_cases g4 : k < 0
  · have d4 : decide (k < 0) = true := by simpa using g4
    have E := Lib.hid (crit_false (v := v) (l := l) (k := k) (by omega))
    go_enter Try.func35, Try.ntmps35
    go_wp2
    go_ret
    exact ⟨ret_bool E.out.symm, rfl⟩
  have d4 : decide (k < 0) = false := by simpa using g4
  by_cases g5 : 1000000 < k
  · have d5 : decide (1000000 < k) = true := by simpa using g5
    have E := Lib.hid (crit_false (v := v) (l := l) (k := k) (by omega))
    go_enter Try.func35, Try.ntmps35
    go_wp2
    go_ret
    exact ⟨ret_bool E.out.symm, rfl⟩
  have d5 : decide (1000000 < k) = false := by simpa using g5
  have hp0 : 0 ≤ v * k := Int.mul_nonneg (by omega) (by omega)
  have hp1 : v * k ≤ 1000000000000 * 1000000 := Int.mul_le_mul (by omega) (by omega) (by omega) (by omega)
  obtain ⟨P, hP⟩ : ∃ P, v * k = P := ⟨_, rfl⟩
  rw [hP] at hp0 hp1
  by_cases g : P ≤ (v - l) * 1000000
  · have E : Hid (critB v l k = true) := by unfold critB; rw [hP]; show _ = _; simp; omega
    go_enter Try.func35, Try.ntmps35
    go_wp2
    go_ret
    exact ⟨ret_bool (by rw [E.out]), rfl⟩
  · have E : Hid (critB v l k = false) := by unfold critB; rw [hP]; show _ = _; simp; omega
    go_enter Try.func35, Try.ntmps35
    go_wp2
    go_ret
    exact ⟨ret_bool (by rw [E.out]), rfl⟩

set_option maxRecDepth 100000 in
set_option maxHeartbeats 2000000 in
theorem rcrit_any (v l k : Int) (w : World) : Calls Try.prog 36 #[.int .i64 v, .int .i64 l, .int .i64 k] w fun e w' => e = .returned (.bool (critB v l k)) ∧ w = w' := by
  by_cases g0 : v < 1
  · have d0 : decide (v < 1) = true := by simpa using g0
    have E := Lib.hid (crit_false (v := v) (l := l) (k := k) (by omega))
    go_enter Try.func36, Try.ntmps36
    go_wp2
    go_ret
    exact ⟨ret_bool E.out.symm, rfl⟩
  have d0 : decide (v < 1) = false := by simpa using g0
  by_cases g1 : 1000000000000 < v
  · have d1 : decide (1000000000000 < v) = true := by simpa using g1
    have E := Lib.hid (crit_false (v := v) (l := l) (k := k) (by omega))
    go_enter Try.func36, Try.ntmps36
    go_wp2
    go_ret
    exact ⟨ret_bool E.out.symm, rfl⟩
  have d1 : decide (1000000000000 < v) = false := by simpa using g1
  by_cases g2 : l < 0
  · have d2 : decide (l < 0) = true := by simpa using g2
    have E := Lib.hid (crit_false (v := v) (l := l) (k := k) (by omega))
    go_enter Try.func36, Try.ntmps36
    go_wp2
    go_ret
    exact ⟨ret_bool E.out.symm, rfl⟩
  have d2 : decide (l < 0) = false := by simpa using g2
  by_cases g3 : v < l
  · have d3 : decide (v < l) = true := by simpa using g3
    have E := Lib.hid (crit_false (v := v) (l := l) (k := k) (by omega))
    go_enter Try.func36, Try.ntmps36
    go_wp2
    go_ret
    exact ⟨ret_bool E.out.symm, rfl⟩
  have d3 : decide (v < l) = false := by simpa using g3
  by_cases g4 : k < 0
  · have d4 : decide (k < 0) = true := by simpa using g4
    have E := Lib.hid (crit_false (v := v) (l := l) (k := k) (by omega))
    go_enter Try.func36, Try.ntmps36
    go_wp2
    go_ret
    exact ⟨ret_bool E.out.symm, rfl⟩
  have d4 : decide (k < 0) = false := by simpa using g4
  by_cases g5 : 1000000 < k
  · have d5 : decide (1000000 < k) = true := by simpa using g5
    have E := Lib.hid (crit_false (v := v) (l := l) (k := k) (by omega))
    go_enter Try.func36, Try.ntmps36
    go_wp2
    go_ret
    exact ⟨ret_bool E.out.symm, rfl⟩
  have d5 : decide (1000000 < k) = false := by simpa using g5
  have hp0 : 0 ≤ v * k := Int.mul_nonneg (by omega) (by omega)
  have hp1 : v * k ≤ 1000000000000 * 1000000 := Int.mul_le_mul (by omega) (by omega) (by omega) (by omega)
  obtain ⟨P, hP⟩ : ∃ P, v * k = P := ⟨_, rfl⟩
  rw [hP] at hp0 hp1
  by_cases g : P ≤ (v - l) * 1000000
  · have E : Hid (critB v l k = true) := by unfold critB; rw [hP]; show _ = _; simp; omega
    go_enter Try.func36, Try.ntmps36
    go_wp2
    go_ret
    exact ⟨ret_bool (by rw [E.out]), rfl⟩
  · have E : Hid (critB v l k = false) := by unfold critB; rw [hP]; show _ = _; simp; omega
    go_enter Try.func36, Try.ntmps36
    go_wp2
    go_ret
    exact ⟨ret_bool (by rw [E.out]), rfl⟩


set_option maxHeartbeats 1000000 in
theorem sumG_any (A : Option Addr) (n c : Nat) (xs : List (Int × Int)) (w : World) (h : Recs enc2 2 w A n xs) (hn : n ≤ 1000) (hr : ∀ i : Nat, 0 ≤ (qsOf xs).getD i 0 ∧ (qsOf xs).getD i 0 ≤ 1000000000000) :
    Calls Try.prog 33 #[.slice A n c] w fun e w' => e = .returned (.int .i64 (qsOf xs).sum) ∧ w = w' := by
  have HR := Lib.hid hr
  clear hr
  have hl := Lib.hid h.1
  go_enter Try.func33, Try.ntmps33
  go_wp2
  go_loop [3, 4] (fun s i => ∃ k : Nat, k ≤ n ∧ i = .int .i64 k ∧ s = .int .i64 ((qsOf xs).take k).sum) (fun _ i => n - (intOf i).toNat)
  case atStart => exact ⟨0, Nat.zero_le _, rfl, by simp⟩
  case round =>
    obtain ⟨k, hk, rfl, rfl⟩ := hrel
    by_cases hlt : k < n
    · obtain ⟨b, off, x, y, rfl, _, hc1, hc2, HX⟩ := h.get2 hlt
      have hy : (qsOf xs).getD k 0 = y := by rw [qsOf_get xs k (by have := hl.out; omega), HX.out]
      have hb := sum_take_bound (qsOf xs) 1000000000000 HR.out k (by rw [qsOf_len]; have := hl.out; omega)
      have hb0 := HR.out k
      have HS := Lib.hid (sum_take_succ (qsOf xs) k (by rw [qsOf_len]; have := hl.out; omega))
      rw [hy] at hb0 HS
      clear hy
      generalize ((qsOf xs).take k).sum = s at *
      go_wp2
      go_round
      case rel => exact ⟨k + 1, by omega, by go_num, by rw [HS.out]⟩
      case measure => simp [intOf]; omega
    · go_wp2
      go_ret
      exact ⟨ret_int' (by rw [List.take_of_length_le (by rw [qsOf_len]; have := hl.out; omega)]), rfl⟩
end Go.Proofs.Ytpadpohaadfefaa

/-
  Contracts of the reference's Day, currency and Table (customsref04). No statement of the seat is proved here. Conditions: lengths fit an int.
-/
import Derived.Test.YtknbbamlpadfdaaCur17c
namespace Go.Proofs.Ytknbbamlpadfdaa
open Go.RowKit
set_option linter.unusedVariables false

def dayB (n : Int) : Bool := decide (0 ≤ n ∧ n ≤ 36524)
set_option maxHeartbeats 1000000 in
theorem rday_any (n : Int) (w : World) : Calls Try.prog 26 #[.int .i64 n] w fun e w' => e = .returned (.bool (dayB n)) ∧ w = w' := by
  by_cases g1 : 0 ≤ n
  · have d1 : decide (0 ≤ n) = true := by simpa using g1
    by_cases g2 : n ≤ 36524
    · have d2 : decide (n ≤ 36524) = true := by simpa using g2
      have E : Hid (dayB n = true) := by show dayB n = true; unfold dayB; simp; omega
      go_enter Try.func26, Try.ntmps26
      go_wp2
      go_ret
      exact ⟨ret_bool E.out.symm, rfl⟩
    · have d2 : decide (n ≤ 36524) = false := by simpa using g2
      have E : Hid (dayB n = false) := by show dayB n = false; unfold dayB; simp; omega
      go_enter Try.func26, Try.ntmps26
      go_wp2
      go_ret
      exact ⟨ret_bool E.out.symm, rfl⟩
  · have d1 : decide (0 ≤ n) = false := by simpa using g1
    have E : Hid (dayB n = false) := by show dayB n = false; unfold dayB; simp; omega
    go_enter Try.func26, Try.ntmps26
    go_wp2
    go_ret
    exact ⟨ret_bool E.out.symm, rfl⟩

/-- A currency of a table. -/
def tcurB (s : List UInt8) : Bool := curB s && !(s == eur)
set_option maxHeartbeats 1000000 in
theorem rcurrency_any (s : ByteArray) (w : World) (hs : s.size ≤ 9223372036854775807) :
    Calls Try.prog 84 #[.string s] w fun e w' => e = .returned (.bool (tcurB s.toList)) ∧ w = w' := by
  go_enter Try.func84, Try.ntmps84
  go_wp2
  go_loop [3] (fun i => ∃ k : Nat, k ≤ s.size ∧ i = .int .i64 k ∧ Hid (∀ j (hj : j < s.size), j < k → 65 ≤ s[j].toNat ∧ s[j].toNat ≤ 90)) (fun i => s.size - (intOf i).toNat)
  case atStart => exact ⟨0, Nat.zero_le _, rfl, fun j _ hj => absurd hj (by omega)⟩
  case round =>
    obtain ⟨k, hk, rfl, HA⟩ := hrel
    by_cases hks : k < s.size
    · by_cases g1 : (s[k].toNat : Int) < 65
      · have E : Hid (tcurB s.toList = false) := by show _ = _; unfold tcurB; rw [curB_byte (s := s) k hks (by omega)]; rfl
        go_wp2
        go_ret
        exact ⟨ret_bool E.out.symm, rfl⟩
      by_cases g2 : 90 < (s[k].toNat : Int)
      · have E : Hid (tcurB s.toList = false) := by show _ = _; unfold tcurB; rw [curB_byte (s := s) k hks (by omega)]; rfl
        go_wp2
        go_ret
        exact ⟨ret_bool E.out.symm, rfl⟩
      have HA' : Hid (∀ j (hj : j < s.size), j < k + 1 → 65 ≤ s[j].toNat ∧ s[j].toNat ≤ 90) := fun j hj hjk => by
        by_cases e : j = k
        · subst e; omega
        · exact HA.out j hj (by omega)
      go_wp2
      go_round
      case rel => exact ⟨k + 1, by omega, by go_num, HA'.out⟩
      case measure => simp [intOf]; omega
    · have HB : Hid (∀ j (hj : j < s.size), 65 ≤ s[j].toNat ∧ s[j].toNat ≤ 90) := fun j hj => HA.out j hj (by omega)
      clear HA
      by_cases h3 : s.size = 3
      · have h4 := curB_true h3 HB.out
        cases he : (s.toList == eur) with
        | true =>
          have he2 : (s.toList == [69, 85, 82]) = true := he
          have E : Hid (tcurB s.toList = false) := by show _ = _; unfold tcurB; rw [h4, he]; rfl
          clear h4 he
          go_wp2
          go_ret
          exact ⟨ret_bool E.out.symm, rfl⟩
        | false =>
          have he2 : (s.toList == [69, 85, 82]) = false := he
          have E : Hid (tcurB s.toList = true) := by show _ = _; unfold tcurB; rw [h4, he]; rfl
          clear h4 he
          go_wp2
          go_ret
          exact ⟨ret_bool E.out.symm, rfl⟩
      · have E : Hid (tcurB s.toList = false) := by show _ = _; unfold tcurB; rw [curB_size h3]; rfl
        go_wp2
        go_ret
        exact ⟨ret_bool E.out.symm, rfl⟩
end Go.Proofs.Ytknbbamlpadfdaa

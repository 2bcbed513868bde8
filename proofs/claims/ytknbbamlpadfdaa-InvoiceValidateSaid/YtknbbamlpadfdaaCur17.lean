/-
  Contracts of currency.isCurrency and before. No statement of the seat is proved here. Conditions: lengths fit an int.
-/
import Derived.Test.YtknbbamlpadfdaaMoney
namespace Go.Proofs.Ytknbbamlpadfdaa
open Go.RowKit
set_option linter.unusedVariables false

set_option maxHeartbeats 1000000 in
theorem iscur_any (s : ByteArray) (w : World) (hs : s.size ≤ 9223372036854775807) :
    Calls Try.prog 62 #[.string s] w fun e w' => e = .returned (.bool (curB s.toList)) ∧ w = w' := by
  by_cases h3 : s.size = 3
  · go_enter Try.func62, Try.ntmps62
    go_wp2
    have H3 := Lib.hid h3
    clear h3
    go_loop [9] (fun i => ∃ k : Nat, k ≤ 3 ∧ i = .int .i64 k ∧ Hid (∀ j (hj : j < s.size), j < k → 65 ≤ s[j].toNat ∧ s[j].toNat ≤ 90)) (fun i => 3 - (intOf i).toNat)
    case atStart => exact ⟨0, Nat.zero_le _, rfl, fun j _ hj => absurd hj (by omega)⟩
    case round =>
      obtain ⟨k, hk, rfl, HA⟩ := hrel
      by_cases hlt : k < 3
      · have hks : k < s.size := by have := H3.out; omega
        by_cases g1 : (s[k].toNat : Int) < 65
        · have E := Lib.hid (curB_byte (s := s) k hks (by omega))
          go_wp2
          go_ret
          exact ⟨ret_bool E.out.symm, rfl⟩
        by_cases g2 : 90 < (s[k].toNat : Int)
        · have E := Lib.hid (curB_byte (s := s) k hks (by omega))
          go_wp2
          go_ret
          exact ⟨ret_bool E.out.symm, rfl⟩
        have HA' : Hid (∀ j (hj : j < s.size), j < k + 1 → 65 ≤ s[j].toNat ∧ s[j].toNat ≤ 90) := fun j hj hjk => by
          by_cases e : j = k
          · subst e; omega
          · exact HA.out j hj (by omega)
        go_wp2
        go_round
        case rel => exact ⟨k + 1, by omega, by go_num, HA'.out⟩
        case measure => simp [intOf]; omega
      · have E := Lib.hid (curB_true (s := s) H3.out (fun i hi => HA.out i hi (by have := H3.out; omega)))
        go_wp2
        go_ret
        exact ⟨ret_bool E.out.symm, rfl⟩
  · have E := Lib.hid (curB_size h3)
    go_enter Try.func62, Try.ntmps62
    go_wp2
    go_ret
    exact ⟨ret_bool E.out.symm, rfl⟩

set_option maxHeartbeats 1000000 in
theorem before_any (a b : Exch) (w : World) :
    Calls Try.prog 63 #[.agg #[.string a.cur, .int .i64 a.day, .int .i64 a.per], .agg #[.string b.cur, .int .i64 b.day, .int .i64 b.per]] w (BRes w (befB a b)) := by
  obtain ⟨ac, ad, ap⟩ := a
  obtain ⟨bc, bd, bp⟩ := b
  cases hc : (ac.toList == bc.toList) with
  | true =>
    have E : befB ⟨ac, ad, ap⟩ ⟨bc, bd, bp⟩ = decide (ad < bd) := by unfold befB; rw [if_pos hc]
    rw [E]
    clear E
    go_enter Try.func63, Try.ntmps63
    go_wp2
    go_ret
    exact ⟨rfl, ((Below.refl _ _).alloc (Nat.le_refl _) _).alloc (by simp) _⟩
  | false =>
    have E : befB ⟨ac, ad, ap⟩ ⟨bc, bd, bp⟩ = Op.bytesLess ac.toList bc.toList := by unfold befB; rw [if_neg (by rw [hc]; simp)]
    rw [E]
    clear E
    go_enter Try.func63, Try.ntmps63
    go_wp2
    go_ret
    exact ⟨rfl, ((Below.refl _ _).alloc (Nat.le_refl _) _).alloc (by simp) _⟩
end Go.Proofs.Ytknbbamlpadfdaa

/-
  Contracts of the reference's Add, Mul and DivMod (customsref01). No statement of the seat is proved here. Conditions: the numbers fit 64 bits without a sign; the divisor is above 0 and at most 2^63.
-/
import Derived.Test.YtknbbamlpadfdaaExact
namespace Go.Proofs.Ytknbbamlpadfdaa
open Go.RowKit
set_option linter.unusedVariables false

/-- Some flag, and the pair. -/
def AddRes (w : World) (h l : Int) (e : Ending) (w' : World) : Prop := ∃ ov : Bool, e = .returned (.tuple #[.agg #[.int .u64 h, .int .u64 l], .bool ov]) ∧ RowKit.Below w.heap.size w w'

set_option maxHeartbeats 1000000 in
theorem radd_core (ah al bh bl lo h1 h2 : Int) (w : World) (e1 : IntKind.u64.wrap (al + bl) = lo) (e2 : IntKind.u64.wrap (ah + bh) = h1) (e3 : IntKind.u64.wrap (h1 + 1) = h2) :
    Calls Try.prog 61 #[.agg #[.int .u64 ah, .int .u64 al], .agg #[.int .u64 bh, .int .u64 bl]] w (AddRes w (if lo < al then h2 else h1) lo) := by
  have fin : ∀ (o1 o2 o3 : Obj) (n : Nat) (u v : Value), RowKit.Below w.heap.size w ((((((w.alloc o1).alloc o2).alloc o3).drewN n).setCell ⟨w.heap.size + 1 + 1, 0, none⟩ u).setCell ⟨w.heap.size + 1 + 1, 1, none⟩ v) := fun o1 o2 o3 n u v =>
    ((below_drewN ((((Below.refl _ _).alloc (Nat.le_refl _) _).alloc (by simp) _).alloc (by simp; omega) _) n).setCell (by show w.heap.size ≤ w.heap.size + 1 + 1; omega) _).setCell (by show w.heap.size ≤ w.heap.size + 1 + 1; omega) _
  have FIN := Lib.hid fin
  clear fin
  by_cases c : lo < al
  · rw [if_pos c]
    cases d : decide (h1 < ah) with
    | true =>
      go_enter Try.func61, Try.ntmps61
      go_wp2
      go_quiet (fail)
      go_wp2
      refine bodyPost_ret (v := .tuple #[.agg #[.int .u64 h2, .int .u64 lo], .bool true]) (by simp [results, Try.results61, go_sem]) rfl ⟨_, rfl, FIN.out _ _ _ _ _ _⟩
    | false =>
      go_enter Try.func61, Try.ntmps61
      go_wp2
      go_quiet (fail)
      go_wp2
      refine bodyPost_ret (v := .tuple #[.agg #[.int .u64 h2, .int .u64 lo], .bool (h2 == 0)]) (by simp [results, Try.results61, go_sem]) rfl ⟨_, rfl, FIN.out _ _ _ _ _ _⟩
  · rw [if_neg c]
    go_enter Try.func61, Try.ntmps61
    go_wp2
    go_quiet (fail)
    go_wp2
    refine bodyPost_ret (v := .tuple #[.agg #[.int .u64 h1, .int .u64 lo], .bool (decide (h1 < ah))]) (by simp [results, Try.results61, go_sem]) rfl ⟨_, rfl, FIN.out _ _ _ _ _ _⟩

/-- The sum of two wide numbers, modulo 2^128. -/
theorem radd_any (ah al bh bl : Int) (w : World) (h1 : 0 ≤ ah) (h2 : ah ≤ 18446744073709551615) (h3 : 0 ≤ al) (h4 : al ≤ 18446744073709551615) (h5 : 0 ≤ bh) (h6 : bh ≤ 18446744073709551615) (h7 : 0 ≤ bl) (h8 : bl ≤ 18446744073709551615) :
    Calls Try.prog 61 #[.agg #[.int .u64 ah, .int .u64 al], .agg #[.int .u64 bh, .int .u64 bl]] w
      (AddRes w ((ah * 18446744073709551616 + al + (bh * 18446744073709551616 + bl)) / 18446744073709551616 % 18446744073709551616) ((ah * 18446744073709551616 + al + (bh * 18446744073709551616 + bl)) % 18446744073709551616)) := by
  have h := radd_core ah al bh bl _ _ _ w rfl rfl rfl
  simp only [IntKind.wrap_u64] at h
  have e1 : (al + bl) % 18446744073709551616 = (ah * 18446744073709551616 + al + (bh * 18446744073709551616 + bl)) % 18446744073709551616 := by omega
  have e2 : (if (al + bl) % 18446744073709551616 < al then ((ah + bh) % 18446744073709551616 + 1) % 18446744073709551616 else (ah + bh) % 18446744073709551616) = (ah * 18446744073709551616 + al + (bh * 18446744073709551616 + bl)) / 18446744073709551616 % 18446744073709551616 := by split <;> omega
  rw [e2, e1] at h
  exact h

end Go.Proofs.Ytknbbamlpadfdaa

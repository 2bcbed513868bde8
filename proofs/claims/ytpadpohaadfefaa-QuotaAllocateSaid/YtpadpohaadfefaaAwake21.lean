/-
  Contract of customslaw21.awake, and the walks of the laws QuotaCritical and QuotaValidate. No statement of the seat is proved here. Conditions: the slices read as records.
-/
import Derived.Test.YtpadpohaadfefaaLaw21a
namespace Go.Proofs.Ytpadpohaadfefaa
open Go.RowKit
set_option linter.unusedVariables false

theorem lit_recs (w : World) (T : TypeId) (xs : List (Int × Int)) : Recs enc2 2 (w.alloc (.cells (flat enc2 xs).toArray T)) (some ⟨w.heap.size, 0, none⟩) xs.length xs :=
  ⟨rfl, fun _ => ⟨w.heap.size, 0, rfl, by simp, fun i hi c hc => by
    rw [Nat.zero_add, (Bl.new w T _).cell]
    simpa using flat_get enc2_len xs i c hi hc⟩⟩

theorem ex_alloc : allocErr 10 [(1, 4), (2, 16)] = 0 ∧ allocLeft 10 [(1, 4), (2, 16)] = 0 ∧ allocOut 10 [(1, 4), (2, 16)] = [(1, 2), (2, 8)] := by decide +kernel
theorem ex_crit : critB 100 10 900000 = true := by decide +kernel

set_option maxHeartbeats 1000000 in
theorem awake21_any (w : World) : Calls Try.prog 27 #[] w fun e w' => e = .returned (.bool true) ∧ RowKit.Below w.heap.size w w' := by
  go_enter Try.func27, Try.ntmps27
  go_wp2_with fail
  refine (alloc_any 10 (some ⟨w.heap.size, 0, none⟩) 2 2 [(1, 4), (2, 16)] _ (lit_recs w 46 [(1, 4), (2, 16)]) (by omega)).mono ?_
  rintro e w1 ⟨A1, n1, c1, rfl, hl1, ho1, hb1⟩
  rw [ex_alloc.2.2] at ho1 hl1
  subst hl1
  rw [ex_alloc.1, ex_alloc.2.1]
  have hB1 : RowKit.Below w.heap.size w w1 := ((Below.refl _ _).alloc (Nat.le_refl _) _).trans (hb1.mono (by simp))
  have hI1 := Recs.of_own enc2_len ho1 rfl
  clear ho1 hb1
  go_wp2_with fail
  refine (sameG_true A1 (some ⟨w1.heap.size, 0, none⟩) 2 c1 2 [(1, 2), (2, 8)] _ (hI1.alloc _) (lit_recs w1 47 [(1, 2), (2, 8)]) (by omega)).mono ?_
  rintro e w2 ⟨rfl, q2, rfl⟩
  go_wp2_with fail
  refine (crit_any 100 10 900000 _).mono ?_
  rintro e w3 ⟨rfl, rfl⟩
  rw [ex_crit]
  go_wp2
  go_ret
  exact ⟨rfl, below_drewN (hB1.alloc hB1.size _) q2⟩

set_option maxRecDepth 100000 in
set_option maxHeartbeats 2000000 in
theorem walkQuotaCritical (v l k : Int) (raw : Bool) (w : World) :
    Calls Try.prog 14 #[.int .i64 v, .int .i64 l, .int .i64 k, .bool raw] w fun e w' => e = .returned (.bool true) ∧ RowKit.Below w.heap.size w w' := by
  cases raw
  · have m1 := Int.emod_nonneg v (show (1000 : Int) ≠ 0 by omega)
    have m2 := Int.emod_lt_of_pos v (show (0 : Int) < 1000 by omega)
    have m3 := Int.emod_nonneg k (show (11 : Int) ≠ 0 by omega)
    have m4 := Int.emod_lt_of_pos k (show (0 : Int) < 11 by omega)
    go_enter Try.func14, Try.ntmps14
    go_wp2_with fail
    refine (within_any v 1000 _ (by omega) (by omega)).mono ?_
    rintro e w1 ⟨rfl, rfl⟩
    generalize v % 1000 = v1 at *
    go_wp2_with fail
    refine (within_any l _ _ ?_ ?_).mono ?_
    · omega
    · omega
    rintro e w1 ⟨rfl, rfl⟩
    go_wp2_with fail
    refine (within_any k 11 _ (by omega) (by omega)).mono ?_
    rintro e w1 ⟨rfl, rfl⟩
    generalize k % 11 = k1 at *
    go_wp2_with fail
    refine (crit_any _ _ _ _).mono ?_
    rintro e w1 ⟨rfl, rfl⟩
    go_wp2_with fail
    refine (rcrit_any _ _ _ _).mono ?_
    rintro e w1 ⟨rfl, rfl⟩
    generalize critB _ _ _ = cb at *
    go_wp2_with fail
    refine (awake21_any _).mono ?_
    rintro e wd ⟨rfl, hbd⟩
    go_wp2
    go_ret
    exact ⟨rfl, hbd⟩
  · go_enter Try.func14, Try.ntmps14
    go_wp2_with fail
    refine (crit_any v l k _).mono ?_
    rintro e w1 ⟨rfl, rfl⟩
    go_wp2_with fail
    refine (rcrit_any v l k _).mono ?_
    rintro e w1 ⟨rfl, rfl⟩
    generalize critB v l k = cb at *
    go_wp2_with fail
    refine (awake21_any _).mono ?_
    rintro e wd ⟨rfl, hbd⟩
    go_wp2
    go_ret
    exact ⟨rfl, hbd⟩

set_option maxRecDepth 100000 in
set_option maxHeartbeats 2000000 in
theorem walkQuotaValidate (A : Option Addr) (n c : Nat) (xs : List (Int × Int)) (w : World) (h : Recs enc2 2 w A n xs) (hm : n ≤ 9223372036854775807) :
    Calls Try.prog 10 #[.slice A n c] w fun e w' => e = .returned (.bool true) ∧ RowKit.Below w.heap.size w w' := by
  go_enter Try.func10, Try.ntmps10
  go_wp2_with fail
  refine (validate_any A n c xs w h hm).mono ?_
  rintro e w1 ⟨rfl, hb1⟩
  go_wp2_with fail
  refine (rvalid_any A n c xs w1 (h.below hb1) hm).mono ?_
  rintro e w2 ⟨rfl, hb2⟩
  have hB := hb1.trans (hb2.mono hb1.size)
  generalize vErr xs = er at *
  go_wp2_with fail
  refine (awake21_any _).mono ?_
  rintro e wd ⟨rfl, hbd⟩
  go_wp2
  go_ret
  exact ⟨rfl, hB.trans (hbd.mono hB.size)⟩

end Go.Proofs.Ytpadpohaadfefaa

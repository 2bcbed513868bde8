/-
  Contract of customslaw03.awake: it returns true. No statement of the seat is proved here. No conditions.
-/
import Derived.Test.YtpadpohaadfefaaRefSpread
namespace Go.Proofs.Ytpadpohaadfefaa
open Go.RowKit
set_option linter.unusedVariables false

theorem lit_ints (w : World) (T : TypeId) (xs : List Int) : Ints (w.alloc (.cells (xs.map (Value.int .i64)).toArray T)) (some ⟨w.heap.size, 0, none⟩) xs.length xs :=
  (Bl.new w T _).ints fun i hi => by simp [List.getElem?_eq_getElem hi, List.getD]

theorem ex_share : chkErr 100 [1, 1, 1] = 0 ∧ shareOut 100 [1, 1, 1] = [34, 33, 33] := by decide +kernel
theorem ex_cap : capErr 10 [4, 16] = 0 ∧ capOut 10 [4, 16] = [2, 8] := by decide +kernel

set_option maxHeartbeats 1000000 in
theorem awake03_any (w : World) : Calls Try.prog 20 #[] w fun e w' => e = .returned (.bool true) ∧ RowKit.Below w.heap.size w w' := by
  go_enter Try.func20, Try.ntmps20
  go_wp2_with fail
  refine (share_any 100 (some ⟨w.heap.size, 0, none⟩) 3 3 [1, 1, 1] _ (lit_ints w 3 [1, 1, 1]) (by omega)).mono ?_
  rintro e w1 ⟨A1, n1, c1, rfl, ho1, hb1⟩
  rw [ex_share.2] at ho1
  obtain rfl : 3 = n1 := own_len ho1
  rw [ex_share.1]
  have hB1 : RowKit.Below w.heap.size w w1 := ((Below.refl _ _).alloc (Nat.le_refl _) _).trans (hb1.mono (by simp))
  go_wp2_with fail
  refine (cap_any 10 (some ⟨w1.heap.size, 0, none⟩) 2 2 [4, 16] _ (lit_ints w1 3 [4, 16]) (by omega)).mono ?_
  rintro e w2 ⟨A2, n2, c2, rfl, ho2, hb2⟩
  rw [ex_cap.2] at ho2
  obtain rfl : 2 = n2 := own_len ho2
  rw [ex_cap.1]
  have hB2 : RowKit.Below w1.heap.size w1 w2 := ((Below.refl _ _).alloc (Nat.le_refl _) _).trans (hb2.mono (by simp))
  have hI1 := (IntsK.of_own ho1).below hB2
  have hI2 := IntsK.of_own ho2
  have hB12 := hB1.trans (hB2.mono hB1.size)
  clear hb1 hb2 ho1 ho2
  go_wp2_with fail
  refine (same_true A1 (some ⟨w2.heap.size, 0, none⟩) 3 c1 3 [34, 33, 33] _ (hI1.alloc _) (lit_ints w2 3 [34, 33, 33]) (by omega)).mono ?_
  rintro e w3 ⟨rfl, q3, rfl⟩
  go_wp2_with fail
  have hI3 := ((hI2.alloc (.cells #[.int .i64 34, .int .i64 33, .int .i64 33] 3)).drewN q3).alloc (.cells #[.int .i64 2, .int .i64 8] 3)
  have hI4 := lit_ints ((w2.alloc (.cells #[.int .i64 34, .int .i64 33, .int .i64 33] 3)).drewN q3) 3 [2, 8]
  rw [show ((w2.alloc (.cells #[.int .i64 34, .int .i64 33, .int .i64 33] 3)).drewN q3).heap.size = w2.heap.size + 1 by simp [World.drewN]] at hI4
  refine (same_true A2 _ 2 c2 2 [2, 8] _ hI3 hI4 (by omega)).mono ?_
  rintro e w4 ⟨rfl, q4, rfl⟩
  go_wp2
  go_ret
  exact ⟨rfl, below_drewN ((below_drewN (hB12.alloc hB12.size _) q3).alloc (by have := hB12.size; simp [World.drewN]; omega) _) q4⟩
end Go.Proofs.Ytpadpohaadfefaa

/-
  Contracts of quota.Validate and of the reference's ValidRequests: the first error of a list of requests. No statement of the seat is proved here. Conditions: the list's length fits an int.
-/
import Derived.Test.YtpadpohaadfefaaRecs
import Derived.Test.YtpadpohaadfefaaLaw03b
namespace Go.Proofs.Ytpadpohaadfefaa
open Go.RowKit
set_option linter.unusedVariables false

def okReq (p : Int × Int) : Prop := 1 ≤ p.1 ∧ p.1 ≤ 1000000 ∧ 0 ≤ p.2 ∧ p.2 ≤ 1000000000
instance (p : Int × Int) : Decidable (okReq p) := by unfold okReq; infer_instance
/-- All requests are in range. -/
def okAll (xs : List (Int × Int)) : Prop := ∀ i, i < xs.length → okReq xs[i]!
/-- The IDs ascend. -/
def okAsc (xs : List (Int × Int)) : Prop := ∀ r, r < xs.length - 1 → xs[r]!.1 < xs[r + 1]!.1
instance (xs : List (Int × Int)) : Decidable (okAll xs) := by unfold okAll; infer_instance
instance (xs : List (Int × Int)) : Decidable (okAsc xs) := by unfold okAsc; infer_instance
/-- The first error of P21.1. -/
def vErr (xs : List (Int × Int)) : Int := if 200 < xs.length then 8 else if okAll xs then (if okAsc xs then 0 else 9) else 2

theorem vErr_long {xs : List (Int × Int)} (h : 200 < xs.length) : vErr xs = 8 := by unfold vErr; rw [if_pos h]
theorem vErr_bad {xs : List (Int × Int)} (h : xs.length ≤ 200) (i : Nat) (hi : i < xs.length) (hb : ¬ okReq xs[i]!) : vErr xs = 2 := by
  unfold vErr; rw [if_neg (by omega), if_neg (fun ha => hb (ha i hi))]
theorem vErr_asc {xs : List (Int × Int)} (h : xs.length ≤ 200) (ha : okAll xs) (r : Nat) (hr : r + 1 < xs.length) (hb : ¬ xs[r]!.1 < xs[r + 1]!.1) : vErr xs = 9 := by
  unfold vErr; rw [if_neg (by omega), if_pos ha, if_neg (fun hx => hb (hx r (by omega)))]
theorem vErr_ok {xs : List (Int × Int)} (h : xs.length ≤ 200) (ha : okAll xs) (hb : okAsc xs) : vErr xs = 0 := by
  unfold vErr; rw [if_neg (by omega), if_pos ha, if_pos hb]
theorem vErr_zero {xs : List (Int × Int)} (h : vErr xs = 0) : xs.length ≤ 200 ∧ okAll xs ∧ okAsc xs := by
  unfold vErr at h
  split at h
  · omega
  · split at h
    · split at h
      · exact ⟨by omega, by assumption, by assumption⟩
      · omega
    · omega

def VRes (w : World) (er : Int) (e : Ending) (w' : World) : Prop := e = .returned (.int .i64 er) ∧ RowKit.Below w.heap.size w w'

set_option maxRecDepth 100000 in
set_option maxHeartbeats 4000000 in
theorem validate_any (A : Option Addr) (n c : Nat) (xs : List (Int × Int)) (w : World) (h : Recs enc2 2 w A n xs) (hm : n ≤ 9223372036854775807) :
    Calls Try.prog 25 #[.slice A n c] w (VRes w (vErr xs)) := by
  have HL := Lib.hid h.1
  by_cases hl : 200 < n
  · have E := Lib.hid (vErr_long (xs := xs) (by have := HL.out; omega))
    go_enter Try.func25, Try.ntmps25
    go_wp2
    go_ret
    exact ⟨ret_int' E.out.symm, Below.refl _ _⟩
  go_enter Try.func25, Try.ntmps25
  go_wp2
  go_loopw [11] (fun i wr => ∃ k : Nat, k ≤ n ∧ i = .int .i64 k ∧ Hid (∀ i, i < k → okReq xs[i]!) ∧ RowKit.Below w.heap.size w wr) (fun i _ => n - (intOf i).toNat)
  case atStart => exact ⟨0, Nat.zero_le _, rfl, fun i hi => absurd hi (by omega), Below.refl _ _⟩
  case round =>
    obtain ⟨k, hk, rfl, HA, hbel⟩ := hrel
    by_cases hlt : k < n
    · obtain ⟨b, off, x, y, rfl, _, hc1, hc2, HX⟩ := (h.below hbel).get2 hlt
      by_cases g1 : x < 1
      · have d1 : decide (x < 1) = true := by simpa using g1
        go_wp2
        go_ret
        exact ⟨ret_int' (vErr_bad (by have := HL.out; omega) k (by have := HL.out; omega) (by rw [HX.out]; unfold okReq; omega)).symm, hbel.alloc hbel.size _⟩

      have d1 : decide (x < 1) = false := by simpa using g1
      by_cases g2 : 1000000 < x
      · have d2 : decide (1000000 < x) = true := by simpa using g2
        go_wp2
        go_ret
        exact ⟨ret_int' (vErr_bad (by have := HL.out; omega) k (by have := HL.out; omega) (by rw [HX.out]; unfold okReq; omega)).symm, hbel.alloc hbel.size _⟩

      have d2 : decide (1000000 < x) = false := by simpa using g2
      by_cases g3 : y < 0
      · have d3 : decide (y < 0) = true := by simpa using g3
        go_wp2
        go_ret
        exact ⟨ret_int' (vErr_bad (by have := HL.out; omega) k (by have := HL.out; omega) (by rw [HX.out]; unfold okReq; omega)).symm, hbel.alloc hbel.size _⟩

      have d3 : decide (y < 0) = false := by simpa using g3
      by_cases g4 : 1000000000 < y
      · have d4 : decide (1000000000 < y) = true := by simpa using g4
        go_wp2
        go_ret
        exact ⟨ret_int' (vErr_bad (by have := HL.out; omega) k (by have := HL.out; omega) (by rw [HX.out]; unfold okReq; omega)).symm, hbel.alloc hbel.size _⟩

      have d4 : decide (1000000000 < y) = false := by simpa using g4
      have HA' : Hid (∀ i, i < k + 1 → okReq xs[i]!) := fun i hi => by
        by_cases e : i = k
        · subst e; rw [HX.out]; unfold okReq; omega
        · exact HA.out i (by omega)
      go_wp2
      go_roundw
      case rel => exact ⟨k + 1, by omega, by go_num, HA'.out, ((hbel.alloc hbel.size _))⟩
      case measure => simp [intOf]; omega
    · have HAll : Hid (okAll xs) := fun i hi => HA.out i (by have := HL.out; omega)
      clear HA
      have h' := h.below hbel
      go_wp2
      go_loopw [5] (fun i wi => ∃ r q : Nat, r ≤ n ∧ i = .int .i64 ((r : Int) + 1) ∧ Hid (∀ s, s < r → xs[s]!.1 < xs[s + 1]!.1) ∧ wi = wr.drewN q) (fun i _ => n + 1 - (intOf i).toNat)
      case atStart => exact ⟨0, 0, Nat.zero_le _, rfl, fun i hi => absurd hi (by omega), rfl⟩
      case round =>
        obtain ⟨r, q, hr, rfl, HS, rfl⟩ := hrel
        by_cases hlt2 : r + 1 < n
        · obtain ⟨b, off, x1, y1, hA, _, hc1, hc2, HX1⟩ := h'.get2 hlt2
          subst hA
          obtain ⟨b', off', x0, y0, hA, _, hc3, hc4, HX0⟩ := h'.get2 (show r < n by omega)
          obtain ⟨rfl, rfl⟩ : b = b' ∧ off = off' := by simpa using hA
          clear hA
          have i1 : (0 : Int) ≤ (r : Int) + 1 := by omega
          have i2 : (r : Int) + 1 < (n : Int) := by omega
          have i3 : (0 : Int) ≤ (r : Int) := by omega
          have i4 : (r : Int) < (n : Int) := by omega
          have u1 : IntKind.i64.wrap ((r : Int) + 1 - 1) = (r : Int) := IntWalk.i64_in _ (by omega) |>.trans (by omega)
          have u2 : IntKind.i64.wrap (r : Int) = (r : Int) := IntWalk.i64_in _ (by omega)
          have u3 : ((r : Int) + 1).toNat = r + 1 := by omega
          by_cases g : x1 ≤ x0
          · have d1 : decide (x1 ≤ x0) = true := by simpa using g
            go_wp2
            go_quiet (fail)
            go_wp2
            go_ret
            exact ⟨ret_int' (vErr_asc (by have := HL.out; omega) HAll.out r (by have := HL.out; omega) (by rw [HX0.out, HX1.out]; show ¬ x0 < x1; omega)).symm, below_drewN (below_drewN hbel _) _⟩
          · have d1 : decide (x1 ≤ x0) = false := by simpa using g
            have HS' : Hid (∀ s, s < r + 1 → xs[s]!.1 < xs[s + 1]!.1) := fun s hs => by
              by_cases e : s = r
              · subst e; rw [HX0.out, HX1.out]; show x0 < x1; omega
              · exact HS.out s (by omega)
            go_wp2
            go_quiet (fail)
            go_wp2
            go_roundw
            case rel => exact ⟨r + 1, _, by omega, by go_num, HS'.out, rfl⟩
            case measure => simp [intOf]; omega
        · have HAsc : Hid (okAsc xs) := fun s hs => HS.out s (by have := HL.out; omega)
          have i2 : ¬ (r : Int) + 1 < (n : Int) := by omega
          go_wp2
          go_ret
          exact ⟨ret_int' (vErr_ok (by have := HL.out; omega) HAll.out HAsc.out).symm, below_drewN hbel _⟩

set_option maxRecDepth 100000 in
set_option maxHeartbeats 4000000 in
theorem rvalid_any (A : Option Addr) (n c : Nat) (xs : List (Int × Int)) (w : World) (h : Recs enc2 2 w A n xs) (hm : n ≤ 9223372036854775807) :
    Calls Try.prog 26 #[.slice A n c] w (VRes w (vErr xs)) := by
  have HL := Lib.hid h.1
  by_cases hl : 200 < n
  · have E := Lib.hid (vErr_long (xs := xs) (by have := HL.out; omega))
    go_enter Try.func26, Try.ntmps26
    go_wp2
    go_ret
    exact ⟨ret_int' E.out.symm, Below.refl _ _⟩
  go_enter Try.func26, Try.ntmps26
  go_wp2
  go_loopw [3] (fun i wr => ∃ k : Nat, k ≤ n ∧ i = .int .i64 k ∧ Hid (∀ i, i < k → okReq xs[i]!) ∧ RowKit.Below w.heap.size w wr) (fun i _ => n - (intOf i).toNat)
  case atStart => exact ⟨0, Nat.zero_le _, rfl, fun i hi => absurd hi (by omega), Below.refl _ _⟩
  case round =>
    obtain ⟨k, hk, rfl, HA, hbel⟩ := hrel
    by_cases hlt : k < n
    · obtain ⟨b, off, x, y, rfl, _, hc1, hc2, HX⟩ := (h.below hbel).get2 hlt
      by_cases g1 : x < 1
      · have d1 : decide (x < 1) = true := by simpa using g1
        go_wp2
        go_ret
        exact ⟨ret_int' (vErr_bad (by have := HL.out; omega) k (by have := HL.out; omega) (by rw [HX.out]; unfold okReq; omega)).symm, hbel⟩

      have d1 : decide (x < 1) = false := by simpa using g1
      by_cases g2 : 1000000 < x
      · have d2 : decide (1000000 < x) = true := by simpa using g2
        go_wp2
        go_ret
        exact ⟨ret_int' (vErr_bad (by have := HL.out; omega) k (by have := HL.out; omega) (by rw [HX.out]; unfold okReq; omega)).symm, hbel⟩

      have d2 : decide (1000000 < x) = false := by simpa using g2
      by_cases g3 : y < 0
      · have d3 : decide (y < 0) = true := by simpa using g3
        go_wp2
        go_ret
        exact ⟨ret_int' (vErr_bad (by have := HL.out; omega) k (by have := HL.out; omega) (by rw [HX.out]; unfold okReq; omega)).symm, hbel⟩

      have d3 : decide (y < 0) = false := by simpa using g3
      by_cases g4 : 1000000000 < y
      · have d4 : decide (1000000000 < y) = true := by simpa using g4
        go_wp2
        go_ret
        exact ⟨ret_int' (vErr_bad (by have := HL.out; omega) k (by have := HL.out; omega) (by rw [HX.out]; unfold okReq; omega)).symm, hbel⟩

      have d4 : decide (1000000000 < y) = false := by simpa using g4
      have HA' : Hid (∀ i, i < k + 1 → okReq xs[i]!) := fun i hi => by
        by_cases e : i = k
        · subst e; rw [HX.out]; unfold okReq; omega
        · exact HA.out i (by omega)
      go_wp2
      go_roundw
      case rel => exact ⟨k + 1, by omega, by go_num, HA'.out, hbel⟩
      case measure => simp [intOf]; omega
    · have HAll : Hid (okAll xs) := fun i hi => HA.out i (by have := HL.out; omega)
      clear HA
      have h' := h.below hbel
      go_wp2
      go_loopw [4] (fun i wi => ∃ r q : Nat, r ≤ n ∧ i = .int .i64 ((r : Int) + 1) ∧ Hid (∀ s, s < r → xs[s]!.1 < xs[s + 1]!.1) ∧ wi = wr.drewN q) (fun i _ => n + 1 - (intOf i).toNat)
      case atStart => exact ⟨0, 0, Nat.zero_le _, rfl, fun i hi => absurd hi (by omega), rfl⟩
      case round =>
        obtain ⟨r, q, hr, rfl, HS, rfl⟩ := hrel
        by_cases hlt2 : r + 1 < n
        · obtain ⟨b, off, x1, y1, hA, _, hc1, hc2, HX1⟩ := h'.get2 hlt2
          subst hA
          obtain ⟨b', off', x0, y0, hA, _, hc3, hc4, HX0⟩ := h'.get2 (show r < n by omega)
          obtain ⟨rfl, rfl⟩ : b = b' ∧ off = off' := by simpa using hA
          clear hA
          have i1 : (0 : Int) ≤ (r : Int) + 1 := by omega
          have i2 : (r : Int) + 1 < (n : Int) := by omega
          have i3 : (0 : Int) ≤ (r : Int) := by omega
          have i4 : (r : Int) < (n : Int) := by omega
          have u1 : IntKind.i64.wrap ((r : Int) + 1 - 1) = (r : Int) := IntWalk.i64_in _ (by omega) |>.trans (by omega)
          have u2 : IntKind.i64.wrap (r : Int) = (r : Int) := IntWalk.i64_in _ (by omega)
          have u3 : ((r : Int) + 1).toNat = r + 1 := by omega
          by_cases g : x1 ≤ x0
          · have d1 : decide (x1 ≤ x0) = true := by simpa using g
            go_wp2
            go_quiet (fail)
            go_wp2
            go_ret
            exact ⟨ret_int' (vErr_asc (by have := HL.out; omega) HAll.out r (by have := HL.out; omega) (by rw [HX0.out, HX1.out]; show ¬ x0 < x1; omega)).symm, below_drewN (below_drewN hbel _) _⟩
          · have d1 : decide (x1 ≤ x0) = false := by simpa using g
            have HS' : Hid (∀ s, s < r + 1 → xs[s]!.1 < xs[s + 1]!.1) := fun s hs => by
              by_cases e : s = r
              · subst e; rw [HX0.out, HX1.out]; show x0 < x1; omega
              · exact HS.out s (by omega)
            go_wp2
            go_quiet (fail)
            go_wp2
            go_roundw
            case rel => exact ⟨r + 1, _, by omega, by go_num, HS'.out, rfl⟩
            case measure => simp [intOf]; omega
        · have HAsc : Hid (okAsc xs) := fun s hs => HS.out s (by have := HL.out; omega)
          have i2 : ¬ (r : Int) + 1 < (n : Int) := by omega
          go_wp2
          go_ret
          exact ⟨ret_int' (vErr_ok (by have := HL.out; omega) HAll.out HAsc.out).symm, below_drewN hbel _⟩

end Go.Proofs.Ytpadpohaadfefaa

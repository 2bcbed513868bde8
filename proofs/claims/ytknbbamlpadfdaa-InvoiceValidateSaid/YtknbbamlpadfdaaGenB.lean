/-
  Contracts of the reference's Share (customsref02) and Same. No statement of the seat is proved here. Conditions: lengths fit an int.
-/
import Derived.Test.YtknbbamlpadfdaaRefShare2
import Derived.Test.YtknbbamlpadfdaaGenA
namespace Go.Proofs.Ytknbbamlpadfdaa
open Go.RowKit
set_option linter.unusedVariables false

theorem rshare_any (t : Int) (A : Option Addr) (n c : Nat) (xs : List Int) (w : World) (h : Ints w A n xs) (hm : n ≤ 9223372036854775807) :
    Calls Try.prog 34 #[.int .i64 t, .slice A n c] w (SlRes w (chkErr t xs) (shareOut t xs)) := by
  by_cases h1 : 1000 < n
  · exact rshare_long t A n c xs w h hm h1
  have hl := h.1
  cases hb : badK t xs n with
  | true =>
    have e1 := chk_bad (t := t) (xs := xs) (by omega) (by rw [hl]; exact hb)
    have e2 : shareOut t xs = [] := by unfold shareOut; rw [if_neg (by omega)]
    rw [e1, e2]
    exact rshare_bad t A n c xs w h (by omega) hb
  | false =>
    rw [← hl] at hb
    have e1 := chk_good (t := t) (xs := xs) (by omega) hb
    obtain ⟨h2, h3⟩ := (badK_all t xs).1 hb
    by_cases h4 : xs.length = 0 ∧ 0 < t
    · rw [if_pos h4] at e1
      have e2 : shareOut t xs = [] := by unfold shareOut; rw [if_neg (by omega)]
      rw [e1, e2]
      obtain rfl : n = 0 := by omega
      exact rshare_none t A c w h4.2 h2.2
    · rw [if_neg h4] at e1
      have e2 : shareOut t xs = shareL t xs := by unfold shareOut; rw [if_pos e1]
      rw [e1, e2]
      exact rshare_ok t A n c xs w h (by omega) h2.1 h2.2 h3 (by omega)

set_option maxHeartbeats 1000000 in
theorem same_true (A B : Option Addr) (n c d : Nat) (xs : List Int) (w : World) (hA : Ints w A n xs) (hB : Ints w B n xs) (hm : n ≤ 9223372036854775807) :
    Calls Try.prog 20 #[.slice A n c, .slice B n d] w fun e w' => e = .returned (.bool true) ∧ ∃ q, w' = w.drewN q := by
  go_enter Try.func20, Try.ntmps20
  go_wp2
  go_loopw [5] (fun i wr => ∃ k q : Nat, k ≤ n ∧ i = .int .i64 k ∧ wr = w.drewN q) (fun i _ => n - (intOf i).toNat)
  case atStart => exact ⟨0, 0, Nat.zero_le _, rfl, rfl⟩
  case round =>
    obtain ⟨k, q, hk, rfl, rfl⟩ := hrel
    by_cases hlt : k < n
    · obtain ⟨b, off, x, rfl, _, hc, HX⟩ := hA.get hlt
      obtain ⟨b2, off2, x2, rfl, _, hc2, HX2⟩ := hB.get hlt
      obtain rfl : x = x2 := HX.out.symm.trans HX2.out
      have i1 : (0 : Int) ≤ (k : Int) := by omega
      have i2 : (k : Int) < (n : Int) := by omega
      go_wp2
      go_quiet (fail)
      go_wp2
      go_roundw
      case rel => exact ⟨k + 1, _, by omega, by go_num, rfl⟩
      case measure => simp [intOf]; omega
    · go_wp2
      go_ret
      exact ⟨rfl, _, rfl⟩

theorem sum_range (m : Nat) (f : Nat → Int) : ((List.range m).map f).sum = sumN m f := rfl

theorem getD_range (m : Nat) (f : Nat → Int) (i : Nat) (h : i < m) : ((List.range m).map f).getD i 0 = f i := by simp [List.getD, h]

theorem getD_range_out (m : Nat) (f : Nat → Int) (i : Nat) (h : ¬ i < m) : ((List.range m).map f).getD i 0 = 0 := by simp [List.getD, h]

theorem sumN_part {f : Nat → Int} (h : ∀ i, 0 ≤ f i) (p n : Nat) (hp : p ≤ n) : 0 ≤ sumN p f ∧ sumN p f ≤ sumN n f := by
  refine ⟨sumN_nonneg fun i _ => h i, ?_⟩
  have h1 : ∀ m, sumN p f ≤ sumN (p + m) f := by
    intro m
    induction m with
    | zero => exact Int.le_refl _
    | succ m ih => rw [← Nat.add_assoc, sumN_succ]; have := h (p + m); omega
  have h2 := h1 (n - p)
  rwa [show p + (n - p) = n by omega] at h2

/-- Weights in range, not empty, give no error. -/
theorem chk_ok {t : Int} {ws : List Int} (h0 : 0 ≤ t) (h1 : t ≤ 1000000000000) (hl : ws.length ≤ 1000) (hn : 0 < ws.length) (ha : AllIn ws) : chkErr t ws = 0 := by
  unfold chkErr
  rw [if_neg (by omega), if_neg (by omega), if_pos ha, if_neg (by omega)]

/-- Shares are small. -/
theorem shareOut_bounds (t : Int) (ws : List Int) (i : Nat) : 0 ≤ (shareOut t ws).getD i 0 ∧ (shareOut t ws).getD i 0 ≤ 1000000000000 := by
  unfold shareOut
  by_cases h : chkErr t ws = 0
  · rw [if_pos h]
    obtain ⟨h1, h2, h3, h4, h5⟩ := chk_zero h
    by_cases hi : i < ws.length
    · rw [shareL_get t ws i hi]
      have hN : NonNeg ws := fun i => (h4 i).1
      exact ⟨share_nonneg hN h2 (by omega) i, Int.le_trans (share_le_total hN h2 (by omega) i hi) h3⟩
    · simp [List.getD, List.getElem?_eq_none (show (shareL t ws).length ≤ i by rw [shareL_length]; omega)]
  · rw [if_neg h]; simp
end Go.Proofs.Ytknbbamlpadfdaa

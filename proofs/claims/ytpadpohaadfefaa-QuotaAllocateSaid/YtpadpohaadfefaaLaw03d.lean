/-
  The walks of the laws ShareOrder, CapBounds and ShareScaled: the law returns true. No statement of the seat is proved here. Conditions: the slice reads as integers.
-/
import Derived.Test.YtpadpohaadfefaaLaw03c
import Derived.Test.YtpadpohaadfefaaScale
namespace Go.Proofs.Ytpadpohaadfefaa
open Go.RowKit
set_option linter.unusedVariables false

/-- Two shares in order. -/
theorem order_pair (t : Int) (ys : List Int) (ht : 0 ≤ t) (hN : NonNeg ys) (i k : Nat) (hik : i < k) (hk : k < ys.length) :
    (ys.getD k 0 ≤ ys.getD i 0 → shareI t ys k ≤ shareI t ys i) ∧ (ys.getD i 0 < ys.getD k 0 → shareI t ys i ≤ shareI t ys k) := by
  constructor
  · intro h
    refine share_mono hN (by omega) ht i k (by omega) hk ?_ (Or.inr hik)
    unfold wt
    split
    · omega
    · exact h
  · intro h
    have hs : ¬ ys.sum = 0 := by
      have h1 := getD_le_sum ys hN k hk
      have h2 := hN i
      omega
    refine share_mono hN (by omega) ht k i hk (by omega) ?_ (Or.inl ?_)
    · unfold wt; rw [if_neg hs, if_neg hs]; omega
    · unfold wt; rw [if_neg hs, if_neg hs]; omega

set_option maxRecDepth 100000 in
set_option maxHeartbeats 4000000 in
theorem walkShareOrder (n : Int) (A : Option Addr) (len cap : Nat) (xs : List Int) (small : Bool) (w : World) (h : Ints w A len xs) (hlc : len ≤ cap) (hcm : cap ≤ 9223372036854775807) :
    Calls Try.prog 5 #[.int .i64 n, .slice A len cap, .bool small] w fun e w' => e = .returned (.bool true) ∧ RowKit.Below w.heap.size w w' := by
  have HT := Lib.hid (fun w => total_any n small w)
  have HW := Lib.hid (fun w h => weights_any len cap A small xs w h hlc hcm)
  go_enter Try.func5, Try.ntmps5
  go_wp2_with fail
  refine (HT.out _).mono ?_
  rintro e w1 ⟨t, ht0, ht1, rfl, rfl⟩
  go_wp2_with fail
  refine (HW.out _ h).mono ?_
  rintro e w2 ⟨A', c', ys, rfl, hys, how, hbw⟩
  have hmm : min len 60 ≤ 60 := Nat.min_le_right _ _
  obtain ⟨m, hm⟩ : ∃ m, m = min len 60 := ⟨_, rfl⟩
  rw [← hm] at how hmm ⊢
  have hI := IntsK.of_own how
  have HL := Lib.hid hI.1
  have HN : Hid (NonNeg ys) := fun i => (hys i).1
  clear hm hys how
  go_wp2_with fail
  refine (share_any t A' m c' ys _ hI (by omega)).mono ?_
  rintro e wa ⟨A1, n1, k1, rfl, ho1, hb1⟩
  have hB := hbw.trans (hb1.mono hbw.size)
  by_cases hE : chkErr t ys = 0
  · have hO : shareOut t ys = shareL t ys := by unfold shareOut; rw [if_pos hE]
    rw [hO] at ho1
    rw [hE]
    obtain rfl : m = n1 := by have := own_len ho1; rw [shareL_length, HL.out] at this; exact this
    have hIA := IntsK.of_own ho1
    have hIL := hI.below hb1
    clear hE hO ho1 hb1 hI
    go_wp2
    go_loopw [9] (fun i wr => ∃ p q : Nat, p ≤ m ∧ i = .int .i64 p ∧ wr = wa.drewN q) (fun i _ => m - (intOf i).toNat)
    case atStart => exact ⟨0, 0, Nat.zero_le _, rfl, rfl⟩
    case round =>
      obtain ⟨p, q, hp, rfl, rfl⟩ := hrel
      by_cases hlt : p < m
      · go_wp2
        go_loopw [10] (fun i wr => ∃ r q : Nat, r ≤ m ∧ p < r ∧ i = .int .i64 r ∧ wr = wa.drewN q) (fun i _ => m - (intOf i).toNat)
        case atStart => exact ⟨p + 1, q, by omega, by omega, by go_num, rfl⟩
        case round =>
          obtain ⟨r, q, hr, hpr, rfl, rfl⟩ := hrel
          by_cases hlt2 : r < m
          · obtain ⟨b1, o1, ap, hA1, _, hc1, HX1⟩ := hIA.get hlt
            subst hA1
            obtain ⟨b1', o1', ar, hA1, _, hc2, HX2⟩ := hIA.get hlt2
            obtain ⟨rfl, rfl⟩ : b1 = b1' ∧ o1 = o1' := by simpa using hA1
            obtain ⟨b2, o2, yp, hA2, _, hc3, HX3⟩ := hIL.get hlt
            subst hA2
            obtain ⟨b2', o2', yr, hA2, _, hc4, HX4⟩ := hIL.get hlt2
            obtain ⟨rfl, rfl⟩ : b2 = b2' ∧ o2 = o2' := by simpa using hA2
            clear hA1 hA2
            have hlen := HL.out
            obtain ⟨g1, g2⟩ := order_pair t ys ht0 HN.out p r hpr (by omega)
            rw [← shareL_get t ys p (by omega), ← shareL_get t ys r (by omega), HX1.out, HX2.out, HX3.out, HX4.out] at g1 g2
            have i1 : (0 : Int) ≤ (p : Int) := by omega
            have i2 : (p : Int) < (m : Int) := by omega
            have i3 : (0 : Int) ≤ (r : Int) := by omega
            have i4 : (r : Int) < (m : Int) := by omega
            have HLN := Lib.hid hlen
            clear hlen
            by_cases hc : yr ≤ yp
            · have g3 := g1 hc
              clear g1 g2
              have d1 : decide (yr ≤ yp) = true := by simpa using hc
              have d2 : decide (ap < ar) = false := by simp; omega
              have d3 : decide (yp < yr) = false := by simp; omega
              go_wp2
              go_quiet (fail)
              go_wp2
              go_roundw
              case rel => exact ⟨r + 1, _, by omega, by omega, by go_num, rfl⟩
              case measure => simp [intOf]; omega
            · have g3 := g2 (by omega)
              clear g1 g2
              have d1 : decide (yr ≤ yp) = false := by simpa using hc
              have d2 : decide (yp < yr) = true := by simp; omega
              have d3 : decide (ar < ap) = false := by simp; omega
              go_wp2
              go_quiet (fail)
              go_wp2
              go_roundw
              case rel => exact ⟨r + 1, _, by omega, by omega, by go_num, rfl⟩
              case measure => simp [intOf]; omega
          · go_wp2
            go_roundw
            case rel => exact ⟨p + 1, _, by omega, by go_num, rfl⟩
            case measure => simp [intOf]; omega
      · go_wp2_with fail
        refine (awake03_any _).mono ?_
        rintro e wd ⟨rfl, hbd⟩
        go_wp2
        go_ret
        exact ⟨rfl, (below_drewN hB q).trans (hbd.mono (below_drewN hB q).size)⟩
  · have b1 : (chkErr t ys != 0) = true := by simpa using hE
    generalize chkErr t ys = er at *
    clear hE
    go_wp2_with fail
    refine (awake03_any _).mono ?_
    rintro e wd ⟨rfl, hbd⟩
    go_wp2
    go_ret
    exact ⟨rfl, hB.trans (hbd.mono hB.size)⟩

/-- What Cap gives to weights in range. -/
theorem cap_facts (t : Int) (ys : List Int) (ht0 : 0 ≤ t) (ht1 : t ≤ 1000000000000) (hl : ys.length ≤ 1000) (ha : AllIn ys) :
    capErr t ys = 0 ∧ (capOut t ys).length = ys.length ∧ (∀ i, i < ys.length → 0 ≤ (capOut t ys).getD i 0 ∧ (capOut t ys).getD i 0 ≤ ys.getD i 0) ∧ (capOut t ys).sum = min t ys.sum := by
  by_cases hn : ys.length = 0
  · have h0 : ys = [] := List.eq_nil_of_length_eq_zero hn
    subst h0
    have hc : chkErr t [] = 0 ∨ chkErr t [] = 7 := by
      unfold chkErr
      rw [if_neg (by simp), if_neg (by omega), if_pos ha]
      split <;> simp
    have hO : capOut t [] = [] := by
      unfold capOut
      rcases hc with e | e
      · rw [if_pos e, if_pos (by simpa using ht0)]
      · rw [if_neg (by omega)]
    refine ⟨?_, by rw [hO], fun i hi => by simp at hi, by rw [hO]; simp; omega⟩
    unfold capErr
    rcases hc with e | e <;> simp [e]
  · have hc := chk_ok (t := t) (ws := ys) ht0 ht1 hl (by omega) ha
    have hN : NonNeg ys := fun i => (ha i).1
    have hE : capErr t ys = 0 := by unfold capErr; rw [hc]; simp
    by_cases hs : ys.sum ≤ t
    · have hO : capOut t ys = ys := by unfold capOut; rw [if_pos hc, if_pos hs]
      rw [hO]
      exact ⟨hE, rfl, fun i _ => ⟨hN i, Int.le_refl _⟩, by omega⟩
    · have hO : capOut t ys = shareL t ys := by unfold capOut; rw [if_pos hc, if_neg hs]
      rw [hO]
      refine ⟨hE, shareL_length _ _, fun i hi => ?_, ?_⟩
      · rw [shareL_get t ys i hi]
        exact ⟨share_nonneg hN ht0 (by omega) i, share_le_weight hN (by omega) ht0 (by omega) i hi⟩
      · have : (shareL t ys).sum = sumN ys.length (shareI t ys) := rfl
        rw [this, sum_share hN (by omega)]
        omega

set_option maxRecDepth 100000 in
set_option maxHeartbeats 4000000 in
theorem walkCapBounds (n : Int) (A : Option Addr) (len cap : Nat) (xs : List Int) (small : Bool) (w : World) (h : Ints w A len xs) (hlc : len ≤ cap) (hcm : cap ≤ 9223372036854775807) :
    Calls Try.prog 8 #[.int .i64 n, .slice A len cap, .bool small] w fun e w' => e = .returned (.bool true) ∧ RowKit.Below w.heap.size w w' := by
  have HT := Lib.hid (fun w => total_any n small w)
  have HW := Lib.hid (fun w h => weights_any len cap A small xs w h hlc hcm)
  go_enter Try.func8, Try.ntmps8
  go_wp2_with fail
  refine (HT.out _).mono ?_
  rintro e w1 ⟨t, ht0, ht1, rfl, rfl⟩
  go_wp2_with fail
  refine (HW.out _ h).mono ?_
  rintro e w2 ⟨A', c', ys, rfl, hys, how, hbw⟩
  have hmm : min len 60 ≤ 60 := Nat.min_le_right _ _
  obtain ⟨m, hm⟩ : ∃ m, m = min len 60 := ⟨_, rfl⟩
  rw [← hm] at how hmm ⊢
  have hI := IntsK.of_own how
  have HL := Lib.hid hI.1
  obtain ⟨f1, f2, f3, f4⟩ := cap_facts t ys ht0 ht1 (by have := HL.out; omega) hys
  have HYS := Lib.hid hys
  clear hm hys how
  go_wp2_with fail
  refine (cap_any t A' m c' ys _ hI (by omega)).mono ?_
  rintro e wa ⟨A1, n1, k1, rfl, ho1, hb1⟩
  have hB := hbw.trans (hb1.mono hbw.size)
  rw [f1]
  obtain rfl : m = n1 := by have := own_len ho1; rw [f2, HL.out] at this; exact this
  have hIA := IntsK.of_own ho1
  have hIL := hI.below hb1
  have HOL := Lib.hid (f2.trans HL.out)
  have HF3 := Lib.hid f3
  have HF4 := Lib.hid f4
  clear f1 f2 f3 f4 ho1 hb1 hI
  generalize capOut t ys = out at *
  go_wp2
  go_loopw [9, 10, 11] (fun gv ak i wr => ∃ p q : Nat, p ≤ m ∧ i = .int .i64 p ∧ gv = .int .i64 (out.take p).sum ∧ ak = .int .i64 (ys.take p).sum ∧ wr = wa.drewN q) (fun _ _ i _ => m - (intOf i).toNat)
  case atStart => exact ⟨0, 0, Nat.zero_le _, rfl, by simp, by simp, rfl⟩
  case round =>
    obtain ⟨p, q, hp, rfl, rfl, rfl, rfl⟩ := hrel
    by_cases hlt : p < m
    · obtain ⟨b1, o1, ap, hA1, _, hc1, HX1⟩ := hIA.get hlt
      subst hA1
      obtain ⟨b2, o2, yp, hA2, _, hc3, HX3⟩ := hIL.get hlt
      subst hA2
      have hbd := HF3.out p (by have := HL.out; omega)
      have hy := HYS.out p
      rw [HX1.out, HX3.out] at hbd
      rw [HX3.out] at hy
      have hS1 := sum_take_bound ys 1000000000000 HYS.out p (by have := HL.out; omega)
      have hout : ∀ i : Nat, 0 ≤ out.getD i 0 ∧ out.getD i 0 ≤ 1000000000000 := fun i => by
        by_cases hi : i < m
        · have h1 := HF3.out i (by have := HL.out; omega)
          have h2 := HYS.out i
          omega
        · simp [List.getD, List.getElem?_eq_none (show out.length ≤ i by have := HOL.out; omega)]
      have hS2 := sum_take_bound out 1000000000000 hout p (by have := HOL.out; omega)
      have HQ1 := Lib.hid (sum_take_succ ys p (by have := HL.out; omega))
      have HQ2 := Lib.hid (sum_take_succ out p (by have := HOL.out; omega))
      rw [HX3.out] at HQ1
      rw [HX1.out] at HQ2
      clear hout
      generalize (ys.take p).sum = sy at *
      generalize (out.take p).sum = so at *
      have i1 : (0 : Int) ≤ (p : Int) := by omega
      have i2 : (p : Int) < (m : Int) := by omega
      have u1 : IntKind.i64.wrap (so + ap) = so + ap := IntWalk.i64_in _ (by omega)
      have u2 : IntKind.i64.wrap (sy + yp) = sy + yp := IntWalk.i64_in _ (by omega)
      have d1 : decide (ap < 0) = false := by simp; omega
      have d2 : decide (yp < ap) = false := by simp; omega
      go_wp2
      go_quiet (fail)
      go_wp2
      go_quiet (fail)
      go_wp2
      go_roundw
      case rel => exact ⟨p + 1, _, by omega, by go_num, by rw [HQ2.out], by rw [HQ1.out], rfl⟩
      case measure => simp [intOf]; omega
    · obtain rfl : p = m := by omega
      rw [List.take_of_length_le (by have := HOL.out; omega), List.take_of_length_le (by have := HL.out; omega), HF4.out]
      generalize ys.sum = S at *
      have bq : (min t S == min t S) = true := by simp
      go_wp2_with fail
      refine (awake03_any _).mono ?_
      rintro e wd ⟨rfl, hbd⟩
      go_wp2
      go_ret
      exact ⟨rfl, (below_drewN hB q).trans (hbd.mono (below_drewN hB q).size)⟩
end Go.Proofs.Ytpadpohaadfefaa

/-
  The walk of the law ShareSum: the law returns true. No statement of the seat is proved here. Conditions: the slice reads as integers.
-/
import Derived.Test.YtpadpohaadfefaaLaw03b
namespace Go.Proofs.Ytpadpohaadfefaa
open Go.RowKit
set_option linter.unusedVariables false

theorem sum_range (m : Nat) (f : Nat → Int) : ((List.range m).map f).sum = sumN m f := rfl
theorem getD_range (m : Nat) (f : Nat → Int) (i : Nat) (h : i < m) : ((List.range m).map f).getD i 0 = f i := by simp [List.getD, h]
theorem getD_range_out (m : Nat) (f : Nat → Int) (i : Nat) (h : ¬ i < m) : ((List.range m).map f).getD i 0 = 0 := by simp [List.getD, h]

theorem sumN_part {f : Nat → Int} (h : ∀ i, 0 ≤ f i) (p n : Nat) (hp : p ≤ n) : 0 ≤ sumN p f ∧ sumN p f ≤ sumN n f := by
  refine ⟨sumN_nonneg fun i _ => h i, ?_⟩
  have h1 : ∀ m, sumN p f ≤ sumN (p + m) f := by
    intro m
    induction m with
    | zero => exact Int.le_refl _
    | succ m ih => rw [← Nat.add_assoc, sumN_succ]; have := h (p + m); omega
  have h2 := h1 (n - p)
  rwa [show p + (n - p) = n by omega] at h2

/-- Weights in range, not empty, give no error. -/
theorem chk_ok {t : Int} {ws : List Int} (h0 : 0 ≤ t) (h1 : t ≤ 1000000000000) (hl : ws.length ≤ 1000) (hn : 0 < ws.length) (ha : AllIn ws) : chkErr t ws = 0 := by
  unfold chkErr
  rw [if_neg (by omega), if_neg (by omega), if_pos ha, if_neg (by omega)]

set_option maxRecDepth 100000 in
set_option maxHeartbeats 4000000 in
theorem walkShareSum (n : Int) (A : Option Addr) (len cap : Nat) (xs : List Int) (w : World) (h : Ints w A len xs) (hlc : len ≤ cap) (hcm : cap ≤ 9223372036854775807) :
    Calls Try.prog 4 #[.int .i64 n, .slice A len cap] w fun e w' => e = .returned (.bool true) ∧ RowKit.Below w.heap.size w w' := by
  have HT := Lib.hid (fun w => total_any n false w)
  have HW := Lib.hid (fun w h => weights_any len cap A false xs w h hlc hcm)
  go_enter Try.func4, Try.ntmps4
  go_wp2_with fail
  refine (HT.out _).mono ?_
  rintro e w1 ⟨t0, ht0, ht1, rfl, rfl⟩
  go_wp2_with fail
  refine (HW.out _ h).mono ?_
  rintro e w2 ⟨A', c', ys, rfl, hys, how, hbw⟩
  have hmm : min len 60 ≤ 60 := Nat.min_le_right _ _
  obtain ⟨m, hm⟩ : ∃ m, m = min len 60 := ⟨_, rfl⟩
  rw [← hm] at how hmm ⊢
  have HYS := Lib.hid hys
  obtain ⟨T, hT⟩ : ∃ T, t0 % 1000000 = T := ⟨_, rfl⟩
  have hT0 : 0 ≤ T := by omega
  have hT1 : T < 1000000 := by omega
  rw [hT]
  clear hm hys hT ht0 ht1
  by_cases hm0 : m = 0
  · subst hm0
    have hI := IntsK.of_own how
    have hl0 : ys = [] := List.eq_nil_of_length_eq_zero (own_len how)
    subst hl0
    have hE : (chkErr T [] == 7) = decide (0 < T) := by
      unfold chkErr
      simp only [List.length_nil]
      rw [if_neg (by omega), if_neg (by omega), if_pos (show AllIn [] from fun i => by simp)]
      by_cases hp : 0 < T
      · simp [hp]
      · simp [hp]
    go_wp2
    go_loop [5, 7] (fun s i => i = .int .i64 0 ∧ s = .int .i64 0) (fun _ _ => 0)
    case atStart => exact ⟨rfl, rfl⟩
    case round =>
      obtain ⟨rfl, rfl⟩ := hrel
      go_wp2_with fail
      refine (share_any T A' 0 c' [] _ hI (by omega)).mono ?_
      rintro e wa ⟨A1, n1, k1, rfl, ho1, hb1⟩
      have hB := hbw.trans (hb1.mono hbw.size)
      generalize chkErr T [] = er at *
      go_wp2_with fail
      refine (awake03_any _).mono ?_
      rintro e wd ⟨rfl, hbd⟩
      go_wp2
      go_ret
      exact ⟨rfl, hB.trans (hbd.mono hB.size)⟩
  · obtain ⟨g, cs, hA, hg, HB, hcs, hcm', HR⟩ := own_prow how (by omega)
    subst hA
    have HCS := Lib.hid hcs
    have hle := HR.1
    rw [hcs] at hle
    clear hcs how
    obtain ⟨F, hF⟩ : ∃ F : Nat → Int, F = fun j => ys.getD j 0 % 1000000 := ⟨_, rfl⟩
    have HF := Lib.hid hF
    have HFB : Hid (∀ j, 0 ≤ F j ∧ F j < 1000000) := fun j => by rw [hF]; show 0 ≤ ys.getD j 0 % 1000000 ∧ ys.getD j 0 % 1000000 < 1000000; omega
    have HR0 : PRow cs m (fun j => if j < 0 then F j else ys.getD j 0) := HR.congr (fun j hj => by simp)
    clear hF HR
    go_wp2
    go_loopw [5, 7] (fun s i wr => ∃ (k : Nat) (cs : Array Value), k ≤ m ∧ i = .int .i64 k ∧ s = .int .i64 (sumN k F) ∧ Bl wr g 3 cs ∧ cs.size = c' ∧ PRow cs m (fun j => if j < k then F j else ys.getD j 0) ∧ RowKit.Below w.heap.size w wr) (fun _ i _ => m - (intOf i).toNat)
    case atStart => exact ⟨0, cs, Nat.zero_le _, rfl, rfl, HB, HCS.out, HR0, hbw⟩
    case round =>
      clear HB HCS HR0 hbw
      obtain ⟨k, cs, hk, rfl, rfl, HB, hcs, HR, hbel⟩ := hrel
      have HCS := Lib.hid hcs
      clear hcs
      by_cases hlt : k < m
      · have c1 := HR.cell HB hlt
        rw [if_neg (by omega)] at c1
        have f1 : wr.frozen? ⟨g, k, none⟩ = false := HB.free k
        have hbd := HYS.out k
        have hFk : ys.getD k 0 % 1000000 = F k := by rw [HF.out]
        have HS : Hid (∀ v, F k = v → PRow (cs.setIfInBounds k (.int .i64 v)) m (fun j => if j < k + 1 then F j else ys.getD j 0)) := fun v hv => HR.set k v hlt (fun j hj => by
          by_cases e : j = k
          · subst e; rw [if_pos (by omega), if_pos rfl, hv]
          · rw [if_neg e]; by_cases e2 : j < k
            · rw [if_pos e2, if_pos (by omega)]
            · rw [if_neg e2, if_neg (by omega)])
        have HQ := Lib.hid (sumN_succ k F)
        have hs0 : 0 ≤ sumN k F := sumN_nonneg fun j _ => (HFB.out j).1
        have hs1 : sumN k F ≤ 60000000 := by
          have := sumN_le (n := k) (f := F) (g := fun _ => 1000000) (fun j _ => by have := HFB.out j; omega)
          rw [sumN_const] at this
          omega
        have hf := HFB.out k
        generalize ys.getD k 0 = x at *
        generalize sumN k F = s at *
        generalize F k = fk at *
        go_wp2
        go_roundw
        case rel => exact ⟨k + 1, _, by omega, by go_num, by rw [HQ.out], HB.put _ _, by rw [Array.size_setIfInBounds]; exact HCS.out, HS.out _ rfl, hbel.setCell hg _⟩
        case measure => simp [intOf]; omega
      · obtain rfl : k = m := by omega
        have hO := HR.congr (g := F) (fun j hj => by simp [hj])
        have how := hO.own HB hg HCS.out hcm'
        have hI := IntsK.of_own how
        have hZ : AllIn ((List.range k).map F) := fun i => by
          by_cases hi : i < k
          · rw [getD_range k F i hi]; have := HFB.out i; omega
          · rw [getD_range_out k F i hi]; omega
        have hE : chkErr T ((List.range k).map F) = 0 := chk_ok hT0 (by omega) (by simp; omega) (by simp; omega) hZ
        have HSH := Lib.hid (share_any T (some ⟨g, 0, none⟩) k c' ((List.range k).map F) wr hI (by omega))
        rw [hE] at HSH
        have hOut : shareOut T ((List.range k).map F) = shareL T ((List.range k).map F) := by unfold shareOut; rw [if_pos hE]
        rw [hOut] at HSH
        clear hE hOut hO HR
        go_wp2_with fail
        refine HSH.out.mono ?_
        rintro e wa ⟨A1, n1, k1, rfl, ho1, hb1⟩
        obtain rfl : k = n1 := by have := own_len ho1; rw [shareL_length] at this; simpa using this
        have hIA := IntsK.of_own ho1
        have hIL := hI.below hb1
        have hB := hbel.trans (hb1.mono hbel.size)
        have hlen : ((List.range k).map F).length = k := by simp
        have hN : NonNeg ((List.range k).map F) := fun i => (hZ i).1
        obtain ⟨zs, hzs⟩ : ∃ zs, zs = (List.range k).map F := ⟨_, rfl⟩
        rw [← hzs] at hIA hIL hN hlen
        have HZF : Hid (∀ i, i < k → zs.getD i 0 = F i) := fun i hi => by rw [hzs]; exact getD_range k F i hi
        have HSumZ : Hid (zs.sum = sumN k F) := by rw [hzs]; exact rfl
        have HN := Lib.hid hN
        have HLEN := Lib.hid hlen
        have HTOT : Hid (sumN k (shareI T zs) = T) := by have := sum_share (t := T) hN (by omega); rw [hlen] at this; exact this
        clear hN hlen hzs ho1 hb1 hI how HSH hZ HB HCS
        have hS0 : 0 ≤ sumN k F := sumN_nonneg fun j _ => (HFB.out j).1
        have hS1 : sumN k F ≤ 60000000 := by
          have := sumN_le (n := k) (f := F) (g := fun _ => 1000000) (fun j _ => by have := HFB.out j; omega)
          rw [sumN_const] at this
          omega
        obtain ⟨S, hS⟩ : ∃ S, sumN k F = S := ⟨_, rfl⟩
        rw [hS] at hS0 hS1 ⊢
        have HS := Lib.hid hS
        clear hS
        have b0 : ((k : Int) == 0) = false := by simp; omega
        go_wp2
        go_loopw [6, 10] (fun s i wr => ∃ p q : Nat, p ≤ k ∧ i = .int .i64 p ∧ s = .int .i64 (sumN p (shareI T zs)) ∧ wr = wa.drewN q) (fun _ i _ => k - (intOf i).toNat)
        case atStart => exact ⟨0, 0, Nat.zero_le _, rfl, rfl, rfl⟩
        case round =>
          obtain ⟨p, q, hp, rfl, rfl, rfl⟩ := hrel
          by_cases hlt2 : p < k
          · obtain ⟨b1, o1, x, hA1, _, hc1, HX⟩ := hIA.get hlt2
            subst hA1
            obtain ⟨b2, o2, y, hA2, _, hc2, HY⟩ := hIL.get hlt2
            have hc3 : wa.cell? ⟨g, p, none⟩ = some (.int .i64 y) := by
              have e1 : b2 = g ∧ o2 = 0 := by simpa [eq_comm] using hA2
              rw [e1.1, e1.2, Nat.zero_add] at hc2
              exact hc2
            clear hc2 hA2
            have hlen := HLEN.out
            have hx : shareI T zs p = x := by rw [← HX.out, shareL_get T zs p (by omega)]
            have hy : F p = y := by rw [← HZF.out p hlt2, HY.out]
            have hx0 : 0 ≤ x := by rw [← hx]; exact share_nonneg HN.out hT0 (by omega) p
            have hx1 : x ≤ T := by rw [← hx]; exact share_le_total HN.out hT0 (by omega) p (by omega)
            have hy0 := HFB.out p
            rw [hy] at hy0
            have HQ := Lib.hid (sumN_succ p (shareI T zs))
            rw [hx] at HQ
            obtain ⟨hs0, hs1⟩ := sumN_part (f := shareI T zs) (fun i => share_nonneg HN.out hT0 (by omega) i) p k hp
            rw [HTOT.out] at hs1
            have hP0 : 0 ≤ T * y := Int.mul_nonneg hT0 hy0.1
            have hP1 : T * y ≤ 1000000 * 1000000 := Int.mul_le_mul (by omega) (by omega) hy0.1 (by omega)
            have i1 : (0 : Int) ≤ (p : Int) := by omega
            have i2 : (p : Int) < (k : Int) := by omega
            by_cases hSp : 0 < S
            · have hwS : wsum zs = S := by unfold wsum; rw [HSumZ.out, HS.out, if_neg (by omega)]
              have hwy : wt zs p = y := by unfold wt; rw [HSumZ.out, HS.out, if_neg (by omega), HY.out]
              have q1 := share_ge T zs p
              have q2 := share_ceil (t := T) HN.out (by omega) p (by omega)
              unfold quoI at q1
              rw [hx, hwS, hwy] at q1 q2
              obtain ⟨P, hP⟩ : ∃ P, T * y = P := ⟨_, rfl⟩
              rw [hP] at q1 q2 hP0 hP1
              have d0 : decide (0 < S) = true := by simpa using hSp
              have w1 : IntKind.i64.wrap P = P := IntWalk.i64_in _ (by omega)
              have w2 : IntKind.i64.wrap (P.tdiv S) = P / S := IntWalk.i64_quo P S ⟨hP0, by omega, by omega⟩
              have w3 : IntKind.i64.wrap (P + S) = P + S := IntWalk.i64_in _ (by omega)
              have w4 : IntKind.i64.wrap (P + S - 1) = P + S - 1 := IntWalk.i64_in _ (by omega)
              have w5 : IntKind.i64.wrap ((P + S - 1).tdiv S) = (P + S - 1) / S := IntWalk.i64_quo _ S ⟨by omega, by omega, by omega⟩
              have d1 : decide (x < P / S) = false := by simp; omega
              have d2 : decide ((P + S - 1) / S < x) = false := by simp; omega
              have b1 : (S == 0) = false := by simp; omega
              have b2 : S ≠ 0 := by omega
              generalize P / S = z1 at *
              generalize (P + S - 1) / S = z2 at *
              generalize sumN p (shareI T zs) = s at *
              clear q1 q2 hwS hwy hx hy
              go_wp2
              go_quiet (fail)
              go_wp2
              go_roundw
              case rel => exact ⟨p + 1, _, by omega, by go_num, by rw [HQ.out], rfl⟩
              case measure => simp [intOf]; omega
            · have d0 : decide (0 < S) = false := by simpa using hSp
              generalize sumN p (shareI T zs) = s at *
              clear hx hy
              go_wp2
              go_quiet (fail)
              go_wp2
              go_roundw
              case rel => exact ⟨p + 1, _, by omega, by go_num, by rw [HQ.out], rfl⟩
              case measure => simp [intOf]; omega
          · obtain rfl : p = k := by omega
            rw [HTOT.out]
            go_wp2_with fail
            refine (awake03_any _).mono ?_
            rintro e wd ⟨rfl, hbd⟩
            go_wp2
            go_ret
            exact ⟨rfl, (below_drewN hB q).trans (hbd.mono (below_drewN hB q).size)⟩
end Go.Proofs.Ytpadpohaadfefaa

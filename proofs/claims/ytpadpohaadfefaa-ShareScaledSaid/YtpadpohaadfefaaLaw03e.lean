/-
  The walk of the law ShareScaled: the law returns true. No statement of the seat is proved here. Conditions: the slice reads as integers.
-/
import Derived.Test.YtpadpohaadfefaaLaw03d
namespace Go.Proofs.Ytpadpohaadfefaa
open Go.RowKit
set_option linter.unusedVariables false

theorem chk_len (t : Int) (xs ys : List Int) (h : xs.length = ys.length) (h1 : AllIn xs) (h2 : AllIn ys) : chkErr t xs = chkErr t ys := by
  unfold chkErr
  rw [h, if_pos h1, if_pos h2]

theorem mulF_bounds (K f : Int) (h1 : 1 ≤ K) (h2 : K ≤ 1000) (h3 : 0 ≤ f) (h4 : f < 1000000) : 0 ≤ K * f ∧ K * f ≤ 1000000000 := by
  have a : 0 ≤ K * f := Int.mul_nonneg (by omega) h3
  have b : K * f ≤ 1000 * 1000000 := Int.mul_le_mul h2 (by omega) h3 (by omega)
  omega

set_option maxRecDepth 100000 in
set_option maxHeartbeats 4000000 in
theorem walkShareScaled (n : Int) (A : Option Addr) (len cap : Nat) (xs : List Int) (fac : Int) (w : World) (h : Ints w A len xs) (hlc : len ≤ cap) (hcm : cap ≤ 9223372036854775807) :
    Calls Try.prog 6 #[.int .i64 n, .slice A len cap, .int .i64 fac] w fun e w' => e = .returned (.bool true) ∧ RowKit.Below w.heap.size w w' := by
  have HT := Lib.hid (fun w => total_any n false w)
  have HW := Lib.hid (fun w h => weights_any len cap A false xs w h hlc hcm)
  have hfb := tmod_bounds fac 1000 (by omega)
  obtain ⟨y, hy⟩ : ∃ y, fac.tmod 1000 = y := ⟨_, rfl⟩
  rw [hy] at hfb
  go_enter Try.func6, Try.ntmps6
  go_wp2_with fail
  refine (HT.out _).mono ?_
  rintro e w1 ⟨t, ht0, ht1, rfl, rfl⟩
  go_wp2_with fail
  refine (HW.out _ h).mono ?_
  rintro e w2 ⟨A', c', ys, rfl, hys, how, hbw⟩
  have hmm : min len 60 ≤ 60 := Nat.min_le_right _ _
  obtain ⟨m, hm⟩ : ∃ m, m = min len 60 := ⟨_, rfl⟩
  rw [← hm] at how hmm ⊢
  have HYS := Lib.hid hys
  clear hm hys
  obtain ⟨C1, HC1, hmk1⟩ := make_any (P := Try.prog) 22 3 _ 1 8 m Try.underlying22 infoI (by omega) (by omega)
  by_cases hm0 : m = 0
  · subst hm0
    have hI := IntsK.of_own how
    obtain rfl : ys = [] := List.eq_nil_of_length_eq_zero (own_len how)
    have hmk2 : ∀ w : World, (Instr.makeSlice 22 (.int .i64 0) (.int .i64 0)).run Try.prog w = .ok (.slice (some ⟨w.heap.size, 0, none⟩) 0 0) (w.alloc (.cells C1 3)) := hmk1
    clear hmk1
    go_wp2
    go_loop [9] (fun i => i = .int .i64 0) (fun _ => 0)
    case atStart => exact rfl
    case round =>
      obtain rfl := hrel
      go_wp2_with fail
      refine (share_any t A' 0 c' [] _ (hI.alloc _) (by omega)).mono ?_
      rintro e wa ⟨A1, n1, k1, rfl, ho1, hb1⟩
      go_wp2_with fail
      refine (share_any t (some ⟨w2.heap.size, 0, none⟩) 0 0 [] _ IntsK.nil (by omega)).mono ?_
      rintro e wb ⟨A2, n2, k2, rfl, ho2, hb2⟩
      obtain rfl : n1 = n2 := (own_len ho1).symm.trans (own_len ho2)
      have hI1 := (IntsK.of_own ho1).below hb2
      have hI2 := IntsK.of_own ho2
      have hn1 := own_le ho2
      have hB := hbw.alloc hbw.size (.cells C1 3)
      have hB := hB.trans (hb1.mono hB.size)
      have hB := hB.trans (hb2.mono hB.size)
      clear ho1 ho2 hb1 hb2
      generalize chkErr t [] = er at *
      generalize shareOut t [] = out at *
      go_wp2_with fail
      refine (same_true A1 A2 n1 k1 k2 out _ hI1 hI2 hn1).mono ?_
      rintro e wc ⟨rfl, q3, rfl⟩
      go_wp2_with fail
      refine (awake03_any _).mono ?_
      rintro e wd ⟨rfl, hbd⟩
      go_wp2
      go_ret
      exact ⟨rfl, (below_drewN hB q3).trans (hbd.mono (below_drewN hB q3).size)⟩
  · obtain ⟨g, cs, hA, hg, HB, hcs, hcm', HR⟩ := own_prow how (by omega)
    subst hA
    have HCS := Lib.hid hcs
    have hle := HR.1
    rw [hcs] at hle
    have hgl := HB.lt
    clear hcs how
    obtain ⟨F, hF⟩ : ∃ F : Nat → Int, F = fun j => ys.getD j 0 % 1000000 := ⟨_, rfl⟩
    have HF := Lib.hid hF
    have HFB : Hid (∀ j, 0 ≤ F j ∧ F j < 1000000) := fun j => by rw [hF]; show 0 ≤ ys.getD j 0 % 1000000 ∧ ys.getD j 0 % 1000000 < 1000000; omega
    have HR0 : PRow cs m (fun j => if j < 0 then F j else ys.getD j 0) := HR.congr (fun j hj => by simp)
    have HZ := Lib.hid (IntRow.zeros HC1.out)
    clear hF HR
    go_wp2
    obtain ⟨K, hK⟩ : ∃ K, 1 + max y (-y) = K := ⟨_, rfl⟩
    have hK1 : 1 ≤ K := by omega
    have hK2 : K ≤ 1000 := by omega
    rw [hK]
    clear hK hfb hy
    go_loopw [9] (fun i wr => ∃ (k : Nat) (cs c2 : Array Value), k ≤ m ∧ i = .int .i64 k ∧ Bl wr g 3 cs ∧ cs.size = c' ∧ PRow cs m (fun j => if j < k then F j else ys.getD j 0) ∧ Bl wr w2.heap.size 3 c2 ∧ IntRow c2 m (fun j => if j < k then K * F j else 0) ∧ RowKit.Below w.heap.size w wr) (fun i _ => m - (intOf i).toNat)
    case atStart => exact ⟨0, cs, C1, Nat.zero_le _, rfl, HB.alloc _, HCS.out, HR0, Bl.new _ _ _, HZ.out.congr (fun j _ => by simp), hbw.alloc hbw.size _⟩
    case round =>
      have hbs := hbw.size
      clear HB HCS HR0 hbw HZ HC1
      obtain ⟨k, cs, c2, hk, rfl, HB, hcs, HR, HB2, HR2, hbel⟩ := hrel
      have HCS := Lib.hid hcs
      clear hcs
      by_cases hlt : k < m
      · have c1 := HR.cell HB hlt
        have c3 := HR2.cell HB2 hlt
        rw [if_neg (by omega)] at c1 c3
        have f1 : wr.frozen? ⟨g, k, none⟩ = false := HB.free k
        have f2 : wr.frozen? ⟨w2.heap.size, k, none⟩ = false := HB2.free k
        have hne : g ≠ w2.heap.size := by omega
        have hne' : w2.heap.size ≠ g := by omega
        have hbd := HYS.out k
        have hFk : ys.getD k 0 % 1000000 = F k := by rw [HF.out]
        have HS : Hid (∀ v, F k = v → PRow (cs.setIfInBounds k (.int .i64 v)) m (fun j => if j < k + 1 then F j else ys.getD j 0)) := fun v hv => HR.set k v hlt (fun j hj => by
          by_cases e : j = k
          · subst e; rw [if_pos (by omega), if_pos rfl, hv]
          · rw [if_neg e]; by_cases e2 : j < k
            · rw [if_pos e2, if_pos (by omega)]
            · rw [if_neg e2, if_neg (by omega)])
        have HS2 : Hid (∀ v, K * F k = v → IntRow (c2.setIfInBounds k (.int .i64 v)) m (fun j => if j < k + 1 then K * F j else 0)) := fun v hv => HR2.set k v (fun j hj => by
          by_cases e : j = k
          · subst e; rw [if_pos (by omega), if_pos rfl, hv]
          · rw [if_neg e]; by_cases e2 : j < k
            · rw [if_pos e2, if_pos (by omega)]
            · rw [if_neg e2, if_neg (by omega)])
        have hf := HFB.out k
        have hKF := mulF_bounds K (F k) hK1 hK2 hf.1 hf.2
        generalize ys.getD k 0 = x at *
        generalize F k = fk at *
        have HFK := Lib.hid hFk
        clear hFk
        go_wp2
        rw [HFK.out, IntWalk.wrap64_in (K * fk) ⟨by omega, by omega⟩]
        go_roundw
        case rel => exact ⟨k + 1, _, _, by omega, by go_num, (HB.put _ _).far (p := ⟨w2.heap.size, k, none⟩) hne _, by rw [Array.size_setIfInBounds]; exact HCS.out, HS.out _ rfl, (HB2.far (p := ⟨g, k, none⟩) hne' _).put _ _, HS2.out _ rfl, (hbel.setCell (p := ⟨g, k, none⟩) hg _).setCell (p := ⟨w2.heap.size, k, none⟩) hbs _⟩
        case measure => simp [intOf]; omega
      · obtain rfl : k = m := by omega
        have hO1 := HR.congr (g := F) (fun j hj => by simp [hj])
        have hO2 := HR2.congr (g := fun j => K * F j) (fun j hj => by simp [hj])
        have how1 := hO1.own HB hg HCS.out hcm'
        have how2 := hO2.own HB2 hbs (by omega)
        have hI1 := IntsK.of_own how1
        have hI2 := IntsK.of_own how2
        have hZ1 : AllIn ((List.range k).map F) := fun i => by
          by_cases hi : i < k
          · rw [getD_range k F i hi]; have := HFB.out i; omega
          · rw [getD_range_out k F i hi]; omega
        have hZ2 : AllIn ((List.range k).map (fun j => K * F j)) := fun i => by
          by_cases hi : i < k
          · rw [getD_range k _ i hi]; have h1 := HFB.out i; have := mulF_bounds K (F i) hK1 hK2 h1.1 h1.2; omega
          · rw [getD_range_out k _ i hi]; omega
        have e1 := chk_len t ((List.range k).map (fun j => K * F j)) ((List.range k).map F) (by simp) hZ2 hZ1
        have e2 := shareL_scale t K ((List.range k).map F) ((List.range k).map (fun j => K * F j)) (by omega) (by simp) (fun i hi => by rw [List.length_map, List.length_range] at hi; rw [getD_range k _ i hi, getD_range k _ i hi]) (fun i => (hZ1 i).1)
        have e3 : shareOut t ((List.range k).map (fun j => K * F j)) = shareOut t ((List.range k).map F) := by unfold shareOut; rw [e1, e2]
        have HS2 := Lib.hid (fun w h => share_any t (some ⟨w2.heap.size, 0, none⟩) k k ((List.range k).map (fun j => K * F j)) w h (by omega))
        rw [e1, e3] at HS2
        clear e1 e2 e3 hO1 hO2 how1 how2 HR HR2 HB HB2
        obtain ⟨zs, hzs⟩ : ∃ zs, zs = (List.range k).map F := ⟨_, rfl⟩
        obtain ⟨us, hus⟩ : ∃ us, us = (List.range k).map (fun j => K * F j) := ⟨_, rfl⟩
        rw [← hzs] at hI1 HS2
        rw [← hus] at hI2 HS2
        clear hzs hus hZ1 hZ2
        go_wp2_with fail
        refine (share_any t (some ⟨g, 0, none⟩) k c' zs _ hI1 (by omega)).mono ?_
        rintro e wa ⟨A1, n1, k1, rfl, ho1, hb1⟩
        go_wp2_with fail
        refine (HS2.out _ (hI2.below hb1)).mono ?_
        rintro e wb ⟨A2, n2, k2, rfl, ho2, hb2⟩
        obtain rfl : n1 = n2 := (own_len ho1).symm.trans (own_len ho2)
        have hJ1 := (IntsK.of_own ho1).below hb2
        have hJ2 := IntsK.of_own ho2
        have hn1 := own_le ho2
        have hB := hbel.trans (hb1.mono hbel.size)
        have hB := hB.trans (hb2.mono hB.size)
        clear ho1 ho2 hb1 hb2 HS2
        generalize chkErr t zs = er at *
        generalize shareOut t zs = out at *
        go_wp2_with fail
        refine (same_true A1 A2 n1 k1 k2 out _ hJ1 hJ2 hn1).mono ?_
        rintro e wc ⟨rfl, q3, rfl⟩
        go_wp2_with fail
        refine (awake03_any _).mono ?_
        rintro e wd ⟨rfl, hbd⟩
        go_wp2
        go_ret
        exact ⟨rfl, (below_drewN hB q3).trans (hbd.mono (below_drewN hB q3).size)⟩
end Go.Proofs.Ytpadpohaadfefaa

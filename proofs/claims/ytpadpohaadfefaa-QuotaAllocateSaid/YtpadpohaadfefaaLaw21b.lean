/-
  The walk of the law QuotaExact. No statement of the seat is proved here. Conditions: the slice reads as integers.
-/
import Derived.Test.YtpadpohaadfefaaAwake21
namespace Go.Proofs.Ytpadpohaadfefaa
open Go.RowKit
set_option linter.unusedVariables false

theorem grant_get (t : Int) (xs : List (Int × Int)) (i : Nat) (h : i < xs.length) : (grantsOf t xs)[i]! = (xs[i]!.1, grantV t xs i) := by
  rw [getElem!_pos _ i (by rw [grantsOf_len]; exact h)]
  simp [grantsOf]

theorem qs_grants (t : Int) (xs : List (Int × Int)) : qsOf (grantsOf t xs) = if (qsOf xs).sum ≤ t then qsOf xs else shareL t (qsOf xs) := by
  have h1 : qsOf (grantsOf t xs) = (List.range xs.length).map (grantV t xs) := by simp [qsOf, grantsOf]
  rw [h1]
  by_cases h : (qsOf xs).sum ≤ t
  · rw [if_pos h]
    conv => rhs; rw [← range_getD (qsOf xs) xs.length (qsOf_len xs)]
    refine List.map_congr_left fun i hi => ?_
    rw [qsOf_get xs i (List.mem_range.1 hi)]
    unfold grantV
    rw [if_pos h]
  · rw [if_neg h]
    unfold shareL
    rw [qsOf_len]
    refine List.map_congr_left fun i hi => ?_
    unfold grantV
    rw [if_neg h]

theorem qs_in {xs : List (Int × Int)} (h : okAll xs) (i : Nat) : 0 ≤ (qsOf xs).getD i 0 ∧ (qsOf xs).getD i 0 ≤ 1000000000 := by
  by_cases hi : i < xs.length
  · rw [qsOf_get xs i hi]; exact ⟨(h i hi).2.2.1, (h i hi).2.2.2⟩
  · simp [List.getD, List.getElem?_eq_none (show (qsOf xs).length ≤ i by rw [qsOf_len]; omega)]

/-- What valid requests are granted. -/
theorem grant_facts (t : Int) (xs : List (Int × Int)) (ht0 : 0 ≤ t) (ht1 : t ≤ 1000000000000) (hl : xs.length ≤ 200) (ha : okAll xs) :
    (∀ i, i < xs.length → 0 ≤ grantV t xs i ∧ grantV t xs i ≤ xs[i]!.2) ∧ (qsOf (grantsOf t xs)).sum = min t (qsOf xs).sum := by
  have hA : AllIn (qsOf xs) := fun i => by have := qs_in ha i; omega
  obtain ⟨f1, f2, f3, f4⟩ := cap_facts t (qsOf xs) ht0 ht1 (by rw [qsOf_len]; omega) hA
  have hO : ∀ _ : ¬ xs.length = 0, capOut t (qsOf xs) = if (qsOf xs).sum ≤ t then qsOf xs else shareL t (qsOf xs) := fun h0 => by
    unfold capOut
    rw [if_pos (chk_ok ht0 ht1 (by rw [qsOf_len]; omega) (by rw [qsOf_len]; omega) hA)]
  by_cases h0 : xs.length = 0
  · have e : xs = [] := List.eq_nil_of_length_eq_zero h0
    subst e
    refine ⟨fun i hi => by simp at hi, ?_⟩
    rw [qs_grants, if_pos (by simpa [qsOf] using ht0)]
    simp [qsOf]
    omega
  · have hO := hO h0
    have hq := qs_grants t xs
    rw [← hO] at hq
    refine ⟨fun i hi => ?_, by rw [hq, f4]⟩
    have h1 := f3 i (by rw [qsOf_len]; exact hi)
    rw [← hq, qsOf_get _ i (by rw [grantsOf_len]; exact hi), grant_get t xs i hi, qsOf_get xs i hi] at h1
    exact h1

set_option maxRecDepth 100000 in
set_option maxHeartbeats 4000000 in
theorem walkQuotaExact (A : Option Addr) (len cap : Nat) (xs : List Int) (av : Int) (w : World) (h : Ints w A len xs) (hlc : len ≤ cap) (hcm : cap ≤ 9223372036854775807) :
    Calls Try.prog 12 #[.slice A len cap, .int .i64 av] w fun e w' => e = .returned (.bool true) ∧ RowKit.Below w.heap.size w w' := by
  have ht0 := Int.emod_nonneg av (show (1000000000001 : Int) ≠ 0 by omega)
  have ht1 := Int.emod_lt_of_pos av (show (0 : Int) < 1000000000001 by omega)
  go_enter Try.func12, Try.ntmps12
  go_wp2_with fail
  refine (requests_any A len cap xs w h hlc hcm).mono ?_
  rintro e w1 ⟨A1, n, c1, rs, rfl, hln, hn, ⟨b, HRT⟩, ho1, hb1⟩
  have hI1 := Recs.of_own enc2_len ho1 hln
  clear ho1
  go_wp2_with fail
  refine (within_any av 1000000000001 _ (by omega) (by omega)).mono ?_
  rintro e w2 ⟨rfl, rfl⟩
  generalize av % 1000000000001 = t at *
  have hV := HRT.ok (by omega)
  have hE : allocErr t rs = 0 := by unfold allocErr; rw [if_neg (by omega), hV]
  have hOut : allocOut t rs = grantsOf t rs := by unfold allocOut; rw [if_pos hE]
  have hLeft : allocLeft t rs = max (t - (qsOf rs).sum) 0 := by unfold allocLeft; rw [if_pos hE]
  obtain ⟨gf1, gf2⟩ := grant_facts t rs ht0 (by omega) (by omega) HRT.all
  have hqs := qs_in HRT.all
  go_wp2_with fail
  refine (alloc_any t A1 n c1 rs _ hI1 (by omega)).mono ?_
  rintro e w3 ⟨A3, n3, c3, rfl, hl3, ho3, hb3⟩
  rw [hE, hLeft]
  rw [hOut] at ho3 hl3
  have hn3 : n = n3 := by rw [grantsOf_len] at hl3; omega
  subst hn3
  have hI3 := Recs.of_own enc2_len ho3 hl3
  have hIr := hI1.below hb3
  have hB := hb1.trans (hb3.mono hb1.size)
  have HL := Lib.hid hln
  have HG1 := Lib.hid gf1
  have HG2 := Lib.hid gf2
  have HQ := Lib.hid hqs
  have hS := sum_take_bound (qsOf rs) 1000000000 hqs (qsOf rs).length (Nat.le_refl _)
  rw [List.take_length, qsOf_len, hln] at hS
  obtain ⟨S, hSe⟩ : ∃ S, (qsOf rs).sum = S := ⟨_, rfl⟩
  rw [hSe] at hS gf2 ⊢
  have HSe := Lib.hid hSe
  have HSG := Lib.hid (fun w hh => sumG_any A3 n c3 (grantsOf t rs) w hh (by omega) (fun i => by
    by_cases hi : i < n
    · rw [qsOf_get _ i (by omega), grant_get t rs i (by omega)]
      have h1 := gf1 i (by omega)
      have h2 := (HRT.all i (by omega)).2.2.2
      show 0 ≤ grantV t rs i ∧ grantV t rs i ≤ 1000000000000
      omega
    · simp [List.getD, List.getElem?_eq_none (show (qsOf (grantsOf t rs)).length ≤ i by rw [qsOf_len, grantsOf_len]; omega)]))
  rw [gf2] at HSG
  obtain ⟨lv, hlv⟩ : ∃ lv, max (t - S) 0 = lv := ⟨_, rfl⟩
  obtain ⟨P, hP⟩ : ∃ P, min t S = P := ⟨_, rfl⟩
  rw [hlv]
  rw [hP] at HSG
  have hPl : P + lv = t := by omega
  have hlv0 : 0 ≤ lv := by omega
  have hP0 : 0 ≤ P := by omega
  have hP1 : P ≤ 1000000000000 := by omega
  have d1 : decide (lv < 0) = false := by simp; omega
  have HLV := Lib.hid hlv
  have HPL := Lib.hid hPl
  clear hE hOut hLeft gf1 gf2 hqs hSe hlv hP ho3 hl3 hln hV
  go_wp2_with fail
  refine (HSG.out _ hI3).mono ?_
  rintro e w4 ⟨rfl, rfl⟩
  have hPl := HPL.out
  go_wp2
  clear hPl
  go_loopw [9, 10] (fun s i wr => ∃ p q : Nat, p ≤ n ∧ i = .int .i64 p ∧ s = .int .i64 ((qsOf rs).take p).sum ∧ wr = w3.drewN q) (fun _ i _ => n - (intOf i).toNat)
  case atStart => exact ⟨0, 0, Nat.zero_le _, rfl, by simp, rfl⟩
  case round =>
    obtain ⟨p, q, hp, rfl, rfl, rfl⟩ := hrel
    by_cases hlt : p < n
    · obtain ⟨b1, o1, gi, gq, hA1, _, hc1, hc2, HX1⟩ := hI3.get2 hlt
      subst hA1
      obtain ⟨b2, o2, ri, rq, hA2, _, hc3, hc4, HX2⟩ := hIr.get2 hlt
      subst hA2
      have hlen := HL.out
      have hx1 := HX1.out
      rw [grant_get t rs p (by omega)] at hx1
      have hg := HG1.out p (by omega)
      have hq := HQ.out p
      rw [qsOf_get rs p (by omega)] at hq
      rw [HX2.out] at hx1 hg hq
      simp only [Prod.mk.injEq] at hx1
      obtain ⟨rfl, hgq⟩ := hx1
      rw [hgq] at hg
      have hSp := sum_take_bound (qsOf rs) 1000000000 HQ.out p (by rw [qsOf_len]; omega)
      have HSS := Lib.hid (sum_take_succ (qsOf rs) p (by rw [qsOf_len]; omega))
      rw [qsOf_get rs p (by omega), HX2.out] at HSS
      have g1 : 0 ≤ gq := hg.1
      have g2 : gq ≤ rq := hg.2
      have g3 : 0 ≤ rq := hq.1
      have g4 : rq ≤ 1000000000 := hq.2
      have HLN := Lib.hid hlen
      have HGQ := Lib.hid hgq
      clear hlen hgq hg hq
      generalize ((qsOf rs).take p).sum = s at *
      have i1 : (0 : Int) ≤ (p : Int) := by omega
      have i2 : (p : Int) < (n : Int) := by omega
      have d2 : decide (gq < 0) = false := by simp; omega
      have d3 : decide (rq < gq) = false := by simp; omega
      go_wp2
      go_quiet (fail)
      go_wp2
      go_roundw
      case rel => exact ⟨p + 1, _, by omega, by go_num, by rw [HSS.out], rfl⟩
      case measure => simp [intOf]; omega
    · obtain rfl : p = n := by omega
      rw [List.take_of_length_le (by rw [qsOf_len]; have := HL.out; omega), HSe.out]
      have bq : (lv == max (t - S) 0) = true := by rw [HLV.out]; simp
      go_wp2_with fail
      refine (awake21_any _).mono ?_
      rintro e wd ⟨rfl, hbd⟩
      go_wp2
      go_ret
      exact ⟨rfl, (below_drewN hB q).trans (hbd.mono (below_drewN hB q).size)⟩
end Go.Proofs.Ytpadpohaadfefaa

/-
  The walk of the law QuotaProportional. No statement of the seat is proved here. Conditions: the slice reads as integers.
-/
import Derived.Test.YtpadpohaadfefaaLaw21b
namespace Go.Proofs.Ytpadpohaadfefaa
open Go.RowKit
set_option linter.unusedVariables false

/-- A share differs from the exact proportion by less than 1. -/
theorem prop_bounds (t : Int) (ws : List Int) (hN : NonNeg ws) (ht : 0 ≤ t) (hs : 0 < ws.sum) (i : Nat) (hi : i < ws.length) :
    -ws.sum < shareI t ws i * ws.sum - t * ws.getD i 0 ∧ shareI t ws i * ws.sum - t * ws.getD i 0 < ws.sum := by
  have hw : wsum ws = ws.sum := by unfold wsum; rw [if_neg (by omega)]
  have hwt : wt ws i = ws.getD i 0 := by unfold wt; rw [if_neg (by omega)]
  have h1 := share_ge t ws i
  have h2 := share_ceil (t := t) hN (by omega) i hi
  have h3 := quo_rst t ws i
  have h4 := rst_lt (t := t) hN (by omega) i
  have h5 := rst_nonneg (t := t) hN (by omega) i
  rw [hw, hwt] at h2 h3
  rw [hw] at h4
  rw [Int.le_ediv_iff_mul_le hs] at h2
  have h6 : quoI t ws i * ws.sum ≤ shareI t ws i * ws.sum := Int.mul_le_mul_of_nonneg_right h1 (by omega)
  rw [Int.mul_comm (quoI t ws i)] at h6
  constructor <;> omega

set_option maxRecDepth 100000 in
set_option maxHeartbeats 4000000 in
theorem walkQuotaProportional (A : Option Addr) (len cap : Nat) (xs : List Int) (av : Int) (w : World) (h : Ints w A len xs) (hlc : len ≤ cap) (hcm : cap ≤ 9223372036854775807) :
    Calls Try.prog 13 #[.slice A len cap, .int .i64 av] w fun e w' => e = .returned (.bool true) ∧ RowKit.Below w.heap.size w w' := by
  have hT := h.take (m := min len 100) (by omega)
  obtain ⟨m, hm⟩ : ∃ m, m = min len 100 := ⟨_, rfl⟩
  have HC := Lib.hid (cut_any A len cap 100 xs w h hlc hcm (by omega) (by omega))
  unfold CutRes at HC
  rw [← hm] at hT HC
  have hm1 : m ≤ 100 := by omega
  clear hm
  go_enter Try.func13, Try.ntmps13
  go_wp2_with fail
  refine HC.out.mono ?_
  rintro e w' ⟨rfl, rfl⟩
  go_wp2
  go_loopw [5, 6, 7] (fun v s i wr => ∃ (k : Nat) (rs : List (Int × Int)), k ≤ m ∧ rs.length = k ∧ i = .int .i64 k ∧ s = .int .i64 (qsOf rs).sum ∧ ReqsTo rs k ∧ Hid (∀ j : Nat, 0 ≤ (qsOf rs).getD j 0 ∧ (qsOf rs).getD j 0 ≤ 1000000) ∧ wr.ownsRow w.heap.size 46 2 v k (flat enc2 rs) ∧ RowKit.Below w.heap.size w wr) (fun _ _ i _ => m - (intOf i).toNat)
  case atStart => exact ⟨0, [], Nat.zero_le _, rfl, rfl, rfl, ReqsTo.nil, fun j => by simp [qsOf], ⟨rfl, .inl ⟨rfl, rfl⟩⟩, Below.refl _ _⟩
  case round =>
    obtain ⟨k, rs, hk, hlk, rfl, rfl, HR, HQ, hown, hbel⟩ := hrel
    have HLK := Lib.hid hlk
    have hS := sum_take_bound (qsOf rs) 1000000 HQ.out (qsOf rs).length (Nat.le_refl _)
    rw [List.take_length, qsOf_len, hlk] at hS
    clear hlk
    by_cases hlt : k < m
    · obtain ⟨b, off, x, hA, hbl, hc, HX⟩ := hT.get hlt
      subst hA
      have hc' : wr.cell? ⟨b, off + k, none⟩ = some (.int .i64 x) := (hbel.cell (p := ⟨b, off + k, none⟩) hbl).trans hc
      have q0 := Int.emod_nonneg x (show (1000000 : Int) ≠ 0 by omega)
      have q1 := Int.emod_lt_of_pos x (show (0 : Int) < 1000000 by omega)
      go_wp2_with fail
      refine (within_any x 1000000 _ (by omega) (by omega)).mono ?_
      rintro e w1 ⟨rfl, rfl⟩
      generalize x % 1000000 = q at *
      have hsz := hbel.size
      have HOW := Lib.hid (own_alloc hown (.cells #[.int .i64 ((k : Int) + 1), .int .i64 q] 46))
      have HRD : Hid (Rd (wr.alloc (.cells #[.int .i64 ((k : Int) + 1), .int .i64 q] 46)) 2 (some ⟨wr.heap.size, 0, none⟩) 1 (enc2 ((k : Int) + 1, q))) := rd_new wr _ _
      have HSZ : Hid (w.heap.size ≤ (wr.alloc (.cells #[.int .i64 ((k : Int) + 1), .int .i64 q] 46)).heap.size) := by show _ ≤ _; simp; omega
      have HRL : Hid (k + 1 ≤ maxLen ∧ (k + 1) * 16 ≤ 140737488355328) := ⟨by unfold maxLen; omega, by omega⟩
      have hQS : qsOf (rs ++ [((k : Int) + 1, q)]) = qsOf rs ++ [q] := by simp [qsOf]
      have HQS := Lib.hid hQS
      have HSum : Hid ((qsOf (rs ++ [((k : Int) + 1, q)])).sum = (qsOf rs).sum + q) := by rw [hQS]; show _ = _; simp
      have HR' := HR.snoc (id := (k : Int) + 1) (q := q) (by omega) (by omega) (by omega) q0 (by omega)
      clear hown hQS
      generalize (qsOf rs).sum = s at *
      go_wp2_with (at_builtin; refine wpList_append_rd _ rfl (.tmp 27) (.tmp 32) 34 rfl w.heap.size 46 _ 2 16 Try.underlying34 infoQ rfl (by decide) u5 k (flat enc2 rs) rfl HOW.out (some ⟨wr.heap.size, 0, none⟩) 1 1 (enc2 ((k : Int) + 1, q)) rfl HRD.out (enc2_one _) HRL.out.1 HRL.out.2 HSZ.out ?_; intro v4 w4 ho4 hg4 hat4)
      go_roundw
      case rel =>
        refine ⟨k + 1, rs ++ [((k : Int) + 1, q)], by omega, by simp [HLK.out], by go_num, by rw [HSum.out], by rw [Int.natCast_add]; exact HR', fun j => ?_, ?_, ?_⟩
        · rw [HQS.out]
          by_cases hj : j < (qsOf rs).length
          · have := HQ.out j
            simpa [List.getD, List.getElem?_append_left hj] using this
          · by_cases hj2 : j = (qsOf rs).length
            · subst hj2; simp [List.getD]; omega
            · rw [List.getD, List.getElem?_eq_none (by simp; omega)]; simp
        · rw [flat_append, flat_one]; simpa using ho4
        · exact (hbel.alloc hsz _).grown hg4 HSZ.out (fun g hg => own_base HOW.out g hg)
      case measure => simp [intOf]; omega
    · obtain rfl : k = m := by omega
      obtain ⟨A1, c1, hv⟩ := own_slice hown
      rw [hv] at hown ⊢
      have hI1 := Recs.of_own enc2_len hown HLK.out
      have hN : NonNeg (qsOf rs) := fun i => (HQ.out i).1
      have HN := Lib.hid hN
      have HV := Lib.hid hv
      clear hv hown hN
      obtain ⟨S, hSe⟩ : ∃ S, (qsOf rs).sum = S := ⟨_, rfl⟩
      rw [hSe] at hS ⊢
      have HSe := Lib.hid hSe
      clear hSe
      by_cases hS0 : S = 0
      · have b0 : (S == 0) = true := by simpa using hS0
        clear hS0
        go_wp2_with fail
        refine (awake21_any _).mono ?_
        rintro e wd ⟨rfl, hbd⟩
        go_wp2
        go_ret
        exact ⟨rfl, hbel.trans (hbd.mono hbel.size)⟩
      · have b0 : (S == 0) = false := by simpa using hS0
        have t0 := Int.emod_nonneg av hS0
        have t1 := Int.emod_lt_of_pos av (show 0 < S by omega)
        go_wp2_with fail
        refine (within_any av S _ (by omega) (by omega)).mono ?_
        rintro e w2 ⟨rfl, rfl⟩
        generalize av % S = t at *
        have hV := HR.ok (by have := HLK.out; omega)
        have hE : allocErr t rs = 0 := by unfold allocErr; rw [if_neg (by omega), hV]
        have hOut : allocOut t rs = grantsOf t rs := by unfold allocOut; rw [if_pos hE]
        have HGV : Hid (∀ i, grantV t rs i = shareI t (qsOf rs) i) := fun i => by unfold grantV; rw [HSe.out, if_neg (by omega)]
        go_wp2_with fail
        refine (alloc_any t A1 k c1 rs _ hI1 (by omega)).mono ?_
        rintro e w3 ⟨A3, n3, c3, rfl, hl3, ho3, hb3⟩
        rw [hE]
        rw [hOut] at ho3 hl3
        have hn3 : k = n3 := by rw [grantsOf_len, HLK.out] at hl3; exact hl3
        subst hn3
        have hI3 := Recs.of_own enc2_len ho3 hl3
        have hIr := hI1.below hb3
        have hB := hbel.trans (hb3.mono hbel.size)
        clear hE hOut ho3 hl3 hV
        generalize allocLeft t rs = lv at *
        go_wp2
        go_loopw [12] (fun i wi => ∃ p q : Nat, p ≤ k ∧ i = .int .i64 p ∧ wi = w3.drewN q) (fun i _ => k - (intOf i).toNat)
        case atStart => exact ⟨0, 0, Nat.zero_le _, rfl, rfl⟩
        case round =>
          obtain ⟨p, q, hp, rfl, rfl⟩ := hrel
          by_cases hlt2 : p < k
          · obtain ⟨b1, o1, gi, gq, hA1, _, hc1, hc2, HX1⟩ := hI3.get2 hlt2
            subst hA1
            obtain ⟨b2, o2, ri, rq, hA2, _, hc3, hc4, HX2⟩ := hIr.get2 hlt2
            subst hA2
            have hlen := HLK.out
            have hx1 := HX1.out
            rw [grant_get t rs p (by omega), HGV.out p] at hx1
            have hgq : shareI t (qsOf rs) p = gq := by simpa using congrArg Prod.snd hx1
            have hrq : (qsOf rs).getD p 0 = rq := by rw [qsOf_get rs p (by omega), HX2.out]
            have hpb := prop_bounds t (qsOf rs) HN.out t0 (by rw [HSe.out]; omega) p (by rw [qsOf_len]; omega)
            rw [HSe.out, hgq, hrq] at hpb
            have hg0 : 0 ≤ gq := by rw [← hgq]; exact share_nonneg HN.out t0 (by rw [qsOf_len]; omega) p
            have hg1 : gq ≤ t := by rw [← hgq]; exact share_le_total HN.out t0 (by rw [qsOf_len]; omega) p (by rw [qsOf_len]; omega)
            have hr0 := HQ.out p
            rw [hrq] at hr0
            have m1 : 0 ≤ gq * S := Int.mul_nonneg hg0 (by omega)
            have m2 : gq * S ≤ 100000000 * 100000000 := Int.mul_le_mul (by omega) (by omega) (by omega) (by omega)
            have m3 : 0 ≤ t * rq := Int.mul_nonneg t0 hr0.1
            have m4 : t * rq ≤ 100000000 * 1000000 := Int.mul_le_mul (by omega) hr0.2 hr0.1 (by omega)
            obtain ⟨P1, hP1⟩ : ∃ P, gq * S = P := ⟨_, rfl⟩
            obtain ⟨P2, hP2⟩ : ∃ P, t * rq = P := ⟨_, rfl⟩
            rw [hP1] at hpb m1 m2
            rw [hP2] at hpb m3 m4
            have i1 : (0 : Int) ≤ (p : Int) := by omega
            have i2 : (p : Int) < (k : Int) := by omega
            have u1 : IntKind.i64.wrap P1 = P1 := IntWalk.i64_in _ (by omega)
            have u2 : IntKind.i64.wrap P2 = P2 := IntWalk.i64_in _ (by omega)
            have u3 : IntKind.i64.wrap (P1 - P2) = P1 - P2 := IntWalk.i64_in _ (by omega)
            have d1 : decide (P1 - P2 ≤ -S) = false := by simp; omega
            have d2 : decide (S ≤ P1 - P2) = false := by simp; omega
            have HLN := Lib.hid hlen
            clear hx1 hgq hrq hlen
            go_wp2
            go_quiet (fail)
            go_wp2
            go_roundw
            case rel => exact ⟨p + 1, _, by omega, by go_num, rfl⟩
            case measure => simp [intOf]; omega
          · go_wp2_with fail
            refine (awake21_any _).mono ?_
            rintro e wd ⟨rfl, hbd⟩
            go_wp2
            go_ret
            exact ⟨rfl, (below_drewN hB q).trans (hbd.mono (below_drewN hB q).size)⟩
end Go.Proofs.Ytpadpohaadfefaa

/-
  Contracts of valuation.Total, and of the reference's Sum and Total. No statement of the seat is proved here. Conditions: lengths fit an int, strings fit.
-/
import Derived.Test.YtknbbamlpadfdaaRVal17
namespace Go.Proofs.Ytknbbamlpadfdaa
open Go.RowKit
set_option linter.unusedVariables false

theorem vals_in {t : List Exch} {cur : List UInt8} {day : Int} {ls : List (Int × Int)} {cs : List Chg} (h : valErr t cur day ls cs = 0) : AllIn (valOut t cur day ls cs) ∧ (valOut t cur day ls cs).length ≤ 100 := by
  obtain ⟨h1, _, _, _, h5⟩ := valErr_zero h
  have h2 := invErr_zero h1
  refine ⟨fun i => ?_, by rw [valOut_len h]; exact h2.2.1⟩
  unfold valOut
  rw [if_pos h]
  by_cases hi : i < ls.length
  · have := h5 i hi
    simpa [List.getD, hi] using this
  · simp [List.getD, hi]
theorem tot_err {t : List Exch} {cur : List UInt8} {day : Int} {ls : List (Int × Int)} {cs : List Chg} (h : valErr t cur day ls cs ≠ 0) : totErr t cur day ls cs = valErr t cur day ls cs ∧ totOut t cur day ls cs = 0 := by
  have e : totErr t cur day ls cs = valErr t cur day ls cs := by unfold totErr; rw [if_pos h]
  exact ⟨e, by unfold totOut; rw [e, if_neg h]⟩
theorem tot_over {t : List Exch} {cur : List UInt8} {day : Int} {ls : List (Int × Int)} {cs : List Chg} (h : valErr t cur day ls cs = 0) (h2 : 1000000000000 < (valOut t cur day ls cs).sum) : totErr t cur day ls cs = 3 ∧ totOut t cur day ls cs = 0 := by
  have e : totErr t cur day ls cs = 3 := by unfold totErr; rw [if_neg (by omega), if_pos h2]
  exact ⟨e, by unfold totOut; rw [e, if_neg (by omega)]⟩
theorem tot_ok {t : List Exch} {cur : List UInt8} {day : Int} {ls : List (Int × Int)} {cs : List Chg} (h : valErr t cur day ls cs = 0) (h2 : (valOut t cur day ls cs).sum ≤ 1000000000000) : totErr t cur day ls cs = 0 ∧ totOut t cur day ls cs = (valOut t cur day ls cs).sum := by
  have e : totErr t cur day ls cs = 0 := by unfold totErr; rw [if_neg (by omega), if_neg (by omega)]
  exact ⟨e, by unfold totOut; rw [e, if_pos rfl]⟩
theorem nres_of {w w' : World} {v er v' er' : Int} (h : er' = er ∧ v' = v) (hb : RowKit.Below w.heap.size w w') : NRes w v' er' (.returned (.tuple #[.int .i64 v, .int .i64 er])) w' := by
  rw [h.1, h.2]; exact ⟨rfl, hb⟩

set_option maxRecDepth 100000 in
set_option maxHeartbeats 4000000 in
theorem total_any (T : Option Addr) (tn tc : Nat) (ts : List Exch) (cu : ByteArray) (day : Int) (A B : Option Addr) (n c m d : Nat) (ls : List (Int × Int)) (cs : List Chg) (w : World)
    (hT : Recs encX 3 w T tn ts) (htn : tn ≤ 9223372036854775807) (hz : ExSz ts) (hcu : cu.size ≤ 9223372036854775807) (h : Recs enc2 2 w A n ls) (hm : n ≤ 9223372036854775807) (h2 : Recs encC 5 w B m cs) (hm2 : m ≤ 9223372036854775807) (hcz : ChSz cs) :
    Calls Try.prog 18 #[.slice T tn tc, .agg #[.string cu, .int .i64 day, .slice A n c, .slice B m d]] w (NRes w (totOut ts cu.toList day ls cs) (totErr ts cu.toList day ls cs)) := by
  have hb0 : RowKit.Below w.heap.size w (w.alloc (.cells #[.string cu, .int .i64 day, .slice A n c, .slice B m d] 25)) := (Below.refl _ _).alloc (Nat.le_refl _) _
  have HV := Lib.hid (values_any T tn tc ts cu day A B n c m d ls cs _ (hT.alloc (.cells #[.string cu, .int .i64 day, .slice A n c, .slice B m d] 25)) htn hz hcu (h.alloc _) hm (h2.alloc _) hm2 hcz)
  by_cases g : valErr ts cu.toList day ls cs = 0
  case neg =>
    have E := Lib.hid (tot_err g)
    have b1 : (valErr ts cu.toList day ls cs != 0) = true := by simpa using g
    clear g
    generalize valErr ts cu.toList day ls cs = er at *
    go_enter Try.func18, Try.ntmps18
    go_wp2_with fail
    refine HV.out.mono ?_
    rintro e w1 ⟨A1, n1, c1, rfl, ho1, hb1⟩
    go_wp2
    go_ret2
    exact nres_of E.out (hb0.trans (hb1.mono hb0.size))
  have HG := Lib.hid (vals_in g)
  have HTV := Lib.hid (tot_over g)
  have HTK := Lib.hid (tot_ok g)
  rw [g] at HV
  clear g
  generalize valOut ts cu.toList day ls cs = vs at *
  go_enter Try.func18, Try.ntmps18
  go_wp2_with fail
  refine HV.out.mono ?_
  rintro e w1 ⟨A1, n1, c1, rfl, ho1, hb1⟩
  have hB := hb0.trans (hb1.mono hb0.size)
  have HL1 := Lib.hid (own_len ho1)
  have hI := IntsK.of_own ho1
  have hn1 : n1 ≤ 100 := by have := HL1.out; have := HG.out.2; omega
  clear hb0 hb1 ho1 HV
  go_wp2
  go_loop [8, 22] (fun s i => ∃ k : Nat, k ≤ n1 ∧ i = .int .i64 k ∧ s = .int .i64 (vs.take k).sum) (fun _ i => n1 - (intOf i).toNat)
  case atStart => exact ⟨0, Nat.zero_le _, rfl, by simp⟩
  case round =>
    obtain ⟨k, hk, rfl, rfl⟩ := hrel
    by_cases hlt : k < n1
    · obtain ⟨b, off, x, rfl, _, hc, HX⟩ := hI.get hlt
      have hb := sum_take_bound vs 1000000000000 HG.out.1 k (by have := HL1.out; omega)
      have hb0 := HG.out.1 k
      have HS := Lib.hid (sum_take_succ vs k (by have := HL1.out; omega))
      rw [HX.out] at hb0 HS
      generalize (vs.take k).sum = s at *
      go_wp2
      go_round
      case rel => exact ⟨k + 1, by omega, by go_num, by rw [HS.out]⟩
      case measure => simp [intOf]; omega
    · obtain rfl : k = n1 := by omega
      rw [List.take_of_length_le (by have := HL1.out; omega)]
      generalize vs.sum = S at *
      by_cases g1 : 1000000000000 < S
      · have d1 : decide (1000000000000 < S) = true := by simpa using g1
        have E := Lib.hid (HTV.out g1)
        go_wp2
        go_ret2
        exact nres_of E.out hB
      · have d1 : decide (1000000000000 < S) = false := by simpa using g1
        have E := Lib.hid (HTK.out (by omega))
        go_wp2
        go_ret2
        exact nres_of E.out hB

set_option maxRecDepth 100000 in
set_option maxHeartbeats 4000000 in
theorem rsum_any (A : Option Addr) (n c : Nat) (vs : List Int) (v er : Int) (w : World) (hI : Ints w A n vs) (hn : n ≤ 100) (ha : AllIn vs) (h1 : 1000000000000 < vs.sum → er = 3 ∧ v = 0) (h2 : vs.sum ≤ 1000000000000 → er = 0 ∧ v = vs.sum) :
    Calls Try.prog 35 #[.slice A n c] w (NRes w v er) := by
  have HL1 := Lib.hid hI.1
  have HG := Lib.hid ha
  have HTV := Lib.hid h1
  have HTK := Lib.hid h2
  clear ha h1 h2
  go_enter Try.func35, Try.ntmps35
  go_wp2
  go_loop [5] (fun i => ∃ k : Nat, k ≤ n ∧ i = .int .i64 k) (fun i => n - (intOf i).toNat)
  case atStart => exact ⟨0, Nat.zero_le _, rfl⟩
  case round =>
    obtain ⟨k, hk, rfl⟩ := hrel
    by_cases hlt : k < n
    · obtain ⟨b, off, x, rfl, _, hc, HX⟩ := hI.get hlt
      have hb0 := HG.out k
      rw [HX.out] at hb0
      have HA := Lib.hid (fun w => ramount_any x w hb0.1)
      rw [decide_eq_true hb0.2] at HA
      go_wp2_with fail
      refine (HA.out _).mono ?_
      rintro e w1 ⟨rfl, rfl⟩
      go_wp2
      go_round
      case rel => exact ⟨k + 1, by omega, by go_num⟩
      case measure => simp [intOf]; omega
    · go_wp2
      go_loop [4, 6] (fun s i => ∃ k : Nat, k ≤ n ∧ i = .int .i64 k ∧ s = .int .i64 (vs.take k).sum) (fun _ i => n - (intOf i).toNat)
      case atStart => exact ⟨0, Nat.zero_le _, rfl, by simp⟩
      case round =>
        obtain ⟨k, hk, rfl, rfl⟩ := hrel
        by_cases hlt : k < n
        · obtain ⟨b, off, x, rfl, _, hc, HX⟩ := hI.get hlt
          have hb := sum_take_bound vs 1000000000000 HG.out k (by have := HL1.out; omega)
          have hb0 := HG.out k
          have HS := Lib.hid (sum_take_succ vs k (by have := HL1.out; omega))
          rw [HX.out] at hb0 HS
          generalize (vs.take k).sum = s at *
          go_wp2
          go_round
          case rel => exact ⟨k + 1, by omega, by go_num, by rw [HS.out]⟩
          case measure => simp [intOf]; omega
        · have hb := sum_take_bound vs 1000000000000 HG.out n (by have := HL1.out; omega)
          rw [List.take_of_length_le (by have := HL1.out; omega)] at hb
          rw [List.take_of_length_le (by have := HL1.out; omega)]
          have HA := Lib.hid (fun w => ramount_any vs.sum w hb.1)
          generalize vs.sum = S at *
          by_cases g1 : 1000000000000 < S
          · rw [show decide (S ≤ 1000000000000) = false by simp; omega] at HA
            have E := Lib.hid (HTV.out g1)
            go_wp2_with fail
            refine (HA.out _).mono ?_
            rintro e w1 ⟨rfl, rfl⟩
            go_wp2
            go_ret2
            exact nres_of E.out (Below.refl _ _)
          · rw [show decide (S ≤ 1000000000000) = true by simp; omega] at HA
            have E := Lib.hid (HTK.out (by omega))
            go_wp2_with fail
            refine (HA.out _).mono ?_
            rintro e w1 ⟨rfl, rfl⟩
            go_wp2
            go_ret2
            exact nres_of E.out (Below.refl _ _)

set_option maxRecDepth 100000 in
set_option maxHeartbeats 4000000 in
theorem rtotal_any (T : Option Addr) (tn tc : Nat) (ts : List Exch) (cu : ByteArray) (day : Int) (A B : Option Addr) (n c m d : Nat) (ls : List (Int × Int)) (cs : List Chg) (w : World)
    (hT : Recs encX 3 w T tn ts) (htn : tn ≤ 9223372036854775807) (hz : ExSz ts) (h : Recs enc2 2 w A n ls) (hm : n ≤ 9223372036854775807) (h2 : Recs encC 5 w B m cs) (hm2 : m ≤ 9223372036854775807) :
    Calls Try.prog 19 #[.slice T tn tc, .agg #[.string cu, .int .i64 day, .slice A n c, .slice B m d]] w (NRes w (totOut ts cu.toList day ls cs) (totErr ts cu.toList day ls cs)) := by
  have hb0 : RowKit.Below w.heap.size w (w.alloc (.cells #[.string cu, .int .i64 day, .slice A n c, .slice B m d] 25)) := (Below.refl _ _).alloc (Nat.le_refl _) _
  have HV := Lib.hid (rvalues_any T tn tc ts cu day A B n c m d ls cs _ (hT.alloc (.cells #[.string cu, .int .i64 day, .slice A n c, .slice B m d] 25)) htn hz (h.alloc _) hm (h2.alloc _) hm2)
  by_cases g : valErr ts cu.toList day ls cs = 0
  case neg =>
    have E := Lib.hid (tot_err g)
    have b1 : (valErr ts cu.toList day ls cs != 0) = true := by simpa using g
    clear g
    generalize valErr ts cu.toList day ls cs = er at *
    go_enter Try.func19, Try.ntmps19
    go_wp2_with fail
    refine HV.out.mono ?_
    rintro e w1 ⟨A1, n1, c1, rfl, ho1, hb1⟩
    go_wp2
    go_ret2
    exact nres_of E.out (hb0.trans (hb1.mono hb0.size))
  have HG := Lib.hid (vals_in g)
  have HTV := Lib.hid (tot_over g)
  have HTK := Lib.hid (tot_ok g)
  rw [g] at HV
  clear g
  generalize valOut ts cu.toList day ls cs = vs at *
  generalize totOut ts cu.toList day ls cs = tv at *
  generalize totErr ts cu.toList day ls cs = te at *
  go_enter Try.func19, Try.ntmps19
  go_wp2_with fail
  refine HV.out.mono ?_
  rintro e w1 ⟨A1, n1, c1, rfl, ho1, hb1⟩
  have hB := hb0.trans (hb1.mono hb0.size)
  have HL1 := Lib.hid (own_len ho1)
  have HS := Lib.hid (rsum_any A1 n1 c1 vs tv te w1 (IntsK.of_own ho1) (by have := HL1.out; have := HG.out.2; omega) HG.out.1 HTV.out HTK.out)
  clear hb0 hb1 ho1 HV
  go_wp2_with fail
  refine HS.out.mono ?_
  rintro e w2 ⟨rfl, hb2⟩
  go_wp2
  go_ret2
  exact ⟨rfl, hB.trans (hb2.mono hB.size)⟩
end Go.Proofs.Ytknbbamlpadfdaa

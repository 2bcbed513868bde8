/-
  The plain mathematics of chapter 17: bounds, the sum of the values, charges that change nothing, charges exchanged. No statement of the seat is proved here. No conditions beyond those typed.
  Contracts of the reference's Div, MulDiv (customsref01), Amount (customsref02), Cross and Convert (customsref04), at the mode HalfUp. No statement of the seat is proved here. Conditions: the numbers are in range.
  Contracts of valuation.validCharge and Validate. No statement of the seat is proved here. Conditions: lengths fit an int.
  Contracts of the reference's in and Invoice (customsref17). No statement of the seat is proved here. Conditions: lengths fit an int.
  Contracts of valuation.divide, book and checkValues. No statement of the seat is proved here. Conditions: the numbers are in range.
-/
import Derived.Test.YtbokkeooahodaaaGreatDoorKAB
import Derived.Test.YtbokkeooahodaaaGreatDoorKAV
import Derived.Test.YtbokkeooahodaaaGreatDoorKAF
namespace Go.Proofs.YtbokkeooahodaaaGreatDoor
set_option linter.unusedVariables false

section
variable {t : List Exch} {cur : List UInt8} {day : Int} {ls : List (Int × Int)} {cs : List Chg}

theorem invErr_zero (h : invErr day ls cs = 0) : 0 < ls.length ∧ ls.length ≤ 100 ∧ cs.length ≤ 50 ∧ 0 ≤ day ∧ day ≤ 36524 ∧ linesOk ls ∧ chgsOk ls.length cs := by
  unfold invErr at h
  split at h
  · omega
  · split at h
    · rename_i h1 h2
      exact ⟨by omega, by omega, by omega, h2.1, h2.2.1, h2.2.2.1, h2.2.2.2⟩
    · omega
theorem invErr_ok (h1 : 0 < ls.length) (h2 : ls.length ≤ 100) (h3 : cs.length ≤ 50) (h4 : 0 ≤ day) (h5 : day ≤ 36524) (h6 : linesOk ls) (h7 : chgsOk ls.length cs) : invErr day ls cs = 0 := by
  unfold invErr
  rw [if_neg (by omega), if_pos ⟨h4, h5, h6, h7⟩]

theorem prices_len (ls : List (Int × Int)) : (pricesOf ls).length = ls.length := by simp [pricesOf]
theorem weights_len (ls : List (Int × Int)) : (weightsOf ls).length = ls.length := by simp [weightsOf]
theorem prices_get (i : Nat) (h : i < ls.length) : (pricesOf ls).getD i 0 = ls[i]!.1 := by simp [pricesOf, List.getD, List.getElem?_eq_getElem h, getElem!_pos ls i h]
theorem weights_get (i : Nat) (h : i < ls.length) : (weightsOf ls).getD i 0 = ls[i]!.2 := by simp [weightsOf, List.getD, List.getElem?_eq_getElem h, getElem!_pos ls i h]
theorem prices_in (h : linesOk ls) : AllIn (pricesOf ls) := fun i => by
  by_cases hi : i < ls.length
  · rw [prices_get i hi]; exact ⟨(h i hi).1, (h i hi).2.1⟩
  · simp [List.getD, List.getElem?_eq_none (show (pricesOf ls).length ≤ i by rw [prices_len]; omega)]
theorem weights_in (h : linesOk ls) : AllIn (weightsOf ls) := fun i => by
  by_cases hi : i < ls.length
  · rw [weights_get i hi]; have := h i hi; unfold lineOk at this; omega
  · simp [List.getD, List.getElem?_eq_none (show (weightsOf ls).length ≤ i by rw [weights_len]; omega)]
theorem in_nonneg {ws : List Int} (h : AllIn ws) : NonNeg ws := fun i => (h i).1

theorem partV_bounds (h : linesOk ls) (hn : 0 < ls.length) (c : Chg) (n : Int) (h0 : 0 ≤ n) (j : Nat) (hj : j < ls.length) : 0 ≤ partV ls c n j ∧ partV ls c n j ≤ n := by
  unfold partV
  split
  · exact ⟨share_nonneg (in_nonneg (prices_in h)) h0 (by rw [prices_len]; exact hn) j, share_le_total (in_nonneg (prices_in h)) h0 (by rw [prices_len]; exact hn) j (by rw [prices_len]; exact hj)⟩
  · split
    · exact ⟨share_nonneg (in_nonneg (weights_in h)) h0 (by rw [weights_len]; exact hn) j, share_le_total (in_nonneg (weights_in h)) h0 (by rw [weights_len]; exact hn) j (by rw [weights_len]; exact hj)⟩
    · split <;> omega
theorem contrib_bounds (h : linesOk ls) (hn : 0 < ls.length) (hc : chgsOk ls.length cs) (i : Nat) (hi : i < cs.length) (j : Nat) (hj : j < ls.length) : -1000000000000 ≤ contrib t day ls j cs[i]! ∧ contrib t day ls j cs[i]! ≤ 1000000000000 := by
  have h1 := hc i hi
  unfold chgOk at h1
  have h2 := convOut_bounds (xs := t) (amt := cs[i]!.amt) (c := cs[i]!.cur.toList) (day := day) (by omega)
  have h3 := partV_bounds h hn cs[i]! (convOut t cs[i]!.amt cs[i]!.cur.toList day) h2.1 j hj
  unfold contrib
  split
  · omega
  · split <;> omega
theorem valTo_bounds (h : linesOk ls) (hn : 0 < ls.length) (hc : chgsOk ls.length cs) (hs : 0 ≤ (pricesOf ls).sum) (k : Nat) (hk : k ≤ cs.length) (j : Nat) (hj : j < ls.length) : -((k : Int) * 1000000000000) ≤ valTo t cur day ls cs k j ∧ valTo t cur day ls cs k j ≤ ((k : Int) + 1) * 1000000000000 := by
  unfold valTo
  have h1 := convOut_bounds (xs := t) (amt := (pricesOf ls).sum) (c := cur) (day := day) hs
  have h2 := share_nonneg (t := convOut t (pricesOf ls).sum cur day) (in_nonneg (prices_in h)) h1.1 (by rw [prices_len]; exact hn) j
  have h3 := share_le_total (t := convOut t (pricesOf ls).sum cur day) (in_nonneg (prices_in h)) h1.1 (by rw [prices_len]; exact hn) j (by rw [prices_len]; exact hj)
  have h4 : -((k : Int) * 1000000000000) ≤ sumN k (fun i => contrib t day ls j cs[i]!) ∧ sumN k (fun i => contrib t day ls j cs[i]!) ≤ (k : Int) * 1000000000000 := by
    have a1 := sumN_le (n := k) (f := fun i => contrib t day ls j cs[i]!) (g := fun _ => 1000000000000) fun i hi => (contrib_bounds h hn hc i (by omega) j hj).2
    have a2 := sumN_le (n := k) (f := fun _ => -1000000000000) (g := fun i => contrib t day ls j cs[i]!) fun i hi => (contrib_bounds h hn hc i (by omega) j hj).1
    rw [sumN_const] at a1 a2
    omega
  omega
theorem valTo_succ (k j : Nat) : valTo t cur day ls cs (k + 1) j = valTo t cur day ls cs k j + contrib t day ls j cs[k]! := by
  unfold valTo; rw [sumN_succ]; omega
theorem valErr_ok (h1 : invErr day ls cs = 0) (h2 : (pricesOf ls).sum ≤ 1000000000000) (h3 : convErr t (pricesOf ls).sum cur day = 0) (h4 : ∀ i, i < cs.length → chgErr t day cs i = 0) : valErr t cur day ls cs = endErr ls.length (valTo t cur day ls cs cs.length) := by
  unfold valErr
  rw [if_neg (by omega), if_neg (by omega), if_neg (by omega), if_neg (by rw [firstErr_zero h4]; simp)]
end

end Go.Proofs.YtbokkeooahodaaaGreatDoor

namespace Go.Proofs.YtbokkeooahodaaaGreatDoor
open Go.RowKit
set_option linter.unusedVariables false

end Go.Proofs.YtbokkeooahodaaaGreatDoor

namespace Go.Proofs.YtbokkeooahodaaaGreatDoor
open Go.RowKit
set_option linter.unusedVariables false

def chgB (n : Nat) (c : Chg) : Bool := decide (chgOk n c)
theorem chgB_no {n : Nat} {c : Chg} (h : ¬ chgOk n c) : chgB n c = false := by unfold chgB; simpa using h
theorem chgB_yes {n : Nat} {c : Chg} (h : chgOk n c) : chgB n c = true := by unfold chgB; simpa using h

set_option maxRecDepth 100000 in
set_option maxHeartbeats 4000000 in
theorem validCharge_any (k a s l : Int) (cu : ByteArray) (n : Nat) (w : World) :
    Calls Tryz.prog 138 #[.agg #[.int .i64 k, .int .i64 a, .string cu, .int .i64 s, .int .i64 l], .int .i64 n] w (BRes w (chgB n ⟨k, a, cu, s, l⟩)) := by
  have HB : Hid (∀ T, RowKit.Below w.heap.size w (w.alloc (.cells #[.int .i64 k, .int .i64 a, .string cu, .int .i64 s, .int .i64 l] T))) := fun T => (Below.refl _ _).alloc (Nat.le_refl _) _
  have HN : Hid (¬ (1 ≤ k ∧ k ≤ 9 ∧ 1 ≤ s ∧ s ≤ 3 ∧ 0 ≤ a ∧ a ≤ 1000000000000 ∧ 0 ≤ l ∧ (s = 3 → l < n) ∧ (s ≠ 3 → l = 0)) → chgB n ⟨k, a, cu, s, l⟩ = false) := fun h => chgB_no h
  have HY : Hid ((1 ≤ k ∧ k ≤ 9 ∧ 1 ≤ s ∧ s ≤ 3 ∧ 0 ≤ a ∧ a ≤ 1000000000000 ∧ 0 ≤ l ∧ (s = 3 → l < n) ∧ (s ≠ 3 → l = 0)) → chgB n ⟨k, a, cu, s, l⟩ = true) := fun h => chgB_yes h
  by_cases g1 : k < 1
  · have d1 : decide (k < 1) = true := by simpa using g1
    have E := Lib.hid (HN.out (by omega))
    go_enter Tryz.func138, Tryz.ntmps138
    go_wp2
    go_ret
    exact ⟨ret_bool E.out.symm, HB.out _⟩
  have d1 : decide (k < 1) = false := by simpa using g1
  by_cases g2 : 9 < k
  · have d2 : decide (9 < k) = true := by simpa using g2
    have E := Lib.hid (HN.out (by omega))
    go_enter Tryz.func138, Tryz.ntmps138
    go_wp2
    go_ret
    exact ⟨ret_bool E.out.symm, HB.out _⟩
  have d2 : decide (9 < k) = false := by simpa using g2
  by_cases g3 : s < 1
  · have d3 : decide (s < 1) = true := by simpa using g3
    have E := Lib.hid (HN.out (by omega))
    go_enter Tryz.func138, Tryz.ntmps138
    go_wp2
    go_ret
    exact ⟨ret_bool E.out.symm, HB.out _⟩
  have d3 : decide (s < 1) = false := by simpa using g3
  by_cases g4 : 3 < s
  · have d4 : decide (3 < s) = true := by simpa using g4
    have E := Lib.hid (HN.out (by omega))
    go_enter Tryz.func138, Tryz.ntmps138
    go_wp2
    go_ret
    exact ⟨ret_bool E.out.symm, HB.out _⟩
  have d4 : decide (3 < s) = false := by simpa using g4
  by_cases g5 : a < 0
  · have d5 : decide (a < 0) = true := by simpa using g5
    have E := Lib.hid (HN.out (by omega))
    go_enter Tryz.func138, Tryz.ntmps138
    go_wp2
    go_ret
    exact ⟨ret_bool E.out.symm, HB.out _⟩
  have d5 : decide (a < 0) = false := by simpa using g5
  by_cases g6 : 1000000000000 < a
  · have d6 : decide (1000000000000 < a) = true := by simpa using g6
    have E := Lib.hid (HN.out (by omega))
    go_enter Tryz.func138, Tryz.ntmps138
    go_wp2
    go_ret
    exact ⟨ret_bool E.out.symm, HB.out _⟩
  have d6 : decide (1000000000000 < a) = false := by simpa using g6
  by_cases g7 : s = 3
  · have b7 : (s == 3) = true := by simpa using g7
    by_cases g8 : 0 ≤ l
    · have d8 : decide (0 ≤ l) = true := by simpa using g8
      by_cases g9 : l < (n : Int)
      · have d9 : decide (l < (n : Int)) = true := by simpa using g9
        have E := Lib.hid (HY.out (by omega))
        clear g7
        go_enter Tryz.func138, Tryz.ntmps138
        go_wp2
        go_ret
        exact ⟨ret_bool E.out.symm, HB.out _⟩
      · have d9 : decide (l < (n : Int)) = false := by simpa using g9
        have E := Lib.hid (HN.out (by omega))
        clear g7
        go_enter Tryz.func138, Tryz.ntmps138
        go_wp2
        go_ret
        exact ⟨ret_bool E.out.symm, HB.out _⟩
    · have d8 : decide (0 ≤ l) = false := by simpa using g8
      have E := Lib.hid (HN.out (by omega))
      clear g7
      go_enter Tryz.func138, Tryz.ntmps138
      go_wp2
      go_ret
      exact ⟨ret_bool E.out.symm, HB.out _⟩
  · have b7 : (s == 3) = false := by simpa using g7
    by_cases g8 : l = 0
    · have b8 : (l == 0) = true := by simpa using g8
      have E := Lib.hid (HY.out (by omega))
      clear g8
      go_enter Tryz.func138, Tryz.ntmps138
      go_wp2
      go_ret
      exact ⟨ret_bool E.out.symm, HB.out _⟩
    · have b8 : (l == 0) = false := by simpa using g8
      have E := Lib.hid (HN.out (by omega))
      go_enter Tryz.func138, Tryz.ntmps138
      go_wp2
      go_ret
      exact ⟨ret_bool E.out.symm, HB.out _⟩


theorem invErr_limit {day : Int} {ls : List (Int × Int)} {cs : List Chg} (h : ls.length = 0 ∨ 100 < ls.length ∨ 50 < cs.length) : invErr day ls cs = 8 := by unfold invErr; rw [if_pos h]
theorem invErr_bad {day : Int} {ls : List (Int × Int)} {cs : List Chg} (h : ¬ (ls.length = 0 ∨ 100 < ls.length ∨ 50 < cs.length)) (hb : ¬ (0 ≤ day ∧ day ≤ 36524 ∧ linesOk ls ∧ chgsOk ls.length cs)) : invErr day ls cs = 2 := by unfold invErr; rw [if_neg h, if_neg hb]

set_option maxRecDepth 100000 in
set_option maxHeartbeats 4000000 in
theorem validate17_any (cu : ByteArray) (day : Int) (A B : Option Addr) (n c m d : Nat) (ls : List (Int × Int)) (cs : List Chg) (w : World) (h : Recs enc2 2 w A n ls) (hm : n ≤ 9223372036854775807) (h2 : Recs encC 5 w B m cs) (hm2 : m ≤ 9223372036854775807) :
    Calls Tryz.prog 68 #[.agg #[.string cu, .int .i64 day, .slice A n c, .slice B m d]] w (VRes w (invErr day ls cs)) := by
  have HL := Lib.hid h.1
  have HM := Lib.hid h2.1
  have HB0 : Hid (RowKit.Below w.heap.size w (w.alloc (.cells #[.string cu, .int .i64 day, .slice A n c, .slice B m d] 110))) := (Below.refl _ _).alloc (Nat.le_refl _) _
  have HLim : Hid ((n = 0 ∨ 100 < n ∨ 50 < m) → invErr day ls cs = 8) := fun hx => invErr_limit (by rw [HL.out, HM.out]; exact hx)
  by_cases q1 : n = 0
  · have b1 : ((n : Int) == 0) = true := by simp; omega
    have b1' : (n == 0) = true := by simpa using q1
    have E := Lib.hid (HLim.out (by omega))
    clear q1
    go_enter Tryz.func68, Tryz.ntmps68
    go_wp2
    go_ret
    exact ⟨ret_int' E.out.symm, HB0.out⟩
  have b1 : ((n : Int) == 0) = false := by simp; omega
  have b1' : (n == 0) = false := by simpa using q1
  by_cases q2 : 100 < n
  · have d2 : decide ((100 : Int) < (n : Int)) = true := by simp; omega
    have E := Lib.hid (HLim.out (by omega))
    go_enter Tryz.func68, Tryz.ntmps68
    go_wp2
    go_ret
    exact ⟨ret_int' E.out.symm, HB0.out⟩
  have d2 : decide ((100 : Int) < (n : Int)) = false := by simp; omega
  by_cases q3 : 50 < m
  · have d3 : decide ((50 : Int) < (m : Int)) = true := by simp; omega
    have E := Lib.hid (HLim.out (by omega))
    go_enter Tryz.func68, Tryz.ntmps68
    go_wp2
    go_ret
    exact ⟨ret_int' E.out.symm, HB0.out⟩
  have d3 : decide ((50 : Int) < (m : Int)) = false := by simp; omega
  have HBad : Hid (¬ (0 ≤ day ∧ day ≤ 36524 ∧ linesOk ls ∧ chgsOk ls.length cs) → invErr day ls cs = 2) := fun hx => invErr_bad (by rw [HL.out, HM.out]; omega) hx
  by_cases q4 : day < 0
  · have d4 : decide (day < 0) = true := by simpa using q4
    have E := Lib.hid (HBad.out (fun hx => by omega))
    go_enter Tryz.func68, Tryz.ntmps68
    go_wp2
    go_ret
    exact ⟨ret_int' E.out.symm, HB0.out⟩
  have d4 : decide (day < 0) = false := by simpa using q4
  by_cases q5 : 36524 < day
  · have d5 : decide (36524 < day) = true := by simpa using q5
    have E := Lib.hid (HBad.out (fun hx => by omega))
    go_enter Tryz.func68, Tryz.ntmps68
    go_wp2
    go_ret
    exact ⟨ret_int' E.out.symm, HB0.out⟩
  have d5 : decide (36524 < day) = false := by simpa using q5
  have hdy : 0 ≤ day ∧ day ≤ 36524 := by omega
  go_enter Tryz.func68, Tryz.ntmps68
  go_wp2
  have HBx := Bl.new w 110 #[.string cu, .int .i64 day, .slice A n c, .slice B m d]
  have h' := h.alloc (.cells #[.string cu, .int .i64 day, .slice A n c, .slice B m d] 110)
  have h2' := h2.alloc (.cells #[.string cu, .int .i64 day, .slice A n c, .slice B m d] 110)
  have hb0 := HB0.out
  have hsz0 : (w.alloc (.cells #[.string cu, .int .i64 day, .slice A n c, .slice B m d] 110)).heap.size = w.heap.size + 1 := by simp
  generalize w.alloc (.cells #[.string cu, .int .i64 day, .slice A n c, .slice B m d] 110) = W at *
  have HS0 := Lib.hid hsz0
  clear hsz0 h h2 HB0
  go_loopw [34] (fun i wr => ∃ k : Nat, k ≤ n ∧ i = .int .i64 k ∧ Hid (∀ i, i < k → lineOk ls[i]!) ∧ RowKit.Below W.heap.size W wr) (fun i _ => n - (intOf i).toNat)
  case atStart => exact ⟨0, Nat.zero_le _, rfl, fun i hi => absurd hi (by omega), Below.refl _ _⟩
  case round =>
    obtain ⟨k, hk, rfl, HA, hbel⟩ := hrel
    have HBd := Lib.hid (hb0.trans (hbel.mono hb0.size))
    by_cases hlt : k < n
    · obtain ⟨b, off, x, y, rfl, _, hc1, hc2, HX⟩ := (h'.below hbel).get2 hlt
      have HNo : Hid (¬ lineOk (x, y) → invErr day ls cs = 2) := fun hx => HBad.out (fun hy => hx (by have := hy.2.2.1 k (by have := HL.out; omega); rw [HX.out] at this; exact this))
      by_cases g1 : x < 0
      · have e1 : decide (x < 0) = true := by simpa using g1
        have E := Lib.hid (HNo.out (by unfold lineOk; omega))
        go_wp2
        go_ret
        exact ⟨ret_int' E.out.symm, HBd.out.alloc HBd.out.size _⟩
      have e1 : decide (x < 0) = false := by simpa using g1
      by_cases g2 : 1000000000000 < x
      · have e2 : decide (1000000000000 < x) = true := by simpa using g2
        have E := Lib.hid (HNo.out (by unfold lineOk; omega))
        go_wp2
        go_ret
        exact ⟨ret_int' E.out.symm, HBd.out.alloc HBd.out.size _⟩
      have e2 : decide (1000000000000 < x) = false := by simpa using g2
      by_cases g3 : y < 0
      · have e3 : decide (y < 0) = true := by simpa using g3
        have E := Lib.hid (HNo.out (by unfold lineOk; omega))
        go_wp2
        go_ret
        exact ⟨ret_int' E.out.symm, HBd.out.alloc HBd.out.size _⟩
      have e3 : decide (y < 0) = false := by simpa using g3
      by_cases g4 : 1000000000 < y
      · have e4 : decide (1000000000 < y) = true := by simpa using g4
        have E := Lib.hid (HNo.out (by unfold lineOk; omega))
        go_wp2
        go_ret
        exact ⟨ret_int' E.out.symm, HBd.out.alloc HBd.out.size _⟩
      have e4 : decide (1000000000 < y) = false := by simpa using g4
      have HA' : Hid (∀ i, i < k + 1 → lineOk ls[i]!) := fun i hi => by
        by_cases e : i = k
        · subst e; rw [HX.out]; unfold lineOk; omega
        · exact HA.out i (by omega)
      go_wp2
      go_roundw
      case rel => exact ⟨k + 1, by omega, by go_num, HA'.out, ((hbel.alloc hbel.size _))⟩
      case measure => simp [intOf]; omega
    · have HAll : Hid (linesOk ls) := fun i hi => HA.out i (by have := HL.out; omega)
      clear HA
      have HBy := HBx.keep hbel
      have g0 : wr.cell? ⟨w.heap.size, 2, none⟩ = some (.slice A n c) := HBy.cell 2
      have g1 : wr.cell? ⟨w.heap.size, 3, none⟩ = some (.slice B m d) := HBy.cell 3
      have h2w := h2'.below hbel
      have hbw := HBd.out
      clear HBd h2' HBx
      obtain ⟨wo, rfl⟩ : ∃ wo : World, wo = wr := ⟨_, rfl⟩
      go_wp2
      go_loopw [60] (fun i wi => ∃ k : Nat, k ≤ m ∧ i = .int .i64 k ∧ Hid (∀ i, i < k → chgOk n cs[i]!) ∧ RowKit.Below wo.heap.size wo wi) (fun i _ => m - (intOf i).toNat)
      case atStart => exact ⟨0, Nat.zero_le _, rfl, fun i hi => absurd hi (by omega), Below.refl _ _⟩
      case round =>
        obtain ⟨r, hr, rfl, HS, hbi⟩ := hrel
        have HBd := Lib.hid (hbw.trans (hbi.mono hbw.size))
        by_cases hlt2 : r < m
        · obtain ⟨b, off, kk, aa, cc, ss, ll, hA, _, hc1, hc2, hc3, hc4, hc5, HX⟩ := (h2w.below hbi).getC hlt2
          subst hA
          have HBz := HBy.keep hbi
          have g2 : wr.cell? ⟨w.heap.size, 2, none⟩ = some (.slice A n c) := HBz.cell 2
          have hzl : w.heap.size < wr.heap.size := HBz.lt
          have hne : w.heap.size ≠ wr.heap.size := by omega
          have HC := Lib.hid (fun w => validCharge_any kk aa ss ll cc n w)
          have HNo : Hid (chgB n ⟨kk, aa, cc, ss, ll⟩ = false → invErr day ls cs = 2) := fun hx => HBad.out (fun hy => by
            have := hy.2.2.2 r (by have := HM.out; omega)
            rw [HX.out, HL.out] at this
            rw [chgB_yes this] at hx
            cases hx)
          have HYes : Hid (chgB n ⟨kk, aa, cc, ss, ll⟩ = true → ∀ i, i < r + 1 → chgOk n cs[i]!) := fun hx i hi => by
            by_cases e : i = r
            · subst e; rw [HX.out]; unfold chgB at hx; exact of_decide_eq_true hx
            · exact HS.out i (by omega)
          have hws := HBd.out.size
          go_wp2_with fail
          refine (HC.out _).mono ?_
          rintro e w2 ⟨rfl, hb2⟩
          have HB3 := Lib.hid ((HBd.out.alloc hws _).trans (hb2.mono (by simp; omega)))
          have HB4 := Lib.hid ((hbi.alloc hbi.size _).trans (hb2.mono (by have := hbi.size; simp; omega)))
          cases hcb : chgB n ⟨kk, aa, cc, ss, ll⟩ with
          | false =>
            have E := Lib.hid (HNo.out hcb)
            clear hcb
            go_wp2
            go_ret
            exact ⟨ret_int' E.out.symm, HB3.out⟩
          | true =>
            have HS' := Lib.hid (HYes.out hcb)
            clear hcb
            go_wp2
            go_roundw
            case rel => exact ⟨r + 1, by omega, by go_num, HS'.out, HB4.out⟩
            case measure => simp [intOf]; omega
        · have E : Hid (invErr day ls cs = 0) := invErr_ok (by have := HL.out; omega) (by have := HL.out; omega) (by have := HM.out; omega) hdy.1 hdy.2 HAll.out (fun i hi => by rw [HL.out]; exact HS.out i (by have := HM.out; omega))
          go_wp2
          go_ret
          exact ⟨ret_int' E.out.symm, HBd.out⟩
end Go.Proofs.YtbokkeooahodaaaGreatDoor

namespace Go.Proofs.YtbokkeooahodaaaGreatDoor
open Go.RowKit
set_option linter.unusedVariables false

end Go.Proofs.YtbokkeooahodaaaGreatDoor

namespace Go.Proofs.YtbokkeooahodaaaGreatDoor
open Go.RowKit
set_option linter.unusedVariables false

def partsOf (ls : List (Int × Int)) (c : Chg) (amt : Int) : List Int := (List.range ls.length).map (partV ls c amt)
theorem partsOf_len (ls : List (Int × Int)) (c : Chg) (amt : Int) : (partsOf ls c amt).length = ls.length := by simp [partsOf]
theorem partsOf_get (ls : List (Int × Int)) (c : Chg) (amt : Int) (j : Nat) (h : j < ls.length) : (partsOf ls c amt).getD j 0 = partV ls c amt j := by simp [partsOf, List.getD, h]
theorem parts_prices {ls : List (Int × Int)} {c : Chg} {amt : Int} (hl : linesOk ls) (hn : 0 < ls.length) (hn' : ls.length ≤ 100) (h0 : 0 ≤ amt) (h1 : amt ≤ 1000000000000) (hb : c.basis = 1) : chkErr amt (pricesOf ls) = 0 ∧ shareOut amt (pricesOf ls) = partsOf ls c amt := by
  have e := chk_ok (t := amt) (ws := pricesOf ls) h0 h1 (by rw [prices_len]; omega) (by rw [prices_len]; exact hn) (prices_in hl)
  refine ⟨e, ?_⟩
  unfold shareOut partsOf shareL
  rw [if_pos e, prices_len]
  exact List.map_congr_left fun j _ => by unfold partV; rw [if_pos hb]
theorem parts_weights {ls : List (Int × Int)} {c : Chg} {amt : Int} (hl : linesOk ls) (hn : 0 < ls.length) (hn' : ls.length ≤ 100) (h0 : 0 ≤ amt) (h1 : amt ≤ 1000000000000) (hb : c.basis = 2) : chkErr amt (weightsOf ls) = 0 ∧ shareOut amt (weightsOf ls) = partsOf ls c amt := by
  have e := chk_ok (t := amt) (ws := weightsOf ls) h0 h1 (by rw [weights_len]; omega) (by rw [weights_len]; exact hn) (weights_in hl)
  refine ⟨e, ?_⟩
  unfold shareOut partsOf shareL
  rw [if_pos e, weights_len]
  exact List.map_congr_left fun j _ => by unfold partV; rw [if_neg (by omega), if_pos hb]
theorem parts_line {ls : List (Int × Int)} {c : Chg} {amt : Int} (h1 : c.basis ≠ 1) (h2 : c.basis ≠ 2) : partsOf ls c amt = (List.range ls.length).map (fun j : Nat => if (j : Int) = c.line then amt else 0) := by
  unfold partsOf
  exact List.map_congr_left fun j _ => by unfold partV; rw [if_neg h1, if_neg h2]

set_option maxRecDepth 100000 in
set_option maxHeartbeats 4000000 in
theorem divide_any (k a s l : Int) (cu : ByteArray) (amt : Int) (P Q : Option Addr) (n c1 c2 : Nat) (ls : List (Int × Int)) (w : World) (hp : Ints w P n (pricesOf ls)) (hw : Ints w Q n (weightsOf ls)) (hn : 0 < n) (hn' : n ≤ 100) (hl : linesOk ls) (hc : chgOk n ⟨k, a, cu, s, l⟩) (h0 : 0 ≤ amt) (h1 : amt ≤ 1000000000000) :
    Calls Tryz.prog 70 #[.agg #[.int .i64 k, .int .i64 a, .string cu, .int .i64 s, .int .i64 l], .int .i64 amt, .slice P n c1, .slice Q n c2] w (SlRes w 0 (partsOf ls ⟨k, a, cu, s, l⟩ amt)) := by
  have hlen : ls.length = n := by have := hp.1; rw [prices_len] at this; exact this
  have HL := Lib.hid hlen
  have HP1 := Lib.hid (parts_prices (c := ⟨k, a, cu, s, l⟩) hl (by omega) (by omega) h0 h1)
  have HP2 := Lib.hid (parts_weights (c := ⟨k, a, cu, s, l⟩) hl (by omega) (by omega) h0 h1)
  have HP3 := Lib.hid (parts_line (ls := ls) (c := ⟨k, a, cu, s, l⟩) (amt := amt))
  unfold chgOk at hc
  dsimp at hc
  clear hlen
  have HB : Hid (∀ T, RowKit.Below w.heap.size w (w.alloc (.cells #[.int .i64 k, .int .i64 a, .string cu, .int .i64 s, .int .i64 l] T))) := fun T => (Below.refl _ _).alloc (Nat.le_refl _) _
  by_cases g1 : s = 1
  · obtain ⟨e1, e2⟩ := HP1.out g1
    have HS : Hid (∀ o : Obj, Calls Tryz.prog 54 #[.int .i64 amt, .slice P n c1] (w.alloc o) (SlRes (w.alloc o) 0 (partsOf ls ⟨k, a, cu, s, l⟩ amt))) := fun o => by
      have := share_any amt P n c1 (pricesOf ls) (w.alloc o) (hp.alloc o) (by omega)
      rw [e1, e2] at this
      exact this
    have b1 : (s == 1) = true := by simpa using g1
    clear g1 e1 e2
    go_enter Tryz.func70, Tryz.ntmps70
    go_wp2_with fail
    refine (HS.out _).mono ?_
    rintro e w1 ⟨A1, n1, k1, rfl, ho, hb1⟩
    go_wp2
    go_ret2
    exact ⟨A1, n1, k1, rfl, own_mono ho (by simp), (HB.out _).trans (hb1.mono (by simp))⟩
  have b1 : (s == 1) = false := by simpa using g1
  by_cases g2 : s = 2
  · obtain ⟨e1, e2⟩ := HP2.out g2
    have HS : Hid (∀ o : Obj, Calls Tryz.prog 54 #[.int .i64 amt, .slice Q n c2] (w.alloc o) (SlRes (w.alloc o) 0 (partsOf ls ⟨k, a, cu, s, l⟩ amt))) := fun o => by
      have := share_any amt Q n c2 (weightsOf ls) (w.alloc o) (hw.alloc o) (by omega)
      rw [e1, e2] at this
      exact this
    have b2 : (s == 2) = true := by simpa using g2
    clear g2 e1 e2
    go_enter Tryz.func70, Tryz.ntmps70
    go_wp2_with fail
    refine (HS.out _).mono ?_
    rintro e w1 ⟨A1, n1, k1, rfl, ho, hb1⟩
    go_wp2
    go_ret2
    exact ⟨A1, n1, k1, rfl, own_mono ho (by simp), (HB.out _).trans (hb1.mono (by simp))⟩
  have b2 : (s == 2) = false := by simpa using g2
  have hl0 : 0 ≤ l := by omega
  have hl1 : l < (n : Int) := by omega
  obtain ⟨j, rfl⟩ : ∃ j : Nat, l = j := ⟨l.toNat, by omega⟩
  obtain ⟨C1, HC1, hmk1⟩ := make_any (P := Tryz.prog) 22 3 _ 1 8 n Tryz.underlying22 infoI (by omega) (by omega)
  have e3 := HP3.out g1 g2
  rw [e3, HL.out]
  have HR : Hid (IntRow (C1.setIfInBounds j (.int .i64 amt)) n (fun i => if (i : Int) = (j : Int) then amt else 0)) := (IntRow.zeros HC1.out).set j amt (fun i hi => by
    by_cases e : i = j
    · subst e; rw [if_pos rfl, if_pos rfl]
    · rw [if_neg (by omega), if_neg e])
  have HR0 := Lib.hid (IntRow.zeros HC1.out)
  have k0 : C1[j]? = some (.int .i64 0) := HR0.out.2 j (by omega)
  have hjn : j < n := by omega
  clear e3 HC1
  go_enter Tryz.func70, Tryz.ntmps70
  go_wp2
  go_ret2
  exact ⟨_, _, _, rfl, HR.out.own (Bl.new1 w _ 3 _) (by omega) (by omega), ((Below.refl _ _).alloc (Nat.le_refl _) _).alloc (by simp) _⟩

def CkRes (w : World) (er : Int) (e : Ending) (w' : World) : Prop := e = .returned (.int .i64 er) ∧ w = w'
set_option maxHeartbeats 1000000 in
theorem checkValues_any (A : Option Addr) (n c : Nat) (xs : List Int) (w : World) (h : Ints w A n xs) (hm : n ≤ 9223372036854775807) :
    Calls Tryz.prog 72 #[.slice A n c] w (CkRes w (endErr n (fun j => xs.getD j 0))) := by
  go_enter Tryz.func72, Tryz.ntmps72
  go_wp2
  go_loop [9] (fun i => ∃ k : Nat, k ≤ n ∧ i = .int .i64 k ∧ Hid (∀ j, j < k → 0 ≤ xs.getD j 0)) (fun i => n - (intOf i).toNat)
  case atStart => exact ⟨0, Nat.zero_le _, rfl, fun j hj => absurd hj (by omega)⟩
  case round =>
    obtain ⟨k, hk, rfl, HA⟩ := hrel
    by_cases hlt : k < n
    · obtain ⟨b, off, x, rfl, _, hc, HX⟩ := h.get hlt
      by_cases g1 : x < 0
      · have d1 : decide (x < 0) = true := by simpa using g1
        have E := Lib.hid (endErr_neg (n := n) (v := fun j => xs.getD j 0) k hlt (by rw [HX.out]; exact g1))
        go_wp2
        go_ret
        exact ⟨ret_int' E.out.symm, rfl⟩
      have d1 : decide (x < 0) = false := by simpa using g1
      have HA' : Hid (∀ j, j < k + 1 → 0 ≤ xs.getD j 0) := fun j hj => by
        by_cases e : j = k
        · subst e; rw [HX.out]; omega
        · exact HA.out j (by omega)
      go_wp2
      go_round
      case rel => exact ⟨k + 1, by omega, by go_num, HA'.out⟩
      case measure => simp [intOf]; omega
    · have HN : Hid (∀ j, j < n → 0 ≤ xs.getD j 0) := fun j hj => HA.out j (by omega)
      clear HA
      go_wp2
      go_loop [18] (fun i => ∃ r : Nat, r ≤ n ∧ i = .int .i64 r ∧ Hid (∀ j, j < r → xs.getD j 0 ≤ 1000000000000)) (fun i => n - (intOf i).toNat)
      case atStart => exact ⟨0, Nat.zero_le _, rfl, fun j hj => absurd hj (by omega)⟩
      case round =>
        obtain ⟨r, hr, rfl, HA⟩ := hrel
        by_cases hlt2 : r < n
        · obtain ⟨b, off, x, hA, _, hc, HX⟩ := h.get hlt2
          subst hA
          by_cases g1 : 1000000000000 < x
          · have d1 : decide (1000000000000 < x) = true := by simpa using g1
            have E := Lib.hid (endErr_over (n := n) (v := fun j => xs.getD j 0) HN.out r hlt2 (by rw [HX.out]; exact g1))
            go_wp2
            go_ret
            exact ⟨ret_int' E.out.symm, rfl⟩
          have d1 : decide (1000000000000 < x) = false := by simpa using g1
          have HA' : Hid (∀ j, j < r + 1 → xs.getD j 0 ≤ 1000000000000) := fun j hj => by
            by_cases e : j = r
            · subst e; rw [HX.out]; omega
            · exact HA.out j (by omega)
          go_wp2
          go_round
          case rel => exact ⟨r + 1, by omega, by go_num, HA'.out⟩
          case measure => simp [intOf]; omega
        · have E := Lib.hid (endErr_ok (n := n) (v := fun j => xs.getD j 0) (fun j hj => ⟨HN.out j hj, HA.out j (by omega)⟩))
          go_wp2
          go_ret
          exact ⟨ret_int' E.out.symm, rfl⟩

def bookV (k : Int) (f : Nat → Int) (xs : List Int) (j : Nat) : Int := if k ≤ 5 then f j + xs.getD j 0 else f j - xs.getD j 0
def BookRes (w : World) (g : Nat) (n : Nat) (f : Nat → Int) (w' : World) : Prop := Only g w w' ∧ ∃ cs, Bl w' g 3 cs ∧ IntRow cs n f
set_option maxHeartbeats 1000000 in
theorem book_any (g n c : Nat) (A : Option Addr) (c2 : Nat) (cs : Array Value) (f : Nat → Int) (xs : List Int) (k : Int) (w : World) (hB : Bl w g 3 cs) (hR : IntRow cs n f) (h : Ints w A n xs) (hA : ∀ b off, A = some ⟨b, off, none⟩ → b ≠ g) (hn : n ≤ 100)
    (hf : ∀ j, j < n → -1000000000000000 ≤ f j ∧ f j ≤ 1000000000000000) (hx : ∀ j, j < n → 0 ≤ xs.getD j 0 ∧ xs.getD j 0 ≤ 1000000000000) :
    Calls Tryz.prog 71 #[.slice (some ⟨g, 0, none⟩) n c, .slice A n c2, .int .i64 k] w fun e w' => e = .returned (.tuple #[]) ∧ BookRes w g n (bookV k f xs) w' := by
  have HF := Lib.hid hf
  have HX0 := Lib.hid hx
  have HA := Lib.hid hA
  clear hf hx hA
  go_enter Tryz.func71, Tryz.ntmps71
  go_wp2
  go_loopw [10] (fun i wr => ∃ (r : Nat) (ds : Array Value), r ≤ n ∧ i = .int .i64 r ∧ Only g w wr ∧ Bl wr g 3 ds ∧ IntRow ds n (fun j => if j < r then bookV k f xs j else f j)) (fun i _ => n - (intOf i).toNat)
  case atStart => exact ⟨0, cs, Nat.zero_le _, rfl, Only.refl _ _, hB, hR.congr (fun j _ => by simp)⟩
  case round =>
    obtain ⟨r, ds, hr, rfl, hO, HB, HR⟩ := hrel
    by_cases hlt : r < n
    · obtain ⟨b, off, x, hA, hbl, hc, HX⟩ := h.get hlt
      have hne := HA.out b off hA
      subst hA
      have hc1 : wr.cell? ⟨b, off + r, none⟩ = some (.int .i64 x) := (World.cell?_of_block (hO.block b hne)).trans hc
      have k1 := HR.cell HB hlt
      rw [if_neg (by omega)] at k1
      have f1 : wr.frozen? ⟨g, r, none⟩ = false := HB.free r
      have hf1 := HF.out r hlt
      have hx1 := HX0.out r hlt
      rw [HX.out] at hx1
      have HRA : Hid (∀ v, (if k ≤ 5 then f r + x else f r - x) = v → IntRow (ds.setIfInBounds r (.int .i64 v)) n (fun j => if j < r + 1 then bookV k f xs j else f j)) := fun v hv => HR.set r v (fun j hj => by
        by_cases e : j = r
        · subst e; rw [if_pos (by omega), if_pos rfl, ← hv, ← HX.out]; rfl
        · rw [if_neg e]; by_cases e2 : j < r
          · rw [if_pos e2, if_pos (by omega)]
          · rw [if_neg e2, if_neg (by omega)])
      have HC : Hid (∀ v, RowKit.Below 0 w w → Only g w (wr.setCell ⟨g, r, none⟩ v)) := fun v _ => hO.setCell r v
      have k2 : wr.cell? ⟨g, r, none⟩ = some (.int .i64 (f r)) := k1
      clear k1
      generalize f r = fr at *
      clear hc
      by_cases g5 : k ≤ 5
      · have d5 : decide (k ≤ 5) = true := by simpa using g5
        have HRB := Lib.hid (HRA.out (fr + x) (if_pos g5))
        clear HRA
        go_wp2
        go_roundw
        case rel => exact ⟨r + 1, _, by omega, by go_num, hO.setCell r _, HB.put _ _, HRB.out⟩
        case measure => simp [intOf]; omega
      · have d5 : decide (k ≤ 5) = false := by simpa using g5
        have HRB := Lib.hid (HRA.out (fr - x) (if_neg g5))
        clear HRA
        go_wp2
        go_roundw
        case rel => exact ⟨r + 1, _, by omega, by go_num, hO.setCell r _, HB.put _ _, HRB.out⟩
        case measure => simp [intOf]; omega
    · obtain rfl : r = n := by omega
      go_wp2
      go_end0
      exact ⟨rfl, hO, ds, HB, HR.congr (fun j hj => by simp [hj])⟩
end Go.Proofs.YtbokkeooahodaaaGreatDoor

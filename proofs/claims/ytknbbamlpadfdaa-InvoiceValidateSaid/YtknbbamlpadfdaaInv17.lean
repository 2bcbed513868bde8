/-
  Contracts of valuation.validCharge and Validate. No statement of the seat is proved here. Conditions: lengths fit an int.
-/
import Derived.Test.YtknbbamlpadfdaaRCur17c
namespace Go.Proofs.Ytknbbamlpadfdaa
open Go.RowKit
set_option linter.unusedVariables false

def chgB (n : Nat) (c : Chg) : Bool := decide (chgOk n c)
theorem chgB_no {n : Nat} {c : Chg} (h : ¬ chgOk n c) : chgB n c = false := by unfold chgB; simpa using h
theorem chgB_yes {n : Nat} {c : Chg} (h : chgOk n c) : chgB n c = true := by unfold chgB; simpa using h

set_option maxRecDepth 100000 in
set_option maxHeartbeats 4000000 in
theorem validCharge_any (k a s l : Int) (cu : ByteArray) (n : Nat) (w : World) :
    Calls Try.prog 25 #[.agg #[.int .i64 k, .int .i64 a, .string cu, .int .i64 s, .int .i64 l], .int .i64 n] w (BRes w (chgB n ⟨k, a, cu, s, l⟩)) := by
  have HB : Hid (∀ T, RowKit.Below w.heap.size w (w.alloc (.cells #[.int .i64 k, .int .i64 a, .string cu, .int .i64 s, .int .i64 l] T))) := fun T => (Below.refl _ _).alloc (Nat.le_refl _) _
  have HN : Hid (¬ (1 ≤ k ∧ k ≤ 9 ∧ 1 ≤ s ∧ s ≤ 3 ∧ 0 ≤ a ∧ a ≤ 1000000000000 ∧ 0 ≤ l ∧ (s = 3 → l < n) ∧ (s ≠ 3 → l = 0)) → chgB n ⟨k, a, cu, s, l⟩ = false) := fun h => chgB_no h
  have HY : Hid ((1 ≤ k ∧ k ≤ 9 ∧ 1 ≤ s ∧ s ≤ 3 ∧ 0 ≤ a ∧ a ≤ 1000000000000 ∧ 0 ≤ l ∧ (s = 3 → l < n) ∧ (s ≠ 3 → l = 0)) → chgB n ⟨k, a, cu, s, l⟩ = true) := fun h => chgB_yes h
  by_cases g1 : k < 1
  · have d1 : decide (k < 1) = true := by simpa using g1
    have E := Lib.hid (HN.out (by omega))
    go_enter Try.func25, Try.ntmps25
    go_wp2
    go_ret
    exact ⟨ret_bool E.out.symm, HB.out _⟩
  have d1 : decide (k < 1) = false := by simpa using g1
  by_cases g2 : 9 < k
  · have d2 : decide (9 < k) = true := by simpa using g2
    have E := Lib.hid (HN.out (by omega))
    go_enter Try.func25, Try.ntmps25
    go_wp2
    go_ret
    exact ⟨ret_bool E.out.symm, HB.out _⟩
  have d2 : decide (9 < k) = false := by simpa using g2
  by_cases g3 : s < 1
  · have d3 : decide (s < 1) = true := by simpa using g3
    have E := Lib.hid (HN.out (by omega))
    go_enter Try.func25, Try.ntmps25
    go_wp2
    go_ret
    exact ⟨ret_bool E.out.symm, HB.out _⟩
  have d3 : decide (s < 1) = false := by simpa using g3
  by_cases g4 : 3 < s
  · have d4 : decide (3 < s) = true := by simpa using g4
    have E := Lib.hid (HN.out (by omega))
    go_enter Try.func25, Try.ntmps25
    go_wp2
    go_ret
    exact ⟨ret_bool E.out.symm, HB.out _⟩
  have d4 : decide (3 < s) = false := by simpa using g4
  by_cases g5 : a < 0
  · have d5 : decide (a < 0) = true := by simpa using g5
    have E := Lib.hid (HN.out (by omega))
    go_enter Try.func25, Try.ntmps25
    go_wp2
    go_ret
    exact ⟨ret_bool E.out.symm, HB.out _⟩
  have d5 : decide (a < 0) = false := by simpa using g5
  by_cases g6 : 1000000000000 < a
  · have d6 : decide (1000000000000 < a) = true := by simpa using g6
    have E := Lib.hid (HN.out (by omega))
    go_enter Try.func25, Try.ntmps25
    go_wp2
    go_ret
    exact ⟨ret_bool E.out.symm, HB.out _⟩
  have d6 : decide (1000000000000 < a) = false := by simpa using g6
  by_cases g7 : s = 3
  · have b7 : (s == 3) = true := by simpa using g7
    by_cases g8 : 0 ≤ l
    · have d8 : decide (0 ≤ l) = true := by simpa using g8
      by_cases g9 : l < (n : Int)
      · have d9 : decide (l < (n : Int)) = true := by simpa using g9
        have E := Lib.hid (HY.out (by omega))
        clear g7
        go_enter Try.func25, Try.ntmps25
        go_wp2
        go_ret
        exact ⟨ret_bool E.out.symm, HB.out _⟩
      · have d9 : decide (l < (n : Int)) = false := by simpa using g9
        have E := Lib.hid (HN.out (by omega))
        clear g7
        go_enter Try.func25, Try.ntmps25
        go_wp2
        go_ret
        exact ⟨ret_bool E.out.symm, HB.out _⟩
    · have d8 : decide (0 ≤ l) = false := by simpa using g8
      have E := Lib.hid (HN.out (by omega))
      clear g7
      go_enter Try.func25, Try.ntmps25
      go_wp2
      go_ret
      exact ⟨ret_bool E.out.symm, HB.out _⟩
  · have b7 : (s == 3) = false := by simpa using g7
    by_cases g8 : l = 0
    · have b8 : (l == 0) = true := by simpa using g8
      have E := Lib.hid (HY.out (by omega))
      clear g8
      go_enter Try.func25, Try.ntmps25
      go_wp2
      go_ret
      exact ⟨ret_bool E.out.symm, HB.out _⟩
    · have b8 : (l == 0) = false := by simpa using g8
      have E := Lib.hid (HN.out (by omega))
      go_enter Try.func25, Try.ntmps25
      go_wp2
      go_ret
      exact ⟨ret_bool E.out.symm, HB.out _⟩


theorem invErr_limit {day : Int} {ls : List (Int × Int)} {cs : List Chg} (h : ls.length = 0 ∨ 100 < ls.length ∨ 50 < cs.length) : invErr day ls cs = 8 := by unfold invErr; rw [if_pos h]
theorem invErr_bad {day : Int} {ls : List (Int × Int)} {cs : List Chg} (h : ¬ (ls.length = 0 ∨ 100 < ls.length ∨ 50 < cs.length)) (hb : ¬ (0 ≤ day ∧ day ≤ 36524 ∧ linesOk ls ∧ chgsOk ls.length cs)) : invErr day ls cs = 2 := by unfold invErr; rw [if_neg h, if_neg hb]

set_option maxRecDepth 100000 in
set_option maxHeartbeats 4000000 in
theorem validate17_any (cu : ByteArray) (day : Int) (A B : Option Addr) (n c m d : Nat) (ls : List (Int × Int)) (cs : List Chg) (w : World) (h : Recs enc2 2 w A n ls) (hm : n ≤ 9223372036854775807) (h2 : Recs encC 5 w B m cs) (hm2 : m ≤ 9223372036854775807) :
    Calls Try.prog 11 #[.agg #[.string cu, .int .i64 day, .slice A n c, .slice B m d]] w (VRes w (invErr day ls cs)) := by
  have HL := Lib.hid h.1
  have HM := Lib.hid h2.1
  have HB0 : Hid (RowKit.Below w.heap.size w (w.alloc (.cells #[.string cu, .int .i64 day, .slice A n c, .slice B m d] 25))) := (Below.refl _ _).alloc (Nat.le_refl _) _
  have HLim : Hid ((n = 0 ∨ 100 < n ∨ 50 < m) → invErr day ls cs = 8) := fun hx => invErr_limit (by rw [HL.out, HM.out]; exact hx)
  by_cases q1 : n = 0
  · have b1 : ((n : Int) == 0) = true := by simp; omega
    have b1' : (n == 0) = true := by simpa using q1
    have E := Lib.hid (HLim.out (by omega))
    clear q1
    go_enter Try.func11, Try.ntmps11
    go_wp2
    go_ret
    exact ⟨ret_int' E.out.symm, HB0.out⟩
  have b1 : ((n : Int) == 0) = false := by simp; omega
  have b1' : (n == 0) = false := by simpa using q1
  by_cases q2 : 100 < n
  · have d2 : decide ((100 : Int) < (n : Int)) = true := by simp; omega
    have E := Lib.hid (HLim.out (by omega))
    go_enter Try.func11, Try.ntmps11
    go_wp2
    go_ret
    exact ⟨ret_int' E.out.symm, HB0.out⟩
  have d2 : decide ((100 : Int) < (n : Int)) = false := by simp; omega
  by_cases q3 : 50 < m
  · have d3 : decide ((50 : Int) < (m : Int)) = true := by simp; omega
    have E := Lib.hid (HLim.out (by omega))
    go_enter Try.func11, Try.ntmps11
    go_wp2
    go_ret
    exact ⟨ret_int' E.out.symm, HB0.out⟩
  have d3 : decide ((50 : Int) < (m : Int)) = false := by simp; omega
  have HBad : Hid (¬ (0 ≤ day ∧ day ≤ 36524 ∧ linesOk ls ∧ chgsOk ls.length cs) → invErr day ls cs = 2) := fun hx => invErr_bad (by rw [HL.out, HM.out]; omega) hx
  by_cases q4 : day < 0
  · have d4 : decide (day < 0) = true := by simpa using q4
    have E := Lib.hid (HBad.out (fun hx => by omega))
    go_enter Try.func11, Try.ntmps11
    go_wp2
    go_ret
    exact ⟨ret_int' E.out.symm, HB0.out⟩
  have d4 : decide (day < 0) = false := by simpa using q4
  by_cases q5 : 36524 < day
  · have d5 : decide (36524 < day) = true := by simpa using q5
    have E := Lib.hid (HBad.out (fun hx => by omega))
    go_enter Try.func11, Try.ntmps11
    go_wp2
    go_ret
    exact ⟨ret_int' E.out.symm, HB0.out⟩
  have d5 : decide (36524 < day) = false := by simpa using q5
  have hdy : 0 ≤ day ∧ day ≤ 36524 := by omega
  go_enter Try.func11, Try.ntmps11
  go_wp2
  have HBx := Bl.new w 25 #[.string cu, .int .i64 day, .slice A n c, .slice B m d]
  have h' := h.alloc (.cells #[.string cu, .int .i64 day, .slice A n c, .slice B m d] 25)
  have h2' := h2.alloc (.cells #[.string cu, .int .i64 day, .slice A n c, .slice B m d] 25)
  have hb0 := HB0.out
  have hsz0 : (w.alloc (.cells #[.string cu, .int .i64 day, .slice A n c, .slice B m d] 25)).heap.size = w.heap.size + 1 := by simp
  generalize w.alloc (.cells #[.string cu, .int .i64 day, .slice A n c, .slice B m d] 25) = W at *
  have HS0 := Lib.hid hsz0
  clear hsz0 h h2 HB0
  go_loopw [34] (fun i wr => ∃ k : Nat, k ≤ n ∧ i = .int .i64 k ∧ Hid (∀ i, i < k → lineOk ls[i]!) ∧ RowKit.Below W.heap.size W wr) (fun i _ => n - (intOf i).toNat)
  case atStart => exact ⟨0, Nat.zero_le _, rfl, fun i hi => absurd hi (by omega), Below.refl _ _⟩
  case round =>
    obtain ⟨k, hk, rfl, HA, hbel⟩ := hrel
    have HBd := Lib.hid (hb0.trans (hbel.mono hb0.size))
    by_cases hlt : k < n
    · obtain ⟨b, off, x, y, rfl, _, hc1, hc2, HX⟩ := (h'.below hbel).get2 hlt
      have HNo : Hid (¬ lineOk (x, y) → invErr day ls cs = 2) := fun hx => HBad.out (fun hy => hx (by have := hy.2.2.1 k (by have := HL.out; omega); rw [HX.out] at this; exact this))
      by_cases g1 : x < 0
      · have e1 : decide (x < 0) = true := by simpa using g1
        have E := Lib.hid (HNo.out (by unfold lineOk; omega))
        go_wp2
        go_ret
        exact ⟨ret_int' E.out.symm, HBd.out.alloc HBd.out.size _⟩
      have e1 : decide (x < 0) = false := by simpa using g1
      by_cases g2 : 1000000000000 < x
      · have e2 : decide (1000000000000 < x) = true := by simpa using g2
        have E := Lib.hid (HNo.out (by unfold lineOk; omega))
        go_wp2
        go_ret
        exact ⟨ret_int' E.out.symm, HBd.out.alloc HBd.out.size _⟩
      have e2 : decide (1000000000000 < x) = false := by simpa using g2
      by_cases g3 : y < 0
      · have e3 : decide (y < 0) = true := by simpa using g3
        have E := Lib.hid (HNo.out (by unfold lineOk; omega))
        go_wp2
        go_ret
        exact ⟨ret_int' E.out.symm, HBd.out.alloc HBd.out.size _⟩
      have e3 : decide (y < 0) = false := by simpa using g3
      by_cases g4 : 1000000000 < y
      · have e4 : decide (1000000000 < y) = true := by simpa using g4
        have E := Lib.hid (HNo.out (by unfold lineOk; omega))
        go_wp2
        go_ret
        exact ⟨ret_int' E.out.symm, HBd.out.alloc HBd.out.size _⟩
      have e4 : decide (1000000000 < y) = false := by simpa using g4
      have HA' : Hid (∀ i, i < k + 1 → lineOk ls[i]!) := fun i hi => by
        by_cases e : i = k
        · subst e; rw [HX.out]; unfold lineOk; omega
        · exact HA.out i (by omega)
      go_wp2
      go_roundw
      case rel => exact ⟨k + 1, by omega, by go_num, HA'.out, ((hbel.alloc hbel.size _))⟩
      case measure => simp [intOf]; omega
    · have HAll : Hid (linesOk ls) := fun i hi => HA.out i (by have := HL.out; omega)
      clear HA
      have HBy := HBx.keep hbel
      have g0 : wr.cell? ⟨w.heap.size, 2, none⟩ = some (.slice A n c) := HBy.cell 2
      have g1 : wr.cell? ⟨w.heap.size, 3, none⟩ = some (.slice B m d) := HBy.cell 3
      have h2w := h2'.below hbel
      have hbw := HBd.out
      clear HBd h2' HBx
      obtain ⟨wo, rfl⟩ : ∃ wo : World, wo = wr := ⟨_, rfl⟩
      go_wp2
      go_loopw [60] (fun i wi => ∃ k : Nat, k ≤ m ∧ i = .int .i64 k ∧ Hid (∀ i, i < k → chgOk n cs[i]!) ∧ RowKit.Below wo.heap.size wo wi) (fun i _ => m - (intOf i).toNat)
      case atStart => exact ⟨0, Nat.zero_le _, rfl, fun i hi => absurd hi (by omega), Below.refl _ _⟩
      case round =>
        obtain ⟨r, hr, rfl, HS, hbi⟩ := hrel
        have HBd := Lib.hid (hbw.trans (hbi.mono hbw.size))
        by_cases hlt2 : r < m
        · obtain ⟨b, off, kk, aa, cc, ss, ll, hA, _, hc1, hc2, hc3, hc4, hc5, HX⟩ := (h2w.below hbi).getC hlt2
          subst hA
          have HBz := HBy.keep hbi
          have g2 : wr.cell? ⟨w.heap.size, 2, none⟩ = some (.slice A n c) := HBz.cell 2
          have hzl : w.heap.size < wr.heap.size := HBz.lt
          have hne : w.heap.size ≠ wr.heap.size := by omega
          have HC := Lib.hid (fun w => validCharge_any kk aa ss ll cc n w)
          have HNo : Hid (chgB n ⟨kk, aa, cc, ss, ll⟩ = false → invErr day ls cs = 2) := fun hx => HBad.out (fun hy => by
            have := hy.2.2.2 r (by have := HM.out; omega)
            rw [HX.out, HL.out] at this
            rw [chgB_yes this] at hx
            cases hx)
          have HYes : Hid (chgB n ⟨kk, aa, cc, ss, ll⟩ = true → ∀ i, i < r + 1 → chgOk n cs[i]!) := fun hx i hi => by
            by_cases e : i = r
            · subst e; rw [HX.out]; unfold chgB at hx; exact of_decide_eq_true hx
            · exact HS.out i (by omega)
          have hws := HBd.out.size
          go_wp2_with fail
          refine (HC.out _).mono ?_
          rintro e w2 ⟨rfl, hb2⟩
          have HB3 := Lib.hid ((HBd.out.alloc hws _).trans (hb2.mono (by simp; omega)))
          have HB4 := Lib.hid ((hbi.alloc hbi.size _).trans (hb2.mono (by have := hbi.size; simp; omega)))
          cases hcb : chgB n ⟨kk, aa, cc, ss, ll⟩ with
          | false =>
            have E := Lib.hid (HNo.out hcb)
            clear hcb
            go_wp2
            go_ret
            exact ⟨ret_int' E.out.symm, HB3.out⟩
          | true =>
            have HS' := Lib.hid (HYes.out hcb)
            clear hcb
            go_wp2
            go_roundw
            case rel => exact ⟨r + 1, by omega, by go_num, HS'.out, HB4.out⟩
            case measure => simp [intOf]; omega
        · have E : Hid (invErr day ls cs = 0) := invErr_ok (by have := HL.out; omega) (by have := HL.out; omega) (by have := HM.out; omega) hdy.1 hdy.2 HAll.out (fun i hi => by rw [HL.out]; exact HS.out i (by have := HM.out; omega))
          go_wp2
          go_ret
          exact ⟨ret_int' E.out.symm, HBd.out⟩
end Go.Proofs.Ytknbbamlpadfdaa

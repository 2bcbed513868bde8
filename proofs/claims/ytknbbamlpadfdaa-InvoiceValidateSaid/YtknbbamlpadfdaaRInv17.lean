/-
  Contracts of the reference's in and Invoice (customsref17). No statement of the seat is proved here. Conditions: lengths fit an int.
-/
import Derived.Test.YtknbbamlpadfdaaInv17
namespace Go.Proofs.Ytknbbamlpadfdaa
open Go.RowKit
set_option linter.unusedVariables false

/-- A test that tells whether P holds. -/
def Tells (b : Bool) (P : Prop) : Prop := b = true ↔ P
def inB (x m : Int) : Bool := decide (0 ≤ x ∧ x ≤ m)
theorem inB_yes {x m : Int} (h : 0 ≤ x ∧ x ≤ m) : inB x m = true := by unfold inB; simpa using h
theorem inB_no {x m : Int} (h : ¬ (0 ≤ x ∧ x ≤ m)) : inB x m = false := by unfold inB; simpa using h
set_option maxHeartbeats 1000000 in
theorem rin_any (x m : Int) (w : World) : Calls Try.prog 27 #[.int .i64 x, .int .i64 m] w fun e w' => e = .returned (.bool (inB x m)) ∧ w = w' := by
  by_cases g1 : 0 ≤ x
  · have d1 : decide (0 ≤ x) = true := by simpa using g1
    by_cases g2 : x ≤ m
    · have d2 : decide (x ≤ m) = true := by simpa using g2
      have E := Lib.hid (inB_yes (x := x) (m := m) ⟨g1, g2⟩)
      go_enter Try.func27, Try.ntmps27
      go_wp2
      go_ret
      exact ⟨ret_bool E.out.symm, rfl⟩
    · have d2 : decide (x ≤ m) = false := by simpa using g2
      have E := Lib.hid (inB_no (x := x) (m := m) (fun h => g2 h.2))
      go_enter Try.func27, Try.ntmps27
      go_wp2
      go_ret
      exact ⟨ret_bool E.out.symm, rfl⟩
  · have d1 : decide (0 ≤ x) = false := by simpa using g1
    have E := Lib.hid (inB_no (x := x) (m := m) (fun h => g1 h.1))
    go_enter Try.func27, Try.ntmps27
    go_wp2
    go_ret
    exact ⟨ret_bool E.out.symm, rfl⟩

set_option maxRecDepth 100000 in
set_option maxHeartbeats 8000000 in
theorem rinvoice_any (cu : ByteArray) (day : Int) (A B : Option Addr) (n c m d : Nat) (ls : List (Int × Int)) (cs : List Chg) (w : World) (h : Recs enc2 2 w A n ls) (hm : n ≤ 9223372036854775807) (h2 : Recs encC 5 w B m cs) (hm2 : m ≤ 9223372036854775807) :
    Calls Try.prog 12 #[.agg #[.string cu, .int .i64 day, .slice A n c, .slice B m d]] w (VRes w (invErr day ls cs)) := by
  have HL := Lib.hid h.1
  have HM := Lib.hid h2.1
  have HB0 : Hid (RowKit.Below w.heap.size w (w.alloc (.cells #[.string cu, .int .i64 day, .slice A n c, .slice B m d] 25))) := (Below.refl _ _).alloc (Nat.le_refl _) _
  have HLim : Hid ((n = 0 ∨ 100 < n ∨ 50 < m) → invErr day ls cs = 8) := fun hx => invErr_limit (by rw [HL.out, HM.out]; exact hx)
  by_cases q1 : n = 0
  · have b1 : ((n : Int) == 0) = true := by simp; omega
    have b1' : (n == 0) = true := by simpa using q1
    have E := Lib.hid (HLim.out (by omega))
    clear q1
    go_enter Try.func12, Try.ntmps12
    go_wp2
    go_ret
    exact ⟨ret_int' E.out.symm, HB0.out⟩
  have b1 : ((n : Int) == 0) = false := by simp; omega
  have b1' : (n == 0) = false := by simpa using q1
  by_cases q2 : 100 < n
  · have d2 : decide ((100 : Int) < (n : Int)) = true := by simp; omega
    have E := Lib.hid (HLim.out (by omega))
    go_enter Try.func12, Try.ntmps12
    go_wp2
    go_ret
    exact ⟨ret_int' E.out.symm, HB0.out⟩
  have d2 : decide ((100 : Int) < (n : Int)) = false := by simp; omega
  by_cases q3 : 50 < m
  · have d3 : decide ((50 : Int) < (m : Int)) = true := by simp; omega
    have E := Lib.hid (HLim.out (by omega))
    go_enter Try.func12, Try.ntmps12
    go_wp2
    go_ret
    exact ⟨ret_int' E.out.symm, HB0.out⟩
  have d3 : decide ((50 : Int) < (m : Int)) = false := by simp; omega
  have HBad : Hid (¬ (0 ≤ day ∧ day ≤ 36524 ∧ linesOk ls ∧ chgsOk ls.length cs) → invErr day ls cs = 2) := fun hx => invErr_bad (by rw [HL.out, HM.out]; omega) hx
  have HD := Lib.hid (fun w => rday_any day w)
  have HDB : Hid (dayB day = true ↔ (0 ≤ day ∧ day ≤ 36524)) := by show _ ↔ _; unfold dayB; simp
  generalize dayB day = okd at *
  go_enter Try.func12, Try.ntmps12
  go_wp2_with fail
  refine (HD.out _).mono ?_
  rintro e w1 ⟨rfl, rfl⟩
  go_wp2
  have HBx := Bl.new w 25 #[.string cu, .int .i64 day, .slice A n c, .slice B m d]
  have h' := h.alloc (.cells #[.string cu, .int .i64 day, .slice A n c, .slice B m d] 25)
  have h2' := h2.alloc (.cells #[.string cu, .int .i64 day, .slice A n c, .slice B m d] 25)
  have hb0 := HB0.out
  generalize w.alloc (.cells #[.string cu, .int .i64 day, .slice A n c, .slice B m d] 25) = W at *
  clear h h2 HB0
  have x2 : W.cell? ⟨w.heap.size, 2, none⟩ = some (.slice A n c) := HBx.cell 2
  have x3 : W.cell? ⟨w.heap.size, 3, none⟩ = some (.slice B m d) := HBx.cell 3
  go_loop [3, 4] (fun o i => ∃ (k : Nat) (ok : Bool), k ≤ n ∧ o = .bool ok ∧ i = .int .i64 k ∧ Hid (Tells ok ((0 ≤ day ∧ day ≤ 36524) ∧ ∀ i, i < k → lineOk ls[i]!))) (fun _ i => n - (intOf i).toNat)
  case atStart => exact ⟨0, okd, Nat.zero_le _, rfl, rfl, ⟨fun hx => ⟨HDB.out.1 hx, fun i hi => absurd hi (by omega)⟩, fun hx => HDB.out.2 hx.1⟩⟩
  case round =>
    obtain ⟨k, ok, hk, rfl, rfl, HK⟩ := hrel
    by_cases hlt : k < n
    · have HNo : Hid (¬ (ok = true ∧ lineOk ls[k]!) → Tells false ((0 ≤ day ∧ day ≤ 36524) ∧ ∀ i, i < k + 1 → lineOk ls[i]!)) := fun hx => ⟨(fun hf => by cases hf), fun hy => absurd ⟨HK.out.2 ⟨hy.1, fun i hi => hy.2 i (by omega)⟩, hy.2 k (by omega)⟩ hx⟩
      have HYes : Hid (ok = true → lineOk ls[k]! → Tells true ((0 ≤ day ∧ day ≤ 36524) ∧ ∀ i, i < k + 1 → lineOk ls[i]!)) := fun ho hl => ⟨fun _ => ⟨(HK.out.1 ho).1, fun i hi => by
        by_cases e : i = k
        · subst e; exact hl
        · exact (HK.out.1 ho).2 i (by omega)⟩, fun _ => rfl⟩
      obtain ⟨b, off, x, y, rfl, _, hc1, hc2, HX⟩ := h'.get2 hlt
      rw [HX.out] at HNo HYes
      have HI1 := Lib.hid (fun w => rin_any x 1000000000000 w)
      have HI2 := Lib.hid (fun w => rin_any y 1000000000 w)
      cases ok with
      | false =>
        have HN := Lib.hid (HNo.out (fun hx => by cases hx.1))
        go_wp2
        go_round
        case rel => exact ⟨k + 1, false, by omega, rfl, by go_num, HN.out⟩
        case measure => simp [intOf]; omega
      | true =>
        by_cases g1 : 0 ≤ x ∧ x ≤ 1000000000000
        · rw [inB_yes g1] at HI1
          by_cases g2 : 0 ≤ y ∧ y ≤ 1000000000
          · rw [inB_yes g2] at HI2
            have HN := Lib.hid (HYes.out rfl ⟨g1.1, g1.2, g2.1, g2.2⟩)
            clear g1 g2
            go_wp2_with fail
            refine (HI1.out _).mono ?_
            rintro e w1 ⟨rfl, rfl⟩
            go_wp2_with fail
            refine (HI2.out _).mono ?_
            rintro e w1 ⟨rfl, rfl⟩
            go_wp2
            go_round
            case rel => exact ⟨k + 1, true, by omega, rfl, by go_num, HN.out⟩
            case measure => simp [intOf]; omega
          · rw [inB_no g2] at HI2
            have HN := Lib.hid (HNo.out (fun hx => g2 ⟨hx.2.2.2.1, hx.2.2.2.2⟩))
            clear g1 g2
            go_wp2_with fail
            refine (HI1.out _).mono ?_
            rintro e w1 ⟨rfl, rfl⟩
            go_wp2_with fail
            refine (HI2.out _).mono ?_
            rintro e w1 ⟨rfl, rfl⟩
            go_wp2
            go_round
            case rel => exact ⟨k + 1, false, by omega, rfl, by go_num, HN.out⟩
            case measure => simp [intOf]; omega
        · rw [inB_no g1] at HI1
          have HN := Lib.hid (HNo.out (fun hx => g1 ⟨hx.2.1, hx.2.2.1⟩))
          clear g1
          go_wp2_with fail
          refine (HI1.out _).mono ?_
          rintro e w1 ⟨rfl, rfl⟩
          go_wp2
          go_round
          case rel => exact ⟨k + 1, false, by omega, rfl, by go_num, HN.out⟩
          case measure => simp [intOf]; omega
    · have HOk : Hid (Tells ok ((0 ≤ day ∧ day ≤ 36524) ∧ linesOk ls)) := ⟨fun ho => ⟨(HK.out.1 ho).1, fun i hi => (HK.out.1 ho).2 i (by have := HL.out; omega)⟩, fun hx => HK.out.2 ⟨hx.1, fun i hi => hx.2 i (by have := HL.out; omega)⟩⟩
      clear HK
      go_wp2
      go_loopw [3, 5] (fun o i wi => ∃ (r : Nat) (ok2 : Bool), r ≤ m ∧ o = .bool ok2 ∧ i = .int .i64 r ∧ Hid (Tells ok2 (((0 ≤ day ∧ day ≤ 36524) ∧ linesOk ls) ∧ ∀ i, i < r → chgOk n cs[i]!)) ∧ RowKit.Below W.heap.size W wi) (fun _ i _ => m - (intOf i).toNat)
      case atStart => exact ⟨0, ok, Nat.zero_le _, rfl, rfl, ⟨fun hx => ⟨HOk.out.1 hx, fun i hi => absurd hi (by omega)⟩, fun hx => HOk.out.2 hx.1⟩, Below.refl _ _⟩
      case round =>
        clear HOk
        obtain ⟨r, ok, hr, rfl, rfl, HK, hbi⟩ := hrel
        have HBd := Lib.hid (hb0.trans (hbi.mono hb0.size))
        have HBz := HBx.keep hbi
        have z2 : wr.cell? ⟨w.heap.size, 2, none⟩ = some (.slice A n c) := HBz.cell 2
        have z3 : wr.cell? ⟨w.heap.size, 3, none⟩ = some (.slice B m d) := HBz.cell 3
        have hzl : w.heap.size < wr.heap.size := HBz.lt
        have hne : w.heap.size ≠ wr.heap.size := by omega
        have hws := hbi.size
        by_cases hlt2 : r < m
        · have HNo : Hid (¬ (ok = true ∧ chgOk n cs[r]!) → Tells false (((0 ≤ day ∧ day ≤ 36524) ∧ linesOk ls) ∧ ∀ i, i < r + 1 → chgOk n cs[i]!)) := fun hx => ⟨(fun hf => by cases hf), fun hy => absurd ⟨HK.out.2 ⟨hy.1, fun i hi => hy.2 i (by omega)⟩, hy.2 r (by omega)⟩ hx⟩
          have HYes : Hid (ok = true → chgOk n cs[r]! → Tells true (((0 ≤ day ∧ day ≤ 36524) ∧ linesOk ls) ∧ ∀ i, i < r + 1 → chgOk n cs[i]!)) := fun ho hl => ⟨fun _ => ⟨(HK.out.1 ho).1, fun i hi => by
            by_cases e : i = r
            · subst e; exact hl
            · exact (HK.out.1 ho).2 i (by omega)⟩, fun _ => rfl⟩
          obtain ⟨b, off, kk, aa, cc, ss, ll, hA, _, hc1, hc2, hc3, hc4, hc5, HX⟩ := (h2'.below hbi).getC hlt2
          subst hA
          rw [HX.out] at HNo HYes
          have HB4 := Lib.hid (hbi.alloc hws (.cells #[.int .i64 kk, .int .i64 aa, .string cc, .int .i64 ss, .int .i64 ll] 33))
          have HI1 := Lib.hid (fun w => rin_any aa 1000000000000 w)
          obtain ⟨last, hla⟩ : ∃ last : Int, last = if ss = 3 then (n : Int) - 1 else 0 := ⟨_, rfl⟩
          have HI2 := Lib.hid (fun w => rin_any ll last w)
          have HNo' : Hid (¬ (ok = true ∧ (1 ≤ kk ∧ kk ≤ 9 ∧ 1 ≤ ss ∧ ss ≤ 3 ∧ (0 ≤ aa ∧ aa ≤ 1000000000000) ∧ (0 ≤ ll ∧ ll ≤ last))) → Tells false (((0 ≤ day ∧ day ≤ 36524) ∧ linesOk ls) ∧ ∀ i, i < r + 1 → chgOk n cs[i]!)) := fun hx => HNo.out (fun hy => hx ⟨hy.1, by
            have hz := hy.2
            unfold chgOk at hz
            dsimp at hz
            rw [hla]
            split <;> omega⟩)
          have HYes' : Hid (ok = true → (1 ≤ kk ∧ kk ≤ 9 ∧ 1 ≤ ss ∧ ss ≤ 3 ∧ (0 ≤ aa ∧ aa ≤ 1000000000000) ∧ (0 ≤ ll ∧ ll ≤ last)) → Tells true (((0 ≤ day ∧ day ≤ 36524) ∧ linesOk ls) ∧ ∀ i, i < r + 1 → chgOk n cs[i]!)) := fun ho hx => HYes.out ho (by
            unfold chgOk
            dsimp
            rw [hla] at hx
            split at hx <;> omega)
          clear HNo HYes
          by_cases g0 : ss = 3
          · have b0 : (ss == 3) = true := by simpa using g0
            rw [if_pos g0] at hla
            subst hla
            clear g0
            cases ok with
            | false =>
              have HN := Lib.hid (HNo'.out (fun hx => by cases hx.1))
              go_wp2
              go_roundw
              case rel => exact ⟨r + 1, false, by omega, rfl, by go_num, HN.out, HB4.out⟩
              case measure => simp [intOf]; omega
            | true =>
              by_cases g1 : 1 ≤ kk
              case neg =>
                have e1 : decide (1 ≤ kk) = false := by simpa using g1
                have HN := Lib.hid (HNo'.out (fun hx => g1 hx.2.1))
                go_wp2
                go_roundw
                case rel => exact ⟨r + 1, false, by omega, rfl, by go_num, HN.out, HB4.out⟩
                case measure => simp [intOf]; omega
              have e1 : decide (1 ≤ kk) = true := by simpa using g1
              by_cases g2 : kk ≤ 9
              case neg =>
                have e2 : decide (kk ≤ 9) = false := by simpa using g2
                have HN := Lib.hid (HNo'.out (fun hx => g2 hx.2.2.1))
                go_wp2
                go_roundw
                case rel => exact ⟨r + 1, false, by omega, rfl, by go_num, HN.out, HB4.out⟩
                case measure => simp [intOf]; omega
              have e2 : decide (kk ≤ 9) = true := by simpa using g2
              by_cases g3 : 1 ≤ ss
              case neg =>
                have e3 : decide (1 ≤ ss) = false := by simpa using g3
                have HN := Lib.hid (HNo'.out (fun hx => g3 hx.2.2.2.1))
                go_wp2
                go_roundw
                case rel => exact ⟨r + 1, false, by omega, rfl, by go_num, HN.out, HB4.out⟩
                case measure => simp [intOf]; omega
              have e3 : decide (1 ≤ ss) = true := by simpa using g3
              by_cases g4 : ss ≤ 3
              case neg =>
                have e4 : decide (ss ≤ 3) = false := by simpa using g4
                have HN := Lib.hid (HNo'.out (fun hx => g4 hx.2.2.2.2.1))
                go_wp2
                go_roundw
                case rel => exact ⟨r + 1, false, by omega, rfl, by go_num, HN.out, HB4.out⟩
                case measure => simp [intOf]; omega
              have e4 : decide (ss ≤ 3) = true := by simpa using g4
              by_cases g5 : 0 ≤ aa ∧ aa ≤ 1000000000000
              case neg =>
                rw [inB_no g5] at HI1
                have HN := Lib.hid (HNo'.out (fun hx => g5 hx.2.2.2.2.2.1))
                clear g5
                go_wp2_with fail
                refine (HI1.out _).mono ?_
                rintro e w1 ⟨rfl, rfl⟩
                go_wp2
                go_roundw
                case rel => exact ⟨r + 1, false, by omega, rfl, by go_num, HN.out, HB4.out⟩
                case measure => simp [intOf]; omega
              rw [inB_yes g5] at HI1
              by_cases g6 : 0 ≤ ll ∧ ll ≤ (n : Int) - 1
              case neg =>
                rw [inB_no g6] at HI2
                have HN := Lib.hid (HNo'.out (fun hx => g6 hx.2.2.2.2.2.2))
                clear g5 g6
                go_wp2_with fail
                refine (HI1.out _).mono ?_
                rintro e w1 ⟨rfl, rfl⟩
                go_wp2_with fail
                refine (HI2.out _).mono ?_
                rintro e w1 ⟨rfl, rfl⟩
                go_wp2
                go_roundw
                case rel => exact ⟨r + 1, false, by omega, rfl, by go_num, HN.out, HB4.out⟩
                case measure => simp [intOf]; omega
              case pos =>
                rw [inB_yes g6] at HI2
                have HN := Lib.hid (HYes'.out rfl ⟨g1, g2, g3, g4, g5, g6⟩)
                clear g5 g6
                go_wp2_with fail
                refine (HI1.out _).mono ?_
                rintro e w1 ⟨rfl, rfl⟩
                go_wp2_with fail
                refine (HI2.out _).mono ?_
                rintro e w1 ⟨rfl, rfl⟩
                go_wp2
                go_roundw
                case rel => exact ⟨r + 1, true, by omega, rfl, by go_num, HN.out, HB4.out⟩
                case measure => simp [intOf]; omega
          · have b0 : (ss == 3) = false := by simpa using g0
            rw [if_neg g0] at hla
            subst hla
            cases ok with
            | false =>
              have HN := Lib.hid (HNo'.out (fun hx => by cases hx.1))
              go_wp2
              go_roundw
              case rel => exact ⟨r + 1, false, by omega, rfl, by go_num, HN.out, HB4.out⟩
              case measure => simp [intOf]; omega
            | true =>
              by_cases g1 : 1 ≤ kk
              case neg =>
                have e1 : decide (1 ≤ kk) = false := by simpa using g1
                have HN := Lib.hid (HNo'.out (fun hx => g1 hx.2.1))
                go_wp2
                go_roundw
                case rel => exact ⟨r + 1, false, by omega, rfl, by go_num, HN.out, HB4.out⟩
                case measure => simp [intOf]; omega
              have e1 : decide (1 ≤ kk) = true := by simpa using g1
              by_cases g2 : kk ≤ 9
              case neg =>
                have e2 : decide (kk ≤ 9) = false := by simpa using g2
                have HN := Lib.hid (HNo'.out (fun hx => g2 hx.2.2.1))
                go_wp2
                go_roundw
                case rel => exact ⟨r + 1, false, by omega, rfl, by go_num, HN.out, HB4.out⟩
                case measure => simp [intOf]; omega
              have e2 : decide (kk ≤ 9) = true := by simpa using g2
              by_cases g3 : 1 ≤ ss
              case neg =>
                have e3 : decide (1 ≤ ss) = false := by simpa using g3
                have HN := Lib.hid (HNo'.out (fun hx => g3 hx.2.2.2.1))
                go_wp2
                go_roundw
                case rel => exact ⟨r + 1, false, by omega, rfl, by go_num, HN.out, HB4.out⟩
                case measure => simp [intOf]; omega
              have e3 : decide (1 ≤ ss) = true := by simpa using g3
              by_cases g4 : ss ≤ 3
              case neg =>
                have e4 : decide (ss ≤ 3) = false := by simpa using g4
                have HN := Lib.hid (HNo'.out (fun hx => g4 hx.2.2.2.2.1))
                go_wp2
                go_roundw
                case rel => exact ⟨r + 1, false, by omega, rfl, by go_num, HN.out, HB4.out⟩
                case measure => simp [intOf]; omega
              have e4 : decide (ss ≤ 3) = true := by simpa using g4
              by_cases g5 : 0 ≤ aa ∧ aa ≤ 1000000000000
              case neg =>
                rw [inB_no g5] at HI1
                have HN := Lib.hid (HNo'.out (fun hx => g5 hx.2.2.2.2.2.1))
                clear g5
                go_wp2_with fail
                refine (HI1.out _).mono ?_
                rintro e w1 ⟨rfl, rfl⟩
                go_wp2
                go_roundw
                case rel => exact ⟨r + 1, false, by omega, rfl, by go_num, HN.out, HB4.out⟩
                case measure => simp [intOf]; omega
              rw [inB_yes g5] at HI1
              by_cases g6 : 0 ≤ ll ∧ ll ≤ 0
              case neg =>
                rw [inB_no g6] at HI2
                have HN := Lib.hid (HNo'.out (fun hx => g6 hx.2.2.2.2.2.2))
                clear g5 g6
                go_wp2_with fail
                refine (HI1.out _).mono ?_
                rintro e w1 ⟨rfl, rfl⟩
                go_wp2_with fail
                refine (HI2.out _).mono ?_
                rintro e w1 ⟨rfl, rfl⟩
                go_wp2
                go_roundw
                case rel => exact ⟨r + 1, false, by omega, rfl, by go_num, HN.out, HB4.out⟩
                case measure => simp [intOf]; omega
              case pos =>
                rw [inB_yes g6] at HI2
                have HN := Lib.hid (HYes'.out rfl ⟨g1, g2, g3, g4, g5, g6⟩)
                clear g5 g6
                go_wp2_with fail
                refine (HI1.out _).mono ?_
                rintro e w1 ⟨rfl, rfl⟩
                go_wp2_with fail
                refine (HI2.out _).mono ?_
                rintro e w1 ⟨rfl, rfl⟩
                go_wp2
                go_roundw
                case rel => exact ⟨r + 1, true, by omega, rfl, by go_num, HN.out, HB4.out⟩
                case measure => simp [intOf]; omega
        · have HF : Hid (ok = true ↔ (0 ≤ day ∧ day ≤ 36524 ∧ linesOk ls ∧ chgsOk ls.length cs)) := ⟨fun ho => by
            obtain ⟨⟨h1, h2⟩, h3⟩ := HK.out.1 ho
            exact ⟨h1.1, h1.2, h2, fun i hi => by rw [HL.out]; exact h3 i (by have := HM.out; omega)⟩, fun hx => HK.out.2 ⟨⟨⟨hx.1, hx.2.1⟩, hx.2.2.1⟩, fun i hi => by have := hx.2.2.2 i (by have := HM.out; omega); rw [HL.out] at this; exact this⟩⟩
          cases ok with
          | false =>
            have E := Lib.hid (HBad.out (fun hx => by have := HF.out.2 hx; cases this))
            go_wp2
            go_ret
            exact ⟨ret_int' E.out.symm, HBd.out⟩
          | true =>
            have E : Hid (invErr day ls cs = 0) := by
              obtain ⟨a1, a2, a3, a4⟩ := HF.out.1 rfl
              exact invErr_ok (by have := HL.out; omega) (by have := HL.out; omega) (by have := HM.out; omega) a1 a2 a3 a4
            go_wp2
            go_ret
            exact ⟨ret_int' E.out.symm, HBd.out⟩
end Go.Proofs.Ytknbbamlpadfdaa

/-
  The contract (the recursive case) of slices.symMergeCmpFunc at facts. No statement of the seat is proved here. Conditions: two sorted ranges that lie in the row, one behind the other.
  The contract of slices.stableCmpFunc and slices.SortStableFunc at facts: the row is sorted by the day and holds the same facts. No statement of the seat is proved here. Conditions: at most 1000 facts.
  The arithmetic of math/bits.Div64 (division of 128 bits by 64, digit by digit), in plain numbers. No statement of the seat is proved here. No conditions beyond those typed.
  Contract of math/bits.Div64: quotient and remainder of 128 bits by 64. No statement of the seat is proved here. Conditions: the divisor is above the head.
  Contracts of math/bits.Div64 and math/bits.Rem64 in plain numbers. No statement of the seat is proved here. Conditions: the divisor is above the head (Div64), the divisor is above 0 (Rem64).
-/
import Derived.Test.YtdbcbbiplkikcaaGreatNAB
import Derived.Lib.Hide
import Derived.Test.YtdbcbbiplkikcaaGreatNAA
import Derived.Test.YtdbcbbiplkikcaaGreatProg
import Derived.BigQuiet
import Derived.Deep.QuietTactic
import Derived.WalkLawsBesides
import Derived.Laws.Bits64b
import Derived.Test.YtdbcbbiplkikcaaGreatShelf
import Derived.Lib.ItoaNum
import Derived.RegionTactic
namespace Go.Proofs.YtdbcbbiplkikcaaGreat
open Go.RowKit
set_option linter.unusedVariables false

theorem rot_triv_left (f : Nat → Fct) (m e : Nat) : rotF f m m e = f := by
  funext k
  unfold rotF
  split
  · rw [if_pos (by omega)]; congr 1; omega
  · rfl
theorem rot_triv_right (f : Nat → Fct) (s m : Nat) : rotF f s m m = f := by
  funext k
  unfold rotF
  split
  · rw [if_neg (by omega)]; congr 1; omega
  · rfl

theorem rotate_int (g n c sz : Nat) (f : Nat → Fct) (a m b : Nat) (ai bi : Int) (ea : ai = a) (eb : bi = b) (fv : Value) (w : World) (h : FRow w g n sz f) (ham : a < m) (hmb : m < b) (hb : b ≤ n) (hn : n ≤ 1000000) :
    Calls Tryz.prog 324 #[.slice (some ⟨g, 0, none⟩) n c, .int .i64 ai, .int .i64 m, .int .i64 bi, fv] w (RowRes w g n sz (fun f' => f' = rotF f a m b ∧ Swaps a b f f')) := by
  subst ea eb
  exact rotate_any g n c sz f a m b fv w h ham hmb hb hn

set_option maxRecDepth 100000 in
set_option maxHeartbeats 8000000 in
theorem symMerge_rec (g n c sz : Nat) (f : Nat → Fct) (a m b : Nat) (w : World) (h : FRow w g n sz f) (ham : a + 2 ≤ m) (hmb : m + 2 ≤ b) (hb : b ≤ n) (hn : n ≤ 1000000) (hs1 : Srt a m f) (hs2 : Srt m b f)
    (IH : ∀ (a' m' b' : Nat) (f' : Nat → Fct) (w' : World), b' - a' < b - a → FRow w' g n sz f' → a' < m' → m' < b' → b' ≤ n → Srt a' m' f' → Srt m' b' f' → Calls Tryz.prog 267 #[.slice (some ⟨g, 0, none⟩) n c, .int .i64 a', .int .i64 m', .int .i64 b', .func (.func 189) #[] #[]] w' (Sorts w' g n sz a' b' f')) :
    Calls Tryz.prog 267 #[.slice (some ⟨g, 0, none⟩) n c, .int .i64 a, .int .i64 m, .int .i64 b, .func (.func 189) #[] #[]] w (Sorts w g n sz a b f) := by
  have HIH := Lib.hid IH
  have HS1 := Lib.hid hs1
  have HS2 := Lib.hid hs2
  have b1 : ((m : Int) - (a : Int) == 1) = false := by simp; omega
  have b2 : ((b : Int) - (m : Int) == 1) = false := by simp; omega
  clear IH hs1 hs2
  go_enter Tryz.func267, Tryz.ntmps267
  go_upto_region 25 with (fail)
  obtain ⟨mid, hmid⟩ : ∃ q : Nat, (a + b) / 2 = q := ⟨_, rfl⟩
  have hmidi : ((a : Int) + (b : Int)) / 2 = (mid : Int) := by omega
  rw [hmidi]
  have HMD := Lib.hid hmid.symm
  have hm1 : a + b ≤ 2 * mid + 1 := by omega
  have hm2 : 2 * mid ≤ a + b := by omega
  clear hmid hmidi
  go_upto_if 140 with (fail)
  go_cut [20, 21] (fun st r wx => ∃ lo r0 : Nat, st = .int .i64 lo ∧ r = .int .i64 r0 ∧ Hid (SymLo a m b mid lo r0) ∧ wx = w)
  case first =>
    as_aux_lemma =>
      by_cases hmm : mid < m
      · go_wp2_with fail
        go_meet
        exact ⟨mid + m - b, mid, by congr 1; omega, rfl, .inl ⟨hmm, rfl, rfl⟩, rfl⟩
      · go_wp2_with fail
        go_meet
        exact ⟨a, m, rfl, rfl, .inr ⟨by omega, rfl, rfl⟩, rfl⟩
  case rest =>
    obtain ⟨lo, r0, rfl, rfl, HLO, hw⟩ := hcut
    replace hw := hw.symm
    subst hw
    have hbd := sym_bounds HMD.out ham hmb HLO.out
    obtain ⟨d1, d2, d3, d4, d5, d6, d7⟩ := hbd
    go_upto_region 32 with (fail)
    obtain ⟨pp, hpp⟩ : ∃ q : Nat, (mid : Int) + (m : Int) - 1 = (q : Int) := ⟨mid + m - 1, by omega⟩
    have hp1 : pp + 1 ≤ mid + m := by omega
    have hp2 : mid + m ≤ pp + 1 := by omega
    go_wp2_with fail
    (try rw [hpp])
    clear hpp
    go_loopw [20, 21] (fun st r wx => ∃ S R : Nat, st = .int .i64 S ∧ r = .int .i64 R ∧ lo ≤ S ∧ S ≤ R ∧ R ≤ r0 ∧ Hid (SymA f (mid + m) lo S) ∧ Hid (SymB f (mid + m) R r0) ∧ FRow wx g n sz f ∧ Kp g w wx) (fun st r _ => (intOf r).toNat - (intOf st).toNat)
    case atStart => exact ⟨lo, r0, rfl, rfl, Nat.le_refl _, d2, Nat.le_refl _, fun c h1 h2 => by omega, fun c h1 h2 => by omega, h, Kp.refl _ _⟩
    case round =>
      clear h
      obtain ⟨S, R, rfl, rfl, hS1, hSR, hR0, HA, HB, hR, hK⟩ := hrel
      by_cases hlt : S < R
      · as_aux_lemma =>
          go_upto_region 35 with (fail)
          obtain ⟨C, hC⟩ : ∃ q : Nat, ((S : Int) + (R : Int)) / 2 = (q : Int) := ⟨(S + R) / 2, by omega⟩
          have hC1 : S ≤ C := by omega
          have hC2 : C < R := by omega
          rw [hC]
          clear hC
          obtain ⟨qq, hqq⟩ : ∃ q, pp - C = q := ⟨_, rfl⟩
          have u1 : IntKind.i64.wrap ((pp : Int) - (C : Int)) = (qq : Int) := (IntWalk.i64_in _ (by omega)).trans (by omega)
          have hq1 : qq + C ≤ pp := by omega
          have hq2 : pp ≤ qq + C := by omega
          have HQQ : Hid (mid + m - 1 - C = qq) := by show _ = _; omega
          clear hqq
          have hPn : qq < n := by omega
          have hQn : C < n := by omega
          have hPi : (qq : Int) < n := by omega
          have hQi : (C : Int) < n := by omega
          obtain ⟨xP, hxP⟩ : ∃ x, f qq = x := ⟨_, rfl⟩
          obtain ⟨xQ, hxQ⟩ : ∃ x, f C = x := ⟨_, rfl⟩
          have HCJ := Lib.hid (fun w' hb => cells_over (w' := w') hR hb hPn)
          have HCP := Lib.hid (fun w' hb => cells_over (w' := w') hR hb hQn)
          rw [hxP] at HCJ
          rw [hxQ] at HCP
          obtain ⟨a0, a1, a2, a3, a4⟩ := hR.cells hPn
          obtain ⟨b0, b1, b2, b3, b4⟩ := hR.cells hQn
          rw [hxP] at a0 a1 a2 a3 a4
          rw [hxQ] at b0 b1 b2 b3 b4
          have HCM : Hid (∀ wx, RowKit.Below wr.heap.size wr wx → Calls Tryz.prog 189 #[.agg #[.int .i64 xP.num, .int .i64 xP.kind, .int .i64 xP.day, .int .i64 xP.id, .int .i64 xP.qty], .agg #[.int .i64 xQ.num, .int .i64 xQ.kind, .int .i64 xQ.day, .int .i64 xQ.id, .int .i64 xQ.qty]] wx (fun e w' => (∃ r : Int, e = .returned (.int .i64 r) ∧ (xP.day < xQ.day → r = -1) ∧ (xQ.day ≤ xP.day → 0 ≤ r)) ∧ RowKit.Below wr.heap.size wr w')) := fun wx hb => cmpDay_over xP xQ wr wx hb
          have HB0 : Hid (RowKit.Below wr.heap.size wr wr.drew) := (Below.refl _ _).drew
          have HRR := Lib.hid hR
          have HKK := Lib.hid hK
          obtain ⟨bb, hbb⟩ : ∃ b, decide ((f qq).day < (f C).day) = b := ⟨_, rfl⟩
          have HBD := Lib.hid hbb
          rw [hxP, hxQ] at hbb
          have HBB := Lib.hid (fun r h => (cmp_test (r := r) h).trans hbb)
          clear hbb hxP hxQ hR hK
          go_cut [171] (fun v wx => v = .bool (!bb) ∧ RowKit.Below wr.heap.size wr wx)
          case first =>
            as_aux_lemma =>
              go_region_held3 (fun w' => w'.cell? ⟨g, qq * 5, none⟩ = some (.int .i64 xP.num) ∧ w'.cell? ⟨g, qq * 5 + 1, none⟩ = some (.int .i64 xP.kind) ∧ w'.cell? ⟨g, qq * 5 + 2, none⟩ = some (.int .i64 xP.day) ∧ w'.cell? ⟨g, qq * 5 + 3, none⟩ = some (.int .i64 xP.id) ∧ w'.cell? ⟨g, qq * 5 + 4, none⟩ = some (.int .i64 xP.qty) ∧ w'.cell? ⟨g, C * 5, none⟩ = some (.int .i64 xQ.num) ∧ w'.cell? ⟨g, C * 5 + 1, none⟩ = some (.int .i64 xQ.kind) ∧ w'.cell? ⟨g, C * 5 + 2, none⟩ = some (.int .i64 xQ.day) ∧ w'.cell? ⟨g, C * 5 + 3, none⟩ = some (.int .i64 xQ.id) ∧ w'.cell? ⟨g, C * 5 + 4, none⟩ = some (.int .i64 xQ.qty))
                (first
                  | go_keep
                  | exact ⟨(HCJ.out _ hb5.out).1, (HCJ.out _ hb5.out).2.1, (HCJ.out _ hb5.out).2.2.1, (HCJ.out _ hb5.out).2.2.2.1, (HCJ.out _ hb5.out).2.2.2.2, (HCP.out _ hb5.out).1, (HCP.out _ hb5.out).2.1, (HCP.out _ hb5.out).2.2.1, (HCP.out _ hb5.out).2.2.2.1, (HCP.out _ hb5.out).2.2.2.2⟩)
                (first
                  | (go_at_call 189; with_reducible (refine (HCM.out _ ?_).mono ?_); with_reducible (first | exact HB0.out | exact hb5.out); rintro e w5 ⟨⟨r, rfl, hr'⟩, hb5'⟩; have hb5 := Lib.hid hb5'; have hr := Lib.hid hr'; clear hb5' hr'))
              all_goals (go_wp2_with fail; go_meet; exact ⟨by rw [HBB.out r hr.out], hb5.out⟩)
          case rest =>
            obtain ⟨rfl, hb5⟩ := hcut
            have hR5 := HRR.out.keep hb5
            have hK5 := HKK.out.below hb5
            clear a0 a1 a2 a3 a4 b0 b1 b2 b3 b4 HCJ HCP HCM HB0 HRR HKK hb5 HBB
            clear u1
            cases bb
            case true =>
              have HB2 : Hid (SymB f (mid + m) C r0) := symB_step HMD.out ham hmb HLO.out HS1.out HS2.out (by omega) (by omega) (by rw [HQQ.out]; exact of_decide_eq_true HBD.out)
              clear HBD HB
              go_wp2_with fail
              go_roundw
              case rel => exact ⟨S, C, rfl, rfl, hS1, by omega, by omega, HA, HB2, hR5, hK5⟩
              case measure => simp [intOf]; omega
            case false =>
              have HA2 : Hid (SymA f (mid + m) lo (C + 1)) := symA_step HMD.out ham hmb HLO.out HS1.out HS2.out (by omega) (by omega) (by rw [HQQ.out]; exact of_decide_eq_false HBD.out)
              clear HBD HA
              go_wp2_with fail
              go_roundw
              case rel => exact ⟨C + 1, R, by go_num, rfl, by omega, by omega, hR0, HA2, HB, hR5, hK5⟩
              case measure => simp [intOf]; omega
      · obtain rfl : S = R := by omega
        obtain ⟨E, hE⟩ : ∃ q, mid + m - S = q := ⟨_, rfl⟩
        have HRT := Lib.hid (sym_rot HMD.out ham hmb HLO.out HS1.out HS2.out hS1 hR0 HA.out HB.out hE.symm)
        have hEi : (mid : Int) + (m : Int) - (S : Int) = (E : Int) := by omega
        have e1 : m ≤ E := HRT.out.1
        have e2 : E ≤ b := HRT.out.2.1
        have e3 : mid ≤ E := HRT.out.2.2.1
        have e4 : S ≤ m := by omega
        have e5 : S ≤ mid := by omega
        have e6 : E + S ≤ mid + m := by omega
        have e7 : mid + m ≤ E + S := by omega
        have HRO := Lib.hid (fun h1 h2 => rotate_int g n c sz f S m E S E rfl rfl (.func (.func 189) #[] #[]) wr hR h1 h2 (by omega) hn)
        clear HA HB hE
        go_upto_region 39 with (fail)
        (try rw [hEi])
        clear hEi
        obtain ⟨t1, ht1⟩ : ∃ b, (decide (S < m) && decide (m < E)) = b := ⟨_, rfl⟩
        have HT1 := Lib.hid ht1
        clear ht1
        have HRI := Lib.hid hR
        have HKI := Lib.hid hK
        clear hR hK
        go_cut [185] (fun v wx => v = .bool t1 ∧ wx = wr)
        case first =>
          as_aux_lemma =>
            by_cases c1 : S < m
            · by_cases c2 : m < E
              · obtain rfl : true = t1 := by rw [← HT1.out, decide_eq_true c1, decide_eq_true c2]; rfl
                go_wp2_with fail
                go_meet
                exact ⟨rfl, rfl⟩
              · obtain rfl : false = t1 := by rw [← HT1.out, decide_eq_false c2, Bool.and_false]
                go_wp2_with fail
                go_meet
                exact ⟨rfl, rfl⟩
            · obtain rfl : false = t1 := by rw [← HT1.out, decide_eq_false c1, Bool.false_and]
              go_wp2_with fail
              go_meet
              exact ⟨rfl, rfl⟩
        case rest =>
        obtain ⟨rfl, hw⟩ := hcut
        replace hw := hw.symm
        subst hw
        go_upto_if 185 with (fail)
        go_cut [] (fun wx => FRow wx g n sz (rotF f S m E) ∧ Hid (Swaps a b f (rotF f S m E)) ∧ Kp g w wx)
        case first =>
          as_aux_lemma =>
            cases t1
            case true =>
              have ht := HT1.out
              rw [Bool.and_eq_true] at ht
              have HRO2 := Lib.hid (HRO.out (of_decide_eq_true ht.1) (of_decide_eq_true ht.2))
              clear ht HT1 HRO
              go_wp2_with fail
              refine HRO2.out.mono ?_
              rintro e w1 ⟨rfl, f1, ⟨rfl, hsw⟩, hR1, hK1⟩
              go_wp2_with fail
              go_meet
              exact ⟨hR1, hsw.mono (by omega) (by omega), HKI.out.trans hK1⟩
            case false =>
              have HRI2 : Hid (rotF f S m E = f) := by
                show _ = _
                by_cases c1 : S < m
                · by_cases c2 : m < E
                  · have := HT1.out; rw [decide_eq_true c1, decide_eq_true c2] at this; cases this
                  · obtain rfl : m = E := by omega
                    exact rot_triv_right f S m
                · obtain rfl : m = S := by omega
                  exact rot_triv_left f m E
              clear HT1 HRO
              go_wp2_with fail
              go_meet
              exact ⟨by rw [HRI2.out]; exact HRI.out, by show Swaps _ _ _ _; rw [HRI2.out]; exact .refl, HKI.out⟩
        case rest =>
          as_aux_lemma =>
            clear HRO HRI HKI HT1
            obtain ⟨hR1, HW1, hK1⟩ := hcut
            obtain ⟨W1, rfl⟩ : ∃ W, W = wc := ⟨_, rfl⟩
            obtain ⟨f1, hf1⟩ : ∃ x, rotF f S m E = x := ⟨_, rfl⟩
            rw [hf1] at HRT hR1 HW1
            clear hf1
            have HL := Lib.hid (fun h1 h2 => HIH.out a S mid f1 W1 (by omega) hR1 h1 h2 (by omega) HRT.out.2.2.2.1 HRT.out.2.2.2.2.1)
            have HRR := Lib.hid hR1
            have HKK := Lib.hid hK1
            clear hR1 hK1
            obtain ⟨t2, ht2⟩ : ∃ b, (decide (a < S) && decide (S < mid)) = b := ⟨_, rfl⟩
            have HT2 := Lib.hid ht2
            clear ht2
            go_upto_region 41 with (fail)
            go_cut [199] (fun v wx => v = .bool t2 ∧ wx = W1)
            case first =>
              as_aux_lemma =>
                by_cases c1 : a < S
                · by_cases c2 : S < mid
                  · obtain rfl : true = t2 := by rw [← HT2.out, decide_eq_true c1, decide_eq_true c2]; rfl
                    go_wp2_with fail
                    go_meet
                    exact ⟨rfl, rfl⟩
                  · obtain rfl : false = t2 := by rw [← HT2.out, decide_eq_false c2, Bool.and_false]
                    go_wp2_with fail
                    go_meet
                    exact ⟨rfl, rfl⟩
                · obtain rfl : false = t2 := by rw [← HT2.out, decide_eq_false c1, Bool.false_and]
                  go_wp2_with fail
                  go_meet
                  exact ⟨rfl, rfl⟩
            case rest =>
            obtain ⟨rfl, hw⟩ := hcut
            replace hw := hw.symm
            subst hw
            go_upto_if 199 with (fail)
            go_cut [] (fun wx => ∃ f2, FRow wx g n sz f2 ∧ Hid (Swaps a mid f1 f2) ∧ Hid (Srt a mid f2) ∧ Kp g w wx)
            case first =>
              as_aux_lemma =>
                cases t2
                case true =>
                  have ht := HT2.out
                  rw [Bool.and_eq_true] at ht
                  have HL2 := Lib.hid (HL.out (of_decide_eq_true ht.1) (of_decide_eq_true ht.2))
                  clear ht HT2 HL
                  go_wp2_with fail
                  refine HL2.out.mono ?_
                  rintro e w1 ⟨rfl, f2, hs2, hw2, hR2, hK2⟩
                  go_wp2_with fail
                  go_meet
                  exact ⟨f2, hR2, hw2, hs2, HKK.out.trans hK2⟩
                case false =>
                  have HZ : Hid (Srt a mid f1) := by
                    show Srt _ _ _
                    by_cases c1 : a < S
                    · by_cases c2 : S < mid
                      · have := HT2.out; rw [decide_eq_true c1, decide_eq_true c2] at this; cases this
                      · obtain rfl : mid = S := by omega
                        exact HRT.out.2.2.2.1
                    · obtain rfl : a = S := by omega
                      exact HRT.out.2.2.2.2.1
                  clear HT2 HL
                  go_wp2_with fail
                  go_meet
                  exact ⟨f1, HRR.out, .refl, HZ, HKK.out⟩
            case rest =>
              clear HL HRR HKK HT2
              obtain ⟨f2, hR2, HW2, HS3, hK2⟩ := hcut
              obtain ⟨W2, rfl⟩ : ∃ W, W = wc := ⟨_, rfl⟩
              have HQ1 : Hid (Srt mid E f2) := HRT.out.2.2.2.2.2.1.congr fun k h1 h2 => HW2.out.out k (.inr h1)
              have HQ2 : Hid (Srt E b f2) := HRT.out.2.2.2.2.2.2.1.congr fun k h1 h2 => HW2.out.out k (.inr (by omega))
              have HL := Lib.hid (fun h1 h2 => HIH.out mid E b f2 W2 (by omega) hR2 h1 h2 hb HQ1.out HQ2.out)
              have HFI := Lib.hid (fun f3 h2 s2 => sym_final (g2 := f3) HW2.out h2 HS3.out s2 HRT.out.2.2.2.2.2.2.2)
              have HFW : Hid (∀ f3, Swaps mid b f2 f3 → Swaps a b f f3) := fun f3 h2 => (HW1.out.trans (HW2.out.mono (Nat.le_refl _) (by omega))).trans (h2.mono (by omega) (Nat.le_refl _))
              have HRR := Lib.hid hR2
              have HKK := Lib.hid hK2
              clear hR2 hK2
              by_cases c1 : mid < E
              · by_cases c2 : E < b
                · go_wp2_with fail
                  refine (HL.out c1 c2).mono ?_
                  rintro e w1 ⟨rfl, f3, hs4, hw4, hR4, hK4⟩
                  go_wp2
                  go_end0
                  exact ⟨rfl, f3, HFI.out f3 hw4 hs4, HFW.out f3 hw4, hR4, HKK.out.trans hK4⟩
                · obtain rfl : b = E := by omega
                  have hd : decide (b < b) = false := by simp
                  go_wp2
                  go_end0
                  exact ⟨rfl, f2, HFI.out f2 .refl HQ1.out, HFW.out f2 .refl, HRR.out, HKK.out⟩
              · obtain rfl : mid = E := by omega
                have hd : decide (mid < mid) = false := by simp
                go_wp2
                go_end0
                exact ⟨rfl, f2, HFI.out f2 .refl HQ2.out, HFW.out f2 .refl, HRR.out, HKK.out⟩

theorem symMerge_any (g n c sz : Nat) (hn : n ≤ 1000000) : ∀ (L a m b : Nat) (f : Nat → Fct) (w : World), b - a ≤ L → FRow w g n sz f → a < m → m < b → b ≤ n → Srt a m f → Srt m b f → Calls Tryz.prog 267 #[.slice (some ⟨g, 0, none⟩) n c, .int .i64 a, .int .i64 m, .int .i64 b, .func (.func 189) #[] #[]] w (Sorts w g n sz a b f) := by
  intro L
  induction L with
  | zero => intro a m b f w h1 h2 h3 h4; omega
  | succ L ih =>
    intro a m b f w h1 h2 h3 h4 h5 s1 s2
    by_cases c1 : a + 1 = m
    · exact symMerge_one g n c sz f a m b w h2 c1 h4 h5 hn s2
    · by_cases c2 : m + 1 = b
      · exact symMerge_two g n c sz f a m b w h2 (by omega) c2 h5 hn s1
      · exact symMerge_rec g n c sz f a m b w h2 (by omega) (by omega) h5 hn s1 s2 (fun a' m' b' f' w' k1 k2 k3 k4 k5 k6 k7 => ih a' m' b' f' w' (by omega) k2 k3 k4 k5 k6 k7)
end Go.Proofs.YtdbcbbiplkikcaaGreat

namespace Go.Proofs.YtdbcbbiplkikcaaGreat
open Go.RowKit
set_option linter.unusedVariables false

theorem insSort_int (g n c sz : Nat) (f : Nat → Fct) (a b : Nat) (ai bi : Int) (ea : ai = a) (eb : bi = b) (w : World) (h : FRow w g n sz f) (hab : a ≤ b) (hb : b ≤ n) (hn : n ≤ 1000000) :
    Calls Tryz.prog 266 #[.slice (some ⟨g, 0, none⟩) n c, .int .i64 ai, .int .i64 bi, .func (.func 189) #[] #[]] w (Sorts w g n sz a b f) := by
  subst ea eb
  exact insSort_any g n c sz f a b w h hab hb hn
theorem symMerge_int (g n c sz : Nat) (f : Nat → Fct) (a m b : Nat) (ai mi bi : Int) (ea : ai = a) (em : mi = m) (eb : bi = b) (w : World) (h : FRow w g n sz f) (ham : a < m) (hmb : m < b) (hb : b ≤ n) (hn : n ≤ 1000000) (h1 : Srt a m f) (h2 : Srt m b f) :
    Calls Tryz.prog 267 #[.slice (some ⟨g, 0, none⟩) n c, .int .i64 ai, .int .i64 mi, .int .i64 bi, .func (.func 189) #[] #[]] w (Sorts w g n sz a b f) := by
  subst ea em eb
  exact symMerge_any g n c sz hn _ a m b f w (Nat.le_refl _) h ham hmb hb h1 h2
theorem bef_step {t n : Nat} {f f' : Nat → Fct} {bs A B : Nat} (h : Bef bs t n f) (hA : A = t * bs) (hB : B = A + bs) (hn : B ≤ n) (hs : Srt A B f') (hw : Swaps A B f f') : Bef bs (t + 1) n f' := by
  subst hA
  refine h.succ ?_ (fun k hk => hw.out k (.inl hk))
  rw [Nat.min_eq_left (by omega), ← hB]
  exact hs

set_option maxRecDepth 100000 in
set_option maxHeartbeats 8000000 in
theorem stable_any (g n c sz : Nat) (f : Nat → Fct) (w : World) (h : FRow w g n sz f) (hn : n ≤ 1000) :
    Calls Tryz.prog 219 #[.slice (some ⟨g, 0, none⟩) n c, .int .i64 n, .func (.func 189) #[] #[]] w (Sorts w g n sz 0 n f) := by
  go_enter Tryz.func219, Tryz.ntmps219
  go_wp2
  go_loopw [7, 8] (fun a b wx => ∃ (T A B : Nat) (f' : Nat → Fct), a = .int .i64 A ∧ b = .int .i64 B ∧ A ≤ n ∧ B ≤ A + 20 ∧ A + 20 ≤ B ∧ Hid (A = T * 20) ∧ Hid (Bef 20 T n f') ∧ Hid (Swaps 0 n f f') ∧ FRow wx g n sz f' ∧ Kp g w wx) (fun _ b _ => n + 20 - (intOf b).toNat)
  case atStart => exact ⟨0, 0, 20, f, rfl, rfl, Nat.zero_le _, by omega, by omega, rfl, Bef.zero _ _ _, .refl, h, Kp.refl _ _⟩
  case round =>
    clear h
    obtain ⟨T, A, B, f1, rfl, rfl, hA, hB1, hB2, HT, HBF, HSW, hR, hK⟩ := hrel
    by_cases hlt : B ≤ n
    · have HI := Lib.hid (insSort_int g n c sz f1 A B A B rfl rfl wr hR (by omega) hlt (by omega))
      clear hR
      go_wp2_with fail
      refine HI.out.mono ?_
      rintro e w1 ⟨rfl, f2, hs2, hw2, hR2, hK2⟩
      have HT2 : Hid (B = (T + 1) * 20) := by show _ = _; rw [Nat.succ_mul, ← HT.out]; omega
      have HB2 : Hid (Bef 20 (T + 1) n f2) := bef_step HBF.out HT.out (by omega) hlt hs2 hw2
      have HW2 : Hid (Swaps 0 n f f2) := HSW.out.trans (hw2.mono (Nat.zero_le _) hlt)
      clear hs2 hw2 HI HT HBF HSW
      go_wp2_with fail
      go_roundw
      case rel => exact ⟨T + 1, B, B + 20, f2, rfl, by go_num, hlt, by omega, by omega, HT2, HB2, HW2, hR2, hK.trans hK2⟩
      case measure => simp [intOf]; omega
    · have HI := Lib.hid (insSort_int g n c sz f1 A n A n rfl rfl wr hR hA (Nat.le_refl _) (by omega))
      clear hR
      go_wp2_with fail
      refine HI.out.mono ?_
      rintro e w1 ⟨rfl, f2, hs2, hw2, hR2, hK2⟩
      have HB2 : Hid (Blks 20 0 n f2) := by
        have h1 : Bef 20 (T + 1) n f2 := by
          refine HBF.out.succ ?_ (fun k hk => hw2.out k (.inl (by rw [HT.out]; exact hk)))
          rw [← HT.out, Nat.min_eq_right (by omega)]
          exact hs2
        exact h1.all (by rw [Nat.succ_mul, ← HT.out]; omega)
      have HW2 : Hid (Swaps 0 n f f2) := HSW.out.trans (hw2.mono (Nat.zero_le _) (Nat.le_refl _))
      have hK2 := hK.trans hK2
      clear hs2 hw2 HI HT HBF HSW hK
      go_wp2_with fail
      go_loopw [6] (fun bs wx => ∃ (K : Nat) (f' : Nat → Fct), bs = .int .i64 K ∧ 20 ≤ K ∧ K ≤ 2000 ∧ Hid (Blks K 0 n f') ∧ Hid (Swaps 0 n f f') ∧ FRow wx g n sz f' ∧ Kp g w wx) (fun bs _ => n - (intOf bs).toNat)
      case atStart => exact ⟨20, f2, rfl, by omega, by omega, HB2, HW2, hR2, hK2⟩
      case round =>
        clear HB2 HW2 hR2 hK2
        obtain ⟨K, f3, rfl, hK20, hK2k, HBL, HSW3, hR3, hK3⟩ := hrel
        by_cases hKn : K < n
        · obtain ⟨D, hD⟩ : ∃ d, 2 * K = d := ⟨_, rfl⟩
          have hDi : 2 * (K : Int) = (D : Int) := by omega
          have hD1 : 2 * K ≤ D := by omega
          have hD2 : D ≤ 2 * K := by omega
          have HDD := Lib.hid hD
          clear hD
          go_wp2_with fail
          (try rw [hDi])
          go_loopw [7, 8] (fun a b wx => ∃ (T A B : Nat) (f' : Nat → Fct), a = .int .i64 A ∧ b = .int .i64 B ∧ A ≤ n ∧ B ≤ A + D ∧ A + D ≤ B ∧ Hid (A = T * D) ∧ Hid (Bef D T n f') ∧ Hid (Blks K A n f') ∧ Hid (Swaps 0 n f f') ∧ FRow wx g n sz f' ∧ Kp g w wx) (fun _ b _ => n + 4000 - (intOf b).toNat)
          case atStart => exact ⟨0, 0, D, f3, rfl, rfl, Nat.zero_le _, by omega, by omega, by show _ = _; omega, Bef.zero _ _ _, HBL, HSW3, hR3, hK3⟩
          case round =>
            clear HBL HSW3 hR3 hK3
            obtain ⟨T, A, B, f4, rfl, rfl, hA, hB1, hB2, HT, HBF, HBK, HSW, hR, hK⟩ := hrel
            have HPR : Hid (Srt A (min (A + K) n) f4 ∧ Srt (A + K) (min (A + D) n) f4) := by
              have := HBK.out.pair (t := T) (by rw [HDD.out, ← HT.out]; exact Nat.le_refl _)
              rw [HDD.out, ← HT.out] at this
              exact this
            by_cases hlt : B ≤ n
            · have HI := Lib.hid (fun x ex => symMerge_int g n c sz f4 A (A + K) B A x B rfl ex rfl wr hR (by omega) (by omega) hlt (by omega) (by have := HPR.out.1; rwa [Nat.min_eq_left (by omega)] at this) (by have := HPR.out.2; rwa [Nat.min_eq_left (by omega), show A + D = B by omega] at this))
              clear hR
              go_wp2_with fail
              refine (HI.out _ (by omega)).mono ?_
              rintro e w1 ⟨rfl, f5, hs5, hw5, hR5, hK5⟩
              have HT2 : Hid (B = (T + 1) * D) := by show _ = _; rw [Nat.succ_mul, ← HT.out]; omega
              have HB2 : Hid (Bef D (T + 1) n f5) := bef_step HBF.out HT.out (by omega) hlt hs5 hw5
              have HK2 : Hid (Blks K B n f5) := HBK.out.keep (by omega) (fun k hk => hw5.out k (.inr hk))
              have HW2 : Hid (Swaps 0 n f f5) := HSW.out.trans (hw5.mono (Nat.zero_le _) hlt)
              clear hs5 hw5 HI HT HBF HSW HBK HPR
              go_wp2_with fail
              (try rw [hDi])
              go_roundw
              case rel => exact ⟨T + 1, B, B + D, f5, rfl, (by first | go_num | (congr 1; omega)), hlt, by omega, by omega, HT2, HB2, HK2, HW2, hR5, hK.trans hK5⟩
              case measure => simp [intOf]; omega
            · have HI := Lib.hid (fun x ex h1 => symMerge_int g n c sz f4 A (A + K) n A x n rfl ex rfl wr hR (by omega) h1 (Nat.le_refl _) (by omega) (by have := HPR.out.1; rwa [Nat.min_eq_left (by omega)] at this) (by have := HPR.out.2; rwa [Nat.min_eq_right (by omega)] at this))
              have HEND : Hid (∀ f', Srt A n f' → (∀ k, k < A → f' k = f4 k) → Blks (2 * K) 0 n f') := fun f' hs hk => by
                have h1 : Bef D (T + 1) n f' := by
                  refine HBF.out.succ ?_ (fun k hk' => hk k (by rw [HT.out]; exact hk'))
                  rw [← HT.out, Nat.min_eq_right (by omega)]
                  exact hs
                rw [HDD.out]
                exact h1.all (by rw [Nat.succ_mul, ← HT.out]; omega)
              by_cases hm : A + K < n
              · clear hR
                go_wp2_with fail
                refine (HI.out _ (by omega) hm).mono ?_
                rintro e w1 ⟨rfl, f5, hs5, hw5, hR5, hK5⟩
                have HB2 := Lib.hid (HEND.out f5 hs5 (fun k hk => hw5.out k (.inl hk)))
                have HW2 : Hid (Swaps 0 n f f5) := HSW.out.trans (hw5.mono (Nat.zero_le _) (Nat.le_refl _))
                clear hs5 hw5 HI HT HBF HSW HBK HPR HEND
                go_wp2_with fail
                go_roundw
                case rel => exact ⟨2 * K, f5, (by first | go_num | (congr 1; omega)), by omega, by omega, HB2, HW2, hR5, hK.trans hK5⟩
                case measure => simp [intOf]; omega
              · have HB2 := Lib.hid (HEND.out f4 (by have := HPR.out.1; rwa [Nat.min_eq_right (by omega)] at this) (fun k hk => rfl))
                clear HI HT HBF HBK HPR HEND
                go_wp2_with fail
                go_roundw
                case rel => exact ⟨2 * K, f4, (by first | go_num | (congr 1; omega)), by omega, by omega, HB2, HSW, hR, hK⟩
                case measure => simp [intOf]; omega
        · have HFIN := Lib.hid (HBL.out.whole (by omega))
          go_wp2
          go_end0
          exact ⟨rfl, f3, HFIN.out, HSW3.out, hR3, hK3⟩
end Go.Proofs.YtdbcbbiplkikcaaGreat

namespace Go.Proofs.YtdbcbbiplkikcaaGreat
namespace DivMath

structure Inv (u n1 n0 l q r : Int) : Prop where
  split : q * n1 + r = u
  above : (u * 4294967296 + l) / (n1 * 4294967296 + n0) ≤ q
  small : r < 4294967296
  pos : 0 ≤ r
  qpos : 0 ≤ q

structure Dom (u n1 n0 l : Int) : Prop where
  n1l : 2147483648 ≤ n1
  n1h : n1 < 4294967296
  n0l : 0 ≤ n0
  n0h : n0 < 4294967296
  ll : 0 ≤ l
  lh : l < 4294967296
  ul : 0 ≤ u
  uh : u < n1 * 4294967296 + n0

variable {u n1 n0 l q r : Int}

theorem start (d : Dom u n1 n0 l) : Inv u n1 n0 l (u / n1) (u - u / n1 * n1) := by
  obtain ⟨d1, d2, d3, d4, d5, d6, d7, d8⟩ := d
  have h1 := Int.mul_ediv_add_emod u n1
  have h2 := Int.emod_lt_of_pos u (show 0 < n1 by omega)
  have h2' := Int.emod_nonneg u (show n1 ≠ 0 by omega)
  have h3 : u / n1 * n1 = n1 * (u / n1) := Int.mul_comm _ _
  have hq0 : 0 ≤ u / n1 := Int.ediv_nonneg d7 (by omega)
  refine ⟨by omega, ?_, by omega, by omega, hq0⟩
  have hlt : u * 4294967296 + l < (u / n1 + 1) * (n1 * 4294967296 + n0) := by
    have h4 : (u / n1 + 1) * (n1 * 4294967296 + n0) = (n1 * (u / n1) + n1) * 4294967296 + (u / n1 + 1) * n0 := by grind
    have h7 : 0 ≤ (u / n1 + 1) * n0 := Int.mul_nonneg (by omega) d3
    rw [h4]
    omega
  have := (Int.ediv_lt_iff_lt_mul (show 0 < n1 * 4294967296 + n0 by omega)).2 hlt
  omega

theorem le_top (h : Inv u n1 n0 l q r) (d : Dom u n1 n0 l) : q ≤ 4294967297 := by
  obtain ⟨d1, d2, d3, d4, d5, d6, d7, d8⟩ := d
  have hs := h.split
  have hp := h.pos
  rcases Int.lt_or_le 4294967297 q with hq | hq
  · exfalso
    have : 4294967298 * n1 ≤ q * n1 := Int.mul_le_mul_of_nonneg_right hq (by omega)
    omega
  · exact hq

theorem prod (h : Inv u n1 n0 l q r) : q * (n1 * 4294967296 + n0) + r * 4294967296 = u * 4294967296 + q * n0 := by
  have hs := h.split
  rw [← hs]
  grind

theorem digit_lt (d : Dom u n1 n0 l) : (u * 4294967296 + l) / (n1 * 4294967296 + n0) < 4294967296 := by
  obtain ⟨d1, d2, d3, d4, d5, d6, d7, d8⟩ := d
  exact (Int.ediv_lt_iff_lt_mul (by omega)).2 (by omega)

theorem digit_nonneg (d : Dom u n1 n0 l) : 0 ≤ (u * 4294967296 + l) / (n1 * 4294967296 + n0) := by
  obtain ⟨d1, d2, d3, d4, d5, d6, d7, d8⟩ := d
  exact Int.ediv_nonneg (by omega) (by omega)

theorem down (h : Inv u n1 n0 l q r) (d : Dom u n1 n0 l) (ht : 4294967296 ≤ q ∨ 4294967296 * r + l < q * n0) :
    (u * 4294967296 + l) / (n1 * 4294967296 + n0) + 1 ≤ q := by
  rcases ht with ht | ht
  · have := digit_lt d; omega
  · have hp := prod h
    obtain ⟨d1, d2, d3, d4, d5, d6, d7, d8⟩ := d
    exact (Int.ediv_lt_iff_lt_mul (by omega)).2 (by omega)

theorem one_le (h : Inv u n1 n0 l q r) (d : Dom u n1 n0 l) (ht : 4294967296 ≤ q ∨ 4294967296 * r + l < q * n0) : 1 ≤ q := by
  have := down h d ht
  have := digit_nonneg d
  omega

theorem step (h : Inv u n1 n0 l q r) (d : Dom u n1 n0 l) (ht : 4294967296 ≤ q ∨ 4294967296 * r + l < q * n0) (hr : r + n1 < 4294967296) : Inv u n1 n0 l (q - 1) (r + n1) := by
  have hd := down h d ht
  have h1 := one_le h d ht
  have hs := h.split
  have hp := h.pos
  have hn := d.n1l
  refine ⟨?_, by omega, hr, by omega, by omega⟩
  rw [Int.sub_mul]
  omega

theorem ends (h : Inv u n1 n0 l q r) (d : Dom u n1 n0 l) (h2 : q * n0 ≤ 4294967296 * r + l) : q = (u * 4294967296 + l) / (n1 * 4294967296 + n0) := by
  have hp := prod h
  obtain ⟨d1, d2, d3, d4, d5, d6, d7, d8⟩ := d
  have hle : q ≤ (u * 4294967296 + l) / (n1 * 4294967296 + n0) := (Int.le_ediv_iff_mul_le (by omega)).2 (by omega)
  have := h.above
  omega

theorem breaks (h : Inv u n1 n0 l q r) (d : Dom u n1 n0 l) (ht : 4294967296 ≤ q ∨ 4294967296 * r + l < q * n0) (hr : 4294967296 ≤ r + n1) :
    q - 1 = (u * 4294967296 + l) / (n1 * 4294967296 + n0) := by
  have hd := down h d ht
  have htop := le_top h d
  have hp := prod h
  obtain ⟨d1, d2, d3, d4, d5, d6, d7, d8⟩ := d
  have h1 : (q - 1) * n0 ≤ 4294967296 * n0 := Int.mul_le_mul_of_nonneg_right (by omega) d3
  have e1 : (q - 1) * (n1 * 4294967296 + n0) = q * (n1 * 4294967296 + n0) - (n1 * 4294967296 + n0) := by grind
  have e2 : (q - 1) * n0 = q * n0 - n0 := by grind
  have hle : q - 1 ≤ (u * 4294967296 + l) / (n1 * 4294967296 + n0) := (Int.le_ediv_iff_mul_le (by omega)).2 (by omega)
  omega

theorem join {U Y u un1 un0 q1 u21 q0 : Int} (hY : 0 < Y) (hU : U = u * 18446744073709551616 + un1 * 4294967296 + un0) (hq1 : q1 = (u * 4294967296 + un1) / Y) (hu21 : u21 = (u * 4294967296 + un1) % Y)
    (hq0 : q0 = (u21 * 4294967296 + un0) / Y) : U / Y = q1 * 4294967296 + q0 ∧ U % Y = (u21 * 4294967296 + un0) % Y := by
  have h1 := Int.mul_ediv_add_emod (u * 4294967296 + un1) Y
  rw [← hq1, ← hu21] at h1
  have h2 : U = (u21 * 4294967296 + un0) + Y * (q1 * 4294967296) := by grind
  rw [h2, Int.add_mul_ediv_left _ _ (by omega), Int.add_mul_emod_self_left, ← hq0]
  exact ⟨by omega, rfl⟩

end DivMath
end Go.Proofs.YtdbcbbiplkikcaaGreat

namespace Go.Proofs.YtdbcbbiplkikcaaGreat
open Go.RowKit
set_option linter.unusedVariables false

set_option maxRecDepth 10000 in
set_option maxHeartbeats 4000000 in
theorem div64_core (hi lo y Y n1 n0 a b u un10 un1 un0 q p r qd c1 c2 c3 u21 qq pp rr qe d1 d2 d3 d4 rem : Int) (s : Nat) (w : World) (h1 : hi < y) (h2 : y ≤ 18446744073709551615) (h3 : lo ≤ 18446744073709551615) (h30 : 0 ≤ lo) (h0 : 0 < hi) (hs : s ≤ 63)
   (hlz : ∀ w : World, Calls Tryz.prog 232 #[.int .u64 y] w fun e w' => e = .returned (.int .i64 s) ∧ w = w')
   (e1 : IntKind.u64.wrap (y * 2 ^ s) = Y) (e2 : Y / 4294967296 = n1) (e3 : bits .and .u64 Y 4294967295 = n0) (e4 : IntKind.u64.wrap (hi * 2 ^ s) = a) (e5 : lo / 2 ^ (64 - s) = b)
   (e6 : bits .or .u64 a b = u) (e7 : IntKind.u64.wrap (lo * 2 ^ s) = un10) (e8 : un10 / 4294967296 = un1) (e9 : bits .and .u64 un10 4294967295 = un0)
   (e10 : u / n1 = q) (e11 : IntKind.u64.wrap (q * n1) = p) (e12 : u - p = r)
   (hpu : 0 ≤ p ∧ p ≤ u) (hq : q ≤ 4294967297) (hq00 : 0 ≤ q) (hu : u ≤ 18446744073709551615) (D : DivMath.Dom u n1 n0 un1) (HI : DivMath.Inv u n1 n0 un1 q r) (hY0 : 0 ≤ Y) (hY : Y ≤ 18446744073709551615) (h10 : 0 ≤ un10) (h10' : un10 ≤ 18446744073709551615)
   (hqd : Hid (qd = (u * 4294967296 + un1) / (n1 * 4294967296 + n0))) (hqd0 : 0 ≤ qd) (hqd' : qd < 4294967296)
   (f1 : IntKind.u64.wrap (u * 4294967296) = c1) (f2 : IntKind.u64.wrap (c1 + un1) = c2) (f3 : IntKind.u64.wrap (qd * Y) = c3) (f4 : IntKind.u64.wrap (c2 - c3) = u21)
   (e10' : u21 / n1 = qq) (e11' : IntKind.u64.wrap (qq * n1) = pp) (e12' : u21 - pp = rr) (hu' : u21 ≤ 18446744073709551615) (hu0' : 0 ≤ u21) (hpu' : 0 ≤ pp ∧ pp ≤ u21) (hq' : qq ≤ 4294967297) (hq00' : 0 ≤ qq) (DD : DivMath.Dom u21 n1 n0 un0) (HI' : DivMath.Inv u21 n1 n0 un0 qq rr)
   (hqe : Hid (qe = (u21 * 4294967296 + un0) / (n1 * 4294967296 + n0))) (hqe0 : 0 ≤ qe) (hqe' : qe < 4294967296)
   (g1 : IntKind.u64.wrap (u21 * 4294967296) = d1) (g2 : IntKind.u64.wrap (d1 + un0) = d2) (g3 : IntKind.u64.wrap (qe * Y) = d3) (g4 : IntKind.u64.wrap (d2 - d3) = d4) (g5 : d4 / 2 ^ s = rem) :
    Calls Tryz.prog 193 #[.int .u64 hi, .int .u64 lo, .int .u64 y] w fun e w' => e = .returned (.tuple #[.int .u64 (qd * 4294967296 + qe), .int .u64 rem]) ∧ w = w' := by
  have b1 : (y == 0) = false := by simp; omega
  have b2 : (hi == 0) = false := by simp; omega
  have z1 := D.n1l
  have z2 := D.n1h
  have z30 := D.n0l
  have z3 := D.n0h
  have z40 := D.ll
  have z4 := D.lh
  have z50 := DD.ll
  have z5 := DD.lh
  have zu := D.ul
  have b3 : (n1 == 0) = false := by simp; omega
  go_enter Tryz.func193, Tryz.ntmps193
  go_wp2_with (go_at_call 232; refine (hlz _).mono ?_; rintro e w' ⟨rfl, rfl⟩)
  clear e1 e2 e3 e4 e5 e6 e7 e8 e9 b1 b2 hlz h1 h2 h3 h0 h30
  go_loop [15, 16] (fun x z => ∃ q r : Int, DivMath.Inv u n1 n0 un1 q r ∧ q ≤ 4294967297 ∧ x = .int .u64 q ∧ z = .int .u64 r) (fun x _ => (intOf x).toNat)
  case atStart => exact ⟨q, r, HI, hq, (by first | rfl | simp only [e10]), (by first | rfl | simp only [e12])⟩
  case round =>
    clear HI hq hpu e10 e11 e12
    obtain ⟨q, r, HI, hq, rfl, rfl⟩ := hrel
    have hr := HI.small
    have hr0 := HI.pos
    have hq0 := HI.qpos
    by_cases t1 : 4294967296 ≤ q
    · have HT := Lib.hid (show 4294967296 ≤ q ∨ 4294967296 * r + un1 < q * n0 from Or.inl t1)
      have hq1 := DivMath.one_le HI D HT.out
      by_cases t2 : r + n1 < 4294967296
      · have HS := DivMath.step HI D HT.out t2
        go_wp2
        go_round
        case rel => exact ⟨q - 1, r + n1, HS, by omega, rfl, rfl⟩
        case measure => simp [intOf]; omega
      · have E : q - 1 = qd := (DivMath.breaks HI D HT.out (by omega)).trans hqd.out.symm
        go_wp2
        clear f1 f2 f3 f4
        go_loop [18, 16] (fun x z => ∃ q r : Int, DivMath.Inv u21 n1 n0 un0 q r ∧ q ≤ 4294967297 ∧ x = .int .u64 q ∧ z = .int .u64 r) (fun x _ => (intOf x).toNat)
        case atStart => exact ⟨qq, rr, HI', hq', (by first | rfl | simp only [e10']), (by first | rfl | simp only [e12'])⟩
        case round =>
          clear HI hq HI' hr hr0 hq0 e10' e11' e12'
          obtain ⟨q, r, HI, hq, rfl, rfl⟩ := hrel
          have hr := HI.small
          have hr0 := HI.pos
          have hq0 := HI.qpos
          by_cases t1 : 4294967296 ≤ q
          · have HT := Lib.hid (show 4294967296 ≤ q ∨ 4294967296 * r + un0 < q * n0 from Or.inl t1)
            have hq1 := DivMath.one_le HI DD HT.out
            by_cases t2 : r + n1 < 4294967296
            · have HS := DivMath.step HI DD HT.out t2
              go_wp2
              go_round
              case rel => exact ⟨q - 1, r + n1, HS, by omega, rfl, rfl⟩
              case measure => simp [intOf]; omega
            · have E : q - 1 = qe := (DivMath.breaks HI DD HT.out (by omega)).trans hqe.out.symm
              go_wp2
              go_ret2
              exact ⟨rfl, rfl⟩

          · obtain ⟨x, hx⟩ : ∃ x, q * n0 = x := ⟨_, rfl⟩
            have hx0 : 0 ≤ x := by rw [← hx]; exact Int.mul_nonneg hq0 z30
            have hx1 : x ≤ 18446744073709551615 := by
              have h1 : q * n0 ≤ 4294967295 * n0 := Int.mul_le_mul_of_nonneg_right (by omega) z30
              omega
            have HX := Lib.hid hx
            by_cases t3 : 4294967296 * r + un0 < x
            · have HT := Lib.hid (show 4294967296 ≤ q ∨ 4294967296 * r + un0 < q * n0 from Or.inr (by rw [hx]; exact t3))
              have hq1 := DivMath.one_le HI DD HT.out
              by_cases t2 : r + n1 < 4294967296
              · have HS := DivMath.step HI DD HT.out t2
                go_wp2
                go_round
                case rel => exact ⟨q - 1, r + n1, HS, by omega, rfl, rfl⟩
                case measure => simp [intOf]; omega
              · have E : q - 1 = qe := (DivMath.breaks HI DD HT.out (by omega)).trans hqe.out.symm
                go_wp2
                go_ret2
                exact ⟨rfl, rfl⟩

            · obtain rfl : q = qe := (DivMath.ends HI DD (by rw [hx]; omega)).trans hqe.out.symm
              go_wp2
              go_ret2
              exact ⟨rfl, rfl⟩


    · obtain ⟨x, hx⟩ : ∃ x, q * n0 = x := ⟨_, rfl⟩
      have hx0 : 0 ≤ x := by rw [← hx]; exact Int.mul_nonneg hq0 z30
      have hx1 : x ≤ 18446744073709551615 := by
        have h1 : q * n0 ≤ 4294967295 * n0 := Int.mul_le_mul_of_nonneg_right (by omega) z30
        omega
      have HX := Lib.hid hx
      by_cases t3 : 4294967296 * r + un1 < x
      · have HT := Lib.hid (show 4294967296 ≤ q ∨ 4294967296 * r + un1 < q * n0 from Or.inr (by rw [hx]; exact t3))
        have hq1 := DivMath.one_le HI D HT.out
        by_cases t2 : r + n1 < 4294967296
        · have HS := DivMath.step HI D HT.out t2
          go_wp2
          go_round
          case rel => exact ⟨q - 1, r + n1, HS, by omega, rfl, rfl⟩
          case measure => simp [intOf]; omega
        · have E : q - 1 = qd := (DivMath.breaks HI D HT.out (by omega)).trans hqd.out.symm
          go_wp2
          clear f1 f2 f3 f4
          go_loop [18, 16] (fun x z => ∃ q r : Int, DivMath.Inv u21 n1 n0 un0 q r ∧ q ≤ 4294967297 ∧ x = .int .u64 q ∧ z = .int .u64 r) (fun x _ => (intOf x).toNat)
          case atStart => exact ⟨qq, rr, HI', hq', (by first | rfl | simp only [e10']), (by first | rfl | simp only [e12'])⟩
          case round =>
            clear HI hq HI' hr hr0 hq0 e10' e11' e12'
            obtain ⟨q, r, HI, hq, rfl, rfl⟩ := hrel
            have hr := HI.small
            have hr0 := HI.pos
            have hq0 := HI.qpos
            by_cases t1 : 4294967296 ≤ q
            · have HT := Lib.hid (show 4294967296 ≤ q ∨ 4294967296 * r + un0 < q * n0 from Or.inl t1)
              have hq1 := DivMath.one_le HI DD HT.out
              by_cases t2 : r + n1 < 4294967296
              · have HS := DivMath.step HI DD HT.out t2
                go_wp2
                go_round
                case rel => exact ⟨q - 1, r + n1, HS, by omega, rfl, rfl⟩
                case measure => simp [intOf]; omega
              · have E : q - 1 = qe := (DivMath.breaks HI DD HT.out (by omega)).trans hqe.out.symm
                go_wp2
                go_ret2
                exact ⟨rfl, rfl⟩

            · obtain ⟨x, hx⟩ : ∃ x, q * n0 = x := ⟨_, rfl⟩
              have hx0 : 0 ≤ x := by rw [← hx]; exact Int.mul_nonneg hq0 z30
              have hx1 : x ≤ 18446744073709551615 := by
                have h1 : q * n0 ≤ 4294967295 * n0 := Int.mul_le_mul_of_nonneg_right (by omega) z30
                omega
              have HX := Lib.hid hx
              by_cases t3 : 4294967296 * r + un0 < x
              · have HT := Lib.hid (show 4294967296 ≤ q ∨ 4294967296 * r + un0 < q * n0 from Or.inr (by rw [hx]; exact t3))
                have hq1 := DivMath.one_le HI DD HT.out
                by_cases t2 : r + n1 < 4294967296
                · have HS := DivMath.step HI DD HT.out t2
                  go_wp2
                  go_round
                  case rel => exact ⟨q - 1, r + n1, HS, by omega, rfl, rfl⟩
                  case measure => simp [intOf]; omega
                · have E : q - 1 = qe := (DivMath.breaks HI DD HT.out (by omega)).trans hqe.out.symm
                  go_wp2
                  go_ret2
                  exact ⟨rfl, rfl⟩

              · obtain rfl : q = qe := (DivMath.ends HI DD (by rw [hx]; omega)).trans hqe.out.symm
                go_wp2
                go_ret2
                exact ⟨rfl, rfl⟩


      · obtain rfl : q = qd := (DivMath.ends HI D (by rw [hx]; omega)).trans hqd.out.symm
        go_wp2
        clear f1 f2 f3 f4
        go_loop [18, 16] (fun x z => ∃ q r : Int, DivMath.Inv u21 n1 n0 un0 q r ∧ q ≤ 4294967297 ∧ x = .int .u64 q ∧ z = .int .u64 r) (fun x _ => (intOf x).toNat)
        case atStart => exact ⟨qq, rr, HI', hq', (by first | rfl | simp only [e10']), (by first | rfl | simp only [e12'])⟩
        case round =>
          clear HI hq HI' hr hr0 hq0 e10' e11' e12'
          obtain ⟨q, r, HI, hq, rfl, rfl⟩ := hrel
          have hr := HI.small
          have hr0 := HI.pos
          have hq0 := HI.qpos
          by_cases t1 : 4294967296 ≤ q
          · have HT := Lib.hid (show 4294967296 ≤ q ∨ 4294967296 * r + un0 < q * n0 from Or.inl t1)
            have hq1 := DivMath.one_le HI DD HT.out
            by_cases t2 : r + n1 < 4294967296
            · have HS := DivMath.step HI DD HT.out t2
              go_wp2
              go_round
              case rel => exact ⟨q - 1, r + n1, HS, by omega, rfl, rfl⟩
              case measure => simp [intOf]; omega
            · have E : q - 1 = qe := (DivMath.breaks HI DD HT.out (by omega)).trans hqe.out.symm
              go_wp2
              go_ret2
              exact ⟨rfl, rfl⟩

          · obtain ⟨x, hx⟩ : ∃ x, q * n0 = x := ⟨_, rfl⟩
            have hx0 : 0 ≤ x := by rw [← hx]; exact Int.mul_nonneg hq0 z30
            have hx1 : x ≤ 18446744073709551615 := by
              have h1 : q * n0 ≤ 4294967295 * n0 := Int.mul_le_mul_of_nonneg_right (by omega) z30
              omega
            have HX := Lib.hid hx
            by_cases t3 : 4294967296 * r + un0 < x
            · have HT := Lib.hid (show 4294967296 ≤ q ∨ 4294967296 * r + un0 < q * n0 from Or.inr (by rw [hx]; exact t3))
              have hq1 := DivMath.one_le HI DD HT.out
              by_cases t2 : r + n1 < 4294967296
              · have HS := DivMath.step HI DD HT.out t2
                go_wp2
                go_round
                case rel => exact ⟨q - 1, r + n1, HS, by omega, rfl, rfl⟩
                case measure => simp [intOf]; omega
              · have E : q - 1 = qe := (DivMath.breaks HI DD HT.out (by omega)).trans hqe.out.symm
                go_wp2
                go_ret2
                exact ⟨rfl, rfl⟩

            · obtain rfl : q = qe := (DivMath.ends HI DD (by rw [hx]; omega)).trans hqe.out.symm
              go_wp2
              go_ret2
              exact ⟨rfl, rfl⟩


end Go.Proofs.YtdbcbbiplkikcaaGreat

namespace Go.Proofs.YtdbcbbiplkikcaaGreat
open Go.RowKit
set_option linter.unusedVariables false

namespace DivMath

theorem mask (a : Int) (h0 : 0 ≤ a) (h : a ≤ 18446744073709551615) : bits .and .u64 a 4294967295 = a % 4294967296 := by
  obtain ⟨n, rfl⟩ := Int.eq_ofNat_of_zero_le h0
  have h1 := bits_and_u64_nat n 4294967295 (by omega) (by omega)
  have e : n &&& 4294967295 = n % 4294967296 := Nat.and_two_pow_sub_one_eq_mod n 32
  rw [e] at h1
  exact h1.trans (by omega)

theorem orAdd (h t b : Int) (s : Nat) (h0 : 0 ≤ h) (hb0 : 0 ≤ b) (hb : b < 2 ^ s) (hs : s ≤ 63) (ha : h * 2 ^ s ≤ 18446744073709551615) : bits .or .u64 (h * 2 ^ s) b = h * 2 ^ s + b := by
  obtain ⟨n, rfl⟩ := Int.eq_ofNat_of_zero_le h0
  obtain ⟨m, rfl⟩ := Int.eq_ofNat_of_zero_le hb0
  have hp : (2 : Nat) ^ s ≤ 2 ^ 63 := Nat.pow_le_pow_right (by omega) hs
  have hc : ((n : Int) * 2 ^ s) = ((n * 2 ^ s : Nat) : Int) := by rw [Int.natCast_mul, Int.natCast_pow]; rfl
  have hc2 : ((2 : Int) ^ s) = ((2 ^ s : Nat) : Int) := by rw [Int.natCast_pow]; rfl
  rw [hc2] at hb
  rw [hc] at ha ⊢
  have h1 := bits_or_u64_nat (n * 2 ^ s) m (by omega) (by omega)
  rw [h1]
  have : n * 2 ^ s ||| m = n * 2 ^ s + m := by
    rw [Nat.mul_comm, ← Nat.two_pow_add_eq_or_of_lt (by omega)]
  rw [this, Int.natCast_add]

theorem norm (y : Int) (h0 : 0 < y) (h1 : y ≤ 18446744073709551615) : ∃ s : Nat, s ≤ 63 ∧ (64 - (Lib.bitLen y.toNat : Int)) = s ∧ 9223372036854775808 ≤ y * 2 ^ s ∧ y * 2 ^ s ≤ 18446744073709551615 := by
  obtain ⟨n, rfl⟩ := Int.eq_ofNat_of_zero_le (Int.le_of_lt h0)
  rw [Int.toNat_natCast]
  obtain ⟨b1, b2, b3⟩ := Lib.bitLenAux_bounds 64 n (by omega) (by omega)
  have b4 : Lib.bitLen n ≤ 64 := Lib.bitLen_le n 64 (by omega) (by omega)
  change 1 ≤ Lib.bitLen n at b1
  change 2 ^ (Lib.bitLen n - 1) ≤ n at b2
  change n < 2 ^ Lib.bitLen n at b3
  generalize Lib.bitLen n = b at *
  refine ⟨64 - b, by omega, by omega, ?_⟩
  have hc : ((n : Int) * 2 ^ (64 - b)) = ((n * 2 ^ (64 - b) : Nat) : Int) := by rw [Int.natCast_mul, Int.natCast_pow]; rfl
  rw [hc]
  have e1 : 2 ^ (b - 1) * 2 ^ (64 - b) = 9223372036854775808 := by rw [← Nat.pow_add, show b - 1 + (64 - b) = 63 by omega]
  have e2 : 2 ^ b * 2 ^ (64 - b) = 18446744073709551616 := by rw [← Nat.pow_add, show b + (64 - b) = 64 by omega]
  have l1 : 2 ^ (b - 1) * 2 ^ (64 - b) ≤ n * 2 ^ (64 - b) := Nat.mul_le_mul_right _ b2
  have l2 : n * 2 ^ (64 - b) < 2 ^ b * 2 ^ (64 - b) := Nat.mul_lt_mul_of_pos_right b3 (Nat.pow_pos (by omega))
  omega

theorem wrap_u64_mod (a : Int) : IntKind.u64.wrap a = a % 18446744073709551616 := IntKind.wrap_u64 a

theorem shifted (hi lo y P Q : Int) (hPQ : P * Q = 18446744073709551616) (hP : 0 < P) (hQ : 0 < Q) (h0 : 0 ≤ hi) (h1 : hi < y) (hl0 : 0 ≤ lo) (hl1 : lo ≤ 18446744073709551615) :
    0 ≤ lo / Q ∧ lo / Q < P ∧ hi * P + lo / Q < y * P ∧ (lo * P) % 18446744073709551616 = lo % Q * P ∧ (hi * 18446744073709551616 + lo) * P = (hi * P + lo / Q) * 18446744073709551616 + lo % Q * P := by
  have hd := Int.mul_ediv_add_emod lo Q
  have hm := Int.emod_nonneg lo (show Q ≠ 0 by omega)
  have hm2 := Int.emod_lt_of_pos lo hQ
  have hb : lo / Q < P := (Int.ediv_lt_iff_lt_mul hQ).2 (by rw [hPQ]; omega)
  have hb0 : 0 ≤ lo / Q := Int.ediv_nonneg hl0 (by omega)
  refine ⟨hb0, hb, ?_, ?_, ?_⟩
  · have : (hi + 1) * P ≤ y * P := Int.mul_le_mul_of_nonneg_right h1 (by omega)
    rw [Int.add_mul, Int.one_mul] at this
    omega
  · have e : lo * P = lo % Q * P + 18446744073709551616 * (lo / Q) := by
      conv => lhs; rw [← hd]
      rw [← hPQ]; grind
    rw [e, Int.add_mul_emod_self_left]
    refine Int.emod_eq_of_lt (Int.mul_nonneg hm (by omega)) ?_
    rw [← hPQ, Int.mul_comm P Q]
    exact Int.mul_lt_mul_of_pos_right hm2 hP
  · conv => lhs; rw [← hd]
    rw [← hPQ]; grind

theorem sub_mod_word (N q Y : Int) (hY0 : 0 < Y) (hY : Y ≤ 18446744073709551615) (hq : q = N / Y) : (N % 18446744073709551616 - q * Y % 18446744073709551616) % 18446744073709551616 = N % Y := by
  have h1 := Int.mul_ediv_add_emod N Y
  have h2 := Int.emod_nonneg N (show Y ≠ 0 by omega)
  have h3 := Int.emod_lt_of_pos N hY0
  rw [← hq] at h1
  have h4 : Y * q = q * Y := Int.mul_comm _ _
  generalize N % Y = r at *
  generalize q * Y = m at *
  omega

theorem head_digit (u n1 n0 un1 Y : Int) (hY : Y = n1 * 4294967296 + n0) (D : Dom u n1 n0 un1) (hYh : Y ≤ 18446744073709551615) (qd : Int) (hqd : qd = (u * 4294967296 + un1) / (n1 * 4294967296 + n0)) :
    IntKind.u64.wrap (IntKind.u64.wrap (IntKind.u64.wrap (u * 4294967296) + un1) - IntKind.u64.wrap (qd * Y)) = (u * 4294967296 + un1) % Y := by
  rw [← hY] at hqd
  have h := sub_mod_word (u * 4294967296 + un1) qd Y (by have := D.n1l; have := D.n0l; omega) hYh hqd
  rw [← h]
  simp only [wrap_u64_mod]
  generalize u * 4294967296 = x
  generalize qd * Y = z
  omega

theorem guess (u n1 n0 l : Int) (d : Dom u n1 n0 l) (hu : u ≤ 18446744073709551615) : IntKind.u64.wrap (u / n1 * n1) = u / n1 * n1 ∧ 0 ≤ u / n1 * n1 ∧ u / n1 * n1 ≤ u ∧ u / n1 ≤ 4294967297 ∧ 0 ≤ u / n1 := by
  have h := start d
  have h1 := h.split
  have h2 := h.pos
  have h3 := h.qpos
  have h5 : 0 ≤ u / n1 * n1 := Int.mul_nonneg h3 (by have := d.n1l; omega)
  refine ⟨?_, h5, by omega, le_top h d, h3⟩
  rw [wrap_u64_mod]
  generalize u / n1 * n1 = x at *
  omega

end DivMath

set_option maxHeartbeats 1000000 in
theorem div64_low (lo y : Int) (w : World) (h1 : 0 < y) (h2 : y ≤ 18446744073709551615) (hl0 : 0 ≤ lo) (hl1 : lo ≤ 18446744073709551615) :
    Calls Tryz.prog 193 #[.int .u64 0, .int .u64 lo, .int .u64 y] w fun e w' => e = .returned (.tuple #[.int .u64 (lo / y), .int .u64 (lo % y)]) ∧ ∃ n, w' = w.drewN n := by
  have b1 : (y == 0) = false := by simp; omega
  have q0 : ¬ y ≤ 0 := by omega
  have b2 : y ≠ 0 := by omega
  have w1 : IntKind.u64.wrap (lo.tdiv y) = lo / y := IntWalk.u64_quo lo y ⟨hl0, hl1, h1⟩
  have w2 : lo.tmod y = lo % y := IntWalk.rem_in lo y hl0
  go_enter Tryz.func193, Tryz.ntmps193
  go_wp2
  go_quiet (fail)
  go_wp2
  go_ret2
  exact ⟨rfl, _, rfl⟩

set_option maxHeartbeats 1000000 in
theorem div64_any (hi lo y : Int) (w : World) (h0 : 0 ≤ hi) (h1 : hi < y) (h2 : y ≤ 18446744073709551615) (hl0 : 0 ≤ lo) (hl1 : lo ≤ 18446744073709551615) :
    Calls Tryz.prog 193 #[.int .u64 hi, .int .u64 lo, .int .u64 y] w fun e w' => e = .returned (.tuple #[.int .u64 ((hi * 18446744073709551616 + lo) / y), .int .u64 ((hi * 18446744073709551616 + lo) % y)]) ∧ ∃ n, w' = w.drewN n := by
  by_cases hz : hi = 0
  · subst hz
    simpa using div64_low lo y w h1 h2 hl0 hl1
  obtain ⟨s, hs, hsl, hY0, hY1⟩ := DivMath.norm y (by omega) h2
  have hPQ : (2 : Int) ^ s * 2 ^ (64 - s) = 18446744073709551616 := by
    rw [← Int.pow_add, show s + (64 - s) = 64 by omega]; rfl
  have hP : (0 : Int) < 2 ^ s := Int.pow_pos (by omega)
  have hQ : (0 : Int) < 2 ^ (64 - s) := Int.pow_pos (by omega)
  obtain ⟨k1, k2, k3, k4, k5⟩ := DivMath.shifted hi lo y (2 ^ s) (2 ^ (64 - s)) hPQ hP hQ h0 h1 hl0 hl1
  have k6 : 0 ≤ hi * 2 ^ s := Int.mul_nonneg h0 (by omega)
  have hor := DivMath.orAdd hi 0 (lo / 2 ^ (64 - s)) s h0 k1 k2 hs (by omega)
  have hdY := Int.mul_ediv_add_emod (y * 2 ^ s) 4294967296
  have hn0 := Int.emod_nonneg (y * 2 ^ s) (show (4294967296 : Int) ≠ 0 by omega)
  have hn0' := Int.emod_lt_of_pos (y * 2 ^ s) (show (0 : Int) < 4294967296 by omega)
  have hYe : y * 2 ^ s = y * 2 ^ s / 4294967296 * 4294967296 + y * 2 ^ s % 4294967296 := by omega
  have k7 : 0 ≤ lo % 2 ^ (64 - s) * 2 ^ s := by rw [← k4]; omega
  have k8 : lo % 2 ^ (64 - s) * 2 ^ s ≤ 18446744073709551615 := by rw [← k4]; omega
  have D1 : DivMath.Dom (hi * 2 ^ s + lo / 2 ^ (64 - s)) (y * 2 ^ s / 4294967296) (y * 2 ^ s % 4294967296) (lo % 2 ^ (64 - s) * 2 ^ s / 4294967296) := ⟨by omega, by omega, by omega, by omega, by omega, by omega, by omega, by omega⟩
  obtain ⟨g1, g2, g3, g4, g5⟩ := DivMath.guess _ _ _ _ D1 (by omega)
  have hh := DivMath.head_digit _ _ _ _ (y * 2 ^ s) hYe D1 hY1 _ rfl
  have hm0 := Int.emod_nonneg ((hi * 2 ^ s + lo / 2 ^ (64 - s)) * 4294967296 + lo % 2 ^ (64 - s) * 2 ^ s / 4294967296) (show y * 2 ^ s ≠ 0 by omega)
  have hm1 := Int.emod_lt_of_pos ((hi * 2 ^ s + lo / 2 ^ (64 - s)) * 4294967296 + lo % 2 ^ (64 - s) * 2 ^ s / 4294967296) (show 0 < y * 2 ^ s by omega)
  have D2 : DivMath.Dom (((hi * 2 ^ s + lo / 2 ^ (64 - s)) * 4294967296 + lo % 2 ^ (64 - s) * 2 ^ s / 4294967296) % (y * 2 ^ s)) (y * 2 ^ s / 4294967296) (y * 2 ^ s % 4294967296) (lo % 2 ^ (64 - s) * 2 ^ s % 4294967296) := ⟨by omega, by omega, by omega, by omega, by omega, by omega, hm0, by omega⟩
  obtain ⟨g1', g2', g3', g4', g5'⟩ := DivMath.guess _ _ _ _ D2 (by omega)
  have hh' := DivMath.head_digit _ _ _ _ (y * 2 ^ s) hYe D2 hY1 _ rfl
  have hj := DivMath.join (U := (hi * 18446744073709551616 + lo) * 2 ^ s) (Y := y * 2 ^ s) (u := hi * 2 ^ s + lo / 2 ^ (64 - s)) (un1 := lo % 2 ^ (64 - s) * 2 ^ s / 4294967296) (un0 := lo % 2 ^ (64 - s) * 2 ^ s % 4294967296) (by omega) (by rw [k5]; omega) rfl rfl rfl
  obtain ⟨hj1, hj2⟩ := hj
  rw [Int.mul_ediv_mul_of_pos_left _ _ hP] at hj1
  rw [Int.mul_comm _ (2 ^ s), Int.mul_comm y (2 ^ s), Int.mul_emod_mul_of_pos _ _ hP, Int.mul_comm (2 ^ s) y] at hj2
  have hlz : ∀ w : World, Calls Tryz.prog 232 #[.int .u64 y] w fun e w' => e = .returned (.int .i64 s) ∧ w = w' := fun w =>
    (Tryz.bits_LeadingZeros64 y w (by omega) h2).mono fun e w' ⟨he, hw⟩ => ⟨by rw [he, hsl], hw.symm⟩
  have q1 := DivMath.digit_lt D1
  have q2 := DivMath.digit_nonneg D1
  have q3 := DivMath.digit_lt D2
  have q4 := DivMath.digit_nonneg D2
  refine (div64_core hi lo y (y * 2 ^ s) (y * 2 ^ s / 4294967296) (y * 2 ^ s % 4294967296) (hi * 2 ^ s) (lo / 2 ^ (64 - s)) (hi * 2 ^ s + lo / 2 ^ (64 - s)) (lo % 2 ^ (64 - s) * 2 ^ s) (lo % 2 ^ (64 - s) * 2 ^ s / 4294967296) (lo % 2 ^ (64 - s) * 2 ^ s % 4294967296)
    _ _ _ _ _ _ _ _ _ _ _ _ _ _ _ _ _ s w h1 h2 hl1 hl0 (by omega) hs hlz (by rw [DivMath.wrap_u64_mod]; omega) rfl (DivMath.mask _ (by omega) hY1) (by rw [DivMath.wrap_u64_mod]; omega) rfl hor (by rw [DivMath.wrap_u64_mod, k4]) rfl (DivMath.mask _ k7 k8) rfl g1 rfl ⟨g2, g3⟩ g4 g5 (by omega) D1 (DivMath.start D1) (by omega) hY1 k7 k8 rfl q2 q1 rfl rfl rfl hh rfl g1' rfl (by omega) hm0 ⟨g2', g3'⟩ g4' g5' D2 (DivMath.start D2) rfl q4 q3 rfl rfl rfl hh' rfl).mono ?_
  rintro e w' ⟨rfl, rfl⟩
  refine ⟨?_, 0, rfl⟩
  rw [← hYe, ← hj2, Int.mul_ediv_cancel_left _ (by omega), hj1]
end Go.Proofs.YtdbcbbiplkikcaaGreat

/-
  The contract (the recursive case) of slices.symMergeCmpFunc at facts. No statement of the seat is proved here. Conditions: two sorted ranges that lie in the row, one behind the other.
-/
import Derived.Test.YtemhiifgplaldaaMF
namespace Go.Proofs.Ytemhiifgplaldaa
open Go.RowKit
set_option linter.unusedVariables false

theorem rot_triv_left (f : Nat → Fct) (m e : Nat) : rotF f m m e = f := by
  funext k
  unfold rotF
  split
  · rw [if_pos (by omega)]; congr 1; omega
  · rfl
theorem rot_triv_right (f : Nat → Fct) (s m : Nat) : rotF f s m m = f := by
  funext k
  unfold rotF
  split
  · rw [if_neg (by omega)]; congr 1; omega
  · rfl

theorem rotate_int (g n c sz : Nat) (f : Nat → Fct) (a m b : Nat) (ai bi : Int) (ea : ai = a) (eb : bi = b) (fv : Value) (w : World) (h : FRow w g n sz f) (ham : a < m) (hmb : m < b) (hb : b ≤ n) (hn : n ≤ 1000000) :
    Calls Try.prog 82 #[.slice (some ⟨g, 0, none⟩) n c, .int .i64 ai, .int .i64 m, .int .i64 bi, fv] w (RowRes w g n sz (fun f' => f' = rotF f a m b ∧ Swaps a b f f')) := by
  subst ea eb
  exact rotate_any g n c sz f a m b fv w h ham hmb hb hn

set_option maxRecDepth 100000 in
set_option maxHeartbeats 8000000 in
theorem symMerge_rec (g n c sz : Nat) (f : Nat → Fct) (a m b : Nat) (w : World) (h : FRow w g n sz f) (ham : a + 2 ≤ m) (hmb : m + 2 ≤ b) (hb : b ≤ n) (hn : n ≤ 1000000) (hs1 : Srt a m f) (hs2 : Srt m b f)
    (IH : ∀ (a' m' b' : Nat) (f' : Nat → Fct) (w' : World), b' - a' < b - a → FRow w' g n sz f' → a' < m' → m' < b' → b' ≤ n → Srt a' m' f' → Srt m' b' f' → Calls Try.prog 72 #[.slice (some ⟨g, 0, none⟩) n c, .int .i64 a', .int .i64 m', .int .i64 b', .func (.func 53) #[] #[]] w' (Sorts w' g n sz a' b' f')) :
    Calls Try.prog 72 #[.slice (some ⟨g, 0, none⟩) n c, .int .i64 a, .int .i64 m, .int .i64 b, .func (.func 53) #[] #[]] w (Sorts w g n sz a b f) := by
  have HIH := Lib.hid IH
  have HS1 := Lib.hid hs1
  have HS2 := Lib.hid hs2
  have b1 : ((m : Int) - (a : Int) == 1) = false := by simp; omega
  have b2 : ((b : Int) - (m : Int) == 1) = false := by simp; omega
  clear IH hs1 hs2
  go_enter Try.func72, Try.ntmps72
  go_upto_region 25 with (fail)
  obtain ⟨mid, hmid⟩ : ∃ q : Nat, (a + b) / 2 = q := ⟨_, rfl⟩
  have hmidi : ((a : Int) + (b : Int)) / 2 = (mid : Int) := by omega
  rw [hmidi]
  have HMD := Lib.hid hmid.symm
  have hm1 : a + b ≤ 2 * mid + 1 := by omega
  have hm2 : 2 * mid ≤ a + b := by omega
  clear hmid hmidi
  go_upto_if 140 with (fail)
  go_cut [20, 21] (fun st r wx => ∃ lo r0 : Nat, st = .int .i64 lo ∧ r = .int .i64 r0 ∧ Hid (SymLo a m b mid lo r0) ∧ wx = w)
  case first =>
    as_aux_lemma =>
      by_cases hmm : mid < m
      · go_wp2_with fail
        go_meet
        exact ⟨mid + m - b, mid, by congr 1; omega, rfl, .inl ⟨hmm, rfl, rfl⟩, rfl⟩
      · go_wp2_with fail
        go_meet
        exact ⟨a, m, rfl, rfl, .inr ⟨by omega, rfl, rfl⟩, rfl⟩
  case rest =>
    obtain ⟨lo, r0, rfl, rfl, HLO, hw⟩ := hcut
    replace hw := hw.symm
    subst hw
    have hbd := sym_bounds HMD.out ham hmb HLO.out
    obtain ⟨d1, d2, d3, d4, d5, d6, d7⟩ := hbd
    go_upto_region 32 with (fail)
    obtain ⟨pp, hpp⟩ : ∃ q : Nat, (mid : Int) + (m : Int) - 1 = (q : Int) := ⟨mid + m - 1, by omega⟩
    have hp1 : pp + 1 ≤ mid + m := by omega
    have hp2 : mid + m ≤ pp + 1 := by omega
    go_wp2_with fail
    (try rw [hpp])
    clear hpp
    go_loopw [20, 21] (fun st r wx => ∃ S R : Nat, st = .int .i64 S ∧ r = .int .i64 R ∧ lo ≤ S ∧ S ≤ R ∧ R ≤ r0 ∧ Hid (SymA f (mid + m) lo S) ∧ Hid (SymB f (mid + m) R r0) ∧ FRow wx g n sz f ∧ Kp g w wx) (fun st r _ => (intOf r).toNat - (intOf st).toNat)
    case atStart => exact ⟨lo, r0, rfl, rfl, Nat.le_refl _, d2, Nat.le_refl _, fun c h1 h2 => by omega, fun c h1 h2 => by omega, h, Kp.refl _ _⟩
    case round =>
      clear h
      obtain ⟨S, R, rfl, rfl, hS1, hSR, hR0, HA, HB, hR, hK⟩ := hrel
      by_cases hlt : S < R
      · as_aux_lemma =>
          go_upto_region 35 with (fail)
          obtain ⟨C, hC⟩ : ∃ q : Nat, ((S : Int) + (R : Int)) / 2 = (q : Int) := ⟨(S + R) / 2, by omega⟩
          have hC1 : S ≤ C := by omega
          have hC2 : C < R := by omega
          rw [hC]
          clear hC
          obtain ⟨qq, hqq⟩ : ∃ q, pp - C = q := ⟨_, rfl⟩
          have u1 : IntKind.i64.wrap ((pp : Int) - (C : Int)) = (qq : Int) := (IntWalk.i64_in _ (by omega)).trans (by omega)
          have hq1 : qq + C ≤ pp := by omega
          have hq2 : pp ≤ qq + C := by omega
          have HQQ : Hid (mid + m - 1 - C = qq) := by show _ = _; omega
          clear hqq
          have hPn : qq < n := by omega
          have hQn : C < n := by omega
          have hPi : (qq : Int) < n := by omega
          have hQi : (C : Int) < n := by omega
          obtain ⟨xP, hxP⟩ : ∃ x, f qq = x := ⟨_, rfl⟩
          obtain ⟨xQ, hxQ⟩ : ∃ x, f C = x := ⟨_, rfl⟩
          have HCJ := Lib.hid (fun w' hb => cells_over (w' := w') hR hb hPn)
          have HCP := Lib.hid (fun w' hb => cells_over (w' := w') hR hb hQn)
          rw [hxP] at HCJ
          rw [hxQ] at HCP
          obtain ⟨a0, a1, a2, a3, a4⟩ := hR.cells hPn
          obtain ⟨b0, b1, b2, b3, b4⟩ := hR.cells hQn
          rw [hxP] at a0 a1 a2 a3 a4
          rw [hxQ] at b0 b1 b2 b3 b4
          have HCM : Hid (∀ wx, RowKit.Below wr.heap.size wr wx → Calls Try.prog 53 #[.agg #[.int .i64 xP.num, .int .i64 xP.kind, .int .i64 xP.day, .int .i64 xP.id, .int .i64 xP.qty], .agg #[.int .i64 xQ.num, .int .i64 xQ.kind, .int .i64 xQ.day, .int .i64 xQ.id, .int .i64 xQ.qty]] wx (fun e w' => (∃ r : Int, e = .returned (.int .i64 r) ∧ (xP.day < xQ.day → r = -1) ∧ (xQ.day ≤ xP.day → 0 ≤ r)) ∧ RowKit.Below wr.heap.size wr w')) := fun wx hb => cmpDay_over xP xQ wr wx hb
          have HB0 : Hid (RowKit.Below wr.heap.size wr wr.drew) := (Below.refl _ _).drew
          have HRR := Lib.hid hR
          have HKK := Lib.hid hK
          obtain ⟨bb, hbb⟩ : ∃ b, decide ((f qq).day < (f C).day) = b := ⟨_, rfl⟩
          have HBD := Lib.hid hbb
          rw [hxP, hxQ] at hbb
          have HBB := Lib.hid (fun r h => (cmp_test (r := r) h).trans hbb)
          clear hbb hxP hxQ hR hK
          go_cut [171] (fun v wx => v = .bool (!bb) ∧ RowKit.Below wr.heap.size wr wx)
          case first =>
            as_aux_lemma =>
              go_region_held3 (fun w' => w'.cell? ⟨g, qq * 5, none⟩ = some (.int .i64 xP.num) ∧ w'.cell? ⟨g, qq * 5 + 1, none⟩ = some (.int .i64 xP.kind) ∧ w'.cell? ⟨g, qq * 5 + 2, none⟩ = some (.int .i64 xP.day) ∧ w'.cell? ⟨g, qq * 5 + 3, none⟩ = some (.int .i64 xP.id) ∧ w'.cell? ⟨g, qq * 5 + 4, none⟩ = some (.int .i64 xP.qty) ∧ w'.cell? ⟨g, C * 5, none⟩ = some (.int .i64 xQ.num) ∧ w'.cell? ⟨g, C * 5 + 1, none⟩ = some (.int .i64 xQ.kind) ∧ w'.cell? ⟨g, C * 5 + 2, none⟩ = some (.int .i64 xQ.day) ∧ w'.cell? ⟨g, C * 5 + 3, none⟩ = some (.int .i64 xQ.id) ∧ w'.cell? ⟨g, C * 5 + 4, none⟩ = some (.int .i64 xQ.qty))
                (first
                  | go_keep
                  | exact ⟨(HCJ.out _ hb5.out).1, (HCJ.out _ hb5.out).2.1, (HCJ.out _ hb5.out).2.2.1, (HCJ.out _ hb5.out).2.2.2.1, (HCJ.out _ hb5.out).2.2.2.2, (HCP.out _ hb5.out).1, (HCP.out _ hb5.out).2.1, (HCP.out _ hb5.out).2.2.1, (HCP.out _ hb5.out).2.2.2.1, (HCP.out _ hb5.out).2.2.2.2⟩)
                (first
                  | (go_at_call 53; with_reducible (refine (HCM.out _ ?_).mono ?_); with_reducible (first | exact HB0.out | exact hb5.out); rintro e w5 ⟨⟨r, rfl, hr'⟩, hb5'⟩; have hb5 := Lib.hid hb5'; have hr := Lib.hid hr'; clear hb5' hr'))
              all_goals (go_wp2_with fail; go_meet; exact ⟨by rw [HBB.out r hr.out], hb5.out⟩)
          case rest =>
            obtain ⟨rfl, hb5⟩ := hcut
            have hR5 := HRR.out.keep hb5
            have hK5 := HKK.out.below hb5
            clear a0 a1 a2 a3 a4 b0 b1 b2 b3 b4 HCJ HCP HCM HB0 HRR HKK hb5 HBB
            clear u1
            cases bb
            case true =>
              have HB2 : Hid (SymB f (mid + m) C r0) := symB_step HMD.out ham hmb HLO.out HS1.out HS2.out (by omega) (by omega) (by rw [HQQ.out]; exact of_decide_eq_true HBD.out)
              clear HBD HB
              go_wp2_with fail
              go_roundw
              case rel => exact ⟨S, C, rfl, rfl, hS1, by omega, by omega, HA, HB2, hR5, hK5⟩
              case measure => simp [intOf]; omega
            case false =>
              have HA2 : Hid (SymA f (mid + m) lo (C + 1)) := symA_step HMD.out ham hmb HLO.out HS1.out HS2.out (by omega) (by omega) (by rw [HQQ.out]; exact of_decide_eq_false HBD.out)
              clear HBD HA
              go_wp2_with fail
              go_roundw
              case rel => exact ⟨C + 1, R, by go_num, rfl, by omega, by omega, hR0, HA2, HB, hR5, hK5⟩
              case measure => simp [intOf]; omega
      · obtain rfl : S = R := by omega
        obtain ⟨E, hE⟩ : ∃ q, mid + m - S = q := ⟨_, rfl⟩
        have HRT := Lib.hid (sym_rot HMD.out ham hmb HLO.out HS1.out HS2.out hS1 hR0 HA.out HB.out hE.symm)
        have hEi : (mid : Int) + (m : Int) - (S : Int) = (E : Int) := by omega
        have e1 : m ≤ E := HRT.out.1
        have e2 : E ≤ b := HRT.out.2.1
        have e3 : mid ≤ E := HRT.out.2.2.1
        have e4 : S ≤ m := by omega
        have e5 : S ≤ mid := by omega
        have e6 : E + S ≤ mid + m := by omega
        have e7 : mid + m ≤ E + S := by omega
        have HRO := Lib.hid (fun h1 h2 => rotate_int g n c sz f S m E S E rfl rfl (.func (.func 53) #[] #[]) wr hR h1 h2 (by omega) hn)
        clear HA HB hE
        go_upto_region 39 with (fail)
        (try rw [hEi])
        clear hEi
        obtain ⟨t1, ht1⟩ : ∃ b, (decide (S < m) && decide (m < E)) = b := ⟨_, rfl⟩
        have HT1 := Lib.hid ht1
        clear ht1
        have HRI := Lib.hid hR
        have HKI := Lib.hid hK
        clear hR hK
        go_cut [185] (fun v wx => v = .bool t1 ∧ wx = wr)
        case first =>
          as_aux_lemma =>
            by_cases c1 : S < m
            · by_cases c2 : m < E
              · obtain rfl : true = t1 := by rw [← HT1.out, decide_eq_true c1, decide_eq_true c2]; rfl
                go_wp2_with fail
                go_meet
                exact ⟨rfl, rfl⟩
              · obtain rfl : false = t1 := by rw [← HT1.out, decide_eq_false c2, Bool.and_false]
                go_wp2_with fail
                go_meet
                exact ⟨rfl, rfl⟩
            · obtain rfl : false = t1 := by rw [← HT1.out, decide_eq_false c1, Bool.false_and]
              go_wp2_with fail
              go_meet
              exact ⟨rfl, rfl⟩
        case rest =>
        obtain ⟨rfl, hw⟩ := hcut
        replace hw := hw.symm
        subst hw
        go_upto_if 185 with (fail)
        go_cut [] (fun wx => FRow wx g n sz (rotF f S m E) ∧ Hid (Swaps a b f (rotF f S m E)) ∧ Kp g w wx)
        case first =>
          as_aux_lemma =>
            cases t1
            case true =>
              have ht := HT1.out
              rw [Bool.and_eq_true] at ht
              have HRO2 := Lib.hid (HRO.out (of_decide_eq_true ht.1) (of_decide_eq_true ht.2))
              clear ht HT1 HRO
              go_wp2_with fail
              refine HRO2.out.mono ?_
              rintro e w1 ⟨rfl, f1, ⟨rfl, hsw⟩, hR1, hK1⟩
              go_wp2_with fail
              go_meet
              exact ⟨hR1, hsw.mono (by omega) (by omega), HKI.out.trans hK1⟩
            case false =>
              have HRI2 : Hid (rotF f S m E = f) := by
                show _ = _
                by_cases c1 : S < m
                · by_cases c2 : m < E
                  · have := HT1.out; rw [decide_eq_true c1, decide_eq_true c2] at this; cases this
                  · obtain rfl : m = E := by omega
                    exact rot_triv_right f S m
                · obtain rfl : m = S := by omega
                  exact rot_triv_left f m E
              clear HT1 HRO
              go_wp2_with fail
              go_meet
              exact ⟨by rw [HRI2.out]; exact HRI.out, by show Swaps _ _ _ _; rw [HRI2.out]; exact .refl, HKI.out⟩
        case rest =>
          as_aux_lemma =>
            clear HRO HRI HKI HT1
            obtain ⟨hR1, HW1, hK1⟩ := hcut
            obtain ⟨W1, rfl⟩ : ∃ W, W = wc := ⟨_, rfl⟩
            obtain ⟨f1, hf1⟩ : ∃ x, rotF f S m E = x := ⟨_, rfl⟩
            rw [hf1] at HRT hR1 HW1
            clear hf1
            have HL := Lib.hid (fun h1 h2 => HIH.out a S mid f1 W1 (by omega) hR1 h1 h2 (by omega) HRT.out.2.2.2.1 HRT.out.2.2.2.2.1)
            have HRR := Lib.hid hR1
            have HKK := Lib.hid hK1
            clear hR1 hK1
            obtain ⟨t2, ht2⟩ : ∃ b, (decide (a < S) && decide (S < mid)) = b := ⟨_, rfl⟩
            have HT2 := Lib.hid ht2
            clear ht2
            go_upto_region 41 with (fail)
            go_cut [199] (fun v wx => v = .bool t2 ∧ wx = W1)
            case first =>
              as_aux_lemma =>
                by_cases c1 : a < S
                · by_cases c2 : S < mid
                  · obtain rfl : true = t2 := by rw [← HT2.out, decide_eq_true c1, decide_eq_true c2]; rfl
                    go_wp2_with fail
                    go_meet
                    exact ⟨rfl, rfl⟩
                  · obtain rfl : false = t2 := by rw [← HT2.out, decide_eq_false c2, Bool.and_false]
                    go_wp2_with fail
                    go_meet
                    exact ⟨rfl, rfl⟩
                · obtain rfl : false = t2 := by rw [← HT2.out, decide_eq_false c1, Bool.false_and]
                  go_wp2_with fail
                  go_meet
                  exact ⟨rfl, rfl⟩
            case rest =>
            obtain ⟨rfl, hw⟩ := hcut
            replace hw := hw.symm
            subst hw
            go_upto_if 199 with (fail)
            go_cut [] (fun wx => ∃ f2, FRow wx g n sz f2 ∧ Hid (Swaps a mid f1 f2) ∧ Hid (Srt a mid f2) ∧ Kp g w wx)
            case first =>
              as_aux_lemma =>
                cases t2
                case true =>
                  have ht := HT2.out
                  rw [Bool.and_eq_true] at ht
                  have HL2 := Lib.hid (HL.out (of_decide_eq_true ht.1) (of_decide_eq_true ht.2))
                  clear ht HT2 HL
                  go_wp2_with fail
                  refine HL2.out.mono ?_
                  rintro e w1 ⟨rfl, f2, hs2, hw2, hR2, hK2⟩
                  go_wp2_with fail
                  go_meet
                  exact ⟨f2, hR2, hw2, hs2, HKK.out.trans hK2⟩
                case false =>
                  have HZ : Hid (Srt a mid f1) := by
                    show Srt _ _ _
                    by_cases c1 : a < S
                    · by_cases c2 : S < mid
                      · have := HT2.out; rw [decide_eq_true c1, decide_eq_true c2] at this; cases this
                      · obtain rfl : mid = S := by omega
                        exact HRT.out.2.2.2.1
                    · obtain rfl : a = S := by omega
                      exact HRT.out.2.2.2.2.1
                  clear HT2 HL
                  go_wp2_with fail
                  go_meet
                  exact ⟨f1, HRR.out, .refl, HZ, HKK.out⟩
            case rest =>
              clear HL HRR HKK HT2
              obtain ⟨f2, hR2, HW2, HS3, hK2⟩ := hcut
              obtain ⟨W2, rfl⟩ : ∃ W, W = wc := ⟨_, rfl⟩
              have HQ1 : Hid (Srt mid E f2) := HRT.out.2.2.2.2.2.1.congr fun k h1 h2 => HW2.out.out k (.inr h1)
              have HQ2 : Hid (Srt E b f2) := HRT.out.2.2.2.2.2.2.1.congr fun k h1 h2 => HW2.out.out k (.inr (by omega))
              have HL := Lib.hid (fun h1 h2 => HIH.out mid E b f2 W2 (by omega) hR2 h1 h2 hb HQ1.out HQ2.out)
              have HFI := Lib.hid (fun f3 h2 s2 => sym_final (g2 := f3) HW2.out h2 HS3.out s2 HRT.out.2.2.2.2.2.2.2)
              have HFW : Hid (∀ f3, Swaps mid b f2 f3 → Swaps a b f f3) := fun f3 h2 => (HW1.out.trans (HW2.out.mono (Nat.le_refl _) (by omega))).trans (h2.mono (by omega) (Nat.le_refl _))
              have HRR := Lib.hid hR2
              have HKK := Lib.hid hK2
              clear hR2 hK2
              by_cases c1 : mid < E
              · by_cases c2 : E < b
                · go_wp2_with fail
                  refine (HL.out c1 c2).mono ?_
                  rintro e w1 ⟨rfl, f3, hs4, hw4, hR4, hK4⟩
                  go_wp2
                  go_end0
                  exact ⟨rfl, f3, HFI.out f3 hw4 hs4, HFW.out f3 hw4, hR4, HKK.out.trans hK4⟩
                · obtain rfl : b = E := by omega
                  have hd : decide (b < b) = false := by simp
                  go_wp2
                  go_end0
                  exact ⟨rfl, f2, HFI.out f2 .refl HQ1.out, HFW.out f2 .refl, HRR.out, HKK.out⟩
              · obtain rfl : mid = E := by omega
                have hd : decide (mid < mid) = false := by simp
                go_wp2
                go_end0
                exact ⟨rfl, f2, HFI.out f2 .refl HQ2.out, HFW.out f2 .refl, HRR.out, HKK.out⟩

theorem symMerge_any (g n c sz : Nat) (hn : n ≤ 1000000) : ∀ (L a m b : Nat) (f : Nat → Fct) (w : World), b - a ≤ L → FRow w g n sz f → a < m → m < b → b ≤ n → Srt a m f → Srt m b f → Calls Try.prog 72 #[.slice (some ⟨g, 0, none⟩) n c, .int .i64 a, .int .i64 m, .int .i64 b, .func (.func 53) #[] #[]] w (Sorts w g n sz a b f) := by
  intro L
  induction L with
  | zero => intro a m b f w h1 h2 h3 h4; omega
  | succ L ih =>
    intro a m b f w h1 h2 h3 h4 h5 s1 s2
    by_cases c1 : a + 1 = m
    · exact symMerge_one g n c sz f a m b w h2 c1 h4 h5 hn s2
    · by_cases c2 : m + 1 = b
      · exact symMerge_two g n c sz f a m b w h2 (by omega) c2 h5 hn s1
      · exact symMerge_rec g n c sz f a m b w h2 (by omega) (by omega) h5 hn s1 s2 (fun a' m' b' f' w' k1 k2 k3 k4 k5 k6 k7 => ih a' m' b' f' w' (by omega) k2 k3 k4 k5 k6 k7)
end Go.Proofs.Ytemhiifgplaldaa

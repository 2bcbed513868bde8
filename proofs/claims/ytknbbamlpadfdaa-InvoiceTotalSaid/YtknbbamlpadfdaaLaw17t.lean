/-
  The walk of the law InvoiceTotal. No statement of the seat is proved here. Conditions: the slices read as integers.
-/
import Derived.Test.YtknbbamlpadfdaaLaw17o
import Derived.Test.YtknbbamlpadfdaaMath17t
import Derived.StillTailTactics
namespace Go.Proofs.Ytknbbamlpadfdaa
open Go.RowKit
set_option linter.unusedVariables false

/-- A row of charges with its room. -/
theorem own_row5c {w : World} {base m d : Nat} {B : Option Addr} {t : TypeId} {cs : List Chg} (h : w.ownsRow base t 5 (.slice B m d) m (flat encC cs)) (hl : cs.length = m) (hm : 0 < m) :
    ∃ g arr, B = some ⟨g, 0, none⟩ ∧ base ≤ g ∧ Bl w g t arr ∧ Row5 arr m (fun i => cs[i]!) ∧ Hid (arr.size = d * 5) ∧ m ≤ d ∧ d ≤ maxLen := by
  rcases h.2 with ⟨_, h0⟩ | ⟨g, cap, cur, hv, hb, hh, h1, h2, h3, h4⟩
  · omega
  · injection hv with e1 e2 e3
    subst e3
    refine ⟨g, cur, e1, hb, hh, fun j hj c hc => ?_, h3, h1, h2⟩
    have := flat_get encC_len cs j c (by omega) hc
    rw [← h4, List.getElem?_take, if_pos (by omega), Array.getElem?_toList] at this
    exact this
theorem own_of_row5 {w : World} {base g m cap : Nat} {t : TypeId} {arr : Array Value} {f : Nat → Chg} (hb : Bl w g t arr) (h : Row5 arr m f) (hg : base ≤ g) (hs : arr.size = cap * 5) (hm : m ≤ cap) (hc : cap ≤ maxLen) : w.ownsRow base t 5 (.slice (some ⟨g, 0, none⟩) m cap) m (flat encC ((List.range m).map f)) := by
  have hfl := flat_length encC_len ((List.range m).map f)
  rw [List.length_map, List.length_range] at hfl
  refine ⟨hfl, .inr ⟨g, cap, arr, rfl, hg, hb, hm, hc, hs, ?_⟩⟩
  apply List.ext_getElem?
  intro i
  rw [List.getElem?_take]
  by_cases hi : i < m * 5
  · have e1 : i / 5 * 5 + i % 5 = i := by omega
    have hj : i / 5 < m := by omega
    have hc : i % 5 < 5 := by omega
    have h1 := h (i / 5) hj (i % 5) hc
    have h2 := flat_get encC_len ((List.range m).map f) (i / 5) (i % 5) (by simpa using hj) hc
    rw [e1] at h1 h2
    rw [if_pos hi, Array.getElem?_toList, h1, h2]
    congr 2
    simp [hj]
  · rw [if_neg hi, List.getElem?_eq_none (by omega)]
theorem Row5.set' {arr : Array Value} {m : Nat} {f : Nat → Chg} (h : Row5 arr m f) (i c0 : Nat) (hi : i < m) (hc0 : c0 < 5) (x : Chg) (v : Value) (hv : ∀ c, c < 5 → (encC x)[c]! = if c = c0 then v else (encC (f i))[c]!) : Row5 (arr.setIfInBounds (i * 5 + c0) v) m (fun j => if j = i then x else f j) := by
  have hs : i * 5 + c0 < arr.size := by
    rcases Nat.lt_or_ge (i * 5 + c0) arr.size with h1 | h1
    · exact h1
    · have := h i hi c0 hc0
      rw [Array.getElem?_eq_none h1] at this
      cases this
  intro j hj c hc
  show _ = some ((encC (if j = i then x else f j))[c]!)
  rw [Array.getElem?_setIfInBounds]
  by_cases e : i * 5 + c0 = j * 5 + c
  · obtain rfl : i = j := by omega
    obtain rfl : c0 = c := by omega
    rw [if_pos rfl, if_pos hs, if_pos rfl, hv c0 hc, if_pos rfl]
  · rw [if_neg e]
    by_cases e2 : j = i
    · subst e2
      rw [if_pos rfl, hv c hc, if_neg (by omega), h j hj c hc]
    · rw [if_neg e2, h j hj c hc]
/-- A charge of the row with another basis or line. -/
theorem own_basis {w : World} {base g m d j : Nat} {t : TypeId} {cs cs' : List Chg} (h : w.ownsRow base t 5 (.slice (some ⟨g, 0, none⟩) m d) m (flat encC cs')) (hl : cs'.length = m) (hc : cs.length = m) (hs : Sim cs cs') (hj : j < m) (v : Int) :
    ∃ cs2 : List Chg, (w.setCell ⟨g, j * 5 + 3, none⟩ (.int .i64 v)).ownsRow base t 5 (.slice (some ⟨g, 0, none⟩) m d) m (flat encC cs2) ∧ cs2.length = m ∧ Sim cs cs2 := by
  obtain ⟨g', arr, e, hg, hb, hr, hz, hm, hd⟩ := own_row5c h hl (by omega)
  injection e with e
  injection e with e
  subst e
  have h2 := hr.set' j 3 hj (by omega) { cs'[j]! with basis := v } (.int .i64 v) (fun c hc => by rcases (show c = 0 ∨ c = 1 ∨ c = 2 ∨ c = 3 ∨ c = 4 by omega) with rfl | rfl | rfl | rfl | rfl <;> rfl)
  exact ⟨_, own_of_row5 (hb.put _ _) h2 hg (by rw [Array.size_setIfInBounds]; exact hz.out) hm hd, by simp, hs.set hc j { cs'[j]! with basis := v } hj rfl rfl rfl _ (fun _ _ => rfl)⟩
theorem own_line {w : World} {base g m d j : Nat} {t : TypeId} {cs cs' : List Chg} (h : w.ownsRow base t 5 (.slice (some ⟨g, 0, none⟩) m d) m (flat encC cs')) (hl : cs'.length = m) (hc : cs.length = m) (hs : Sim cs cs') (hj : j < m) (v : Int) :
    ∃ cs2 : List Chg, (w.setCell ⟨g, j * 5 + 4, none⟩ (.int .i64 v)).ownsRow base t 5 (.slice (some ⟨g, 0, none⟩) m d) m (flat encC cs2) ∧ cs2.length = m ∧ Sim cs cs2 := by
  obtain ⟨g', arr, e, hg, hb, hr, hz, hm, hd⟩ := own_row5c h hl (by omega)
  injection e with e
  injection e with e
  subst e
  have h2 := hr.set' j 4 hj (by omega) { cs'[j]! with line := v } (.int .i64 v) (fun c hc => by rcases (show c = 0 ∨ c = 1 ∨ c = 2 ∨ c = 3 ∨ c = 4 by omega) with rfl | rfl | rfl | rfl | rfl <;> rfl)
  exact ⟨_, own_of_row5 (hb.put _ _) h2 hg (by rw [Array.size_setIfInBounds]; exact hz.out) hm hd, by simp, hs.set hc j { cs'[j]! with line := v } hj rfl rfl rfl _ (fun _ _ => rfl)⟩

set_option maxRecDepth 100000 in
set_option maxHeartbeats 16000000 in
theorem walkInvoiceTotal (A0 : Option Addr) (n0 c0 : Nat) (xs : List Int) (A1 : Option Addr) (n1 c1 : Nat) (ys : List Int) (basis line : Int) (w : World)
    (h0 : Ints w A0 n0 xs) (hl0 : n0 ≤ c0) (hc0 : c0 ≤ 9223372036854775807) (h1 : Ints w A1 n1 ys) (hl1 : n1 ≤ c1) (hc1 : c1 ≤ 9223372036854775807) :
    Calls Try.prog 6 #[.slice A0 n0 c0, .slice A1 n1 c1, .int .i64 basis, .int .i64 line] w fun e w' => e = .returned (.bool true) ∧ RowKit.Below w.heap.size w w' := by
  go_enter Try.func6, Try.ntmps6
  go_wp2_with fail
  refine (invoice_any A1 n1 c1 ys w h1 hl1 hc1).mono ?_
  rintro e w1 ⟨cu, day, A, n, c, B, m, d, ls, cs, rfl, hcu, hie, hn, hm, hcs, hln, hcm, hol, hoc, hb1⟩
  obtain ⟨i1, i2, i3, i4, i5, hlo, hco⟩ := invErr_zero hie
  have hn0 : 0 < n := by omega
  have HLO := Lib.hid hlo
  have HCO := Lib.hid hco
  have HCU : Hid (cu.size ≤ 9223372036854775807) := by show _ ≤ _; omega
  have HC3 := Lib.hid hcs
  have HLN := Lib.hid hln
  have HCM := Lib.hid hcm
  have hl := Recs.of_own enc2_len hol hln
  have hc := Recs.of_own encC_len hoc hcm
  have hr := Rd.of_own hoc
  clear hcu hie hcs hln hcm hol hoc i1 i2 i3 i4 i5 hlo hco
  go_wp2_with fail
  refine (table_any A0 n0 c0 xs w1 (h0.below hb1) hl0 hc0).mono ?_
  rintro e w2 ⟨T, tn, tc, ts, rfl, htl, htn, hts, hot, hb2⟩
  have HTS := Lib.hid (exsz_of hts)
  have hT := Recs.of_own encX_len hot htl
  have hl2 := hl.below hb2
  have hc2 := hc.below hb2
  have hr2 := hr.keep hb2
  have hB2 := hb1.trans (hb2.mono hb1.size)
  clear hts htl hot hb1 hb2 hl hc hr h0 h1
  have hal : RowKit.Below w2.heap.size w2 (w2.alloc (.cells #[.string cu, .int .i64 day, .slice A n c, .slice B m d] 25)) := (Below.refl _ _).alloc (Nat.le_refl _) _
  have hx := Bl.new w2 25 #[.string cu, .int .i64 day, .slice A n c, .slice B m d]
  have hgl := hx.lt
  go_wp2_with fail
  generalize w2.alloc (.cells #[.string cu, .int .i64 day, .slice A n c, .slice B m d] 25) = W at *
  have hl3 := hl2.below hal
  have hT3 := hT.below hal
  have p0 : W.cell? ⟨w2.heap.size, 0, none⟩ = some (.string cu) := hx.cell 0
  have p1 : W.cell? ⟨w2.heap.size, 1, none⟩ = some (.int .i64 day) := hx.cell 1
  have p2 : W.cell? ⟨w2.heap.size, 2, none⟩ = some (.slice A n c) := hx.cell 2
  go_loop [11, 13] (fun s i => ∃ k : Nat, k ≤ n ∧ i = .int .i64 k ∧ s = .int .i64 ((pricesOf ls).take k).sum) (fun _ i => n - (intOf i).toNat)
  case atStart => exact ⟨0, Nat.zero_le _, rfl, by simp⟩
  case round =>
    obtain ⟨k, hk, rfl, rfl⟩ := hrel
    have HPL : Hid ((pricesOf ls).length = n) := (prices_len ls).trans HLN.out
    by_cases hlt : k < n
    · obtain ⟨b, off, x, y, rfl, _, hc1, hc2, HX⟩ := hl3.get2 hlt
      have hb := sum_take_bound (pricesOf ls) 1000000000000 (prices_in HLO.out) k (by have := HPL.out; omega)
      have hb0 := prices_in HLO.out k
      have HS := Lib.hid (sum_take_succ (pricesOf ls) k (by have := HPL.out; omega))
      have e0 : (pricesOf ls).getD k 0 = x := by rw [prices_get k (by have := HLN.out; omega), HX.out]
      rw [e0] at hb0 HS
      clear e0
      generalize ((pricesOf ls).take k).sum = s at *
      go_wp2
      go_round
      case rel => exact ⟨k + 1, by omega, by go_num, by rw [HS.out]⟩
      case measure => simp [intOf]; omega
    · obtain rfl : n = k := by omega
      have hb := sum_take_bound (pricesOf ls) 1000000000000 (prices_in HLO.out) n (by have := HPL.out; omega)
      rw [List.take_of_length_le (by have := HPL.out; omega)] at hb ⊢
      have HC := Lib.hid (convert_any T tn tc ts (pricesOf ls).sum cu day W hT3 (by omega) HTS.out HCU.out hb.1 (by omega))
      obtain ⟨cv, hcv⟩ : ∃ v, convOut ts (pricesOf ls).sum cu.toList day = v := ⟨_, rfl⟩
      obtain ⟨ce, hce⟩ : ∃ v, convErr ts (pricesOf ls).sum cu.toList day = v := ⟨_, rfl⟩
      rw [hcv, hce] at HC
      have HK0 : Hid (okT ts cu.toList day ls cs 0 = (ce == 0)) := by show okT _ _ _ _ _ _ = _; rw [okT, hce]
      have HW0 : Hid (wantT ts cu.toList day ls cs 0 = cv) := by show wantT _ _ _ _ _ _ = _; unfold wantT; rw [sumN_zero, hcv]; omega
      clear hcv hce hb
      generalize (pricesOf ls).sum = S at *
      go_wp2_with fail
      refine HC.out.mono ?_
      rintro e w4 ⟨rfl, hb4⟩
      clear HC p0 p1 p2
      go_wp2_with fail
      go_loopw [12, 14, 16] (fun ok want i wx => ∃ k : Nat, k ≤ m ∧ i = .int .i64 k ∧ ok = .bool (okT ts cu.toList day ls cs k) ∧ want = .int .i64 (wantT ts cu.toList day ls cs k) ∧ RowKit.Below W.heap.size W wx) (fun _ _ i _ => m - (intOf i).toNat)
      case atStart => exact ⟨0, Nat.zero_le _, rfl, by rw [HK0.out], by rw [HW0.out], hb4⟩
      case round =>
        clear hb4 HK0 HW0
        obtain ⟨k, hk, rfl, rfl, rfl, hbr⟩ := hrel
        have hxr := hx.keep hbr
        have q0 : wr.cell? ⟨w2.heap.size, 0, none⟩ = some (.string cu) := hxr.cell 0
        have q1 : wr.cell? ⟨w2.heap.size, 1, none⟩ = some (.int .i64 day) := hxr.cell 1
        have q2 : wr.cell? ⟨w2.heap.size, 2, none⟩ = some (.slice A n c) := hxr.cell 2
        have q3 : wr.cell? ⟨w2.heap.size, 3, none⟩ = some (.slice B m d) := hxr.cell 3
        have hwb := wantT_bounds (t := ts) (cur := cu.toList) (day := day) HLO.out HCO.out k (by have := HCM.out; omega)
        by_cases hlt : k < m
        · have hcr := (hc2.below hal).below hbr
          obtain ⟨b, off, kk, aa, cc, ss, ll, rfl, hbl, e1, e2, e3, e4, e5, HX⟩ := hcr.getC hlt
          have hk9 := HCO.out k (by have := HCM.out; omega)
          rw [HX.out] at hk9
          unfold chgOk at hk9
          have hka : 0 ≤ aa ∧ aa ≤ 1000000000000 := by have := hk9; dsimp at this; omega
          have HCC : Hid (cc.size ≤ 9223372036854775807) := by
            have := chsz_of HC3.out k (by have := HCM.out; omega)
            rw [HX.out] at this
            exact this
          have hTr := hT3.below hbr
          obtain ⟨cv, hcv⟩ : ∃ v, convOut ts aa cc.toList day = v := ⟨_, rfl⟩
          obtain ⟨ce, hce⟩ : ∃ v, convErr ts aa cc.toList day = v := ⟨_, rfl⟩
          have hvb := convOut_bounds (xs := ts) (amt := aa) (c := cc.toList) (day := day) hka.1
          rw [hcv] at hvb
          have HCV : Hid (∀ wx, RowKit.Below wr.heap.size wr wx → Calls Try.prog 21 #[.slice T tn tc, .int .i64 aa, .string cc, .int .i64 day, .int .i64 2] wx (fun e w' => e = .returned (.tuple #[.int .i64 cv, .int .i64 ce]) ∧ RowKit.Below wr.heap.size wr w')) := fun wx hb => by
            have := convert_any T tn tc ts aa cc day wx (hTr.below hb) (by omega) HTS.out HCC.out hka.1 (by omega)
            rw [hcv, hce] at this
            exact this.mono fun e w' ⟨h1, h2⟩ => ⟨h1, hb.trans (h2.mono hb.size)⟩
          have HOK : Hid (okT ts cu.toList day ls cs (k + 1) = (okT ts cu.toList day ls cs k && (ce == 0 || kk == 9))) := by
            show okT _ _ _ _ _ _ = _
            rw [okT, HX.out, hce]
          have HWT : Hid (wantT ts cu.toList day ls cs (k + 1) = wantT ts cu.toList day ls cs k + (if kk = 9 then 0 else if kk ≤ 5 then cv else -cv)) := by
            show wantT _ _ _ _ _ _ = _
            rw [wantT_succ, HX.out]
            unfold signed
            dsimp
            rw [hcv]
          have HB0 : Hid (RowKit.Below wr.heap.size wr wr.drew) := (Below.refl _ _).drew
          have HXR := Lib.hid hxr
          have HCR := Lib.hid hcr
          have lx := hxr.lt
          clear hcv hce hk9 hxr hcr
          generalize wantT ts cu.toList day ls cs k = wt at *
          obtain ⟨ok, hok⟩ : ∃ b, okT ts cu.toList day ls cs k = b := ⟨_, rfl⟩
          rw [hok] at HOK ⊢
          clear hok
          go_upto_region 12 with (fail)
          go_cut [17, 18] (fun v f wx => v = .int .i64 cv ∧ f = .int .i64 ce ∧ RowKit.Below wr.heap.size wr wx)
          case first =>
            go_region_held3 (fun w' => w'.cell? ⟨w2.heap.size, 1, none⟩ = some (.int .i64 day) ∧ w'.cell? ⟨w2.heap.size, 3, none⟩ = some (.slice (some ⟨b, off, none⟩) m d) ∧ w'.cell? ⟨b, off + k * 5 + 1, none⟩ = some (.int .i64 aa) ∧ w'.cell? ⟨b, off + k * 5 + 2, none⟩ = some (.string cc))
              (first
                | go_keep
                | exact ⟨(HXR.out.keep hb5.out).cell 1, (HXR.out.keep hb5.out).cell 3, (hb5.out.cell (p := ⟨b, off + k * 5 + 1, none⟩) hbl).trans e2, (hb5.out.cell (p := ⟨b, off + k * 5 + 2, none⟩) hbl).trans e3⟩)
              (first
                | (go_at_call 21; with_reducible (refine (HCV.out _ ?_).mono ?_); with_reducible (first | exact HB0.out | exact hb5.out); rintro e w5 ⟨rfl, hb5'⟩; have hb5 := Lib.hid hb5'; clear hb5'))
            all_goals (go_wp2_with fail; go_meet; exact ⟨rfl, rfl, hb5.out⟩)
          case rest =>
            obtain ⟨rfl, rfl, hb5⟩ := hcut
            have HX5 := Lib.hid (HXR.out.keep hb5)
            have e6 : wc.cell? ⟨b, off + k * 5, none⟩ = some (.int .i64 kk) := (hb5.cell (p := ⟨b, off + k * 5, none⟩) hbl).trans e1
            have hbW := hbr.trans (hb5.mono hbr.size)
            have hki : (k : Int) < m := by omega
            have hw1 : -6000000000000 ≤ wt := by omega
            have hw2 : wt ≤ 6000000000000 := by omega
            have hv1 := hvb.1
            have hv2 := hvb.2
            clear q0 q1 q2 q3 e1 e2 e3 e4 e5 HXR HCV HB0 HCR hwb hvb hbr hb5
            have q3 : wc.cell? ⟨w2.heap.size, 3, none⟩ = some (.slice (some ⟨b, off, none⟩) m d) := HX5.out.cell 3
            rcases (show kk = 9 ∨ (kk ≠ 9 ∧ kk ≤ 5) ∨ (kk ≠ 9 ∧ ¬ kk ≤ 5) by omega) with g | g | g
            · have b1 : (kk == 9) = true := by simpa using g
              have b2 : (kk != 9) = false := by simpa using g
              have d1 : decide (kk ≤ 5) = false := by simp; omega
              rw [if_pos g, Int.add_zero] at HWT
              rw [b1, Bool.or_true, Bool.and_true] at HOK
              clear g
              cases ok <;> by_cases g2 : ce = 0
              all_goals
                first
                  | have b3 : (ce == 0) = true := by simpa using g2
                  | have b3 : (ce == 0) = false := by simpa using g2
                clear g2
                go_wp2_with fail
                go_roundw
                case rel => exact ⟨k + 1, by omega, by go_num, by rw [HOK.out], by rw [HWT.out], hbW⟩
                case measure => simp [intOf]; omega
            · have b1 : (kk == 9) = false := by simpa using g.1
              have b2 : (kk != 9) = true := by simpa using g.1
              have d1 : decide (kk ≤ 5) = true := by simpa using g.2
              rw [if_neg g.1, if_pos g.2] at HWT
              rw [b1, Bool.or_false] at HOK
              clear g
              cases ok <;> by_cases g2 : ce = 0
              all_goals
                first
                  | have b3 : (ce == 0) = true := by simpa using g2
                  | have b3 : (ce == 0) = false := by simpa using g2
                rw [b3] at HOK
                clear g2
                go_wp2_with fail
                go_roundw
                case rel => exact ⟨k + 1, by omega, by go_num, by rw [HOK.out]; rfl, by rw [HWT.out], hbW⟩
                case measure => simp [intOf]; omega
            · have b1 : (kk == 9) = false := by simpa using g.1
              have b2 : (kk != 9) = true := by simpa using g.1
              have d1 : decide (kk ≤ 5) = false := by simpa using g.2
              rw [if_neg g.1, if_neg g.2, ← Int.sub_eq_add_neg] at HWT
              rw [b1, Bool.or_false] at HOK
              clear g
              cases ok <;> by_cases g2 : ce = 0
              all_goals
                first
                  | have b3 : (ce == 0) = true := by simpa using g2
                  | have b3 : (ce == 0) = false := by simpa using g2
                rw [b3] at HOK
                clear g2
                go_wp2_with fail
                go_roundw
                case rel => exact ⟨k + 1, by omega, by go_num, by rw [HOK.out]; rfl, by rw [HWT.out], hbW⟩
                case measure => simp [intOf]; omega
        · obtain rfl : m = k := by omega
          have HLAW : Hid (∀ cs', Sim cs cs' → totErr ts cu.toList day ls cs' = 0 → okT ts cu.toList day ls cs m = true ∧ totOut ts cu.toList day ls cs' = wantT ts cu.toList day ls cs m) := fun cs' h1 h2 => by
            have := tot_law h1 h2
            rwa [HCM.out] at this
          generalize okT ts cu.toList day ls cs m = ok at *
          generalize wantT ts cu.toList day ls cs m = wt at *
          have hb2r := hal.trans (hbr.mono hal.size)
          have hRD := (hr2.keep hal).keep hbr
          have hRC := (hc2.below hal).below hbr
          have HX0 := Lib.hid hxr
          clear hxr hbr hwb hr2 hc2 hal hl3 hT3 hx
          go_wp2_with fail
          clear q0 q1 q2 q3
          go_loopw [20] (fun i wx => ∃ (k : Nat) (B' : Option Addr) (d' : Nat) (cs' : List Chg), k ≤ 2 ∧ i = .int .i64 k ∧ Bl wx w2.heap.size 25 #[.string cu, .int .i64 day, .slice A n c, .slice B' m d'] ∧ Recs encC 5 wx B' m cs' ∧ Rd wx 5 B' m (flat encC cs') ∧ Hid (Sim cs cs') ∧ RowKit.Below w2.heap.size w2 wx) (fun i _ => 2 - (intOf i).toNat)
          case atStart => exact ⟨0, B, d, cs, by omega, rfl, HX0.out, hRC, hRD, Sim.refl cs, hb2r⟩
          case round =>
            clear HX0 hRC hRD hb2r
            obtain ⟨k, B3, d3, cs3, hk, rfl, hx3, hR3, hRd3, HSIM, hb23⟩ := hrel
            have q0 : wr.cell? ⟨w2.heap.size, 0, none⟩ = some (.string cu) := hx3.cell 0
            have q1 : wr.cell? ⟨w2.heap.size, 1, none⟩ = some (.int .i64 day) := hx3.cell 1
            have q2 : wr.cell? ⟨w2.heap.size, 2, none⟩ = some (.slice A n c) := hx3.cell 2
            have q3 : wr.cell? ⟨w2.heap.size, 3, none⟩ = some (.slice B3 m d3) := hx3.cell 3
            by_cases hlt : k < 2
            · have HTC := Lib.hid (total_any T tn tc ts cu day A B3 n c m d3 ls cs3 wr (hT.below hb23) (by omega) HTS.out HCU.out (hl2.below hb23) (by omega) hR3 (by omega) (chsz_of (HSIM.out.curs HC3.out)))
              have HL := Lib.hid (HLAW.out cs3 HSIM.out)
              generalize totErr ts cu.toList day ls cs3 = te at *
              generalize totOut ts cu.toList day ls cs3 = tv at *
              go_wp2_with fail
              refine HTC.out.mono ?_
              rintro e w5 ⟨rfl, hb5⟩
              clear q0 q1 q2 q3 HTC
              go_upto_region 23 with (fail)
              go_cut [139] (fun v wx => v = .bool false ∧ wx = w5)
              case first =>
                by_cases g : te = 0
                · obtain ⟨r1, r2⟩ := HL.out g
                  subst r1
                  subst r2
                  have b1 : (te == 0) = true := by simpa using g
                  have b2 : (tv != tv) = false := by simp
                  clear g
                  go_wp2_with fail
                  go_meet
                  exact ⟨rfl, rfl⟩
                · have b1 : (te == 0) = false := by simpa using g
                  clear g
                  cases ok
                  all_goals
                    go_wp2_with fail
                    go_meet
                    exact ⟨rfl, rfl⟩
              case rest =>
                obtain ⟨rfl, rfl⟩ := hcut
                have hx5 := hx3.keep hb5
                have hr5 := hRd3.keep hb5
                have hb25 := hb23.trans (hb5.mono hb23.size)
                clear hx3 hRd3 hb5 hb23 hR3 HL
                obtain ⟨W5, rfl⟩ : ∃ W, W = wc := ⟨_, rfl⟩
                have hg5 := hx5.lt
                have q3 : W5.cell? ⟨w2.heap.size, 3, none⟩ = some (.slice B3 m d3) := hx5.cell 3
                go_upto_region 25 with (fail)
                have HOE : Hid ((W5.alloc (.cells #[] 33)).ownsRow W5.heap.size 33 5 (.slice (some ⟨W5.heap.size, 0, none⟩) 0 0) 0 []) := own_empty (Bl.new W5 _ _) (Nat.le_refl _)
                have HRD := Lib.hid (hr5.alloc (.cells #[] 33))
                have HSZ : Hid (W5.heap.size ≤ (W5.alloc (.cells #[] 33)).heap.size) := by show _ ≤ _; simp
                have HON : Hid (∀ u ∈ flat encC cs3, u.oneCell' = true) := fun u hu => by
                  obtain ⟨x, _, hx⟩ := List.mem_flatMap.1 hu
                  exact encC_one x u hx
                have HM1 : Hid (0 + m ≤ maxLen ∧ (0 + m) * 48 ≤ 140737488355328) := ⟨by unfold maxLen; omega, by omega⟩
                have ngx : w2.heap.size ≠ W5.heap.size := by omega
                go_wp2_with (at_builtin; refine wpList_append_rd _ rfl (.tmp 140) (.tmp 142) 23 rfl W5.heap.size 33 _ 5 48 Try.underlying23 infoC rfl (by decide) (.slice (some ⟨W5.heap.size, 0, none⟩) 0 0) 0 [] rfl HOE.out B3 m d3 (flat encC cs3) rfl HRD.out HON.out HM1.out.1 HM1.out.2 HSZ.out ?_; intro v6 w6 ho6 hg6 _; obtain ⟨B6, d6, rfl⟩ := own_slice ho6; have hx6 : Bl w6 w2.heap.size 25 #[.string cu, .int .i64 day, .slice A n c, .slice B3 m d3] := (hx5.alloc _).thru hg6 (by intro e; simp [Value.ownBlock] at e; omega); have y3 : w6.cell? ⟨w2.heap.size, 3, none⟩ = some (.slice B3 m d3) := hx6.cell 3; have f3 : w6.frozen? ⟨w2.heap.size, 3, none⟩ = false := hx6.free 3)
                rw [Nat.zero_add, List.nil_append] at ho6
                have hb56 : RowKit.Below W5.heap.size W5 w6 := ((Below.refl _ _).alloc (Nat.le_refl _) _).grown hg6 HSZ.out (by intro g hg; simp [Value.ownBlock] at hg; omega)
                have hb26 := hb25.trans (hb56.mono hb25.size)
                have hb27 : RowKit.Below w2.heap.size w2 (w6.setCell ⟨w2.heap.size, 3, none⟩ (.slice B6 m d6)) := hb26.setCell (p := ⟨w2.heap.size, 3, none⟩) (Nat.le_refl _) _
                have hx7 := hx6.put 3 (.slice B6 m d6)
                have ho7 := own_of_block (w' := w6.setCell ⟨w2.heap.size, 3, none⟩ (.slice B6 m d6)) ho6 fun k hk => Below.heap_setCell w6 _ _ k (fun e => by have := own_base ho6 k hk; have e2 : k = w2.heap.size := e; omega)
                have HS3 : Hid (cs3.length = m) := HSIM.out.1.trans HCM.out
                clear HOE HRD HSZ HM1 HON hg6 ho6 hx6 y3 f3 hb26 hb56 hb25 hr5 hx5 q3
                generalize w6.setCell ⟨w2.heap.size, 3, none⟩ (.slice B6 m d6) = W7 at *
                go_loopw [23] (fun i wx => ∃ (j : Nat) (cs6 : List Chg), j ≤ m ∧ i = .int .i64 j ∧ Hid (cs6.length = m) ∧ Hid (Sim cs cs6) ∧ Bl wx w2.heap.size 25 #[.string cu, .int .i64 day, .slice A n c, .slice B6 m d6] ∧ wx.ownsRow W5.heap.size 33 5 (.slice B6 m d6) m (flat encC cs6) ∧ RowKit.Below w2.heap.size w2 wx) (fun i _ => m - (intOf i).toNat)
                case atStart => exact ⟨0, cs3, by omega, rfl, HS3, HSIM, by simpa using hx7, ho7, hb27⟩
                case round =>
                  clear hx7 ho7 hb27 HS3 HSIM
                  obtain ⟨j, cs6, hj, rfl, HL6, HSIM, hx6, ho6, hb26⟩ := hrel
                  have q2 : wr.cell? ⟨w2.heap.size, 2, none⟩ = some (.slice A n c) := hx6.cell 2
                  have q3 : wr.cell? ⟨w2.heap.size, 3, none⟩ = some (.slice B6 m d6) := hx6.cell 3
                  by_cases hlt2 : j < m
                  · obtain ⟨g, arr, rfl, hgb, HBg, HR5⟩ := own_row5 ho6 HL6.out (by omega)
                    have hji : (j : Int) < m := by omega
                    have ngg : g ≠ w2.heap.size := by omega
                    have ngg2 : w2.heap.size ≠ g := by omega
                    obtain ⟨xj, hxj⟩ : ∃ x, cs6[j]! = x := ⟨_, rfl⟩
                    have a3 : wr.cell? ⟨g, j * 5 + 3, none⟩ = some (.int .i64 xj.basis) := (HBg.cell _).trans ((HR5 j hlt2 3 (by omega)).trans (by show some _ = some _; rw [← hxj]; rfl))
                    have a4 : wr.cell? ⟨g, j * 5 + 4, none⟩ = some (.int .i64 xj.line) := (HBg.cell _).trans ((HR5 j hlt2 4 (by omega)).trans (by show some _ = some _; rw [← hxj]; rfl))
                    have f3 : wr.frozen? ⟨g, j * 5 + 3, none⟩ = false := HBg.free _
                    have f4 : wr.frozen? ⟨g, j * 5 + 4, none⟩ = false := HBg.free _
                    have HW3 : Hid (∀ (x : Int) (w : World), Calls Try.prog 13 #[.int .i64 x, .int .i64 3] w (fun e w' => (∃ r : Int, 0 ≤ r ∧ r < 3 ∧ e = .returned (.int .i64 r)) ∧ w = w')) := fun x w => (within_any x 3 w (by omega) (by omega)).mono fun e w' ⟨h1, h2⟩ => ⟨⟨x % 3, by omega, by omega, h1⟩, h2⟩
                    have HO6 := Lib.hid ho6
                    clear hxj HBg HR5 ho6
                    go_upto_region 29 with (fail)
                    go_cut [] (fun wx => ∃ v : Int, 1 ≤ v ∧ v ≤ 3 ∧ wx = ((wr.setCell ⟨g, j * 5 + 3, none⟩ (.int .i64 v)).setCell ⟨g, j * 5 + 4, none⟩ (.int .i64 0)).drew)
                    case first =>
                      go_region_with (go_at_call 13; refine (HW3.out _ _).mono ?_; rintro e w8 ⟨⟨r, hr0, hr3, rfl⟩, rfl⟩)
                      all_goals
                        go_wp2_with fail
                        go_meet
                        exact ⟨1 + r, by omega, by omega, by rw [IntWalk.i64_in (1 + r) (by omega)]⟩
                    case rest =>
                      obtain ⟨v, hv1, hv3, rfl⟩ := hcut
                      obtain ⟨cs7, ho7, hl7, hs7⟩ := own_basis HO6.out HL6.out HCM.out HSIM.out hlt2 v
                      obtain ⟨cs8, ho8, hl8, hs8⟩ := own_line ho7 hl7 HCM.out hs7 hlt2 0
                      have hb28 : RowKit.Below w2.heap.size w2 ((wr.setCell ⟨g, j * 5 + 3, none⟩ (.int .i64 v)).setCell ⟨g, j * 5 + 4, none⟩ (.int .i64 0)).drew := ((hb26.setCell (p := ⟨g, j * 5 + 3, none⟩) (by show w2.heap.size ≤ g; omega) _).setCell (p := ⟨g, j * 5 + 4, none⟩) (by show w2.heap.size ≤ g; omega) _).drew
                      have hx8 := ((hx6.far (p := ⟨g, j * 5 + 3, none⟩) ngg2 (.int .i64 v)).far (p := ⟨g, j * 5 + 4, none⟩) ngg2 (.int .i64 0)).drew
                      have HO8 : Hid (((wr.setCell ⟨g, j * 5 + 3, none⟩ (.int .i64 v)).setCell ⟨g, j * 5 + 4, none⟩ (.int .i64 0)).drew.ownsRow W5.heap.size 33 5 (.slice (some ⟨g, 0, none⟩) m d6) m (flat encC cs8)) := ho8
                      have HL8 := Lib.hid hl8
                      have HS8 := Lib.hid hs8
                      clear ho7 hl7 hs7 ho8 hl8 hs8 HO6 HL6 HSIM hb26 hx6 HW3
                      by_cases g3 : v = 3
                      · have b3 : (v == 3) = true := by simpa using g3
                        clear g3
                        go_upto_region 31 with (fail)
                        generalize ((wr.setCell ⟨g, j * 5 + 3, none⟩ (.int .i64 v)).setCell ⟨g, j * 5 + 4, none⟩ (.int .i64 0)).drew = W8 at *
                        clear q2 q3 a3 a4 f3 f4
                        obtain ⟨g', arr8, e8, _, HBg, HR5⟩ := own_row5 HO8.out HL8.out (by omega)
                        obtain rfl : g = g' := by injection e8 with e8; injection e8
                        obtain ⟨xj, hxj⟩ : ∃ x, cs8[j]! = x := ⟨_, rfl⟩
                        have a4 : W8.cell? ⟨g, j * 5 + 4, none⟩ = some (.int .i64 xj.line) := (HBg.cell _).trans ((HR5 j hlt2 4 (by omega)).trans (by show some _ = some _; rw [← hxj]; rfl))
                        have f4 : W8.frozen? ⟨g, j * 5 + 4, none⟩ = false := HBg.free _
                        have q2 : W8.cell? ⟨w2.heap.size, 2, none⟩ = some (.slice A n c) := hx8.cell 2
                        have q3 : W8.cell? ⟨w2.heap.size, 3, none⟩ = some (.slice (some ⟨g, 0, none⟩) m d6) := hx8.cell 3
                        have HWn : Hid (∀ (w : World), Calls Try.prog 13 #[.int .i64 line, .int .i64 n] w (fun e w' => e = .returned (.int .i64 (line % n)) ∧ w = w')) := fun w => within_any line n w (by omega) (by omega)
                        generalize line % (n : Int) = rl at *
                        clear hxj HBg HR5 e8
                        obtain ⟨cs9, ho9, hl9, hs9⟩ := own_line HO8.out HL8.out HCM.out HS8.out hlt2 rl
                        have HO9 : Hid ((W8.setCell ⟨g, j * 5 + 4, none⟩ (.int .i64 rl)).drew.ownsRow W5.heap.size 33 5 (.slice (some ⟨g, 0, none⟩) m d6) m (flat encC cs9)) := ho9
                        have HL9 := Lib.hid hl9
                        have HS9 := Lib.hid hs9
                        have HX9 := Lib.hid (hx8.far (p := ⟨g, j * 5 + 4, none⟩) ngg2 (.int .i64 rl)).drew
                        have HB9 := Lib.hid (hb28.setCell (p := ⟨g, j * 5 + 4, none⟩) (by show w2.heap.size ≤ g; omega) (.int .i64 rl)).drew
                        clear ho9 hl9 hs9 HO8 HL8 HS8 hx8 hb28
                        go_region_with (go_at_call 13; refine (HWn.out _).mono ?_; rintro e w8 ⟨rfl, rfl⟩)
                        all_goals
                          go_wp2_with fail
                          go_roundw
                          case rel => exact ⟨j + 1, cs9, by omega, by go_num, HL9, HS9, HX9.out, HO9.out, HB9.out⟩
                          case measure => simp [intOf]; omega
                      · have b3 : (v == 3) = false := by simpa using g3
                        clear g3
                        go_wp2_with fail
                        go_roundw
                        case rel => exact ⟨j + 1, cs8, by omega, by go_num, HL8, HS8, hx8, HO8.out, hb28⟩
                        case measure => simp [intOf]; omega
                  · obtain rfl : m = j := by omega
                    go_wp2_with fail
                    go_roundw
                    case rel => exact ⟨k + 1, B6, d6, cs6, by omega, by go_num, hx6, Recs.of_own encC_len ho6 HL6.out, Rd.of_own ho6, HSIM, hb26⟩
                    case measure => simp [intOf]; omega
            · obtain rfl : k = 2 := by omega
              have hB := hB2.trans (hb23.mono hB2.size)
              go_wp2_with fail
              refine (awake17_any _).mono ?_
              rintro e w9 ⟨rfl, hb9⟩
              go_wp2
              go_ret
              exact ⟨rfl, hB.trans (hb9.mono hB.size)⟩
end Go.Proofs.Ytknbbamlpadfdaa

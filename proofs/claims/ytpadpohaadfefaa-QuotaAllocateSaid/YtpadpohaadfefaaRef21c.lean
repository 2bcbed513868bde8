/-
  Contract of the reference's Share (customsref21), where the total is less than the sum of the weights: the walk. No statement of the seat is proved here. Conditions: the numbers are in range.
-/
import Derived.Test.YtpadpohaadfefaaRef21b
namespace Go.Proofs.Ytpadpohaadfefaa
open Go.RowKit
set_option linter.unusedVariables false

set_option maxRecDepth 100000 in
set_option maxHeartbeats 4000000 in
theorem r21share_any (t : Int) (A : Option Addr) (n c : Nat) (xs : List Int) (w : World) (h : Ints w A n xs) (hn : n ≤ 1000) (ht0 : 0 ≤ t) (hts : t < xs.sum) (ht : t ≤ 1000000000000) (ha : AllIn xs) :
    Calls Try.prog 49 #[.int .i64 t, .slice A n c] w fun e w' => ∃ A' c', e = .returned (.slice A' n c') ∧ w'.ownsRow w.heap.size 3 1 (.slice A' n c') n ((shareL t xs).map (Value.int .i64)) ∧ RowKit.Below w.heap.size w w' := by
  have HL := Lib.hid h.1
  have HA := Lib.hid ha
  have HTS := Lib.hid hts
  clear ha hts
  have HN : Hid (NonNeg xs) := fun i => (HA.out i).1
  obtain ⟨C1, HC1, hmk1⟩ := make_any (P := Try.prog) 22 3 _ 1 8 n Try.underlying22 infoI (by omega) (by omega)
  obtain ⟨C2, HC2, hmk2⟩ := make_any (P := Try.prog) 87 4 _ 1 1 n Try.underlying87 infoB (by omega) (by omega)
  have HMK1 := Lib.hid hmk1
  have HMK2 := Lib.hid hmk2
  clear hmk1 hmk2
  go_enter Try.func49, Try.ntmps49
  go_wp2
  go_loop [5, 6] (fun s i => ∃ k : Nat, k ≤ n ∧ i = .int .i64 k ∧ s = .int .i64 (xs.take k).sum) (fun _ i => n - (intOf i).toNat)
  case atStart => exact ⟨0, Nat.zero_le _, rfl, by simp⟩
  case round =>
    obtain ⟨k, hk, rfl, rfl⟩ := hrel
    by_cases hlt : k < n
    · obtain ⟨b, off, x, rfl, _, hc, HX⟩ := h.get hlt
      have hb := sum_take_bound xs 1000000000000 HA.out k (by have := HL.out; omega)
      have hb0 := HA.out k
      have HS := Lib.hid (sum_take_succ xs k (by have := HL.out; omega))
      rw [HX.out] at hb0 HS
      generalize (xs.take k).sum = s at *
      go_wp2
      go_round
      case rel => exact ⟨k + 1, by omega, by go_num, by rw [HS.out]⟩
      case measure => simp [intOf]; omega
    · obtain rfl : k = n := by omega
      rw [List.take_of_length_le (by have := HL.out; omega)]
      have hS1 : xs.sum ≤ 1000000000000000 := by
        have := (sum_take_bound xs 1000000000000 HA.out xs.length (Nat.le_refl _)).2
        rw [List.take_length] at this
        have := HL.out
        omega
      have hS0 := HTS.out
      have hlen : 0 < xs.length := by
        rcases Nat.eq_zero_or_pos xs.length with e | e
        · rw [List.eq_nil_of_length_eq_zero e] at hS0; simp at hS0; omega
        · exact e
      have HLN := Lib.hid hlen
      clear hlen
      obtain ⟨S, hS⟩ : ∃ S, xs.sum = S := ⟨_, rfl⟩
      have HSS := Lib.hid hS
      rw [hS] at hS0 hS1 ⊢
      clear hS hlt hk
      have b5 : (S == 0) = false := by simp; omega
      have HOW : Hid ((w.alloc (Obj.cells #[] 3)).ownsRow w.heap.size 3 1 (.slice (some ⟨w.heap.size, 0, none⟩) 0 0) 0 []) :=
        ⟨rfl, .inr ⟨w.heap.size, 0, #[], rfl, Nat.le_refl _, heap_alloc_new w _, Nat.le_refl _, Nat.zero_le _, rfl, rfl⟩⟩
      have HRD := Lib.hid ((Rd.of_ints h).alloc (.cells #[] 3))
      have HSZ : Hid (w.heap.size ≤ (w.alloc (Obj.cells #[] 3)).heap.size) := by show w.heap.size ≤ _; simp
      have hmk1 := HMK1.out
      go_wp2_with (at_builtin; refine wpList_append_rd _ rfl (.tmp 27) (.tmp 28) 22 rfl w.heap.size 3 _ 1 8 Try.underlying22 infoI rfl (by decide) (.slice (some ⟨w.heap.size, 0, none⟩) 0 0) 0 [] rfl HOW.out A k c (xs.map (Value.int .i64)) rfl HRD.out (one_ints _ _) (by unfold maxLen; omega) (by omega) HSZ.out ?_; intro v2 w2 ho2 hg2 hat2; obtain ⟨A2, c2, hv2⟩ := own_slice ho2; rw [hv2] at ho2 ⊢)
      have ho3 : w2.ownsRow w.heap.size 3 1 (.slice A2 k c2) k (xs.map (Value.int .i64)) := by simpa using ho2
      have hI2 : Ints w2 A2 k xs := IntsK.of_own ho3
      have hbel2 : RowKit.Below w.heap.size w w2 := ((Below.refl _ _).alloc (Nat.le_refl _) _).grown hg2 HSZ.out (by intro g hg; simp [Value.ownBlock] at hg; omega)
      clear ho2 ho3 hg2 hat2 hv2 HOW HRD HSZ h
      clear hmk1 HMK1
      go_loopw [10, 11] (fun l i wr => ∃ (m : Nat) (c1 : Array Value), m ≤ k ∧ i = .int .i64 m ∧ l = .int .i64 (t - sumN m (quoI t xs)) ∧ Bl wr w2.heap.size 3 c1 ∧ IntRow c1 k (fun j => if j < m then quoI t xs j else 0) ∧ RowKit.Below w2.heap.size w2 wr) (fun _ i _ => k - (intOf i).toNat)
      case atStart => exact ⟨0, C1, Nat.zero_le _, rfl, by simp [sumN_zero], Bl.new _ _ _, (IntRow.zeros HC1.out).congr (fun j _ => by simp), (Below.refl _ _).alloc (Nat.le_refl _) _⟩
      case round =>
        obtain ⟨m, c1, hm, rfl, rfl, HB1, HR1, hbel⟩ := hrel
        by_cases hlt2 : m < k
        · obtain ⟨b, off, x, hA, hbw, hc, HX⟩ := hI2.get hlt2
          subst hA
          have hc1 : wr.cell? ⟨b, off + m, none⟩ = some (.int .i64 x) := (hbel.cell (p := ⟨b, off + m, none⟩) hbw).trans hc
          have hmx : m < xs.length := by have := HL.out; omega
          have hqn := quo_nonneg HN.out ht0 HLN.out m
          have hql := quo_le t xs ht0 HN.out m hmx
          have hx0 : 0 ≤ x := by have := HN.out m; rw [HX.out] at this; exact this
          have hxS : x ≤ S := by have := getD_le_sum xs HN.out m hmx; rw [HX.out, HSS.out] at this; exact this
          have HQ := Lib.hid (sumN_succ m (quoI t xs))
          obtain ⟨hb1, hb2⟩ := sum_quo_bounds t xs ht0 HN.out m (by omega) HLN.out
          obtain ⟨hb3, hb4⟩ := sum_quo_bounds t xs ht0 HN.out (m + 1) (by omega) HLN.out
          rw [HQ.out] at hb3 hb4
          have HRA : Hid (∀ q, quoI t xs m = q → IntRow (c1.setIfInBounds m (.int .i64 q)) k (fun j => if j < m + 1 then quoI t xs j else 0)) := fun q hq => HR1.set m q (fun j hj => by
            by_cases e : j = m
            · subst e; rw [if_pos (by omega), if_pos rfl, hq]
            · rw [if_neg e]; by_cases e2 : j < m
              · rw [if_pos e2, if_pos (by omega)]
              · rw [if_neg e2, if_neg (by omega)])
          have k1 := HR1.cell HB1 hlt2
          rw [if_neg (by omega)] at k1
          have HM : Hid (∀ w : World, Calls Try.prog 58 #[.int .i64 t, .int .i64 x, .int .i64 S] w fun e w' => e = .returned (.int .i64 (quoI t xs m)) ∧ ∃ q, w' = w.drewN q) := fun w => by
            have h1 := rmuldiv_any t x S w ht0 hS0 (by omega) hx0 (by omega)
            have e1 : t * x / S = quoI t xs m := by unfold quoI wsum wt; rw [HSS.out, if_neg (by omega), if_neg (by omega), HX.out]
            rw [e1] at h1
            exact h1
          have f1 : wr.frozen? ⟨w2.heap.size, m, none⟩ = false := HB1.free m
          generalize quoI t xs m = q at *
          generalize sumN m (quoI t xs) = sq at *
          go_wp2_with fail
          refine (HM.out _).mono ?_
          rintro e w1 ⟨rfl, nq, rfl⟩
          go_wp2
          go_roundw
          case rel => exact ⟨m + 1, _, by omega, by go_num, by rw [HQ.out]; go_num, (HB1.drewN nq).put _ _, HRA.out _ rfl, (below_drewN hbel nq).setCell (p := ⟨w2.heap.size, m, none⟩) (Nat.le_refl _) _⟩
          case measure => simp [intOf]; omega
        · obtain rfl : m = k := by omega
          have eL : t - sumN m (quoI t xs) = leftI t xs := by unfold leftI; rw [HL.out]
          rw [eL]
          have h1 := left_nonneg (t := t) HN.out HLN.out
          have h2 := left_lt (t := t) HN.out HLN.out
          rw [HL.out] at h2
          obtain ⟨L, hLe⟩ : ∃ L, leftI t xs = L := ⟨_, rfl⟩
          rw [hLe] at h1 h2 ⊢
          have HLE := Lib.hid hLe
          clear eL hLe hlt2 hm
          have hg1 := HB1.lt
          have hmk2 := HMK2.out
          go_wp2
          clear hmk2 HMK2
          have hg12 : w2.heap.size ≠ wr.heap.size := by omega
          have hg21 : wr.heap.size ≠ w2.heap.size := by omega
          have hgs : w2.heap.size ≤ wr.heap.size := by omega
          obtain ⟨g1, hg1e⟩ : ∃ g, w2.heap.size = g := ⟨_, rfl⟩
          obtain ⟨g2, hg2e⟩ : ∃ g, wr.heap.size = g := ⟨_, rfl⟩
          have HB1' := HB1.alloc (.cells C2 4)
          have HB2' := Bl.new wr 4 C2
          have hbel' := hbel.alloc hgs (.cells C2 4)
          generalize wr.alloc (.cells C2 4) = wb at *
          rw [hg1e] at HB1' hbel' hg12 hg21 hgs ⊢
          rw [hg2e] at HB2' hg12 hg21 hgs ⊢
          clear HB1 hbel hg1
          have HIb : Hid (∀ wx : World, RowKit.Below g1 w2 wx → Ints wx A2 m xs) := fun wx hx => hI2.below (by rw [hg1e]; exact hx)
          have hwg : w.heap.size ≤ g1 := by have := hbel2.size; omega
          have HRN : Hid (∀ j, j < m → 0 ≤ rstI t xs j) := fun j hj => rst_nonneg HN.out HLN.out j
          have HRest : Hid (∀ (j : Nat) (x : Int), xs.getD j 0 = x → j < m → ∀ w : World, Calls Try.prog 59 #[.int .i64 t, .int .i64 x, .int .i64 S] w fun e w' => e = .returned (.int .i64 (rstI t xs j)) ∧ ∃ q, w' = w.drewN q) := fun j x hx hj w => by
            have hx0 : 0 ≤ x := by have := HN.out j; rw [hx] at this; exact this
            have hxS : x ≤ S := by have := getD_le_sum xs HN.out j (by have := HL.out; omega); rw [hx, HSS.out] at this; exact this
            have h1 := rrest_any t x S w ht0 hS0 (by omega) hx0 (by omega)
            have e1 : t * x % S = rstI t xs j := by unfold rstI wsum wt; rw [HSS.out, if_neg (by omega), if_neg (by omega), hx]
            rw [e1] at h1
            exact h1
          clear hI2 hg1e hg2e HC1
          have HFZ := Lib.hid (BoolRow.falses HC2.out)
          clear HC2
          go_loopw [10] (fun l wr => ∃ (p : Nat) (d1 d2 : Array Value), (p : Int) ≤ L ∧ l = .int .i64 (L - p) ∧ Bl wr g1 3 d1 ∧ IntRow d1 m (fun j => quoI t xs j + if rank (rstI t xs) m j < p then 1 else 0) ∧ Bl wr g2 4 d2 ∧ BoolRow d2 m (fun j => decide (rank (rstI t xs) m j < p)) ∧ RowKit.Below g1 w2 wr) (fun l _ => (intOf l).toNat)
          case atStart => exact ⟨0, c1, C2, by omega, by simp, HB1', HR1.congr (fun j hj => by simp [hj]), HB2', HFZ.out.congr (fun j hj => by simp), hbel'⟩
          case round =>
            clear HB1' HR1 HB2' hbel' HFZ
            obtain ⟨p, d1, d2, hp, rfl, HB1, HR1, HB2, HR2, hbel⟩ := hrel
            by_cases hpL : (p : Int) < L
            · have hpos : 0 < L - (p : Int) := by omega
              have hpm : p < m := by omega
              go_wp2
              go_loopw [13, 14] (fun bb ii wi => ∃ (i : Nat) (bst : Int), i ≤ m ∧ bb = .int .i64 bst ∧ ii = .int .i64 i ∧ Hid (BestTo (rstI t xs) m p i bst) ∧ Bl wi g1 3 d1 ∧ Bl wi g2 4 d2 ∧ RowKit.Below g1 w2 wi) (fun _ ii _ => m - (intOf ii).toNat)
              case atStart => exact ⟨0, -1, Nat.zero_le _, rfl, rfl, .inl ⟨rfl, fun j hj => absurd hj (by omega)⟩, HB1, HB2, hbel⟩
              case round =>
                clear HB1 HB2 hbel
                obtain ⟨i, bst, him, rfl, rfl, HBS, HB1, HB2, hbel⟩ := hrel
                by_cases hlt3 : i < m
                · have q2 := HR2.cell HB2 hlt3
                  have i1 : (0 : Int) ≤ (i : Int) := by omega
                  have i2 : (i : Int) < (m : Int) := by omega
                  by_cases hu : rank (rstI t xs) m i < p
                  · rw [decide_eq_true hu] at q2
                    have HNB := Lib.hid (bestTo_used HBS.out hu)
                    go_wp2
                    go_quiet (fail)
                    go_wp2
                    go_roundw
                    case rel => exact ⟨i + 1, bst, by omega, rfl, by go_num, HNB.out, HB1.drewN _, HB2.drewN _, below_drewN hbel _⟩
                    case measure => simp [intOf]; omega
                  · rw [decide_eq_false hu] at q2
                    rcases HBS.out with ⟨rfl, _⟩ | ⟨b, rfl, hbi, _⟩
                    · have HNB := Lib.hid (bestTo_first HBS.out hu)
                      go_wp2
                      go_quiet (fail)
                      go_wp2
                      go_roundw
                      case rel => exact ⟨i + 1, i, by omega, rfl, by go_num, HNB.out, HB1.drewN _, HB2.drewN _, below_drewN hbel _⟩
                      case measure => simp [intOf]; omega
                    · obtain ⟨b1, off, x, hA, hbw, hc, HX⟩ := (HIb.out _ hbel).get hlt3
                      obtain ⟨b1', off', y, hA', hbw', hc', HY⟩ := (HIb.out _ hbel).get (show b < m by omega)
                      rw [hA] at hA'
                      simp only [Option.some.injEq, Addr.mk.injEq, and_true] at hA'
                      obtain ⟨rfl, rfl⟩ := hA'
                      subst hA
                      have HRI := Lib.hid (HRest.out i x HX.out hlt3)
                      have HRB := Lib.hid (HRest.out b y HY.out (by omega))
                      have HGT := Lib.hid (fun hg => bestTo_next (b := b) HBS.out hu hg)
                      have HGE := Lib.hid (fun hg => bestTo_same (i := i) (b := b) HBS.out hg)
                      have i3 : (0 : Int) ≤ (b : Int) := by omega
                      have i4 : (b : Int) < (m : Int) := by omega
                      have dn : decide ((b : Int) < 0) = false := by simp
                      generalize rstI t xs i = ri at *
                      generalize rstI t xs b = rb at *
                      by_cases hgt : rb < ri
                      · have HNB := Lib.hid (HGT.out hgt)
                        clear HGT HGE
                        go_wp2
                        go_quiet ((go_at_call 59; first | (with_reducible exact Calls.quiet_of (HRI.out _)) | (with_reducible exact Calls.quiet_of (HRB.out _))))
                        go_wp2
                        go_roundw
                        case rel => exact ⟨i + 1, i, by omega, rfl, by go_num, HNB.out, HB1.drewN _, HB2.drewN _, below_drewN hbel _⟩
                        case measure => simp [intOf]; omega
                      · have HNB := Lib.hid (HGE.out hgt)
                        clear HGT HGE
                        go_wp2
                        go_quiet ((go_at_call 59; first | (with_reducible exact Calls.quiet_of (HRI.out _)) | (with_reducible exact Calls.quiet_of (HRB.out _))))
                        go_wp2
                        go_roundw
                        case rel => exact ⟨i + 1, b, by omega, rfl, by go_num, HNB.out, HB1.drewN _, HB2.drewN _, below_drewN hbel _⟩
                        case measure => simp [intOf]; omega
                · obtain rfl : i = m := by omega
                  obtain ⟨b, rfl, hbm, hrk⟩ := bestTo_end HBS.out hpm HRN.out
                  have hrj : ∀ j, j < i → j ≠ b → (rank (rstI t xs) i j < p + 1 ↔ rank (rstI t xs) i j < p) := fun j hj hne2 => by
                    have : rank (rstI t xs) i j ≠ p := fun e => hne2 (rank_inj (rstI t xs) i j b hj hbm (by omega))
                    omega
                  have q1 := HR1.cell HB1 hbm
                  have q2 := HR2.cell HB2 hbm
                  rw [if_neg (by omega)] at q1
                  have HO1 : Hid (∀ v, quoI t xs b + 0 + 1 = v → IntRow (d1.setIfInBounds b (.int .i64 v)) i (fun j => quoI t xs j + if rank (rstI t xs) i j < p + 1 then 1 else 0)) := fun v hv => HR1.set b v (fun j hj => by
                    by_cases e : j = b
                    · subst e; rw [if_pos rfl, if_pos (by omega)]; omega
                    · rw [if_neg e]; simp only [hrj j hj e])
                  have HO2 : Hid (BoolRow (d2.setIfInBounds b (.bool true)) i (fun j => decide (rank (rstI t xs) i j < p + 1))) := HR2.set b true (fun j hj => by
                    by_cases e : j = b
                    · subst e; rw [if_pos rfl]; simp; omega
                    · rw [if_neg e]; simp only [hrj j hj e])
                  have hqn : 0 ≤ quoI t xs b := quo_nonneg HN.out ht0 HLN.out b
                  have hql := quo_le t xs ht0 HN.out b (by have := HL.out; omega)
                  generalize decide (rank (rstI t xs) i b < p) = qb at q2
                  clear hrj hrk
                  rw [Int.add_zero] at q1 HO1
                  generalize quoI t xs b = q at *
                  have f1 : wr.frozen? ⟨g1, b, none⟩ = false := HB1.free b
                  have f2 : wr.frozen? ⟨g2, b, none⟩ = false := HB2.free b
                  have i3 : (0 : Int) ≤ (b : Int) := by omega
                  have i4 : (b : Int) < (i : Int) := by omega
                  go_wp2
                  go_roundw
                  case rel => exact ⟨p + 1, _, _, by omega, by go_num, (HB1.far (p := ⟨g2, b, none⟩) hg12 _).put _ _, HO1.out _ rfl, (HB2.put _ _).far (p := ⟨g1, b, none⟩) hg21 _, HO2.out, (hbel.setCell (p := ⟨g2, b, none⟩) hgs _).setCell (p := ⟨g1, b, none⟩) (Nat.le_refl _) _⟩
                  case measure => simp [intOf]; omega
            · have hpe : L = p := by omega
              have hnp : ¬ 0 < L - (p : Int) := by omega
              have HO : Hid ((List.range m).map (fun j => quoI t xs j + if rank (rstI t xs) m j < p then 1 else 0) = shareL t xs) := by
                unfold shareL
                rw [HL.out]
                refine List.map_congr_left fun j hj => ?_
                unfold shareI
                rw [HL.out, HLE.out, hpe]
                by_cases e : rank (rstI t xs) m j < p
                · rw [if_pos e, if_pos (by omega)]
                · rw [if_neg e, if_neg (by omega)]
              clear hpe
              go_wp2
              go_ret
              have how := HR1.own HB1 hwg (by omega)
              rw [HO.out] at how
              exact ⟨_, _, rfl, how, hbel2.trans (hbel.mono hwg)⟩
end Go.Proofs.Ytpadpohaadfefaa

/-
  Contract of the reference's Share (customsref02), where all is in range. No statement of the seat is proved here. Conditions: the numbers are in range.
-/
import Derived.Test.YtknbbamlpadfdaaRefShare
import Derived.RegionTactic
import Derived.Deep.DeepCutAuto
namespace Go.Proofs.Ytknbbamlpadfdaa
open Go.RowKit
set_option linter.unusedVariables false

set_option maxHeartbeats 1000000 in
theorem rshare_none (t : Int) (A : Option Addr) (c : Nat) (w : World) (h0 : 0 < t) (h1 : t ≤ 1000000000000) :
    Calls Try.prog 34 #[.int .i64 t, .slice A 0 c] w (SlRes w 7 []) := by
  have d1 : decide (t < 0) = false := by simp; omega
  have d2 : decide (1000000000000 < t) = false := by simp; omega
  go_enter Try.func34, Try.ntmps34
  go_wp2
  go_loop [6, 8] (fun b i => i = .int .i64 0 ∧ b = .bool false) (fun _ i => (intOf i).toNat)
  case atStart => exact ⟨rfl, rfl⟩
  case round =>
    obtain ⟨rfl, rfl⟩ := hrel
    go_wp2
    go_ret2
    exact ⟨_, _, _, rfl, own_nil _ _ _, Below.refl _ _⟩

/-- What is left of the remainders after p units are given. -/
def restAt (r : Nat → Int) (n p j : Nat) : Int := if rank r n j < p then -1 else r j

/-- The greatest of what is left, the first of equals, has the rank p. -/
theorem best_rank (r : Nat → Int) (n p b : Nat) (hp : p < n) (hb : b < n) (hr : ∀ j, j < n → 0 ≤ r j) (h : ∀ j, j < n → restAt r n p j < restAt r n p b ∨ (restAt r n p j = restAt r n p b ∧ b ≤ j)) : rank r n b = p := by
  obtain ⟨j, hj, ej⟩ := rank_surj r n p hp
  have h1 := h j hj
  have h2 : restAt r n p j = r j := by unfold restAt; rw [if_neg (by omega)]
  have h3 := hr j hj
  have h4 : ¬ rank r n b < p := by
    intro h5
    have : restAt r n p b = -1 := by unfold restAt; rw [if_pos h5]
    omega
  have h6 : restAt r n p b = r b := by unfold restAt; rw [if_neg h4]
  by_cases e : j = b
  · subst e; exact ej
  · have h7 : bef r j b = false := by simp [bef]; omega
    have h8 := rank_lt_of_bef r n b j hb (bef_total e h7)
    omega

theorem first_best (f : Nat → Int) : ∀ j, j < 1 → f j < f 0 ∨ (f j = f 0 ∧ 0 ≤ j) := fun j hj => by
  obtain rfl : j = 0 := by omega
  exact Or.inr ⟨rfl, Nat.le_refl _⟩
theorem next_best (f : Nat → Int) (b i : Nat) (hb : b < i) (h : ∀ j, j < i → f j < f b ∨ (f j = f b ∧ b ≤ j)) (hg : f b < f i) : ∀ j, j < i + 1 → f j < f i ∨ (f j = f i ∧ i ≤ j) := fun j hj => by
  by_cases e : j = i
  · subst e; exact Or.inr ⟨rfl, Nat.le_refl _⟩
  · have := h j (by omega); omega
theorem same_best (f : Nat → Int) (b i : Nat) (hb : b < i) (h : ∀ j, j < i → f j < f b ∨ (f j = f b ∧ b ≤ j)) (hg : ¬ f b < f i) : ∀ j, j < i + 1 → f j < f b ∨ (f j = f b ∧ b ≤ j) := fun j hj => by
  by_cases e : j = i
  · subst e; omega
  · exact h j (by omega)

set_option maxRecDepth 100000 in
set_option maxHeartbeats 4000000 in
theorem rshare_ok (t : Int) (A : Option Addr) (n c : Nat) (xs : List Int) (w : World) (h : Ints w A n xs) (hn : n ≤ 1000) (ht0 : 0 ≤ t) (ht : t ≤ 1000000000000) (ha : AllIn xs) (hnt : n = 0 → t = 0) :
    Calls Try.prog 34 #[.int .i64 t, .slice A n c] w (SlRes w 0 (shareL t xs)) := by
  have d1 : decide (t < 0) = false := by simp; omega
  have d2 : decide (1000000000000 < t) = false := by simp; omega
  have HL := Lib.hid h.1
  have HA := Lib.hid ha
  have HNT := Lib.hid hnt
  clear ha hnt
  obtain ⟨C1, HC1, hmk1⟩ := make_any (P := Try.prog) 26 3 _ 1 8 n Try.underlying26 infoI (by omega) (by omega)
  have HMK := Lib.hid hmk1
  clear hmk1
  go_enter Try.func34, Try.ntmps34
  go_wp2
  go_loop [6, 8] (fun b i => ∃ k : Nat, k ≤ n ∧ i = .int .i64 k ∧ b = .bool false) (fun _ i => n - (intOf i).toNat)
  case atStart => exact ⟨0, Nat.zero_le _, rfl, rfl⟩
  case round =>
    obtain ⟨k, hk, rfl, rfl⟩ := hrel
    by_cases hlt : k < n
    · obtain ⟨b, off, x, rfl, _, hc, HX⟩ := h.get hlt
      have hx := HA.out k
      rw [HX.out] at hx
      have d3 : decide (x < 0) = false := by simp; omega
      have d4 : decide (1000000000000 < x) = false := by simp; omega
      go_wp2
      go_round
      case rel => exact ⟨k + 1, by omega, by go_num, rfl⟩
      case measure => simp [intOf]; omega
    · have hE : ((n : Int) == 0 && decide (0 < t)) = false := by
        by_cases e : n = 0
        · have := HNT.out e; simp [this]
        · simp; omega
      have b1 : ((n : Int) == 0) = false ∨ (((n : Int) == 0) = true ∧ decide (0 < t) = false) := by
        by_cases e : n = 0
        · right; have := HNT.out e; simp [this, e]
        · left; simp; omega
      clear hE
      rcases b1 with b1 | ⟨b1, b2⟩
      all_goals
        go_wp2
        clear hlt hk
        go_loop [7, 9] (fun s i => ∃ k : Nat, k ≤ n ∧ i = .int .i64 k ∧ s = .int .i64 (xs.take k).sum) (fun _ i => n - (intOf i).toNat)
        case atStart => exact ⟨0, Nat.zero_le _, rfl, by simp⟩
        case round =>
          obtain ⟨k, hk, rfl, rfl⟩ := hrel
          by_cases hlt : k < n
          · obtain ⟨b, off, x, rfl, _, hc, HX⟩ := h.get hlt
            have hb := sum_take_bound xs 1000000000000 HA.out k (by have := HL.out; omega)
            have hb0 := HA.out k
            have HS := Lib.hid (sum_take_succ xs k (by have := HL.out; omega))
            rw [HX.out] at hb0 HS
            generalize (xs.take k).sum = s at *
            go_wp2
            go_round
            case rel => exact ⟨k + 1, by omega, by go_num, by rw [HS.out]⟩
            case measure => simp [intOf]; omega
          · obtain rfl : k = n := by omega
            rw [List.take_of_length_le (by have := HL.out; omega)]
            have hmk1 := HMK.out
            have HN : Hid (NonNeg xs) := fun i => (HA.out i).1
            have hS0 := sum_nonneg HN.out
            have hS1 : xs.sum ≤ 1000000000000000 := by
              have := (sum_take_bound xs 1000000000000 HA.out xs.length (Nat.le_refl _)).2
              rw [List.take_length] at this
              have := HL.out
              omega
            obtain ⟨S, hS⟩ : ∃ S, xs.sum = S := ⟨_, rfl⟩
            have HSS := Lib.hid hS
            rw [hS] at hS0 hS1 ⊢
            clear hS
            go_upto_region 16 with (fail)
            go_cut [10, 11, 12] (fun o r l wx => ∃ g1 g2 : Nat, o = .slice (some ⟨g1, 0, none⟩) k k ∧ r = .slice (some ⟨g2, 0, none⟩) k k ∧ l = .int .i64 t ∧ g1 ≠ g2 ∧ w.heap.size ≤ g1 ∧ w.heap.size ≤ g2 ∧ Bl wx g1 3 C1 ∧ Bl wx g2 3 C1 ∧ RowKit.Below w.heap.size w wx)
            case first =>
              go_region
              · go_wp2_with fail
                go_meet
                exact ⟨_, _, rfl, rfl, rfl, by omega, Nat.le_refl _, Nat.le_succ _, (Bl.new _ _ _).alloc _, Bl.new1 _ _ _ _, (((Below.refl _ _).alloc (Nat.le_refl _) _).alloc (by simp) _).drew⟩
              · go_wp2_with fail
                go_meet
                exact ⟨_, _, rfl, rfl, rfl, by omega, Nat.le_succ _, Nat.le_refl _, Bl.new1 _ _ _ _, (Bl.new _ _ _).alloc _, (((Below.refl _ _).alloc (Nat.le_refl _) _).alloc (by simp) _).drew⟩
            case rest =>
              obtain ⟨g1, g2, rfl, rfl, rfl, hne, hg1, hg2, HB1, HB2, hbel⟩ := hcut
              have hne' : g2 ≠ g1 := fun e => hne e.symm
              have HZ := Lib.hid (IntRow.zeros HC1.out)
              clear hmk1 HMK HC1
              go_wp2
              go_loopw [12, 13] (fun l i wr => ∃ (m : Nat) (c1 c2 : Array Value), m ≤ k ∧ i = .int .i64 m ∧ l = .int .i64 (t - sumN m (quoI t xs)) ∧ Bl wr g1 3 c1 ∧ IntRow c1 k (fun j => if j < m then quoI t xs j else 0) ∧ Bl wr g2 3 c2 ∧ IntRow c2 k (fun j => if j < m then rstI t xs j else 0) ∧ RowKit.Below w.heap.size w wr) (fun _ i _ => k - (intOf i).toNat)
              case atStart => exact ⟨0, C1, C1, Nat.zero_le _, rfl, by simp [sumN_zero], HB1, HZ.out.congr (fun j _ => by simp), HB2, HZ.out.congr (fun j _ => by simp), hbel⟩
              case round =>
                clear HB1 HB2 hbel HZ
                obtain ⟨m, c1, c2, hm, rfl, rfl, HB1, HR1, HB2, HR2, hbel⟩ := hrel
                by_cases hlt2 : m < k
                · obtain ⟨b, off, x, hA, hbw, hc, HX⟩ := h.get hlt2
                  subst hA
                  have hc1 : wr.cell? ⟨b, off + m, none⟩ = some (.int .i64 x) := (hbel.cell (p := ⟨b, off + m, none⟩) hbw).trans hc
                  have hlen : 0 < xs.length := by have := HL.out; omega
                  have hmx : m < xs.length := by have := HL.out; omega
                  have hqn := quo_nonneg HN.out ht0 hlen m
                  have hql := quo_le t xs ht0 HN.out m hmx
                  have hrn := rst_nonneg (t := t) HN.out hlen m
                  have hrl := rst_lt (t := t) HN.out hlen m
                  have hWp := wsum_pos HN.out hlen
                  have hx0 : 0 ≤ x := by have := HN.out m; rw [HX.out] at this; exact this
                  have hxS : x ≤ S := by have := getD_le_sum xs HN.out m hmx; rw [HX.out, HSS.out] at this; exact this
                  have HQ := Lib.hid (sumN_succ m (quoI t xs))
                  obtain ⟨hb1, hb2⟩ := sum_quo_bounds t xs ht0 HN.out m (by omega) hlen
                  obtain ⟨hb3, hb4⟩ := sum_quo_bounds t xs ht0 HN.out (m + 1) (by omega) hlen
                  rw [HQ.out] at hb3 hb4
                  have HR1' : ∀ q, quoI t xs m = q → IntRow (c1.setIfInBounds m (.int .i64 q)) k (fun j => if j < m + 1 then quoI t xs j else 0) := fun q hq => HR1.set m q (fun j hj => by
                    by_cases e : j = m
                    · subst e; rw [if_pos (by omega), if_pos rfl, hq]
                    · rw [if_neg e]; by_cases e2 : j < m
                      · rw [if_pos e2, if_pos (by omega)]
                      · rw [if_neg e2, if_neg (by omega)])
                  have HR2' : ∀ q, rstI t xs m = q → IntRow (c2.setIfInBounds m (.int .i64 q)) k (fun j => if j < m + 1 then rstI t xs j else 0) := fun q hq => HR2.set m q (fun j hj => by
                    by_cases e : j = m
                    · subst e; rw [if_pos (by omega), if_pos rfl, hq]
                    · rw [if_neg e]; by_cases e2 : j < m
                      · rw [if_pos e2, if_pos (by omega)]
                      · rw [if_neg e2, if_neg (by omega)])
                  have HRA := Lib.hid HR1'
                  have HRB := Lib.hid HR2'
                  clear HR1' HR2'
                  have k1 := HR1.cell HB1 hlt2
                  have k2 := HR2.cell HB2 hlt2
                  rw [if_neg (by omega)] at k1 k2
                  have hcall : ∀ W y : Int, wsum xs = W → wt xs m = y → 0 < W → W ≤ 1000000000000000 → 0 ≤ y → y ≤ 1000000000000000 → (∀ w : World, Calls Try.prog 46 #[.int .u64 t, .int .u64 y] w fun e w' => e = .returned (.agg #[.int .u64 (t * y / 18446744073709551616), .int .u64 (t * y % 18446744073709551616)]) ∧ RowKit.Below w.heap.size w w') ∧
                      (∀ w : World, ∃ z, Calls Try.prog 45 #[.agg #[.int .u64 (t * y / 18446744073709551616), .int .u64 (t * y % 18446744073709551616)], .int .u64 W] w fun e w' => e = .returned (.tuple #[.agg #[.int .u64 z, .int .u64 (quoI t xs m)], .int .u64 (rstI t xs m)]) ∧ RowKit.Below w.heap.size w w') := by
                    intro W y hW hy h1 h2 h3 h4
                    refine ⟨fun w => rmul_any t y w ht0 (by omega) h3 (by omega), fun w => ⟨t * y / W / 18446744073709551616, ?_⟩⟩
                    obtain ⟨p1, p2, p3, p4, p5⟩ := prod_parts t y ht0 (by omega) h3 (by omega)
                    have := rdivmod_any _ _ W w p1 p2 p3 p4 h1 (by omega)
                    rw [p5] at this
                    have e1 : t * y / W = quoI t xs m := by unfold quoI; rw [hW, hy]
                    have e2 : t * y % W = rstI t xs m := by unfold rstI; rw [hW, hy]
                    rw [e1, e2, show quoI t xs m % 18446744073709551616 = quoI t xs m by omega] at this
                    rw [e1]
                    exact this
                  have HCALL := Lib.hid hcall
                  clear hcall
                  have hrl2 : rstI t xs m < 1000000000000000 := by
                    have : wsum xs ≤ 1000000000000000 := by unfold wsum; rw [HSS.out, HL.out]; split <;> omega
                    omega
                  have HW1 : Hid (S = 0 → wsum xs = (k : Int) ∧ wt xs m = 1) := by
                    intro hz; unfold wsum wt; rw [HSS.out, hz, HL.out]; simp
                  have HW2 : Hid (S ≠ 0 → wsum xs = S ∧ wt xs m = x) := by
                    intro hz; unfold wsum wt; rw [HSS.out, if_neg hz, if_neg hz]; exact ⟨rfl, HX.out⟩
                  clear hrl hWp
                  by_cases hz : S = 0
                  · have b5 : (S == 0) = true := by simpa using hz
                    obtain ⟨HM0, HD0⟩ := HCALL.out k 1 (HW1.out hz).1 (HW1.out hz).2 (by omega) (by omega) (by omega) (by omega)
                    have HM := Lib.hid HM0
                    have HD := Lib.hid HD0
                    clear HM0 HD0 HCALL hz HW1 HW2
                    generalize t * 1 / 18446744073709551616 = ph at *
                    generalize t * 1 % 18446744073709551616 = pl at *
                    generalize quoI t xs m = q at *
                    generalize rstI t xs m = r at *
                    generalize sumN m (quoI t xs) = sq at *
                    go_wp2_with fail
                    refine (HM.out _).mono ?_
                    rintro e w1 ⟨rfl, hbd1⟩
                    go_wp2_with fail
                    obtain ⟨z, hd⟩ := HD.out w1
                    refine hd.mono ?_
                    clear hd
                    rintro e w2 ⟨rfl, hbd2⟩
                    have HK1 := (HB1.keep hbd1).keep hbd2
                    have HK2 := (HB2.keep hbd1).keep hbd2
                    have hbel2 := (hbel.trans (hbd1.mono hbel.size)).trans (hbd2.mono (Nat.le_trans hbel.size hbd1.size))
                    have n1 : w2.cell? ⟨g1, m, none⟩ = some (.int .i64 0) := ((HB1.keep hbd1).keep hbd2).cell m |>.trans ((HB1.cell m).symm.trans k1)
                    have n2 : w2.cell? ⟨g2, m, none⟩ = some (.int .i64 0) := ((HB2.keep hbd1).keep hbd2).cell m |>.trans ((HB2.cell m).symm.trans k2)
                    have n3 : w2.frozen? ⟨g1, m, none⟩ = false := HK1.free m
                    have n4 : w2.frozen? ⟨g2, m, none⟩ = false := HK2.free m
                    have l1 := HK1.lt
                    have l2 := HK2.lt
                    have n1' : ∀ o, (w2.alloc o).cell? ⟨g1, m, none⟩ = some (.int .i64 0) := fun o => (World.cell?_alloc_lt _ _ _ l1).trans n1
                    have n2' : ∀ o, (w2.alloc o).cell? ⟨g2, m, none⟩ = some (.int .i64 0) := fun o => (World.cell?_alloc_lt _ _ _ l2).trans n2
                    have n3' : ∀ o, (w2.alloc o).frozen? ⟨g1, m, none⟩ = false := fun o => (HK1.alloc o).free m
                    have n4' : ∀ o, (w2.alloc o).frozen? ⟨g2, m, none⟩ = false := fun o => (HK2.alloc o).free m
                    clear k1 k2
                    go_wp2
                    go_roundw
                    case rel => exact ⟨m + 1, _, _, by omega, by go_num, by rw [HQ.out]; go_num, ((HK1.put _ _).far (p := ⟨g2, m, none⟩) hne _).alloc _, HRA.out _ rfl, ((HK2.far (p := ⟨g1, m, none⟩) hne' _).put _ _).alloc _, HRB.out _ rfl, ((hbel2.setCell (p := ⟨g1, m, none⟩) hg1 _).setCell (p := ⟨g2, m, none⟩) hg2 _).alloc (by have := hbel2.size; simpa [World.setCell] using this) _⟩
                    case measure => simp [intOf]; omega
                  · have b5 : (S == 0) = false := by simpa using hz
                    obtain ⟨HM0, HD0⟩ := HCALL.out S x (HW2.out hz).1 (HW2.out hz).2 (by omega) (by omega) (by omega) (by omega)
                    have HM := Lib.hid HM0
                    have HD := Lib.hid HD0
                    clear HM0 HD0 HCALL hz HW1 HW2
                    generalize t * x / 18446744073709551616 = ph at *
                    generalize t * x % 18446744073709551616 = pl at *
                    generalize quoI t xs m = q at *
                    generalize rstI t xs m = r at *
                    generalize sumN m (quoI t xs) = sq at *
                    go_wp2_with fail
                    refine (HM.out _).mono ?_
                    rintro e w1 ⟨rfl, hbd1⟩
                    go_wp2_with fail
                    obtain ⟨z, hd⟩ := HD.out w1
                    refine hd.mono ?_
                    clear hd
                    rintro e w2 ⟨rfl, hbd2⟩
                    have HK1 := (HB1.keep hbd1).keep hbd2
                    have HK2 := (HB2.keep hbd1).keep hbd2
                    have hbel2 := (hbel.trans (hbd1.mono hbel.size)).trans (hbd2.mono (Nat.le_trans hbel.size hbd1.size))
                    have n1 : w2.cell? ⟨g1, m, none⟩ = some (.int .i64 0) := ((HB1.keep hbd1).keep hbd2).cell m |>.trans ((HB1.cell m).symm.trans k1)
                    have n2 : w2.cell? ⟨g2, m, none⟩ = some (.int .i64 0) := ((HB2.keep hbd1).keep hbd2).cell m |>.trans ((HB2.cell m).symm.trans k2)
                    have n3 : w2.frozen? ⟨g1, m, none⟩ = false := HK1.free m
                    have n4 : w2.frozen? ⟨g2, m, none⟩ = false := HK2.free m
                    have l1 := HK1.lt
                    have l2 := HK2.lt
                    have n1' : ∀ o, (w2.alloc o).cell? ⟨g1, m, none⟩ = some (.int .i64 0) := fun o => (World.cell?_alloc_lt _ _ _ l1).trans n1
                    have n2' : ∀ o, (w2.alloc o).cell? ⟨g2, m, none⟩ = some (.int .i64 0) := fun o => (World.cell?_alloc_lt _ _ _ l2).trans n2
                    have n3' : ∀ o, (w2.alloc o).frozen? ⟨g1, m, none⟩ = false := fun o => (HK1.alloc o).free m
                    have n4' : ∀ o, (w2.alloc o).frozen? ⟨g2, m, none⟩ = false := fun o => (HK2.alloc o).free m
                    clear k1 k2
                    go_wp2
                    go_roundw
                    case rel => exact ⟨m + 1, _, _, by omega, by go_num, by rw [HQ.out]; go_num, ((HK1.put _ _).far (p := ⟨g2, m, none⟩) hne _).alloc _, HRA.out _ rfl, ((HK2.far (p := ⟨g1, m, none⟩) hne' _).put _ _).alloc _, HRB.out _ rfl, ((hbel2.setCell (p := ⟨g1, m, none⟩) hg1 _).setCell (p := ⟨g2, m, none⟩) hg2 _).alloc (by have := hbel2.size; simpa [World.setCell] using this) _⟩
                    case measure => simp [intOf]; omega
                · obtain rfl : m = k := by omega
                  have eL : t - sumN m (quoI t xs) = leftI t xs := by unfold leftI; rw [HL.out]
                  rw [eL]
                  have hLL : 0 ≤ leftI t xs ∧ leftI t xs ≤ m := by
                    by_cases e : m = 0
                    · have := HNT.out e
                      unfold leftI
                      rw [HL.out, e, sumN_zero, this]
                      omega
                    · have h1 := left_nonneg (t := t) HN.out (by have := HL.out; omega)
                      have h2 := left_lt (t := t) HN.out (by have := HL.out; omega)
                      have := HL.out
                      omega
                  obtain ⟨L, hLe⟩ : ∃ L, leftI t xs = L := ⟨_, rfl⟩
                  rw [hLe] at hLL ⊢
                  have HLE := Lib.hid hLe
                  obtain ⟨hL0, hL1⟩ := hLL
                  clear eL hLe
                  go_wp2
                  go_loopw [12] (fun l wr => ∃ (p : Nat) (c1 c2 : Array Value), (p : Int) ≤ L ∧ l = .int .i64 (L - p) ∧ Bl wr g1 3 c1 ∧ IntRow c1 m (fun j => quoI t xs j + if rank (rstI t xs) m j < p then 1 else 0) ∧ Bl wr g2 3 c2 ∧ IntRow c2 m (restAt (rstI t xs) m p) ∧ RowKit.Below w.heap.size w wr) (fun l _ => (intOf l).toNat)
                  case atStart => exact ⟨0, c1, c2, by omega, by simp, HB1, HR1.congr (fun j hj => by simp [hj]), HB2, HR2.congr (fun j hj => by simp [hj, restAt]), hbel⟩
                  case round =>
                    clear HB1 HR1 HB2 HR2 hbel c1 c2
                    obtain ⟨p, c1, c2, hp, rfl, HB1, HR1, HB2, HR2, hbel⟩ := hrel
                    by_cases hpL : (p : Int) < L
                    · have hpos : 0 < L - (p : Int) := by omega
                      have hpm : p < m := by omega
                      go_wp2
                      obtain ⟨wo, rfl⟩ : ∃ wo : World, wo = wr := ⟨_, rfl⟩
                      have HRN : Hid (∀ j, j < m → 0 ≤ rstI t xs j) := fun j hj => rst_nonneg HN.out (by have := HL.out; omega) j
                      go_loopw [18, 19] (fun bb ii wi => ∃ (bst i nn : Nat), bst < i ∧ i ≤ m ∧ bb = .int .i64 bst ∧ ii = .int .i64 i ∧ Hid (∀ j, j < i → restAt (rstI t xs) m p j < restAt (rstI t xs) m p bst ∨ (restAt (rstI t xs) m p j = restAt (rstI t xs) m p bst ∧ bst ≤ j)) ∧ wi = wo.drewN nn) (fun _ ii _ => m - (intOf ii).toNat)
                      case atStart => exact ⟨0, 1, 0, by omega, by omega, rfl, rfl, first_best _, rfl⟩
                      case round =>
                        obtain ⟨bst, i, nn, hbi, him, rfl, rfl, HBS, rfl⟩ := hrel
                        by_cases hlt3 : i < m
                        · have q1 := HR2.cell HB2 hlt3
                          have q2 := HR2.cell HB2 (show bst < m by omega)
                          have HV1 : Hid (restAt (rstI t xs) m p i = restAt (rstI t xs) m p i) := rfl
                          obtain ⟨vi, hvi⟩ : ∃ v, restAt (rstI t xs) m p i = v := ⟨_, rfl⟩
                          obtain ⟨vb, hvb⟩ : ∃ v, restAt (rstI t xs) m p bst = v := ⟨_, rfl⟩
                          rw [hvi] at q1
                          rw [hvb] at q2
                          have HVI := Lib.hid hvi
                          have HVB := Lib.hid hvb
                          clear hvi hvb
                          have i1 : (0 : Int) ≤ (i : Int) := by omega
                          have i2 : (i : Int) < (m : Int) := by omega
                          have i3 : (0 : Int) ≤ (bst : Int) := by omega
                          have i4 : (bst : Int) < (m : Int) := by omega
                          by_cases hgt : vb < vi
                          · have HNB : Hid (∀ j, j < i + 1 → restAt (rstI t xs) m p j < restAt (rstI t xs) m p i ∨ (restAt (rstI t xs) m p j = restAt (rstI t xs) m p i ∧ i ≤ j)) := next_best _ bst i hbi HBS.out (by rw [HVI.out, HVB.out]; exact hgt)
                            go_wp2
                            go_quiet (fail)
                            go_wp2
                            go_roundw
                            case rel => exact ⟨i, i + 1, _, by omega, by omega, rfl, by go_num, HNB.out, rfl⟩
                            case measure => simp [intOf]; omega
                          · have HNB : Hid (∀ j, j < i + 1 → restAt (rstI t xs) m p j < restAt (rstI t xs) m p bst ∨ (restAt (rstI t xs) m p j = restAt (rstI t xs) m p bst ∧ bst ≤ j)) := same_best _ bst i hbi HBS.out (by rw [HVI.out, HVB.out]; exact hgt)
                            go_wp2
                            go_quiet (fail)
                            go_wp2
                            go_roundw
                            case rel => exact ⟨bst, i + 1, _, by omega, by omega, rfl, by go_num, HNB.out, rfl⟩
                            case measure => simp [intOf]; omega
                        · obtain rfl : i = m := by omega
                          have hrk := best_rank (rstI t xs) i p bst hpm (by omega) HRN.out HBS.out
                          have hbm : bst < i := hbi
                          have hrj : ∀ j, j < i → j ≠ bst → (rank (rstI t xs) i j < p + 1 ↔ rank (rstI t xs) i j < p) := fun j hj hne2 => by
                            have : rank (rstI t xs) i j ≠ p := fun e => hne2 (rank_inj (rstI t xs) i j bst hj hbm (by omega))
                            omega
                          have q1 := HR1.cell HB1 hbm
                          have q2 := HR2.cell HB2 hbm
                          simp only [restAt] at q2
                          rw [if_neg (by omega)] at q1 q2
                          have HO1 : Hid (∀ v, quoI t xs bst + 0 + 1 = v → IntRow (c1.setIfInBounds bst (.int .i64 v)) i (fun j => quoI t xs j + if rank (rstI t xs) i j < p + 1 then 1 else 0)) := fun v hv => HR1.set bst v (fun j hj => by
                            by_cases e : j = bst
                            · subst e; rw [if_pos rfl, if_pos (by omega)]; omega
                            · rw [if_neg e]; simp only [hrj j hj e])
                          have HO2 : Hid (IntRow (c2.setIfInBounds bst (.int .i64 (-1))) i (restAt (rstI t xs) i (p + 1))) := HR2.set bst (-1) (fun j hj => by
                            unfold restAt
                            by_cases e : j = bst
                            · subst e; rw [if_pos rfl, if_pos (by omega)]
                            · rw [if_neg e]; simp only [hrj j hj e])
                          have hqn : 0 ≤ quoI t xs bst := quo_nonneg HN.out ht0 (by have := HL.out; omega) bst
                          have hql := quo_le t xs ht0 HN.out bst (by have := HL.out; omega)
                          obtain ⟨rv, hrv⟩ : ∃ v, rstI t xs bst = v := ⟨_, rfl⟩
                          rw [hrv] at q2
                          clear hrv hrj hrk
                          rw [Int.add_zero] at q1 HO1
                          generalize quoI t xs bst = q at *
                          have f1 : wo.frozen? ⟨g1, bst, none⟩ = false := HB1.free bst
                          have f2 : wo.frozen? ⟨g2, bst, none⟩ = false := HB2.free bst
                          go_wp2
                          go_roundw
                          case rel => exact ⟨p + 1, _, _, by omega, by go_num, ((HB1.drewN nn).put _ _).far (p := ⟨g2, bst, none⟩) hne _, HO1.out _ rfl, ((HB2.drewN nn).far (p := ⟨g1, bst, none⟩) hne' _).put _ _, HO2.out, ((below_drewN hbel nn).setCell (p := ⟨g1, bst, none⟩) hg1 _).setCell (p := ⟨g2, bst, none⟩) hg2 _⟩
                          case measure => simp [intOf]; omega
                    · have hpe : L = p := by omega
                      have hnp : ¬ 0 < L - (p : Int) := by omega
                      have HO : Hid ((List.range m).map (fun j => quoI t xs j + if rank (rstI t xs) m j < p then 1 else 0) = shareL t xs) := by
                        unfold shareL
                        rw [HL.out]
                        refine List.map_congr_left fun j hj => ?_
                        unfold shareI
                        rw [HL.out, HLE.out, hpe]
                        by_cases e : rank (rstI t xs) m j < p
                        · rw [if_pos e, if_pos (by omega)]
                        · rw [if_neg e, if_neg (by omega)]
                      have HPE := Lib.hid hpe
                      clear hpe
                      go_wp2
                      go_ret2
                      have how := HR1.own HB1 hg1 (by omega)
                      rw [HO.out] at how
                      exact ⟨_, _, _, rfl, how, hbel⟩
end Go.Proofs.Ytknbbamlpadfdaa

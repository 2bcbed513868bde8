/-
  Contract of apportion.Share: the shares of the largest remainder, or the error of check. No statement of the seat is proved here. Conditions: the list's length fits.
  Contract of apportion.Share, all cases in one. No statement of the seat is proved here. Conditions: the list's length fits an int.
  Words for memory: rows of the call's own, small lemmas. No statement of the seat is proved here. No conditions.
  Small facts on sums and shares. No statement of the seat is proved here. No conditions beyond those typed.
  Contracts of customsmade's Within, Cut, and of the Source's Next and Left and of Small. No statement of the seat is proved here. Conditions: the list lies below the source's own block; bounds are positive.
  The contracts of slices.SortStableFunc at facts and of quotabook.tranchesOf. No statement of the seat is proved here. Conditions: at most 1000 facts.
  The contract of quotabook.tranchesOf: the tranches in order of their days. No statement of the seat is proved here. Conditions: at most 1000 facts.
-/
import Derived.Test.YtdbcbbiplkikcaaGreatNAD
import Derived.StillTailTactics
import Derived.Test.YtdbcbbiplkikcaaGreatNAA
import Derived.Deep.QuietTactic
import Derived.BigQuiet
import Derived.Deep.DeepMust
import Derived.Test.YtdbcbbiplkikcaaGreatNAC
namespace Go.Proofs.YtdbcbbiplkikcaaGreat
open Go.RowKit Go.Shelf Go.Lib Go.Sort
set_option linter.unusedVariables false

theorem infoP : (Tryz.prog.info? 473).map (fun i => (i.zero, i.size, i.bytes)) = some (some (.agg #[.int .i64 0, .int .u64 0, .int .u64 0]), 3, 24) := by kernel_rfl
theorem infoI : (Tryz.prog.info? 3).map (fun i => (i.zero, i.size, i.bytes)) = some (some (.int .i64 0), 1, 8) := by kernel_rfl

def PorRow (cs : Array Value) (t : Int) (ws : List Int) (k : Nat) : Prop :=
  cs.size = ws.length * 3 ∧ ∀ j, j < k → cs[j * 3]? = some (.int .i64 j) ∧ cs[j * 3 + 1]? = some (.int .u64 (quoI t ws j)) ∧ cs[j * 3 + 2]? = some (.int .u64 (rstI t ws j))

set_option maxHeartbeats 1000000 in
theorem share_err (t : Int) (A : Option Addr) (n c : Nat) (xs : List Int) (w : World) (h : Ints w A n xs) (hm : n ≤ 9223372036854775807) (he : chkErr t xs ≠ 0) :
    Calls Tryz.prog 270 #[.int .i64 t, .slice A n c] w fun e w' => e = .returned (.tuple #[.slice none 0 0, .int .i64 (chkErr t xs)]) ∧ w = w' := by
  have HC := Lib.hid (fun w h => check_any t A n c xs w h hm)
  have hb : (chkErr t xs != 0) = true := by simpa using he
  clear he
  generalize chkErr t xs = er at *
  go_enter Tryz.func270, Tryz.ntmps270
  go_wp2_with (go_at_call 268; refine (HC.out _ h).mono ?_; rintro e w' ⟨rfl, rfl⟩)
  go_ret2
  exact ⟨rfl, rfl⟩

theorem divOut_down (N c : Int) (hN : 0 ≤ N) (hc : 0 < c) (h : N / c ≤ 18446744073709551615) : divOut N c 0 = (N / c, 0) := by
  have h1 : ¬ c ≤ N / 18446744073709551616 := by
    intro h2
    have h3 : N < (N / c + 1) * c := by
      have := Int.mul_ediv_add_emod N c
      have := Int.emod_lt_of_pos N hc
      rw [Int.add_mul, Int.mul_comm (N / c)]
      omega
    have h4 : (N / c + 1) * c ≤ 18446744073709551616 * c := Int.mul_le_mul_of_nonneg_right (by omega) (by omega)
    omega
  have h2 : ¬ c = 0 := by omega
  simp [divOut, h1, h2, raisedB]

theorem getD_le_sum (ws : List Int) (h : NonNeg ws) (i : Nat) (hi : i < ws.length) : ws.getD i 0 ≤ ws.sum := by
  rw [← sumN_list]
  exact sumN_le_all (f := fun i => ws.getD i 0) (fun i _ => h i) i hi

theorem wt_le_wsum (ws : List Int) (h : NonNeg ws) (i : Nat) (hi : i < ws.length) : wt ws i ≤ wsum ws := by
  unfold wt wsum
  by_cases h0 : ws.sum = 0
  · simp [h0]; omega
  · simp only [h0, if_false]; exact getD_le_sum ws h i hi

theorem quo_le (t : Int) (ws : List Int) (ht : 0 ≤ t) (h : NonNeg ws) (i : Nat) (hi : i < ws.length) : quoI t ws i ≤ t := by
  have h1 := wt_le_wsum ws h i hi
  have h2 := wsum_pos h (by omega)
  unfold quoI
  have h3 : t * wt ws i / wsum ws < t + 1 := by
    rw [Int.ediv_lt_iff_lt_mul h2, Int.add_mul]
    have : t * wt ws i ≤ t * wsum ws := Int.mul_le_mul_of_nonneg_left h1 ht
    omega
  omega

theorem sum_quo_bounds (t : Int) (ws : List Int) (ht : 0 ≤ t) (h : NonNeg ws) (k : Nat) (hk : k ≤ ws.length) (hn : 0 < ws.length) : 0 ≤ sumN k (quoI t ws) ∧ sumN k (quoI t ws) ≤ t := by
  refine ⟨sumN_nonneg fun i _ => quo_nonneg h ht hn i, ?_⟩
  have h1 : ∀ m, sumN k (quoI t ws) ≤ sumN (k + m) (quoI t ws) := by
    intro m
    induction m with
    | zero => exact Int.le_refl _
    | succ m ih => rw [← Nat.add_assoc, sumN_succ]; have := quo_nonneg h ht hn (k + m); omega
  have h2 := h1 (ws.length - k)
  rw [show k + (ws.length - k) = ws.length by omega] at h2
  have h3 := left_nonneg (t := t) h hn
  unfold leftI at h3
  omega

theorem PorRow.put {cs : Array Value} {t : Int} {ws : List Int} {k : Nat} (h : PorRow cs t ws k) (hk : k < ws.length) :
    PorRow (((cs.setIfInBounds (k * 3) (.int .i64 k)).setIfInBounds (k * 3 + 1) (.int .u64 (quoI t ws k))).setIfInBounds (k * 3 + 2) (.int .u64 (rstI t ws k))) t ws (k + 1) := by
  have hs := h.1
  refine ⟨by simpa using hs, fun j hj => ?_⟩
  by_cases e : j = k
  · subst e
    simp [Array.getElem?_setIfInBounds]
    omega
  · have := h.2 j (by omega)
    simp only [Array.getElem?_setIfInBounds, Array.size_setIfInBounds]
    refine ⟨?_, ?_, ?_⟩
    · rw [if_neg (by omega), if_neg (by omega), if_neg (by omega)]; exact this.1
    · rw [if_neg (by omega), if_neg (by omega), if_neg (by omega)]; exact this.2.1
    · rw [if_neg (by omega), if_neg (by omega), if_neg (by omega)]; exact this.2.2

theorem Bl.three {w : World} {g : Nat} {T : TypeId} {cs : Array Value} (h : Bl w g T cs) (o : Nat) (ho : o + 2 < cs.size) :
    (∃ v, w.cell? ⟨g, o, none⟩ = some v) ∧ (∃ v, w.cell? ⟨g, o + 1, none⟩ = some v) ∧ (∃ v, w.cell? ⟨g, o + 2, none⟩ = some v) ∧ w.frozen? ⟨g, o, none⟩ = false ∧ w.frozen? ⟨g, o + 1, none⟩ = false ∧ w.frozen? ⟨g, o + 2, none⟩ = false :=
  ⟨⟨_, (h.cell o).trans (Array.getElem?_eq_getElem (by omega))⟩, ⟨_, (h.cell (o + 1)).trans (Array.getElem?_eq_getElem (by omega))⟩, ⟨_, (h.cell (o + 2)).trans (Array.getElem?_eq_getElem (by omega))⟩, h.free _, h.free _, h.free _⟩

def ResRow (rs : Array Value) (t : Int) (ws : List Int) (p : Nat) : Prop :=
  rs.size = ws.length ∧ ∀ j, j < ws.length → rs[j]? = some (.int .i64 (if rank (rstI t ws) ws.length j < p then shareI t ws j else 0))

theorem ResRow.put {rs : Array Value} {t : Int} {ws : List Int} {p j : Nat} {q : Int} (h : ResRow rs t ws p) (hj : j < ws.length) (hr : rank (rstI t ws) ws.length j = p) (hq : shareI t ws j = q) :
    ResRow (rs.setIfInBounds j (.int .i64 q)) t ws (p + 1) := by
  refine ⟨by simpa using h.1, fun i hi => ?_⟩
  rw [Array.getElem?_setIfInBounds]
  by_cases e : j = i
  · subst e
    rw [if_pos rfl, if_pos (by rw [h.1]; exact hj), if_pos (by omega), hq]
  · rw [if_neg e, h.2 i hi]
    have : rank (rstI t ws) ws.length i ≠ p := fun e2 => e (rank_inj (rstI t ws) ws.length j i hj hi (by omega))
    by_cases h2 : rank (rstI t ws) ws.length i < p
    · rw [if_pos h2, if_pos (by omega)]
    · rw [if_neg h2, if_neg (by omega)]

set_option maxHeartbeats 1000000 in
theorem share_ok (t : Int) (A : Option Addr) (n c : Nat) (xs : List Int) (w : World) (h : Ints w A n xs) (hn : n ≤ 1000) (h0 : chkErr t xs = 0) (ht0 : 0 ≤ t) (ht : t ≤ 1000000000000) (ha : AllIn xs) (hs : xs.sum ≠ 0) (W : Int) (HW : Hid (xs.sum = W)) (HWs : Hid (wsum xs = W)) (hW : 0 < W) (hW' : W ≤ 1000000000000000) :
    Calls Tryz.prog 270 #[.int .i64 t, .slice A n c] w fun e w' => ∃ g, e = .returned (.tuple #[.slice (some ⟨g, 0, none⟩) n n, .int .i64 0]) ∧ w.heap.size ≤ g ∧ w'.ownsRow w.heap.size 3 1 (.slice (some ⟨g, 0, none⟩) n n) n ((shareL t xs).map (Value.int .i64)) ∧ Below w.heap.size w w' := by
  have HC := Lib.hid (fun w h => check_any t A n c xs w h (by omega))
  rw [h0] at HC
  clear h0
  have HS := Lib.hid (fun w h => sumOf_any A n c xs w h hn ha)
  obtain ⟨C1, HC1, hmk1⟩ := make_any (P := Tryz.prog) 470 473 _ 3 24 n Tryz.underlying470 infoP (by omega) (by omega)
  obtain ⟨C2, HC2, hmk2⟩ := make_any (P := Tryz.prog) 24 3 _ 1 8 n Tryz.underlying24 infoI (by omega) (by omega)
  have HN := Lib.hid (show NonNeg xs from fun i => (ha i).1)
  have HL := Lib.hid h.1
  rw [HW.out] at HS
  have hb : (W == 0) = false := by simp; omega
  clear ha
  go_enter Tryz.func270, Tryz.ntmps270
  go_wp2_with (first | (go_at_call 268; refine (HC.out _ h).mono ?_; rintro e w' ⟨rfl, rfl⟩) | (go_at_call 269; refine (HS.out _ h).mono ?_; rintro e w' ⟨rfl, rfl⟩))
  go_loopw [9, 38] (fun l i wr => ∃ (k : Nat) (cs : Array Value), k ≤ n ∧ i = .int .i64 k ∧ l = .int .i64 (t - sumN k (quoI t xs)) ∧ Bl wr w.heap.size 473 cs ∧ PorRow cs t xs k ∧ Below w.heap.size w wr) (fun _ i _ => n - (intOf i).toNat)
  case atStart => exact ⟨0, C1, Nat.zero_le _, rfl, by simp [sumN_zero], Bl.new _ _ _, ⟨by rw [HC1.out.1, HL.out], fun j hj => absurd hj (by omega)⟩, (Below.refl _ _).alloc (Nat.le_refl _) _⟩
  case round =>
    obtain ⟨k, cs, hk, rfl, rfl, HB, HP, hbel⟩ := hrel
    by_cases hlt : k < n
    · obtain ⟨b, off, x, hA, hbw, hc, HX⟩ := h.get hlt
      subst hA
      have hc1 : wr.cell? ⟨b, off + k, none⟩ = some (.int .i64 x) := (hbel.cell (p := ⟨b, off + k, none⟩) hbw).trans hc
      have hqn := quo_nonneg HN.out ht0 (by have := HL.out; omega) k
      have hql := quo_le t xs ht0 HN.out k (by have := HL.out; omega)
      have hx0 : 0 ≤ x := by have := HN.out k; rw [HX.out] at this; exact this
      have hxW : x ≤ W := by have := getD_le_sum xs HN.out k (by have := HL.out; omega); rw [HX.out, HW.out] at this; exact this
      have hwt : wt xs k = x := by rw [← HX.out]; simp [wt, hs]
      have HMD := Lib.hid (fun w => mulDiv_any t x W 0 w ht0 (by omega) hx0 (by omega) (by omega) (by omega))
      have HMM := Lib.hid (fun w => mulMod_any t x W w ht0 (by omega) hx0 (by omega) (by omega) (by omega))
      have eq1 : t * x / W = quoI t xs k := by unfold quoI; rw [hwt, HWs.out]
      have eq2 : t * x % W = rstI t xs k := by unfold rstI; rw [hwt, HWs.out]
      rw [divOut_down _ _ (Int.mul_nonneg ht0 hx0) (by omega) (by rw [eq1]; omega), eq1] at HMD
      rw [eq2] at HMM
      have HP' := HP.put (by have := HL.out; omega)
      have HQ := Lib.hid (sumN_succ k (quoI t xs))
      obtain ⟨hb1, hb2⟩ := sum_quo_bounds t xs ht0 HN.out k (by have := HL.out; omega) (by have := HL.out; omega)
      obtain ⟨hb3, hb4⟩ := sum_quo_bounds t xs ht0 HN.out (k + 1) (by have := HL.out; omega) (by have := HL.out; omega)
      rw [HQ.out] at hb3 hb4
      clear eq1 eq2 hwt
      generalize quoI t xs k = q at *
      generalize rstI t xs k = r at *
      generalize sumN k (quoI t xs) = s at *
      go_wp2_with (first | (go_at_call 158; refine (HMD.out _).mono ?_; rintro e w1 ⟨rfl, hbd1⟩) | (go_at_call 325; refine (HMM.out _).mono ?_; rintro e w2 ⟨rfl, hbd2⟩; have HB2 := (HB.keep hbd1).keep hbd2; obtain ⟨⟨v0, c0⟩, ⟨v1, c1⟩, ⟨v2, c2⟩, z0, z1, z2⟩ := HB2.three (k * 3) (by have := HP.1; have := HL.out; omega)))
      go_roundw
      case rel => exact ⟨k + 1, _, by omega, by go_num, by rw [HQ.out]; go_num, ((HB2.put _ _).put _ _).put _ _, HP', ((((hbel.trans (hbd1.mono hbel.size)).trans (hbd2.mono (Nat.le_trans hbel.size hbd1.size))).setCell (Nat.le_refl _) _).setCell (Nat.le_refl _) _).setCell (Nat.le_refl _) _⟩
      case measure => simp [intOf]; omega
    · obtain rfl : k = n := by omega
      have hH : HoldsK encP 3 wr w.heap.size 0 (porArr t xs) := holds_porArr t xs wr w.heap.size (fun j hj => by
        have := HP.2 j (by have := HL.out; omega)
        exact ⟨(HB.cell _).trans this.1, (HB.cell _).trans this.2.1, (HB.cell _).trans this.2.2⟩) (fun o => HB.free o)
      have hsort := rankSort_any w.heap.size 0 k (porArr t xs) wr hH HB.lt (by rw [porArr_size, HL.out]; omega)
      rw [porArr_size, HL.out] at hsort
      have HSO := Lib.hid hsort
      clear hsort
      go_wp2_with (go_at_call 327; refine HSO.out.mono ?_; rintro e w3 ⟨rfl, d', m, os, hpm, hsd, hw3⟩; have hw3f := sorted_world w wr w.heap.size k m (porArr t xs) d' os hbel (Nat.le_refl _) HB.lt hH hpm.1; rw [← hw3] at hw3f; clear hw3)
      obtain ⟨hbel3, hH3, hg3⟩ := hw3f
      have HPM := Lib.hid hpm
      have HSD := Lib.hid hsd
      have hd' : d'.size = k := by rw [hpm.1, porArr_size, HL.out]
      have HD := Lib.hid hd'
      clear hpm hsd hd' HSO HB HP hbel hH HC HS HC1 hmk1
      have eL : t - sumN k (quoI t xs) = leftI t xs := by unfold leftI; rw [HL.out]
      rw [eL]
      clear eL
      obtain ⟨L, hLe⟩ : ∃ L, leftI t xs = L := ⟨_, rfl⟩
      rw [hLe]
      have HLE := Lib.hid hLe
      clear hLe
      go_loopw [81] (fun i wr2 => ∃ (p : Nat) (rs : Array Value), p ≤ k ∧ i = .int .i64 p ∧ Bl wr2 w3.heap.size 3 rs ∧ ResRow rs t xs p ∧ RowKit.Below w3.heap.size w3 wr2) (fun i _ => k - (intOf i).toNat)
      case atStart => exact ⟨0, C2, Nat.zero_le _, rfl, Bl.new _ _ _, ⟨by rw [HC2.out.1, HL.out]; omega, fun j hj => by rw [HC2.out.2 j (by have := HL.out; omega), if_neg (by omega)]; simp [Value.cells, Nat.mod_one]⟩, (Below.refl _ _).alloc (Nat.le_refl _) _⟩
      case round =>
        obtain ⟨p, rs, hp, rfl, HB, HR, hbel⟩ := hrel
        by_cases hlt2 : p < k
        · obtain ⟨j, hj, ej, hrk⟩ := sorted_at t xs d' (by rw [HL.out]; exact HPM.out) (by rw [HL.out]; exact HSD.out) p (by have := HL.out; omega)
          obtain ⟨c0, c1, c2⟩ := holdsK_cells w3 w.heap.size d' hH3 p (by have := HD.out; omega)
          rw [ej] at c0 c1 c2
          have c0' : wr.cell? ⟨w.heap.size, p * 3, none⟩ = some (.int .i64 j) := (hbel.cell (p := ⟨w.heap.size, p * 3, none⟩) hg3).trans c0
          have c1' : wr.cell? ⟨w.heap.size, p * 3 + 1, none⟩ = some (.int .u64 (quoI t xs j)) := (hbel.cell (p := ⟨w.heap.size, p * 3 + 1, none⟩) hg3).trans c1
          have c2' : wr.cell? ⟨w.heap.size, p * 3 + 2, none⟩ = some (.int .u64 (rstI t xs j)) := (hbel.cell (p := ⟨w.heap.size, p * 3 + 2, none⟩) hg3).trans c2
          clear c0 c1 c2
          have hqn := quo_nonneg HN.out ht0 (by have := HL.out; omega) j
          have hql := quo_le t xs ht0 HN.out j hj
          have hjk : j < k := by have := HL.out; omega
          have HRP := Lib.hid (fun q hq => HR.put (q := q) hj hrk hq)
          have HSH : Hid (shareI t xs j = quoI t xs j + if (p : Int) < L then 1 else 0) := by unfold shareI; rw [hrk, HLE.out]; exact rfl
          have hcj : wr.cell? ⟨w3.heap.size, j, none⟩ = some (.int .i64 0) := by rw [HB.cell, HR.2 j hj, if_neg (by omega)]
          have hfj : wr.frozen? ⟨w3.heap.size, j, none⟩ = false := HB.free j
          have hcj' : ∀ o, (wr.alloc o).cell? ⟨w3.heap.size, j, none⟩ = some (.int .i64 0) := fun o => (World.cell?_alloc_lt _ _ _ HB.lt).trans hcj
          have hfj' : ∀ o, (wr.alloc o).frozen? ⟨w3.heap.size, j, none⟩ = false := fun o => (HB.alloc o).free j
          have hlt3 := HB.lt
          clear ej hrk
          generalize quoI t xs j = q at *
          generalize rstI t xs j = r at *
          by_cases hpL : (p : Int) < L
          · have HE : Hid (shareI t xs j = q + 1) := by rw [HSH.out, if_pos hpL]; exact rfl
            go_wp2
            go_roundw
            case rel => exact ⟨p + 1, _, by omega, by go_num, ((HB.put _ _).put _ _).alloc _, by rw [Array.setIfInBounds_setIfInBounds]; exact HRP.out _ HE.out, ((hbel.setCell (Nat.le_refl _) _).setCell (Nat.le_refl _) _).alloc (by have := hbel.size; simpa [World.setCell] using this) _⟩
            case measure => simp [intOf]; omega
          · have HE : Hid (shareI t xs j = q) := by rw [HSH.out, if_neg hpL]; exact Int.add_zero _
            go_wp2
            go_roundw
            case rel => exact ⟨p + 1, _, by omega, by go_num, (HB.put _ _).alloc _, HRP.out _ HE.out, (hbel.setCell (Nat.le_refl _) _).alloc (by have := hbel.size; simpa [World.setCell] using this) _⟩
            case measure => simp [intOf]; omega
        · obtain rfl : p = k := by omega
          have HF : Hid (∀ i, i < xs.length → rs[i]? = some (.int .i64 (shareI t xs i))) := fun i hi => by rw [HR.2 i hi, if_pos (by have := rank_lt (rstI t xs) xs.length i hi; have := HL.out; omega)]
          go_wp2
          go_ret2
          exact ⟨w3.heap.size, rfl, hbel3.size, HB.own_ints hbel3.size (by rw [HR.1, HL.out]) (by rw [shareL_length, HL.out]) (by omega) (fun i hi => by rw [HF.out i (by have := HL.out; omega), shareL_get t xs i (by have := HL.out; omega)]), hbel3.trans (hbel.mono hbel3.size)⟩
set_option maxHeartbeats 1000000 in
theorem share_okz (t : Int) (A : Option Addr) (n c : Nat) (xs : List Int) (w : World) (h : Ints w A n xs) (hn : n ≤ 1000) (h0 : chkErr t xs = 0) (ht0 : 0 ≤ t) (ht : t ≤ 1000000000000) (ha : AllIn xs) (hs : xs.sum = 0) (HWs : Hid (wsum xs = n)) :
    Calls Tryz.prog 270 #[.int .i64 t, .slice A n c] w fun e w' => ∃ g, e = .returned (.tuple #[.slice (some ⟨g, 0, none⟩) n n, .int .i64 0]) ∧ w.heap.size ≤ g ∧ w'.ownsRow w.heap.size 3 1 (.slice (some ⟨g, 0, none⟩) n n) n ((shareL t xs).map (Value.int .i64)) ∧ Below w.heap.size w w' := by
  have HC := Lib.hid (fun w h => check_any t A n c xs w h (by omega))
  rw [h0] at HC
  clear h0
  have HS := Lib.hid (fun w h => sumOf_any A n c xs w h hn ha)
  obtain ⟨C1, HC1, hmk1⟩ := make_any (P := Tryz.prog) 470 473 _ 3 24 n Tryz.underlying470 infoP (by omega) (by omega)
  obtain ⟨C2, HC2, hmk2⟩ := make_any (P := Tryz.prog) 24 3 _ 1 8 n Tryz.underlying24 infoI (by omega) (by omega)
  have HN := Lib.hid (show NonNeg xs from fun i => (ha i).1)
  have HL := Lib.hid h.1
  rw [hs] at HS
  have HSs := Lib.hid hs
  clear hs
  clear ha
  go_enter Tryz.func270, Tryz.ntmps270
  go_wp2_with (first | (go_at_call 268; refine (HC.out _ h).mono ?_; rintro e w' ⟨rfl, rfl⟩) | (go_at_call 269; refine (HS.out _ h).mono ?_; rintro e w' ⟨rfl, rfl⟩))
  go_loopw [9, 38] (fun l i wr => ∃ (k : Nat) (cs : Array Value), k ≤ n ∧ i = .int .i64 k ∧ l = .int .i64 (t - sumN k (quoI t xs)) ∧ Bl wr w.heap.size 473 cs ∧ PorRow cs t xs k ∧ Below w.heap.size w wr) (fun _ i _ => n - (intOf i).toNat)
  case atStart => exact ⟨0, C1, Nat.zero_le _, rfl, by simp [sumN_zero], Bl.new _ _ _, ⟨by rw [HC1.out.1, HL.out], fun j hj => absurd hj (by omega)⟩, (Below.refl _ _).alloc (Nat.le_refl _) _⟩
  case round =>
    obtain ⟨k, cs, hk, rfl, rfl, HB, HP, hbel⟩ := hrel
    by_cases hlt : k < n
    · obtain ⟨b, off, x, hA, hbw, hc, HX⟩ := h.get hlt
      subst hA
      have hc1 : wr.cell? ⟨b, off + k, none⟩ = some (.int .i64 x) := (hbel.cell (p := ⟨b, off + k, none⟩) hbw).trans hc
      have hqn := quo_nonneg HN.out ht0 (by have := HL.out; omega) k
      have hql := quo_le t xs ht0 HN.out k (by have := HL.out; omega)
      have hwt : wt xs k = 1 := by simp [wt, HSs.out]
      have HMD := Lib.hid (fun w => mulDiv_any t 1 n 0 w ht0 (by omega) (by omega) (by omega) (by omega) (by omega))
      have HMM := Lib.hid (fun w => mulMod_any t 1 n w ht0 (by omega) (by omega) (by omega) (by omega) (by omega))
      have eq1 : t * 1 / n = quoI t xs k := by unfold quoI; rw [hwt, HWs.out]
      have eq2 : t * 1 % n = rstI t xs k := by unfold rstI; rw [hwt, HWs.out]
      rw [divOut_down _ _ (Int.mul_nonneg ht0 (by omega)) (by omega) (by rw [eq1]; omega), eq1] at HMD
      rw [eq2] at HMM
      have HP' := HP.put (by have := HL.out; omega)
      have HQ := Lib.hid (sumN_succ k (quoI t xs))
      obtain ⟨hb1, hb2⟩ := sum_quo_bounds t xs ht0 HN.out k (by have := HL.out; omega) (by have := HL.out; omega)
      obtain ⟨hb3, hb4⟩ := sum_quo_bounds t xs ht0 HN.out (k + 1) (by have := HL.out; omega) (by have := HL.out; omega)
      rw [HQ.out] at hb3 hb4
      clear eq1 eq2 hwt
      generalize quoI t xs k = q at *
      generalize rstI t xs k = r at *
      generalize sumN k (quoI t xs) = s at *
      go_wp2_with (first | (go_at_call 158; refine (HMD.out _).mono ?_; rintro e w1 ⟨rfl, hbd1⟩) | (go_at_call 325; refine (HMM.out _).mono ?_; rintro e w2 ⟨rfl, hbd2⟩; have HB2 := (HB.keep hbd1).keep hbd2; obtain ⟨⟨v0, c0⟩, ⟨v1, c1⟩, ⟨v2, c2⟩, z0, z1, z2⟩ := HB2.three (k * 3) (by have := HP.1; have := HL.out; omega)))
      go_roundw
      case rel => exact ⟨k + 1, _, by omega, by go_num, by rw [HQ.out]; go_num, ((HB2.put _ _).put _ _).put _ _, HP', ((((hbel.trans (hbd1.mono hbel.size)).trans (hbd2.mono (Nat.le_trans hbel.size hbd1.size))).setCell (Nat.le_refl _) _).setCell (Nat.le_refl _) _).setCell (Nat.le_refl _) _⟩
      case measure => simp [intOf]; omega
    · obtain rfl : k = n := by omega
      have hH : HoldsK encP 3 wr w.heap.size 0 (porArr t xs) := holds_porArr t xs wr w.heap.size (fun j hj => by
        have := HP.2 j (by have := HL.out; omega)
        exact ⟨(HB.cell _).trans this.1, (HB.cell _).trans this.2.1, (HB.cell _).trans this.2.2⟩) (fun o => HB.free o)
      have hsort := rankSort_any w.heap.size 0 k (porArr t xs) wr hH HB.lt (by rw [porArr_size, HL.out]; omega)
      rw [porArr_size, HL.out] at hsort
      have HSO := Lib.hid hsort
      clear hsort
      go_wp2_with (go_at_call 327; refine HSO.out.mono ?_; rintro e w3 ⟨rfl, d', m, os, hpm, hsd, hw3⟩; have hw3f := sorted_world w wr w.heap.size k m (porArr t xs) d' os hbel (Nat.le_refl _) HB.lt hH hpm.1; rw [← hw3] at hw3f; clear hw3)
      obtain ⟨hbel3, hH3, hg3⟩ := hw3f
      have HPM := Lib.hid hpm
      have HSD := Lib.hid hsd
      have hd' : d'.size = k := by rw [hpm.1, porArr_size, HL.out]
      have HD := Lib.hid hd'
      clear hpm hsd hd' HSO HB HP hbel hH HC HS HC1 hmk1
      have eL : t - sumN k (quoI t xs) = leftI t xs := by unfold leftI; rw [HL.out]
      rw [eL]
      clear eL
      obtain ⟨L, hLe⟩ : ∃ L, leftI t xs = L := ⟨_, rfl⟩
      rw [hLe]
      have HLE := Lib.hid hLe
      clear hLe
      go_loopw [81] (fun i wr2 => ∃ (p : Nat) (rs : Array Value), p ≤ k ∧ i = .int .i64 p ∧ Bl wr2 w3.heap.size 3 rs ∧ ResRow rs t xs p ∧ RowKit.Below w3.heap.size w3 wr2) (fun i _ => k - (intOf i).toNat)
      case atStart => exact ⟨0, C2, Nat.zero_le _, rfl, Bl.new _ _ _, ⟨by rw [HC2.out.1, HL.out]; omega, fun j hj => by rw [HC2.out.2 j (by have := HL.out; omega), if_neg (by omega)]; simp [Value.cells, Nat.mod_one]⟩, (Below.refl _ _).alloc (Nat.le_refl _) _⟩
      case round =>
        obtain ⟨p, rs, hp, rfl, HB, HR, hbel⟩ := hrel
        by_cases hlt2 : p < k
        · obtain ⟨j, hj, ej, hrk⟩ := sorted_at t xs d' (by rw [HL.out]; exact HPM.out) (by rw [HL.out]; exact HSD.out) p (by have := HL.out; omega)
          obtain ⟨c0, c1, c2⟩ := holdsK_cells w3 w.heap.size d' hH3 p (by have := HD.out; omega)
          rw [ej] at c0 c1 c2
          have c0' : wr.cell? ⟨w.heap.size, p * 3, none⟩ = some (.int .i64 j) := (hbel.cell (p := ⟨w.heap.size, p * 3, none⟩) hg3).trans c0
          have c1' : wr.cell? ⟨w.heap.size, p * 3 + 1, none⟩ = some (.int .u64 (quoI t xs j)) := (hbel.cell (p := ⟨w.heap.size, p * 3 + 1, none⟩) hg3).trans c1
          have c2' : wr.cell? ⟨w.heap.size, p * 3 + 2, none⟩ = some (.int .u64 (rstI t xs j)) := (hbel.cell (p := ⟨w.heap.size, p * 3 + 2, none⟩) hg3).trans c2
          clear c0 c1 c2
          have hqn := quo_nonneg HN.out ht0 (by have := HL.out; omega) j
          have hql := quo_le t xs ht0 HN.out j hj
          have hjk : j < k := by have := HL.out; omega
          have HRP := Lib.hid (fun q hq => HR.put (q := q) hj hrk hq)
          have HSH : Hid (shareI t xs j = quoI t xs j + if (p : Int) < L then 1 else 0) := by unfold shareI; rw [hrk, HLE.out]; exact rfl
          have hcj : wr.cell? ⟨w3.heap.size, j, none⟩ = some (.int .i64 0) := by rw [HB.cell, HR.2 j hj, if_neg (by omega)]
          have hfj : wr.frozen? ⟨w3.heap.size, j, none⟩ = false := HB.free j
          have hcj' : ∀ o, (wr.alloc o).cell? ⟨w3.heap.size, j, none⟩ = some (.int .i64 0) := fun o => (World.cell?_alloc_lt _ _ _ HB.lt).trans hcj
          have hfj' : ∀ o, (wr.alloc o).frozen? ⟨w3.heap.size, j, none⟩ = false := fun o => (HB.alloc o).free j
          have hlt3 := HB.lt
          clear ej hrk
          generalize quoI t xs j = q at *
          generalize rstI t xs j = r at *
          by_cases hpL : (p : Int) < L
          · have HE : Hid (shareI t xs j = q + 1) := by rw [HSH.out, if_pos hpL]; exact rfl
            go_wp2
            go_roundw
            case rel => exact ⟨p + 1, _, by omega, by go_num, ((HB.put _ _).put _ _).alloc _, by rw [Array.setIfInBounds_setIfInBounds]; exact HRP.out _ HE.out, ((hbel.setCell (Nat.le_refl _) _).setCell (Nat.le_refl _) _).alloc (by have := hbel.size; simpa [World.setCell] using this) _⟩
            case measure => simp [intOf]; omega
          · have HE : Hid (shareI t xs j = q) := by rw [HSH.out, if_neg hpL]; exact Int.add_zero _
            go_wp2
            go_roundw
            case rel => exact ⟨p + 1, _, by omega, by go_num, (HB.put _ _).alloc _, HRP.out _ HE.out, (hbel.setCell (Nat.le_refl _) _).alloc (by have := hbel.size; simpa [World.setCell] using this) _⟩
            case measure => simp [intOf]; omega
        · obtain rfl : p = k := by omega
          have HF : Hid (∀ i, i < xs.length → rs[i]? = some (.int .i64 (shareI t xs i))) := fun i hi => by rw [HR.2 i hi, if_pos (by have := rank_lt (rstI t xs) xs.length i hi; have := HL.out; omega)]
          go_wp2
          go_ret2
          exact ⟨w3.heap.size, rfl, hbel3.size, HB.own_ints hbel3.size (by rw [HR.1, HL.out]) (by rw [shareL_length, HL.out]) (by omega) (fun i hi => by rw [HF.out i (by have := HL.out; omega), shareL_get t xs i (by have := HL.out; omega)]), hbel3.trans (hbel.mono hbel3.size)⟩
end Go.Proofs.YtdbcbbiplkikcaaGreat

namespace Go.Proofs.YtdbcbbiplkikcaaGreat
open Go.RowKit
set_option linter.unusedVariables false

def SlRes (w : World) (er : Int) (out : List Int) (e : Ending) (w' : World) : Prop :=
  ∃ A n c, e = .returned (.tuple #[.slice A n c, .int .i64 er]) ∧ w'.ownsRow w.heap.size 3 1 (.slice A n c) n (out.map (Value.int .i64)) ∧ RowKit.Below w.heap.size w w'

def shareOut (t : Int) (ws : List Int) : List Int := if chkErr t ws = 0 then shareL t ws else []

theorem own_nil (w : World) (b : Nat) (T : TypeId) : w.ownsRow b T 1 (.slice none 0 0) 0 ([].map (Value.int .i64)) := ⟨by simp, .inl ⟨rfl, rfl⟩⟩

theorem chk_zero {t : Int} {ws : List Int} (h : chkErr t ws = 0) : ws.length ≤ 1000 ∧ 0 ≤ t ∧ t ≤ 1000000000000 ∧ AllIn ws ∧ (ws.length = 0 → t = 0) := by
  unfold chkErr at h
  split at h
  · omega
  · split at h
    · omega
    · split at h
      · rename_i h3
        split at h
        · omega
        · exact ⟨by omega, by omega, by omega, h3, by omega⟩
      · omega

theorem share_any (t : Int) (A : Option Addr) (n c : Nat) (xs : List Int) (w : World) (h : Ints w A n xs) (hm : n ≤ 9223372036854775807) :
    Calls Tryz.prog 270 #[.int .i64 t, .slice A n c] w (SlRes w (chkErr t xs) (shareOut t xs)) := by
  by_cases he : chkErr t xs = 0
  · obtain ⟨h1, h2, h3, h4, h5⟩ := chk_zero he
    have hl := h.1
    have hN : NonNeg xs := fun i => (h4 i).1
    unfold shareOut
    rw [if_pos he, he]
    by_cases hs : xs.sum = 0
    · refine (share_okz t A n c xs w h (by omega) he h2 h3 h4 hs (Lib.hid (by rw [← hl]; simp [wsum, hs]))).mono ?_
      rintro e w' ⟨g, rfl, _, ho, hb⟩
      exact ⟨_, _, _, rfl, ho, hb⟩
    · have hw : wsum xs = xs.sum := by simp [wsum, hs]
      have hp := sum_nonneg hN
      have hb := (sum_take_bound xs 1000000000000 h4 xs.length (Nat.le_refl _)).2
      rw [List.take_length] at hb
      refine (share_ok t A n c xs w h (by omega) he h2 h3 h4 hs xs.sum rfl hw (by omega) (by omega)).mono ?_
      rintro e w' ⟨g, rfl, _, ho, hb⟩
      exact ⟨_, _, _, rfl, ho, hb⟩
  · unfold shareOut
    rw [if_neg he]
    refine (share_err t A n c xs w h hm he).mono ?_
    rintro e w' ⟨rfl, rfl⟩
    exact ⟨_, _, _, rfl, own_nil _ _ _, Below.refl _ _⟩

end Go.Proofs.YtdbcbbiplkikcaaGreat

namespace Go.Proofs.YtdbcbbiplkikcaaGreat
open Go.RowKit
set_option linter.unusedVariables false

def PRow (cs : Array Value) (n : Nat) (f : Nat → Int) : Prop := n ≤ cs.size ∧ ∀ j, j < n → cs[j]? = some (.int .i64 (f j))
section
variable {cs : Array Value} {n : Nat} {f g : Nat → Int}
theorem PRow.congr (h : PRow cs n f) (e : ∀ j, j < n → f j = g j) : PRow cs n g := ⟨h.1, fun j hj => by rw [h.2 j hj, e j hj]⟩
theorem PRow.set (h : PRow cs n f) (i : Nat) (v : Int) (hi : i < n) (e : ∀ j, j < n → g j = if j = i then v else f j) : PRow (cs.setIfInBounds i (.int .i64 v)) n g := by
  refine ⟨by simpa using h.1, fun j hj => ?_⟩
  have h1 := h.1
  rw [Array.getElem?_setIfInBounds, e j hj]
  by_cases e2 : i = j
  · subst e2
    rw [if_pos rfl, if_pos (by omega), if_pos rfl]
  · rw [if_neg e2, if_neg (fun x => e2 x.symm), h.2 j hj]
theorem PRow.cell {w : World} {b : Nat} {t : TypeId} (h : PRow cs n f) (hb : Bl w b t cs) {j : Nat} (hj : j < n) : w.cell? ⟨b, j, none⟩ = some (.int .i64 (f j)) := (hb.cell j).trans (h.2 j hj)
theorem PRow.own {w : World} {b base c : Nat} {t : TypeId} (h : PRow cs n f) (hb : Bl w b t cs) (hg : base ≤ b) (hc : cs.size = c) (hm : c ≤ 9223372036854775807) : w.ownsRow base t 1 (.slice (some ⟨b, 0, none⟩) n c) n (((List.range n).map f).map (Value.int .i64)) := by
  have h1 := h.1
  refine ⟨by simp, .inr ⟨b, c, cs, rfl, hg, hb, by omega, by unfold maxLen; omega, by omega, ?_⟩⟩
  apply List.ext_getElem?
  intro i
  by_cases hi : i < n
  · rw [List.getElem?_take, if_pos (by omega), Array.getElem?_toList, h.2 i hi]
    simp [hi]
  · rw [List.getElem?_eq_none (by simp; omega), List.getElem?_eq_none (by simp; omega)]
end

theorem own_len {w : World} {base : Nat} {t : TypeId} {v : Value} {n : Nat} {xs : List Int} (h : w.ownsRow base t 1 v n (xs.map (Value.int .i64))) : xs.length = n := by have := h.1; simpa using this

theorem own_mono {w : World} {base base' : Nat} {e : TypeId} {size : Nat} {v : Value} {n : Nat} {xs : List Value} (h : w.ownsRow base e size v n xs) (hb : base' ≤ base) : w.ownsRow base' e size v n xs := by
  refine ⟨h.1, ?_⟩
  rcases h.2 with h1 | ⟨g, cap, cur, h1, h2, h3⟩
  · exact .inl h1
  · exact .inr ⟨g, cap, cur, h1, by omega, h3⟩

theorem tmod_bounds (x m : Int) (hm : 0 < m) : -m < x.tmod m ∧ x.tmod m < m := by
  rcases Int.lt_or_le x 0 with h | h
  · have h1 : x.tmod m = -((-x).tmod m) := by rw [Int.neg_tmod, Int.neg_neg]
    have h2 : (-x).tmod m = (-x) % m := Int.tmod_eq_emod_of_nonneg (by omega)
    have h3 := Int.emod_nonneg (-x) (show m ≠ 0 by omega)
    have h4 := Int.emod_lt_of_pos (-x) hm
    omega
  · have h2 : x.tmod m = x % m := Int.tmod_eq_emod_of_nonneg h
    have h3 := Int.emod_nonneg x (show m ≠ 0 by omega)
    have h4 := Int.emod_lt_of_pos x hm
    omega
end Go.Proofs.YtdbcbbiplkikcaaGreat

namespace Go.Proofs.YtdbcbbiplkikcaaGreat
open Go.RowKit
set_option linter.unusedVariables false

theorem chk_ok {t : Int} {ws : List Int} (h0 : 0 ≤ t) (h1 : t ≤ 1000000000000) (hl : ws.length ≤ 1000) (hn : 0 < ws.length) (ha : AllIn ws) : chkErr t ws = 0 := by
  unfold chkErr
  rw [if_neg (by omega), if_neg (by omega), if_pos ha, if_neg (by omega)]

end Go.Proofs.YtdbcbbiplkikcaaGreat

namespace Go.Proofs.YtdbcbbiplkikcaaGreat
open Go.RowKit
set_option linter.unusedVariables false

theorem within_val (x k : Int) (hk : 0 < k) : (x.tmod k + k) % k = x % k := by
  rcases Int.lt_or_le x 0 with h | h
  · have h1 : x.tmod k = -((-x) % k) := by rw [← Int.tmod_eq_emod_of_nonneg (by omega), Int.neg_tmod, Int.neg_neg]
    have h2 := Int.mul_ediv_add_emod (-x) k
    rw [h1]
    have h3 : x = -((-x) % k) + k * (-((-x) / k)) := by rw [Int.mul_neg]; omega
    conv => rhs; rw [h3, Int.add_mul_emod_self_left]
    rw [Int.add_emod_right]
  · rw [Int.tmod_eq_emod_of_nonneg h, Int.add_emod_right, Int.emod_emod_of_dvd _ (Int.dvd_refl k)]

set_option maxHeartbeats 1000000 in
theorem within_any (x k : Int) (w : World) (hk : 0 < k) (hk' : k ≤ 4000000000000000000) :
    Calls Tryz.prog 5 #[.int .i64 x, .int .i64 k] w fun e w' => e = .returned (.int .i64 (x % k)) ∧ w = w' := by
  have hb := tmod_bounds x k hk
  have E := Lib.hid (within_val x k hk)
  have bk : (k == 0) = false := by simp; omega
  obtain ⟨y, hy⟩ : ∃ y, x.tmod k = y := ⟨_, rfl⟩
  rw [hy] at hb E
  go_enter Tryz.func5, Tryz.ntmps5
  go_wp2
  go_ret
  exact ⟨ret_int' E.out, rfl⟩

theorem quiet_left {P : Program} {f : FuncId} {args : Array Value} {w : World} {n : Nat} {v : Value}
    (h : Calls P f args (w.drewN n) fun e w' => e = .returned v ∧ w.drewN n = w') : Calls P f args (w.drewN n) fun e w'' => e = .returned v ∧ ∃ m, w'' = w.drewN m :=
  h.mono fun _ _ ⟨he, hm⟩ => ⟨he, n, hm.symm⟩

structure Only (g : Nat) (w w' : World) : Prop where
  os : w'.os = w.os
  tape : w'.tape = w.tape
  output : w'.output = w.output
  size : w'.heap.size = w.heap.size
  block : ∀ k, k ≠ g → w'.heap[k]? = w.heap[k]?
section
variable {g : Nat} {w w' w'' : World}
theorem Only.refl (g : Nat) (w : World) : Only g w w := ⟨rfl, rfl, rfl, rfl, fun _ _ => rfl⟩
theorem Only.trans (h : Only g w w') (k : Only g w' w'') : Only g w w'' := ⟨k.os.trans h.os, k.tape.trans h.tape, k.output.trans h.output, k.size.trans h.size, fun i hi => (k.block i hi).trans (h.block i hi)⟩
theorem Only.drewN (h : Only g w w') (n : Nat) : Only g w (w'.drewN n) := ⟨h.os, h.tape, h.output, h.size, h.block⟩
theorem Only.setCell (h : Only g w w') (o : Nat) (v : Value) : Only g w (w'.setCell ⟨g, o, none⟩ v) :=
  ⟨h.os, h.tape, h.output, by simp [World.setCell, h.size], fun k hk => (Below.heap_setCell w' ⟨g, o, none⟩ v k hk).trans (h.block k hk)⟩
theorem Only.below (h : Only g w w') {B : Nat} (hB : B ≤ g) : RowKit.Below B w w' := ⟨h.os, h.tape, h.output, by rw [h.size]; exact Nat.le_refl _, fun k hk => h.block k (by omega)⟩
theorem Only.bl (h : Only g w w') {b : Nat} {t : TypeId} {cs : Array Value} (hb : Bl w b t cs) (hne : b ≠ g) : Bl w' b t cs := (h.block b hne).trans hb
end

def Src (w : World) (g : Nat) (A : Option Addr) (n c I : Nat) : Prop := Bl w g 79 #[.slice A n c, .int .i64 I]
def nextV (xs : List Int) (n I : Nat) (k : Int) : Int := if I < n then xs.getD I 0 % k else 0
def nextI (n I : Nat) : Nat := if I < n then I + 1 else I
theorem nextV_bounds (xs : List Int) (n I : Nat) (k : Int) (hk : 0 < k) : 0 ≤ nextV xs n I k ∧ nextV xs n I k < k := by
  unfold nextV
  split
  · exact ⟨Int.emod_nonneg _ (by omega), Int.emod_lt_of_pos _ hk⟩
  · omega
theorem nextI_ge (n I : Nat) : I ≤ nextI n I := by unfold nextI; split <;> omega
theorem nextI_le (n I : Nat) (h : I ≤ n) : nextI n I ≤ n := by unfold nextI; split <;> omega
def NextRes (w : World) (g : Nat) (A : Option Addr) (n c : Nat) (v : Int) (I' : Nat) (e : Ending) (w' : World) : Prop := e = .returned (.int .i64 v) ∧ Only g w w' ∧ Src w' g A n c I'

set_option maxRecDepth 100000 in
set_option maxHeartbeats 2000000 in
theorem next_any (g : Nat) (A : Option Addr) (n c I : Nat) (xs : List Int) (k : Int) (w0 w : World) (hS : Src w g A n c I) (hI : Ints w0 A n xs) (hb : RowKit.Below w0.heap.size w0 w) (hg : w0.heap.size ≤ g) (hn : n ≤ 1000000) (hk : 0 < k) (hk' : k ≤ 4000000000000000000) :
    Calls Tryz.prog 27 #[.pointer (some ⟨g, 0, none⟩), .int .i64 k] w (NextRes w g A n c (nextV xs n I k) (nextI n I)) := by
  have c0 : w.cell? ⟨g, 0, none⟩ = some (.slice A n c) := hS.cell 0
  have c1 : w.cell? ⟨g, 1, none⟩ = some (.int .i64 I) := hS.cell 1
  have f1 : w.frozen? ⟨g, 1, none⟩ = false := hS.free 1
  by_cases hlt : I < n
  · have eV : nextV xs n I k = xs.getD I 0 % k := by unfold nextV; rw [if_pos hlt]
    have eI : nextI n I = I + 1 := by unfold nextI; rw [if_pos hlt]
    rw [eV, eI]
    obtain ⟨b, off, x, rfl, hbl, hx, HX⟩ := hI.get hlt
    rw [HX.out]
    have hx' : w.cell? ⟨b, off + I, none⟩ = some (.int .i64 x) := (hb.cell (p := ⟨b, off + I, none⟩) hbl).trans hx
    have hd : decide ((n : Int) ≤ (I : Int)) = false := by simp; omega
    have hne : b ≠ g := by omega
    have HW := Lib.hid (fun w => within_any x k w hk hk')
    have i1 : (0 : Int) ≤ (I : Int) := by omega
    have i2 : (I : Int) < (n : Int) := by omega
    have u1 : IntKind.i64.wrap ((I : Int) + 1) = (I : Int) + 1 := IntWalk.i64_in _ (by omega)
    have u2 : IntKind.i64.wrap ((I : Int) + 1 - 1) = (I : Int) := (IntWalk.i64_in _ (by omega)).trans (by omega)
    have u3 : IntKind.i64.wrap (I : Int) = (I : Int) := IntWalk.i64_in _ (by omega)
    clear eV eI hx
    go_enter Tryz.func27, Tryz.ntmps27
    go_wp2
    go_quiet (fail)
    go_wp2_with fail
    have hS1 : Bl ((w.drewN nq).setCell ⟨g, 1, none⟩ (.int .i64 ((I : Int) + 1))) g 79 #[.slice (some ⟨b, off, none⟩) n c, .int .i64 ((I : Int) + 1)] := by simpa using (hS.drewN nq).put 1 (.int .i64 ((I : Int) + 1))
    have hO1 := ((Only.refl g w).drewN nq).setCell 1 (.int .i64 ((I : Int) + 1))
    have hx1 : ((w.drewN nq).setCell ⟨g, 1, none⟩ (.int .i64 ((I : Int) + 1))).cell? ⟨b, off + I, none⟩ = some (.int .i64 x) := (World.cell?_of_block (hO1.block b hne)).trans hx'
    generalize (w.drewN nq).setCell ⟨g, 1, none⟩ (.int .i64 ((I : Int) + 1)) = W at *
    have e0 : W.cell? ⟨g, 0, none⟩ = some (.slice (some ⟨b, off, none⟩) n c) := hS1.cell 0
    have e1 : W.cell? ⟨g, 1, none⟩ = some (.int .i64 ((I : Int) + 1)) := hS1.cell 1
    clear c0 c1 f1 hx'
    go_quiet ((go_at_call 5; exact quiet_left (HW.out _)))
    go_wp2
    go_ret
    exact ⟨rfl, hO1.drewN _, by show Bl _ _ _ _; rw [Int.natCast_add]; exact hS1.drewN _⟩
  · have eV : nextV xs n I k = 0 := by unfold nextV; rw [if_neg hlt]
    have eI : nextI n I = I := by unfold nextI; rw [if_neg hlt]
    rw [eV, eI]
    have hd : decide ((n : Int) ≤ (I : Int)) = true := by simp; omega
    go_enter Tryz.func27, Tryz.ntmps27
    go_wp2
    go_quiet (fail)
    go_wp2
    go_ret
    exact ⟨rfl, (Only.refl _ _).drewN _, hS.drewN _⟩
def CutRes (w : World) (A : Option Addr) (n c m : Nat) (xs : List Int) (e : Ending) (w' : World) : Prop := e = .returned (.slice A (min n m) c) ∧ w = w'

set_option maxHeartbeats 1000000 in
theorem cut_any (A : Option Addr) (n c m : Nat) (xs : List Int) (w : World) (h : Ints w A n xs) (hnc : n ≤ c) (hcm : c ≤ 9223372036854775807) (hm0 : 0 < m) (hm : m ≤ 1000000) :
    Calls Tryz.prog 25 #[.slice A n c, .int .i64 m] w (CutRes w A n c m xs) := by
  by_cases hl : m < n
  · obtain ⟨b, off, rfl, _⟩ := h.2 (by omega)
    have e : min n m = m := by omega
    unfold CutRes
    rw [e]
    clear e
    have d : (m : Int) < (n : Int) := by omega
    go_enter Tryz.func25, Tryz.ntmps25
    go_wp2
    go_ret
    exact ⟨rfl, rfl⟩
  · have e : min n m = n := by omega
    unfold CutRes
    rw [e]
    clear e
    go_enter Tryz.func25, Tryz.ntmps25
    go_wp2
    go_ret
    exact ⟨rfl, rfl⟩

def srcI (w : World) (g : Nat) : Nat := match w.cell? ⟨g, 1, none⟩ with | some v => (intOf v).toNat | none => 0
theorem Src.at_ {w : World} {g : Nat} {A : Option Addr} {n c I : Nat} (h : Src w g A n c I) : srcI w g = I := by
  unfold srcI
  rw [show w.cell? ⟨g, 1, none⟩ = some (.int .i64 I) from h.cell 1]
  simp [intOf]

theorem own_apart {w : World} {base : Nat} {e t : TypeId} {size n g : Nat} {v : Value} {xs : List Value} {cs : Array Value} (h : w.ownsRow base e size v n xs) (hg : Bl w g t cs) (hne : e ≠ t) : some g ≠ v.ownBlock := by
  rcases h.2 with ⟨rfl, _⟩ | ⟨g', cap, cur, rfl, _, hh, _⟩
  · simp [Value.ownBlock]
  · intro he
    have : g = g' := by simpa [Value.ownBlock] using he
    subst this
    unfold Bl at hg
    rw [hh] at hg
    injection hg with hg
    injection hg with _ ht
    exact hne ht

section
variable {w w' : World} {base : Nat} {e : TypeId} {size n : Nat} {v : Value} {xs : List Value}
theorem own_of_block (h : w.ownsRow base e size v n xs) (hk : ∀ g, v.ownBlock = some g → w'.heap[g]? = w.heap[g]?) : w'.ownsRow base e size v n xs := by
  refine ⟨h.1, ?_⟩
  rcases h.2 with h1 | ⟨g, cap, cur, h1, h2, h3, h4⟩
  · exact .inl h1
  · exact .inr ⟨g, cap, cur, h1, h2, (hk g (by rw [h1]; rfl)).trans h3, h4⟩
theorem own_drewN (h : w.ownsRow base e size v n xs) (q : Nat) : (w.drewN q).ownsRow base e size v n xs := h
theorem own_lt (h : w.ownsRow base e size v n xs) (g : Nat) (hg : v.ownBlock = some g) : g < w.heap.size := by
  rcases h.2 with ⟨rfl, rfl⟩ | ⟨g', cap, cur, rfl, _, hh, _⟩
  · simp [Value.ownBlock] at hg
  · have : g' = g := by simpa [Value.ownBlock] using hg
    subst this
    rcases Nat.lt_or_ge g' w.heap.size with h4 | h4
    · exact h4
    · rw [Array.getElem?_eq_none h4] at hh; cases hh
theorem own_alloc (h : w.ownsRow base e size v n xs) (o : Obj) : (w.alloc o).ownsRow base e size v n xs :=
  own_of_block h fun g hg => Below.heap_alloc w o g (own_lt h g hg)
theorem own_below (h : w.ownsRow base e size v n xs) (hb : RowKit.Below w.heap.size w w') : w'.ownsRow base e size v n xs :=
  own_of_block h fun g hg => hb.block g (own_lt h g hg)
end
theorem rd_new (w : World) (T : TypeId) (xs : List Value) : Rd (w.alloc (.cells xs.toArray T)) xs.length (some ⟨w.heap.size, 0, none⟩) 1 xs :=
  ⟨by omega, fun _ => ⟨w.heap.size, 0, rfl, by simp, fun j u hu => by rw [Nat.zero_add, (Bl.new w T xs.toArray).cell j]; simpa using hu⟩⟩

end Go.Proofs.YtdbcbbiplkikcaaGreat

namespace Go.Proofs.YtdbcbbiplkikcaaGreat
open Go.RowKit
set_option linter.unusedVariables false

theorem infoF : (Tryz.prog.info? 122).map (fun i => (i.zero, i.size, i.bytes)) = some (some (.agg #[.int .i64 0, .int .i64 0, .int .i64 0, .int .i64 0, .int .i64 0]), 5, 40) := by kernel_rfl
theorem own_frow {w : World} {base n c : Nat} {A : Option Addr} {xs : List Fct} (h : w.ownsRow base 122 5 (.slice A n c) n (flat encF xs)) (hl : xs.length = n) (hn : 0 < n) :
    ∃ g, A = some ⟨g, 0, none⟩ ∧ base ≤ g ∧ FRow w g n (c * 5) (fun i => xs[i]!) ∧ n ≤ c ∧ c ≤ maxLen := by
  rcases h.2 with ⟨_, h0⟩ | ⟨g, cap, cur, hv, hb, hh, h1, h2, h3, h4⟩
  · omega
  · injection hv with e1 e2 e3
    subst e3
    refine ⟨g, e1, hb, ⟨cur, hh, h3, fun j hj k hk => ?_⟩, h1, h2⟩
    have := flat_get encF_len xs j k (by omega) hk
    rw [← h4, List.getElem?_take, if_pos (by omega), Array.getElem?_toList] at this
    exact this
theorem frow_own {w : World} {base g n c : Nat} {f : Nat → Fct} (h : FRow w g n (c * 5) f) (hb : base ≤ g) (hn : n ≤ c) (hc : c ≤ maxLen) : w.ownsRow base 122 5 (.slice (some ⟨g, 0, none⟩) n c) n (flat encF ((List.range n).map f)) := by
  obtain ⟨arr, h1, h2, h3⟩ := h
  have hfl := flat_length encF_len ((List.range n).map f)
  rw [List.length_map, List.length_range] at hfl
  refine ⟨hfl, .inr ⟨g, c, arr, rfl, hb, h1, hn, hc, h2, ?_⟩⟩
  apply List.ext_getElem?
  intro i
  rw [List.getElem?_take]
  by_cases hi : i < n * 5
  · have e1 : i / 5 * 5 + i % 5 = i := by omega
    have hj : i / 5 < n := by omega
    have hc : i % 5 < 5 := by omega
    have h1 := h3 (i / 5) hj (i % 5) hc
    have h2 := flat_get encF_len ((List.range n).map f) (i / 5) (i % 5) (by simpa using hj) hc
    rw [e1] at h1 h2
    rw [if_pos hi, Array.getElem?_toList, h1, h2]
    congr 2
    simp [hj]
  · rw [if_neg hi, List.getElem?_eq_none (by omega)]
theorem range_get (xs : List Fct) (n : Nat) (h : xs.length = n) : (List.range n).map (fun i => xs[i]!) = xs := by
  apply List.ext_getElem
  · simp [h]
  · intro i h1 h2
    rw [List.getElem_map, List.getElem_range, getElem!_pos xs i h2]
theorem get_range (f : Nat → Fct) (n i : Nat) (h : i < n) : ((List.range n).map f)[i]! = f i := by
  rw [getElem!_pos _ i (by simpa using h), List.getElem_map, List.getElem_range]

/-! ### No element -/
set_option maxHeartbeats 1000000 in
theorem insSort_none (A : Option Addr) (c : Nat) (fv : Value) (w : World) : Calls Tryz.prog 266 #[.slice A 0 c, .int .i64 0, .int .i64 0, fv] w fun e w' => e = .returned (.tuple #[]) ∧ w = w' := by
  go_enter Tryz.func266, Tryz.ntmps266
  go_wp2
  refine wp_loop_rounds 1 ?_
  rw [rounds_succ]
  go_wp2
  go_end0
  exact ⟨rfl, rfl⟩
set_option maxHeartbeats 1000000 in
theorem stable_none (A : Option Addr) (c : Nat) (fv : Value) (w : World) : Calls Tryz.prog 219 #[.slice A 0 c, .int .i64 0, fv] w fun e w' => e = .returned (.tuple #[]) ∧ w = w' := by
  go_enter Tryz.func219, Tryz.ntmps219
  go_wp2
  refine wp_loop_rounds 1 ?_
  rw [rounds_succ]
  go_wp2_with fail
  refine (insSort_none A c fv w).mono ?_
  rintro e w1 ⟨rfl, rfl⟩
  go_wp2
  refine wp_loop_rounds 1 ?_
  rw [rounds_succ]
  go_wp2
  go_end0
  exact ⟨rfl, rfl⟩

def ByDay (ys : List Fct) : Prop := ∀ i j, i < j → j < ys.length → ys[i]!.day ≤ ys[j]!.day
def StabRes (w : World) (base : Nat) (v : Value) (n : Nat) (xs : List Fct) (e : Ending) (w' : World) : Prop := e = .returned (.tuple #[]) ∧ ∃ ys, ys.Perm xs ∧ ByDay ys ∧ w'.ownsRow base 122 5 v n (flat encF ys) ∧ RowKit.Below base w w'

set_option maxHeartbeats 1000000 in
theorem sortStable_any (A : Option Addr) (n c base : Nat) (xs : List Fct) (w : World) (h : w.ownsRow base 122 5 (.slice A n c) n (flat encF xs)) (hl : xs.length = n) (hn : n ≤ 1000) (hb : base ≤ w.heap.size) :
    Calls Tryz.prog 188 #[.slice A n c, .func (.func 189) #[] #[]] w (StabRes w base (.slice A n c) n xs) := by
  have HL := Lib.hid hl
  by_cases h0 : n = 0
  · subst h0
    obtain rfl : xs = [] := List.eq_nil_of_length_eq_zero hl
    have HO := Lib.hid h
    clear h hl
    go_enter Tryz.func188, Tryz.ntmps188
    go_wp2_with fail
    refine (stable_none A c _ w).mono ?_
    rintro e w1 ⟨rfl, rfl⟩
    go_wp2
    go_end0
    exact ⟨rfl, [], List.Perm.refl _, fun i j h1 h2 => absurd h2 (by simp), HO.out, Below.refl _ _⟩
  · obtain ⟨g, rfl, hg, hF, hc1, hc2⟩ := own_frow h hl (by omega)
    have HM := Lib.hid hc2
    have HS := Lib.hid (stable_any g n c (c * 5) _ w hF hn)
    clear h hl hF hc2
    go_enter Tryz.func188, Tryz.ntmps188
    go_wp2_with fail
    refine HS.out.mono ?_
    rintro e w1 ⟨rfl, f', hs, hw, hR, hK⟩
    have HO := Lib.hid (frow_own (base := base) hR hg hc1 HM.out)
    have HP : Hid (((List.range n).map f').Perm xs) := by
      have := hw.perm
      rw [range_get xs n HL.out] at this
      exact this
    have HD : Hid (ByDay ((List.range n).map f')) := fun i j h1 h2 => by
      rw [List.length_map, List.length_range] at h2
      rw [get_range _ _ _ (by omega), get_range _ _ _ h2]
      exact hs i j (Nat.zero_le _) h1 h2
    have HB : Hid (RowKit.Below base w w1) := hK.under (Below.refl _ _) hb hg
    clear hs hw hR hK HS
    go_wp2
    go_end0
    exact ⟨rfl, _, HP.out, HD.out, HO.out, HB.out⟩
end Go.Proofs.YtdbcbbiplkikcaaGreat

namespace Go.Proofs.YtdbcbbiplkikcaaGreat
open Go.RowKit
set_option linter.unusedVariables false

theorem Recs.getF {w : World} {A : Option Addr} {n : Nat} {xs : List Fct} (h : Recs encF 5 w A n xs) {i : Nat} (hi : i < n) :
    ∃ b off x, A = some ⟨b, off, none⟩ ∧ b < w.heap.size ∧ w.cell? ⟨b, off + i * 5, none⟩ = some (.int .i64 x.num) ∧ w.cell? ⟨b, off + i * 5 + 1, none⟩ = some (.int .i64 x.kind) ∧ w.cell? ⟨b, off + i * 5 + 2, none⟩ = some (.int .i64 x.day) ∧ w.cell? ⟨b, off + i * 5 + 3, none⟩ = some (.int .i64 x.id) ∧ w.cell? ⟨b, off + i * 5 + 4, none⟩ = some (.int .i64 x.qty) ∧ Hid (xs[i]! = x) := by
  obtain ⟨b, off, e, hlt, hc⟩ := h.at_ hi
  exact ⟨b, off, xs[i]!, e, hlt, hc 0 (by omega), hc 1 (by omega), hc 2 (by omega), hc 3 (by omega), hc 4 (by omega), rfl⟩
def trOf (fs : List Fct) : List Fct := fs.filter (fun f => f.kind == 4)
theorem take_succ_get (fs : List Fct) (k : Nat) (hk : k < fs.length) : fs.take (k + 1) = fs.take k ++ [fs[k]!] := by
  rw [List.take_succ_eq_append_getElem hk, getElem!_pos fs k hk]
theorem trOf_step (fs : List Fct) (k : Nat) (hk : k < fs.length) {x : Fct} (e : fs[k]! = x) : trOf (fs.take (k + 1)) = if x.kind == 4 then trOf (fs.take k) ++ [x] else trOf (fs.take k) := by
  rw [take_succ_get fs k hk, e]
  unfold trOf
  rw [List.filter_append]
  by_cases h : (x.kind == 4) = true
  · rw [if_pos h]; simp [h]
  · rw [if_neg h]; simp [h]
theorem trOf_len (fs : List Fct) : (trOf fs).length ≤ fs.length := List.length_filter_le _ _
theorem own_nilF (w : World) (b : Nat) : w.ownsRow b 122 5 (.slice none 0 0) 0 (flat encF []) := ⟨by simp [flat], .inl ⟨rfl, rfl⟩⟩
def TrRes (w : World) (fs : List Fct) (e : Ending) (w' : World) : Prop := ∃ (B : Option Addr) (m d : Nat) (ys : List Fct), e = .returned (.slice B m d) ∧ ys.Perm (trOf fs) ∧ ByDay ys ∧ ys.length = m ∧ m ≤ fs.length ∧ w'.ownsRow w.heap.size 122 5 (.slice B m d) m (flat encF ys) ∧ RowKit.Below w.heap.size w w'

set_option maxRecDepth 100000 in
set_option maxHeartbeats 4000000 in
theorem tranchesOf_any (A : Option Addr) (n c : Nat) (fs : List Fct) (w : World) (h : Recs encF 5 w A n fs) (hn : n ≤ 1000) :
    Calls Tryz.prog 174 #[.slice A n c] w (TrRes w fs) := by
  have HL := Lib.hid h.1
  go_enter Tryz.func174, Tryz.ntmps174
  go_wp2
  go_loopw [3, 8] (fun t i wx => ∃ (k : Nat) (B : Option Addr) (m d : Nat), k ≤ n ∧ i = .int .i64 k ∧ t = .slice B m d ∧ Hid ((trOf (fs.take k)).length = m) ∧ m ≤ k ∧ wx.ownsRow w.heap.size 122 5 (.slice B m d) m (flat encF (trOf (fs.take k))) ∧ RowKit.Below w.heap.size w wx) (fun _ i _ => n - (intOf i).toNat)
  case atStart => exact ⟨0, none, 0, 0, Nat.zero_le _, rfl, rfl, rfl, Nat.le_refl _, own_nilF _ _, Below.refl _ _⟩
  case round =>
    obtain ⟨k, B, m, d, hk, rfl, rfl, HM, hmk, ho, hb⟩ := hrel
    by_cases hlt : k < n
    · obtain ⟨b, off, x, hA, hbl, c0, c1, c2, c3, c4, HX⟩ := (h.below hb).getF hlt
      subst hA
      have HST := Lib.hid (trOf_step fs k (by have := HL.out; omega) HX.out)
      have HO4 := Lib.hid (own_alloc ho (.cells #[.int .i64 x.num, .int .i64 x.kind, .int .i64 x.day, .int .i64 x.id, .int .i64 x.qty] 122))
      have hb4 : RowKit.Below w.heap.size w (wr.alloc (.cells #[.int .i64 x.num, .int .i64 x.kind, .int .i64 x.day, .int .i64 x.id, .int .i64 x.qty] 122)) := hb.alloc hb.size _
      have hx4 := Bl.new wr 122 #[.int .i64 x.num, .int .i64 x.kind, .int .i64 x.day, .int .i64 x.id, .int .i64 x.qty]
      clear ho
      go_upto_region 5 with (fail)
      clear c0 c1 c2 c3 c4
      have hgw := hb.size
      generalize wr.alloc (.cells #[.int .i64 x.num, .int .i64 x.kind, .int .i64 x.day, .int .i64 x.id, .int .i64 x.qty] 122) = W4 at *
      generalize wr.heap.size = g4 at *
      have q0 : W4.cell? ⟨g4, 0, none⟩ = some (.int .i64 x.num) := hx4.cell 0
      have q1 : W4.cell? ⟨g4, 1, none⟩ = some (.int .i64 x.kind) := hx4.cell 1
      have q2 : W4.cell? ⟨g4, 2, none⟩ = some (.int .i64 x.day) := hx4.cell 2
      have q3 : W4.cell? ⟨g4, 3, none⟩ = some (.int .i64 x.id) := hx4.cell 3
      have q4 : W4.cell? ⟨g4, 4, none⟩ = some (.int .i64 x.qty) := hx4.cell 4
      by_cases g : x.kind = 4
      · have b1 : (x.kind == 4) = true := by simpa using g
        rw [b1, if_pos rfl] at HST
        clear g hb
        have HOE := Lib.hid (own_alloc HO4.out (.cells #[.int .i64 x.num, .int .i64 x.kind, .int .i64 x.day, .int .i64 x.id, .int .i64 x.qty] 122))
        have HRD : Hid (Rd (W4.alloc (.cells #[.int .i64 x.num, .int .i64 x.kind, .int .i64 x.day, .int .i64 x.id, .int .i64 x.qty] 122)) 5 (some ⟨W4.heap.size, 0, none⟩) 1 (encF x)) := rd_new W4 122 (encF x)
        have HON : Hid (∀ u ∈ encF x, u.oneCell' = true) := encF_one x
        have HM1 : Hid (m + 1 ≤ maxLen ∧ (m + 1) * 40 ≤ 140737488355328) := ⟨by unfold maxLen; omega, by omega⟩
        have HBA : Hid (RowKit.Below w.heap.size w (W4.alloc (.cells #[.int .i64 x.num, .int .i64 x.kind, .int .i64 x.day, .int .i64 x.id, .int .i64 x.qty] 122))) := hb4.alloc hb4.size _
        have HOB := Lib.hid (fun j hj => own_base HO4.out j hj)
        go_wp2_with (at_builtin; refine wpList_append_rd _ rfl (.tmp 15) (.tmp 17) 52 rfl w.heap.size 122 _ 5 40 Tryz.underlying52 infoF rfl (by decide) (.slice B m d) m (flat encF (trOf (fs.take k))) rfl HOE.out (some ⟨W4.heap.size, 0, none⟩) 1 _ (encF x) rfl HRD.out HON.out HM1.out.1 HM1.out.2 HBA.out.size ?_; intro v6 w6 ho6 hg6 _; obtain ⟨B6, d6, rfl⟩ := own_slice ho6)
        have HB6 : Hid (RowKit.Below w.heap.size w w6) := HBA.out.grown hg6 HBA.out.size (fun j hj => HOB.out j hj)
        have HO6 : Hid (w6.ownsRow w.heap.size 122 5 (.slice B6 (m + 1) d6) (m + 1) (flat encF (trOf (fs.take (k + 1))))) := by
          show World.ownsRow _ _ _ _ _ _ _
          rw [HST.out, flat_append, flat_one]
          exact ho6
        have HM6 : Hid ((trOf (fs.take (k + 1))).length = m + 1) := by
          show _ = _
          rw [HST.out, List.length_append, HM.out]
          rfl
        clear ho6 hg6
        go_roundw
        case rel => exact ⟨k + 1, B6, m + 1, d6, by omega, by go_num, rfl, HM6, by omega, HO6.out, HB6.out⟩
        case measure => simp [intOf]; omega
      · have b1 : (x.kind == 4) = false := by simpa using g
        rw [b1, if_neg (by simp)] at HST
        clear g hb
        go_wp2_with fail
        go_roundw
        case rel => exact ⟨k + 1, B, m, d, by omega, by go_num, rfl, by show _ = _; rw [HST.out, HM.out], by omega, by rw [HST.out]; exact HO4.out, hb4⟩
        case measure => simp [intOf]; omega
    · obtain rfl : n = k := by omega
      rw [List.take_of_length_le (by have := HL.out; omega)] at ho HM
      have HS := Lib.hid (sortStable_any B m d w.heap.size _ wr ho HM.out (by omega) hb.size)
      have HTL := Lib.hid (trOf_len fs)
      clear ho
      go_wp2_with fail
      refine HS.out.mono ?_
      rintro e w1 ⟨rfl, ys, hp, hd, ho1, hb1⟩
      have HP := Lib.hid hp
      have HD := Lib.hid hd
      have HB1 := Lib.hid (hb.trans hb1)
      have HO1 := Lib.hid ho1
      clear hp hd ho1 hb1 HS
      go_wp2
      go_ret
      exact ⟨B, m, d, ys, rfl, HP.out, HD.out, by rw [HP.out.length_eq, HM.out], by rw [← HM.out]; exact HTL.out, HO1.out, HB1.out⟩
end Go.Proofs.YtdbcbbiplkikcaaGreat

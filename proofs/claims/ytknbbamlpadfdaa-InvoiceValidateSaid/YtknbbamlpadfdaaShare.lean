/-
  Contract of apportion.Share: the shares of the largest remainder, or the error of check. No statement of the seat is proved here. Conditions: the list's length fits.
-/
import Derived.Test.YtknbbamlpadfdaaRank
import Derived.Test.YtknbbamlpadfdaaChk
import Derived.Test.YtknbbamlpadfdaaShareSort
import Derived.StillTailTactics
namespace Go.Proofs.Ytknbbamlpadfdaa
open Go.RowKit Go.Shelf Go.Lib Go.Sort
set_option linter.unusedVariables false

theorem infoP : (Try.prog.info? 78).map (fun i => (i.zero, i.size, i.bytes)) = some (some (.agg #[.int .i64 0, .int .u64 0, .int .u64 0]), 3, 24) := by kernel_rfl
theorem infoI : (Try.prog.info? 3).map (fun i => (i.zero, i.size, i.bytes)) = some (some (.int .i64 0), 1, 8) := by kernel_rfl

theorem ret_share {A B : Value} {a b : Int} (h : a = b) (h2 : A = B) : Ending.returned (.tuple #[A, .int .i64 a]) = .returned (.tuple #[B, .int .i64 b]) := by rw [h, h2]

/-- The portions 0 .. k-1 lie in the list. -/
def PorRow (cs : Array Value) (t : Int) (ws : List Int) (k : Nat) : Prop :=
  cs.size = ws.length * 3 ∧ ∀ j, j < k → cs[j * 3]? = some (.int .i64 j) ∧ cs[j * 3 + 1]? = some (.int .u64 (quoI t ws j)) ∧ cs[j * 3 + 2]? = some (.int .u64 (rstI t ws j))

set_option maxHeartbeats 1000000 in
theorem share_err (t : Int) (A : Option Addr) (n c : Nat) (xs : List Int) (w : World) (h : Ints w A n xs) (hm : n ≤ 9223372036854775807) (he : chkErr t xs ≠ 0) :
    Calls Try.prog 29 #[.int .i64 t, .slice A n c] w fun e w' => e = .returned (.tuple #[.slice none 0 0, .int .i64 (chkErr t xs)]) ∧ w = w' := by
  have HC := Lib.hid (fun w h => check_any t A n c xs w h hm)
  have hb : (chkErr t xs != 0) = true := by simpa using he
  clear he
  generalize chkErr t xs = er at *
  go_enter Try.func29, Try.ntmps29
  go_wp2_with (go_at_call 38; refine (HC.out _ h).mono ?_; rintro e w' ⟨rfl, rfl⟩)
  go_ret2
  exact ⟨rfl, rfl⟩

theorem divOut_down (N c : Int) (hN : 0 ≤ N) (hc : 0 < c) (h : N / c ≤ 18446744073709551615) : divOut N c 0 = (N / c, 0) := by
  have h1 : ¬ c ≤ N / 18446744073709551616 := by
    intro h2
    have h3 : N < (N / c + 1) * c := by
      have := Int.mul_ediv_add_emod N c
      have := Int.emod_lt_of_pos N hc
      rw [Int.add_mul, Int.mul_comm (N / c)]
      omega
    have h4 : (N / c + 1) * c ≤ 18446744073709551616 * c := Int.mul_le_mul_of_nonneg_right (by omega) (by omega)
    omega
  have h2 : ¬ c = 0 := by omega
  simp [divOut, h1, h2, raisedB]

theorem getD_le_sum (ws : List Int) (h : NonNeg ws) (i : Nat) (hi : i < ws.length) : ws.getD i 0 ≤ ws.sum := by
  rw [← sumN_list]
  exact sumN_le_all (f := fun i => ws.getD i 0) (fun i _ => h i) i hi

theorem wt_le_wsum (ws : List Int) (h : NonNeg ws) (i : Nat) (hi : i < ws.length) : wt ws i ≤ wsum ws := by
  unfold wt wsum
  by_cases h0 : ws.sum = 0
  · simp [h0]; omega
  · simp only [h0, if_false]; exact getD_le_sum ws h i hi

theorem quo_le (t : Int) (ws : List Int) (ht : 0 ≤ t) (h : NonNeg ws) (i : Nat) (hi : i < ws.length) : quoI t ws i ≤ t := by
  have h1 := wt_le_wsum ws h i hi
  have h2 := wsum_pos h (by omega)
  unfold quoI
  have h3 : t * wt ws i / wsum ws < t + 1 := by
    rw [Int.ediv_lt_iff_lt_mul h2, Int.add_mul]
    have : t * wt ws i ≤ t * wsum ws := Int.mul_le_mul_of_nonneg_left h1 ht
    omega
  omega

theorem sum_quo_bounds (t : Int) (ws : List Int) (ht : 0 ≤ t) (h : NonNeg ws) (k : Nat) (hk : k ≤ ws.length) (hn : 0 < ws.length) : 0 ≤ sumN k (quoI t ws) ∧ sumN k (quoI t ws) ≤ t := by
  refine ⟨sumN_nonneg fun i _ => quo_nonneg h ht hn i, ?_⟩
  have h1 : ∀ m, sumN k (quoI t ws) ≤ sumN (k + m) (quoI t ws) := by
    intro m
    induction m with
    | zero => exact Int.le_refl _
    | succ m ih => rw [← Nat.add_assoc, sumN_succ]; have := quo_nonneg h ht hn (k + m); omega
  have h2 := h1 (ws.length - k)
  rw [show k + (ws.length - k) = ws.length by omega] at h2
  have h3 := left_nonneg (t := t) h hn
  unfold leftI at h3
  omega

theorem PorRow.put {cs : Array Value} {t : Int} {ws : List Int} {k : Nat} (h : PorRow cs t ws k) (hk : k < ws.length) :
    PorRow (((cs.setIfInBounds (k * 3) (.int .i64 k)).setIfInBounds (k * 3 + 1) (.int .u64 (quoI t ws k))).setIfInBounds (k * 3 + 2) (.int .u64 (rstI t ws k))) t ws (k + 1) := by
  have hs := h.1
  refine ⟨by simpa using hs, fun j hj => ?_⟩
  by_cases e : j = k
  · subst e
    simp [Array.getElem?_setIfInBounds]
    omega
  · have := h.2 j (by omega)
    simp only [Array.getElem?_setIfInBounds, Array.size_setIfInBounds]
    refine ⟨?_, ?_, ?_⟩
    · rw [if_neg (by omega), if_neg (by omega), if_neg (by omega)]; exact this.1
    · rw [if_neg (by omega), if_neg (by omega), if_neg (by omega)]; exact this.2.1
    · rw [if_neg (by omega), if_neg (by omega), if_neg (by omega)]; exact this.2.2

theorem Bl.three {w : World} {g : Nat} {T : TypeId} {cs : Array Value} (h : Bl w g T cs) (o : Nat) (ho : o + 2 < cs.size) :
    (∃ v, w.cell? ⟨g, o, none⟩ = some v) ∧ (∃ v, w.cell? ⟨g, o + 1, none⟩ = some v) ∧ (∃ v, w.cell? ⟨g, o + 2, none⟩ = some v) ∧ w.frozen? ⟨g, o, none⟩ = false ∧ w.frozen? ⟨g, o + 1, none⟩ = false ∧ w.frozen? ⟨g, o + 2, none⟩ = false :=
  ⟨⟨_, (h.cell o).trans (Array.getElem?_eq_getElem (by omega))⟩, ⟨_, (h.cell (o + 1)).trans (Array.getElem?_eq_getElem (by omega))⟩, ⟨_, (h.cell (o + 2)).trans (Array.getElem?_eq_getElem (by omega))⟩, h.free _, h.free _, h.free _⟩

/-- The result after p rounds: whoever's rank is below p has its share. -/
def ResRow (rs : Array Value) (t : Int) (ws : List Int) (p : Nat) : Prop :=
  rs.size = ws.length ∧ ∀ j, j < ws.length → rs[j]? = some (.int .i64 (if rank (rstI t ws) ws.length j < p then shareI t ws j else 0))

theorem ResRow.put {rs : Array Value} {t : Int} {ws : List Int} {p j : Nat} {q : Int} (h : ResRow rs t ws p) (hj : j < ws.length) (hr : rank (rstI t ws) ws.length j = p) (hq : shareI t ws j = q) :
    ResRow (rs.setIfInBounds j (.int .i64 q)) t ws (p + 1) := by
  refine ⟨by simpa using h.1, fun i hi => ?_⟩
  rw [Array.getElem?_setIfInBounds]
  by_cases e : j = i
  · subst e
    rw [if_pos rfl, if_pos (by rw [h.1]; exact hj), if_pos (by omega), hq]
  · rw [if_neg e, h.2 i hi]
    have : rank (rstI t ws) ws.length i ≠ p := fun e2 => e (rank_inj (rstI t ws) ws.length j i hj hi (by omega))
    by_cases h2 : rank (rstI t ws) ws.length i < p
    · rw [if_pos h2, if_pos (by omega)]
    · rw [if_neg h2, if_neg (by omega)]

set_option maxHeartbeats 1000000 in
theorem share_ok (t : Int) (A : Option Addr) (n c : Nat) (xs : List Int) (w : World) (h : Ints w A n xs) (hn : n ≤ 1000) (h0 : chkErr t xs = 0) (ht0 : 0 ≤ t) (ht : t ≤ 1000000000000) (ha : AllIn xs) (hs : xs.sum ≠ 0) (W : Int) (HW : Hid (xs.sum = W)) (HWs : Hid (wsum xs = W)) (hW : 0 < W) (hW' : W ≤ 1000000000000000) :
    Calls Try.prog 29 #[.int .i64 t, .slice A n c] w fun e w' => ∃ g, e = .returned (.tuple #[.slice (some ⟨g, 0, none⟩) n n, .int .i64 0]) ∧ w.heap.size ≤ g ∧ w'.ownsRow w.heap.size 3 1 (.slice (some ⟨g, 0, none⟩) n n) n ((shareL t xs).map (Value.int .i64)) ∧ Below w.heap.size w w' := by
  have HC := Lib.hid (fun w h => check_any t A n c xs w h (by omega))
  rw [h0] at HC
  clear h0
  have HS := Lib.hid (fun w h => sumOf_any A n c xs w h hn ha)
  obtain ⟨C1, HC1, hmk1⟩ := make_any (P := Try.prog) 72 78 _ 3 24 n Try.underlying72 infoP (by omega) (by omega)
  obtain ⟨C2, HC2, hmk2⟩ := make_any (P := Try.prog) 26 3 _ 1 8 n Try.underlying26 infoI (by omega) (by omega)
  have HN := Lib.hid (show NonNeg xs from fun i => (ha i).1)
  have HL := Lib.hid h.1
  rw [HW.out] at HS
  have hb : (W == 0) = false := by simp; omega
  clear ha
  go_enter Try.func29, Try.ntmps29
  go_wp2_with (first | (go_at_call 38; refine (HC.out _ h).mono ?_; rintro e w' ⟨rfl, rfl⟩) | (go_at_call 39; refine (HS.out _ h).mono ?_; rintro e w' ⟨rfl, rfl⟩))
  go_loopw [9, 38] (fun l i wr => ∃ (k : Nat) (cs : Array Value), k ≤ n ∧ i = .int .i64 k ∧ l = .int .i64 (t - sumN k (quoI t xs)) ∧ Bl wr w.heap.size 78 cs ∧ PorRow cs t xs k ∧ Below w.heap.size w wr) (fun _ i _ => n - (intOf i).toNat)
  case atStart => exact ⟨0, C1, Nat.zero_le _, rfl, by simp [sumN_zero], Bl.new _ _ _, ⟨by rw [HC1.out.1, HL.out], fun j hj => absurd hj (by omega)⟩, (Below.refl _ _).alloc (Nat.le_refl _) _⟩
  case round =>
    obtain ⟨k, cs, hk, rfl, rfl, HB, HP, hbel⟩ := hrel
    by_cases hlt : k < n
    · obtain ⟨b, off, x, hA, hbw, hc, HX⟩ := h.get hlt
      subst hA
      have hc1 : wr.cell? ⟨b, off + k, none⟩ = some (.int .i64 x) := (hbel.cell (p := ⟨b, off + k, none⟩) hbw).trans hc
      have hqn := quo_nonneg HN.out ht0 (by have := HL.out; omega) k
      have hql := quo_le t xs ht0 HN.out k (by have := HL.out; omega)
      have hx0 : 0 ≤ x := by have := HN.out k; rw [HX.out] at this; exact this
      have hxW : x ≤ W := by have := getD_le_sum xs HN.out k (by have := HL.out; omega); rw [HX.out, HW.out] at this; exact this
      have hwt : wt xs k = x := by rw [← HX.out]; simp [wt, hs]
      have HMD := Lib.hid (fun w => mulDiv_any t x W 0 w ht0 (by omega) hx0 (by omega) (by omega) (by omega))
      have HMM := Lib.hid (fun w => mulMod_any t x W w ht0 (by omega) hx0 (by omega) (by omega) (by omega))
      have eq1 : t * x / W = quoI t xs k := by unfold quoI; rw [hwt, HWs.out]
      have eq2 : t * x % W = rstI t xs k := by unfold rstI; rw [hwt, HWs.out]
      rw [divOut_down _ _ (Int.mul_nonneg ht0 hx0) (by omega) (by rw [eq1]; omega), eq1] at HMD
      rw [eq2] at HMM
      have HP' := HP.put (by have := HL.out; omega)
      have HQ := Lib.hid (sumN_succ k (quoI t xs))
      obtain ⟨hb1, hb2⟩ := sum_quo_bounds t xs ht0 HN.out k (by have := HL.out; omega) (by have := HL.out; omega)
      obtain ⟨hb3, hb4⟩ := sum_quo_bounds t xs ht0 HN.out (k + 1) (by have := HL.out; omega) (by have := HL.out; omega)
      rw [HQ.out] at hb3 hb4
      clear eq1 eq2 hwt
      generalize quoI t xs k = q at *
      generalize rstI t xs k = r at *
      generalize sumN k (quoI t xs) = s at *
      go_wp2_with (first | (go_at_call 40; refine (HMD.out _).mono ?_; rintro e w1 ⟨rfl, hbd1⟩) | (go_at_call 41; refine (HMM.out _).mono ?_; rintro e w2 ⟨rfl, hbd2⟩; have HB2 := (HB.keep hbd1).keep hbd2; obtain ⟨⟨v0, c0⟩, ⟨v1, c1⟩, ⟨v2, c2⟩, z0, z1, z2⟩ := HB2.three (k * 3) (by have := HP.1; have := HL.out; omega)))
      go_roundw
      case rel => exact ⟨k + 1, _, by omega, by go_num, by rw [HQ.out]; go_num, ((HB2.put _ _).put _ _).put _ _, HP', ((((hbel.trans (hbd1.mono hbel.size)).trans (hbd2.mono (Nat.le_trans hbel.size hbd1.size))).setCell (Nat.le_refl _) _).setCell (Nat.le_refl _) _).setCell (Nat.le_refl _) _⟩
      case measure => simp [intOf]; omega
    · obtain rfl : k = n := by omega
      have hH : HoldsK encP 3 wr w.heap.size 0 (porArr t xs) := holds_porArr t xs wr w.heap.size (fun j hj => by
        have := HP.2 j (by have := HL.out; omega)
        exact ⟨(HB.cell _).trans this.1, (HB.cell _).trans this.2.1, (HB.cell _).trans this.2.2⟩) (fun o => HB.free o)
      have hsort := rankSort_any w.heap.size 0 k (porArr t xs) wr hH HB.lt (by rw [porArr_size, HL.out]; omega)
      rw [porArr_size, HL.out] at hsort
      have HSO := Lib.hid hsort
      clear hsort
      go_wp2_with (go_at_call 43; refine HSO.out.mono ?_; rintro e w3 ⟨rfl, d', m, os, hpm, hsd, hw3⟩; have hw3f := sorted_world w wr w.heap.size k m (porArr t xs) d' os hbel (Nat.le_refl _) HB.lt hH hpm.1; rw [← hw3] at hw3f; clear hw3)
      obtain ⟨hbel3, hH3, hg3⟩ := hw3f
      have HPM := Lib.hid hpm
      have HSD := Lib.hid hsd
      have hd' : d'.size = k := by rw [hpm.1, porArr_size, HL.out]
      have HD := Lib.hid hd'
      clear hpm hsd hd' HSO HB HP hbel hH HC HS HC1 hmk1
      have eL : t - sumN k (quoI t xs) = leftI t xs := by unfold leftI; rw [HL.out]
      rw [eL]
      clear eL
      obtain ⟨L, hLe⟩ : ∃ L, leftI t xs = L := ⟨_, rfl⟩
      rw [hLe]
      have HLE := Lib.hid hLe
      clear hLe
      go_loopw [81] (fun i wr2 => ∃ (p : Nat) (rs : Array Value), p ≤ k ∧ i = .int .i64 p ∧ Bl wr2 w3.heap.size 3 rs ∧ ResRow rs t xs p ∧ RowKit.Below w3.heap.size w3 wr2) (fun i _ => k - (intOf i).toNat)
      case atStart => exact ⟨0, C2, Nat.zero_le _, rfl, Bl.new _ _ _, ⟨by rw [HC2.out.1, HL.out]; omega, fun j hj => by rw [HC2.out.2 j (by have := HL.out; omega), if_neg (by omega)]; simp [Value.cells, Nat.mod_one]⟩, (Below.refl _ _).alloc (Nat.le_refl _) _⟩
      case round =>
        obtain ⟨p, rs, hp, rfl, HB, HR, hbel⟩ := hrel
        by_cases hlt2 : p < k
        · obtain ⟨j, hj, ej, hrk⟩ := sorted_at t xs d' (by rw [HL.out]; exact HPM.out) (by rw [HL.out]; exact HSD.out) p (by have := HL.out; omega)
          obtain ⟨c0, c1, c2⟩ := holdsK_cells w3 w.heap.size d' hH3 p (by have := HD.out; omega)
          rw [ej] at c0 c1 c2
          have c0' : wr.cell? ⟨w.heap.size, p * 3, none⟩ = some (.int .i64 j) := (hbel.cell (p := ⟨w.heap.size, p * 3, none⟩) hg3).trans c0
          have c1' : wr.cell? ⟨w.heap.size, p * 3 + 1, none⟩ = some (.int .u64 (quoI t xs j)) := (hbel.cell (p := ⟨w.heap.size, p * 3 + 1, none⟩) hg3).trans c1
          have c2' : wr.cell? ⟨w.heap.size, p * 3 + 2, none⟩ = some (.int .u64 (rstI t xs j)) := (hbel.cell (p := ⟨w.heap.size, p * 3 + 2, none⟩) hg3).trans c2
          clear c0 c1 c2
          have hqn := quo_nonneg HN.out ht0 (by have := HL.out; omega) j
          have hql := quo_le t xs ht0 HN.out j hj
          have hjk : j < k := by have := HL.out; omega
          have HRP := Lib.hid (fun q hq => HR.put (q := q) hj hrk hq)
          have HSH : Hid (shareI t xs j = quoI t xs j + if (p : Int) < L then 1 else 0) := by unfold shareI; rw [hrk, HLE.out]; exact rfl
          have hcj : wr.cell? ⟨w3.heap.size, j, none⟩ = some (.int .i64 0) := by rw [HB.cell, HR.2 j hj, if_neg (by omega)]
          have hfj : wr.frozen? ⟨w3.heap.size, j, none⟩ = false := HB.free j
          have hcj' : ∀ o, (wr.alloc o).cell? ⟨w3.heap.size, j, none⟩ = some (.int .i64 0) := fun o => (World.cell?_alloc_lt _ _ _ HB.lt).trans hcj
          have hfj' : ∀ o, (wr.alloc o).frozen? ⟨w3.heap.size, j, none⟩ = false := fun o => (HB.alloc o).free j
          have hlt3 := HB.lt
          clear ej hrk
          generalize quoI t xs j = q at *
          generalize rstI t xs j = r at *
          by_cases hpL : (p : Int) < L
          · have HE : Hid (shareI t xs j = q + 1) := by rw [HSH.out, if_pos hpL]; exact rfl
            go_wp2
            go_roundw
            case rel => exact ⟨p + 1, _, by omega, by go_num, ((HB.put _ _).put _ _).alloc _, by rw [Array.setIfInBounds_setIfInBounds]; exact HRP.out _ HE.out, ((hbel.setCell (Nat.le_refl _) _).setCell (Nat.le_refl _) _).alloc (by have := hbel.size; simpa [World.setCell] using this) _⟩
            case measure => simp [intOf]; omega
          · have HE : Hid (shareI t xs j = q) := by rw [HSH.out, if_neg hpL]; exact Int.add_zero _
            go_wp2
            go_roundw
            case rel => exact ⟨p + 1, _, by omega, by go_num, (HB.put _ _).alloc _, HRP.out _ HE.out, (hbel.setCell (Nat.le_refl _) _).alloc (by have := hbel.size; simpa [World.setCell] using this) _⟩
            case measure => simp [intOf]; omega
        · obtain rfl : p = k := by omega
          have HF : Hid (∀ i, i < xs.length → rs[i]? = some (.int .i64 (shareI t xs i))) := fun i hi => by rw [HR.2 i hi, if_pos (by have := rank_lt (rstI t xs) xs.length i hi; have := HL.out; omega)]
          go_wp2
          go_ret2
          exact ⟨w3.heap.size, rfl, hbel3.size, HB.own_ints hbel3.size (by rw [HR.1, HL.out]) (by rw [shareL_length, HL.out]) (by omega) (fun i hi => by rw [HF.out i (by have := HL.out; omega), shareL_get t xs i (by have := HL.out; omega)]), hbel3.trans (hbel.mono hbel3.size)⟩
set_option maxHeartbeats 1000000 in
theorem share_okz (t : Int) (A : Option Addr) (n c : Nat) (xs : List Int) (w : World) (h : Ints w A n xs) (hn : n ≤ 1000) (h0 : chkErr t xs = 0) (ht0 : 0 ≤ t) (ht : t ≤ 1000000000000) (ha : AllIn xs) (hs : xs.sum = 0) (HWs : Hid (wsum xs = n)) :
    Calls Try.prog 29 #[.int .i64 t, .slice A n c] w fun e w' => ∃ g, e = .returned (.tuple #[.slice (some ⟨g, 0, none⟩) n n, .int .i64 0]) ∧ w.heap.size ≤ g ∧ w'.ownsRow w.heap.size 3 1 (.slice (some ⟨g, 0, none⟩) n n) n ((shareL t xs).map (Value.int .i64)) ∧ Below w.heap.size w w' := by
  have HC := Lib.hid (fun w h => check_any t A n c xs w h (by omega))
  rw [h0] at HC
  clear h0
  have HS := Lib.hid (fun w h => sumOf_any A n c xs w h hn ha)
  obtain ⟨C1, HC1, hmk1⟩ := make_any (P := Try.prog) 72 78 _ 3 24 n Try.underlying72 infoP (by omega) (by omega)
  obtain ⟨C2, HC2, hmk2⟩ := make_any (P := Try.prog) 26 3 _ 1 8 n Try.underlying26 infoI (by omega) (by omega)
  have HN := Lib.hid (show NonNeg xs from fun i => (ha i).1)
  have HL := Lib.hid h.1
  rw [hs] at HS
  have HSs := Lib.hid hs
  clear hs
  clear ha
  go_enter Try.func29, Try.ntmps29
  go_wp2_with (first | (go_at_call 38; refine (HC.out _ h).mono ?_; rintro e w' ⟨rfl, rfl⟩) | (go_at_call 39; refine (HS.out _ h).mono ?_; rintro e w' ⟨rfl, rfl⟩))
  go_loopw [9, 38] (fun l i wr => ∃ (k : Nat) (cs : Array Value), k ≤ n ∧ i = .int .i64 k ∧ l = .int .i64 (t - sumN k (quoI t xs)) ∧ Bl wr w.heap.size 78 cs ∧ PorRow cs t xs k ∧ Below w.heap.size w wr) (fun _ i _ => n - (intOf i).toNat)
  case atStart => exact ⟨0, C1, Nat.zero_le _, rfl, by simp [sumN_zero], Bl.new _ _ _, ⟨by rw [HC1.out.1, HL.out], fun j hj => absurd hj (by omega)⟩, (Below.refl _ _).alloc (Nat.le_refl _) _⟩
  case round =>
    obtain ⟨k, cs, hk, rfl, rfl, HB, HP, hbel⟩ := hrel
    by_cases hlt : k < n
    · obtain ⟨b, off, x, hA, hbw, hc, HX⟩ := h.get hlt
      subst hA
      have hc1 : wr.cell? ⟨b, off + k, none⟩ = some (.int .i64 x) := (hbel.cell (p := ⟨b, off + k, none⟩) hbw).trans hc
      have hqn := quo_nonneg HN.out ht0 (by have := HL.out; omega) k
      have hql := quo_le t xs ht0 HN.out k (by have := HL.out; omega)
      have hwt : wt xs k = 1 := by simp [wt, HSs.out]
      have HMD := Lib.hid (fun w => mulDiv_any t 1 n 0 w ht0 (by omega) (by omega) (by omega) (by omega) (by omega))
      have HMM := Lib.hid (fun w => mulMod_any t 1 n w ht0 (by omega) (by omega) (by omega) (by omega) (by omega))
      have eq1 : t * 1 / n = quoI t xs k := by unfold quoI; rw [hwt, HWs.out]
      have eq2 : t * 1 % n = rstI t xs k := by unfold rstI; rw [hwt, HWs.out]
      rw [divOut_down _ _ (Int.mul_nonneg ht0 (by omega)) (by omega) (by rw [eq1]; omega), eq1] at HMD
      rw [eq2] at HMM
      have HP' := HP.put (by have := HL.out; omega)
      have HQ := Lib.hid (sumN_succ k (quoI t xs))
      obtain ⟨hb1, hb2⟩ := sum_quo_bounds t xs ht0 HN.out k (by have := HL.out; omega) (by have := HL.out; omega)
      obtain ⟨hb3, hb4⟩ := sum_quo_bounds t xs ht0 HN.out (k + 1) (by have := HL.out; omega) (by have := HL.out; omega)
      rw [HQ.out] at hb3 hb4
      clear eq1 eq2 hwt
      generalize quoI t xs k = q at *
      generalize rstI t xs k = r at *
      generalize sumN k (quoI t xs) = s at *
      go_wp2_with (first | (go_at_call 40; refine (HMD.out _).mono ?_; rintro e w1 ⟨rfl, hbd1⟩) | (go_at_call 41; refine (HMM.out _).mono ?_; rintro e w2 ⟨rfl, hbd2⟩; have HB2 := (HB.keep hbd1).keep hbd2; obtain ⟨⟨v0, c0⟩, ⟨v1, c1⟩, ⟨v2, c2⟩, z0, z1, z2⟩ := HB2.three (k * 3) (by have := HP.1; have := HL.out; omega)))
      go_roundw
      case rel => exact ⟨k + 1, _, by omega, by go_num, by rw [HQ.out]; go_num, ((HB2.put _ _).put _ _).put _ _, HP', ((((hbel.trans (hbd1.mono hbel.size)).trans (hbd2.mono (Nat.le_trans hbel.size hbd1.size))).setCell (Nat.le_refl _) _).setCell (Nat.le_refl _) _).setCell (Nat.le_refl _) _⟩
      case measure => simp [intOf]; omega
    · obtain rfl : k = n := by omega
      have hH : HoldsK encP 3 wr w.heap.size 0 (porArr t xs) := holds_porArr t xs wr w.heap.size (fun j hj => by
        have := HP.2 j (by have := HL.out; omega)
        exact ⟨(HB.cell _).trans this.1, (HB.cell _).trans this.2.1, (HB.cell _).trans this.2.2⟩) (fun o => HB.free o)
      have hsort := rankSort_any w.heap.size 0 k (porArr t xs) wr hH HB.lt (by rw [porArr_size, HL.out]; omega)
      rw [porArr_size, HL.out] at hsort
      have HSO := Lib.hid hsort
      clear hsort
      go_wp2_with (go_at_call 43; refine HSO.out.mono ?_; rintro e w3 ⟨rfl, d', m, os, hpm, hsd, hw3⟩; have hw3f := sorted_world w wr w.heap.size k m (porArr t xs) d' os hbel (Nat.le_refl _) HB.lt hH hpm.1; rw [← hw3] at hw3f; clear hw3)
      obtain ⟨hbel3, hH3, hg3⟩ := hw3f
      have HPM := Lib.hid hpm
      have HSD := Lib.hid hsd
      have hd' : d'.size = k := by rw [hpm.1, porArr_size, HL.out]
      have HD := Lib.hid hd'
      clear hpm hsd hd' HSO HB HP hbel hH HC HS HC1 hmk1
      have eL : t - sumN k (quoI t xs) = leftI t xs := by unfold leftI; rw [HL.out]
      rw [eL]
      clear eL
      obtain ⟨L, hLe⟩ : ∃ L, leftI t xs = L := ⟨_, rfl⟩
      rw [hLe]
      have HLE := Lib.hid hLe
      clear hLe
      go_loopw [81] (fun i wr2 => ∃ (p : Nat) (rs : Array Value), p ≤ k ∧ i = .int .i64 p ∧ Bl wr2 w3.heap.size 3 rs ∧ ResRow rs t xs p ∧ RowKit.Below w3.heap.size w3 wr2) (fun i _ => k - (intOf i).toNat)
      case atStart => exact ⟨0, C2, Nat.zero_le _, rfl, Bl.new _ _ _, ⟨by rw [HC2.out.1, HL.out]; omega, fun j hj => by rw [HC2.out.2 j (by have := HL.out; omega), if_neg (by omega)]; simp [Value.cells, Nat.mod_one]⟩, (Below.refl _ _).alloc (Nat.le_refl _) _⟩
      case round =>
        obtain ⟨p, rs, hp, rfl, HB, HR, hbel⟩ := hrel
        by_cases hlt2 : p < k
        · obtain ⟨j, hj, ej, hrk⟩ := sorted_at t xs d' (by rw [HL.out]; exact HPM.out) (by rw [HL.out]; exact HSD.out) p (by have := HL.out; omega)
          obtain ⟨c0, c1, c2⟩ := holdsK_cells w3 w.heap.size d' hH3 p (by have := HD.out; omega)
          rw [ej] at c0 c1 c2
          have c0' : wr.cell? ⟨w.heap.size, p * 3, none⟩ = some (.int .i64 j) := (hbel.cell (p := ⟨w.heap.size, p * 3, none⟩) hg3).trans c0
          have c1' : wr.cell? ⟨w.heap.size, p * 3 + 1, none⟩ = some (.int .u64 (quoI t xs j)) := (hbel.cell (p := ⟨w.heap.size, p * 3 + 1, none⟩) hg3).trans c1
          have c2' : wr.cell? ⟨w.heap.size, p * 3 + 2, none⟩ = some (.int .u64 (rstI t xs j)) := (hbel.cell (p := ⟨w.heap.size, p * 3 + 2, none⟩) hg3).trans c2
          clear c0 c1 c2
          have hqn := quo_nonneg HN.out ht0 (by have := HL.out; omega) j
          have hql := quo_le t xs ht0 HN.out j hj
          have hjk : j < k := by have := HL.out; omega
          have HRP := Lib.hid (fun q hq => HR.put (q := q) hj hrk hq)
          have HSH : Hid (shareI t xs j = quoI t xs j + if (p : Int) < L then 1 else 0) := by unfold shareI; rw [hrk, HLE.out]; exact rfl
          have hcj : wr.cell? ⟨w3.heap.size, j, none⟩ = some (.int .i64 0) := by rw [HB.cell, HR.2 j hj, if_neg (by omega)]
          have hfj : wr.frozen? ⟨w3.heap.size, j, none⟩ = false := HB.free j
          have hcj' : ∀ o, (wr.alloc o).cell? ⟨w3.heap.size, j, none⟩ = some (.int .i64 0) := fun o => (World.cell?_alloc_lt _ _ _ HB.lt).trans hcj
          have hfj' : ∀ o, (wr.alloc o).frozen? ⟨w3.heap.size, j, none⟩ = false := fun o => (HB.alloc o).free j
          have hlt3 := HB.lt
          clear ej hrk
          generalize quoI t xs j = q at *
          generalize rstI t xs j = r at *
          by_cases hpL : (p : Int) < L
          · have HE : Hid (shareI t xs j = q + 1) := by rw [HSH.out, if_pos hpL]; exact rfl
            go_wp2
            go_roundw
            case rel => exact ⟨p + 1, _, by omega, by go_num, ((HB.put _ _).put _ _).alloc _, by rw [Array.setIfInBounds_setIfInBounds]; exact HRP.out _ HE.out, ((hbel.setCell (Nat.le_refl _) _).setCell (Nat.le_refl _) _).alloc (by have := hbel.size; simpa [World.setCell] using this) _⟩
            case measure => simp [intOf]; omega
          · have HE : Hid (shareI t xs j = q) := by rw [HSH.out, if_neg hpL]; exact Int.add_zero _
            go_wp2
            go_roundw
            case rel => exact ⟨p + 1, _, by omega, by go_num, (HB.put _ _).alloc _, HRP.out _ HE.out, (hbel.setCell (Nat.le_refl _) _).alloc (by have := hbel.size; simpa [World.setCell] using this) _⟩
            case measure => simp [intOf]; omega
        · obtain rfl : p = k := by omega
          have HF : Hid (∀ i, i < xs.length → rs[i]? = some (.int .i64 (shareI t xs i))) := fun i hi => by rw [HR.2 i hi, if_pos (by have := rank_lt (rstI t xs) xs.length i hi; have := HL.out; omega)]
          go_wp2
          go_ret2
          exact ⟨w3.heap.size, rfl, hbel3.size, HB.own_ints hbel3.size (by rw [HR.1, HL.out]) (by rw [shareL_length, HL.out]) (by omega) (fun i hi => by rw [HF.out i (by have := HL.out; omega), shareL_get t xs i (by have := HL.out; omega)]), hbel3.trans (hbel.mono hbel3.size)⟩
end Go.Proofs.Ytknbbamlpadfdaa

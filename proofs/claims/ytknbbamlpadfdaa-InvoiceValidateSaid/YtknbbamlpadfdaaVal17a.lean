/-
  Contracts of valuation.divide, book and checkValues. No statement of the seat is proved here. Conditions: the numbers are in range.
-/
import Derived.Test.YtknbbamlpadfdaaRInv17
import Derived.Test.YtknbbamlpadfdaaMadeG
namespace Go.Proofs.Ytknbbamlpadfdaa
open Go.RowKit
set_option linter.unusedVariables false

/-- The parts of a charge. -/
def partsOf (ls : List (Int × Int)) (c : Chg) (amt : Int) : List Int := (List.range ls.length).map (partV ls c amt)
theorem partsOf_len (ls : List (Int × Int)) (c : Chg) (amt : Int) : (partsOf ls c amt).length = ls.length := by simp [partsOf]
theorem partsOf_get (ls : List (Int × Int)) (c : Chg) (amt : Int) (j : Nat) (h : j < ls.length) : (partsOf ls c amt).getD j 0 = partV ls c amt j := by simp [partsOf, List.getD, h]
theorem parts_prices {ls : List (Int × Int)} {c : Chg} {amt : Int} (hl : linesOk ls) (hn : 0 < ls.length) (hn' : ls.length ≤ 100) (h0 : 0 ≤ amt) (h1 : amt ≤ 1000000000000) (hb : c.basis = 1) : chkErr amt (pricesOf ls) = 0 ∧ shareOut amt (pricesOf ls) = partsOf ls c amt := by
  have e := chk_ok (t := amt) (ws := pricesOf ls) h0 h1 (by rw [prices_len]; omega) (by rw [prices_len]; exact hn) (prices_in hl)
  refine ⟨e, ?_⟩
  unfold shareOut partsOf shareL
  rw [if_pos e, prices_len]
  exact List.map_congr_left fun j _ => by unfold partV; rw [if_pos hb]
theorem parts_weights {ls : List (Int × Int)} {c : Chg} {amt : Int} (hl : linesOk ls) (hn : 0 < ls.length) (hn' : ls.length ≤ 100) (h0 : 0 ≤ amt) (h1 : amt ≤ 1000000000000) (hb : c.basis = 2) : chkErr amt (weightsOf ls) = 0 ∧ shareOut amt (weightsOf ls) = partsOf ls c amt := by
  have e := chk_ok (t := amt) (ws := weightsOf ls) h0 h1 (by rw [weights_len]; omega) (by rw [weights_len]; exact hn) (weights_in hl)
  refine ⟨e, ?_⟩
  unfold shareOut partsOf shareL
  rw [if_pos e, weights_len]
  exact List.map_congr_left fun j _ => by unfold partV; rw [if_neg (by omega), if_pos hb]
theorem parts_line {ls : List (Int × Int)} {c : Chg} {amt : Int} (h1 : c.basis ≠ 1) (h2 : c.basis ≠ 2) : partsOf ls c amt = (List.range ls.length).map (fun j : Nat => if (j : Int) = c.line then amt else 0) := by
  unfold partsOf
  exact List.map_congr_left fun j _ => by unfold partV; rw [if_neg h1, if_neg h2]

set_option maxRecDepth 100000 in
set_option maxHeartbeats 4000000 in
theorem divide_any (k a s l : Int) (cu : ByteArray) (amt : Int) (P Q : Option Addr) (n c1 c2 : Nat) (ls : List (Int × Int)) (w : World) (hp : Ints w P n (pricesOf ls)) (hw : Ints w Q n (weightsOf ls)) (hn : 0 < n) (hn' : n ≤ 100) (hl : linesOk ls) (hc : chgOk n ⟨k, a, cu, s, l⟩) (h0 : 0 ≤ amt) (h1 : amt ≤ 1000000000000) :
    Calls Try.prog 30 #[.agg #[.int .i64 k, .int .i64 a, .string cu, .int .i64 s, .int .i64 l], .int .i64 amt, .slice P n c1, .slice Q n c2] w (SlRes w 0 (partsOf ls ⟨k, a, cu, s, l⟩ amt)) := by
  have hlen : ls.length = n := by have := hp.1; rw [prices_len] at this; exact this
  have HL := Lib.hid hlen
  have HP1 := Lib.hid (parts_prices (c := ⟨k, a, cu, s, l⟩) hl (by omega) (by omega) h0 h1)
  have HP2 := Lib.hid (parts_weights (c := ⟨k, a, cu, s, l⟩) hl (by omega) (by omega) h0 h1)
  have HP3 := Lib.hid (parts_line (ls := ls) (c := ⟨k, a, cu, s, l⟩) (amt := amt))
  unfold chgOk at hc
  dsimp at hc
  clear hlen
  have HB : Hid (∀ T, RowKit.Below w.heap.size w (w.alloc (.cells #[.int .i64 k, .int .i64 a, .string cu, .int .i64 s, .int .i64 l] T))) := fun T => (Below.refl _ _).alloc (Nat.le_refl _) _
  by_cases g1 : s = 1
  · obtain ⟨e1, e2⟩ := HP1.out g1
    have HS : Hid (∀ o : Obj, Calls Try.prog 29 #[.int .i64 amt, .slice P n c1] (w.alloc o) (SlRes (w.alloc o) 0 (partsOf ls ⟨k, a, cu, s, l⟩ amt))) := fun o => by
      have := share_any amt P n c1 (pricesOf ls) (w.alloc o) (hp.alloc o) (by omega)
      rw [e1, e2] at this
      exact this
    have b1 : (s == 1) = true := by simpa using g1
    clear g1 e1 e2
    go_enter Try.func30, Try.ntmps30
    go_wp2_with fail
    refine (HS.out _).mono ?_
    rintro e w1 ⟨A1, n1, k1, rfl, ho, hb1⟩
    go_wp2
    go_ret2
    exact ⟨A1, n1, k1, rfl, own_mono ho (by simp), (HB.out _).trans (hb1.mono (by simp))⟩
  have b1 : (s == 1) = false := by simpa using g1
  by_cases g2 : s = 2
  · obtain ⟨e1, e2⟩ := HP2.out g2
    have HS : Hid (∀ o : Obj, Calls Try.prog 29 #[.int .i64 amt, .slice Q n c2] (w.alloc o) (SlRes (w.alloc o) 0 (partsOf ls ⟨k, a, cu, s, l⟩ amt))) := fun o => by
      have := share_any amt Q n c2 (weightsOf ls) (w.alloc o) (hw.alloc o) (by omega)
      rw [e1, e2] at this
      exact this
    have b2 : (s == 2) = true := by simpa using g2
    clear g2 e1 e2
    go_enter Try.func30, Try.ntmps30
    go_wp2_with fail
    refine (HS.out _).mono ?_
    rintro e w1 ⟨A1, n1, k1, rfl, ho, hb1⟩
    go_wp2
    go_ret2
    exact ⟨A1, n1, k1, rfl, own_mono ho (by simp), (HB.out _).trans (hb1.mono (by simp))⟩
  have b2 : (s == 2) = false := by simpa using g2
  have hl0 : 0 ≤ l := by omega
  have hl1 : l < (n : Int) := by omega
  obtain ⟨j, rfl⟩ : ∃ j : Nat, l = j := ⟨l.toNat, by omega⟩
  obtain ⟨C1, HC1, hmk1⟩ := make_any (P := Try.prog) 26 3 _ 1 8 n Try.underlying26 infoI (by omega) (by omega)
  have e3 := HP3.out g1 g2
  rw [e3, HL.out]
  have HR : Hid (IntRow (C1.setIfInBounds j (.int .i64 amt)) n (fun i => if (i : Int) = (j : Int) then amt else 0)) := (IntRow.zeros HC1.out).set j amt (fun i hi => by
    by_cases e : i = j
    · subst e; rw [if_pos rfl, if_pos rfl]
    · rw [if_neg (by omega), if_neg e])
  have HR0 := Lib.hid (IntRow.zeros HC1.out)
  have k0 : C1[j]? = some (.int .i64 0) := HR0.out.2 j (by omega)
  have hjn : j < n := by omega
  clear e3 HC1
  go_enter Try.func30, Try.ntmps30
  go_wp2
  go_ret2
  exact ⟨_, _, _, rfl, HR.out.own (Bl.new1 w _ 3 _) (by omega) (by omega), ((Below.refl _ _).alloc (Nat.le_refl _) _).alloc (by simp) _⟩

def CkRes (w : World) (er : Int) (e : Ending) (w' : World) : Prop := e = .returned (.int .i64 er) ∧ w = w'
set_option maxHeartbeats 1000000 in
theorem checkValues_any (A : Option Addr) (n c : Nat) (xs : List Int) (w : World) (h : Ints w A n xs) (hm : n ≤ 9223372036854775807) :
    Calls Try.prog 32 #[.slice A n c] w (CkRes w (endErr n (fun j => xs.getD j 0))) := by
  go_enter Try.func32, Try.ntmps32
  go_wp2
  go_loop [9] (fun i => ∃ k : Nat, k ≤ n ∧ i = .int .i64 k ∧ Hid (∀ j, j < k → 0 ≤ xs.getD j 0)) (fun i => n - (intOf i).toNat)
  case atStart => exact ⟨0, Nat.zero_le _, rfl, fun j hj => absurd hj (by omega)⟩
  case round =>
    obtain ⟨k, hk, rfl, HA⟩ := hrel
    by_cases hlt : k < n
    · obtain ⟨b, off, x, rfl, _, hc, HX⟩ := h.get hlt
      by_cases g1 : x < 0
      · have d1 : decide (x < 0) = true := by simpa using g1
        have E := Lib.hid (endErr_neg (n := n) (v := fun j => xs.getD j 0) k hlt (by rw [HX.out]; exact g1))
        go_wp2
        go_ret
        exact ⟨ret_int' E.out.symm, rfl⟩
      have d1 : decide (x < 0) = false := by simpa using g1
      have HA' : Hid (∀ j, j < k + 1 → 0 ≤ xs.getD j 0) := fun j hj => by
        by_cases e : j = k
        · subst e; rw [HX.out]; omega
        · exact HA.out j (by omega)
      go_wp2
      go_round
      case rel => exact ⟨k + 1, by omega, by go_num, HA'.out⟩
      case measure => simp [intOf]; omega
    · have HN : Hid (∀ j, j < n → 0 ≤ xs.getD j 0) := fun j hj => HA.out j (by omega)
      clear HA
      go_wp2
      go_loop [18] (fun i => ∃ r : Nat, r ≤ n ∧ i = .int .i64 r ∧ Hid (∀ j, j < r → xs.getD j 0 ≤ 1000000000000)) (fun i => n - (intOf i).toNat)
      case atStart => exact ⟨0, Nat.zero_le _, rfl, fun j hj => absurd hj (by omega)⟩
      case round =>
        obtain ⟨r, hr, rfl, HA⟩ := hrel
        by_cases hlt2 : r < n
        · obtain ⟨b, off, x, hA, _, hc, HX⟩ := h.get hlt2
          subst hA
          by_cases g1 : 1000000000000 < x
          · have d1 : decide (1000000000000 < x) = true := by simpa using g1
            have E := Lib.hid (endErr_over (n := n) (v := fun j => xs.getD j 0) HN.out r hlt2 (by rw [HX.out]; exact g1))
            go_wp2
            go_ret
            exact ⟨ret_int' E.out.symm, rfl⟩
          have d1 : decide (1000000000000 < x) = false := by simpa using g1
          have HA' : Hid (∀ j, j < r + 1 → xs.getD j 0 ≤ 1000000000000) := fun j hj => by
            by_cases e : j = r
            · subst e; rw [HX.out]; omega
            · exact HA.out j (by omega)
          go_wp2
          go_round
          case rel => exact ⟨r + 1, by omega, by go_num, HA'.out⟩
          case measure => simp [intOf]; omega
        · have E := Lib.hid (endErr_ok (n := n) (v := fun j => xs.getD j 0) (fun j hj => ⟨HN.out j hj, HA.out j (by omega)⟩))
          go_wp2
          go_ret
          exact ⟨ret_int' E.out.symm, rfl⟩

def bookV (k : Int) (f : Nat → Int) (xs : List Int) (j : Nat) : Int := if k ≤ 5 then f j + xs.getD j 0 else f j - xs.getD j 0
/-- What book leaves: the values' block written. -/
def BookRes (w : World) (g : Nat) (n : Nat) (f : Nat → Int) (w' : World) : Prop := Only g w w' ∧ ∃ cs, Bl w' g 3 cs ∧ IntRow cs n f
set_option maxHeartbeats 1000000 in
theorem book_any (g n c : Nat) (A : Option Addr) (c2 : Nat) (cs : Array Value) (f : Nat → Int) (xs : List Int) (k : Int) (w : World) (hB : Bl w g 3 cs) (hR : IntRow cs n f) (h : Ints w A n xs) (hA : ∀ b off, A = some ⟨b, off, none⟩ → b ≠ g) (hn : n ≤ 100)
    (hf : ∀ j, j < n → -1000000000000000 ≤ f j ∧ f j ≤ 1000000000000000) (hx : ∀ j, j < n → 0 ≤ xs.getD j 0 ∧ xs.getD j 0 ≤ 1000000000000) :
    Calls Try.prog 31 #[.slice (some ⟨g, 0, none⟩) n c, .slice A n c2, .int .i64 k] w fun e w' => e = .returned (.tuple #[]) ∧ BookRes w g n (bookV k f xs) w' := by
  have HF := Lib.hid hf
  have HX0 := Lib.hid hx
  have HA := Lib.hid hA
  clear hf hx hA
  go_enter Try.func31, Try.ntmps31
  go_wp2
  go_loopw [10] (fun i wr => ∃ (r : Nat) (ds : Array Value), r ≤ n ∧ i = .int .i64 r ∧ Only g w wr ∧ Bl wr g 3 ds ∧ IntRow ds n (fun j => if j < r then bookV k f xs j else f j)) (fun i _ => n - (intOf i).toNat)
  case atStart => exact ⟨0, cs, Nat.zero_le _, rfl, Only.refl _ _, hB, hR.congr (fun j _ => by simp)⟩
  case round =>
    obtain ⟨r, ds, hr, rfl, hO, HB, HR⟩ := hrel
    by_cases hlt : r < n
    · obtain ⟨b, off, x, hA, hbl, hc, HX⟩ := h.get hlt
      have hne := HA.out b off hA
      subst hA
      have hc1 : wr.cell? ⟨b, off + r, none⟩ = some (.int .i64 x) := (World.cell?_of_block (hO.block b hne)).trans hc
      have k1 := HR.cell HB hlt
      rw [if_neg (by omega)] at k1
      have f1 : wr.frozen? ⟨g, r, none⟩ = false := HB.free r
      have hf1 := HF.out r hlt
      have hx1 := HX0.out r hlt
      rw [HX.out] at hx1
      have HRA : Hid (∀ v, (if k ≤ 5 then f r + x else f r - x) = v → IntRow (ds.setIfInBounds r (.int .i64 v)) n (fun j => if j < r + 1 then bookV k f xs j else f j)) := fun v hv => HR.set r v (fun j hj => by
        by_cases e : j = r
        · subst e; rw [if_pos (by omega), if_pos rfl, ← hv, ← HX.out]; rfl
        · rw [if_neg e]; by_cases e2 : j < r
          · rw [if_pos e2, if_pos (by omega)]
          · rw [if_neg e2, if_neg (by omega)])
      have HC : Hid (∀ v, RowKit.Below 0 w w → Only g w (wr.setCell ⟨g, r, none⟩ v)) := fun v _ => hO.setCell r v
      have k2 : wr.cell? ⟨g, r, none⟩ = some (.int .i64 (f r)) := k1
      clear k1
      generalize f r = fr at *
      clear hc
      by_cases g5 : k ≤ 5
      · have d5 : decide (k ≤ 5) = true := by simpa using g5
        have HRB := Lib.hid (HRA.out (fr + x) (if_pos g5))
        clear HRA
        go_wp2
        go_roundw
        case rel => exact ⟨r + 1, _, by omega, by go_num, hO.setCell r _, HB.put _ _, HRB.out⟩
        case measure => simp [intOf]; omega
      · have d5 : decide (k ≤ 5) = false := by simpa using g5
        have HRB := Lib.hid (HRA.out (fr - x) (if_neg g5))
        clear HRA
        go_wp2
        go_roundw
        case rel => exact ⟨r + 1, _, by omega, by go_num, hO.setCell r _, HB.put _ _, HRB.out⟩
        case measure => simp [intOf]; omega
    · obtain rfl : r = n := by omega
      go_wp2
      go_end0
      exact ⟨rfl, hO, ds, HB, HR.congr (fun j hj => by simp [hj])⟩
end Go.Proofs.Ytknbbamlpadfdaa

/-
  Contracts of the reference's Share (all cases) and Same, and of the makers total and weights of customslaw03. No statement of the seat is proved here. Conditions: lengths fit an int.
-/
import Derived.Test.YtpadpohaadfefaaRefShare2
import Derived.StillTailTactics
namespace Go.Proofs.Ytpadpohaadfefaa
open Go.RowKit
set_option linter.unusedVariables false

theorem rshare_any (t : Int) (A : Option Addr) (n c : Nat) (xs : List Int) (w : World) (h : Ints w A n xs) (hm : n ≤ 9223372036854775807) :
    Calls Try.prog 18 #[.int .i64 t, .slice A n c] w (SlRes w (chkErr t xs) (shareOut t xs)) := by
  by_cases h1 : 1000 < n
  · exact rshare_long t A n c xs w h hm h1
  have hl := h.1
  cases hb : badK t xs n with
  | true =>
    have e1 := chk_bad (t := t) (xs := xs) (by omega) (by rw [hl]; exact hb)
    have e2 : shareOut t xs = [] := by unfold shareOut; rw [if_neg (by omega)]
    rw [e1, e2]
    exact rshare_bad t A n c xs w h (by omega) hb
  | false =>
    rw [← hl] at hb
    have e1 := chk_good (t := t) (xs := xs) (by omega) hb
    obtain ⟨h2, h3⟩ := (badK_all t xs).1 hb
    by_cases h4 : xs.length = 0 ∧ 0 < t
    · rw [if_pos h4] at e1
      have e2 : shareOut t xs = [] := by unfold shareOut; rw [if_neg (by omega)]
      rw [e1, e2]
      obtain rfl : n = 0 := by omega
      exact rshare_none t A c w h4.2 h2.2
    · rw [if_neg h4] at e1
      have e2 : shareOut t xs = shareL t xs := by unfold shareOut; rw [if_pos e1]
      rw [e1, e2]
      exact rshare_ok t A n c xs w h (by omega) h2.1 h2.2 h3 (by omega)

set_option maxHeartbeats 1000000 in
theorem same_true (A B : Option Addr) (n c d : Nat) (xs : List Int) (w : World) (hA : Ints w A n xs) (hB : Ints w B n xs) (hm : n ≤ 9223372036854775807) :
    Calls Try.prog 19 #[.slice A n c, .slice B n d] w fun e w' => e = .returned (.bool true) ∧ ∃ q, w' = w.drewN q := by
  go_enter Try.func19, Try.ntmps19
  go_wp2
  go_loopw [5] (fun i wr => ∃ k q : Nat, k ≤ n ∧ i = .int .i64 k ∧ wr = w.drewN q) (fun i _ => n - (intOf i).toNat)
  case atStart => exact ⟨0, 0, Nat.zero_le _, rfl, rfl⟩
  case round =>
    obtain ⟨k, q, hk, rfl, rfl⟩ := hrel
    by_cases hlt : k < n
    · obtain ⟨b, off, x, rfl, _, hc, HX⟩ := hA.get hlt
      obtain ⟨b2, off2, x2, rfl, _, hc2, HX2⟩ := hB.get hlt
      obtain rfl : x = x2 := HX.out.symm.trans HX2.out
      have i1 : (0 : Int) ≤ (k : Int) := by omega
      have i2 : (k : Int) < (n : Int) := by omega
      go_wp2
      go_quiet (fail)
      go_wp2
      go_roundw
      case rel => exact ⟨k + 1, _, by omega, by go_num, rfl⟩
      case measure => simp [intOf]; omega
    · go_wp2
      go_ret
      exact ⟨rfl, _, rfl⟩

/-- A number from 0 to MaxAmount. -/
def TotRes (w : World) (e : Ending) (w' : World) : Prop := ∃ t : Int, 0 ≤ t ∧ t ≤ 1000000000000 ∧ e = .returned (.int .i64 t) ∧ w = w'

theorem tmod_bounds (x m : Int) (hm : 0 < m) : -m < x.tmod m ∧ x.tmod m < m := by
  rcases Int.lt_or_le x 0 with h | h
  · have h1 : x.tmod m = -((-x).tmod m) := by rw [Int.neg_tmod, Int.neg_neg]
    have h2 : (-x).tmod m = (-x) % m := Int.tmod_eq_emod_of_nonneg (by omega)
    have h3 := Int.emod_nonneg (-x) (show m ≠ 0 by omega)
    have h4 := Int.emod_lt_of_pos (-x) hm
    omega
  · have h2 : x.tmod m = x % m := Int.tmod_eq_emod_of_nonneg h
    have h3 := Int.emod_nonneg x (show m ≠ 0 by omega)
    have h4 := Int.emod_lt_of_pos x hm
    omega

set_option maxHeartbeats 1000000 in
theorem total_any (n : Int) (small : Bool) (w : World) : Calls Try.prog 15 #[.int .i64 n, .bool small] w (TotRes w) := by
  have hb := tmod_bounds n 1000000000001 (by omega)
  obtain ⟨y, hy⟩ : ∃ y, n.tmod 1000000000001 = y := ⟨_, rfl⟩
  rw [hy] at hb
  cases small
  · go_enter Try.func15, Try.ntmps15
    go_wp2
    go_ret
    exact ⟨max y (-y), by omega, by omega, rfl, rfl⟩
  · go_enter Try.func15, Try.ntmps15
    go_wp2
    go_ret
    exact ⟨max y (-y) % 50, by omega, by omega, rfl, rfl⟩

/-- A list of the call's own, of at most 60 amounts. -/
def WtsRes (w : World) (n : Nat) (e : Ending) (w' : World) : Prop := ∃ (A : Option Addr) (c : Nat) (xs : List Int), e = .returned (.slice A n c) ∧ (∀ i : Nat, 0 ≤ xs.getD i 0 ∧ xs.getD i 0 ≤ 1000000000000) ∧ w'.ownsRow w.heap.size 3 1 (.slice A n c) n (xs.map (Value.int .i64)) ∧ RowKit.Below w.heap.size w w'

/-- n amounts. -/
def AmtRow (cs : Array Value) (n k : Nat) : Prop := ∃ f : Nat → Int, IntRow cs n f ∧ (∀ j, 0 ≤ f j ∧ f j ≤ 1000000000000) ∧ ∀ j, k ≤ j → f j = 0

theorem AmtRow.put {cs : Array Value} {n k : Nat} (h : AmtRow cs n k) (v : Int) (h0 : 0 ≤ v) (h1 : v ≤ 1000000000000) : AmtRow (cs.setIfInBounds k (.int .i64 v)) n (k + 1) := by
  obtain ⟨f, h2, h3, h4⟩ := h
  refine ⟨fun j => if j = k then v else f j, h2.put k v, fun j => ?_, fun j hj => ?_⟩
  · by_cases e : j = k
    · simp [e, h0, h1]
    · simp [e, h3 j]
  · have e : ¬ j = k := by omega
    simp [e, h4 j (by omega)]

theorem AmtRow.res {w wr : World} {cs : Array Value} {k : Nat} (HB : Bl wr w.heap.size 3 cs) (HR : AmtRow cs k k) (hbel : RowKit.Below w.heap.size w wr) (hk : k ≤ 1000) : WtsRes w k (.returned (.slice (some ⟨w.heap.size, 0, none⟩) k k)) wr := by
  obtain ⟨f, h1, h2, h3⟩ := HR
  refine ⟨_, _, (List.range k).map f, rfl, fun i => ?_, h1.own HB (Nat.le_refl _) (by omega), hbel⟩
  by_cases hi : i < k
  · simpa [List.getD, hi] using h2 i
  · simp [List.getD, hi]

set_option maxRecDepth 100000 in
set_option maxHeartbeats 1000000 in
theorem weights_core (n c : Nat) (A : Option Addr) (small : Bool) (xs : List Int) (w : World) (h : Ints w A n xs) (hn : n ≤ 60) :
    Calls Try.prog 16 #[.slice A n c, .bool small] w (WtsRes w n) := by
  obtain ⟨C1, HC1, hmk1⟩ := make_any (P := Try.prog) 22 3 _ 1 8 n Try.underlying22 infoI (by omega) (by omega)
  cases small
  · go_enter Try.func16, Try.ntmps16
    go_wp2
    go_loopw [6] (fun i wr => ∃ (k : Nat) (cs : Array Value), k ≤ n ∧ i = .int .i64 k ∧ Bl wr w.heap.size 3 cs ∧ AmtRow cs n k ∧ RowKit.Below w.heap.size w wr) (fun i _ => n - (intOf i).toNat)
    case atStart => exact ⟨0, C1, Nat.zero_le _, rfl, Bl.new _ _ _, ⟨_, IntRow.zeros HC1.out, fun j => by simp, fun j _ => rfl⟩, (Below.refl _ _).alloc (Nat.le_refl _) _⟩
    case round =>
      obtain ⟨k, cs, hk, rfl, HB, HR, hbel⟩ := hrel
      by_cases hlt : k < n
      · obtain ⟨b, off, x, rfl, hbw, hc, HX⟩ := h.get hlt
        have hc1 : wr.cell? ⟨b, off + k, none⟩ = some (.int .i64 x) := (hbel.cell (p := ⟨b, off + k, none⟩) hbw).trans hc
        have hb := tmod_bounds x 1000000000001 (by omega)
        obtain ⟨y, hy⟩ : ∃ y, x.tmod 1000000000001 = y := ⟨_, rfl⟩
        rw [hy] at hb
        have i1 : (0 : Int) ≤ (k : Int) := by omega
        have i2 : (k : Int) < (n : Int) := by omega
        have f1 : wr.frozen? ⟨w.heap.size, k, none⟩ = false := HB.free k
        obtain ⟨f, g1, g2, g3⟩ := id HR
        have c1 := g1.cell HB hlt
        have wn : IntKind.i64.wrap (-y) = -y := IntWalk.i64_in _ (by omega)
        clear g1 g2 g3
        go_wp2
        go_region
        go_wp2
        go_roundw
        case rel => exact ⟨k + 1, _, by omega, by go_num, HB.put _ _, HR.put _ (by omega) (by omega), (hbel.setCell (Nat.le_refl _) _).drew⟩
        case measure => simp [intOf]; omega
      · obtain rfl : k = n := by omega
        go_wp2
        go_ret
        exact AmtRow.res HB HR hbel (by omega)
  · go_enter Try.func16, Try.ntmps16
    go_wp2
    go_loopw [6] (fun i wr => ∃ (k : Nat) (cs : Array Value), k ≤ n ∧ i = .int .i64 k ∧ Bl wr w.heap.size 3 cs ∧ AmtRow cs n k ∧ RowKit.Below w.heap.size w wr) (fun i _ => n - (intOf i).toNat)
    case atStart => exact ⟨0, C1, Nat.zero_le _, rfl, Bl.new _ _ _, ⟨_, IntRow.zeros HC1.out, fun j => by simp, fun j _ => rfl⟩, (Below.refl _ _).alloc (Nat.le_refl _) _⟩
    case round =>
      obtain ⟨k, cs, hk, rfl, HB, HR, hbel⟩ := hrel
      by_cases hlt : k < n
      · obtain ⟨b, off, x, rfl, hbw, hc, HX⟩ := h.get hlt
        have hc1 : wr.cell? ⟨b, off + k, none⟩ = some (.int .i64 x) := (hbel.cell (p := ⟨b, off + k, none⟩) hbw).trans hc
        have hb := tmod_bounds x 1000000000001 (by omega)
        obtain ⟨y, hy⟩ : ∃ y, x.tmod 1000000000001 = y := ⟨_, rfl⟩
        rw [hy] at hb
        have i1 : (0 : Int) ≤ (k : Int) := by omega
        have i2 : (k : Int) < (n : Int) := by omega
        have f1 : wr.frozen? ⟨w.heap.size, k, none⟩ = false := HB.free k
        obtain ⟨f, g1, g2, g3⟩ := id HR
        have c1 := g1.cell HB hlt
        have wn : IntKind.i64.wrap (-y) = -y := IntWalk.i64_in _ (by omega)
        clear g1 g2 g3
        go_wp2
        go_region
        go_wp2
        go_roundw
        case rel => exact ⟨k + 1, _, by omega, by go_num, (HB.put _ _).put _ _, by rw [Array.setIfInBounds_setIfInBounds]; exact HR.put _ (by omega) (by omega), ((hbel.setCell (Nat.le_refl _) _).setCell (Nat.le_refl _) _).drew⟩
        case measure => simp [intOf]; omega
      · obtain rfl : k = n := by omega
        go_wp2
        go_ret
        exact AmtRow.res HB HR hbel (by omega)
set_option maxRecDepth 100000 in
set_option maxHeartbeats 1000000 in
theorem weights_long (b off n c : Nat) (small : Bool) (xs : List Int) (w : World) (h : Ints w (some ⟨b, off, none⟩) 60 xs) (hn : 60 < n) (hnc : n ≤ c) (hcm : c ≤ 9223372036854775807) :
    Calls Try.prog 16 #[.slice (some ⟨b, off, none⟩) n c, .bool small] w (WtsRes w 60) := by
  obtain ⟨C1, HC1, hmk1⟩ := make_any (P := Try.prog) 22 3 _ 1 8 60 Try.underlying22 infoI (by omega) (by omega)
  have hmk2 : ∀ w : World, (Instr.makeSlice 22 (.int .i64 60) (.int .i64 60)).run Try.prog w = .ok (.slice (some ⟨w.heap.size, 0, none⟩) 60 60) (w.alloc (.cells C1 3)) := hmk1
  clear hmk1
  cases small
  · go_enter Try.func16, Try.ntmps16
    go_wp2
    go_loopw [6] (fun i wr => ∃ (k : Nat) (cs : Array Value), k ≤ 60 ∧ i = .int .i64 k ∧ Bl wr w.heap.size 3 cs ∧ AmtRow cs 60 k ∧ RowKit.Below w.heap.size w wr) (fun i _ => 60 - (intOf i).toNat)
    case atStart => exact ⟨0, C1, Nat.zero_le _, rfl, Bl.new _ _ _, ⟨_, IntRow.zeros (n := 60) HC1.out, fun j => by simp, fun j _ => rfl⟩, (Below.refl _ _).alloc (Nat.le_refl _) _⟩
    case round =>
      obtain ⟨k, cs, hk, rfl, HB, HR, hbel⟩ := hrel
      by_cases hlt : k < 60
      · obtain ⟨b', off', x, hA, hbw, hc, HX⟩ := h.get hlt
        obtain ⟨rfl, rfl⟩ : b = b' ∧ off = off' := by simpa using hA
        clear hA
        have hc1 : wr.cell? ⟨b, off + k, none⟩ = some (.int .i64 x) := (hbel.cell (p := ⟨b, off + k, none⟩) hbw).trans hc
        have hb := tmod_bounds x 1000000000001 (by omega)
        obtain ⟨y, hy⟩ : ∃ y, x.tmod 1000000000001 = y := ⟨_, rfl⟩
        rw [hy] at hb
        have i1 : (0 : Int) ≤ (k : Int) := by omega
        have i2 : (k : Int) < (60 : Int) := by omega
        have f1 : wr.frozen? ⟨w.heap.size, k, none⟩ = false := HB.free k
        obtain ⟨f, g1, g2, g3⟩ := id HR
        have c1 := g1.cell HB hlt
        have wn : IntKind.i64.wrap (-y) = -y := IntWalk.i64_in _ (by omega)
        clear g1 g2 g3
        go_wp2
        go_region
        go_wp2
        go_roundw
        case rel => exact ⟨k + 1, _, by omega, by go_num, HB.put _ _, HR.put _ (by omega) (by omega), (hbel.setCell (Nat.le_refl _) _).drew⟩
        case measure => simp [intOf]; omega
      · obtain rfl : k = 60 := by omega
        go_wp2
        go_ret
        exact AmtRow.res HB HR hbel (by omega)
  · go_enter Try.func16, Try.ntmps16
    go_wp2
    go_loopw [6] (fun i wr => ∃ (k : Nat) (cs : Array Value), k ≤ 60 ∧ i = .int .i64 k ∧ Bl wr w.heap.size 3 cs ∧ AmtRow cs 60 k ∧ RowKit.Below w.heap.size w wr) (fun i _ => 60 - (intOf i).toNat)
    case atStart => exact ⟨0, C1, Nat.zero_le _, rfl, Bl.new _ _ _, ⟨_, IntRow.zeros (n := 60) HC1.out, fun j => by simp, fun j _ => rfl⟩, (Below.refl _ _).alloc (Nat.le_refl _) _⟩
    case round =>
      obtain ⟨k, cs, hk, rfl, HB, HR, hbel⟩ := hrel
      by_cases hlt : k < 60
      · obtain ⟨b', off', x, hA, hbw, hc, HX⟩ := h.get hlt
        obtain ⟨rfl, rfl⟩ : b = b' ∧ off = off' := by simpa using hA
        clear hA
        have hc1 : wr.cell? ⟨b, off + k, none⟩ = some (.int .i64 x) := (hbel.cell (p := ⟨b, off + k, none⟩) hbw).trans hc
        have hb := tmod_bounds x 1000000000001 (by omega)
        obtain ⟨y, hy⟩ : ∃ y, x.tmod 1000000000001 = y := ⟨_, rfl⟩
        rw [hy] at hb
        have i1 : (0 : Int) ≤ (k : Int) := by omega
        have i2 : (k : Int) < (60 : Int) := by omega
        have f1 : wr.frozen? ⟨w.heap.size, k, none⟩ = false := HB.free k
        obtain ⟨f, g1, g2, g3⟩ := id HR
        have c1 := g1.cell HB hlt
        have wn : IntKind.i64.wrap (-y) = -y := IntWalk.i64_in _ (by omega)
        clear g1 g2 g3
        go_wp2
        go_region
        go_wp2
        go_roundw
        case rel => exact ⟨k + 1, _, by omega, by go_num, (HB.put _ _).put _ _, by rw [Array.setIfInBounds_setIfInBounds]; exact HR.put _ (by omega) (by omega), ((hbel.setCell (Nat.le_refl _) _).setCell (Nat.le_refl _) _).drew⟩
        case measure => simp [intOf]; omega
      · obtain rfl : k = 60 := by omega
        go_wp2
        go_ret
        exact AmtRow.res HB HR hbel (by omega)

theorem weights_any (n c : Nat) (A : Option Addr) (small : Bool) (xs : List Int) (w : World) (h : Ints w A n xs) (hnc : n ≤ c) (hcm : c ≤ 9223372036854775807) :
    Calls Try.prog 16 #[.slice A n c, .bool small] w (WtsRes w (min n 60)) := by
  by_cases hn : n ≤ 60
  · rw [Nat.min_eq_left hn]
    exact weights_core n c A small xs w h hn
  · rw [Nat.min_eq_right (by omega)]
    obtain ⟨b, off, rfl, _⟩ := h.2 (by omega)
    exact weights_long b off n c small _ w (h.take (m := 60) (by omega)) (by omega) hnc hcm
end Go.Proofs.Ytpadpohaadfefaa

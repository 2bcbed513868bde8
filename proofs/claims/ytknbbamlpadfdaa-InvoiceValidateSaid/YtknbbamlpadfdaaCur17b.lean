/-
  Contract of currency.Validate: the first error of a table. No statement of the seat is proved here. Conditions: lengths fit an int.
-/
import Derived.Test.YtknbbamlpadfdaaCur17
import Derived.Deep.QuietTactic
import Derived.Deep.RegionWith
import Derived.StillTailTactics
import Derived.BigQuiet
namespace Go.Proofs.Ytknbbamlpadfdaa
open Go.RowKit
set_option linter.unusedVariables false

def VRes (w : World) (er : Int) (e : Ending) (w' : World) : Prop := e = .returned (.int .i64 er) ∧ RowKit.Below w.heap.size w w'
/-- The strings of a table fit. -/
def ExSz (xs : List Exch) : Prop := ∀ i, i < xs.length → xs[i]!.cur.size ≤ 9223372036854775807

theorem tabErr_long {xs : List Exch} (h : 1000 < xs.length) : tabErr xs = 8 := by unfold tabErr; rw [if_pos h]
theorem tabErr_at {xs : List Exch} (h : xs.length ≤ 1000) (k : Nat) (hk : k < xs.length) (h0 : ∀ i, i < k → rowErr xs i = 0) {er : Int} (he : rowErr xs k = er) (hn : er ≠ 0) : tabErr xs = er := by
  unfold tabErr; rw [if_neg (by omega), firstErr_at h0 (by rw [he]; exact hn) _ hk, he]
theorem tabErr_ok {xs : List Exch} (h : xs.length ≤ 1000) (h0 : ∀ i, i < xs.length → rowErr xs i = 0) : tabErr xs = 0 := by
  unfold tabErr; rw [if_neg (by omega), firstErr_zero h0]
theorem rowErr_1 {xs : List Exch} {i : Nat} {x : Exch} (e : xs[i]! = x) (h : curB x.cur.toList = false ∨ (x.cur.toList == eur) = true) : rowErr xs i = 1 := by
  unfold rowErr; rw [e, if_pos h]
theorem rowErr_2 {xs : List Exch} {i : Nat} {x : Exch} (e : xs[i]! = x) (h1 : curB x.cur.toList = true) (h2 : (x.cur.toList == eur) = false) (h : x.day < 0 ∨ 36524 < x.day ∨ x.per < 1 ∨ 1000000000 < x.per) : rowErr xs i = 2 := by
  unfold rowErr; rw [e, if_neg (by simp [h1, h2]), if_pos h]
theorem rowErr_9 {xs : List Exch} {i : Nat} {x : Exch} (e : xs[i]! = x) (h1 : curB x.cur.toList = true) (h2 : (x.cur.toList == eur) = false) (h : ¬ (x.day < 0 ∨ 36524 < x.day ∨ x.per < 1 ∨ 1000000000 < x.per)) (hi : 0 < i) (h3 : befB xs[i - 1]! x = false) : rowErr xs i = 9 := by
  unfold rowErr; rw [e, if_neg (by simp [h1, h2]), if_neg h, if_pos ⟨hi, h3⟩]
theorem rowErr_0 {xs : List Exch} {i : Nat} {x : Exch} (e : xs[i]! = x) (h1 : curB x.cur.toList = true) (h2 : (x.cur.toList == eur) = false) (h : ¬ (x.day < 0 ∨ 36524 < x.day ∨ x.per < 1 ∨ 1000000000 < x.per)) (h3 : 0 < i → befB xs[i - 1]! x = true) : rowErr xs i = 0 := by
  unfold rowErr; rw [e, if_neg (by simp [h1, h2]), if_neg h, if_neg (fun hx => by have := h3 hx.1; rw [hx.2] at this; cases this)]

set_option maxRecDepth 100000 in
set_option maxHeartbeats 4000000 in
theorem cvalidate_any (A : Option Addr) (n c : Nat) (xs : List Exch) (w : World) (h : Recs encX 3 w A n xs) (hm : n ≤ 9223372036854775807) (hz : ExSz xs) :
    Calls Try.prog 48 #[.slice A n c] w (VRes w (tabErr xs)) := by
  have HL := Lib.hid h.1
  have HZ := Lib.hid hz
  clear hz
  by_cases hl : 1000 < n
  · have E := Lib.hid (tabErr_long (xs := xs) (by have := HL.out; omega))
    go_enter Try.func48, Try.ntmps48
    go_wp2
    go_ret
    exact ⟨ret_int' E.out.symm, Below.refl _ _⟩
  go_enter Try.func48, Try.ntmps48
  go_wp2
  go_loopw [10] (fun i wr => ∃ k : Nat, k ≤ n ∧ i = .int .i64 k ∧ Hid (∀ i, i < k → rowErr xs i = 0) ∧ RowKit.Below w.heap.size w wr) (fun i _ => n - (intOf i).toNat)
  case atStart => exact ⟨0, Nat.zero_le _, rfl, fun i hi => absurd hi (by omega), Below.refl _ _⟩
  case round =>
    obtain ⟨k, hk, rfl, HA, hbel⟩ := hrel
    by_cases hlt : k < n
    · obtain ⟨b, off, cu, dy, pe, rfl, hbl, hc1, hc2, hc3, HX⟩ := (h.below hbel).getX hlt
      have hsz : cu.size ≤ 9223372036854775807 := by have := HZ.out k (by have := HL.out; omega); rw [HX.out] at this; exact this
      have hws := hbel.size
      have HB1 := Lib.hid (hbel.alloc hbel.size (.cells #[.string cu, .int .i64 dy, .int .i64 pe] 61))
      have HI := Lib.hid (fun w => iscur_any cu w hsz)
      have HT : Hid (∀ er : Int, rowErr xs k = er → er ≠ 0 → tabErr xs = er) := fun er he hn => tabErr_at (by have := HL.out; omega) k (by have := HL.out; omega) HA.out he hn
      have HR1 := Lib.hid (rowErr_1 (i := k) HX.out)
      have HR2 := Lib.hid (rowErr_2 (i := k) HX.out)
      have HR9 := Lib.hid (rowErr_9 (i := k) HX.out)
      have HR0 := Lib.hid (rowErr_0 (i := k) HX.out)
      cases hq : curB cu.toList with
      | false =>
        have E := Lib.hid (HT.out 1 (HR1.out (.inl hq)) (by omega))
        go_wp2_with fail
        refine (HI.out _).mono ?_
        rintro e w1 ⟨rfl, rfl⟩
        rw [hq]
        clear hq
        go_wp2
        go_ret
        exact ⟨ret_int' E.out.symm, HB1.out⟩
      | true =>
      cases he : (cu.toList == eur) with
      | true =>
        have E := Lib.hid (HT.out 1 (HR1.out (.inr he)) (by omega))
        have he2 : (cu.toList == [69, 85, 82]) = true := he
        go_wp2_with fail
        refine (HI.out _).mono ?_
        rintro e w1 ⟨rfl, rfl⟩
        rw [hq]
        clear hq
        go_wp2
        go_ret
        exact ⟨ret_int' E.out.symm, HB1.out⟩
      | false =>
      have HQ := Lib.hid hq
      have HE := Lib.hid he
      have he2 : (cu.toList == [69, 85, 82]) = false := he
      clear hq he
      by_cases g1 : dy < 0
      · have d1 : decide (dy < 0) = true := by simpa using g1
        have E := Lib.hid (HT.out 2 (HR2.out HQ.out HE.out (by show dy < 0 ∨ 36524 < dy ∨ pe < 1 ∨ 1000000000 < pe; omega)) (by omega))
        go_wp2_with fail
        refine (HI.out _).mono ?_
        rintro e w1 ⟨rfl, rfl⟩
        rw [HQ.out]
        go_wp2
        go_ret
        exact ⟨ret_int' E.out.symm, HB1.out⟩
      have d1 : decide (dy < 0) = false := by simpa using g1
      by_cases g2 : 36524 < dy
      · have d2 : decide (36524 < dy) = true := by simpa using g2
        have E := Lib.hid (HT.out 2 (HR2.out HQ.out HE.out (by show dy < 0 ∨ 36524 < dy ∨ pe < 1 ∨ 1000000000 < pe; omega)) (by omega))
        go_wp2_with fail
        refine (HI.out _).mono ?_
        rintro e w1 ⟨rfl, rfl⟩
        rw [HQ.out]
        go_wp2
        go_ret
        exact ⟨ret_int' E.out.symm, HB1.out⟩
      have d2 : decide (36524 < dy) = false := by simpa using g2
      by_cases g3 : pe < 1
      · have d3 : decide (pe < 1) = true := by simpa using g3
        have E := Lib.hid (HT.out 2 (HR2.out HQ.out HE.out (by show dy < 0 ∨ 36524 < dy ∨ pe < 1 ∨ 1000000000 < pe; omega)) (by omega))
        go_wp2_with fail
        refine (HI.out _).mono ?_
        rintro e w1 ⟨rfl, rfl⟩
        rw [HQ.out]
        go_wp2
        go_ret
        exact ⟨ret_int' E.out.symm, HB1.out⟩
      have d3 : decide (pe < 1) = false := by simpa using g3
      by_cases g4 : 1000000000 < pe
      · have d4 : decide (1000000000 < pe) = true := by simpa using g4
        have E := Lib.hid (HT.out 2 (HR2.out HQ.out HE.out (by show dy < 0 ∨ 36524 < dy ∨ pe < 1 ∨ 1000000000 < pe; omega)) (by omega))
        go_wp2_with fail
        refine (HI.out _).mono ?_
        rintro e w1 ⟨rfl, rfl⟩
        rw [HQ.out]
        go_wp2
        go_ret
        exact ⟨ret_int' E.out.symm, HB1.out⟩
      have d4 : decide (1000000000 < pe) = false := by simpa using g4
      have HG : Hid (¬ (dy < 0 ∨ 36524 < dy ∨ pe < 1 ∨ 1000000000 < pe)) := by show ¬ _; omega
      have HA' : Hid (rowErr xs k = 0 → ∀ i, i < k + 1 → rowErr xs i = 0) := fun h0 i hi => by
        by_cases e : i = k
        · subst e; exact h0
        · exact HA.out i (by omega)
      by_cases hk0 : 0 < k
      · obtain ⟨b', off', cu0, dy0, pe0, hA, _, k1, k2, k3, HX0⟩ := (h.below hbel).getX (show k - 1 < n by omega)
        obtain ⟨rfl, rfl⟩ : b = b' ∧ off = off' := by simpa using hA
        clear hA
        obtain ⟨r, hr⟩ : ∃ r : Nat, k = r + 1 := ⟨k - 1, by omega⟩
        subst hr
        simp only [Nat.add_sub_cancel] at k1 k2 k3 HX0
        have HBE := Lib.hid (fun w => before_any ⟨cu0, dy0, pe0⟩ ⟨cu, dy, pe⟩ w)
        have i1 : (0 : Int) ≤ (r : Int) := by omega
        have i2 : (r : Int) < (n : Int) := by omega
        have d5 : decide (0 < (r : Int) + 1) = true := by simp
        have u1 : IntKind.i64.wrap ((r : Int) + 1 - 1) = (r : Int) := (IntWalk.i64_in _ (by omega)).trans (by omega)
        have u2 : IntKind.i64.wrap (r : Int) = (r : Int) := IntWalk.i64_in _ (by omega)
        go_wp2_with fail
        refine (HI.out _).mono ?_
        rintro e w1 ⟨rfl, rfl⟩
        rw [HQ.out]
        go_wp2
        have HBl := Bl.new wr 61 #[.string cu, .int .i64 dy, .int .i64 pe]
        have q0 : (wr.alloc (.cells #[.string cu, .int .i64 dy, .int .i64 pe] 61)).cell? ⟨wr.heap.size, 0, none⟩ = some (.string cu) := HBl.cell 0
        have q1 : (wr.alloc (.cells #[.string cu, .int .i64 dy, .int .i64 pe] 61)).cell? ⟨wr.heap.size, 1, none⟩ = some (.int .i64 dy) := HBl.cell 1
        have q2 : (wr.alloc (.cells #[.string cu, .int .i64 dy, .int .i64 pe] 61)).cell? ⟨wr.heap.size, 2, none⟩ = some (.int .i64 pe) := HBl.cell 2
        have hal : RowKit.Below wr.heap.size wr (wr.alloc (.cells #[.string cu, .int .i64 dy, .int .i64 pe] 61)) := (Below.refl _ _).alloc (Nat.le_refl _) _
        have k1' := (hal.cell (p := ⟨b, off + r * 3, none⟩) hbl).trans k1
        have k2' := (hal.cell (p := ⟨b, off + r * 3 + 1, none⟩) hbl).trans k2
        have k3' := (hal.cell (p := ⟨b, off + r * 3 + 2, none⟩) hbl).trans k3
        clear k1 k2 k3 hc1 hc2 hc3 hal HBl
        generalize wr.alloc (.cells #[.string cu, .int .i64 dy, .int .i64 pe] 61) = W at *
        have HBd := Lib.hid HB1.out.drew
        go_still_tail 9, (by kernel_rfl)
        change wpList _ _ _ _ _ W.drew
        generalize W.drew = wd at *
        go_wp2_with fail
        refine (HBE.out _).mono ?_
        rintro e w2 ⟨rfl, hb2⟩
        have HB3 := Lib.hid (HBd.out.trans (hb2.mono HBd.out.size))
        cases hbb : befB ⟨cu0, dy0, pe0⟩ ⟨cu, dy, pe⟩ with
        | true =>
          have HA2 := Lib.hid (HA'.out (HR0.out HQ.out HE.out HG.out (fun _ => by rw [Nat.add_sub_cancel, HX0.out]; exact hbb)))
          clear hbb
          go_wp2
          go_roundw
          case rel => exact ⟨r + 1 + 1, by omega, by go_num, HA2.out, HB3.out⟩
          case measure => simp [intOf]; omega
        | false =>
          have E := Lib.hid (HT.out 9 (HR9.out HQ.out HE.out HG.out hk0 (by rw [Nat.add_sub_cancel, HX0.out]; exact hbb)) (by omega))
          clear hbb
          go_wp2
          go_ret
          exact ⟨ret_int' E.out.symm, HB3.out⟩
      · have d5 : decide ((0 : Int) < (k : Int)) = false := by simp; omega
        have HA2 := Lib.hid (HA'.out (HR0.out HQ.out HE.out HG.out (fun h => absurd h (by omega))))
        go_wp2_with fail
        refine (HI.out _).mono ?_
        rintro e w1 ⟨rfl, rfl⟩
        rw [HQ.out]
        go_wp2
        go_quiet (fail)
        go_wp2
        go_roundw
        case rel => exact ⟨k + 1, by omega, by go_num, HA2.out, below_drewN HB1.out _⟩
        case measure => simp [intOf]; omega
    · have E := Lib.hid (tabErr_ok (xs := xs) (by have := HL.out; omega) (fun i hi => HA.out i (by have := HL.out; omega)))
      go_wp2
      go_ret
      exact ⟨ret_int' E.out.symm, hbel⟩
end Go.Proofs.Ytknbbamlpadfdaa

/-
  Contract of quota.Allocate: a grant for each request and what is left, or an error. No statement of the seat is proved here. Conditions: the list's length fits an int.
-/
import Derived.Test.YtpadpohaadfefaaMade2
import Derived.Test.YtpadpohaadfefaaLaw03d
import Derived.Deep.DeepCutAuto
namespace Go.Proofs.Ytpadpohaadfefaa
open Go.RowKit
set_option linter.unusedVariables false

/-- The quantities of requests. -/
def qsOf (xs : List (Int × Int)) : List Int := xs.map (·.2)
theorem qsOf_len (xs : List (Int × Int)) : (qsOf xs).length = xs.length := by simp [qsOf]
theorem qsOf_get (xs : List (Int × Int)) (i : Nat) (h : i < xs.length) : (qsOf xs).getD i 0 = xs[i]!.2 := by
  simp [qsOf, List.getD, List.getElem?_eq_getElem h, getElem!_pos xs i h]
/-- What request i is granted. -/
def grantV (t : Int) (xs : List (Int × Int)) (i : Nat) : Int := if (qsOf xs).sum ≤ t then xs[i]!.2 else shareI t (qsOf xs) i
def grantsOf (t : Int) (xs : List (Int × Int)) : List (Int × Int) := (List.range xs.length).map fun i => (xs[i]!.1, grantV t xs i)
def allocErr (t : Int) (xs : List (Int × Int)) : Int := if t < 0 ∨ 1000000000000 < t then 2 else vErr xs
def allocOut (t : Int) (xs : List (Int × Int)) : List (Int × Int) := if allocErr t xs = 0 then grantsOf t xs else []
def allocLeft (t : Int) (xs : List (Int × Int)) : Int := if allocErr t xs = 0 then max (t - (qsOf xs).sum) 0 else 0
theorem grantsOf_len (t : Int) (xs : List (Int × Int)) : (grantsOf t xs).length = xs.length := by simp [grantsOf]

theorem range_getD (l : List Int) (n : Nat) (h : l.length = n) : (List.range n).map (fun j => l.getD j 0) = l := by
  subst h
  apply List.ext_getElem
  · simp
  · intro i h1 h2
    simp [List.getD, List.getElem?_eq_getElem h2]

def AllocRes (w : World) (T : TypeId) (out : List (Int × Int)) (left er : Int) (e : Ending) (w' : World) : Prop :=
  ∃ A n c, e = .returned (.tuple #[.slice A n c, .int .i64 left, .int .i64 er]) ∧ out.length = n ∧ w'.ownsRow w.heap.size T 2 (.slice A n c) n (flat enc2 out) ∧ RowKit.Below w.heap.size w w'

theorem own_nil2 (w : World) (b : Nat) (T : TypeId) : w.ownsRow b T 2 (.slice none 0 0) 0 (flat enc2 []) := ⟨by simp [flat], .inl ⟨rfl, rfl⟩⟩

theorem infoG : (Try.prog.info? 47).map (fun i => (i.zero, i.size, i.bytes)) = some (some (.agg #[.int .i64 0, .int .i64 0]), 2, 16) := by kernel_rfl

theorem RecRow.zeros2 {C : Array Value} {n : Nat} (h : C.size = n * 2 ∧ ∀ j, j < n * 2 → C[j]? = some ((Value.agg #[.int .i64 0, .int .i64 0]).cells[j % (Value.agg #[.int .i64 0, .int .i64 0]).cells.size]!)) : RecRow enc2 2 C n (fun _ => (0, 0)) := by
  refine ⟨h.1, fun j hj c hc => ?_⟩
  rw [h.2 (j * 2 + c) (by omega)]
  have e : (Value.agg #[.int .i64 0, .int .i64 0]).cells.size = 2 := rfl
  rw [e, show (j * 2 + c) % 2 = c by omega]
  have hcc : c = 0 ∨ c = 1 := by omega
  rcases hcc with rfl | rfl <;> rfl

set_option maxRecDepth 100000 in
set_option maxHeartbeats 4000000 in
theorem alloc_any (t : Int) (A : Option Addr) (n c : Nat) (xs : List (Int × Int)) (w : World) (h : Recs enc2 2 w A n xs) (hm : n ≤ 9223372036854775807) :
    Calls Try.prog 30 #[.int .i64 t, .slice A n c] w (AllocRes w 47 (allocOut t xs) (allocLeft t xs) (allocErr t xs)) := by
  by_cases h1 : t < 0
  · have E : allocErr t xs = 2 := by unfold allocErr; rw [if_pos (by omega)]
    unfold allocOut allocLeft
    rw [E, if_neg (by omega), if_neg (by omega)]
    clear E
    have d1 : decide (t < 0) = true := by simpa using h1
    go_enter Try.func30, Try.ntmps30
    go_wp2
    go_ret3
    exact ⟨_, _, _, rfl, rfl, own_nil2 _ _ _, Below.refl _ _⟩
  have d1 : decide (t < 0) = false := by simpa using h1
  by_cases h2 : 1000000000000 < t
  · have E : allocErr t xs = 2 := by unfold allocErr; rw [if_pos (by omega)]
    unfold allocOut allocLeft
    rw [E, if_neg (by omega), if_neg (by omega)]
    clear E
    have d2 : decide (1000000000000 < t) = true := by simpa using h2
    go_enter Try.func30, Try.ntmps30
    go_wp2
    go_ret3
    exact ⟨_, _, _, rfl, rfl, own_nil2 _ _ _, Below.refl _ _⟩
  have d2 : decide (1000000000000 < t) = false := by simpa using h2
  have E : allocErr t xs = vErr xs := by unfold allocErr; rw [if_neg (by omega)]
  have HV := Lib.hid (validate_any A n c xs w h hm)
  by_cases h3 : vErr xs = 0
  · obtain ⟨v1, v2, v3⟩ := vErr_zero h3
    unfold allocOut allocLeft
    rw [E, h3, if_pos rfl, if_pos rfl]
    rw [h3] at HV
    have hl := h.1
    have hq : ∀ i : Nat, 0 ≤ (qsOf xs).getD i 0 ∧ (qsOf xs).getD i 0 ≤ 1000000000 := fun i => by
      by_cases hi : i < xs.length
      · rw [qsOf_get xs i hi]; exact ⟨(v2 i hi).2.2.1, (v2 i hi).2.2.2⟩
      · simp [List.getD, List.getElem?_eq_none (show (qsOf xs).length ≤ i by rw [qsOf_len]; omega)]
    have HQ := Lib.hid hq
    have HL := Lib.hid hl
    have hn : n ≤ 200 := by omega
    obtain ⟨C1, HC1, hmk1⟩ := make_any (P := Try.prog) 22 3 _ 1 8 n Try.underlying22 infoI (by omega) (by omega)
    obtain ⟨C2, HC2, hmk2⟩ := make_any (P := Try.prog) 39 47 _ 2 16 n Try.underlying39 infoG (by omega) (by omega)
    clear E h3 v1 v2 v3 hq hl
    go_enter Try.func30, Try.ntmps30
    go_wp2_with fail
    refine HV.out.mono ?_
    rintro e w1 ⟨rfl, hb1⟩
    have h' := h.below hb1
    go_wp2
    go_loopw [8, 32] (fun s i wr => ∃ (k : Nat) (cs : Array Value), k ≤ n ∧ i = .int .i64 k ∧ s = .int .i64 ((qsOf xs).take k).sum ∧ Bl wr w1.heap.size 3 cs ∧ IntRow cs n (fun j => if j < k then (qsOf xs).getD j 0 else 0) ∧ RowKit.Below w1.heap.size w1 wr) (fun _ i _ => n - (intOf i).toNat)
    case atStart => exact ⟨0, C1, Nat.zero_le _, rfl, by simp, Bl.new _ _ _, (IntRow.zeros HC1.out).congr (fun j _ => by simp), (Below.refl _ _).alloc (Nat.le_refl _) _⟩
    case round =>
      obtain ⟨k, cs, hk, rfl, rfl, HB, HR, hbel⟩ := hrel
      by_cases hlt : k < n
      · obtain ⟨b, off, x, y, hA, hbl, hc1, hc2, HX⟩ := h'.get2 hlt
        subst hA
        have hc3 : wr.cell? ⟨b, off + k * 2 + 1, none⟩ = some (.int .i64 y) := (hbel.cell (p := ⟨b, off + k * 2 + 1, none⟩) hbl).trans hc2
        have hne : b ≠ w1.heap.size := by omega
        have c3 := HR.cell HB hlt
        rw [if_neg (by omega)] at c3
        have f3 : wr.frozen? ⟨w1.heap.size, k, none⟩ = false := HB.free k
        have hy : (qsOf xs).getD k 0 = y := by rw [qsOf_get xs k (by have := HL.out; omega), HX.out]
        have hbs := sum_take_bound (qsOf xs) 1000000000 HQ.out k (by rw [qsOf_len]; have := HL.out; omega)
        have hb0 := HQ.out k
        have HSS := Lib.hid (sum_take_succ (qsOf xs) k (by rw [qsOf_len]; have := HL.out; omega))
        rw [hy] at hb0 HSS
        have HS : Hid (IntRow (cs.setIfInBounds k (.int .i64 y)) n (fun j => if j < k + 1 then (qsOf xs).getD j 0 else 0)) := HR.set k y (fun j hj => by
          by_cases e : j = k
          · subst e; rw [if_pos (by omega), if_pos rfl, hy]
          · rw [if_neg e]; by_cases e2 : j < k
            · rw [if_pos e2, if_pos (by omega)]
            · rw [if_neg e2, if_neg (by omega)])
        generalize ((qsOf xs).take k).sum = s at *
        clear hy hc1 hc2
        go_wp2
        go_roundw
        case rel => exact ⟨k + 1, _, by omega, by go_num, by rw [HSS.out], HB.put _ _, HS.out, hbel.setCell (Nat.le_refl _) _⟩
        case measure => simp [intOf]; omega
      · obtain rfl : k = n := by omega
        rw [List.take_of_length_le (by rw [qsOf_len]; have := HL.out; omega)]
        have hS := sum_take_bound (qsOf xs) 1000000000 HQ.out (qsOf xs).length (Nat.le_refl _)
        rw [List.take_length, qsOf_len, HL.out] at hS
        have hIq : Ints wr (some ⟨w1.heap.size, 0, none⟩) k (qsOf xs) := by
          have how := (HR.congr (g := fun j => (qsOf xs).getD j 0) (fun j hj => by simp [hj])).own HB (Nat.le_refl _) (by omega)
          rw [range_getD (qsOf xs) k (by rw [qsOf_len]; exact HL.out)] at how
          exact IntsK.of_own how
        have hb := hb1.trans (hbel.mono hb1.size)
        have hcf := cap_facts t (qsOf xs) (by omega) (by omega) (by rw [qsOf_len]; have := HL.out; omega) (fun i => by have := HQ.out i; omega)
        have HCE := Lib.hid hcf.1
        have HCL := Lib.hid hcf.2.1
        clear HR HB hcf hmk1 HC1
        obtain ⟨S, hSe⟩ : ∃ S, (qsOf xs).sum = S := ⟨_, rfl⟩
        rw [hSe] at hS ⊢
        have HSE := Lib.hid hSe
        clear hSe
        have hmk2' := Lib.hid hmk2
        clear hmk2
        go_upto_if 54 with (fail)
        go_cut [11, 12] (fun l g wx => ∃ (A2 : Option Addr) (c2 : Nat) (G : List Int) (lv : Int), l = .int .i64 lv ∧ g = .slice A2 k c2 ∧ Ints wx A2 k G ∧ Hid (lv = max (t - S) 0 ∧ ∀ i, i < k → G.getD i 0 = grantV t xs i) ∧ RowKit.Below w.heap.size w wx ∧ w1.heap.size ≤ wx.heap.size ∧ Recs enc2 2 wx A k xs)
        case first =>
          by_cases hle : S ≤ t
          · go_wp2_with fail
            go_meet
            exact ⟨_, _, qsOf xs, _, rfl, rfl, hIq, ⟨by omega, fun i hi => by unfold grantV; rw [HSE.out, if_pos hle, qsOf_get xs i (by have := HL.out; omega)]⟩, hb, hbel.size, h'.below hbel⟩
          · go_wp2_with fail
            refine (cap_any t (some ⟨w1.heap.size, 0, none⟩) k k (qsOf xs) _ hIq (by omega)).mono ?_
            rintro e w3 ⟨A3, n3, c3, rfl, ho3, hb3⟩
            rw [HCE.out]
            have hn3 := own_len ho3
            rw [HCL.out, qsOf_len, HL.out] at hn3
            subst hn3
            have hO : capOut t (qsOf xs) = shareL t (qsOf xs) := by
              unfold capOut
              have hq0 : ¬ (qsOf xs).length = 0 := fun e => by
                have : qsOf xs = [] := List.eq_nil_of_length_eq_zero e
                have h9 := HSE.out
                rw [this] at h9
                simp at h9
                omega
              rw [if_pos (chk_ok (by omega) (by omega) (by rw [qsOf_len]; have := HL.out; omega) (by omega) (fun i => by have := HQ.out i; omega)), HSE.out, if_neg (by omega)]
            rw [hO] at ho3
            have hI3 := IntsK.of_own ho3
            have hbel3 := hbel.trans (hb3.mono hbel.size)
            clear hO ho3
            go_wp2_with fail
            go_meet
            exact ⟨_, _, shareL t (qsOf xs), _, rfl, rfl, hI3, ⟨by omega, fun i hi => by unfold grantV; rw [HSE.out, if_neg (by omega), shareL_get t (qsOf xs) i (by rw [qsOf_len]; have := HL.out; omega)]⟩, hb.trans (hb3.mono hb.size), hbel3.size, h'.below hbel3⟩
        case rest =>
          obtain ⟨A2, c2, G, lv, rfl, rfl, hIG, HG, hbx, hsx, hx⟩ := hcut
          have hmk2 := hmk2'.out
          go_wp2
          go_loopw [72] (fun i wr => ∃ (p : Nat) (cs : Array Value), p ≤ k ∧ i = .int .i64 p ∧ Bl wr wc.heap.size 47 cs ∧ RecRow enc2 2 cs k (fun j => if j < p then (xs[j]!.1, grantV t xs j) else (0, 0)) ∧ RowKit.Below wc.heap.size wc wr) (fun i _ => k - (intOf i).toNat)
          case atStart => exact ⟨0, C2, Nat.zero_le _, rfl, Bl.new _ _ _, (RecRow.zeros2 HC2.out).congr (fun j _ => by simp), (Below.refl _ _).alloc (Nat.le_refl _) _⟩
          case round =>
            obtain ⟨p, cs2, hp, rfl, HB, HR, hbel2⟩ := hrel
            by_cases hlt2 : p < k
            · obtain ⟨b, off, x, y, hA, hbl, hc1, hc2, HX⟩ := hx.get2 hlt2
              subst hA
              obtain ⟨b2, off2, gv, hA2, hbl2, hc3, HX2⟩ := hIG.get hlt2
              subst hA2
              have e1 : wr.cell? ⟨b, off + p * 2, none⟩ = some (.int .i64 x) := (hbel2.cell (p := ⟨b, off + p * 2, none⟩) hbl).trans hc1
              have e2 : wr.cell? ⟨b2, off2 + p, none⟩ = some (.int .i64 gv) := (hbel2.cell (p := ⟨b2, off2 + p, none⟩) hbl2).trans hc3
              have q0 := HR.cell HB hlt2 (c := 0) (by omega)
              have q1 := HR.cell HB hlt2 (c := 1) (by omega)
              rw [if_neg (by omega)] at q0 q1
              have q0' : wr.cell? ⟨wc.heap.size, p * 2, none⟩ = some (.int .i64 0) := q0
              have q1' : wr.cell? ⟨wc.heap.size, p * 2 + 1, none⟩ = some (.int .i64 0) := q1
              have f0 : wr.frozen? ⟨wc.heap.size, p * 2, none⟩ = false := HB.free _
              have f1 : wr.frozen? ⟨wc.heap.size, p * 2 + 1, none⟩ = false := HB.free _
              have hgv : grantV t xs p = gv := by rw [← HG.out.2 p hlt2, HX2.out]
              have HP : Hid (RecRow enc2 2 ((cs2.setIfInBounds (p * 2) (.int .i64 x)).setIfInBounds (p * 2 + 1) (.int .i64 gv)) k (fun j => if j < p + 1 then (xs[j]!.1, grantV t xs j) else (0, 0))) := (HR.put2 p (x, gv) hlt2).congr (fun j hj => by
                by_cases e : j = p
                · subst e; rw [if_pos rfl, if_pos (by omega), HX.out, hgv]
                · rw [if_neg e]; by_cases e2 : j < p
                  · rw [if_pos e2, if_pos (by omega)]
                  · rw [if_neg e2, if_neg (by omega)])
              have i1 : (0 : Int) ≤ (p : Int) := by omega
              have i2 : (p : Int) < (k : Int) := by omega
              clear q0 q1 hc1 hc2 hc3 hgv
              go_wp2
              go_region
              go_wp2
              go_roundw
              case rel => exact ⟨p + 1, _, by omega, by go_num, (HB.put _ _).put _ _, HP.out, ((hbel2.setCell (Nat.le_refl _) _).setCell (Nat.le_refl _) _).drew⟩
              case measure => simp [intOf]; omega
            · obtain rfl : p = k := by omega
              have how := (HR.congr (g := fun j => (xs[j]!.1, grantV t xs j)) (fun j hj => by simp [hj])).own enc2_len HB hbx.size (by omega)
              have hgo : (List.range p).map (fun j => (xs[j]!.1, grantV t xs j)) = grantsOf t xs := by unfold grantsOf; rw [HL.out]
              rw [hgo] at how
              go_wp2
              go_ret3
              rw [HSE.out, ← HG.out.1]
              exact ⟨_, _, _, rfl, by rw [grantsOf_len]; exact HL.out, how, hbx.trans (hbel2.mono hbx.size)⟩
  · unfold allocOut allocLeft
    rw [E, if_neg h3, if_neg h3]
    have b1 : (vErr xs != 0) = true := by simpa using h3
    clear E h3
    generalize vErr xs = er at *
    go_enter Try.func30, Try.ntmps30
    go_wp2_with fail
    refine HV.out.mono ?_
    rintro e w1 ⟨rfl, hb1⟩
    go_wp2
    go_ret3
    exact ⟨_, _, _, rfl, rfl, own_nil2 _ _ _, hb1⟩
end Go.Proofs.Ytpadpohaadfefaa

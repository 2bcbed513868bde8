/-
  Contracts of latent.Validate, drawback.find and latent.Portion. No statement of the seat is proved here. Conditions: the lists read as charges; the portion's arguments are valid.
  Contracts of drawback.find, latent.upTo and latent.Portion. No statement of the seat is proved here. Conditions: the list reads as charges; the portion's arguments are valid.
  Contracts of drawback's portion, sum, Borne and Payable. No statement of the seat is proved here. Conditions: the lists read as slices and charges.
-/
import Derived.Test.YthnhgjhnkncmiaaGreatMAJ
import Derived.Test.YthnhgjhnkncmiaaGreatMAD
namespace Go.Proofs.YthnhgjhnkncmiaaGreat
open Go.RowKit
set_option linter.unusedVariables false

theorem chErr_bad {l : List Ch} (h : l.length ≤ 64) {i : Nat} (hi : i < l.length) (hx : chOk l[i]! = false) : chErr l = 2 := by
  unfold chErr
  rw [if_neg (by omega), if_neg]
  intro hall
  have := hall l[i]! (by rw [getElem!_pos l i hi]; exact List.getElem_mem _)
  rw [hx] at this
  cases this
theorem chErr_ord {l : List Ch} (h : l.length ≤ 64) (hv : ∀ c ∈ l, chOk c = true) (ha : ¬ cAsc l) : chErr l = 9 := by
  unfold chErr
  rw [if_neg (by omega), if_pos hv, if_neg ha]
theorem chErr_fine {l : List Ch} (h : l.length ≤ 64) (hv : ∀ c ∈ l, chOk c = true) (ha : cAsc l) : chErr l = 0 := by
  unfold chErr
  rw [if_neg (by omega), if_pos hv, if_pos ha]
set_option maxHeartbeats 1000000 in
theorem vUnits_any (n : Int) (w : World) : Calls Tryz.prog 66 #[.int .i64 n] w fun e w' => e = .returned (.bool (decide (1 ≤ n) && decide (n ≤ 1000000000))) ∧ w' = w := by
  by_cases h1 : 1 ≤ n
  · have d1 : decide (1 ≤ n) = true := decide_eq_true h1
    rw [d1]
    go_enter Tryz.func66, Tryz.ntmps66
    go_wp2
    go_ret
    exact ⟨rfl, rfl⟩
  · have d1 : decide (1 ≤ n) = false := decide_eq_false h1
    rw [d1]
    go_enter Tryz.func66, Tryz.ntmps66
    go_wp2
    go_ret
    exact ⟨rfl, rfl⟩
set_option maxHeartbeats 1000000 in
theorem vAmount_any (n : Int) (w : World) : Calls Tryz.prog 67 #[.int .i64 n] w fun e w' => e = .returned (.bool (decide (0 ≤ n) && decide (n ≤ 1000000000000))) ∧ w' = w := by
  by_cases h1 : 0 ≤ n
  · have d1 : decide (0 ≤ n) = true := decide_eq_true h1
    rw [d1]
    go_enter Tryz.func67, Tryz.ntmps67
    go_wp2
    go_ret
    exact ⟨rfl, rfl⟩
  · have d1 : decide (0 ≤ n) = false := decide_eq_false h1
    rw [d1]
    go_enter Tryz.func67, Tryz.ntmps67
    go_wp2
    go_ret
    exact ⟨rfl, rfl⟩
set_option maxRecDepth 100000 in
set_option maxHeartbeats 8000000 in
theorem chVal_any (A : Option Addr) (n c : Nat) (xs : List Ch) (w : World) (h : Recs encCh 3 w A n xs) :
    Calls Tryz.prog 39 #[.slice A n c] w (EInt w (chErr xs)) := by
  have HX := Lib.hid h
  have hxl : xs.length = n := h.1
  have HVU := Lib.hid vUnits_any
  have HVA := Lib.hid vAmount_any
  clear h
  by_cases h64 : 64 < n
  case pos =>
    have d0 : decide ((n : Int) > 64) = true := by simp; omega
    have d1 : decide (64 < n) = true := by simp; omega
    have hr : chErr xs = 8 := by unfold chErr; rw [if_pos (by omega)]
    rw [hr]
    go_enter Tryz.func39, Tryz.ntmps39
    go_wp2
    go_ret
    exact ⟨rfl, Below.refl _ _⟩
  case neg =>
  have d0 : decide ((n : Int) > 64) = false := by simp; omega
  have d1 : decide (64 < n) = false := by simp; omega
  go_enter Tryz.func39, Tryz.ntmps39
  go_wp2_with fail
  clear d0 d1
  go_loopw [11] (fun v wx => ∃ i : Nat, v = .int .i64 (i : Int) ∧ i ≤ n ∧ Hid (∀ j, j < i → chOk xs[j]! = true) ∧ Hid (RowKit.Below w.heap.size w wx)) (fun v _ => n - (intOf v).toNat)
  case atStart => exact ⟨0, rfl, Nat.zero_le _, (fun j hj => by omega), Below.refl _ _⟩
  case round =>
    obtain ⟨i, rfl, hi, HN, HB⟩ := hrel
    by_cases hlt : i < n
    case pos =>
      have dk : decide ((i : Int) < (n : Int)) = true := by simp; omega
      obtain ⟨b1, o1, rfl, hb1, ha⟩ := recs_at (HX.out.below HB.out) hlt
      obtain ⟨x, hx⟩ : ∃ x, xs[i]! = x := ⟨_, rfl⟩
      rw [hx] at ha
      have a0 : wr.cell? ⟨b1, o1 + i * 3, none⟩ = some (.int .i64 x.src) := ha.out 0 (by omega)
      have a1 : wr.cell? ⟨b1, o1 + i * 3 + 1, none⟩ = some (.int .i64 x.un) := ha.out 1 (by omega)
      have a2 : wr.cell? ⟨b1, o1 + i * 3 + 2, none⟩ = some (.int .i64 x.am) := ha.out 2 (by omega)
      have HXI := Lib.hid hx
      have hno : Hid (∀ P : Prop, P → (chOk x = true → ¬ P) → chErr xs = 2) := fun P h1 h2 => chErr_bad (by omega) (i := i) (by omega) (by
        rw [HXI.out]
        cases hc : chOk x
        · rfl
        · exact absurd h1 (h2 hc))
      have hii : (i : Int) < (n : Int) := by omega
      have hiz : (0 : Int) ≤ (i : Int) := by omega
      clear ha hx
      have HBA : Hid (RowKit.Below w.heap.size w (wr.alloc (.cells #[.int .i64 x.src, .int .i64 x.un, .int .i64 x.am] 61))) := HB.out.alloc HB.out.size _
      have HXB : Hid (Bl (wr.alloc (.cells #[.int .i64 x.src, .int .i64 x.un, .int .i64 x.am] 61)) wr.heap.size 61 #[.int .i64 x.src, .int .i64 x.un, .int .i64 x.am]) := Bl.new _ _ _
      go_upto_region 6 with (fail)
      clear a0 a1 a2 HB hb1
      generalize wr.alloc (.cells #[.int .i64 x.src, .int .i64 x.un, .int .i64 x.am] 61) = W at *
      generalize wr.heap.size = gx at *
      have x0 : W.cell? ⟨gx, 0, none⟩ = some (.int .i64 x.src) := HXB.out.cell 0
      have x1 : W.cell? ⟨gx, 1, none⟩ = some (.int .i64 x.un) := HXB.out.cell 1
      have x2 : W.cell? ⟨gx, 2, none⟩ = some (.int .i64 x.am) := HXB.out.cell 2
      by_cases g0 : x.src < 1
      case pos =>
        have d0 : decide (x.src < 1) = true := decide_eq_true g0
        have HR := Lib.hid (hno.out (x.src < 1) g0 (fun h => by have := chOk_yes h; omega))
        clear g0
        go_wp2
        go_ret
        exact ⟨by rw [HR.out]; rfl, HBA.out⟩
      case neg =>
      have d0 : decide (x.src < 1) = false := decide_eq_false g0
      by_cases g1 : x.src > 1000000
      case pos =>
        have d1 : decide (x.src > 1000000) = true := decide_eq_true g1
        have HR := Lib.hid (hno.out (x.src > 1000000) g1 (fun h => by have := chOk_yes h; omega))
        clear g0 g1
        go_wp2
        go_ret
        exact ⟨by rw [HR.out]; rfl, HBA.out⟩
      case neg =>
      have d1 : decide (x.src > 1000000) = false := decide_eq_false g1
      go_wp2_with fail
      refine (HVU.out x.un W).mono ?_
      rintro e w8 ⟨rfl, rfl⟩
      cases hu : (decide (1 ≤ x.un) && decide (x.un ≤ 1000000000))
      case false =>
        have HR := Lib.hid (hno.out ((decide (1 ≤ x.un) && decide (x.un ≤ 1000000000)) = false) hu (fun h k => by have := chOk_yes h; simp at k; omega))
        clear g0 g1 hu
        go_wp2
        go_ret
        exact ⟨by rw [HR.out]; rfl, HBA.out⟩
      case true =>
      have HU := Lib.hid hu
      clear hu
      go_wp2_with fail
      refine (HVA.out x.am w8).mono ?_
      rintro e w9 ⟨rfl, rfl⟩
      cases hm : (decide (0 ≤ x.am) && decide (x.am ≤ 1000000000000))
      case false =>
        have HR := Lib.hid (hno.out ((decide (0 ≤ x.am) && decide (x.am ≤ 1000000000000)) = false) hm (fun h k => by have := chOk_yes h; simp at k; omega))
        clear g0 g1 hm
        go_wp2
        go_ret
        exact ⟨by rw [HR.out]; rfl, HBA.out⟩
      case true =>
        have hok : chOk x = true := by
          have h1 := HU.out
          simp at h1 hm
          simp [chOk]
          omega
        have HN2 : Hid (∀ j, j < i + 1 → chOk xs[j]! = true) := fun j hj => by
          by_cases e : j = i
          · subst e; rw [HXI.out]; exact hok
          · exact HN.out j (by omega)
        clear hok hm
        go_wp2_with fail
        go_roundw
        case rel => exact ⟨i + 1, by go_num, by omega, HN2, HBA⟩
        case measure => simp [intOf]; omega
    case neg =>
    have dk : decide ((i : Int) < (n : Int)) = false := by simp; omega
    have HV : Hid (∀ x ∈ xs, chOk x = true) := fun x hx => by
      obtain ⟨j, hj, rfl⟩ := List.getElem_of_mem hx
      have := HN.out j (by omega)
      rwa [getElem!_pos xs j hj] at this
    clear HN
    go_wp2_with fail
    go_loopw [5] (fun v wx => ∃ i : Nat, v = .int .i64 (i : Int) ∧ 1 ≤ i ∧ i ≤ n + 1 ∧ (i ≤ n ∨ n = 0) ∧ Hid (∀ j, j + 1 < i → xs[j]!.src < xs[j + 1]!.src) ∧ Hid (RowKit.Below w.heap.size w wx)) (fun v _ => n + 1 - (intOf v).toNat)
    case atStart => exact ⟨1, rfl, by omega, by omega, by omega, (fun j hj => by omega), HB⟩
    case round =>
      clear HB dk
      obtain ⟨i, rfl, hi1, hi2, hi3, HN, HB⟩ := hrel
      by_cases hlt : i < n
      case neg =>
        have dk : decide ((i : Int) < (n : Int)) = false := by simp; omega
        have HR : Hid (chErr xs = 0) := chErr_fine (by omega) HV.out fun j hj => HN.out j (by omega)
        go_wp2
        go_ret
        exact ⟨by rw [HR.out]; rfl, HB.out⟩
      case pos =>
      have dk : decide ((i : Int) < (n : Int)) = true := by simp; omega
      obtain ⟨b1, o1, rfl, hb1, ha⟩ := recs_at (HX.out.below HB.out) hlt
      obtain ⟨b3, o3, e3, hb3, hd⟩ := recs_at (HX.out.below HB.out) (show i - 1 < n by omega)
      injection e3 with e3
      injection e3 with e4 e5
      subst e4 e5
      obtain ⟨x, hx⟩ : ∃ x, xs[i]! = x := ⟨_, rfl⟩
      obtain ⟨y, hy⟩ : ∃ y, xs[i - 1]! = y := ⟨_, rfl⟩
      rw [hx] at ha
      rw [hy] at hd
      have a0 : wr.cell? ⟨b1, o1 + i * 3, none⟩ = some (.int .i64 x.src) := ha.out 0 (by omega)
      have c0 : wr.cell? ⟨b1, o1 + (i - 1) * 3, none⟩ = some (.int .i64 y.src) := hd.out 0 (by omega)
      have HXI := Lib.hid hx
      have HYI := Lib.hid hy
      have hk1 : (i : Int) - 1 = ((i - 1 : Nat) : Int) := by omega
      have u1 : IntKind.i64.wrap ((i : Int) - 1) = ((i - 1 : Nat) : Int) := by rw [hk1]; exact IntWalk.i64_in _ (by omega)
      have hkk : ((i - 1 : Nat) : Int) < (n : Int) := by omega
      have hkz : (0 : Int) ≤ ((i - 1 : Nat) : Int) := by omega
      have hii : (i : Int) < (n : Int) := by omega
      have hiz : (0 : Int) ≤ (i : Int) := by omega
      clear ha hd hx hy hk1
      by_cases g : x.src ≤ y.src
      case pos =>
        have d1 : decide (x.src ≤ y.src) = true := decide_eq_true g
        have HR : Hid (chErr xs = 9) := chErr_ord (by omega) HV.out fun h => by
          have := h (i - 1) (by omega)
          rw [show i - 1 + 1 = i by omega, HXI.out, HYI.out] at this
          omega
        clear g
        go_upto_region 12 with (fail)
        go_quiet (fail)
        go_wp2
        go_ret
        exact ⟨by rw [HR.out]; rfl, below_drewN HB.out _⟩
      case neg =>
        have d1 : decide (x.src ≤ y.src) = false := decide_eq_false g
        have HN2 : Hid (∀ j, j + 1 < i + 1 → xs[j]!.src < xs[j + 1]!.src) := fun j hj => by
          by_cases e : j + 1 = i
          · have e2 : j = i - 1 := by omega
            rw [e, e2, HXI.out, HYI.out]
            omega
          · exact HN.out j (by omega)
        clear g
        go_upto_region 12 with (fail)
        go_quiet (fail)
        go_wp2_with fail
        go_roundw
        case rel => exact ⟨i + 1, by go_num, by omega, by omega, by omega, HN2, below_drewN HB.out _⟩
        case measure => simp [intOf]; omega
end Go.Proofs.YthnhgjhnkncmiaaGreat

namespace Go.Proofs.YthnhgjhnkncmiaaGreat
open Go.RowKit
set_option linter.unusedVariables false

theorem findC_hit {l : List Ch} {s : Int} {i : Nat} (hi : i < l.length) (h : ∀ j, j < i → l[j]!.src ≠ s) (hx : l[i]!.src = s) : findC l s = some l[i]! := by
  unfold findC
  rw [List.find?_eq_some_iff_getElem]
  refine ⟨by simpa using hx, i, hi, (getElem!_pos l i hi).symm, fun j hj => ?_⟩
  have := h j hj
  rw [getElem!_pos l j (by omega)] at this
  simpa using this
theorem findC_none {l : List Ch} {s : Int} (h : ∀ j, j < l.length → l[j]!.src ≠ s) : findC l s = none := by
  unfold findC
  rw [List.find?_eq_none]
  intro c hc
  obtain ⟨j, hj, rfl⟩ := List.getElem_of_mem hc
  have := h j hj
  rw [getElem!_pos l j hj] at this
  simpa using this
def FindRes (w : World) (o : Option Ch) (e : Ending) (w' : World) : Prop := e = .returned (.tuple #[.agg #[.int .i64 (o.getD ⟨0, 0, 0⟩).src, .int .i64 (o.getD ⟨0, 0, 0⟩).un, .int .i64 (o.getD ⟨0, 0, 0⟩).am], .bool o.isSome]) ∧ RowKit.Below w.heap.size w w'
theorem FindRes.of {w W : World} {o : Option Ch} {x y z : Int} {b : Bool} {ds : Array Value} (hb : RowKit.Below w.heap.size w W) (h : Bl W w.heap.size 61 ds) (e : o.getD ⟨0, 0, 0⟩ = ⟨x, y, z⟩) (e2 : o.isSome = b) :
    FindRes w o (.returned (.tuple #[.agg #[.int .i64 x, .int .i64 y, .int .i64 z], .bool b])) (((W.setCell ⟨w.heap.size, 0, none⟩ (.int .i64 x)).setCell ⟨w.heap.size, 1, none⟩ (.int .i64 y)).setCell ⟨w.heap.size, 2, none⟩ (.int .i64 z)) := by
  have hkp : Kp w.heap.size W (((W.setCell ⟨w.heap.size, 0, none⟩ (.int .i64 x)).setCell ⟨w.heap.size, 1, none⟩ (.int .i64 y)).setCell ⟨w.heap.size, 2, none⟩ (.int .i64 z)) := (((Kp.refl _ W).put 0 _).put 1 _).put 2 _
  exact ⟨by rw [e, e2], hkp.under hb hb.size (Nat.le_refl _)⟩
set_option maxRecDepth 100000 in
set_option maxHeartbeats 8000000 in
theorem find_any (A : Option Addr) (n c : Nat) (xs : List Ch) (s : Int) (w : World) (h : Recs encCh 3 w A n xs) (hn : n ≤ 1000) :
    Calls Tryz.prog 68 #[.slice A n c, .int .i64 s] w (FindRes w (findC xs s)) := by
  have hxl : xs.length = n := h.1
  have hb0 : RowKit.Below w.heap.size w (w.alloc (.cells #[.int .i64 0, .int .i64 0, .int .i64 0] 61)) := (Below.refl _ _).alloc (Nat.le_refl _) _
  have hr0 : Bl (w.alloc (.cells #[.int .i64 0, .int .i64 0, .int .i64 0] 61)) w.heap.size 61 #[.int .i64 0, .int .i64 0, .int .i64 0] := Bl.new _ _ _
  have HB0 := Lib.hid hb0
  have HR0 := Lib.hid hr0
  have HX := Lib.hid (h.below hb0)
  clear h hb0 hr0
  go_enter Tryz.func68, Tryz.ntmps68
  go_upto_region 1 with (fail)
  generalize w.alloc (.cells #[.int .i64 0, .int .i64 0, .int .i64 0] 61) = wz at *
  go_wp2_with fail
  go_loopw [10] (fun v wx => ∃ i : Nat, v = .int .i64 (i : Int) ∧ i ≤ n ∧ Hid (∀ j, j < i → xs[j]!.src ≠ s) ∧ Hid (RowKit.Below wz.heap.size wz wx)) (fun v _ => n - (intOf v).toNat)
  case atStart => exact ⟨0, rfl, Nat.zero_le _, (fun j hj => by omega), Below.refl _ _⟩
  case round =>
    obtain ⟨i, rfl, hi, HN, HB⟩ := hrel
    by_cases hlt : i < n
    case pos =>
      have dk : decide ((i : Int) < (n : Int)) = true := by simp; omega
      obtain ⟨b1, o1, rfl, hb1, ha⟩ := recs_at (HX.out.below HB.out) hlt
      obtain ⟨x, hx⟩ : ∃ x, xs[i]! = x := ⟨_, rfl⟩
      rw [hx] at ha
      have a0 : wr.cell? ⟨b1, o1 + i * 3, none⟩ = some (.int .i64 x.src) := ha.out 0 (by omega)
      have a1 : wr.cell? ⟨b1, o1 + i * 3 + 1, none⟩ = some (.int .i64 x.un) := ha.out 1 (by omega)
      have a2 : wr.cell? ⟨b1, o1 + i * 3 + 2, none⟩ = some (.int .i64 x.am) := ha.out 2 (by omega)
      have HXI := Lib.hid hx
      have hii : (i : Int) < (n : Int) := by omega
      have hiz : (0 : Int) ≤ (i : Int) := by omega
      clear ha hx
      have HBA : Hid (RowKit.Below wz.heap.size wz (wr.alloc (.cells #[.int .i64 x.src, .int .i64 x.un, .int .i64 x.am] 61))) := HB.out.alloc HB.out.size _
      have HXB : Hid (Bl (wr.alloc (.cells #[.int .i64 x.src, .int .i64 x.un, .int .i64 x.am] 61)) wr.heap.size 61 #[.int .i64 x.src, .int .i64 x.un, .int .i64 x.am]) := Bl.new _ _ _
      go_upto_region 4 with (fail)
      clear a0 a1 a2 HB hb1
      generalize wr.alloc (.cells #[.int .i64 x.src, .int .i64 x.un, .int .i64 x.am] 61) = W at *
      generalize wr.heap.size = gx at *
      have x0 : W.cell? ⟨gx, 0, none⟩ = some (.int .i64 x.src) := HXB.out.cell 0
      have x1 : W.cell? ⟨gx, 1, none⟩ = some (.int .i64 x.un) := HXB.out.cell 1
      have x2 : W.cell? ⟨gx, 2, none⟩ = some (.int .i64 x.am) := HXB.out.cell 2
      by_cases g0 : x.src = s
      case pos =>
        have d0 : (x.src == s) = true := by simpa using g0
        have HFO : Hid (findC xs s = some x) := by
          have := findC_hit (s := s) (i := i) (by omega) HN.out (by rw [HXI.out]; exact g0)
          rw [HXI.out] at this
          exact this
        have HR : Hid (Bl W w.heap.size 61 #[.int .i64 0, .int .i64 0, .int .i64 0]) := (HBA.out.block w.heap.size HR0.out.lt).trans HR0.out
        have r0 : W.cell? ⟨w.heap.size, 0, none⟩ = some (.int .i64 0) := HR.out.cell 0
        have r1 : W.cell? ⟨w.heap.size, 1, none⟩ = some (.int .i64 0) := HR.out.cell 1
        have r2 : W.cell? ⟨w.heap.size, 2, none⟩ = some (.int .i64 0) := HR.out.cell 2
        have f0 : W.frozen? ⟨w.heap.size, 0, none⟩ = false := HR.out.free 0
        have f1 : W.frozen? ⟨w.heap.size, 1, none⟩ = false := HR.out.free 1
        have f2 : W.frozen? ⟨w.heap.size, 2, none⟩ = false := HR.out.free 2
        clear g0
        go_wp2
        refine bodyPost_ret (v := .tuple #[.agg #[.int .i64 x.src, .int .i64 x.un, .int .i64 x.am], .bool true]) (by simp [results, Tryz.results68, go_sem, r0, r1, r2]) rfl ?_
        exact FindRes.of (HB0.out.trans (HBA.out.mono HB0.out.size)) HR.out (by rw [HFO.out]; rfl) (by rw [HFO.out]; rfl)
      case neg =>
        have d0 : (x.src == s) = false := by simpa using g0
        have HN2 : Hid (∀ j, j < i + 1 → xs[j]!.src ≠ s) := fun j hj => by
          by_cases e : j = i
          · subst e; rw [HXI.out]; exact g0
          · exact HN.out j (by omega)
        clear g0
        go_wp2_with fail
        go_roundw
        case rel => exact ⟨i + 1, by go_num, by omega, HN2, HBA⟩
        case measure => simp [intOf]; omega
    case neg =>
      have dk : decide ((i : Int) < (n : Int)) = false := by simp; omega
      have HFO : Hid (findC xs s = none) := findC_none fun j hj => HN.out j (by omega)
      have HR : Hid (Bl wr w.heap.size 61 #[.int .i64 0, .int .i64 0, .int .i64 0]) := (HB.out.block w.heap.size HR0.out.lt).trans HR0.out
      have r0 : wr.cell? ⟨w.heap.size, 0, none⟩ = some (.int .i64 0) := HR.out.cell 0
      have r1 : wr.cell? ⟨w.heap.size, 1, none⟩ = some (.int .i64 0) := HR.out.cell 1
      have r2 : wr.cell? ⟨w.heap.size, 2, none⟩ = some (.int .i64 0) := HR.out.cell 2
      have f0 : wr.frozen? ⟨w.heap.size, 0, none⟩ = false := HR.out.free 0
      have f1 : wr.frozen? ⟨w.heap.size, 1, none⟩ = false := HR.out.free 1
      have f2 : wr.frozen? ⟨w.heap.size, 2, none⟩ = false := HR.out.free 2
      go_wp2
      refine bodyPost_ret (v := .tuple #[.agg #[.int .i64 0, .int .i64 0, .int .i64 0], .bool false]) (by simp [results, Tryz.results68, go_sem, r0, r1, r2]) rfl ?_
      exact FindRes.of (HB0.out.trans (HB.out.mono HB0.out.size)) HR.out (by rw [HFO.out]; rfl) (by rw [HFO.out]; rfl)

/-- What is borne by part of an amount is at most the amount. -/
theorem upToV_le {a u t : Int} (ha : 0 ≤ a) (hu : 0 < u) (ht : t ≤ u) : upToV a u t ≤ a := by
  have := upToV_mono ha hu ht
  rwa [upToV_full hu] at this
theorem upToV_nonneg {a u t : Int} (ha : 0 ≤ a) (hu : 0 < u) (ht : 0 ≤ t) : 0 ≤ upToV a u t := by
  have := upToV_mono ha hu ht
  rwa [upToV_zero] at this
theorem upTo_out {a u t : Int} (ha : 0 ≤ a) (ha2 : a ≤ 1000000000000) (hu : 0 < u) (ht : 0 ≤ t) (htu : t ≤ u) : divOut (a * t) u 0 = (upToV a u t, 0) := by
  have := upToV_le ha hu htu
  exact divOut_down _ _ (Int.mul_nonneg ha ht) hu (by unfold upToV at this; omega)
set_option maxRecDepth 100000 in
set_option maxHeartbeats 2000000 in
theorem upTo_any (a u t : Int) (w : World) (ha : 0 ≤ a) (ha2 : a ≤ 1000000000000) (hu : 0 < u) (hu2 : u ≤ 1000000000) (ht : 0 ≤ t) (htu : t ≤ u) :
    Calls Tryz.prog 91 #[.int .i64 a, .int .i64 u, .int .i64 t] w (EInt w (upToV a u t)) := by
  have HMD : Hid (∀ w, Calls Tryz.prog 107 #[.int .u64 a, .int .u64 t, .int .u64 u, .int .i64 0] w fun e w' => e = .returned (.tuple #[.int .u64 (upToV a u t), .int .i64 0]) ∧ RowKit.Below w.heap.size w w') := fun w => (mulDiv_any a t u 0 w ha (by omega) ht (by omega) (by omega) (by omega)).mono fun e w' ⟨h1, h2⟩ => ⟨by rw [h1, upTo_out ha ha2 hu ht htu], h2⟩
  have v1 : IntKind.u64.wrap a = a := by rw [IntKind.wrap_u64]; omega
  have v2 : IntKind.u64.wrap t = t := by rw [IntKind.wrap_u64]; omega
  have v3 : IntKind.u64.wrap u = u := by rw [IntKind.wrap_u64]; omega
  have l1 := upToV_le ha hu htu
  have l2 := upToV_nonneg ha hu ht
  generalize upToV a u t = r at *
  have v4 : IntKind.i64.wrap r = r := IntWalk.i64_in _ (by omega)
  go_enter Tryz.func91, Tryz.ntmps91
  go_wp2_with fail
  refine (HMD.out _).mono ?_
  rintro e w1 ⟨rfl, hb1⟩
  have HB1 := Lib.hid hb1
  clear hb1
  go_wp2
  go_ret
  exact ⟨rfl, HB1.out⟩
def E2 (w : World) (v : Int × Int) (e : Ending) (w' : World) : Prop := e = .returned (.tuple #[.int .i64 v.1, .int .i64 v.2]) ∧ RowKit.Below w.heap.size w w'
set_option maxRecDepth 100000 in
set_option maxHeartbeats 4000000 in
theorem Portion_any (a u f t : Int) (w : World) (ha : 0 ≤ a) (ha2 : a ≤ 1000000000000) (hu : 1 ≤ u) (hu2 : u ≤ 1000000000) (hf : 0 ≤ f) (hft : f ≤ t) (htu : t ≤ u) :
    Calls Tryz.prog 69 #[.int .i64 a, .int .i64 u, .int .i64 f, .int .i64 t] w (E2 w (upToV a u t - upToV a u f, 0)) := by
  have HU1 : Hid (∀ w, Calls Tryz.prog 91 #[.int .i64 a, .int .i64 u, .int .i64 t] w (EInt w (upToV a u t))) := fun w => upTo_any a u t w ha ha2 (by omega) hu2 (by omega) htu
  have HU2 : Hid (∀ w, Calls Tryz.prog 91 #[.int .i64 a, .int .i64 u, .int .i64 f] w (EInt w (upToV a u f))) := fun w => upTo_any a u f w ha ha2 (by omega) hu2 (by omega) (by omega)
  have HV1 : Hid (∀ w, Calls Tryz.prog 67 #[.int .i64 a] w fun e w' => e = .returned (.bool true) ∧ w' = w) := fun w => (vAmount_any a w).mono fun e w' ⟨h1, h2⟩ => ⟨by rw [h1, decide_eq_true ha, decide_eq_true ha2]; rfl, h2⟩
  have HV2 : Hid (∀ w, Calls Tryz.prog 66 #[.int .i64 u] w fun e w' => e = .returned (.bool true) ∧ w' = w) := fun w => (vUnits_any u w).mono fun e w' ⟨h1, h2⟩ => ⟨by rw [h1, decide_eq_true hu, decide_eq_true hu2]; rfl, h2⟩
  have d1 : decide (f < 0) = false := by simp; omega
  have d2 : decide (f > t) = false := by simp; omega
  have d3 : decide (t < f) = false := by simp; omega
  have d4 : decide (t > u) = false := by simp; omega
  have d5 : decide (u < t) = false := by simp; omega
  have l1 := upToV_le ha (by omega : 0 < u) htu
  have l2 := upToV_nonneg ha (by omega : 0 < u) (by omega : 0 ≤ t)
  have l3 := upToV_le ha (by omega : 0 < u) (by omega : f ≤ u)
  have l4 := upToV_nonneg ha (by omega : 0 < u) hf
  generalize upToV a u t = r at *
  generalize upToV a u f = q at *
  have v4 : IntKind.i64.wrap (r - q) = r - q := IntWalk.i64_in _ (by omega)
  go_enter Tryz.func69, Tryz.ntmps69
  go_wp2_with fail
  refine (HV1.out _).mono ?_
  rintro e w1 ⟨rfl, rfl⟩
  go_wp2_with fail
  refine (HV2.out _).mono ?_
  rintro e w2 ⟨rfl, rfl⟩
  go_wp2_with fail
  refine (HU1.out _).mono ?_
  rintro e w3 ⟨rfl, hb1⟩
  have HB1 := Lib.hid hb1
  clear hb1
  go_wp2_with fail
  refine (HU2.out _).mono ?_
  rintro e w4 ⟨rfl, hb2⟩
  have HB2 := Lib.hid (HB1.out.trans (hb2.mono HB1.out.size))
  clear hb2
  go_wp2
  go_ret2
  exact ⟨rfl, HB2.out⟩
end Go.Proofs.YthnhgjhnkncmiaaGreat

namespace Go.Proofs.YthnhgjhnkncmiaaGreat
open Go.RowKit
set_option linter.unusedVariables false

theorem clash_get (c : Ch) (o : Option Ch) : clash c o = (o.isSome && ((o.getD ⟨0, 0, 0⟩).un != c.un)) := by cases o <;> rfl
theorem amtC_get (c : Ch) (o : Option Ch) : amtC c o = min c.am (o.getD ⟨0, 0, 0⟩).am := by cases o <;> rfl
theorem getD_am {p : List Ch} (h : ChsOk p) (s : Int) : 0 ≤ ((findC p s).getD ⟨0, 0, 0⟩).am := by
  cases hf : findC p s with
  | none => show (0 : Int) ≤ 0; omega
  | some q => exact (chOk_yes (h.ok q (findC_mem hf).1)).2.2.2.2.1
theorem porE_get {d p : List Ch} {x : Sl} {q1 q2 : Ch} {b2 : Bool} (h1 : findC d x.src = some q1) (h2 : (findC p x.src).getD ⟨0, 0, 0⟩ = q2) (h3 : (findC p x.src).isSome = b2) :
    porE d p x = if (b2 && (q2.un != q1.un)) = true then (0, 14) else if q1.un < x.to then (0, 2) else (upToV (min q1.am q2.am) q1.un x.to - upToV (min q1.am q2.am) q1.un x.fr, 0) := by
  unfold porE
  rw [h1]
  simp only
  rw [clash_get, amtC_get, h2, h3]
set_option maxRecDepth 100000 in
set_option maxHeartbeats 8000000 in
theorem portion_any (DA PA : Option Addr) (dn dc pn pc : Nat) (d p : List Ch) (x : Sl) (w : World) (hd : Recs encCh 3 w DA dn d) (hp : Recs encCh 3 w PA pn p) (okd : ChsOk d) (okp : ChsOk p) (hx : slOk x = true) :
    Calls Tryz.prog 41 #[.agg #[.slice DA dn dc, .slice PA pn pc], .agg #[.int .i64 x.src, .int .i64 x.fr, .int .i64 x.to]] w (E2 w (porE d p x)) := by
  have hx1 := slOk_yes hx
  have hdn : dn ≤ 64 := by rw [← hd.1]; exact okd.few
  have hpn : pn ≤ 64 := by rw [← hp.1]; exact okp.few
  obtain ⟨q1, hq1⟩ : ∃ q1, (findC d x.src).getD ⟨0, 0, 0⟩ = q1 := ⟨_, rfl⟩
  obtain ⟨b1, hb1⟩ : ∃ b1, (findC d x.src).isSome = b1 := ⟨_, rfl⟩
  obtain ⟨q2, hq2⟩ : ∃ q2, (findC p x.src).getD ⟨0, 0, 0⟩ = q2 := ⟨_, rfl⟩
  obtain ⟨b2, hb2⟩ : ∃ b2, (findC p x.src).isSome = b2 := ⟨_, rfl⟩
  have HF1 : Hid (∀ wx, Recs encCh 3 wx DA dn d → Calls Tryz.prog 68 #[.slice DA dn dc, .int .i64 x.src] wx fun e w' => e = .returned (.tuple #[.agg #[.int .i64 q1.src, .int .i64 q1.un, .int .i64 q1.am], .bool b1]) ∧ RowKit.Below wx.heap.size wx w') := fun wx h => (find_any DA dn dc d x.src wx h (by omega)).mono fun e w' ⟨h1, h2⟩ => ⟨by rw [h1, hq1, hb1], h2⟩
  have HF2 : Hid (∀ wx, Recs encCh 3 wx PA pn p → Calls Tryz.prog 68 #[.slice PA pn pc, .int .i64 x.src] wx fun e w' => e = .returned (.tuple #[.agg #[.int .i64 q2.src, .int .i64 q2.un, .int .i64 q2.am], .bool b2]) ∧ RowKit.Below wx.heap.size wx w') := fun wx h => (find_any PA pn pc p x.src wx h (by omega)).mono fun e w' ⟨h1, h2⟩ => ⟨by rw [h1, hq2, hb2], h2⟩
  have hb0 := (Below.refl w.heap.size w).alloc (Nat.le_refl _) (.cells #[.slice DA dn dc, .slice PA pn pc] 84)
  have HB0 : Hid (RowKit.Below w.heap.size w ((w.alloc (.cells #[.slice DA dn dc, .slice PA pn pc] 84)).alloc (.cells #[.int .i64 x.src, .int .i64 x.fr, .int .i64 x.to] 68))) := hb0.alloc hb0.size _
  have HBB : Hid (Bl ((w.alloc (.cells #[.slice DA dn dc, .slice PA pn pc] 84)).alloc (.cells #[.int .i64 x.src, .int .i64 x.fr, .int .i64 x.to] 68)) w.heap.size 84 #[.slice DA dn dc, .slice PA pn pc]) := (Bl.new _ _ _).alloc _
  have HBS : Hid (Bl ((w.alloc (.cells #[.slice DA dn dc, .slice PA pn pc] 84)).alloc (.cells #[.int .i64 x.src, .int .i64 x.fr, .int .i64 x.to] 68)) (w.heap.size + 1) 68 #[.int .i64 x.src, .int .i64 x.fr, .int .i64 x.to]) := by
    have := Bl.new (w.alloc (.cells #[.slice DA dn dc, .slice PA pn pc] 84)) 68 #[.int .i64 x.src, .int .i64 x.fr, .int .i64 x.to]
    have e : (w.alloc (.cells #[.slice DA dn dc, .slice PA pn pc] 84)).heap.size = w.heap.size + 1 := by simp
    rw [e] at this
    exact this
  have HD := Lib.hid hd
  have HP := Lib.hid hp
  have HQ2 : Hid (0 ≤ q2.am) := by rw [← hq2]; exact getD_am okp x.src
  obtain ⟨pe, hpe⟩ : ∃ pe, porE d p x = pe := ⟨_, rfl⟩
  rw [hpe]
  clear hd hp hb0
  go_enter Tryz.func41, Tryz.ntmps41
  go_upto_region 1 with (fail)
  generalize (w.alloc (.cells #[.slice DA dn dc, .slice PA pn pc] 84)).alloc (.cells #[.int .i64 x.src, .int .i64 x.fr, .int .i64 x.to] 68) = W0 at *
  obtain ⟨gs, hgs⟩ : ∃ gs, w.heap.size + 1 = gs := ⟨_, rfl⟩
  obtain ⟨gb, hgb⟩ : ∃ gb, w.heap.size = gb := ⟨_, rfl⟩
  rw [hgs] at HBS ⊢
  rw [hgb] at HBB ⊢
  have HGB := Lib.hid hgb
  clear hgb hgs
  have y0 : W0.cell? ⟨gb, 0, none⟩ = some (.slice DA dn dc) := HBB.out.cell 0
  have z0 : W0.cell? ⟨gs, 0, none⟩ = some (.int .i64 x.src) := HBS.out.cell 0
  go_wp2_with fail
  refine (HF1.out W0 (HD.out.below HB0.out)).mono ?_
  rintro e w1 ⟨rfl, hbw1⟩
  clear y0 z0
  cases b1
  case false =>
    have hr : pe = (0, 6) := by
      rw [← hpe]
      cases hf : findC d x.src with
      | none => unfold porE; rw [hf]
      | some c => rw [hf] at hb1; cases hb1
    subst hr
    have HBR : Hid (RowKit.Below w.heap.size w (w1.alloc (.cells #[.int .i64 q1.src, .int .i64 q1.un, .int .i64 q1.am] 61))) := by
      have := HB0.out.trans (hbw1.mono HB0.out.size)
      exact this.alloc this.size _
    clear hq1 hb1 hq2 hb2
    go_wp2
    go_ret2
    exact ⟨rfl, HBR.out⟩
  case true =>
  have hsome : findC d x.src = some q1 := by
    cases hf : findC d x.src with
    | none => rw [hf] at hb1; cases hb1
    | some c => rw [hf] at hq1; exact congrArg some hq1
  have hq := chOk_yes (okd.ok q1 (findC_mem hsome).1)
  have HPE := Lib.hid (hpe.symm.trans (porE_get hsome hq2 hb2))
  clear hq1 hb1 hq2 hb2 hsome hpe
  have HB1 : Hid (RowKit.Below w.heap.size w (w1.alloc (.cells #[.int .i64 q1.src, .int .i64 q1.un, .int .i64 q1.am] 61))) := by
    have := HB0.out.trans (hbw1.mono HB0.out.size)
    exact this.alloc this.size _
  have HBB1 : Hid (Bl (w1.alloc (.cells #[.int .i64 q1.src, .int .i64 q1.un, .int .i64 q1.am] 61)) gb 84 #[.slice DA dn dc, .slice PA pn pc]) := Bl.alloc ((hbw1.block gb HBB.out.lt).trans HBB.out) _
  have HBS1 : Hid (Bl (w1.alloc (.cells #[.int .i64 q1.src, .int .i64 q1.un, .int .i64 q1.am] 61)) gs 68 #[.int .i64 x.src, .int .i64 x.fr, .int .i64 x.to]) := Bl.alloc ((hbw1.block gs HBS.out.lt).trans HBS.out) _
  have HC1 : Hid (Bl (w1.alloc (.cells #[.int .i64 q1.src, .int .i64 q1.un, .int .i64 q1.am] 61)) w1.heap.size 61 #[.int .i64 q1.src, .int .i64 q1.un, .int .i64 q1.am]) := Bl.new _ _ _
  clear hbw1 HBB HBS HB0
  go_upto_region 4 with (fail)
  generalize w1.alloc (.cells #[.int .i64 q1.src, .int .i64 q1.un, .int .i64 q1.am] 61) = W1 at *
  generalize w1.heap.size = g1 at *
  have y1 : W1.cell? ⟨gb, 1, none⟩ = some (.slice PA pn pc) := HBB1.out.cell 1
  have z0 : W1.cell? ⟨gs, 0, none⟩ = some (.int .i64 x.src) := HBS1.out.cell 0
  go_wp2_with fail
  refine (HF2.out W1 (HP.out.below HB1.out)).mono ?_
  rintro e w2 ⟨rfl, hbw2⟩
  clear y1 z0
  have HB2 : Hid (RowKit.Below w.heap.size w (w2.alloc (.cells #[.int .i64 q2.src, .int .i64 q2.un, .int .i64 q2.am] 61))) := by
    have := HB1.out.trans (hbw2.mono HB1.out.size)
    exact this.alloc this.size _
  have HBS2 : Hid (Bl (w2.alloc (.cells #[.int .i64 q2.src, .int .i64 q2.un, .int .i64 q2.am] 61)) gs 68 #[.int .i64 x.src, .int .i64 x.fr, .int .i64 x.to]) := Bl.alloc ((hbw2.block gs HBS1.out.lt).trans HBS1.out) _
  have HC12 : Hid (Bl (w2.alloc (.cells #[.int .i64 q2.src, .int .i64 q2.un, .int .i64 q2.am] 61)) g1 61 #[.int .i64 q1.src, .int .i64 q1.un, .int .i64 q1.am]) := Bl.alloc ((hbw2.block g1 HC1.out.lt).trans HC1.out) _
  have HC2 : Hid (Bl (w2.alloc (.cells #[.int .i64 q2.src, .int .i64 q2.un, .int .i64 q2.am] 61)) w2.heap.size 61 #[.int .i64 q2.src, .int .i64 q2.un, .int .i64 q2.am]) := Bl.new _ _ _
  clear hbw2 HBB1 HBS1 HB1 HC1
  go_upto_region 5 with (fail)
  generalize w2.alloc (.cells #[.int .i64 q2.src, .int .i64 q2.un, .int .i64 q2.am] 61) = W2 at *
  generalize w2.heap.size = g2 at *
  have s1 : W2.cell? ⟨gs, 1, none⟩ = some (.int .i64 x.fr) := HBS2.out.cell 1
  have s2 : W2.cell? ⟨gs, 2, none⟩ = some (.int .i64 x.to) := HBS2.out.cell 2
  have c1 : W2.cell? ⟨g1, 1, none⟩ = some (.int .i64 q1.un) := HC12.out.cell 1
  have c2 : W2.cell? ⟨g1, 2, none⟩ = some (.int .i64 q1.am) := HC12.out.cell 2
  have k1 : W2.cell? ⟨g2, 1, none⟩ = some (.int .i64 q2.un) := HC2.out.cell 1
  have k2 : W2.cell? ⟨g2, 2, none⟩ = some (.int .i64 q2.am) := HC2.out.cell 2
  obtain ⟨mn, hmn⟩ : ∃ mn, min q1.am q2.am = mn := ⟨_, rfl⟩
  have hm0 : 0 ≤ mn ∧ mn ≤ 1000000000000 := by have := HQ2.out; omega
  have HPO : Hid (x.to ≤ q1.un → Calls Tryz.prog 69 #[.int .i64 mn, .int .i64 q1.un, .int .i64 x.fr, .int .i64 x.to] W2 (E2 W2 (upToV mn q1.un x.to - upToV mn q1.un x.fr, 0))) := fun h => Portion_any mn q1.un x.fr x.to W2 hm0.1 hm0.2 (by omega) (by omega) (by omega) (by omega) h
  rw [hmn] at HPE
  clear HBS2 HC12 HC2 HF1 HF2 hm0
  cases b2
  case false =>
    have hne : (false && (q2.un != q1.un)) = false := rfl
    by_cases ht : q1.un < x.to
    case pos =>
      have d1 : decide (x.to > q1.un) = true := decide_eq_true ht
      have d2 : decide (q1.un < x.to) = true := decide_eq_true ht
      have hr : pe = (0, 2) := by rw [HPE.out, if_neg (by simp [hne]), if_pos ht]
      subst hr
      clear ht
      go_wp2
      go_ret2
      exact ⟨rfl, HB2.out⟩
    case neg =>
    have d1 : decide (x.to > q1.un) = false := decide_eq_false ht
    have d2 : decide (q1.un < x.to) = false := decide_eq_false ht
    have hr : pe = (upToV mn q1.un x.to - upToV mn q1.un x.fr, 0) := by rw [HPE.out, if_neg (by simp [hne]), if_neg ht]
    have HPC := Lib.hid (HPO.out (by omega))
    subst hr
    clear ht HPO HPE
    go_wp2_with fail
    refine HPC.out.mono ?_
    rintro e w9 ⟨rfl, hb9⟩
    have HB9 : Hid (RowKit.Below w.heap.size w w9) := HB2.out.trans (hb9.mono HB2.out.size)
    clear hb9
    go_wp2
    go_ret2
    exact ⟨rfl, HB9.out⟩
  case true =>
  cases hne' : (q2.un != q1.un)
  case true =>
    have hr : pe = (0, 14) := by rw [HPE.out, hne']; rfl
    subst hr
    clear HPE HPO
    go_wp2
    go_ret2
    exact ⟨rfl, HB2.out⟩
  case false =>
  have hne : (true && (q2.un != q1.un)) = false := by rw [hne']; rfl
  by_cases ht : q1.un < x.to
  case pos =>
    have d1 : decide (x.to > q1.un) = true := decide_eq_true ht
    have d2 : decide (q1.un < x.to) = true := decide_eq_true ht
    have hr : pe = (0, 2) := by rw [HPE.out, if_neg (by simp [hne]), if_pos ht]
    subst hr
    clear ht
    go_wp2
    go_ret2
    exact ⟨rfl, HB2.out⟩
  case neg =>
  have d1 : decide (x.to > q1.un) = false := decide_eq_false ht
  have d2 : decide (q1.un < x.to) = false := decide_eq_false ht
  have hr : pe = (upToV mn q1.un x.to - upToV mn q1.un x.fr, 0) := by rw [HPE.out, if_neg (by simp [hne]), if_neg ht]
  have HPC := Lib.hid (HPO.out (by omega))
  subst hr
  clear ht HPO HPE
  go_wp2_with fail
  refine HPC.out.mono ?_
  rintro e w9 ⟨rfl, hb9⟩
  have HB9 : Hid (RowKit.Below w.heap.size w w9) := HB2.out.trans (hb9.mono HB2.out.size)
  clear hb9
  go_wp2
  go_ret2
  exact ⟨rfl, HB9.out⟩
theorem porE_bounds {d p : List Ch} (okd : ChsOk d) (okp : ChsOk p) {x : Sl} (h0 : (porE d p x).2 = 0) (hx : slOk x = true) : 0 ≤ (porE d p x).1 ∧ (porE d p x).1 ≤ 1000000000000 := by
  have hx1 := slOk_yes hx
  unfold porE at h0 ⊢
  cases hf : findC d x.src with
  | none => rw [hf] at h0; cases h0
  | some c =>
    simp only [hf] at h0 ⊢
    by_cases h1 : clash c (findC p x.src) = true
    · rw [if_pos h1] at h0; cases h0
    · rw [if_neg h1] at h0 ⊢
      by_cases h2 : c.un < x.to
      · rw [if_pos h2] at h0; cases h0
      · rw [if_neg h2]
        have hc := chOk_yes (okd.ok c (findC_mem hf).1)
        have ha : 0 ≤ amtC c (findC p x.src) := amtC_nonneg hc.2.2.2.2.1 okp.ok
        have ha2 : amtC c (findC p x.src) ≤ c.am := by unfold amtC; omega
        have l1 := upToV_le (t := x.to) ha (by omega : 0 < c.un) (by omega)
        have l2 := upToV_mono ha (by omega : 0 < c.un) (by omega : x.fr ≤ x.to)
        have l3 := upToV_nonneg ha (by omega : 0 < c.un) (by omega : 0 ≤ x.fr)
        show 0 ≤ _ - _ ∧ _ - _ ≤ _
        omega
set_option maxRecDepth 100000 in
set_option maxHeartbeats 8000000 in
theorem sum29_any (A : Option Addr) (n c : Nat) (xs : List Sl) (DA PA : Option Addr) (dn dc pn pc : Nat) (d p : List Ch) (w : World) (h : Recs encSl 3 w A n xs) (hn : n ≤ 64) (hv : SlsOk xs) (hd : Recs encCh 3 w DA dn d) (hp : Recs encCh 3 w PA pn p) (okd : ChsOk d) (okp : ChsOk p) :
    Calls Tryz.prog 40 #[.slice A n c, .func (.func 41) #[.agg #[.slice DA dn dc, .slice PA pn pc]] #[]] w (E2 w (sumE d p xs 0)) := by
  have HX := Lib.hid h
  have hxl : xs.length = n := h.1
  have HP : Hid (∀ x ∈ xs, ∀ v1 v2, porE d p x = (v1, v2) → ∀ wx, RowKit.Below w.heap.size w wx → Calls Tryz.prog 41 #[.agg #[.slice DA dn dc, .slice PA pn pc], .agg #[.int .i64 x.src, .int .i64 x.fr, .int .i64 x.to]] wx fun e w' => e = .returned (.tuple #[.int .i64 v1, .int .i64 v2]) ∧ RowKit.Below wx.heap.size wx w') := fun x hx v1 v2 he wx hb => by
    have := portion_any DA PA dn dc pn pc d p x wx (hd.below hb) (hp.below hb) okd okp (hv x hx)
    rw [he] at this
    exact this
  have HPB : Hid (∀ x ∈ xs, ∀ v1, porE d p x = (v1, 0) → 0 ≤ v1 ∧ v1 ≤ 1000000000000) := fun x hx v1 he => by
    have := porE_bounds okd okp (x := x) (by rw [he]) (hv x hx)
    rw [he] at this
    exact this
  clear h hd hp okd okp hv
  go_enter Tryz.func40, Tryz.ntmps40
  go_wp2_with fail
  go_loopw [6, 13] (fun s v wx => ∃ (i : Nat) (t : Int), v = .int .i64 (i : Int) ∧ s = .int .i64 t ∧ i ≤ n ∧ 0 ≤ t ∧ t ≤ (i : Int) * 1000000000000 ∧ Hid (sumE d p xs 0 = sumE d p (xs.drop i) t) ∧ Hid (RowKit.Below w.heap.size w wx)) (fun _ v _ => n - (intOf v).toNat)
  case atStart => exact ⟨0, 0, rfl, rfl, Nat.zero_le _, by omega, by omega, rfl, Below.refl _ _⟩
  case round =>
    obtain ⟨i, t, rfl, rfl, hi, ht0, ht1, HS, HB⟩ := hrel
    by_cases hlt : i < n
    case neg =>
      have dk : decide ((i : Int) < (n : Int)) = false := by simp; omega
      have HR : Hid (sumE d p xs 0 = (t, 0)) := by show _ = _; rw [HS.out, List.drop_of_length_le (by omega)]; rfl
      go_wp2
      go_ret2
      exact ⟨by rw [HR.out]; rfl, HB.out⟩
    case pos =>
    have dk : decide ((i : Int) < (n : Int)) = true := by simp; omega
    obtain ⟨bb, o1, rfl, hbb, ha⟩ := recs_at (HX.out.below HB.out) hlt
    obtain ⟨x, hx⟩ : ∃ x, xs[i]! = x := ⟨_, rfl⟩
    rw [hx] at ha
    have a0 : wr.cell? ⟨bb, o1 + i * 3, none⟩ = some (.int .i64 x.src) := ha.out 0 (by omega)
    have a1 : wr.cell? ⟨bb, o1 + i * 3 + 1, none⟩ = some (.int .i64 x.fr) := ha.out 1 (by omega)
    have a2 : wr.cell? ⟨bb, o1 + i * 3 + 2, none⟩ = some (.int .i64 x.to) := ha.out 2 (by omega)
    have hmem : x ∈ xs := by rw [← hx, getElem!_pos xs i (by omega)]; exact List.getElem_mem _
    obtain ⟨v1, v2, hv12⟩ : ∃ v1 v2, porE d p x = (v1, v2) := ⟨_, _, rfl⟩
    have HST : Hid (sumE d p (xs.drop i) t = if v2 = 0 then sumE d p (xs.drop (i + 1)) (t + v1) else (0, v2)) := by
      show _ = _
      rw [List.drop_eq_getElem_cons (by omega), sumE, ← getElem!_pos xs i (by omega), hx, hv12]
    have HC := Lib.hid (HP.out x hmem v1 v2 hv12)
    have HBD : Hid (v2 = 0 → 0 ≤ v1 ∧ v1 ≤ 1000000000000) := fun h0 => HPB.out x hmem v1 (by rw [hv12, h0])
    have hii : (i : Int) < (n : Int) := by omega
    have hiz : (0 : Int) ≤ (i : Int) := by omega
    have HBA : Hid (RowKit.Below w.heap.size w (wr.alloc (.cells #[.int .i64 x.src, .int .i64 x.fr, .int .i64 x.to] 68))) := HB.out.alloc HB.out.size _
    have HXB : Hid (Bl (wr.alloc (.cells #[.int .i64 x.src, .int .i64 x.fr, .int .i64 x.to] 68)) wr.heap.size 68 #[.int .i64 x.src, .int .i64 x.fr, .int .i64 x.to]) := Bl.new _ _ _
    clear ha hx hmem hv12
    go_upto_region 5 with (fail)
    clear a0 a1 a2 HB hbb
    generalize wr.alloc (.cells #[.int .i64 x.src, .int .i64 x.fr, .int .i64 x.to] 68) = W at *
    generalize wr.heap.size = gx at *
    have x0 : W.cell? ⟨gx, 0, none⟩ = some (.int .i64 x.src) := HXB.out.cell 0
    have x1 : W.cell? ⟨gx, 1, none⟩ = some (.int .i64 x.fr) := HXB.out.cell 1
    have x2 : W.cell? ⟨gx, 2, none⟩ = some (.int .i64 x.to) := HXB.out.cell 2
    go_wp2_with fail
    refine (HC.out _ HBA.out).mono ?_
    rintro e w8 ⟨rfl, hb8⟩
    have HB8 : Hid (RowKit.Below w.heap.size w w8) := HBA.out.trans (hb8.mono HBA.out.size)
    clear hb8 HBA HC
    by_cases h0 : v2 = 0
    case neg =>
      have d2 : (v2 != 0) = true := by simpa using h0
      have HR : Hid (sumE d p xs 0 = (0, v2)) := by show _ = _; rw [HS.out, HST.out, if_neg h0]
      clear h0
      go_wp2
      go_ret2
      exact ⟨by rw [HR.out]; rfl, HB8.out⟩
    case pos =>
      have hbd := HBD.out h0
      have HS2 : Hid (sumE d p xs 0 = sumE d p (xs.drop (i + 1)) (t + v1)) := by show _ = _; rw [HS.out, HST.out, if_pos h0]
      have d2 : (v2 != 0) = false := by simpa using h0
      have u1 : IntKind.i64.wrap (t + v1) = t + v1 := IntWalk.i64_in _ (by omega)
      clear h0
      go_wp2_with fail
      go_roundw
      case rel => exact ⟨i + 1, t + v1, by go_num, rfl, by omega, by omega, by omega, HS2, HB8⟩
      case measure => simp [intOf]; omega
set_option maxRecDepth 100000 in
set_option maxHeartbeats 8000000 in
theorem Borne_any (A : Option Addr) (n c : Nat) (xs : List Sl) (DA PA : Option Addr) (dn dc pn pc : Nat) (d p : List Ch) (w : World) (h : Recs encSl 3 w A n xs) (hd : Recs encCh 3 w DA dn d) (hp : Recs encCh 3 w PA pn p) :
    Calls Tryz.prog 19 #[.slice A n c, .slice DA dn dc, .slice PA pn pc] w (E2 w (borneE xs d p)) := by
  have hxl : xs.length = n := h.1
  have hmf : ∀ (fn : Fn) (first cap : Array Value) (w : World), (Instr.makeFunc fn first cap).run Tryz.prog w = .ok (.func fn first cap) w := fun _ _ _ _ => rfl
  have HX := Lib.hid h
  have HD := Lib.hid hd
  have HP := Lib.hid hp
  clear h hd hp
  obtain ⟨e1, he1⟩ : ∃ e1, slErr xs = e1 := ⟨_, rfl⟩
  obtain ⟨e2, he2⟩ : ∃ e2, chErr d = e2 := ⟨_, rfl⟩
  obtain ⟨e3, he3⟩ : ∃ e3, chErr p = e3 := ⟨_, rfl⟩
  have HV1 : Hid (Calls Tryz.prog 38 #[.slice A n c] w (EInt w e1)) := by rw [← he1]; exact lotValid_any A n c xs w HX.out
  have HV2 : Hid (∀ wx, RowKit.Below w.heap.size w wx → Calls Tryz.prog 39 #[.slice DA dn dc] wx (EInt wx e2)) := fun wx hb => by rw [← he2]; exact chVal_any DA dn dc d wx (HD.out.below hb)
  have HV3 : Hid (∀ wx, RowKit.Below w.heap.size w wx → Calls Tryz.prog 39 #[.slice PA pn pc] wx (EInt wx e3)) := fun wx hb => by rw [← he3]; exact chVal_any PA pn pc p wx (HP.out.below hb)
  have HBE : Hid (borneE xs d p = if e1 ≠ 0 then (0, e1) else if e2 ≠ 0 then (0, e2) else if e3 ≠ 0 then (0, e3) else sumE d p xs 0) := by show _ = _; unfold borneE; rw [he1, he2, he3]
  have HSU : Hid (e1 = 0 → e2 = 0 → e3 = 0 → ∀ wx, RowKit.Below w.heap.size w wx → Calls Tryz.prog 40 #[.slice A n c, .func (.func 41) #[.agg #[.slice DA dn dc, .slice PA pn pc]] #[]] wx (E2 wx (sumE d p xs 0))) := fun h1 h2 h3 wx hb => by
    have k1 := slErr_ok (he1.trans h1)
    exact sum29_any A n c xs DA PA dn dc pn pc d p wx (HX.out.below hb) (by omega) k1.2.1 (HD.out.below hb) (HP.out.below hb) (chErr_ok.1 (he2.trans h2)) (chErr_ok.1 (he3.trans h3))
  clear he1 he2 he3 HX HD HP
  generalize borneE xs d p = be at *
  generalize sumE d p xs 0 = se at *
  go_enter Tryz.func19, Tryz.ntmps19
  go_wp2_with fail
  refine HV1.out.mono ?_
  rintro e w1 ⟨rfl, hb1⟩
  have HB1 := Lib.hid hb1
  clear hb1 HV1
  by_cases h1 : e1 = 0
  case neg =>
    have d1 : (e1 != 0) = true := by simpa using h1
    have hr : be = (0, e1) := by rw [HBE.out, if_pos h1]
    subst hr
    clear HBE h1
    go_wp2
    go_ret2
    exact ⟨rfl, HB1.out⟩
  case pos =>
  have d1 : (e1 != 0) = false := by simpa using h1
  go_wp2_with fail
  refine (HV2.out w1 HB1.out).mono ?_
  rintro e w2 ⟨rfl, hb2⟩
  have HB2 : Hid (RowKit.Below w.heap.size w w2) := HB1.out.trans (hb2.mono HB1.out.size)
  clear hb2 HV2 HB1
  by_cases h2 : e2 = 0
  case neg =>
    have d2 : (e2 != 0) = true := by simpa using h2
    have hr : be = (0, e2) := by rw [HBE.out, if_neg (by simpa using h1), if_pos h2]
    subst hr
    clear HBE h1 h2
    go_wp2
    go_ret2
    exact ⟨rfl, HB2.out⟩
  case pos =>
  have d2 : (e2 != 0) = false := by simpa using h2
  go_wp2_with fail
  refine (HV3.out w2 HB2.out).mono ?_
  rintro e w3 ⟨rfl, hb3⟩
  have HB3 : Hid (RowKit.Below w.heap.size w w3) := HB2.out.trans (hb3.mono HB2.out.size)
  clear hb3 HV3 HB2
  by_cases h3 : e3 = 0
  case neg =>
    have d3 : (e3 != 0) = true := by simpa using h3
    have hr : be = (0, e3) := by rw [HBE.out, if_neg (by simpa using h1), if_neg (by simpa using h2), if_pos h3]
    subst hr
    clear HBE h1 h2 h3
    go_wp2
    go_ret2
    exact ⟨rfl, HB3.out⟩
  case pos =>
  have d3 : (e3 != 0) = false := by simpa using h3
  have hr : be = se := by rw [HBE.out, if_neg (by simpa using h1), if_neg (by simpa using h2), if_neg (by simpa using h3)]
  have HSC := Lib.hid (HSU.out h1 h2 h3 w3 HB3.out)
  subst hr
  clear HBE h1 h2 h3 HSU
  go_wp2_with fail
  refine HSC.out.mono ?_
  rintro e w4 ⟨rfl, hb4⟩
  have HB4 : Hid (RowKit.Below w.heap.size w w4) := HB3.out.trans (hb4.mono HB3.out.size)
  clear hb4
  go_wp2
  go_ret2
  exact ⟨rfl, HB4.out⟩
abbrev CV (x : Clm) (A : Option Addr) (n c : Nat) : Array Value := #[.int .i64 x.num, .int .i64 x.lot, .int .i64 x.sch, .int .i64 x.qty, .int .i64 x.rate, .slice A n c]
set_option maxRecDepth 100000 in
set_option maxHeartbeats 8000000 in
theorem Payable_any (x : Clm) (A : Option Addr) (n c : Nat) (DA PA : Option Addr) (dn dc pn pc : Nat) (d p : List Ch) (w : World) (h : Recs encSl 3 w A n x.sl) (hd : Recs encCh 3 w DA dn d) (hp : Recs encCh 3 w PA pn p) :
    Calls Tryz.prog 17 #[.agg #[.int .i64 x.num, .int .i64 x.lot, .int .i64 x.sch, .int .i64 x.qty, .int .i64 x.rate, .slice A n c], .slice DA dn dc, .slice PA pn pc] w (E2 w (payE x d p)) := by
  have HB0 : Hid (RowKit.Below w.heap.size w (w.alloc (.cells #[.int .i64 x.num, .int .i64 x.lot, .int .i64 x.sch, .int .i64 x.qty, .int .i64 x.rate, .slice A n c] 39))) := (Below.refl _ _).alloc (Nat.le_refl _) _
  have HBX : Hid (Bl (w.alloc (.cells #[.int .i64 x.num, .int .i64 x.lot, .int .i64 x.sch, .int .i64 x.qty, .int .i64 x.rate, .slice A n c] 39)) w.heap.size 39 #[.int .i64 x.num, .int .i64 x.lot, .int .i64 x.sch, .int .i64 x.qty, .int .i64 x.rate, .slice A n c]) := Bl.new _ _ _
  have HX := Lib.hid h
  have HD := Lib.hid hd
  have HP := Lib.hid hp
  clear h hd hp
  obtain ⟨ok, hok⟩ : ∃ ok, clOk x = ok := ⟨_, rfl⟩
  obtain ⟨b, er, hbe⟩ : ∃ b er, borneE x.sl d p = (b, er) := ⟨_, _, rfl⟩
  have HPE : Hid (payE x d p = if ok = true then if er = 0 then (if x.sch = 2 then min b (x.qty * x.rate / 1000) else b, 0) else (0, er) else (0, 2)) := by
    show _ = _
    unfold payE
    rw [hok, hbe]
  have HOK : Hid (ok = true → (0 ≤ x.qty * x.rate ∧ x.qty * x.rate ≤ 10000000000000000)) := fun h => by
    have := clOk_yes (hok.trans h)
    have h1 := Int.mul_nonneg (show 0 ≤ x.qty by omega) (show 0 ≤ x.rate by omega)
    have h2 := Int.mul_le_mul (show x.qty ≤ 1000000000 by omega) (show x.rate ≤ 10000000 by omega) (by omega) (by omega)
    exact ⟨h1, by omega⟩
  have HV : Hid (∀ wx, RowKit.Below w.heap.size w wx → Calls Tryz.prog 27 #[.agg #[.int .i64 x.num, .int .i64 x.lot, .int .i64 x.sch, .int .i64 x.qty, .int .i64 x.rate, .slice A n c]] wx (BRes wx ok)) := fun wx hb => by rw [← hok]; exact valid29_any x A n c wx (HX.out.below hb)
  have HBO : Hid (∀ wx, RowKit.Below w.heap.size w wx → Calls Tryz.prog 19 #[.slice A n c, .slice DA dn dc, .slice PA pn pc] wx fun e w' => e = .returned (.tuple #[.int .i64 b, .int .i64 er]) ∧ RowKit.Below wx.heap.size wx w') := fun wx hb => by
    have := Borne_any A n c x.sl DA PA dn dc pn pc d p wx (HX.out.below hb) (HD.out.below hb) (HP.out.below hb)
    rw [hbe] at this
    exact this
  generalize payE x d p = pe at *
  clear hok hbe HX HD HP
  go_enter Tryz.func17, Tryz.ntmps17
  go_upto_region 1 with (fail)
  generalize w.alloc (.cells #[.int .i64 x.num, .int .i64 x.lot, .int .i64 x.sch, .int .i64 x.qty, .int .i64 x.rate, .slice A n c] 39) = W0 at *
  obtain ⟨gx, hgx⟩ : ∃ gx, w.heap.size = gx := ⟨_, rfl⟩
  rw [hgx] at HBX ⊢
  have HGX := Lib.hid hgx
  clear hgx
  have x0 := HBX.out.cell 0
  have x1 := HBX.out.cell 1
  have x2 := HBX.out.cell 2
  have x3 := HBX.out.cell 3
  have x4 := HBX.out.cell 4
  have x5 := HBX.out.cell 5
  go_wp2_with fail
  refine (HV.out W0 HB0.out).mono ?_
  rintro e w1 ⟨rfl, hbw1⟩
  have HB1 : Hid (RowKit.Below w.heap.size w w1) := HB0.out.trans (hbw1.mono HB0.out.size)
  have HBX1 : Hid (Bl w1 gx 39 #[.int .i64 x.num, .int .i64 x.lot, .int .i64 x.sch, .int .i64 x.qty, .int .i64 x.rate, .slice A n c]) := (hbw1.block gx HBX.out.lt).trans HBX.out
  clear hbw1 HBX HB0 HV x0 x1 x2 x3 x4 x5
  cases ok
  case false =>
    have hr : pe = (0, 2) := by rw [HPE.out]; rfl
    subst hr
    go_wp2
    go_ret2
    exact ⟨rfl, HB1.out⟩
  case true =>
  have x5 := HBX1.out.cell 5
  go_wp2_with fail
  refine (HBO.out w1 HB1.out).mono ?_
  rintro e w2 ⟨rfl, hbw2⟩
  have HB2 : Hid (RowKit.Below w.heap.size w w2) := HB1.out.trans (hbw2.mono HB1.out.size)
  have HBX2 : Hid (Bl w2 gx 39 #[.int .i64 x.num, .int .i64 x.lot, .int .i64 x.sch, .int .i64 x.qty, .int .i64 x.rate, .slice A n c]) := (hbw2.block gx HBX1.out.lt).trans HBX1.out
  clear hbw2 HBX1 HB1 HBO x5
  by_cases h0 : er = 0
  case neg =>
    have d0 : (er != 0) = true := by simpa using h0
    have hr : pe = (0, er) := by rw [HPE.out]; simp [h0]
    subst hr
    clear h0
    go_wp2
    go_ret2
    exact ⟨rfl, HB2.out⟩
  case pos =>
  have d0 : (er != 0) = false := by simpa using h0
  have x2 : w2.cell? ⟨gx, 2, none⟩ = some (.int .i64 x.sch) := HBX2.out.cell 2
  have x3 : w2.cell? ⟨gx, 3, none⟩ = some (.int .i64 x.qty) := HBX2.out.cell 3
  have x4 : w2.cell? ⟨gx, 4, none⟩ = some (.int .i64 x.rate) := HBX2.out.cell 4
  by_cases hs : x.sch = 2
  case neg =>
    have d1 : (x.sch == 2) = false := by simpa using hs
    have hr : pe = (b, 0) := by rw [HPE.out]; simp [h0, hs]
    subst hr
    clear h0 hs
    go_wp2
    go_ret2
    exact ⟨rfl, HB2.out⟩
  case pos =>
    have d1 : (x.sch == 2) = true := by simpa using hs
    obtain ⟨m, hm⟩ : ∃ m, min b (x.qty * x.rate / 1000) = m := ⟨_, rfl⟩
    have hr : pe = (m, 0) := by rw [HPE.out]; simp [h0, hs, hm]
    subst hr
    have ho := HOK.out trivial
    obtain ⟨r, hrr⟩ : ∃ r, x.qty * x.rate = r := ⟨_, rfl⟩
    rw [hrr] at hm ho
    have u1 : IntKind.i64.wrap (x.qty * x.rate) = r := by rw [hrr]; exact IntWalk.i64_in _ (by omega)
    have u2 : IntKind.i64.wrap (r.tdiv 1000) = r / 1000 := IntWalk.i64_quo r 1000 ⟨by omega, by omega, by omega⟩
    clear h0 hs hrr HPE HOK
    go_wp2
    go_ret2
    exact ⟨rfl, HB2.out⟩
end Go.Proofs.YthnhgjhnkncmiaaGreat

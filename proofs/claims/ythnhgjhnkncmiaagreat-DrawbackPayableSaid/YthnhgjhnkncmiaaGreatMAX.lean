/-
  Contracts of the reference's Charges, Portion and goodClaim (customsref27). No statement of the seat is proved here. Conditions: the lists read as slices, charges and claims.
  Contracts of the reference's Borne, Payable, Claims (at valid lists) and Payouts (customsref27). No statement of the seat is proved here. Conditions: the lists read as slices, charges and claims.
-/
import Derived.Test.YthnhgjhnkncmiaaGreatMAM
import Derived.Test.YthnhgjhnkncmiaaGreatMAF
import Derived.Test.YthnhgjhnkncmiaaGreatMAG
import Derived.Test.YthnhgjhnkncmiaaGreatMAW
namespace Go.Proofs.YthnhgjhnkncmiaaGreat
open Go.RowKit
set_option linter.unusedVariables false
set_option maxRecDepth 100000 in
set_option maxHeartbeats 8000000 in
theorem RCharges_any (A : Option Addr) (n c : Nat) (xs : List Ch) (w : World) (h : Recs encCh 3 w A n xs) :
    Calls Tryz.prog 43 #[.slice A n c] w (EInt w (chErr xs)) := by
  have HX := Lib.hid h
  have hxl : xs.length = n := h.1
  clear h
  by_cases h64 : 64 < n
  case pos =>
    have d0 : decide ((n : Int) > 64) = true := by simp; omega
    have d1 : decide (64 < n) = true := by simp; omega
    have hr : chErr xs = 8 := by unfold chErr; rw [if_pos (by omega)]
    rw [hr]
    go_enter Tryz.func43, Tryz.ntmps43
    go_wp2
    go_ret
    exact ⟨rfl, Below.refl _ _⟩
  case neg =>
  have d0 : decide ((n : Int) > 64) = false := by simp; omega
  have d1 : decide (64 < n) = false := by simp; omega
  go_enter Tryz.func43, Tryz.ntmps43
  go_wp2_with fail
  clear d0 d1
  go_loopw [3] (fun v wx => ∃ i : Nat, v = .int .i64 (i : Int) ∧ i ≤ n ∧ Hid (∀ j, j < i → chOk xs[j]! = true) ∧ Hid (RowKit.Below w.heap.size w wx)) (fun v _ => n - (intOf v).toNat)
  case atStart => exact ⟨0, rfl, Nat.zero_le _, (fun j hj => by omega), Below.refl _ _⟩
  case round =>
    obtain ⟨i, rfl, hi, HN, HB⟩ := hrel
    by_cases hlt : i < n
    case pos =>
      have dk : decide ((i : Int) < (n : Int)) = true := by simp; omega
      obtain ⟨b1, o1, rfl, hb1, ha⟩ := recs_at (HX.out.below HB.out) hlt
      obtain ⟨x, hx⟩ : ∃ x, xs[i]! = x := ⟨_, rfl⟩
      rw [hx] at ha
      have a0 : wr.cell? ⟨b1, o1 + i * 3, none⟩ = some (.int .i64 x.src) := ha.out 0 (by omega)
      have a1 : wr.cell? ⟨b1, o1 + i * 3 + 1, none⟩ = some (.int .i64 x.un) := ha.out 1 (by omega)
      have a2 : wr.cell? ⟨b1, o1 + i * 3 + 2, none⟩ = some (.int .i64 x.am) := ha.out 2 (by omega)
      have HXI := Lib.hid hx
      have hno : Hid (∀ P : Prop, P → (chOk x = true → ¬ P) → chErr xs = 2) := fun P h1 h2 => chErr_bad (by omega) (i := i) (by omega) (by
        rw [HXI.out]
        cases hc : chOk x
        · rfl
        · exact absurd h1 (h2 hc))
      have hii : (i : Int) < (n : Int) := by omega
      have hiz : (0 : Int) ≤ (i : Int) := by omega
      clear ha hx
      by_cases g0 : x.src < 1
      case pos =>
        have d0 : decide (x.src < 1) = true := decide_eq_true g0
        have HR := Lib.hid (hno.out (x.src < 1) g0 (fun h => by have := chOk_yes h; omega))
        clear g0
        go_wp2
        go_ret
        exact ⟨by rw [HR.out]; rfl, HB.out⟩
      case neg =>
      have d0 : decide (x.src < 1) = false := decide_eq_false g0
      by_cases g1 : x.src > 1000000
      case pos =>
        have d1 : decide (x.src > 1000000) = true := decide_eq_true g1
        have HR := Lib.hid (hno.out (x.src > 1000000) g1 (fun h => by have := chOk_yes h; omega))
        clear g0 g1
        go_wp2
        go_ret
        exact ⟨by rw [HR.out]; rfl, HB.out⟩
      case neg =>
      have d1 : decide (x.src > 1000000) = false := decide_eq_false g1
      by_cases g2 : x.un < 1
      case pos =>
        have d2 : decide (x.un < 1) = true := decide_eq_true g2
        have HR := Lib.hid (hno.out (x.un < 1) g2 (fun h => by have := chOk_yes h; omega))
        clear g0 g1 g2
        go_wp2
        go_ret
        exact ⟨by rw [HR.out]; rfl, HB.out⟩
      case neg =>
      have d2 : decide (x.un < 1) = false := decide_eq_false g2
      by_cases g3 : x.un > 1000000000
      case pos =>
        have d3 : decide (x.un > 1000000000) = true := decide_eq_true g3
        have HR := Lib.hid (hno.out (x.un > 1000000000) g3 (fun h => by have := chOk_yes h; omega))
        clear g0 g1 g2 g3
        go_wp2
        go_ret
        exact ⟨by rw [HR.out]; rfl, HB.out⟩
      case neg =>
      have d3 : decide (x.un > 1000000000) = false := decide_eq_false g3
      by_cases g4 : x.am < 0
      case pos =>
        have d4 : decide (x.am < 0) = true := decide_eq_true g4
        have HR := Lib.hid (hno.out (x.am < 0) g4 (fun h => by have := chOk_yes h; omega))
        clear g0 g1 g2 g3 g4
        go_wp2
        go_ret
        exact ⟨by rw [HR.out]; rfl, HB.out⟩
      case neg =>
      have d4 : decide (x.am < 0) = false := decide_eq_false g4
      by_cases g5 : x.am > 1000000000000
      case pos =>
        have d5 : decide (x.am > 1000000000000) = true := decide_eq_true g5
        have HR := Lib.hid (hno.out (x.am > 1000000000000) g5 (fun h => by have := chOk_yes h; omega))
        clear g0 g1 g2 g3 g4 g5
        go_wp2
        go_ret
        exact ⟨by rw [HR.out]; rfl, HB.out⟩
      case neg =>
      have d5 : decide (x.am > 1000000000000) = false := decide_eq_false g5
      have HN2 : Hid (∀ j, j < i + 1 → chOk xs[j]! = true) := fun j hj => by
        by_cases e : j = i
        · subst e
          rw [HXI.out]
          simp [chOk]
          omega
        · exact HN.out j (by omega)
      clear g0 g1 g2 g3 g4 g5
      go_wp2_with fail
      go_roundw
      case rel => exact ⟨i + 1, by go_num, by omega, HN2, HB⟩
      case measure => simp [intOf]; omega
    case neg =>
    have dk : decide ((i : Int) < (n : Int)) = false := by simp; omega
    have HV : Hid (∀ x ∈ xs, chOk x = true) := fun x hx => by
      obtain ⟨j, hj, rfl⟩ := List.getElem_of_mem hx
      have := HN.out j (by omega)
      rwa [getElem!_pos xs j hj] at this
    clear HN
    go_wp2_with fail
    go_loopw [4] (fun v wx => ∃ i : Nat, v = .int .i64 (i : Int) ∧ 1 ≤ i ∧ i ≤ n + 1 ∧ (i ≤ n ∨ n = 0) ∧ Hid (∀ j, j + 1 < i → xs[j]!.src < xs[j + 1]!.src) ∧ Hid (RowKit.Below w.heap.size w wx)) (fun v _ => n + 1 - (intOf v).toNat)
    case atStart => exact ⟨1, rfl, by omega, by omega, by omega, (fun j hj => by omega), HB⟩
    case round =>
      clear HB dk
      obtain ⟨i, rfl, hi1, hi2, hi3, HN, HB⟩ := hrel
      by_cases hlt : i < n
      case neg =>
        have dk : decide ((i : Int) < (n : Int)) = false := by simp; omega
        have HR : Hid (chErr xs = 0) := chErr_fine (by omega) HV.out fun j hj => HN.out j (by omega)
        go_wp2
        go_ret
        exact ⟨by rw [HR.out]; rfl, HB.out⟩
      case pos =>
      have dk : decide ((i : Int) < (n : Int)) = true := by simp; omega
      obtain ⟨b1, o1, rfl, hb1, ha⟩ := recs_at (HX.out.below HB.out) hlt
      obtain ⟨b3, o3, e3, hb3, hd⟩ := recs_at (HX.out.below HB.out) (show i - 1 < n by omega)
      injection e3 with e3
      injection e3 with e4 e5
      subst e4 e5
      obtain ⟨x, hx⟩ : ∃ x, xs[i]! = x := ⟨_, rfl⟩
      obtain ⟨y, hy⟩ : ∃ y, xs[i - 1]! = y := ⟨_, rfl⟩
      rw [hx] at ha
      rw [hy] at hd
      have a0 : wr.cell? ⟨b1, o1 + i * 3, none⟩ = some (.int .i64 x.src) := ha.out 0 (by omega)
      have c0 : wr.cell? ⟨b1, o1 + (i - 1) * 3, none⟩ = some (.int .i64 y.src) := hd.out 0 (by omega)
      have HXI := Lib.hid hx
      have HYI := Lib.hid hy
      have hk1 : (i : Int) - 1 = ((i - 1 : Nat) : Int) := by omega
      have u1 : IntKind.i64.wrap ((i : Int) - 1) = ((i - 1 : Nat) : Int) := by rw [hk1]; exact IntWalk.i64_in _ (by omega)
      have hkk : ((i - 1 : Nat) : Int) < (n : Int) := by omega
      have hkz : (0 : Int) ≤ ((i - 1 : Nat) : Int) := by omega
      have hii : (i : Int) < (n : Int) := by omega
      have hiz : (0 : Int) ≤ (i : Int) := by omega
      clear ha hd hx hy hk1
      by_cases g : x.src ≤ y.src
      case pos =>
        have d1 : decide (x.src ≤ y.src) = true := decide_eq_true g
        have HR : Hid (chErr xs = 9) := chErr_ord (by omega) HV.out fun h => by
          have := h (i - 1) (by omega)
          rw [show i - 1 + 1 = i by omega, HXI.out, HYI.out] at this
          omega
        clear g
        go_upto_region 11 with (fail)
        go_quiet (fail)
        go_wp2
        go_ret
        exact ⟨by rw [HR.out]; rfl, below_drewN HB.out _⟩
      case neg =>
        have d1 : decide (x.src ≤ y.src) = false := decide_eq_false g
        have HN2 : Hid (∀ j, j + 1 < i + 1 → xs[j]!.src < xs[j + 1]!.src) := fun j hj => by
          by_cases e : j + 1 = i
          · have e2 : j = i - 1 := by omega
            rw [e, e2, HXI.out, HYI.out]
            omega
          · exact HN.out j (by omega)
        clear g
        go_upto_region 11 with (fail)
        go_quiet (fail)
        go_wp2_with fail
        go_roundw
        case rel => exact ⟨i + 1, by go_num, by omega, by omega, by omega, HN2, below_drewN HB.out _⟩
        case measure => simp [intOf]; omega
set_option maxRecDepth 100000 in
set_option maxHeartbeats 8000000 in
theorem RPortion_any (a u f t : Int) (w : World) (ha : 0 ≤ a) (ha2 : a ≤ 1000000000000) (hu : 1 ≤ u) (hu2 : u ≤ 1000000000) (hf : 0 ≤ f) (hft : f ≤ t) (htu : t ≤ u) :
    Calls Tryz.prog 44 #[.int .i64 a, .int .i64 u, .int .i64 f, .int .i64 t] w (E2 w (upToV a u t - upToV a u f, 0)) := by
  have l1 := upToV_le (t := t) ha (by omega : 0 < u) (by omega)
  have l2 := upToV_le (t := f) ha (by omega : 0 < u) (by omega)
  have l3 := upToV_nonneg ha (by omega : 0 < u) (by omega : 0 ≤ t)
  have l4 := upToV_nonneg ha (by omega : 0 < u) (by omega : 0 ≤ f)
  have HM1 : Hid (∀ wx, Calls Tryz.prog 71 #[.int .i64 a, .int .i64 t, .int .i64 u] wx fun e w' => e = .returned (.int .i64 (upToV a u t)) ∧ ∃ q, w' = wx.drewN q) := fun wx => rmuldivG_any a t u wx ha (by omega) (by omega) (by omega) (by omega) (by omega) (by have h := l1; unfold upToV at h; omega)
  have HM2 : Hid (∀ wx, Calls Tryz.prog 71 #[.int .i64 a, .int .i64 f, .int .i64 u] wx fun e w' => e = .returned (.int .i64 (upToV a u f)) ∧ ∃ q, w' = wx.drewN q) := fun wx => rmuldivG_any a f u wx ha (by omega) (by omega) (by omega) (by omega) (by omega) (by have h := l2; unfold upToV at h; omega)
  generalize upToV a u t = p1 at *
  generalize upToV a u f = p2 at *
  have d1 : decide (a < 0) = false := by simp; omega
  have d2 : decide (a > 1000000000000) = false := by simp; omega
  have d3 : decide (u < 1) = false := by simp; omega
  have d4 : decide (u > 1000000000) = false := by simp; omega
  have d5 : decide (f < 0) = false := by simp; omega
  have d6 : decide (f > t) = false := by simp; omega
  have d7 : decide (t > u) = false := by simp; omega
  have v1 : IntKind.i64.wrap (p1 - p2) = p1 - p2 := IntWalk.i64_in _ (by omega)
  clear ha ha2 hu hu2 hf hft htu l1 l2 l3 l4
  go_enter Tryz.func44, Tryz.ntmps44
  go_wp2_with fail
  refine (HM1.out w).mono ?_
  rintro e w1 ⟨rfl, q1, rfl⟩
  go_wp2_with fail
  refine (HM2.out _).mono ?_
  rintro e w2 ⟨rfl, q2, rfl⟩
  go_wp2
  go_ret2
  exact ⟨rfl, below_drewN (Below.refl _ _) (q1 + q2)⟩
set_option maxRecDepth 100000 in
set_option maxHeartbeats 8000000 in
theorem RgoodClaim_any (x : Clm) (A : Option Addr) (n c : Nat) (w : World) (h : Recs encSl 3 w A n x.sl) (hnc : n ≤ c) (hcm : c ≤ 9223372036854775807) :
    Calls Tryz.prog 45 #[.agg #[.int .i64 x.num, .int .i64 x.lot, .int .i64 x.sch, .int .i64 x.qty, .int .i64 x.rate, .slice A n c]] w (BRes w (clOk x)) := by
  have HX := Lib.hid h
  have HB : Hid (RowKit.Below w.heap.size w (w.alloc (.cells #[.int .i64 x.num, .int .i64 x.lot, .int .i64 x.sch, .int .i64 x.qty, .int .i64 x.rate, .slice A n c] 39))) := (Below.refl _ _).alloc (Nat.le_refl _) _
  have HBX : Hid (Bl (w.alloc (.cells #[.int .i64 x.num, .int .i64 x.lot, .int .i64 x.sch, .int .i64 x.qty, .int .i64 x.rate, .slice A n c] 39)) w.heap.size 39 #[.int .i64 x.num, .int .i64 x.lot, .int .i64 x.sch, .int .i64 x.qty, .int .i64 x.rate, .slice A n c]) := Bl.new _ _ _
  have HV : Hid (∀ wx, RowKit.Below w.heap.size w wx → Calls Tryz.prog 42 #[.slice A n c] wx (ERes wx (slErr x.sl))) := fun wx hb => Valid_any A n c x.sl wx (HX.out.below hb) hnc hcm
  have hno : Hid (∀ P : Prop, P → (clOk x = true → ¬ P) → clOk x = false) := fun P h1 h2 => by
    cases hc : clOk x
    · rfl
    · exact absurd h1 (h2 hc)
  clear h
  go_enter Tryz.func45, Tryz.ntmps45
  go_upto_region 1 with (fail)
  generalize w.alloc (.cells #[.int .i64 x.num, .int .i64 x.lot, .int .i64 x.sch, .int .i64 x.qty, .int .i64 x.rate, .slice A n c] 39) = w1 at *
  obtain ⟨gx, hgx⟩ : ∃ gx, w.heap.size = gx := ⟨_, rfl⟩
  rw [hgx] at HBX ⊢
  have HGX := Lib.hid hgx
  clear hgx
  have x0 := HBX.out.cell 0
  have x1 := HBX.out.cell 1
  have x2 := HBX.out.cell 2
  have x3 := HBX.out.cell 3
  have x4 := HBX.out.cell 4
  have x5 := HBX.out.cell 5
  by_cases g0 : x.num ≥ 1
  case neg =>
    have d0 : decide (x.num ≥ 1) = false := decide_eq_false g0
    have HR := Lib.hid (hno.out (¬ x.num ≥ 1) g0 (fun h => by have := clOk_yes h; omega))
    clear g0
    go_wp2
    go_ret
    exact ⟨by rw [HR.out]; rfl, HB.out⟩
  case pos =>
  have d0 : decide (x.num ≥ 1) = true := decide_eq_true g0
  by_cases g1 : x.num ≤ 1000000000
  case neg =>
    have d1 : decide (x.num ≤ 1000000000) = false := decide_eq_false g1
    have HR := Lib.hid (hno.out (¬ x.num ≤ 1000000000) g1 (fun h => by have := clOk_yes h; omega))
    clear g0 g1
    go_wp2
    go_ret
    exact ⟨by rw [HR.out]; rfl, HB.out⟩
  case pos =>
  have d1 : decide (x.num ≤ 1000000000) = true := decide_eq_true g1
  by_cases g2 : x.lot ≥ 1
  case neg =>
    have d2 : decide (x.lot ≥ 1) = false := decide_eq_false g2
    have HR := Lib.hid (hno.out (¬ x.lot ≥ 1) g2 (fun h => by have := clOk_yes h; omega))
    clear g0 g1 g2
    go_wp2
    go_ret
    exact ⟨by rw [HR.out]; rfl, HB.out⟩
  case pos =>
  have d2 : decide (x.lot ≥ 1) = true := decide_eq_true g2
  by_cases g3 : x.lot ≤ 1000000
  case neg =>
    have d3 : decide (x.lot ≤ 1000000) = false := decide_eq_false g3
    have HR := Lib.hid (hno.out (¬ x.lot ≤ 1000000) g3 (fun h => by have := clOk_yes h; omega))
    clear g0 g1 g2 g3
    go_wp2
    go_ret
    exact ⟨by rw [HR.out]; rfl, HB.out⟩
  case pos =>
  have d3 : decide (x.lot ≤ 1000000) = true := decide_eq_true g3
  by_cases g4 : x.sch ≥ 1
  case neg =>
    have d4 : decide (x.sch ≥ 1) = false := decide_eq_false g4
    have HR := Lib.hid (hno.out (¬ x.sch ≥ 1) g4 (fun h => by have := clOk_yes h; omega))
    clear g0 g1 g2 g3 g4
    go_wp2
    go_ret
    exact ⟨by rw [HR.out]; rfl, HB.out⟩
  case pos =>
  have d4 : decide (x.sch ≥ 1) = true := decide_eq_true g4
  by_cases g5 : x.sch ≤ 2
  case neg =>
    have d5 : decide (x.sch ≤ 2) = false := decide_eq_false g5
    have HR := Lib.hid (hno.out (¬ x.sch ≤ 2) g5 (fun h => by have := clOk_yes h; omega))
    clear g0 g1 g2 g3 g4 g5
    go_wp2
    go_ret
    exact ⟨by rw [HR.out]; rfl, HB.out⟩
  case pos =>
  have d5 : decide (x.sch ≤ 2) = true := decide_eq_true g5
  by_cases g6 : x.qty ≥ 1
  case neg =>
    have d6 : decide (x.qty ≥ 1) = false := decide_eq_false g6
    have HR := Lib.hid (hno.out (¬ x.qty ≥ 1) g6 (fun h => by have := clOk_yes h; omega))
    clear g0 g1 g2 g3 g4 g5 g6
    go_wp2
    go_ret
    exact ⟨by rw [HR.out]; rfl, HB.out⟩
  case pos =>
  have d6 : decide (x.qty ≥ 1) = true := decide_eq_true g6
  by_cases g7 : x.qty ≤ 1000000000
  case neg =>
    have d7 : decide (x.qty ≤ 1000000000) = false := decide_eq_false g7
    have HR := Lib.hid (hno.out (¬ x.qty ≤ 1000000000) g7 (fun h => by have := clOk_yes h; omega))
    clear g0 g1 g2 g3 g4 g5 g6 g7
    go_wp2
    go_ret
    exact ⟨by rw [HR.out]; rfl, HB.out⟩
  case pos =>
  have d7 : decide (x.qty ≤ 1000000000) = true := decide_eq_true g7
  by_cases g8 : x.rate ≥ 0
  case neg =>
    have d8 : decide (x.rate ≥ 0) = false := decide_eq_false g8
    have HR := Lib.hid (hno.out (¬ x.rate ≥ 0) g8 (fun h => by have := clOk_yes h; omega))
    clear g0 g1 g2 g3 g4 g5 g6 g7 g8
    go_wp2
    go_ret
    exact ⟨by rw [HR.out]; rfl, HB.out⟩
  case pos =>
  have d8 : decide (x.rate ≥ 0) = true := decide_eq_true g8
  by_cases g9 : x.rate ≤ 10000000
  case neg =>
    have d9 : decide (x.rate ≤ 10000000) = false := decide_eq_false g9
    have HR := Lib.hid (hno.out (¬ x.rate ≤ 10000000) g9 (fun h => by have := clOk_yes h; omega))
    clear g0 g1 g2 g3 g4 g5 g6 g7 g8 g9
    go_wp2
    go_ret
    exact ⟨by rw [HR.out]; rfl, HB.out⟩
  case pos =>
  have d9 : decide (x.rate ≤ 10000000) = true := decide_eq_true g9
  have HE : Hid (clOk x = decide (slErr x.sl = 0)) := by
    show _ = _
    have hs : x.sch = 1 ∨ x.sch = 2 := by omega
    by_cases h0 : slErr x.sl = 0
    · rw [decide_eq_true h0]
      simp [clOk, h0]
      omega
    · rw [decide_eq_false h0]
      exact hno.out (¬ slErr x.sl = 0) h0 (fun h => by have := clOk_yes h; omega)
  clear g0 g1 g2 g3 g4 g5 g6 g7 g8 g9
  generalize slErr x.sl = er at *
  go_wp2_with fail
  refine (HV.out w1 HB.out).mono ?_
  rintro e w2 ⟨rfl, hb2⟩
  have HB2 : Hid (RowKit.Below w.heap.size w w2) := HB.out.trans (hb2.mono HB.out.size)
  clear hb2 x0 x1 x2 x3 x4 x5
  by_cases h0 : er = 0
  · have e0 : (er == 0) = true := by simpa using h0
    have HR : Hid (clOk x = true) := by show _ = _; rw [HE.out]; exact decide_eq_true h0
    clear h0
    go_wp2
    go_ret
    exact ⟨by rw [HR.out]; rfl, HB2.out⟩
  · have e0 : (er == 0) = false := by simpa using h0
    have HR : Hid (clOk x = false) := by show _ = _; rw [HE.out]; exact decide_eq_false h0
    clear h0
    go_wp2
    go_ret
    exact ⟨by rw [HR.out]; rfl, HB2.out⟩
end Go.Proofs.YthnhgjhnkncmiaaGreat

namespace Go.Proofs.YthnhgjhnkncmiaaGreat
open Go.RowKit
set_option linter.unusedVariables false
theorem cls_meet {cs : List Clm} (h : ClsOk cs) {i k : Nat} {a b : List Sl} (hk : k < i) (hi : i < cs.length) (ha : cs[i]!.sl = a) (hb : cs[k]!.sl = b) : ¬ MeetsL a b := by
  rw [← ha, ← hb]
  have h1 : Apart (clSl (cs.take (i + 1))) := by
    have h2 : cs.take (i + 1) ++ cs.drop (i + 1) = cs := List.take_append_drop _ _
    have h3 := h.apart
    rw [← h2, clSl_append, apart_append] at h3
    exact h3.1
  rw [clSl_take hi, apart_append] at h1
  intro hm
  refine h1.2.2 ?_
  rw [meetsL_flat]
  obtain ⟨x, hx, y, hy, hxy⟩ := hm
  refine ⟨cs[k]!, ?_, y, hy, x, hx, hxy.symm⟩
  rw [getElem!_pos cs k (by omega)]
  exact List.mem_take_iff_getElem.2 ⟨k, by omega, rfl⟩
set_option maxRecDepth 100000 in
set_option maxHeartbeats 16000000 in
theorem RBorne_any (A : Option Addr) (n c : Nat) (xs : List Sl) (DA PA : Option Addr) (dn dc pn pc : Nat) (d p : List Ch) (w : World) (h : Recs encSl 3 w A n xs) (hnc : n ≤ c) (hcm : c ≤ 9223372036854775807) (hd : Recs encCh 3 w DA dn d) (hp : Recs encCh 3 w PA pn p) (hdn : dn ≤ 1000) (hpn : pn ≤ 1000) :
    Calls Tryz.prog 20 #[.slice A n c, .slice DA dn dc, .slice PA pn pc] w (E2 w (borneE xs d p)) := by
  have hxl : xs.length = n := h.1
  have HX := Lib.hid h
  have HD := Lib.hid hd
  have HP := Lib.hid hp
  clear h hd hp
  obtain ⟨e1, he1⟩ : ∃ e1, slErr xs = e1 := ⟨_, rfl⟩
  obtain ⟨e2, he2⟩ : ∃ e2, chErr d = e2 := ⟨_, rfl⟩
  obtain ⟨e3, he3⟩ : ∃ e3, chErr p = e3 := ⟨_, rfl⟩
  have HV1 : Hid (Calls Tryz.prog 42 #[.slice A n c] w (ERes w e1)) := by rw [← he1]; exact Valid_any A n c xs w HX.out hnc hcm
  have HV2 : Hid (∀ wx, RowKit.Below w.heap.size w wx → Calls Tryz.prog 43 #[.slice DA dn dc] wx (EInt wx e2)) := fun wx hb => by rw [← he2]; exact RCharges_any DA dn dc d wx (HD.out.below hb)
  have HV3 : Hid (∀ wx, RowKit.Below w.heap.size w wx → Calls Tryz.prog 43 #[.slice PA pn pc] wx (EInt wx e3)) := fun wx hb => by rw [← he3]; exact RCharges_any PA pn pc p wx (HP.out.below hb)
  have HBE : Hid (borneE xs d p = if e1 ≠ 0 then (0, e1) else if e2 ≠ 0 then (0, e2) else if e3 ≠ 0 then (0, e3) else sumE d p xs 0) := by show _ = _; unfold borneE; rw [he1, he2, he3]
  have HSV : Hid (e1 = 0 → n ≤ 64 ∧ SlsOk xs) := fun h => by have := slErr_ok (he1.trans h); exact ⟨by omega, this.2.1⟩
  have HDK : Hid (e2 = 0 → ChsOk d) := fun h => chErr_ok.1 (he2.trans h)
  have HPK : Hid (e3 = 0 → ChsOk p) := fun h => chErr_ok.1 (he3.trans h)
  clear he1 he2 he3
  generalize borneE xs d p = be at *
  go_enter Tryz.func20, Tryz.ntmps20
  go_wp2_with fail
  refine HV1.out.mono ?_
  rintro e w1 ⟨rfl, hb1⟩
  have HB1 := Lib.hid hb1
  clear hb1 HV1
  by_cases h1 : e1 = 0
  case neg =>
    have d1 : (e1 == 0) = false := by simpa using h1
    have d1b : (e1 != 0) = true := by simpa using h1
    have hr : be = (0, e1) := by rw [HBE.out, if_pos h1]
    subst hr
    clear HBE h1
    go_wp2
    go_ret2
    exact ⟨rfl, HB1.out⟩
  case pos =>
  have d1 : (e1 == 0) = true := by simpa using h1
  go_wp2_with fail
  refine (HV2.out w1 HB1.out).mono ?_
  rintro e w2 ⟨rfl, hb2⟩
  have HB2 : Hid (RowKit.Below w.heap.size w w2) := HB1.out.trans (hb2.mono HB1.out.size)
  clear hb2 HV2 HB1 d1
  by_cases h2 : e2 = 0
  case neg =>
    have d2 : (e2 == 0) = false := by simpa using h2
    have d2b : (e2 != 0) = true := by simpa using h2
    have hr : be = (0, e2) := by rw [HBE.out, if_neg (by simpa using h1), if_pos h2]
    subst hr
    clear HBE h1 h2
    go_wp2
    go_ret2
    exact ⟨rfl, HB2.out⟩
  case pos =>
  have d2 : (e2 == 0) = true := by simpa using h2
  go_wp2_with fail
  refine (HV3.out w2 HB2.out).mono ?_
  rintro e w3 ⟨rfl, hb3⟩
  have HB3 : Hid (RowKit.Below w.heap.size w w3) := HB2.out.trans (hb3.mono HB2.out.size)
  clear hb3 HV3 HB2 d2
  by_cases h3 : e3 = 0
  case neg =>
    have d3 : (e3 == 0) = false := by simpa using h3
    have d3b : (e3 != 0) = true := by simpa using h3
    have hr : be = (0, e3) := by rw [HBE.out, if_neg (by simpa using h1), if_neg (by simpa using h2), if_pos h3]
    subst hr
    clear HBE h1 h2 h3
    go_wp2
    go_ret2
    exact ⟨rfl, HB3.out⟩
  case pos =>
  have d3b : (e3 != 0) = false := by simpa using h3
  have hr : be = sumE d p xs 0 := by rw [HBE.out, if_neg (by simpa using h1), if_neg (by simpa using h2), if_neg (by simpa using h3)]
  have HBR := Lib.hid hr
  have hn64 : n ≤ 64 := (HSV.out h1).1
  have HSO := Lib.hid (HSV.out h1).2
  have HDO := Lib.hid (HDK.out h2)
  have HPO := Lib.hid (HPK.out h3)
  clear HBE h1 h2 h3 hr HSV HDK HPK
  go_wp2_with fail
  clear d3b
  go_loopw [9, 10] (fun s v wx => ∃ (i : Nat) (t : Int), v = .int .i64 (i : Int) ∧ s = .int .i64 t ∧ i ≤ n ∧ 0 ≤ t ∧ t ≤ (i : Int) * 1000000000000 ∧ Hid (be = sumE d p (xs.drop i) t) ∧ Hid (RowKit.Below w.heap.size w wx)) (fun _ v _ => n - (intOf v).toNat)
  case atStart => exact ⟨0, 0, rfl, rfl, Nat.zero_le _, by omega, by omega, HBR, HB3⟩
  case round =>
    clear HB3 HBR
    obtain ⟨i, t, rfl, rfl, hi, ht0, ht1, HS, HB⟩ := hrel
    by_cases hlt : i < n
    case neg =>
      have dk : decide ((i : Int) < (n : Int)) = false := by simp; omega
      have HR : Hid (be = (t, 0)) := by show _ = _; rw [HS.out, List.drop_of_length_le (by omega)]; rfl
      go_wp2
      go_ret2
      exact ⟨by rw [HR.out]; rfl, HB.out⟩
    case pos =>
    have dk : decide ((i : Int) < (n : Int)) = true := by simp; omega
    obtain ⟨bb, o1, rfl, hbb, ha⟩ := recs_at (HX.out.below HB.out) hlt
    obtain ⟨x, hx⟩ : ∃ x, xs[i]! = x := ⟨_, rfl⟩
    rw [hx] at ha
    have a0 : wr.cell? ⟨bb, o1 + i * 3, none⟩ = some (.int .i64 x.src) := ha.out 0 (by omega)
    have a1 : wr.cell? ⟨bb, o1 + i * 3 + 1, none⟩ = some (.int .i64 x.fr) := ha.out 1 (by omega)
    have a2 : wr.cell? ⟨bb, o1 + i * 3 + 2, none⟩ = some (.int .i64 x.to) := ha.out 2 (by omega)
    have hmem : x ∈ xs := by rw [← hx, getElem!_pos xs i (by omega)]; exact List.getElem_mem _
    have hx1 := slOk_yes (HSO.out x hmem)
    obtain ⟨v1, v2, hv12⟩ : ∃ v1 v2, porE d p x = (v1, v2) := ⟨_, _, rfl⟩
    have HST : Hid (sumE d p (xs.drop i) t = if v2 = 0 then sumE d p (xs.drop (i + 1)) (t + v1) else (0, v2)) := by
      show _ = _
      rw [List.drop_eq_getElem_cons (by omega), sumE, ← getElem!_pos xs i (by omega), hx, hv12]
    have HBD : Hid (v2 = 0 → 0 ≤ v1 ∧ v1 ≤ 1000000000000) := fun h0 => by
      have := porE_bounds HDO.out HPO.out (x := x) (by rw [hv12]; exact h0) (HSO.out x hmem)
      rw [hv12] at this
      exact this
    have HV12 := Lib.hid hv12
    obtain ⟨q1, hq1⟩ : ∃ q1, (findC d x.src).getD ⟨0, 0, 0⟩ = q1 := ⟨_, rfl⟩
    obtain ⟨b1, hb1⟩ : ∃ b1, (findC d x.src).isSome = b1 := ⟨_, rfl⟩
    obtain ⟨q2, hq2⟩ : ∃ q2, (findC p x.src).getD ⟨0, 0, 0⟩ = q2 := ⟨_, rfl⟩
    obtain ⟨b2, hb2⟩ : ∃ b2, (findC p x.src).isSome = b2 := ⟨_, rfl⟩
    have HF1 : Hid (∀ wx, RowKit.Below w.heap.size w wx → Calls Tryz.prog 24 #[.slice DA dn dc, .int .i64 x.src] wx fun e w' => e = .returned (.tuple #[.agg #[.int .i64 q1.src, .int .i64 q1.un, .int .i64 q1.am], .bool b1]) ∧ RowKit.Below wx.heap.size wx w') := fun wx hb => by
      have := ChargeOf_any DA dn dc d x.src wx (HD.out.below hb) (by omega)
      unfold FindRes at this
      rw [hq1, hb1] at this
      exact this
    have HF2 : Hid (∀ wx, RowKit.Below w.heap.size w wx → Calls Tryz.prog 24 #[.slice PA pn pc, .int .i64 x.src] wx fun e w' => e = .returned (.tuple #[.agg #[.int .i64 q2.src, .int .i64 q2.un, .int .i64 q2.am], .bool b2]) ∧ RowKit.Below wx.heap.size wx w') := fun wx hb => by
      have := ChargeOf_any PA pn pc p x.src wx (HP.out.below hb) (by omega)
      unfold FindRes at this
      rw [hq2, hb2] at this
      exact this
    have HQ2 : Hid (0 ≤ q2.am) := by rw [← hq2]; exact getD_am HPO.out x.src
    have hii : (i : Int) < (n : Int) := by omega
    have hiz : (0 : Int) ≤ (i : Int) := by omega
    clear ha hx hmem hv12
    have HA : Hid (∀ wx, RowKit.Below wr.heap.size wr wx → wx.cell? ⟨bb, o1 + i * 3, none⟩ = some (.int .i64 x.src) ∧ wx.cell? ⟨bb, o1 + i * 3 + 1, none⟩ = some (.int .i64 x.fr) ∧ wx.cell? ⟨bb, o1 + i * 3 + 2, none⟩ = some (.int .i64 x.to)) := fun wx hb => ⟨(hb.cell (p := ⟨bb, o1 + i * 3, none⟩) hbb).trans a0, (hb.cell (p := ⟨bb, o1 + i * 3 + 1, none⟩) hbb).trans a1, (hb.cell (p := ⟨bb, o1 + i * 3 + 2, none⟩) hbb).trans a2⟩
    clear a1 a2
    go_wp2_with fail
    refine (HF1.out wr HB.out).mono ?_
    rintro e w4 ⟨rfl, hb4⟩
    clear a0
    cases b1
    case false =>
      have hpe : porE d p x = (0, 6) := by
        cases hf : findC d x.src with
        | none => unfold porE; rw [hf]
        | some c => rw [hf] at hb1; cases hb1
      rw [HV12.out] at hpe
      injection hpe with hpa hpb
      subst hpa hpb
      have HR : Hid (be = (0, 6)) := by show _ = _; rw [HS.out, HST.out, if_neg (by decide)]
      have HB4 : Hid (RowKit.Below w.heap.size w (w4.alloc (.cells #[.int .i64 q1.src, .int .i64 q1.un, .int .i64 q1.am] 61))) := by
        have := HB.out.trans (hb4.mono HB.out.size)
        exact this.alloc this.size _
      clear hq1 hb1 hq2 hb2 hb4
      go_wp2
      go_ret2
      exact ⟨by rw [HR.out]; rfl, HB4.out⟩
    case true =>
    have hsome : findC d x.src = some q1 := by
      cases hf : findC d x.src with
      | none => rw [hf] at hb1; cases hb1
      | some c => rw [hf] at hq1; exact congrArg some hq1
    have hq := chOk_yes (HDO.out.ok q1 (findC_mem hsome).1)
    have HPE := Lib.hid (HV12.out.symm.trans (porE_get hsome hq2 hb2))
    clear hq1 hb1 hq2 hb2 hsome
    have HW1 : Hid (RowKit.Below wr.heap.size wr (w4.alloc (.cells #[.int .i64 q1.src, .int .i64 q1.un, .int .i64 q1.am] 61))) := hb4.alloc hb4.size _
    have HB4 : Hid (RowKit.Below w.heap.size w (w4.alloc (.cells #[.int .i64 q1.src, .int .i64 q1.un, .int .i64 q1.am] 61))) := HB.out.trans (HW1.out.mono HB.out.size)
    have HC1 : Hid (Bl (w4.alloc (.cells #[.int .i64 q1.src, .int .i64 q1.un, .int .i64 q1.am] 61)) w4.heap.size 61 #[.int .i64 q1.src, .int .i64 q1.un, .int .i64 q1.am]) := Bl.new _ _ _
    clear hb4 HF1
    go_upto_region 15 with (fail)
    generalize w4.alloc (.cells #[.int .i64 q1.src, .int .i64 q1.un, .int .i64 q1.am] 61) = W4 at *
    generalize w4.heap.size = g1 at *
    have a0 := (HA.out _ HW1.out).1
    go_wp2_with fail
    refine (HF2.out W4 HB4.out).mono ?_
    rintro e w5 ⟨rfl, hb5⟩
    clear a0
    have HW2 : Hid (RowKit.Below wr.heap.size wr (w5.alloc (.cells #[.int .i64 q2.src, .int .i64 q2.un, .int .i64 q2.am] 61))) := by
      have := HW1.out.trans (hb5.mono HW1.out.size)
      exact this.alloc this.size _
    have HB5 : Hid (RowKit.Below w.heap.size w (w5.alloc (.cells #[.int .i64 q2.src, .int .i64 q2.un, .int .i64 q2.am] 61))) := HB.out.trans (HW2.out.mono HB.out.size)
    have HC12 : Hid (Bl (w5.alloc (.cells #[.int .i64 q2.src, .int .i64 q2.un, .int .i64 q2.am] 61)) g1 61 #[.int .i64 q1.src, .int .i64 q1.un, .int .i64 q1.am]) := Bl.alloc ((hb5.block g1 HC1.out.lt).trans HC1.out) _
    have HC2 : Hid (Bl (w5.alloc (.cells #[.int .i64 q2.src, .int .i64 q2.un, .int .i64 q2.am] 61)) w5.heap.size 61 #[.int .i64 q2.src, .int .i64 q2.un, .int .i64 q2.am]) := Bl.new _ _ _
    clear hb5 HF2 HB4 HW1 HC1
    go_upto_region 16 with (fail)
    generalize w5.alloc (.cells #[.int .i64 q2.src, .int .i64 q2.un, .int .i64 q2.am] 61) = W5 at *
    generalize w5.heap.size = g2 at *
    have k1 : W5.cell? ⟨g2, 1, none⟩ = some (.int .i64 q2.un) := HC2.out.cell 1
    have c1 : W5.cell? ⟨g1, 1, none⟩ = some (.int .i64 q1.un) := HC12.out.cell 1
    obtain ⟨mn, hmn⟩ : ∃ mn, min q1.am q2.am = mn := ⟨_, rfl⟩
    have hm0 : 0 ≤ mn ∧ mn ≤ 1000000000000 := by have := HQ2.out; omega
    rw [hmn] at HPE
    cases hcl : (b2 && (q2.un != q1.un))
    case true =>
      have hb : b2 = true ∧ (q2.un != q1.un) = true := by simpa using hcl
      obtain ⟨rfl, hne⟩ := hb
      have hpe := HPE.out
      rw [hcl, if_pos rfl] at hpe
      injection hpe with hpa hpb
      subst hpa hpb
      have HR : Hid (be = (0, 14)) := by show _ = _; rw [HS.out, HST.out, if_neg (by decide)]
      clear hcl
      go_wp2
      go_ret2
      exact ⟨by rw [HR.out]; rfl, HB5.out⟩
    case false =>
    have HBC : Hid (b2 = true → (q2.un != q1.un) = false) := fun h => by rw [h] at hcl; simpa using hcl
    have hpe := HPE.out
    rw [hcl, if_neg (by decide)] at hpe
    have HPE2 := Lib.hid hpe
    clear hcl hpe HPE
    have HS5 : Hid (∀ wx, RowKit.Below W5.heap.size W5 wx → (wx.cell? ⟨bb, o1 + i * 3 + 1, none⟩ = some (.int .i64 x.fr) ∧ wx.cell? ⟨bb, o1 + i * 3 + 2, none⟩ = some (.int .i64 x.to) ∧ wx.cell? ⟨g1, 1, none⟩ = some (.int .i64 q1.un) ∧ wx.cell? ⟨g1, 2, none⟩ = some (.int .i64 q1.am) ∧ wx.cell? ⟨g2, 2, none⟩ = some (.int .i64 q2.am) ∧ RowKit.Below W5.heap.size W5 wx)) := fun wx hb => by
      have k := HA.out _ (HW2.out.trans (hb.mono HW2.out.size))
      have h1 : Bl wx g1 61 #[.int .i64 q1.src, .int .i64 q1.un, .int .i64 q1.am] := (hb.block g1 HC12.out.lt).trans HC12.out
      have h2 : Bl wx g2 61 #[.int .i64 q2.src, .int .i64 q2.un, .int .i64 q2.am] := (hb.block g2 HC2.out.lt).trans HC2.out
      exact ⟨k.2.1, k.2.2, h1.cell 1, h1.cell 2, h2.cell 2, hb⟩
    have HPO5 : Hid (x.to ≤ q1.un → ∀ wx, Calls Tryz.prog 44 #[.int .i64 mn, .int .i64 q1.un, .int .i64 x.fr, .int .i64 x.to] wx (E2 wx (upToV mn q1.un x.to - upToV mn q1.un x.fr, 0))) := fun h wx => RPortion_any mn q1.un x.fr x.to wx hm0.1 hm0.2 (by omega) (by omega) (by omega) (by omega) h
    clear hm0
    cases b2
    case false =>
      have a2 := (HS5.out _ (Below.refl _ _)).2.1
      by_cases ht : q1.un < x.to
      case pos =>
        have d1 : decide (x.to > q1.un) = true := decide_eq_true ht
        have d2 : decide (q1.un < x.to) = true := decide_eq_true ht
        have hpe := HPE2.out
        rw [if_pos ht] at hpe
        injection hpe with hpa hpb
        subst hpa hpb
        have HR : Hid (be = (0, 2)) := by show _ = _; rw [HS.out, HST.out, if_neg (by decide)]
        clear ht
        go_upto_region 18 with (fail)
        go_quiet (fail)
        go_wp2
        go_ret2
        exact ⟨by rw [HR.out]; rfl, below_drewN HB5.out _⟩
      case neg =>
      have d1 : decide (x.to > q1.un) = false := decide_eq_false ht
      have d2 : decide (q1.un < x.to) = false := decide_eq_false ht
      have hpe := HPE2.out
      rw [if_neg ht] at hpe
      have HPC := Lib.hid (HPO5.out (by omega))
      rw [← hpe] at HPC
      injection hpe with hpa hpb
      subst hpb
      have hbd := HBD.out rfl
      have HS6 : Hid (be = sumE d p (xs.drop (i + 1)) (t + v1)) := by show _ = _; rw [HS.out, HST.out, if_pos rfl]
      have u1 : IntKind.i64.wrap (t + v1) = t + v1 := IntWalk.i64_in _ (by omega)
      have HPQ : Hid (∀ wx, Calls Tryz.prog 44 #[.int .i64 mn, .int .i64 q1.un, .int .i64 x.fr, .int .i64 x.to] wx fun e w' => e = .returned (.tuple #[.int .i64 v1, .int .i64 0]) ∧ RowKit.Below wx.heap.size wx w') := HPC.out
      clear ht hpa HPO5 HPE2 HBD HPC
      go_upto_region 18 with (fail)
      go_quiet (fail)
      have HBQ : Hid (RowKit.Below W5.heap.size W5 (W5.drewN nq)) := below_drewN (Below.refl _ _) nq
      have HS7 : Hid (∀ wx, RowKit.Below (W5.drewN nq).heap.size (W5.drewN nq) wx → (wx.cell? ⟨bb, o1 + i * 3 + 1, none⟩ = some (.int .i64 x.fr) ∧ wx.cell? ⟨bb, o1 + i * 3 + 2, none⟩ = some (.int .i64 x.to) ∧ wx.cell? ⟨g1, 1, none⟩ = some (.int .i64 q1.un) ∧ wx.cell? ⟨g1, 2, none⟩ = some (.int .i64 q1.am) ∧ wx.cell? ⟨g2, 2, none⟩ = some (.int .i64 q2.am) ∧ RowKit.Below W5.heap.size W5 wx)) := fun wx hb => HS5.out wx (HBQ.out.trans (hb.mono HBQ.out.size))
      go_upto_region 20 with (fail)
      clear a2 k1 c1 d1 d2 HS5
      generalize W5.drewN nq = W7 at *
      have hk0 : Hid (RowKit.Below W7.heap.size W7 W7.drew) := (Below.refl _ _).drew
      have hk00 : Hid (RowKit.Below W7.heap.size W7 W7) := Below.refl _ _
      have y0 := (HS7.out _ hk00.out).1
      have y1 := (HS7.out _ hk00.out).2.1
      have y2 := (HS7.out _ hk00.out).2.2.1
      have y3 := (HS7.out _ hk00.out).2.2.2.1
      have y4 := (HS7.out _ hk00.out).2.2.2.2.1
      go_region_held3 (fun wx => wx.cell? ⟨bb, o1 + i * 3 + 1, none⟩ = some (.int .i64 x.fr) ∧ wx.cell? ⟨bb, o1 + i * 3 + 2, none⟩ = some (.int .i64 x.to) ∧ wx.cell? ⟨g1, 1, none⟩ = some (.int .i64 q1.un) ∧ wx.cell? ⟨g1, 2, none⟩ = some (.int .i64 q1.am) ∧ wx.cell? ⟨g2, 2, none⟩ = some (.int .i64 q2.am) ∧ RowKit.Below W5.heap.size W5 wx)
        (first
          | with_reducible exact HS7.out _ hka.out
          | with_reducible exact HS7.out _ hk0.out
          | with_reducible exact HS7.out _ hk00.out)
        (first
          | (go_at_call 44; with_reducible (refine (HPQ.out _).mono ?_); rintro e wa ⟨rfl, hba⟩; have hka := Lib.hid (hk0.out.trans (hba.mono hk0.out.size))))
      all_goals
        have HB8 : Hid (RowKit.Below w.heap.size w wa) := HB5.out.trans (((HS7.out _ hka.out).2.2.2.2.2).mono HB5.out.size)
        go_wp2_with fail
        go_roundw
        case rel => exact ⟨i + 1, t + v1, by go_num, rfl, by omega, by omega, by omega, HS6, HB8⟩
        case measure => simp [intOf]; omega
    case true =>
      have hne := HBC.out rfl
      have a2 := (HS5.out _ (Below.refl _ _)).2.1
      by_cases ht : q1.un < x.to
      case pos =>
        have d1 : decide (x.to > q1.un) = true := decide_eq_true ht
        have d2 : decide (q1.un < x.to) = true := decide_eq_true ht
        have hpe := HPE2.out
        rw [if_pos ht] at hpe
        injection hpe with hpa hpb
        subst hpa hpb
        have HR : Hid (be = (0, 2)) := by show _ = _; rw [HS.out, HST.out, if_neg (by decide)]
        clear ht
        go_upto_region 18 with (fail)
        go_quiet (fail)
        go_wp2
        go_ret2
        exact ⟨by rw [HR.out]; rfl, below_drewN HB5.out _⟩
      case neg =>
      have d1 : decide (x.to > q1.un) = false := decide_eq_false ht
      have d2 : decide (q1.un < x.to) = false := decide_eq_false ht
      have hpe := HPE2.out
      rw [if_neg ht] at hpe
      have HPC := Lib.hid (HPO5.out (by omega))
      rw [← hpe] at HPC
      injection hpe with hpa hpb
      subst hpb
      have hbd := HBD.out rfl
      have HS6 : Hid (be = sumE d p (xs.drop (i + 1)) (t + v1)) := by show _ = _; rw [HS.out, HST.out, if_pos rfl]
      have u1 : IntKind.i64.wrap (t + v1) = t + v1 := IntWalk.i64_in _ (by omega)
      have HPQ : Hid (∀ wx, Calls Tryz.prog 44 #[.int .i64 mn, .int .i64 q1.un, .int .i64 x.fr, .int .i64 x.to] wx fun e w' => e = .returned (.tuple #[.int .i64 v1, .int .i64 0]) ∧ RowKit.Below wx.heap.size wx w') := HPC.out
      clear ht hpa HPO5 HPE2 HBD HPC
      go_upto_region 18 with (fail)
      go_quiet (fail)
      have HBQ : Hid (RowKit.Below W5.heap.size W5 (W5.drewN nq)) := below_drewN (Below.refl _ _) nq
      have HS7 : Hid (∀ wx, RowKit.Below (W5.drewN nq).heap.size (W5.drewN nq) wx → (wx.cell? ⟨bb, o1 + i * 3 + 1, none⟩ = some (.int .i64 x.fr) ∧ wx.cell? ⟨bb, o1 + i * 3 + 2, none⟩ = some (.int .i64 x.to) ∧ wx.cell? ⟨g1, 1, none⟩ = some (.int .i64 q1.un) ∧ wx.cell? ⟨g1, 2, none⟩ = some (.int .i64 q1.am) ∧ wx.cell? ⟨g2, 2, none⟩ = some (.int .i64 q2.am) ∧ RowKit.Below W5.heap.size W5 wx)) := fun wx hb => HS5.out wx (HBQ.out.trans (hb.mono HBQ.out.size))
      go_upto_region 20 with (fail)
      clear a2 k1 c1 d1 d2 HS5
      generalize W5.drewN nq = W7 at *
      have hk0 : Hid (RowKit.Below W7.heap.size W7 W7.drew) := (Below.refl _ _).drew
      have hk00 : Hid (RowKit.Below W7.heap.size W7 W7) := Below.refl _ _
      have y0 := (HS7.out _ hk00.out).1
      have y1 := (HS7.out _ hk00.out).2.1
      have y2 := (HS7.out _ hk00.out).2.2.1
      have y3 := (HS7.out _ hk00.out).2.2.2.1
      have y4 := (HS7.out _ hk00.out).2.2.2.2.1
      go_region_held3 (fun wx => wx.cell? ⟨bb, o1 + i * 3 + 1, none⟩ = some (.int .i64 x.fr) ∧ wx.cell? ⟨bb, o1 + i * 3 + 2, none⟩ = some (.int .i64 x.to) ∧ wx.cell? ⟨g1, 1, none⟩ = some (.int .i64 q1.un) ∧ wx.cell? ⟨g1, 2, none⟩ = some (.int .i64 q1.am) ∧ wx.cell? ⟨g2, 2, none⟩ = some (.int .i64 q2.am) ∧ RowKit.Below W5.heap.size W5 wx)
        (first
          | with_reducible exact HS7.out _ hka.out
          | with_reducible exact HS7.out _ hk0.out
          | with_reducible exact HS7.out _ hk00.out)
        (first
          | (go_at_call 44; with_reducible (refine (HPQ.out _).mono ?_); rintro e wa ⟨rfl, hba⟩; have hka := Lib.hid (hk0.out.trans (hba.mono hk0.out.size))))
      all_goals
        have HB8 : Hid (RowKit.Below w.heap.size w wa) := HB5.out.trans (((HS7.out _ hka.out).2.2.2.2.2).mono HB5.out.size)
        go_wp2_with fail
        go_roundw
        case rel => exact ⟨i + 1, t + v1, by go_num, rfl, by omega, by omega, by omega, HS6, HB8⟩
        case measure => simp [intOf]; omega
set_option maxRecDepth 100000 in
set_option maxHeartbeats 8000000 in
theorem RPayable_any (x : Clm) (A : Option Addr) (n c : Nat) (DA PA : Option Addr) (dn dc pn pc : Nat) (d p : List Ch) (w : World) (h : Recs encSl 3 w A n x.sl) (hnc : n ≤ c) (hcm : c ≤ 9223372036854775807) (hd : Recs encCh 3 w DA dn d) (hp : Recs encCh 3 w PA pn p) (hdn : dn ≤ 1000) (hpn : pn ≤ 1000) :
    Calls Tryz.prog 21 #[.agg #[.int .i64 x.num, .int .i64 x.lot, .int .i64 x.sch, .int .i64 x.qty, .int .i64 x.rate, .slice A n c], .slice DA dn dc, .slice PA pn pc] w (E2 w (payE x d p)) := by
  have HB0 : Hid (RowKit.Below w.heap.size w (w.alloc (.cells #[.int .i64 x.num, .int .i64 x.lot, .int .i64 x.sch, .int .i64 x.qty, .int .i64 x.rate, .slice A n c] 39))) := (Below.refl _ _).alloc (Nat.le_refl _) _
  have HBX : Hid (Bl (w.alloc (.cells #[.int .i64 x.num, .int .i64 x.lot, .int .i64 x.sch, .int .i64 x.qty, .int .i64 x.rate, .slice A n c] 39)) w.heap.size 39 #[.int .i64 x.num, .int .i64 x.lot, .int .i64 x.sch, .int .i64 x.qty, .int .i64 x.rate, .slice A n c]) := Bl.new _ _ _
  have HX := Lib.hid h
  have HD := Lib.hid hd
  have HP := Lib.hid hp
  clear h hd hp
  obtain ⟨ok, hok⟩ : ∃ ok, clOk x = ok := ⟨_, rfl⟩
  obtain ⟨b, er, hbe⟩ : ∃ b er, borneE x.sl d p = (b, er) := ⟨_, _, rfl⟩
  have HPE : Hid (payE x d p = if ok = true then if er = 0 then (if x.sch = 2 then min b (x.qty * x.rate / 1000) else b, 0) else (0, er) else (0, 2)) := by
    show _ = _
    unfold payE
    rw [hok, hbe]
  have HOK : Hid (ok = true → (0 ≤ x.qty * x.rate ∧ x.qty * x.rate ≤ 10000000000000000)) := fun h => by
    have := clOk_yes (hok.trans h)
    have h1 := Int.mul_nonneg (show 0 ≤ x.qty by omega) (show 0 ≤ x.rate by omega)
    have h2 := Int.mul_le_mul (show x.qty ≤ 1000000000 by omega) (show x.rate ≤ 10000000 by omega) (by omega) (by omega)
    exact ⟨h1, by omega⟩
  have HV : Hid (∀ wx, RowKit.Below w.heap.size w wx → Calls Tryz.prog 45 #[.agg #[.int .i64 x.num, .int .i64 x.lot, .int .i64 x.sch, .int .i64 x.qty, .int .i64 x.rate, .slice A n c]] wx (BRes wx ok)) := fun wx hb => by rw [← hok]; exact RgoodClaim_any x A n c wx (HX.out.below hb) hnc hcm
  have HBO : Hid (∀ wx, RowKit.Below w.heap.size w wx → Calls Tryz.prog 20 #[.slice A n c, .slice DA dn dc, .slice PA pn pc] wx fun e w' => e = .returned (.tuple #[.int .i64 b, .int .i64 er]) ∧ RowKit.Below wx.heap.size wx w') := fun wx hb => by
    have := RBorne_any A n c x.sl DA PA dn dc pn pc d p wx (HX.out.below hb) hnc hcm (HD.out.below hb) (HP.out.below hb) hdn hpn
    rw [hbe] at this
    exact this
  generalize payE x d p = pe at *
  clear hok hbe HX HD HP
  go_enter Tryz.func21, Tryz.ntmps21
  go_upto_region 1 with (fail)
  generalize w.alloc (.cells #[.int .i64 x.num, .int .i64 x.lot, .int .i64 x.sch, .int .i64 x.qty, .int .i64 x.rate, .slice A n c] 39) = W0 at *
  obtain ⟨gx, hgx⟩ : ∃ gx, w.heap.size = gx := ⟨_, rfl⟩
  rw [hgx] at HBX ⊢
  have HGX := Lib.hid hgx
  clear hgx
  have x0 := HBX.out.cell 0
  have x1 := HBX.out.cell 1
  have x2 := HBX.out.cell 2
  have x3 := HBX.out.cell 3
  have x4 := HBX.out.cell 4
  have x5 := HBX.out.cell 5
  go_wp2_with fail
  refine (HV.out W0 HB0.out).mono ?_
  rintro e w1 ⟨rfl, hbw1⟩
  have HB1 : Hid (RowKit.Below w.heap.size w w1) := HB0.out.trans (hbw1.mono HB0.out.size)
  have HBX1 : Hid (Bl w1 gx 39 #[.int .i64 x.num, .int .i64 x.lot, .int .i64 x.sch, .int .i64 x.qty, .int .i64 x.rate, .slice A n c]) := (hbw1.block gx HBX.out.lt).trans HBX.out
  clear hbw1 HBX HB0 HV x0 x1 x2 x3 x4 x5
  cases ok
  case false =>
    have hr : pe = (0, 2) := by rw [HPE.out]; rfl
    subst hr
    go_wp2
    go_ret2
    exact ⟨rfl, HB1.out⟩
  case true =>
  have x5 := HBX1.out.cell 5
  go_wp2_with fail
  refine (HBO.out w1 HB1.out).mono ?_
  rintro e w2 ⟨rfl, hbw2⟩
  have HB2 : Hid (RowKit.Below w.heap.size w w2) := HB1.out.trans (hbw2.mono HB1.out.size)
  have HBX2 : Hid (Bl w2 gx 39 #[.int .i64 x.num, .int .i64 x.lot, .int .i64 x.sch, .int .i64 x.qty, .int .i64 x.rate, .slice A n c]) := (hbw2.block gx HBX1.out.lt).trans HBX1.out
  clear hbw2 HBX1 HB1 HBO x5
  by_cases h0 : er = 0
  case neg =>
    have d0 : (er != 0) = true := by simpa using h0
    have hr : pe = (0, er) := by rw [HPE.out]; simp [h0]
    subst hr
    clear h0
    go_wp2
    go_ret2
    exact ⟨rfl, HB2.out⟩
  case pos =>
  have d0 : (er != 0) = false := by simpa using h0
  have x2 : w2.cell? ⟨gx, 2, none⟩ = some (.int .i64 x.sch) := HBX2.out.cell 2
  have x3 : w2.cell? ⟨gx, 3, none⟩ = some (.int .i64 x.qty) := HBX2.out.cell 3
  have x4 : w2.cell? ⟨gx, 4, none⟩ = some (.int .i64 x.rate) := HBX2.out.cell 4
  by_cases hs : x.sch = 2
  case neg =>
    have d1 : (x.sch == 2) = false := by simpa using hs
    have hr : pe = (b, 0) := by rw [HPE.out]; simp [h0, hs]
    subst hr
    clear h0 hs
    go_wp2
    go_ret2
    exact ⟨rfl, HB2.out⟩
  case pos =>
    have d1 : (x.sch == 2) = true := by simpa using hs
    obtain ⟨m, hm⟩ : ∃ m, min b (x.qty * x.rate / 1000) = m := ⟨_, rfl⟩
    have hr : pe = (m, 0) := by rw [HPE.out]; simp [h0, hs, hm]
    subst hr
    have ho := HOK.out trivial
    obtain ⟨r, hrr⟩ : ∃ r, x.qty * x.rate = r := ⟨_, rfl⟩
    rw [hrr] at hm ho
    have u1 : IntKind.i64.wrap (x.qty * x.rate) = r := by rw [hrr]; exact IntWalk.i64_in _ (by omega)
    have u2 : IntKind.i64.wrap (r.tdiv 1000) = r / 1000 := IntWalk.i64_quo r 1000 ⟨by omega, by omega, by omega⟩
    clear h0 hs hrr HPE HOK
    go_wp2
    go_ret2
    exact ⟨rfl, HB2.out⟩
set_option maxRecDepth 100000 in
set_option maxHeartbeats 16000000 in
theorem RClaims_ok (A : Option Addr) (n c : Nat) (bs : List Cb) (w : World) (h : ClAt w A n bs) (hok : ClsOk (clms bs)) :
    Calls Tryz.prog 46 #[.slice A n c] w (EInt w 0) := by
  have hxl : bs.length = n := h.cls.recs.1
  have hn64 : n ≤ 64 := by have := hok.few; rw [clms_len] at this; omega
  have HX := Lib.hid h
  have HASC : Hid (∀ i, i + 1 < n → bs[i]!.x.num < bs[i + 1]!.x.num) := fun i hi => by
    have := hok.ascI (i := i) (by rw [clms_len]; omega)
    rwa [clms_get (by omega), clms_get (by omega)] at this
  have HG : Hid (∀ b ∈ bs, ∀ wx, RowKit.Below w.heap.size w wx → Calls Tryz.prog 45 #[.agg #[.int .i64 b.x.num, .int .i64 b.x.lot, .int .i64 b.x.sch, .int .i64 b.x.qty, .int .i64 b.x.rate, .slice b.A b.n b.c]] wx (BRes wx true)) := fun b hb wx hbw => by
    have := RgoodClaim_any b.x b.A b.n b.c wx ((h.sls b hb).1.recs.below hbw) (h.sls b hb).2.1 (h.sls b hb).2.2
    rwa [hok.ok b.x (List.mem_map.2 ⟨b, hb, rfl⟩)] at this
  have HMT : Hid (∀ i k, k < i → i < n → ∀ wx, RowKit.Below w.heap.size w wx → Calls Tryz.prog 11 #[.slice bs[i]!.A bs[i]!.n bs[i]!.c, .slice bs[k]!.A bs[k]!.n bs[k]!.c] wx (BRes wx false)) := fun i k hk hi wx hbw => by
    have h1 := (h.sls bs[i]! (get_memK (by omega)))
    have h2 := (h.sls bs[k]! (get_memK (by omega)))
    have := Meet_any bs[i]!.A bs[i]!.n bs[i]!.c bs[i]!.x.sl bs[k]!.A bs[k]!.n bs[k]!.c bs[k]!.x.sl wx (h1.1.recs.below hbw) (h2.1.recs.below hbw) (by omega) (by omega)
    rwa [decide_eq_false (cls_meet hok hk (by rw [clms_len]; omega) (by rw [clms_get (by omega)]) (by rw [clms_get (by omega)]))] at this
  clear h hok
  have d0 : decide ((n : Int) > 64) = false := by simp; omega
  have d1 : decide (64 < n) = false := by simp; omega
  go_enter Tryz.func46, Tryz.ntmps46
  go_wp2_with fail
  clear d0 d1
  go_loopw [3] (fun v wx => ∃ i : Nat, v = .int .i64 (i : Int) ∧ i ≤ n ∧ Hid (RowKit.Below w.heap.size w wx)) (fun v _ => n - (intOf v).toNat)
  case atStart => exact ⟨0, rfl, Nat.zero_le _, Below.refl _ _⟩
  case round =>
    obtain ⟨i, rfl, hi, HB⟩ := hrel
    by_cases hlt : i < n
    case pos =>
      have dk : decide ((i : Int) < (n : Int)) = true := by simp; omega
      obtain ⟨b1, o1, rfl, hb1, ha⟩ := recs_at (HX.out.below HB.out).cls.recs hlt
      obtain ⟨y, hy⟩ : ∃ y, bs[i]! = y := ⟨_, rfl⟩
      rw [hy] at ha
      have a0 : wr.cell? ⟨b1, o1 + i * 6, none⟩ = some (.int .i64 y.x.num) := ha.out 0 (by omega)
      have a1 : wr.cell? ⟨b1, o1 + i * 6 + 1, none⟩ = some (.int .i64 y.x.lot) := ha.out 1 (by omega)
      have a2 : wr.cell? ⟨b1, o1 + i * 6 + 2, none⟩ = some (.int .i64 y.x.sch) := ha.out 2 (by omega)
      have a3 : wr.cell? ⟨b1, o1 + i * 6 + 3, none⟩ = some (.int .i64 y.x.qty) := ha.out 3 (by omega)
      have a4 : wr.cell? ⟨b1, o1 + i * 6 + 4, none⟩ = some (.int .i64 y.x.rate) := ha.out 4 (by omega)
      have a5 : wr.cell? ⟨b1, o1 + i * 6 + 5, none⟩ = some (.slice y.A y.n y.c) := ha.out 5 (by omega)
      have HGY := Lib.hid (HG.out y (by rw [← hy]; exact get_memK (by omega)))
      have hii : (i : Int) < (n : Int) := by omega
      have hiz : (0 : Int) ≤ (i : Int) := by omega
      clear ha hy
      go_wp2_with fail
      refine (HGY.out wr HB.out).mono ?_
      rintro e w2 ⟨rfl, hb2⟩
      have HB2 : Hid (RowKit.Below w.heap.size w w2) := HB.out.trans (hb2.mono HB.out.size)
      clear hb2 a0 a1 a2 a3 a4 a5
      go_wp2_with fail
      go_roundw
      case rel => exact ⟨i + 1, by go_num, by omega, HB2⟩
      case measure => simp [intOf]; omega
    case neg =>
    have dk : decide ((i : Int) < (n : Int)) = false := by simp; omega
    go_wp2_with fail
    clear dk
    go_loopw [4] (fun v wx => ∃ i : Nat, v = .int .i64 (i : Int) ∧ 1 ≤ i ∧ i ≤ n + 1 ∧ (i ≤ n ∨ n = 0) ∧ Hid (RowKit.Below w.heap.size w wx)) (fun v _ => n + 1 - (intOf v).toNat)
    case atStart => exact ⟨1, rfl, by omega, by omega, by omega, HB⟩
    case round =>
      clear HB
      obtain ⟨i, rfl, hi1, hi2, hi3, HB⟩ := hrel
      by_cases hlt : i < n
      case pos =>
        have dk : decide ((i : Int) < (n : Int)) = true := by simp; omega
        obtain ⟨b1, o1, rfl, hb1, ha⟩ := recs_at (HX.out.below HB.out).cls.recs hlt
        obtain ⟨b3, o3, e3, hb3, hd⟩ := recs_at (HX.out.below HB.out).cls.recs (show i - 1 < n by omega)
        injection e3 with e3
        injection e3 with e4 e5
        subst e4 e5
        have hasc := HASC.out (i - 1) (by omega)
        rw [show i - 1 + 1 = i by omega] at hasc
        obtain ⟨x, hx⟩ : ∃ x, bs[i]! = x := ⟨_, rfl⟩
        obtain ⟨y, hy⟩ : ∃ y, bs[i - 1]! = y := ⟨_, rfl⟩
        rw [hx] at ha hasc
        rw [hy] at hd hasc
        have a0 : wr.cell? ⟨b1, o1 + i * 6, none⟩ = some (.int .i64 x.x.num) := ha.out 0 (by omega)
        have c0 : wr.cell? ⟨b1, o1 + (i - 1) * 6, none⟩ = some (.int .i64 y.x.num) := hd.out 0 (by omega)
        have hk1 : (i : Int) - 1 = ((i - 1 : Nat) : Int) := by omega
        have u1 : IntKind.i64.wrap ((i : Int) - 1) = ((i - 1 : Nat) : Int) := by rw [hk1]; exact IntWalk.i64_in _ (by omega)
        have hkk : ((i - 1 : Nat) : Int) < (n : Int) := by omega
        have hkz : (0 : Int) ≤ ((i - 1 : Nat) : Int) := by omega
        have hii : (i : Int) < (n : Int) := by omega
        have hiz : (0 : Int) ≤ (i : Int) := by omega
        have d1 : decide (x.x.num ≤ y.x.num) = false := by simp; omega
        clear ha hd hx hy hk1 hasc
        go_upto_region 11 with (fail)
        go_quiet (fail)
        go_wp2_with fail
        go_roundw
        case rel => exact ⟨i + 1, by go_num, by omega, by omega, by omega, below_drewN HB.out _⟩
        case measure => simp [intOf]; omega
      case neg =>
      have dk : decide ((i : Int) < (n : Int)) = false := by simp; omega
      go_wp2_with fail
      clear dk
      go_loopw [5] (fun v wx => ∃ i : Nat, v = .int .i64 (i : Int) ∧ i ≤ n ∧ Hid (RowKit.Below w.heap.size w wx)) (fun v _ => n - (intOf v).toNat)
      case atStart => exact ⟨0, rfl, Nat.zero_le _, HB⟩
      case round =>
        clear HB hlt hi1 hi2 hi3
        obtain ⟨i, rfl, hi, HB⟩ := hrel
        by_cases hlt : i < n
        case neg =>
          have dk : decide ((i : Int) < (n : Int)) = false := by simp; omega
          go_wp2
          go_ret
          exact ⟨rfl, HB.out⟩
        case pos =>
        have dk : decide ((i : Int) < (n : Int)) = true := by simp; omega
        go_wp2_with fail
        go_loopw [6] (fun v wx => ∃ k : Nat, v = .int .i64 (k : Int) ∧ k ≤ i ∧ Hid (RowKit.Below w.heap.size w wx)) (fun v _ => i - (intOf v).toNat)
        case atStart => exact ⟨0, rfl, Nat.zero_le _, HB⟩
        case round =>
          clear HB
          obtain ⟨k, rfl, hk, HB⟩ := hrel
          by_cases hlk : k < i
          case neg =>
            have dk2 : decide ((k : Int) < (i : Int)) = false := by simp; omega
            go_wp2_with fail
            go_roundw
            case rel => exact ⟨i + 1, by go_num, by omega, HB⟩
            case measure => simp [intOf]; omega
          case pos =>
          have dk2 : decide ((k : Int) < (i : Int)) = true := by simp; omega
          obtain ⟨b1, o1, rfl, hb1, ha⟩ := recs_at (HX.out.below HB.out).cls.recs hlt
          obtain ⟨b3, o3, e3, hb3, hd⟩ := recs_at (HX.out.below HB.out).cls.recs (show k < n by omega)
          injection e3 with e3
          injection e3 with e4 e5
          subst e4 e5
          have HMC : Hid (∀ wx, RowKit.Below w.heap.size w wx → Calls Tryz.prog 11 #[.slice bs[i]!.A bs[i]!.n bs[i]!.c, .slice bs[k]!.A bs[k]!.n bs[k]!.c] wx fun e w' => e = .returned (.bool false) ∧ RowKit.Below wx.heap.size wx w') := HMT.out i k hlk hlt
          obtain ⟨x, hx⟩ : ∃ x, bs[i]! = x := ⟨_, rfl⟩
          obtain ⟨y, hy⟩ : ∃ y, bs[k]! = y := ⟨_, rfl⟩
          rw [hx] at ha HMC
          rw [hy] at hd HMC
          have a5 : wr.cell? ⟨b1, o1 + i * 6 + 5, none⟩ = some (.slice x.A x.n x.c) := ha.out 5 (by omega)
          have c5 : wr.cell? ⟨b1, o1 + k * 6 + 5, none⟩ = some (.slice y.A y.n y.c) := hd.out 5 (by omega)
          have hii : (i : Int) < (n : Int) := by omega
          have hiz : (0 : Int) ≤ (i : Int) := by omega
          have hki : (k : Int) < (n : Int) := by omega
          have hkz : (0 : Int) ≤ (k : Int) := by omega
          have HS : Hid (∀ wx, RowKit.Below wr.heap.size wr wx → (wx.cell? ⟨b1, o1 + i * 6 + 5, none⟩ = some (.slice x.A x.n x.c) ∧ wx.cell? ⟨b1, o1 + k * 6 + 5, none⟩ = some (.slice y.A y.n y.c) ∧ RowKit.Below wr.heap.size wr wx)) := fun wx hb => ⟨(hb.cell (p := ⟨b1, o1 + i * 6 + 5, none⟩) hb1).trans a5, (hb.cell (p := ⟨b1, o1 + k * 6 + 5, none⟩) hb3).trans c5, hb⟩
          have hk0 : Hid (RowKit.Below wr.heap.size wr wr.drew) := (Below.refl _ _).drew
          have hk00 : Hid (RowKit.Below wr.heap.size wr wr) := Below.refl _ _
          clear ha hd hx hy
          go_upto_region 19 with (fail)
          go_region_held3 (fun wx => wx.cell? ⟨b1, o1 + i * 6 + 5, none⟩ = some (.slice x.A x.n x.c) ∧ wx.cell? ⟨b1, o1 + k * 6 + 5, none⟩ = some (.slice y.A y.n y.c) ∧ RowKit.Below wr.heap.size wr wx)
            (first
              | with_reducible exact HS.out _ hka.out
              | with_reducible exact HS.out _ hk0.out
              | with_reducible exact HS.out _ hk00.out)
            (first
              | (go_at_call 11; with_reducible (refine (HMC.out _ (HB.out.trans (hk0.out.mono HB.out.size))).mono ?_); rintro e wa ⟨rfl, hba⟩; have hka := Lib.hid (hk0.out.trans (hba.mono hk0.out.size))))
          all_goals
            have HB2 : Hid (RowKit.Below w.heap.size w wa) := HB.out.trans (hka.out.mono HB.out.size)
            go_wp2_with fail
            go_roundw
            case rel => exact ⟨k + 1, by go_num, by omega, HB2⟩
            case measure => simp [intOf]; omega
set_option maxRecDepth 100000 in
set_option maxHeartbeats 16000000 in
theorem RPayouts_ok (A : Option Addr) (n c : Nat) (bs : List Cb) (DA PA : Option Addr) (dn dc pn pc : Nat) (d p : List Ch) (w : World) (h : ClAt w A n bs) (hok : ClsOk (clms bs)) (hd : Recs encCh 3 w DA dn d) (hp : Recs encCh 3 w PA pn p) (hdn : dn ≤ 1000) (hpn : pn ≤ 1000) :
    Calls Tryz.prog 23 #[.slice A n c, .slice DA dn dc, .slice PA pn pc] w (PoutRes w n (clms bs) d p) := by
  have hxl : bs.length = n := h.cls.recs.1
  have hn64 : n ≤ 64 := by have := hok.few; rw [clms_len] at this; omega
  have HVD := Lib.hid (RClaims_ok A n c bs w h hok)
  have HX := Lib.hid h
  have HPA : Hid (∀ b ∈ bs, ∀ wx, RowKit.Below w.heap.size w wx → Calls Tryz.prog 21 #[.agg #[.int .i64 b.x.num, .int .i64 b.x.lot, .int .i64 b.x.sch, .int .i64 b.x.qty, .int .i64 b.x.rate, .slice b.A b.n b.c], .slice DA dn dc, .slice PA pn pc] wx (E2 wx (payE b.x d p))) := fun b hb wx hbw =>
    RPayable_any b.x b.A b.n b.c DA PA dn dc pn pc d p wx ((h.sls b hb).1.recs.below hbw) (h.sls b hb).2.1 (h.sls b hb).2.2 (hd.below hbw) (hp.below hbw) hdn hpn
  clear h hok hd hp
  go_enter Tryz.func23, Tryz.ntmps23
  go_wp2_with fail
  refine HVD.out.mono ?_
  rintro e w1 ⟨rfl, hb1⟩
  have HB1 := Lib.hid hb1
  clear hb1 HVD
  go_wp2_with fail
  go_loopw [9, 10] (fun s v wx => ∃ (i : Nat) (B : Option Addr) (cap : Nat) (xs : List Po), v = .int .i64 (i : Int) ∧ s = .slice B i cap ∧ i ≤ n ∧ Hid (xs = ((clms bs).take i).map (poOf d p)) ∧ Hid (∀ j, j < i → (payE (clms bs)[j]! d p).2 = 0) ∧ Hid (wx.ownsRow w.heap.size 58 3 (.slice B i cap) i (flat encPo xs)) ∧ Hid (RowKit.Below w.heap.size w wx)) (fun _ v _ => n - (intOf v).toNat)
  case atStart => exact ⟨0, none, 0, [], rfl, rfl, Nat.zero_le _, rfl, (fun j hj => by omega), ⟨by simp [flat], .inl ⟨rfl, rfl⟩⟩, HB1⟩
  case round =>
    clear HB1
    obtain ⟨i, B, cap, xs, rfl, rfl, hi, HE, HJ, HO, HB⟩ := hrel
    have HL : Hid (xs.length = i) := own_lenK encPo_len (by decide) HO.out
    by_cases hlt : i < n
    case neg =>
      have dk : decide ((i : Int) < (n : Int)) = false := by simp; omega
      have hxe : xs = (clms bs).map (poOf d p) := by rw [HE.out, List.take_of_length_le (by rw [clms_len]; omega)]
      have hr0 : poErr d p (clms bs) = 0 := poErr_none fun j hj => HJ.out j (by rw [clms_len] at hj; omega)
      obtain rfl : i = n := by omega
      have HR : Hid (PoutRes w i (clms bs) d p (.returned (.tuple #[.slice B i cap, .int .i64 0])) wr) := ⟨fun _ => ⟨B, cap, rfl, by rw [← hxe]; exact Recs.of_own encPo_len HO.out HL.out⟩, fun k => absurd hr0 k, HB.out⟩
      clear hxe hr0
      go_wp2
      go_ret2
      exact HR.out
    case pos =>
      have dk : decide ((i : Int) < (n : Int)) = true := by simp; omega
      obtain ⟨b1, o1, rfl, hb1, ha⟩ := recs_at (HX.out.below HB.out).cls.recs hlt
      obtain ⟨y, hy⟩ : ∃ y, bs[i]! = y := ⟨_, rfl⟩
      rw [hy] at ha
      have a0 : wr.cell? ⟨b1, o1 + i * 6, none⟩ = some (.int .i64 y.x.num) := ha.out 0 (by omega)
      have a1 : wr.cell? ⟨b1, o1 + i * 6 + 1, none⟩ = some (.int .i64 y.x.lot) := ha.out 1 (by omega)
      have a2 : wr.cell? ⟨b1, o1 + i * 6 + 2, none⟩ = some (.int .i64 y.x.sch) := ha.out 2 (by omega)
      have a3 : wr.cell? ⟨b1, o1 + i * 6 + 3, none⟩ = some (.int .i64 y.x.qty) := ha.out 3 (by omega)
      have a4 : wr.cell? ⟨b1, o1 + i * 6 + 4, none⟩ = some (.int .i64 y.x.rate) := ha.out 4 (by omega)
      have a5 : wr.cell? ⟨b1, o1 + i * 6 + 5, none⟩ = some (.slice y.A y.n y.c) := ha.out 5 (by omega)
      have hmem : y ∈ bs := by rw [← hy]; exact get_memK (by omega)
      have HPY := Lib.hid (HPA.out y hmem)
      have HCI : Hid ((clms bs)[i]! = y.x) := by show _ = _; rw [clms_get (by omega), hy]
      have hii : (i : Int) < (n : Int) := by omega
      have hiz : (0 : Int) ≤ (i : Int) := by omega
      obtain ⟨am, er, hpe⟩ : ∃ am er, payE y.x d p = (am, er) := ⟨_, _, rfl⟩
      rw [hpe] at HPY
      have HPE := Lib.hid hpe
      clear ha hy hmem hpe
      go_wp2_with fail
      refine (HPY.out wr HB.out).mono ?_
      rintro e w2 ⟨rfl, hb2⟩
      have HB2 : Hid (RowKit.Below w.heap.size w w2) := HB.out.trans (hb2.mono HB.out.size)
      have HO2 : Hid (w2.ownsRow w.heap.size 58 3 (.slice B i cap) i (flat encPo xs)) := own_below HO.out hb2
      have HA2 : Hid (w2.cell? ⟨b1, o1 + i * 6, none⟩ = some (.int .i64 y.x.num) ∧ w2.cell? ⟨b1, o1 + i * 6 + 1, none⟩ = some (.int .i64 y.x.lot)) := ⟨(hb2.cell (p := ⟨b1, o1 + i * 6, none⟩) hb1).trans a0, (hb2.cell (p := ⟨b1, o1 + i * 6 + 1, none⟩) hb1).trans a1⟩
      have HBL : Hid (b1 < w2.heap.size) := Nat.lt_of_lt_of_le hb1 hb2.size
      clear hb2 HO HPY a0 a1 a2 a3 a4 a5
      by_cases h0 : er = 0
      case neg =>
        have d0 : (er != 0) = true := by simpa using h0
        have hE : poErr d p (clms bs) = er := by
          have := poErr_at (d := d) (p := p) (cs := clms bs) (i := i) (by rw [clms_len]; omega) (fun j hj => HJ.out j hj) (by rw [HCI.out, HPE.out]; exact h0)
          rw [this, HCI.out, HPE.out]
        have HR : Hid (PoutRes w n (clms bs) d p (.returned (.tuple #[.slice none 0 0, .int .i64 er])) w2) := ⟨fun k => absurd (hE.symm.trans k) h0, fun _ => by rw [hE], HB2.out⟩
        clear h0 hE
        go_wp2
        go_ret2
        exact HR.out
      case pos =>
        subst h0
        have a0 := HA2.out.1
        have a1 := HA2.out.2
        have HX3 : Hid (xs ++ [⟨y.x.num, y.x.lot, am⟩] = ((clms bs).take (i + 1)).map (poOf d p)) := by
          show _ = _
          have h1 : i < (clms bs).length := by rw [clms_len]; omega
          rw [List.take_succ_eq_append_getElem h1, List.map_append, ← HE.out, ← getElem!_pos (clms bs) i h1, HCI.out]
          show _ = xs ++ [poOf d p y.x]
          unfold poOf
          rw [HPE.out]
        have HJ3 : Hid (∀ j, j < i + 1 → (payE (clms bs)[j]! d p).2 = 0) := fun j hj => by
          by_cases e : j = i
          · subst e
            rw [HCI.out, HPE.out]
          · exact HJ.out j (by omega)
        have HOA : Hid ((w2.drew.alloc (.cells #[.int .i64 y.x.num, .int .i64 y.x.lot, .int .i64 am] 58)).ownsRow w.heap.size 58 3 (.slice B i cap) i (flat encPo xs)) := own_alloc (w := w2.drew) HO2.out _
        have HRD : Hid (Rd (w2.drew.alloc (.cells #[.int .i64 y.x.num, .int .i64 y.x.lot, .int .i64 am] 58)) 3 (some ⟨w2.drew.heap.size, 0, none⟩) 1 (encPo ⟨y.x.num, y.x.lot, am⟩)) := rd_bl (xs := encPo ⟨y.x.num, y.x.lot, am⟩) (Bl.new _ _ _) rfl
        have HON := Lib.hid (encPo_one ⟨y.x.num, y.x.lot, am⟩)
        have HM1 : Hid (i + 1 ≤ maxLen ∧ (i + 1) * 24 ≤ 140737488355328) := ⟨by unfold maxLen; omega, by omega⟩
        have HBA : Hid (RowKit.Below w.heap.size w (w2.drew.alloc (.cells #[.int .i64 y.x.num, .int .i64 y.x.lot, .int .i64 am] 58))) := (HB2.out.drew).alloc HB2.out.size _
        have HK8 : Hid (∀ w8 : World, (w2.drew.alloc (.cells #[.int .i64 y.x.num, .int .i64 y.x.lot, .int .i64 am] 58)).grownBy w8 (Value.slice B i cap).ownBlock → True) := fun w8 hg => trivial
        go_upto_region 11 with (fail)
        go_region_law (refine step_append_rd _ rfl (.tmp 37) (.tmp 50) 54 rfl w.heap.size 58 _ 3 24 Tryz.underlying54 infoPo rfl (by decide) (.slice B i cap) i _ rfl HOA.out (some ⟨w2.drew.heap.size, 0, none⟩) 1 _ (encPo ⟨y.x.num, y.x.lot, am⟩) rfl HRD.out HON.out HM1.out.1 HM1.out.2 HBA.out.size ?_; intro v8 w8 ho8 hg8; obtain ⟨B8, d8, rfl⟩ := own_slice ho8)
        all_goals
          have HB8 : Hid (RowKit.Below w.heap.size w w8) := HBA.out.grown hg8 HBA.out.size (fun j hj => own_base HOA.out j hj)
          have HO8 : Hid (w8.ownsRow w.heap.size 58 3 (.slice B8 (i + 1) d8) (i + 1) (flat encPo (xs ++ [⟨y.x.num, y.x.lot, am⟩]))) := by rw [flat_append, flat_one]; exact ho8
          go_wp2_with fail
          go_roundw
          case rel => exact ⟨i + 1, B8, d8, _, by go_num, rfl, by omega, HX3, HJ3, HO8, HB8⟩
          case measure => simp [intOf]; omega
end Go.Proofs.YthnhgjhnkncmiaaGreat

/-
  The contracts of guarantee.Validate, guarantee.reserved and customsref21.ValidGuarantee. No statement of the seat is proved here. Conditions: the reservations read as pairs.
-/
import Derived.Test.YtdbcbbiplkikcaaGreatNAK
import Derived.Test.YtdbcbbiplkikcaaGreatNAI
namespace Go.Proofs.YtdbcbbiplkikcaaGreat
open Go.RowKit
set_option linter.unusedVariables false

set_option maxRecDepth 100000 in
set_option maxHeartbeats 4000000 in
theorem reserved_any (A : Option Addr) (n c : Nat) (us : List (Int × Int)) (w : World) (h : Recs enc2 2 w A n us) (hn : n ≤ 1000) (hu : ∀ u ∈ us, uOk u = true) :
    Calls Tryz.prog 30 #[.slice A n c] w (ERes w (uSum us)) := by
  have HL := Lib.hid h.1
  have HU := Lib.hid hu
  clear hu
  go_enter Tryz.func30, Tryz.ntmps30
  go_wp2
  go_loopw [3, 8] (fun s i wx => ∃ (k : Nat) (S : Int), k ≤ n ∧ i = .int .i64 k ∧ s = .int .i64 S ∧ Hid (S = uSum (us.take k)) ∧ RowKit.Below w.heap.size w wx) (fun _ i _ => n - (intOf i).toNat)
  case atStart => exact ⟨0, 0, Nat.zero_le _, rfl, rfl, rfl, Below.refl _ _⟩
  case round =>
    obtain ⟨k, S, hk, rfl, rfl, HS, hb⟩ := hrel
    by_cases hlt : k < n
    · obtain ⟨b, off, x, y, hA, hbl, c0, c1, HX⟩ := (h.below hb).get2 hlt
      subst hA
      have hki : (k : Int) < n := by omega
      have HS2 : Hid (S + y = uSum (us.take (k + 1))) := by show _ = _; rw [uSum_take (by have := HL.out; omega), HX.out, HS.out]
      have u1 : IntKind.i64.wrap (S + y) = S + y := by
        have e1 := uSum_bounds HU.out (by have := HL.out; omega) (k + 1)
        have e2 := HS2.out
        exact IntWalk.i64_in _ (by omega)
      have hx4 := Bl.new wr 32 #[.int .i64 x, .int .i64 y]
      have hb4 : RowKit.Below w.heap.size w (wr.alloc (.cells #[.int .i64 x, .int .i64 y] 32)) := hb.alloc hb.size _
      go_upto_region 5 with (fail)
      clear c0 c1
      generalize wr.alloc (.cells #[.int .i64 x, .int .i64 y] 32) = W4 at *
      generalize wr.heap.size = g4 at *
      have q1 : W4.cell? ⟨g4, 1, none⟩ = some (.int .i64 y) := hx4.cell 1
      go_wp2_with fail
      go_roundw
      case rel => exact ⟨k + 1, S + y, by omega, by go_num, rfl, HS2, hb4⟩
      case measure => simp [intOf]; omega
    · obtain rfl : n = k := by omega
      have E : Hid (S = uSum us) := by show _ = _; rw [HS.out, List.take_of_length_le (by have := HL.out; omega)]
      go_wp2
      go_ret
      exact ⟨ret_err E.out, hb⟩


set_option maxRecDepth 100000 in
set_option maxHeartbeats 8000000 in
theorem rgvalid_any (g : Gh) (A : Option Addr) (n c : Nat) (us : List (Int × Int)) (w : World) (h : Recs enc2 2 w A n us) :
    Calls Tryz.prog 17 #[.agg #[.int .i64 g.id, .int .i64 g.ref, .int .i64 g.lev, .slice A n c]] w (ERes w (gErr g us)) := by
  have HL := Lib.hid h.1
  have HRS := Lib.hid (fun w' (hb : RowKit.Below w.heap.size w w') => reserved_any A n c us w' (h.below hb))
  have hb0 : RowKit.Below w.heap.size w (w.alloc (.cells #[.int .i64 g.id, .int .i64 g.ref, .int .i64 g.lev, .slice A n c] 30)) := (Below.refl _ _).alloc (Nat.le_refl _) _
  have hx0 := Bl.new w 30 #[.int .i64 g.id, .int .i64 g.ref, .int .i64 g.lev, .slice A n c]
  have h0 := h.alloc (.cells #[.int .i64 g.id, .int .i64 g.ref, .int .i64 g.lev, .slice A n c] 30)
  clear h
  go_enter Tryz.func17, Tryz.ntmps17
  go_upto_region 1 with (fail)
  generalize w.alloc (.cells #[.int .i64 g.id, .int .i64 g.ref, .int .i64 g.lev, .slice A n c] 30) = W0 at *
  have p0 : W0.cell? ⟨w.heap.size, 0, none⟩ = some (.int .i64 g.id) := hx0.cell 0
  have p1 : W0.cell? ⟨w.heap.size, 1, none⟩ = some (.int .i64 g.ref) := hx0.cell 1
  have p2 : W0.cell? ⟨w.heap.size, 2, none⟩ = some (.int .i64 g.lev) := hx0.cell 2
  have p3 : W0.cell? ⟨w.heap.size, 3, none⟩ = some (.slice A n c) := hx0.cell 3
  by_cases g0 : g.id < 1
  case pos =>
    have d0 : decide (g.id < 1) = true := by simpa using g0
    have E : Hid (2 = gErr g us) := (gErr_head (by cases e : ghOk g; rfl; exact absurd (ghOk_yes e) (by omega))).symm
    go_wp2
    go_ret
    exact ⟨ret_err E.out, hb0⟩
  have d0 : decide (g.id < 1) = false := by simpa using g0
  by_cases g1 : 1000000 < g.id
  case pos =>
    have d1 : decide (1000000 < g.id) = true := by simpa using g1
    have E : Hid (2 = gErr g us) := (gErr_head (by cases e : ghOk g; rfl; exact absurd (ghOk_yes e) (by omega))).symm
    go_wp2
    go_ret
    exact ⟨ret_err E.out, hb0⟩
  have d1 : decide (1000000 < g.id) = false := by simpa using g1
  by_cases g2 : g.ref < 0
  case pos =>
    have d2 : decide (g.ref < 0) = true := by simpa using g2
    have E : Hid (2 = gErr g us) := (gErr_head (by cases e : ghOk g; rfl; exact absurd (ghOk_yes e) (by omega))).symm
    go_wp2
    go_ret
    exact ⟨ret_err E.out, hb0⟩
  have d2 : decide (g.ref < 0) = false := by simpa using g2
  by_cases g3 : 1000000000000 < g.ref
  case pos =>
    have d3 : decide (1000000000000 < g.ref) = true := by simpa using g3
    have E : Hid (2 = gErr g us) := (gErr_head (by cases e : ghOk g; rfl; exact absurd (ghOk_yes e) (by omega))).symm
    go_wp2
    go_ret
    exact ⟨ret_err E.out, hb0⟩
  have d3 : decide (1000000000000 < g.ref) = false := by simpa using g3
  by_cases g4 : g.lev < 0
  case pos =>
    have d4 : decide (g.lev < 0) = true := by simpa using g4
    have E : Hid (2 = gErr g us) := (gErr_head (by cases e : ghOk g; rfl; exact absurd (ghOk_yes e) (by omega))).symm
    go_wp2
    go_ret
    exact ⟨ret_err E.out, hb0⟩
  have d4 : decide (g.lev < 0) = false := by simpa using g4
  by_cases g5 : 1000000 < g.lev
  case pos =>
    have d5 : decide (1000000 < g.lev) = true := by simpa using g5
    have E : Hid (2 = gErr g us) := (gErr_head (by cases e : ghOk g; rfl; exact absurd (ghOk_yes e) (by omega))).symm
    go_wp2
    go_ret
    exact ⟨ret_err E.out, hb0⟩
  have d5 : decide (1000000 < g.lev) = false := by simpa using g5
  have HQ : Hid (ghOk g = true) := by show _ = _; simp [ghOk]; omega
  clear g0 g1 g2 g3 g4 g5
  by_cases hl : 64 < n
  · have E : Hid (8 = gErr g us) := (gErr_len HQ.out (by have := HL.out; omega)).symm
    have hli : (64 : Int) < n := by omega
    go_wp2
    go_ret
    exact ⟨ret_err E.out, hb0⟩
  have hln : n ≤ 64 := by omega
  have HX0 := Lib.hid hx0
  clear hx0
  go_wp2_with fail
  go_loopw [3, 4] (fun s i wx => ∃ (k : Nat) (S : Int), k ≤ n ∧ i = .int .i64 k ∧ s = .int .i64 S ∧ Hid (S = uSum (us.take k)) ∧ Hid (∀ i, i < k → uOk us[i]! = true) ∧ RowKit.Below W0.heap.size W0 wx) (fun _ i _ => n - (intOf i).toNat)
  case atStart => exact ⟨0, 0, Nat.zero_le _, rfl, rfl, rfl, fun i hi => by omega, Below.refl _ _⟩
  case round =>
    obtain ⟨k, S, hk, rfl, rfl, HS, HA, hbk⟩ := hrel
    have hBk := hb0.trans (hbk.mono hb0.size)
    have hxk := HX0.out.keep hbk
    have r1 : wr.cell? ⟨w.heap.size, 1, none⟩ = some (.int .i64 g.ref) := hxk.cell 1
    have r3 : wr.cell? ⟨w.heap.size, 3, none⟩ = some (.slice A n c) := hxk.cell 3
    clear p0 p1 p2 p3
    by_cases hlt : k < n
    · obtain ⟨b, off, x, y, hA, hbl, c0, c1, HX⟩ := (h0.below hbk).get2 hlt
      subst hA
      have hki : (k : Int) < n := by omega
      have hx4 := Bl.new wr 32 #[.int .i64 x, .int .i64 y]
      have hb4 : RowKit.Below W0.heap.size W0 (wr.alloc (.cells #[.int .i64 x, .int .i64 y] 32)) := hbk.alloc hbk.size _
      have hB4 := hb0.trans (hb4.mono hb0.size)
      go_upto_region 10 with (fail)
      clear c0 c1 r1 r3
      generalize wr.alloc (.cells #[.int .i64 x, .int .i64 y] 32) = W4 at *
      generalize wr.heap.size = g4 at *
      have q0 : W4.cell? ⟨g4, 0, none⟩ = some (.int .i64 x) := hx4.cell 0
      have q1 : W4.cell? ⟨g4, 1, none⟩ = some (.int .i64 y) := hx4.cell 1
      by_cases z0 : x < 1
      case pos =>
        have d : decide (x < 1) = true := by simpa using z0
        have E : Hid (2 = gErr g us) := (gErr_use HQ.out (by have := HL.out; omega) (k := k) (by have := HL.out; omega) (by rw [HX.out]; cases e : uOk (x, y); rfl; exact absurd (uOk_yes e) (by simp only; omega))).symm
        clear z0
        go_wp2
        go_ret
        exact ⟨ret_err E.out, hB4⟩
      have e0 : decide (x < 1) = false := by simpa using z0
      by_cases z1 : 1000000 < x
      case pos =>
        have d : decide (1000000 < x) = true := by simpa using z1
        have E : Hid (2 = gErr g us) := (gErr_use HQ.out (by have := HL.out; omega) (k := k) (by have := HL.out; omega) (by rw [HX.out]; cases e : uOk (x, y); rfl; exact absurd (uOk_yes e) (by simp only; omega))).symm
        clear z1
        go_wp2
        go_ret
        exact ⟨ret_err E.out, hB4⟩
      have e1 : decide (1000000 < x) = false := by simpa using z1
      by_cases z2 : y < 0
      case pos =>
        have d : decide (y < 0) = true := by simpa using z2
        have E : Hid (2 = gErr g us) := (gErr_use HQ.out (by have := HL.out; omega) (k := k) (by have := HL.out; omega) (by rw [HX.out]; cases e : uOk (x, y); rfl; exact absurd (uOk_yes e) (by simp only; omega))).symm
        clear z2
        go_wp2
        go_ret
        exact ⟨ret_err E.out, hB4⟩
      have e2 : decide (y < 0) = false := by simpa using z2
      by_cases z3 : 1000000000000 < y
      case pos =>
        have d : decide (1000000000000 < y) = true := by simpa using z3
        have E : Hid (2 = gErr g us) := (gErr_use HQ.out (by have := HL.out; omega) (k := k) (by have := HL.out; omega) (by rw [HX.out]; cases e : uOk (x, y); rfl; exact absurd (uOk_yes e) (by simp only; omega))).symm
        clear z3
        go_wp2
        go_ret
        exact ⟨ret_err E.out, hB4⟩
      have e3 : decide (1000000000000 < y) = false := by simpa using z3
      have HA2 : Hid (∀ i, i < k + 1 → uOk us[i]! = true) := fun i hi => by
        by_cases e : i = k
        · subst e; rw [HX.out]; simp [uOk]; omega
        · exact HA.out i (by omega)
      have HS2 : Hid (S + y = uSum (us.take (k + 1))) := by show _ = _; rw [uSum_take (by have := HL.out; omega), HX.out, HS.out]
      have u1 : IntKind.i64.wrap (S + y) = S + y := by
        have e1 := uSum_bounds (us := us.take (k + 1)) (fun u hu => by
          obtain ⟨j, hj, rfl⟩ := List.getElem_of_mem hu
          rw [List.length_take] at hj
          have := HA2.out j (by omega)
          rw [getElem!_pos us j (by omega)] at this
          rwa [List.getElem_take]) (by rw [List.length_take]; omega) (k + 1)
        rw [List.take_take, Nat.min_self] at e1
        have e2 := HS2.out
        exact IntWalk.i64_in _ (by omega)
      clear z0 z1 z2 z3
      have r3 : W4.cell? ⟨w.heap.size, 3, none⟩ = some (.slice (some ⟨b, off, none⟩) n c) := (HX0.out.keep hb4).cell 3
      go_wp2_with fail
      go_roundw
      case rel => exact ⟨k + 1, S + y, by omega, by go_num, rfl, HS2, HA2, hb4⟩
      case measure => simp [intOf]; omega
    · obtain rfl : n = k := by omega
      have HALL : Hid (∀ u ∈ us, uOk u = true) := all_of_get fun i hi => HA.out i (by have := HL.out; omega)
      go_wp2_with fail
      go_loopw [6] (fun i wx => ∃ k : Nat, i = .int .i64 k ∧ 1 ≤ k ∧ (k ≤ n ∨ k = 1) ∧ Hid (∀ r, r + 1 < k → us[r]!.1 < us[r + 1]!.1) ∧ RowKit.Below W0.heap.size W0 wx) (fun i _ => n - (intOf i).toNat)
      case atStart => exact ⟨1, rfl, Nat.le_refl _, .inr rfl, fun r hr => by omega, hbk⟩
      case round =>
        clear hbk hBk hxk r1 r3
        obtain ⟨k, rfl, hk1, hk2, HAS, hbk⟩ := hrel
        have hBk := hb0.trans (hbk.mono hb0.size)
        have hRk := h0.below hbk
        have s1 : wr.cell? ⟨w.heap.size, 1, none⟩ = some (.int .i64 g.ref) := (HX0.out.keep hbk).cell 1
        have s3 : wr.cell? ⟨w.heap.size, 3, none⟩ = some (.slice A n c) := (HX0.out.keep hbk).cell 3
        by_cases hlt2 : k < n
        · obtain ⟨b, off, x, x2, hA, hbl, c0, _, HX⟩ := hRk.get2 hlt2
          subst hA
          obtain ⟨p, hp⟩ : ∃ p, k - 1 = p := ⟨_, rfl⟩
          obtain ⟨b', off', y, y2, hA, _, e0, _, HY⟩ := hRk.get2 (i := p) (by omega)
          injection hA with hA
          injection hA with hA1 hA2
          subst hA1 hA2
          have u1 : IntKind.i64.wrap ((k : Int) - 1) = (p : Int) := (IntWalk.i64_in _ (by omega)).trans (by omega)
          have hp1 : p + 1 ≤ k := by omega
          have hp2 : k ≤ p + 1 := by omega
          have hki : (k : Int) < n := by omega
          have hpi : (p : Int) < n := by omega
          clear hp
          go_upto_region 16 with (fail)
          go_quiet (fail)
          by_cases g : x ≤ y
          · have d1 : decide (x ≤ y) = true := by simpa using g
            have E : Hid (9 = gErr _ us) := (gErr_asc HQ.out (by have := HL.out; omega) HALL.out (k := p) (by have := HL.out; omega) (by rw [show p + 1 = k by omega, HX.out, HY.out]; simp only; omega)).symm
            go_wp2
            go_ret
            exact ⟨ret_err E.out, below_drewN hBk _⟩
          · have d1 : decide (x ≤ y) = false := by simpa using g
            have HAS2 : Hid (∀ r, r + 1 < k + 1 → us[r]!.1 < us[r + 1]!.1) := fun r hr => by
              by_cases e : r = p
              · subst e; rw [show r + 1 = k by omega, HX.out, HY.out]; simp only; omega
              · exact HAS.out r (by omega)
            clear u1
            go_wp2_with fail
            go_roundw
            case rel => exact ⟨k + 1, by go_num, by omega, .inl (by omega), HAS2, below_drewN hbk _⟩
            case measure => simp [intOf]; omega
        · have HSU : Hid (S = uSum us) := by show _ = _; rw [HS.out, List.take_of_length_le (by have := HL.out; omega)]
          have HE : Hid (gErr g us = if S ≤ g.ref then 0 else 16) := by show _ = _; rw [gErr_sum HQ.out (by have := HL.out; omega) HALL.out (fun r hr => HAS.out r (by have := HL.out; omega)), HSU.out]
          by_cases hs : g.ref < S
          · have d1 : decide (g.ref < S) = true := by simpa using hs
            have E : Hid (16 = gErr g us) := by show _ = _; rw [HE.out, if_neg (by omega)]
            go_wp2
            go_ret
            exact ⟨ret_err E.out, hBk⟩
          · have d1 : decide (g.ref < S) = false := by simpa using hs
            have E : Hid (0 = gErr g us) := by show _ = _; rw [HE.out, if_pos (by omega)]
            go_wp2
            go_ret
            exact ⟨ret_err E.out, hBk⟩

set_option maxRecDepth 100000 in
set_option maxHeartbeats 8000000 in
theorem gvalidate_any (g : Gh) (A : Option Addr) (n c : Nat) (us : List (Int × Int)) (w : World) (h : Recs enc2 2 w A n us) :
    Calls Tryz.prog 13 #[.agg #[.int .i64 g.id, .int .i64 g.ref, .int .i64 g.lev, .slice A n c]] w (ERes w (gErr g us)) := by
  have HL := Lib.hid h.1
  have HRS := Lib.hid (fun w' (hb : RowKit.Below w.heap.size w w') => reserved_any A n c us w' (h.below hb))
  have hb0 : RowKit.Below w.heap.size w (w.alloc (.cells #[.int .i64 g.id, .int .i64 g.ref, .int .i64 g.lev, .slice A n c] 30)) := (Below.refl _ _).alloc (Nat.le_refl _) _
  have hx0 := Bl.new w 30 #[.int .i64 g.id, .int .i64 g.ref, .int .i64 g.lev, .slice A n c]
  have h0 := h.alloc (.cells #[.int .i64 g.id, .int .i64 g.ref, .int .i64 g.lev, .slice A n c] 30)
  clear h
  go_enter Tryz.func13, Tryz.ntmps13
  go_upto_region 1 with (fail)
  generalize w.alloc (.cells #[.int .i64 g.id, .int .i64 g.ref, .int .i64 g.lev, .slice A n c] 30) = W0 at *
  have p0 : W0.cell? ⟨w.heap.size, 0, none⟩ = some (.int .i64 g.id) := hx0.cell 0
  have p1 : W0.cell? ⟨w.heap.size, 1, none⟩ = some (.int .i64 g.ref) := hx0.cell 1
  have p2 : W0.cell? ⟨w.heap.size, 2, none⟩ = some (.int .i64 g.lev) := hx0.cell 2
  have p3 : W0.cell? ⟨w.heap.size, 3, none⟩ = some (.slice A n c) := hx0.cell 3
  by_cases g0 : g.id < 1
  case pos =>
    have d0 : decide (g.id < 1) = true := by simpa using g0
    have E : Hid (2 = gErr g us) := (gErr_head (by cases e : ghOk g; rfl; exact absurd (ghOk_yes e) (by omega))).symm
    go_wp2
    go_ret
    exact ⟨ret_err E.out, hb0⟩
  have d0 : decide (g.id < 1) = false := by simpa using g0
  by_cases g1 : 1000000 < g.id
  case pos =>
    have d1 : decide (1000000 < g.id) = true := by simpa using g1
    have E : Hid (2 = gErr g us) := (gErr_head (by cases e : ghOk g; rfl; exact absurd (ghOk_yes e) (by omega))).symm
    go_wp2
    go_ret
    exact ⟨ret_err E.out, hb0⟩
  have d1 : decide (1000000 < g.id) = false := by simpa using g1
  by_cases g2 : g.ref < 0
  case pos =>
    have d2 : decide (g.ref < 0) = true := by simpa using g2
    have E : Hid (2 = gErr g us) := (gErr_head (by cases e : ghOk g; rfl; exact absurd (ghOk_yes e) (by omega))).symm
    go_wp2
    go_ret
    exact ⟨ret_err E.out, hb0⟩
  have d2 : decide (g.ref < 0) = false := by simpa using g2
  by_cases g3 : 1000000000000 < g.ref
  case pos =>
    have d3 : decide (1000000000000 < g.ref) = true := by simpa using g3
    have E : Hid (2 = gErr g us) := (gErr_head (by cases e : ghOk g; rfl; exact absurd (ghOk_yes e) (by omega))).symm
    go_wp2
    go_ret
    exact ⟨ret_err E.out, hb0⟩
  have d3 : decide (1000000000000 < g.ref) = false := by simpa using g3
  by_cases g4 : g.lev < 0
  case pos =>
    have d4 : decide (g.lev < 0) = true := by simpa using g4
    have E : Hid (2 = gErr g us) := (gErr_head (by cases e : ghOk g; rfl; exact absurd (ghOk_yes e) (by omega))).symm
    go_wp2
    go_ret
    exact ⟨ret_err E.out, hb0⟩
  have d4 : decide (g.lev < 0) = false := by simpa using g4
  by_cases g5 : 1000000 < g.lev
  case pos =>
    have d5 : decide (1000000 < g.lev) = true := by simpa using g5
    have E : Hid (2 = gErr g us) := (gErr_head (by cases e : ghOk g; rfl; exact absurd (ghOk_yes e) (by omega))).symm
    go_wp2
    go_ret
    exact ⟨ret_err E.out, hb0⟩
  have d5 : decide (1000000 < g.lev) = false := by simpa using g5
  have HQ : Hid (ghOk g = true) := by show _ = _; simp [ghOk]; omega
  clear g0 g1 g2 g3 g4 g5
  by_cases hl : 64 < n
  · have E : Hid (8 = gErr g us) := (gErr_len HQ.out (by have := HL.out; omega)).symm
    have hli : (64 : Int) < n := by omega
    go_wp2
    go_ret
    exact ⟨ret_err E.out, hb0⟩
  have hln : n ≤ 64 := by omega
  have HX0 := Lib.hid hx0
  clear hx0
  go_wp2_with fail
  go_loopw [41] (fun i wx => ∃ k : Nat, k ≤ n ∧ i = .int .i64 k ∧ Hid (∀ i, i < k → uOk us[i]! = true) ∧ RowKit.Below W0.heap.size W0 wx) (fun i _ => n - (intOf i).toNat)
  case atStart => exact ⟨0, Nat.zero_le _, rfl, fun i hi => by omega, Below.refl _ _⟩
  case round =>
    obtain ⟨k, hk, rfl, HA, hbk⟩ := hrel
    have hBk := hb0.trans (hbk.mono hb0.size)
    have hxk := HX0.out.keep hbk
    have r1 : wr.cell? ⟨w.heap.size, 1, none⟩ = some (.int .i64 g.ref) := hxk.cell 1
    have r3 : wr.cell? ⟨w.heap.size, 3, none⟩ = some (.slice A n c) := hxk.cell 3
    clear p0 p1 p2 p3
    by_cases hlt : k < n
    · obtain ⟨b, off, x, y, hA, hbl, c0, c1, HX⟩ := (h0.below hbk).get2 hlt
      subst hA
      have hki : (k : Int) < n := by omega
      have hx4 := Bl.new wr 32 #[.int .i64 x, .int .i64 y]
      have hb4 : RowKit.Below W0.heap.size W0 (wr.alloc (.cells #[.int .i64 x, .int .i64 y] 32)) := hbk.alloc hbk.size _
      have hB4 := hb0.trans (hb4.mono hb0.size)
      go_upto_region 8 with (fail)
      clear c0 c1 r1 r3
      generalize wr.alloc (.cells #[.int .i64 x, .int .i64 y] 32) = W4 at *
      generalize wr.heap.size = g4 at *
      have q0 : W4.cell? ⟨g4, 0, none⟩ = some (.int .i64 x) := hx4.cell 0
      have q1 : W4.cell? ⟨g4, 1, none⟩ = some (.int .i64 y) := hx4.cell 1
      by_cases z0 : x < 1
      case pos =>
        have d : decide (x < 1) = true := by simpa using z0
        have E : Hid (2 = gErr g us) := (gErr_use HQ.out (by have := HL.out; omega) (k := k) (by have := HL.out; omega) (by rw [HX.out]; cases e : uOk (x, y); rfl; exact absurd (uOk_yes e) (by simp only; omega))).symm
        clear z0
        go_wp2
        go_ret
        exact ⟨ret_err E.out, hB4⟩
      have e0 : decide (x < 1) = false := by simpa using z0
      by_cases z1 : 1000000 < x
      case pos =>
        have d : decide (1000000 < x) = true := by simpa using z1
        have E : Hid (2 = gErr g us) := (gErr_use HQ.out (by have := HL.out; omega) (k := k) (by have := HL.out; omega) (by rw [HX.out]; cases e : uOk (x, y); rfl; exact absurd (uOk_yes e) (by simp only; omega))).symm
        clear z1
        go_wp2
        go_ret
        exact ⟨ret_err E.out, hB4⟩
      have e1 : decide (1000000 < x) = false := by simpa using z1
      by_cases z2 : y < 0
      case pos =>
        have d : decide (y < 0) = true := by simpa using z2
        have E : Hid (2 = gErr g us) := (gErr_use HQ.out (by have := HL.out; omega) (k := k) (by have := HL.out; omega) (by rw [HX.out]; cases e : uOk (x, y); rfl; exact absurd (uOk_yes e) (by simp only; omega))).symm
        clear z2
        go_wp2
        go_ret
        exact ⟨ret_err E.out, hB4⟩
      have e2 : decide (y < 0) = false := by simpa using z2
      by_cases z3 : 1000000000000 < y
      case pos =>
        have d : decide (1000000000000 < y) = true := by simpa using z3
        have E : Hid (2 = gErr g us) := (gErr_use HQ.out (by have := HL.out; omega) (k := k) (by have := HL.out; omega) (by rw [HX.out]; cases e : uOk (x, y); rfl; exact absurd (uOk_yes e) (by simp only; omega))).symm
        clear z3
        go_wp2
        go_ret
        exact ⟨ret_err E.out, hB4⟩
      have e3 : decide (1000000000000 < y) = false := by simpa using z3
      have HA2 : Hid (∀ i, i < k + 1 → uOk us[i]! = true) := fun i hi => by
        by_cases e : i = k
        · subst e; rw [HX.out]; simp [uOk]; omega
        · exact HA.out i (by omega)
      clear z0 z1 z2 z3
      go_wp2_with fail
      go_roundw
      case rel => exact ⟨k + 1, by omega, by go_num, HA2, hb4⟩
      case measure => simp [intOf]; omega
    · obtain rfl : n = k := by omega
      have HALL : Hid (∀ u ∈ us, uOk u = true) := all_of_get fun i hi => HA.out i (by have := HL.out; omega)
      go_wp2_with fail
      go_loopw [5] (fun i wx => ∃ k : Nat, i = .int .i64 k ∧ 1 ≤ k ∧ (k ≤ n ∨ k = 1) ∧ Hid (∀ r, r + 1 < k → us[r]!.1 < us[r + 1]!.1) ∧ RowKit.Below W0.heap.size W0 wx) (fun i _ => n - (intOf i).toNat)
      case atStart => exact ⟨1, rfl, Nat.le_refl _, .inr rfl, fun r hr => by omega, hbk⟩
      case round =>
        clear hbk hBk hxk r1 r3
        obtain ⟨k, rfl, hk1, hk2, HAS, hbk⟩ := hrel
        have hBk := hb0.trans (hbk.mono hb0.size)
        have hRk := h0.below hbk
        have s1 : wr.cell? ⟨w.heap.size, 1, none⟩ = some (.int .i64 g.ref) := (HX0.out.keep hbk).cell 1
        have s3 : wr.cell? ⟨w.heap.size, 3, none⟩ = some (.slice A n c) := (HX0.out.keep hbk).cell 3
        by_cases hlt2 : k < n
        · obtain ⟨b, off, x, x2, hA, hbl, c0, _, HX⟩ := hRk.get2 hlt2
          subst hA
          obtain ⟨p, hp⟩ : ∃ p, k - 1 = p := ⟨_, rfl⟩
          obtain ⟨b', off', y, y2, hA, _, e0, _, HY⟩ := hRk.get2 (i := p) (by omega)
          injection hA with hA
          injection hA with hA1 hA2
          subst hA1 hA2
          have u1 : IntKind.i64.wrap ((k : Int) - 1) = (p : Int) := (IntWalk.i64_in _ (by omega)).trans (by omega)
          have hp1 : p + 1 ≤ k := by omega
          have hp2 : k ≤ p + 1 := by omega
          have hki : (k : Int) < n := by omega
          have hpi : (p : Int) < n := by omega
          clear hp
          go_upto_region 14 with (fail)
          go_quiet (fail)
          by_cases g : x ≤ y
          · have d1 : decide (x ≤ y) = true := by simpa using g
            have E : Hid (9 = gErr _ us) := (gErr_asc HQ.out (by have := HL.out; omega) HALL.out (k := p) (by have := HL.out; omega) (by rw [show p + 1 = k by omega, HX.out, HY.out]; simp only; omega)).symm
            go_wp2
            go_ret
            exact ⟨ret_err E.out, below_drewN hBk _⟩
          · have d1 : decide (x ≤ y) = false := by simpa using g
            have HAS2 : Hid (∀ r, r + 1 < k + 1 → us[r]!.1 < us[r + 1]!.1) := fun r hr => by
              by_cases e : r = p
              · subst e; rw [show r + 1 = k by omega, HX.out, HY.out]; simp only; omega
              · exact HAS.out r (by omega)
            clear u1
            go_wp2_with fail
            go_roundw
            case rel => exact ⟨k + 1, by go_num, by omega, .inl (by omega), HAS2, below_drewN hbk _⟩
            case measure => simp [intOf]; omega
        · have HE : Hid (gErr g us = if uSum us ≤ g.ref then 0 else 16) := gErr_sum HQ.out (by have := HL.out; omega) HALL.out (fun r hr => HAS.out r (by have := HL.out; omega))
          generalize gErr g us = ge at *
          obtain ⟨S, hS⟩ : ∃ S, uSum us = S := ⟨_, rfl⟩
          rw [hS] at HE
          have HC : Hid (∀ w', RowKit.Below w.heap.size w w' → Calls Tryz.prog 30 #[.slice A n c] w' fun e w'' => e = .returned (.int .i64 S) ∧ RowKit.Below w'.heap.size w' w'') := fun w' hb => by rw [← hS]; exact HRS.out w' hb (by omega) HALL.out
          clear hS
          have HBN : Hid (RowKit.Below w.heap.size w wr.drew) := hBk.drew
          have HSZ := Lib.hid hBk.size
          go_upto_region 16 with (fail)
          go_cut [90] (fun v wx => v = .bool (decide (g.ref < S)) ∧ RowKit.Below w.heap.size w wx)
          case first =>
            go_region_held3 (fun w' => w'.cell? ⟨w.heap.size, 1, none⟩ = some (.int .i64 g.ref) ∧ w'.cell? ⟨w.heap.size, 3, none⟩ = some (.slice A n c))
              (first | go_keep | exact ⟨s1, s3⟩ | exact ⟨(HX5.out).cell 1, (HX5.out).cell 3⟩)
              (first | (go_at_call 30; with_reducible (refine (HC.out _ ?_).mono ?_); with_reducible (exact HBN.out); rintro e w5 ⟨rfl, hb5'⟩; have hb5 := Lib.hid (HBN.out.trans (hb5'.mono HBN.out.size)); have HX5 := Lib.hid ((HX0.out.keep hbk.drew).keep hb5'); clear hb5'))
            all_goals (go_wp2; go_meet)
            all_goals exact ⟨rfl, hb5.out⟩
          case rest =>
            obtain ⟨rfl, hbx⟩ := hcut
            by_cases hs : g.ref < S
            · have d1 : decide (g.ref < S) = true := by simpa using hs
              have E : Hid (16 = ge) := by show _ = _; rw [HE.out, if_neg (by omega)]
              go_wp2
              go_ret
              exact ⟨ret_err E.out, hbx⟩
            · have d1 : decide (g.ref < S) = false := by simpa using hs
              have E : Hid (0 = ge) := by show _ = _; rw [HE.out, if_pos (by omega)]
              go_wp2
              go_ret
              exact ⟨ret_err E.out, hbx⟩

end Go.Proofs.YtdbcbbiplkikcaaGreat

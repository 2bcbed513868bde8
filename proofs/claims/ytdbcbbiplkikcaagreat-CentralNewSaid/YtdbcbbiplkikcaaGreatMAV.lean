/-
  The contract of customsref36.SameCentral at two centres at the beginning: it returns true. No statement of the seat is proved here. Conditions: equal books without facts, guarantees with equal heads and without reservations.
-/
import Derived.Test.YtdbcbbiplkikcaaGreatMAU
import Derived.Test.YtdbcbbiplkikcaaGreatMAI
import Derived.StillTailTactics
namespace Go.Proofs.YtdbcbbiplkikcaaGreat
open Go.RowKit
set_option linter.unusedVariables false


set_option maxHeartbeats 1000000 in
theorem sameRes0 (A B : Option Addr) (c d : Nat) (w : World) : Calls Tryz.prog 19 #[.slice A 0 c, .slice B 0 d] w (BRes w true) := by
  go_enter Tryz.func19, Tryz.ntmps19
  go_wp2
  go_loopw [5] (fun i wx => i = .int .i64 0 ∧ RowKit.Below w.heap.size w wx) (fun i _ => 0)
  case atStart => exact ⟨rfl, Below.refl _ _⟩
  case round =>
    obtain ⟨rfl, hb⟩ := hrel
    go_wp2
    go_ret
    exact ⟨rfl, hb⟩

set_option maxHeartbeats 1000000 in
theorem sameSeen0 (A B : Option Addr) (c d : Nat) (w : World) : Calls Tryz.prog 18 #[.slice A 0 c, .slice B 0 d] w (BRes w true) := by
  go_enter Tryz.func18, Tryz.ntmps18
  go_wp2
  go_loopw [5] (fun i wx => i = .int .i64 0 ∧ RowKit.Below w.heap.size w wx) (fun i _ => 0)
  case atStart => exact ⟨rfl, Below.refl _ _⟩
  case round =>
    obtain ⟨rfl, hb⟩ := hrel
    go_wp2
    go_ret
    exact ⟨rfl, hb⟩

set_option maxHeartbeats 1000000 in
theorem sameMsgs0 (A B : Option Addr) (c d : Nat) (w : World) : Calls Tryz.prog 20 #[.slice A 0 c, .slice B 0 d] w (BRes w true) := by
  go_enter Tryz.func20, Tryz.ntmps20
  go_wp2
  go_loopw [5] (fun i wx => i = .int .i64 0 ∧ RowKit.Below w.heap.size w wx) (fun i _ => 0)
  case atStart => exact ⟨rfl, Below.refl _ _⟩
  case round =>
    obtain ⟨rfl, hb⟩ := hrel
    go_wp2
    go_ret
    exact ⟨rfl, hb⟩

set_option maxRecDepth 100000 in
set_option maxHeartbeats 2000000 in
theorem sameGuar0 (h : Gh) (A B : Option Addr) (c d : Nat) (w : World) : Calls Tryz.prog 22 #[.agg #[.int .i64 h.id, .int .i64 h.ref, .int .i64 h.lev, .slice A 0 c], .agg #[.int .i64 h.id, .int .i64 h.ref, .int .i64 h.lev, .slice B 0 d]] w (BRes w true) := by
  have hb : RowKit.Below w.heap.size w ((w.alloc (.cells #[.int .i64 h.id, .int .i64 h.ref, .int .i64 h.lev, .slice A 0 c] 30)).alloc (.cells #[.int .i64 h.id, .int .i64 h.ref, .int .i64 h.lev, .slice B 0 d] 30)) := ((Below.refl _ _).alloc (Nat.le_refl _) _).alloc (by simp) _
  have HS := Lib.hid (fun w => sameRes0 A B c d w)
  go_enter Tryz.func22, Tryz.ntmps22
  go_wp2_with fail
  refine (HS.out _).mono ?_
  rintro e w1 ⟨rfl, hb1⟩
  go_wp2
  go_ret
  exact ⟨rfl, hb.trans (hb1.mono hb.size)⟩

set_option maxRecDepth 100000 in
set_option maxHeartbeats 4000000 in
theorem sameCentral37 (A1 A2 B1 B2 : Option Addr) (n m c1 c2 d1 d2 : Nat) (qs : List Qt) (gs1 gs2 : List Gb) (w : World) (hq1 : Recs encB 5 w A1 n (qs.map bk0)) (hq2 : Recs encB 5 w A2 n (qs.map bk0)) (hg1 : Recs encGu 4 w B1 m gs1) (hg2 : Recs encGu 4 w B2 m gs2)
    (hn : n ≤ 1000) (hm : m ≤ 1000) (hh : ∀ j, j < m → gs1[j]!.h = gs2[j]!.h ∧ gs1[j]!.n = 0 ∧ gs2[j]!.n = 0) :
    Calls Tryz.prog 8 #[.agg #[.slice none 0 0, .slice A1 n c1, .slice B1 m d1, .slice none 0 0, .slice none 0 0], .agg #[.slice none 0 0, .slice A2 n c2, .slice B2 m d2, .slice none 0 0, .slice none 0 0]] w (BRes w true) := by
  have HQ1 := Lib.hid hq1
  have HQ2 := Lib.hid hq2
  have HG1 := Lib.hid hg1
  have HG2 := Lib.hid hg2
  have HH := Lib.hid hh
  have HLQ := Lib.hid hq1.1
  clear hq1 hq2 hg1 hg2 hh
  have HSS := Lib.hid (fun w => sameSeen0 none none 0 0 w)
  have HSR := Lib.hid (fun w => sameRes0 none none 0 0 w)
  have HSM := Lib.hid (fun w => sameMsgs0 none none 0 0 w)
  have HSB := Lib.hid (fun q w => sameBook_true q none none 0 0 0 [] w Recs.nil Recs.nil (by omega))
  have HSG := Lib.hid (fun h A B c d w => sameGuar0 h A B c d w)
  obtain ⟨W0, hW0⟩ : ∃ W, W = (w.alloc (.cells #[.slice none 0 0, .slice A1 n c1, .slice B1 m d1, .slice none 0 0, .slice none 0 0] 37)).alloc (.cells #[.slice none 0 0, .slice A2 n c2, .slice B2 m d2, .slice none 0 0, .slice none 0 0] 37) := ⟨_, rfl⟩
  have hx0 : Bl W0 w.heap.size 37 #[.slice none 0 0, .slice A1 n c1, .slice B1 m d1, .slice none 0 0, .slice none 0 0] := by rw [hW0]; exact (Bl.new w _ _).alloc _
  have hy0 : Bl W0 (w.heap.size + 1) 37 #[.slice none 0 0, .slice A2 n c2, .slice B2 m d2, .slice none 0 0, .slice none 0 0] := by rw [hW0]; have := Bl.new (w.alloc (.cells #[.slice none 0 0, .slice A1 n c1, .slice B1 m d1, .slice none 0 0, .slice none 0 0] 37)) 37 #[.slice none 0 0, .slice A2 n c2, .slice B2 m d2, .slice none 0 0, .slice none 0 0]; simpa using this
  have hb0 : RowKit.Below w.heap.size w W0 := by rw [hW0]; exact ((Below.refl _ _).alloc (Nat.le_refl _) _).alloc (by simp) _
  go_enter Tryz.func8, Tryz.ntmps8
  go_upto_region 1 with (fail)
  rw [← hW0]
  clear hW0
  have x0 : W0.cell? ⟨w.heap.size, 0, none⟩ = some (.slice none 0 0) := hx0.c0
  have y0 : W0.cell? ⟨w.heap.size + 1, 0, none⟩ = some (.slice none 0 0) := hy0.c0
  have x1 : W0.cell? ⟨w.heap.size, 1, none⟩ = some (.slice A1 n c1) := hx0.c1
  have y1 : W0.cell? ⟨w.heap.size + 1, 1, none⟩ = some (.slice A2 n c2) := hy0.c1
  have x2 : W0.cell? ⟨w.heap.size, 2, none⟩ = some (.slice B1 m d1) := hx0.c2
  have y2 : W0.cell? ⟨w.heap.size + 1, 2, none⟩ = some (.slice B2 m d2) := hy0.c2
  have x3 : W0.cell? ⟨w.heap.size, 3, none⟩ = some (.slice none 0 0) := hx0.c3
  have y3 : W0.cell? ⟨w.heap.size + 1, 3, none⟩ = some (.slice none 0 0) := hy0.c3
  have x4 : W0.cell? ⟨w.heap.size, 4, none⟩ = some (.slice none 0 0) := hx0.c4
  have y4 : W0.cell? ⟨w.heap.size + 1, 4, none⟩ = some (.slice none 0 0) := hy0.c4
  go_wp2_with fail
  refine (HSS.out _).mono ?_
  rintro e w1 ⟨rfl, hb1⟩
  have hB1 := hb0.trans (hb1.mono hb0.size)
  have hx1 := hx0.keep hb1
  have hy1 := hy0.keep hb1
  clear x0 y0 x1 y1 x2 y2 x3 y3 x4 y4
  clear hb0 hb1 hx0 hy0
  have x0 : w1.cell? ⟨w.heap.size, 0, none⟩ = some (.slice none 0 0) := hx1.c0
  have y0 : w1.cell? ⟨w.heap.size + 1, 0, none⟩ = some (.slice none 0 0) := hy1.c0
  have x1 : w1.cell? ⟨w.heap.size, 1, none⟩ = some (.slice A1 n c1) := hx1.c1
  have y1 : w1.cell? ⟨w.heap.size + 1, 1, none⟩ = some (.slice A2 n c2) := hy1.c1
  have x2 : w1.cell? ⟨w.heap.size, 2, none⟩ = some (.slice B1 m d1) := hx1.c2
  have y2 : w1.cell? ⟨w.heap.size + 1, 2, none⟩ = some (.slice B2 m d2) := hy1.c2
  have x3 : w1.cell? ⟨w.heap.size, 3, none⟩ = some (.slice none 0 0) := hx1.c3
  have y3 : w1.cell? ⟨w.heap.size + 1, 3, none⟩ = some (.slice none 0 0) := hy1.c3
  have x4 : w1.cell? ⟨w.heap.size, 4, none⟩ = some (.slice none 0 0) := hx1.c4
  have y4 : w1.cell? ⟨w.heap.size + 1, 4, none⟩ = some (.slice none 0 0) := hy1.c4
  go_wp2_with fail
  refine (HSR.out _).mono ?_
  rintro e w2 ⟨rfl, hb2⟩
  have hB2 := hB1.trans (hb2.mono hB1.size)
  have hx2 := hx1.keep hb2
  have hy2 := hy1.keep hb2
  clear x0 y0 x1 y1 x2 y2 x3 y3 x4 y4
  clear hB1 hb2 hx1 hy1
  have x0 : w2.cell? ⟨w.heap.size, 0, none⟩ = some (.slice none 0 0) := hx2.c0
  have y0 : w2.cell? ⟨w.heap.size + 1, 0, none⟩ = some (.slice none 0 0) := hy2.c0
  have x1 : w2.cell? ⟨w.heap.size, 1, none⟩ = some (.slice A1 n c1) := hx2.c1
  have y1 : w2.cell? ⟨w.heap.size + 1, 1, none⟩ = some (.slice A2 n c2) := hy2.c1
  have x2 : w2.cell? ⟨w.heap.size, 2, none⟩ = some (.slice B1 m d1) := hx2.c2
  have y2 : w2.cell? ⟨w.heap.size + 1, 2, none⟩ = some (.slice B2 m d2) := hy2.c2
  have x3 : w2.cell? ⟨w.heap.size, 3, none⟩ = some (.slice none 0 0) := hx2.c3
  have y3 : w2.cell? ⟨w.heap.size + 1, 3, none⟩ = some (.slice none 0 0) := hy2.c3
  have x4 : w2.cell? ⟨w.heap.size, 4, none⟩ = some (.slice none 0 0) := hx2.c4
  have y4 : w2.cell? ⟨w.heap.size + 1, 4, none⟩ = some (.slice none 0 0) := hy2.c4
  go_wp2_with fail
  refine (HSM.out _).mono ?_
  rintro e w3 ⟨rfl, hb3⟩
  have HB3 := Lib.hid (hB2.trans (hb3.mono hB2.size))
  have HX3 := Lib.hid (hx2.keep hb3)
  have HY3 := Lib.hid (hy2.keep hb3)
  clear x0 y0 x1 y1 x2 y2 x3 y3 x4 y4
  clear hB2 hb3 hx2 hy2
  go_wp2_with fail
  go_loopw [5] (fun i wx => ∃ k : Nat, k ≤ n ∧ i = .int .i64 k ∧ Hid (Bl wx w.heap.size 37 #[.slice none 0 0, .slice A1 n c1, .slice B1 m d1, .slice none 0 0, .slice none 0 0]) ∧ Hid (Bl wx (w.heap.size + 1) 37 #[.slice none 0 0, .slice A2 n c2, .slice B2 m d2, .slice none 0 0, .slice none 0 0]) ∧ Hid (RowKit.Below w.heap.size w wx)) (fun i _ => n - (intOf i).toNat)
  case atStart => exact ⟨0, Nat.zero_le _, rfl, HX3, HY3, HB3⟩
  case round =>
    clear HX3 HY3 HB3
    obtain ⟨k, hk, rfl, HX, HY, HB⟩ := hrel
    have x1 : wr.cell? ⟨w.heap.size, 1, none⟩ = some (.slice A1 n c1) := HX.out.c1
    have y1 : wr.cell? ⟨w.heap.size + 1, 1, none⟩ = some (.slice A2 n c2) := HY.out.c1
    have x2 : wr.cell? ⟨w.heap.size, 2, none⟩ = some (.slice B1 m d1) := HX.out.c2
    have y2 : wr.cell? ⟨w.heap.size + 1, 2, none⟩ = some (.slice B2 m d2) := HY.out.c2
    by_cases hlt : k < n
    · obtain ⟨b, off, e1, hbl, hc⟩ := (HQ1.out.below HB.out).at_ hlt
      obtain ⟨b', off', e2, hbl', hc'⟩ := (HQ2.out.below HB.out).at_ hlt
      have hk1 : k < qs.length := by
        have h9 := HLQ.out
        simp at h9
        omega
      obtain ⟨q, hq⟩ : ∃ q, (qs.map bk0)[k]! = bk0 q := ⟨qs[k]!, by rw [getElem!_pos _ k (by simpa using hk1), List.getElem_map, getElem!_pos qs k hk1]⟩
      clear hk1
      rw [hq] at hc hc'
      subst e1 e2
      have a0 : wr.cell? ⟨b, off + k * 5, none⟩ = some (.int .i64 q.id) := hc 0 (by omega)
      have a1 : wr.cell? ⟨b, off + k * 5 + 1, none⟩ = some (.int .i64 q.vol) := hc 1 (by omega)
      have a2 : wr.cell? ⟨b, off + k * 5 + 2, none⟩ = some (.int .i64 q.fr) := hc 2 (by omega)
      have a3 : wr.cell? ⟨b, off + k * 5 + 3, none⟩ = some (.int .i64 q.tod) := hc 3 (by omega)
      have a4 : wr.cell? ⟨b, off + k * 5 + 4, none⟩ = some (.slice none 0 0) := hc 4 (by omega)
      have z0 : wr.cell? ⟨b', off' + k * 5, none⟩ = some (.int .i64 q.id) := hc' 0 (by omega)
      have z1 : wr.cell? ⟨b', off' + k * 5 + 1, none⟩ = some (.int .i64 q.vol) := hc' 1 (by omega)
      have z2 : wr.cell? ⟨b', off' + k * 5 + 2, none⟩ = some (.int .i64 q.fr) := hc' 2 (by omega)
      have z3 : wr.cell? ⟨b', off' + k * 5 + 3, none⟩ = some (.int .i64 q.tod) := hc' 3 (by omega)
      have z4 : wr.cell? ⟨b', off' + k * 5 + 4, none⟩ = some (.slice none 0 0) := hc' 4 (by omega)
      have hki : (k : Int) < n := by omega
      have hXd : Bl wr.drew _ _ _ := HX.out.drewN 1
      have hYd : Bl wr.drew _ _ _ := HY.out.drewN 1
      have HBd := Lib.hid HB.out.drew
      clear hc hc' hq HX HY HB
      go_upto_region 6 with (fail)
      go_still_tail 10, (by kernel_rfl)
      change wpList _ _ _ _ _ wr.drew
      clear a0 a1 a2 a3 a4 z0 z1 z2 z3 z4 x1 x2 y1 y2
      generalize wr.drew = wd at *
      go_wp2_with fail
      refine (HSB.out q _).mono ?_
      rintro e w5 ⟨rfl, hb5⟩
      have HX5 := Lib.hid (hXd.keep hb5)
      have HY5 := Lib.hid (hYd.keep hb5)
      have HB5 := Lib.hid (HBd.out.trans (hb5.mono HBd.out.size))
      clear hXd hYd hb5 HBd
      go_wp2_with fail
      go_roundw
      case rel => exact ⟨k + 1, by omega, by go_num, HX5, HY5, HB5⟩
      case measure => simp [intOf]; omega
    · obtain rfl : n = k := by omega
      go_wp2_with fail
      go_loopw [6] (fun i wx => ∃ k : Nat, k ≤ m ∧ i = .int .i64 k ∧ Hid (Bl wx w.heap.size 37 #[.slice none 0 0, .slice A1 n c1, .slice B1 m d1, .slice none 0 0, .slice none 0 0]) ∧ Hid (Bl wx (w.heap.size + 1) 37 #[.slice none 0 0, .slice A2 n c2, .slice B2 m d2, .slice none 0 0, .slice none 0 0]) ∧ Hid (RowKit.Below w.heap.size w wx)) (fun i _ => m - (intOf i).toNat)
      case atStart => exact ⟨0, Nat.zero_le _, rfl, HX, HY, HB⟩
      case round =>
        clear HX HY HB x1 x2 y1 y2
        obtain ⟨k, hk, rfl, HX, HY, HB⟩ := hrel
        have x1 : wr.cell? ⟨w.heap.size, 1, none⟩ = some (.slice A1 n c1) := HX.out.c1
        have y1 : wr.cell? ⟨w.heap.size + 1, 1, none⟩ = some (.slice A2 n c2) := HY.out.c1
        have x2 : wr.cell? ⟨w.heap.size, 2, none⟩ = some (.slice B1 m d1) := HX.out.c2
        have y2 : wr.cell? ⟨w.heap.size + 1, 2, none⟩ = some (.slice B2 m d2) := HY.out.c2
        by_cases hlt : k < m
        · obtain ⟨b, off, g, e1, hbl, a0, a1, a2, a3, HGX⟩ := (HG1.out.below HB.out).getG hlt
          obtain ⟨b', off', g', e2, hbl', z0, z1, z2, z3, HGY⟩ := (HG2.out.below HB.out).getG hlt
          have hhk := HH.out k hlt
          rw [HGX.out, HGY.out] at hhk
          subst e1 e2
          rw [← hhk.1] at z0 z1 z2
          rw [hhk.2.1] at a3
          rw [hhk.2.2] at z3
          clear hhk
          have hki : (k : Int) < m := by omega
          have hXd : Bl wr.drew _ _ _ := HX.out.drewN 1
          have hYd : Bl wr.drew _ _ _ := HY.out.drewN 1
          have HBd := Lib.hid HB.out.drew
          clear HX HY HB hbl hbl'
          go_upto_region 11 with (fail)
          go_still_tail 10, (by kernel_rfl)
          change wpList _ _ _ _ _ wr.drew
          clear a0 a1 a2 a3 z0 z1 z2 z3 x1 x2 y1 y2
          generalize wr.drew = wd at *
          go_wp2_with fail
          refine (HSG.out g.h _ _ _ _ _).mono ?_
          rintro e w5 ⟨rfl, hb5⟩
          have HX5 := Lib.hid (hXd.keep hb5)
          have HY5 := Lib.hid (hYd.keep hb5)
          have HB5 := Lib.hid (HBd.out.trans (hb5.mono HBd.out.size))
          clear hXd hYd hb5 HBd
          go_wp2_with fail
          go_roundw
          case rel => exact ⟨k + 1, by omega, by go_num, HX5, HY5, HB5⟩
          case measure => simp [intOf]; omega
        · obtain rfl : m = k := by omega
          go_wp2
          go_ret
          exact ⟨rfl, HB.out⟩
end Go.Proofs.YtdbcbbiplkikcaaGreat

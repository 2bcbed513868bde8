/-
  The contract of guarantee.Total at a valid guarantee. No statement of the seat is proved here. Conditions: the guarantee is valid.
  The law CentralNever: no guarantee is ever exceeded. No statement of the seat is proved here. Conditions: the list reads as integers, the raw messages read as messages.
-/
import Derived.Test.YtdbcbbiplkikcaaGreatNAM
import Derived.Test.YtdbcbbiplkikcaaGreatNBB
import Derived.Test.YtdbcbbiplkikcaaGreatNBC
import Derived.Deep.RegionWith
import Derived.Deep.DeepCutAuto
import Derived.Deep.RegionHeld3
namespace Go.Proofs.YtdbcbbiplkikcaaGreat
open Go.RowKit
set_option linter.unusedVariables false

set_option maxRecDepth 100000 in
set_option maxHeartbeats 4000000 in
theorem total37_any (g : Gh) (A : Option Addr) (n c : Nat) (us : List (Int × Int)) (w : World) (h : Recs enc2 2 w A n us) (hg : GOk g us) :
    Calls Tryz.prog 14 #[.agg #[.int .i64 g.id, .int .i64 g.ref, .int .i64 g.lev, .slice A n c]] w (ERes w (uSum us)) := by
  have HV := Lib.hid (fun w' (hb : RowKit.Below w.heap.size w w') => gvalidate_any g A n c us w' (h.below hb))
  rw [hg.err] at HV
  have HR := Lib.hid (fun w' (hb : RowKit.Below w.heap.size w w') => reserved_any A n c us w' (h.below hb) (by have := hg.len; have := h.1; omega) hg.ok)
  clear h hg
  have hx := Bl.new w 30 #[.int .i64 g.id, .int .i64 g.ref, .int .i64 g.lev, .slice A n c]
  have hb0 : RowKit.Below w.heap.size w (w.alloc (.cells #[.int .i64 g.id, .int .i64 g.ref, .int .i64 g.lev, .slice A n c] 30)) := (Below.refl _ _).alloc (Nat.le_refl _) _
  generalize uSum us = S at *
  go_enter Tryz.func14, Tryz.ntmps14
  go_upto_region 1 with (fail)
  generalize w.alloc (.cells #[.int .i64 g.id, .int .i64 g.ref, .int .i64 g.lev, .slice A n c] 30) = W0 at *
  have c0 : W0.cell? ⟨w.heap.size, 0, none⟩ = some (.int .i64 g.id) := hx.cell 0
  have c1 : W0.cell? ⟨w.heap.size, 1, none⟩ = some (.int .i64 g.ref) := hx.cell 1
  have c2 : W0.cell? ⟨w.heap.size, 2, none⟩ = some (.int .i64 g.lev) := hx.cell 2
  have c3 : W0.cell? ⟨w.heap.size, 3, none⟩ = some (.slice A n c) := hx.cell 3
  go_wp2_with fail
  refine (HV.out _ hb0).mono ?_
  rintro e w1 ⟨rfl, hb1⟩
  have HB1 := Lib.hid (hb0.trans (hb1.mono hb0.size))
  have d3 : w1.cell? ⟨w.heap.size, 3, none⟩ = some (.slice A n c) := (hx.keep hb1).cell 3
  clear c0 c1 c2 c3 hx hb0 hb1 HV
  go_wp2_with fail
  refine (HR.out _ HB1.out).mono ?_
  rintro e w2 ⟨rfl, hb2⟩
  go_wp2
  go_ret
  exact ⟨rfl, HB1.out.trans (hb2.mono HB1.out.size)⟩
end Go.Proofs.YtdbcbbiplkikcaaGreat

namespace Go.Proofs.YtdbcbbiplkikcaaGreat
open Go.RowKit
set_option linter.unusedVariables false

set_option maxRecDepth 100000 in
set_option maxHeartbeats 16000000 in
theorem centralNever_any (A : Option Addr) (n c : Nat) (xs : List Int) (RA : Option Addr) (rn rc : Nat) (ms : List Mg) (wild : Bool) (w : World) (h : Ints w A n xs) (hnc : n ≤ c) (hcm : c ≤ 9223372036854775807) (hr : Recs encM 13 w RA rn ms) (hin : ∀ m ∈ ms, MgIn w m) (hrn : rn ≤ 9223372036854775807) :
    Calls Tryz.prog 4 #[.slice A n c, .slice RA rn rc, .bool wild] w (BRes w true) := by
  have HMS := Lib.hid (messages37_any A n c xs w h hnc hcm)
  have HST := Lib.hid start37_any
  have HHD := Lib.hid Handle37_any
  have HAW := Lib.hid awake37_any
  have HRR := Lib.hid hr
  have HIN := Lib.hid hin
  clear h hr hin
  go_enter Tryz.func4, Tryz.ntmps4
  go_wp2_with fail
  refine HMS.out.mono ?_
  rintro e w1 ⟨B, k, d, ms1, rfl, hk40, hr1, hp1, hb1⟩
  have HR1 := Lib.hid hr1
  have HP1 := Lib.hid hp1
  have HB1 := Lib.hid hb1
  clear hr1 hp1 hb1 HMS
  go_upto_if 14 with (fail)
  go_cut [7] from 15 (fun v wx => ∃ (IA : Option Addr) (il ic : Nat) (ims : List Mg), v = .slice IA il ic ∧ Hid (Recs encM 13 wx IA il ims) ∧ Hid (∀ m ∈ ims, MgIn wx m) ∧ il ≤ 9223372036854775807 ∧ Hid (RowKit.Below w.heap.size w wx))
  case first =>
    cases wild
    case true =>
      go_wp2_with fail
      go_meet
      exact ⟨RA, rn, rc, ms, rfl, HRR.out.below HB1.out, (fun m hm => (HIN.out m hm).below HB1.out), hrn, HB1.out⟩
    case false =>
      go_wp2_with fail
      go_meet
      exact ⟨B, k, d, ms1, rfl, HR1.out, (fun m hm => (HP1.out m hm).in_ _), by omega, HB1.out⟩
  case rest =>
  obtain ⟨IA, il, ic, ims, rfl, HR3, HI3, hil, HB3⟩ := hcut
  clear HR1 HP1 HB1 HRR HIN hk40
  go_wp2_with fail
  refine (HST.out wc).mono ?_
  rintro e w4 ⟨H, rfl, hA, hb4⟩
  have HR4 := Lib.hid (HR3.out.below hb4)
  have HI4 : Hid (∀ m ∈ ims, MgIn w4 m) := fun m hm => (HI3.out m hm).below hb4
  have HB4 : Hid (RowKit.Below w.heap.size w w4) := HB3.out.trans (hb4.mono HB3.out.size)
  have hba : RowKit.Below w4.heap.size w4 (w4.alloc (.cells #[.slice H.s.A H.s.n H.s.c, .slice H.q.A H.q.n H.q.c, .slice H.g.A H.g.n H.g.c, .slice H.k.A H.k.n H.k.c, .slice H.m.A H.m.n H.m.c] 37)) := (Below.refl _ _).alloc (Nat.le_refl _) _
  have hA5 := hA.below hba
  have hX5 := Bl.new w4 37 #[.slice H.s.A H.s.n H.s.c, .slice H.q.A H.q.n H.q.c, .slice H.g.A H.g.n H.g.c, .slice H.k.A H.k.n H.k.c, .slice H.m.A H.m.n H.m.c]
  clear hA hb4 HR3 HI3 HB3 HST
  go_upto_region 6 with (fail)
  go_loopw [9] (fun v wx => ∃ (i : Nat) (H : Hds) (C : Cen), v = .int .i64 (i : Int) ∧ i ≤ 100 ∧ i ≤ il ∧ Hid (Bl wx w4.heap.size 37 #[.slice H.s.A H.s.n H.s.c, .slice H.q.A H.q.n H.q.c, .slice H.g.A H.g.n H.g.c, .slice H.k.A H.k.n H.k.c, .slice H.m.A H.m.n H.m.c]) ∧ Hid (CenAt wx H C) ∧ Hid (CInv i C) ∧ Hid (RowKit.Below w4.heap.size w4 wx)) (fun v _ => il - (intOf v).toNat)
  case atStart => exact ⟨0, H, cS, rfl, Nat.zero_le _, Nat.zero_le _, hX5, hA5, cS_inv, hba⟩
  case round =>
    clear hX5 hA5 hba
    obtain ⟨i, H, C, rfl, hi100, hil2, HX, HA, HI, HB⟩ := hrel
    by_cases hlt : i < il
    case neg =>
      have d0 : decide ((i : Int) < (il : Int)) = false := by simp; omega
      go_wp2_with fail
      refine (HAW.out wr).mono ?_
      rintro e w9 ⟨rfl, hb9⟩
      go_wp2
      go_ret
      exact ⟨rfl, (HB4.out.trans (HB.out.mono HB4.out.size)).trans (hb9.mono (Nat.le_trans HB4.out.size HB.out.size))⟩
    case pos =>
    have d0 : decide ((i : Int) < (il : Int)) = true := by simp; omega
    by_cases h100 : i < 100
    case neg =>
      have d1 : decide ((i : Int) < 100) = false := by simp; omega
      go_wp2_with fail
      refine (HAW.out wr).mono ?_
      rintro e w9 ⟨rfl, hb9⟩
      go_wp2
      go_ret
      exact ⟨rfl, (HB4.out.trans (HB.out.mono HB4.out.size)).trans (hb9.mono (Nat.le_trans HB4.out.size HB.out.size))⟩
    case pos =>
    have d1 : decide ((i : Int) < 100) = true := by simp; omega
    obtain ⟨bm, om, hIA, hbm, hcm0⟩ := (HR4.out.below HB.out).2 (by omega)
    subst hIA
    have hcm' : ∀ c, c < 13 → wr.cell? ⟨bm, om + i * 13 + c, none⟩ = some ((encM ims[i]!)[c]!) := fun c hc => hcm0 i hlt c hc
    have him : ims[i]! ∈ ims := by have := HR4.out.1; rw [getElem!_pos ims i (by omega)]; exact List.getElem_mem _
    obtain ⟨m, hm⟩ : ∃ m, ims[i]! = m := ⟨_, rfl⟩
    rw [hm] at hcm' him
    have HMI : Hid (MgIn wr.drew m) := ((HI4.out m him).below HB.out).below (Below.refl _ _).drew
    have hIi : (i : Int) < (il : Int) := by omega
    have hIz : (0 : Int) ≤ (i : Int) := by omega
    clear hcm0 hm him
    have x0 : wr.cell? ⟨w4.heap.size, 0, none⟩ = some (.slice H.s.A H.s.n H.s.c) := HX.out.c0
    have x1 : wr.cell? ⟨w4.heap.size, 1, none⟩ = some (.slice H.q.A H.q.n H.q.c) := HX.out.c1
    have x2 : wr.cell? ⟨w4.heap.size, 2, none⟩ = some (.slice H.g.A H.g.n H.g.c) := HX.out.c2
    have x3 : wr.cell? ⟨w4.heap.size, 3, none⟩ = some (.slice H.k.A H.k.n H.k.c) := HX.out.c3
    have x4 : wr.cell? ⟨w4.heap.size, 4, none⟩ = some (.slice H.m.A H.m.n H.m.c) := HX.out.c4
    have y0 : wr.cell? ⟨bm, om + i * 13, none⟩ = some (.int .i64 m.kind) := hcm' 0 (by omega)
    have y1 : wr.cell? ⟨bm, om + i * 13 + 1, none⟩ = some (.int .i64 m.frm) := hcm' 1 (by omega)
    have y2 : wr.cell? ⟨bm, om + i * 13 + 2, none⟩ = some (.int .i64 m.dst) := hcm' 2 (by omega)
    have y3 : wr.cell? ⟨bm, om + i * 13 + 3, none⟩ = some (.int .i64 m.num) := hcm' 3 (by omega)
    have y4 : wr.cell? ⟨bm, om + i * 13 + 4, none⟩ = some (.int .i64 m.day) := hcm' 4 (by omega)
    have y5 : wr.cell? ⟨bm, om + i * 13 + 5, none⟩ = some (.int .i64 m.lot) := hcm' 5 (by omega)
    have y6 : wr.cell? ⟨bm, om + i * 13 + 6, none⟩ = some (.int .i64 m.oth) := hcm' 6 (by omega)
    have y7 : wr.cell? ⟨bm, om + i * 13 + 7, none⟩ = some (.string m.code) := hcm' 7 (by omega)
    have y8 : wr.cell? ⟨bm, om + i * 13 + 8, none⟩ = some (.string m.ctry) := hcm' 8 (by omega)
    have y9 : wr.cell? ⟨bm, om + i * 13 + 9, none⟩ = some (.int .i64 m.qty) := hcm' 9 (by omega)
    have y10 : wr.cell? ⟨bm, om + i * 13 + 10, none⟩ = some (.int .i64 m.amt) := hcm' 10 (by omega)
    have y11 : wr.cell? ⟨bm, om + i * 13 + 11, none⟩ = some (.slice m.LA m.ln m.lc) := hcm' 11 (by omega)
    have y12 : wr.cell? ⟨bm, om + i * 13 + 12, none⟩ = some (.string m.text) := hcm' 12 (by omega)
    clear hcm'
    go_upto_region 8 with (fail)
    have HCH : Hid (Calls Tryz.prog 12 #[.agg #[.slice H.s.A H.s.n H.s.c, .slice H.q.A H.q.n H.q.c, .slice H.g.A H.g.n H.g.c, .slice H.k.A H.k.n H.k.c, .slice H.m.A H.m.n H.m.c], .agg #[.int .i64 m.kind, .int .i64 m.frm, .int .i64 m.dst, .int .i64 m.num, .int .i64 m.day, .int .i64 m.lot, .int .i64 m.oth, .string m.code, .string m.ctry, .int .i64 m.qty, .int .i64 m.amt, .slice m.LA m.ln m.lc, .string m.text]] wr.drew (HndRes wr.drew C m i)) := HHD.out H C m i wr.drew (HA.out.below (Below.refl _ _).drew) HI.out (by omega) HMI.out
    have HX6 : Hid (Bl wr.drew w4.heap.size 37 #[.slice H.s.A H.s.n H.s.c, .slice H.q.A H.q.n H.q.c, .slice H.g.A H.g.n H.g.c, .slice H.k.A H.k.n H.k.c, .slice H.m.A H.m.n H.m.c]) := HX.out
    have HB6 : Hid (RowKit.Below w4.heap.size w4 wr.drew) := HB.out.drew
    clear HX HA HB HI HMI
    go_cut [] (fun wx => ∃ (H2 : Hds) (C2 : Cen), Hid (Bl wx w4.heap.size 37 #[.slice H2.s.A H2.s.n H2.s.c, .slice H2.q.A H2.q.n H2.q.c, .slice H2.g.A H2.g.n H2.g.c, .slice H2.k.A H2.k.n H2.k.c, .slice H2.m.A H2.m.n H2.m.c]) ∧ Hid (CenAt wx H2 C2) ∧ Hid (CInv (i + 1) C2) ∧ Hid (RowKit.Below w4.heap.size w4 wx))
    case first =>
      go_region_with (go_at_call 12; (with_reducible refine HCH.out.mono ?_); rintro e w7 ⟨H2, C2, er, rfl, hO7, hI7, hb7, _⟩; have HX7 := Lib.hid (HX6.out.keep hb7); have HB7 := Lib.hid (HB6.out.trans (hb7.mono HB6.out.size)); have HO7 := Lib.hid hO7; have HI7 := Lib.hid hI7; clear hO7 hI7 hb7; have x0 : w7.cell? ⟨w4.heap.size, 0, none⟩ = some (.slice H.s.A H.s.n H.s.c) := HX7.out.c0; have xf0 : w7.frozen? ⟨w4.heap.size, 0, none⟩ = false := HX7.out.free 0; have x1 : w7.cell? ⟨w4.heap.size, 1, none⟩ = some (.slice H.q.A H.q.n H.q.c) := HX7.out.c1; have xf1 : w7.frozen? ⟨w4.heap.size, 1, none⟩ = false := HX7.out.free 1; have x2 : w7.cell? ⟨w4.heap.size, 2, none⟩ = some (.slice H.g.A H.g.n H.g.c) := HX7.out.c2; have xf2 : w7.frozen? ⟨w4.heap.size, 2, none⟩ = false := HX7.out.free 2; have x3 : w7.cell? ⟨w4.heap.size, 3, none⟩ = some (.slice H.k.A H.k.n H.k.c) := HX7.out.c3; have xf3 : w7.frozen? ⟨w4.heap.size, 3, none⟩ = false := HX7.out.free 3; have x4 : w7.cell? ⟨w4.heap.size, 4, none⟩ = some (.slice H.m.A H.m.n H.m.c) := HX7.out.c4; have xf4 : w7.frozen? ⟨w4.heap.size, 4, none⟩ = false := HX7.out.free 4)
      all_goals
        (go_wp2_with fail
         go_meet
         exact ⟨H2, C2, set5_bl HX7.out _ _ _ _ _, (HO7.out.far HX7.out (fun b hb => heap_set5 hb _ _ _ _ _)).at_, HI7.out, put5 HB7.out (Nat.le_refl _) _ _ _ _ _⟩)
    case rest =>
    obtain ⟨⟨Hs, Hq, ⟨gA, gn, gc⟩, Hk, Hm⟩, C2, HX, HA, HI, HB⟩ := hcut
    clear HCH HX6 HB6 x0 x1 x2 x3 x4 y0 y1 y2 y3 y4 y5 y6 y7 y8 y9 y10 y11 y12
    simp only at HX
    have hgn16 : gn ≤ 16 := by
      have h1 := HA.out.gs.recs.1
      have h2 := HI.out.ng
      simp only at h1
      omega
    go_wp2_with fail
    go_loopw [10] (fun v wx => ∃ k : Nat, v = .int .i64 (k : Int) ∧ k ≤ gn ∧ Hid (Bl wx w4.heap.size 37 #[.slice Hs.A Hs.n Hs.c, .slice Hq.A Hq.n Hq.c, .slice gA gn gc, .slice Hk.A Hk.n Hk.c, .slice Hm.A Hm.n Hm.c]) ∧ Hid (CenAt wx ⟨Hs, Hq, ⟨gA, gn, gc⟩, Hk, Hm⟩ C2) ∧ Hid (RowKit.Below w4.heap.size w4 wx)) (fun v _ => gn - (intOf v).toNat)
    case atStart => exact ⟨0, rfl, Nat.zero_le _, HX, HA, HB⟩
    case round =>
      clear HX HA HB
      obtain ⟨k, rfl, hk, HX, HA, HB⟩ := hrel
      by_cases hlt2 : k < gn
      case neg =>
        have dk : decide ((k : Int) < (gn : Int)) = false := by simp; omega
        have x2 : wr.cell? ⟨w4.heap.size, 2, none⟩ = some (.slice gA gn gc) := HX.out.cell 2
        go_wp2_with fail
        go_roundw
        case rel => exact ⟨i + 1, ⟨Hs, Hq, ⟨gA, gn, gc⟩, Hk, Hm⟩, C2, by go_num, by omega, by omega, HX, HA, HI, HB⟩
        case measure => simp [intOf]; omega
      case pos =>
        obtain ⟨bg, og, hgA, hbg, hcg0⟩ := HA.out.gs.recs.2 (by simp only; omega)
        simp only at hgA
        obtain ⟨b, hb⟩ : ∃ b, C2.gs[k]! = b := ⟨_, rfl⟩
        have hcg : ∀ c, c < 4 → wr.cell? ⟨bg, og + k * 4 + c, none⟩ = some ((encGu b)[c]!) := fun c hc => by rw [← hb]; exact hcg0 k hlt2 c hc
        have hbm : b ∈ C2.gs := by have := HA.out.gs.recs.1; simp only at this; rw [← hb, getElem!_pos C2.gs k (by omega)]; exact List.getElem_mem _
        have a0 : wr.cell? ⟨bg, og + k * 4, none⟩ = some (.int .i64 b.h.id) := hcg 0 (by omega)
        have a1 : wr.cell? ⟨bg, og + k * 4 + 1, none⟩ = some (.int .i64 b.h.ref) := hcg 1 (by omega)
        have a2 : wr.cell? ⟨bg, og + k * 4 + 2, none⟩ = some (.int .i64 b.h.lev) := hcg 2 (by omega)
        have a3 : wr.cell? ⟨bg, og + k * 4 + 3, none⟩ = some (.slice b.A b.n b.c) := hcg 3 (by omega)
        have x2 : wr.cell? ⟨w4.heap.size, 2, none⟩ = some (.slice (some ⟨bg, og, none⟩) gn gc) := by rw [← hgA]; exact HX.out.cell 2
        have hki : (k : Int) < (gn : Int) := by omega
        have hkz : (0 : Int) ≤ (k : Int) := by omega
        have HGO := Lib.hid (HI.out.guars b hbm)
        have hal : RowKit.Below wr.heap.size wr (wr.alloc (.cells #[.int .i64 b.h.id, .int .i64 b.h.ref, .int .i64 b.h.lev, .slice b.A b.n b.c] 30)) := (Below.refl _ _).alloc (Nat.le_refl _) _
        have HU := Lib.hid (((HA.out.uses b hbm).recs).below hal)
        have HX12 := Lib.hid (HX.out.keep hal)
        have HA12 := Lib.hid (HA.out.below hal)
        have HB12 : Hid (RowKit.Below w4.heap.size w4 (wr.alloc (.cells #[.int .i64 b.h.id, .int .i64 b.h.ref, .int .i64 b.h.lev, .slice b.A b.n b.c] 30))) := HB.out.trans (hal.mono HB.out.size)
        have HG12 := Lib.hid (Bl.new wr 30 #[.int .i64 b.h.id, .int .i64 b.h.ref, .int .i64 b.h.lev, .slice b.A b.n b.c])
        clear hcg0 hcg hb hbm hal HX HA HB hgA
        go_upto_region 13 with (fail)
        clear a0 a1 a2 a3 x2
        generalize (wr.alloc (.cells #[.int .i64 b.h.id, .int .i64 b.h.ref, .int .i64 b.h.lev, .slice b.A b.n b.c] 30)) = W at *
        generalize wr.heap.size = g11 at *
        have HVA : Hid (∀ wx, RowKit.Below W.heap.size W wx → Calls Tryz.prog 13 #[.agg #[.int .i64 b.h.id, .int .i64 b.h.ref, .int .i64 b.h.lev, .slice b.A b.n b.c]] wx fun e w' => e = .returned (.int .i64 0) ∧ Hid (RowKit.Below W.heap.size W w')) := fun wx hb => (gvalidate_any b.h b.A b.n b.c b.us wx (HU.out.below hb)).mono fun e w' ⟨h1, h2⟩ => ⟨by rw [h1, HGO.out.err], hb.trans (h2.mono hb.size)⟩
        have HTO : Hid (∀ wx, RowKit.Below W.heap.size W wx → Calls Tryz.prog 14 #[.agg #[.int .i64 b.h.id, .int .i64 b.h.ref, .int .i64 b.h.lev, .slice b.A b.n b.c]] wx fun e w' => e = .returned (.int .i64 (uSum b.us)) ∧ Hid (RowKit.Below W.heap.size W w')) := fun wx hb => (total37_any b.h b.A b.n b.c b.us wx (HU.out.below hb) HGO.out).mono fun e w' ⟨h1, h2⟩ => ⟨h1, hb.trans (h2.mono hb.size)⟩
        have b0 : ((0 : Int) != 0) = false := rfl
        have dr : decide (b.h.ref < uSum b.us) = false := by have := HGO.out.sum; simp; omega
        have hl11 : g11 < W.heap.size := HG12.out.lt
        have g0 : W.cell? ⟨g11, 0, none⟩ = some (.int .i64 b.h.id) := HG12.out.cell 0
        have g1 : W.cell? ⟨g11, 1, none⟩ = some (.int .i64 b.h.ref) := HG12.out.cell 1
        have g2 : W.cell? ⟨g11, 2, none⟩ = some (.int .i64 b.h.lev) := HG12.out.cell 2
        have g3 : W.cell? ⟨g11, 3, none⟩ = some (.slice b.A b.n b.c) := HG12.out.cell 3
        have hv1 : Hid (RowKit.Below W.heap.size W W.drew) := (Below.refl _ _).drew
        have HKS : Hid (∀ wx, RowKit.Below W.heap.size W wx → wx.cell? ⟨g11, 0, none⟩ = some (.int .i64 b.h.id) ∧ wx.cell? ⟨g11, 1, none⟩ = some (.int .i64 b.h.ref) ∧ wx.cell? ⟨g11, 2, none⟩ = some (.int .i64 b.h.lev) ∧ wx.cell? ⟨g11, 3, none⟩ = some (.slice b.A b.n b.c)) := fun wx hb => ⟨(hb.cell (p := ⟨g11, 0, none⟩) hl11).trans g0, (hb.cell (p := ⟨g11, 1, none⟩) hl11).trans g1, (hb.cell (p := ⟨g11, 2, none⟩) hl11).trans g2, (hb.cell (p := ⟨g11, 3, none⟩) hl11).trans g3⟩
        go_cut [57] (fun v wx => v = .bool false ∧ Hid (RowKit.Below W.heap.size W wx))
        case first =>
          go_region_held3 (fun w' => w'.cell? ⟨g11, 0, none⟩ = some (.int .i64 b.h.id) ∧ w'.cell? ⟨g11, 1, none⟩ = some (.int .i64 b.h.ref) ∧ w'.cell? ⟨g11, 2, none⟩ = some (.int .i64 b.h.lev) ∧ w'.cell? ⟨g11, 3, none⟩ = some (.slice b.A b.n b.c))
            (first
              | with_reducible exact HKS.out _ hv6.out
              | with_reducible exact HKS.out _ hv5.out
              | with_reducible exact HKS.out _ hv1.out
              | go_keep)
            (first
              | (go_at_call 13; (with_reducible refine (HVA.out _ hv1.out).mono ?_); rintro e w5 ⟨rfl, hv5⟩)
              | (go_at_call 14; (with_reducible refine (HTO.out _ hv5.out).mono ?_); rintro e w6 ⟨rfl, hv6⟩))
          all_goals
            (go_wp2_with fail
             go_meet
             exact ⟨rfl, hv6⟩)
        case rest =>
        obtain ⟨rfl, hbw⟩ := hcut
        have HX13 := Lib.hid (HX12.out.keep hbw.out)
        have HA13 := Lib.hid (HA12.out.below hbw.out)
        have HB13 : Hid (RowKit.Below w4.heap.size w4 wc) := HB12.out.trans (hbw.out.mono HB12.out.size)
        clear HX12 HA12 HB12 HG12 HVA HTO HU HKS hv1 g0 g1 g2 g3 hbw
        go_wp2_with fail
        go_roundw
        case rel => exact ⟨k + 1, by go_num, by omega, HX13, HA13, HB13⟩
        case measure => simp [intOf]; omega
end Go.Proofs.YtdbcbbiplkikcaaGreat

/-
  The law BookGrants: it returns true. Conditions: the list reads as integers, its length is at most its capacity; the book's facts read as facts.
-/
import Derived.Test.YtemhiifgplaldaaGreatMAW
namespace Go.Proofs.YtemhiifgplaldaaGreat
open Go.RowKit
set_option linter.unusedVariables false

set_option maxRecDepth 100000 in
set_option maxHeartbeats 8000000 in
theorem bookGrants_any (A : Option Addr) (n c : Nat) (xs : List Int) (q0 : Qt) (B0 : Option Addr) (n0 d0 : Nat) (fs0 : List Fct) (id : Int) (wild : Bool) (w : World) (h : Ints w A n xs) (hnc : n ≤ c) (hcm : c ≤ 9223372036854775807) (h0 : Recs encF 5 w B0 n0 fs0) :
    Calls Tryz.prog 3 #[.slice A n c, .agg #[.int .i64 q0.id, .int .i64 q0.vol, .int .i64 q0.fr, .int .i64 q0.tod, .slice B0 n0 d0], .int .i64 id, .bool wild] w (BRes w true) := by
  have HAW := Lib.hid awake22_any
  obtain ⟨W0, hW0⟩ : ∃ W, W = w.alloc (.cells #[.int .i64 q0.id, .int .i64 q0.vol, .int .i64 q0.fr, .int .i64 q0.tod, .slice B0 n0 d0] 27) := ⟨_, rfl⟩
  have hb0 : RowKit.Below w.heap.size w W0 := by rw [hW0]; exact (Below.refl _ _).alloc (Nat.le_refl _) _
  have hx0 : Bl W0 w.heap.size 27 #[.int .i64 q0.id, .int .i64 q0.vol, .int .i64 q0.fr, .int .i64 q0.tod, .slice B0 n0 d0] := by rw [hW0]; exact Bl.new w _ _
  have hs0 : W0.heap.size = w.heap.size + 1 := by rw [hW0]; simp
  go_enter Tryz.func3, Tryz.ntmps3
  go_upto_region 1 with (fail)
  rw [← hW0]
  clear hW0
  have p0 := hx0.c0
  have p1 := hx0.c1
  have p2 := hx0.c2
  have p3 := hx0.c3
  have p4 := hx0.c4
  have hx1 := Bl.new W0 27 #[.int .i64 q0.id, .int .i64 q0.vol, .int .i64 q0.fr, .int .i64 q0.tod, .slice B0 n0 d0]
  have hB1 := hb0.alloc hb0.size (.cells #[.int .i64 q0.id, .int .i64 q0.vol, .int .i64 q0.fr, .int .i64 q0.tod, .slice B0 n0 d0] 27)
  rw [hs0] at hx1
  go_upto_region 2 with (fail)
  generalize W0.alloc (.cells #[.int .i64 q0.id, .int .i64 q0.vol, .int .i64 q0.fr, .int .i64 q0.tod, .slice B0 n0 d0] 27) = W1 at *
  clear p0 p1 p2 p3 p4 hx0 hb0 hs0
  have HQF := Lib.hid (quotaFacts_any A n c xs W1 (h.below hB1) hnc hcm)
  have h01 := h0.below hB1
  clear h hnc hcm h0
  cases wild with
  | true =>
    obtain ⟨W2, hW2⟩ : ∃ W, W = W1 := ⟨_, rfl⟩
    rw [← hW2] at hx1 h01 hB1 ⊢
    clear hW2
    have y0 := hx1.c0
    have y1 := hx1.c1
    have y2 := hx1.c2
    have y3 := hx1.c3
    have y4 := hx1.c4
    by_cases hbig : 260 < n0
    · have db : decide ((n0 : Int) > 260) = true := by simpa using (by omega : (260 : Int) < n0)
      go_wp2_with fail
      refine (HAW.out _).mono ?_
      rintro e w9 ⟨rfl, hb9⟩
      go_wp2
      go_ret
      exact ⟨rfl, hB1.trans (hb9.mono hB1.size)⟩
    · have db : decide ((n0 : Int) > 260) = false := by simp; omega
      obtain ⟨e0, e1, e2, e3, e4, is, gs, bal, HA1, HA2⟩ := book_both q0 B0 n0 d0 fs0 id W2 h01 (by omega)
      have HA1 := Lib.hid HA1
      have HA2 := Lib.hid HA2
      go_wp2_with fail
      refine (HA1.out.x _ (Below.refl _ _)).mono ?_
      rintro e w3 ⟨rfl, hb3, _⟩
      have hy3 := (hx1.keep hb3.out).alloc (.cells #[.int .i64 e0, .int .i64 e1, .int .i64 e2, .int .i64 e3, .int .i64 e4] 34)
      have hxa3 := Bl.new w3 34 #[.int .i64 e0, .int .i64 e1, .int .i64 e2, .int .i64 e3, .int .i64 e4]
      have hb3' : RowKit.Below W2.heap.size W2 (w3.alloc (.cells #[.int .i64 e0, .int .i64 e1, .int .i64 e2, .int .i64 e3, .int .i64 e4] 34)) := hb3.out.alloc hb3.out.size _
      clear y0 y1 y2 y3 y4
      go_upto_region 7 with (fail)
      generalize w3.alloc (.cells #[.int .i64 e0, .int .i64 e1, .int .i64 e2, .int .i64 e3, .int .i64 e4] 34) = W3 at *
      generalize w3.heap.size = gx at *
      clear hb3
      have y0 : W3.cell? ⟨w.heap.size + 1, 0, none⟩ = some (.int .i64 q0.id) := hy3.c0
      have y1 : W3.cell? ⟨w.heap.size + 1, 1, none⟩ = some (.int .i64 q0.vol) := hy3.c1
      have y2 : W3.cell? ⟨w.heap.size + 1, 2, none⟩ = some (.int .i64 q0.fr) := hy3.c2
      have y3 : W3.cell? ⟨w.heap.size + 1, 3, none⟩ = some (.int .i64 q0.tod) := hy3.c3
      have y4 : W3.cell? ⟨w.heap.size + 1, 4, none⟩ = some (.slice B0 n0 d0) := hy3.c4
      go_wp2_with fail
      refine (HA2.out.x _ hb3').mono ?_
      rintro e w4 ⟨rfl, hb4, hbx4⟩
      have hy4 := (hy3.keep hbx4.out).alloc (.cells #[.int .i64 e0, .int .i64 e1, .int .i64 e2, .int .i64 e3, .int .i64 e4] 34)
      have hxa4 := (hxa3.keep hbx4.out).alloc (.cells #[.int .i64 e0, .int .i64 e1, .int .i64 e2, .int .i64 e3, .int .i64 e4] 34)
      have hxb4 := Bl.new w4 34 #[.int .i64 e0, .int .i64 e1, .int .i64 e2, .int .i64 e3, .int .i64 e4]
      have hb4' : RowKit.Below W2.heap.size W2 (w4.alloc (.cells #[.int .i64 e0, .int .i64 e1, .int .i64 e2, .int .i64 e3, .int .i64 e4] 34)) := hb4.out.alloc hb4.out.size _
      clear y0 y1 y2 y3 y4 hy3 hxa3
      go_upto_region 8 with (fail)
      generalize w4.alloc (.cells #[.int .i64 e0, .int .i64 e1, .int .i64 e2, .int .i64 e3, .int .i64 e4] 34) = W4 at *
      generalize w4.heap.size = gy at *
      clear hb4 hbx4
      have y0 : W4.cell? ⟨w.heap.size + 1, 0, none⟩ = some (.int .i64 q0.id) := hy4.c0
      have y1 : W4.cell? ⟨w.heap.size + 1, 1, none⟩ = some (.int .i64 q0.vol) := hy4.c1
      have y2 : W4.cell? ⟨w.heap.size + 1, 2, none⟩ = some (.int .i64 q0.fr) := hy4.c2
      have y3 : W4.cell? ⟨w.heap.size + 1, 3, none⟩ = some (.int .i64 q0.tod) := hy4.c3
      have y4 : W4.cell? ⟨w.heap.size + 1, 4, none⟩ = some (.slice B0 n0 d0) := hy4.c4
      have k0 : W4.cell? ⟨gx, 0, none⟩ = some (.int .i64 e0) := hxa4.c0
      have k1 : W4.cell? ⟨gx, 1, none⟩ = some (.int .i64 e1) := hxa4.c1
      have k2 : W4.cell? ⟨gx, 2, none⟩ = some (.int .i64 e2) := hxa4.c2
      have k3 : W4.cell? ⟨gx, 3, none⟩ = some (.int .i64 e3) := hxa4.c3
      have k4 : W4.cell? ⟨gx, 4, none⟩ = some (.int .i64 e4) := hxa4.c4
      have j0 : W4.cell? ⟨gy, 0, none⟩ = some (.int .i64 e0) := hxb4.c0
      have j1 : W4.cell? ⟨gy, 1, none⟩ = some (.int .i64 e1) := hxb4.c1
      have j2 : W4.cell? ⟨gy, 2, none⟩ = some (.int .i64 e2) := hxb4.c2
      have j3 : W4.cell? ⟨gy, 3, none⟩ = some (.int .i64 e3) := hxb4.c3
      have j4 : W4.cell? ⟨gy, 4, none⟩ = some (.int .i64 e4) := hxb4.c4
      have HY := Lib.hid hy4
      have HXA := Lib.hid hxa4
      have HXB := Lib.hid hxb4
      have HBW := Lib.hid (hB1.trans (hb4'.mono hB1.size))
      have HB0 : Hid (RowKit.Below W4.heap.size W4 W4.drew) := (Below.refl _ _).drew
      have HGA : Hid (∀ wx, RowKit.Below W4.heap.size W4 wx → Calls Tryz.prog 11 #[.agg #[.int .i64 q0.id, .int .i64 q0.vol, .int .i64 q0.fr, .int .i64 q0.tod, .slice B0 n0 d0]] wx fun e w' => ∃ (C : Option Addr) (mm dd : Nat), e = .returned (.slice C mm dd) ∧ mm ≤ 200 ∧ Hid (Recs enc2 2 w' C mm gs) ∧ Hid (RowKit.Below W4.heap.size W4 w')) := fun wx hbx => (HA1.out.g wx (hb4'.trans (hbx.mono hb4'.size))).mono fun e w' ⟨C, mm, dd, a1, a2, a3, a4, a5⟩ => ⟨C, mm, dd, a1, a2, a3, hbx.trans (a5.out.mono hbx.size)⟩
      have HGB : Hid (∀ wx, RowKit.Below W4.heap.size W4 wx → Calls Tryz.prog 12 #[.agg #[.int .i64 q0.id, .int .i64 q0.vol, .int .i64 q0.fr, .int .i64 q0.tod, .slice B0 n0 d0]] wx fun e w' => ∃ (C : Option Addr) (mm dd : Nat), e = .returned (.slice C mm dd) ∧ mm ≤ 200 ∧ Hid (Recs enc2 2 w' C mm gs) ∧ Hid (RowKit.Below W4.heap.size W4 w') ∧ Hid (RowKit.Below wx.heap.size wx w')) := fun wx hbx => (HA2.out.g wx (hb4'.trans (hbx.mono hb4'.size))).mono fun e w' ⟨C, mm, dd, a1, a2, a3, a4, a5⟩ => ⟨C, mm, dd, a1, a2, a3, hbx.trans (a5.out.mono hbx.size), a5⟩
      have HSG : Hid (∀ (C1 : Option Addr) (m1 d1 : Nat) (C2 : Option Addr) (m2 d2 : Nat) (w2 w3 : World), Recs enc2 2 w2 C1 m1 gs → m1 ≤ 200 → Recs enc2 2 w3 C2 m2 gs → RowKit.Below w2.heap.size w2 w3 → RowKit.Below W4.heap.size W4 w3 → Calls Tryz.prog 10 #[.slice C1 m1 d1, .slice C2 m2 d2] w3 fun e w' => e = .returned (.bool true) ∧ Hid (RowKit.Below W4.heap.size W4 w')) := fun C1 m1 d1 C2 m2 d2 w2 w3 r1 hm r2 hb hbW => by
        obtain rfl : m1 = m2 := r1.1.symm.trans r2.1
        exact (sameGrants_true C1 C2 m1 d1 d2 _ w3 (r1.below hb) r2 (by omega)).mono fun e w' ⟨h1, h2⟩ => ⟨h1, hbW.trans (h2.mono hbW.size)⟩
      have HBA : Hid (∀ wx, RowKit.Below W4.heap.size W4 wx → Calls Tryz.prog 13 #[.agg #[.int .i64 q0.id, .int .i64 q0.vol, .int .i64 q0.fr, .int .i64 q0.tod, .slice B0 n0 d0]] wx fun e w' => e = .returned (.int .i64 bal) ∧ Hid (RowKit.Below W4.heap.size W4 w')) := fun wx hbx => (HA1.out.b wx (hb4'.trans (hbx.mono hb4'.size))).mono fun e w' ⟨a1, a2, a3⟩ => ⟨a1, hbx.trans (a3.out.mono hbx.size)⟩
      have HBB : Hid (∀ wx, RowKit.Below W4.heap.size W4 wx → Calls Tryz.prog 14 #[.agg #[.int .i64 q0.id, .int .i64 q0.vol, .int .i64 q0.fr, .int .i64 q0.tod, .slice B0 n0 d0]] wx fun e w' => e = .returned (.int .i64 bal) ∧ Hid (RowKit.Below W4.heap.size W4 w')) := fun wx hbx => (HA2.out.b wx (hb4'.trans (hbx.mono hb4'.size))).mono fun e w' ⟨a1, a2, a3⟩ => ⟨a1, hbx.trans (a3.out.mono hbx.size)⟩
      have HAW2 : Hid (∀ wx, RowKit.Below W4.heap.size W4 wx → Calls Tryz.prog 7 #[] wx fun e w' => e = .returned (.bool true) ∧ Hid (RowKit.Below W4.heap.size W4 w')) := fun wx hb => (HAW.out wx).mono fun e w' ⟨h1, h2⟩ => ⟨h1, hb.trans (h2.mono hb.size)⟩
      have bb1 : (bal == bal) = true := by simp
      have bb2 : (is == is) = true := by simp
      clear hy4 hxa4 hxb4 HA1 HA2
      go_region_held3 (fun w' => w'.cell? ⟨w.heap.size + 1, 0, none⟩ = some (.int .i64 q0.id) ∧ w'.cell? ⟨w.heap.size + 1, 1, none⟩ = some (.int .i64 q0.vol) ∧ w'.cell? ⟨w.heap.size + 1, 2, none⟩ = some (.int .i64 q0.fr) ∧ w'.cell? ⟨w.heap.size + 1, 3, none⟩ = some (.int .i64 q0.tod) ∧ w'.cell? ⟨w.heap.size + 1, 4, none⟩ = some (.slice B0 n0 d0) ∧ w'.cell? ⟨gx, 0, none⟩ = some (.int .i64 e0) ∧ w'.cell? ⟨gx, 1, none⟩ = some (.int .i64 e1) ∧ w'.cell? ⟨gx, 2, none⟩ = some (.int .i64 e2) ∧ w'.cell? ⟨gx, 3, none⟩ = some (.int .i64 e3) ∧ w'.cell? ⟨gx, 4, none⟩ = some (.int .i64 e4) ∧ w'.cell? ⟨gy, 0, none⟩ = some (.int .i64 e0) ∧ w'.cell? ⟨gy, 1, none⟩ = some (.int .i64 e1) ∧ w'.cell? ⟨gy, 2, none⟩ = some (.int .i64 e2) ∧ w'.cell? ⟨gy, 3, none⟩ = some (.int .i64 e3) ∧ w'.cell? ⟨gy, 4, none⟩ = some (.int .i64 e4))
        (first
          | with_reducible exact ⟨(HY.out.keep hv6.out).c0, (HY.out.keep hv6.out).c1, (HY.out.keep hv6.out).c2, (HY.out.keep hv6.out).c3, (HY.out.keep hv6.out).c4, (HXA.out.keep hv6.out).c0, (HXA.out.keep hv6.out).c1, (HXA.out.keep hv6.out).c2, (HXA.out.keep hv6.out).c3, (HXA.out.keep hv6.out).c4, (HXB.out.keep hv6.out).c0, (HXB.out.keep hv6.out).c1, (HXB.out.keep hv6.out).c2, (HXB.out.keep hv6.out).c3, (HXB.out.keep hv6.out).c4⟩
          | with_reducible exact ⟨(HY.out.keep hv5.out).c0, (HY.out.keep hv5.out).c1, (HY.out.keep hv5.out).c2, (HY.out.keep hv5.out).c3, (HY.out.keep hv5.out).c4, (HXA.out.keep hv5.out).c0, (HXA.out.keep hv5.out).c1, (HXA.out.keep hv5.out).c2, (HXA.out.keep hv5.out).c3, (HXA.out.keep hv5.out).c4, (HXB.out.keep hv5.out).c0, (HXB.out.keep hv5.out).c1, (HXB.out.keep hv5.out).c2, (HXB.out.keep hv5.out).c3, (HXB.out.keep hv5.out).c4⟩
          | with_reducible exact ⟨(HY.out.keep hv4.out).c0, (HY.out.keep hv4.out).c1, (HY.out.keep hv4.out).c2, (HY.out.keep hv4.out).c3, (HY.out.keep hv4.out).c4, (HXA.out.keep hv4.out).c0, (HXA.out.keep hv4.out).c1, (HXA.out.keep hv4.out).c2, (HXA.out.keep hv4.out).c3, (HXA.out.keep hv4.out).c4, (HXB.out.keep hv4.out).c0, (HXB.out.keep hv4.out).c1, (HXB.out.keep hv4.out).c2, (HXB.out.keep hv4.out).c3, (HXB.out.keep hv4.out).c4⟩
          | with_reducible exact ⟨(HY.out.keep hv3.out).c0, (HY.out.keep hv3.out).c1, (HY.out.keep hv3.out).c2, (HY.out.keep hv3.out).c3, (HY.out.keep hv3.out).c4, (HXA.out.keep hv3.out).c0, (HXA.out.keep hv3.out).c1, (HXA.out.keep hv3.out).c2, (HXA.out.keep hv3.out).c3, (HXA.out.keep hv3.out).c4, (HXB.out.keep hv3.out).c0, (HXB.out.keep hv3.out).c1, (HXB.out.keep hv3.out).c2, (HXB.out.keep hv3.out).c3, (HXB.out.keep hv3.out).c4⟩
          | with_reducible exact ⟨(HY.out.keep hv2.out).c0, (HY.out.keep hv2.out).c1, (HY.out.keep hv2.out).c2, (HY.out.keep hv2.out).c3, (HY.out.keep hv2.out).c4, (HXA.out.keep hv2.out).c0, (HXA.out.keep hv2.out).c1, (HXA.out.keep hv2.out).c2, (HXA.out.keep hv2.out).c3, (HXA.out.keep hv2.out).c4, (HXB.out.keep hv2.out).c0, (HXB.out.keep hv2.out).c1, (HXB.out.keep hv2.out).c2, (HXB.out.keep hv2.out).c3, (HXB.out.keep hv2.out).c4⟩
          | with_reducible exact ⟨(HY.out.keep hv1.out).c0, (HY.out.keep hv1.out).c1, (HY.out.keep hv1.out).c2, (HY.out.keep hv1.out).c3, (HY.out.keep hv1.out).c4, (HXA.out.keep hv1.out).c0, (HXA.out.keep hv1.out).c1, (HXA.out.keep hv1.out).c2, (HXA.out.keep hv1.out).c3, (HXA.out.keep hv1.out).c4, (HXB.out.keep hv1.out).c0, (HXB.out.keep hv1.out).c1, (HXB.out.keep hv1.out).c2, (HXB.out.keep hv1.out).c3, (HXB.out.keep hv1.out).c4⟩
          | go_keep)
        (first
          | (go_at_call 11; with_reducible (refine (HGA.out _ HB0.out).mono ?_); rintro e v1 ⟨C1, m1, d1, rfl, hm1, hr1, hv1⟩)
          | (go_at_call 12; with_reducible (refine (HGB.out _ hv1.out).mono ?_); rintro e v2 ⟨C2, m2, d2, rfl, hm2, hr2, hv2, hvv2⟩)
          | (go_at_call 10; with_reducible (refine (HSG.out _ _ _ _ _ _ _ _ hr1.out hm1 hr2.out hvv2.out hv2.out).mono ?_); rintro e v3 ⟨rfl, hv3⟩)
          | (go_at_call 13; with_reducible (refine (HBA.out _ hv3.out).mono ?_); rintro e v4 ⟨rfl, hv4⟩)
          | (go_at_call 14; with_reducible (refine (HBB.out _ hv4.out).mono ?_); rintro e v5 ⟨rfl, hv5⟩)
          | (go_at_call 7; with_reducible (refine (HAW2.out _ hv5.out).mono ?_); rintro e v6 ⟨rfl, hv6⟩))
      go_wp2
      go_ret
      exact ⟨rfl, HBW.out.trans (hv6.out.mono HBW.out.size)⟩
  | false =>
    have y0 := hx1.c0
    have y1 := hx1.c1
    have y2 := hx1.c2
    have y3 := hx1.c3
    have y4 := hx1.c4
    go_wp2_with fail
    refine HQF.out.mono ?_
    rintro e w2 ⟨q, l, BL, nl, dl, rfl, hqf, hll, hol, hb2⟩
    clear y0 y1 y2 y3 y4
    have HKN := Lib.hid (known_any q BL nl dl l w2 (Recs.of_own encF_len hol hll) hqf)
    have hnl : nl ≤ 24 := by have := hqf.len; omega
    go_wp2_with fail
    refine HKN.out.mono ?_
    rintro e w3 ⟨B, dd, fs, rfl, hbo, hpm, how, hb3⟩
    have hW3 : RowKit.Below W1.heap.size W1 w3 := hb2.trans (hb3.mono hb2.size)
    have hx3 := hx1.keep hW3
    have HR3 := Lib.hid (Recs.of_own encF_len how (by rw [hpm.length_eq]; exact hll))
    have HX3 := Lib.hid hx3
    have HB3 := Lib.hid (hB1.trans (hW3.mono hB1.size))
    have HO3 := Lib.hid how
    clear HKN HQF hbo hpm how hqf hll hol hb2 hb3 hW3 hx1 hB1 h01
    have s0 := hx3.c0
    have s1 := hx3.c1
    have s2 := hx3.c2
    have s3 := hx3.c3
    have s4 := hx3.c4
    have sf0 := hx3.free 0
    have sf1 := hx3.free 1
    have sf2 := hx3.free 2
    have sf3 := hx3.free 3
    have sf4 := hx3.free 4
    clear hx3
    go_wp2_with fail
    refine (within_any id 10 _ (by omega) (by omega)).mono ?_
    rintro e w4 ⟨rfl, rfl⟩
    go_upto_region 4 with (fail)
    have hx9 := set5_bl HX3.out (.int .i64 q.id) (.int .i64 q.vol) (.int .i64 q.fr) (.int .i64 q.tod) (.slice B nl dd)
    have hr9 := Recs.of_own encF_len (own5 HO3.out (own_apart_eq HO3.out HX3.out (by decide)) (.int .i64 q.id) (.int .i64 q.vol) (.int .i64 q.fr) (.int .i64 q.tod) (.slice B nl dd)) HR3.out.1
    have hB9 := put5 HB3.out (Nat.le_succ _) (.int .i64 q.id) (.int .i64 q.vol) (.int .i64 q.fr) (.int .i64 q.tod) (.slice B nl dd)
    clear s0 s1 s2 s3 s4 sf0 sf1 sf2 sf3 sf4 HX3 HR3 HB3 HO3
    obtain ⟨W2, hW2⟩ : ∃ W, W = (((((w3.setCell ⟨w.heap.size + 1, 0, none⟩ (.int .i64 q.id)).setCell ⟨w.heap.size + 1, 1, none⟩ (.int .i64 q.vol)).setCell ⟨w.heap.size + 1, 2, none⟩ (.int .i64 q.fr)).setCell ⟨w.heap.size + 1, 3, none⟩ (.int .i64 q.tod)).setCell ⟨w.heap.size + 1, 4, none⟩ (.slice B nl dd)) := ⟨_, rfl⟩
    rw [← hW2] at hx9 hr9 hB9 ⊢
    clear hW2
    have y0 := hx9.c0
    have y1 := hx9.c1
    have y2 := hx9.c2
    have y3 := hx9.c3
    have y4 := hx9.c4
    by_cases hbig : 260 < nl
    · omega
    · have db : decide ((nl : Int) > 260) = false := by simp; omega
      obtain ⟨e0, e1, e2, e3, e4, is, gs, bal, HA1, HA2⟩ := book_both q B nl dd fs (id % 10) W2 hr9 (by omega)
      have HA1 := Lib.hid HA1
      have HA2 := Lib.hid HA2
      go_wp2_with fail
      refine (HA1.out.x _ (Below.refl _ _)).mono ?_
      rintro e w3 ⟨rfl, hb3, _⟩
      have hy3 := (hx9.keep hb3.out).alloc (.cells #[.int .i64 e0, .int .i64 e1, .int .i64 e2, .int .i64 e3, .int .i64 e4] 34)
      have hxa3 := Bl.new w3 34 #[.int .i64 e0, .int .i64 e1, .int .i64 e2, .int .i64 e3, .int .i64 e4]
      have hb3' : RowKit.Below W2.heap.size W2 (w3.alloc (.cells #[.int .i64 e0, .int .i64 e1, .int .i64 e2, .int .i64 e3, .int .i64 e4] 34)) := hb3.out.alloc hb3.out.size _
      clear y0 y1 y2 y3 y4
      go_upto_region 7 with (fail)
      generalize w3.alloc (.cells #[.int .i64 e0, .int .i64 e1, .int .i64 e2, .int .i64 e3, .int .i64 e4] 34) = W3 at *
      generalize w3.heap.size = gx at *
      clear hb3
      have y0 : W3.cell? ⟨w.heap.size + 1, 0, none⟩ = some (.int .i64 q.id) := hy3.c0
      have y1 : W3.cell? ⟨w.heap.size + 1, 1, none⟩ = some (.int .i64 q.vol) := hy3.c1
      have y2 : W3.cell? ⟨w.heap.size + 1, 2, none⟩ = some (.int .i64 q.fr) := hy3.c2
      have y3 : W3.cell? ⟨w.heap.size + 1, 3, none⟩ = some (.int .i64 q.tod) := hy3.c3
      have y4 : W3.cell? ⟨w.heap.size + 1, 4, none⟩ = some (.slice B nl dd) := hy3.c4
      go_wp2_with fail
      refine (HA2.out.x _ hb3').mono ?_
      rintro e w4 ⟨rfl, hb4, hbx4⟩
      have hy4 := (hy3.keep hbx4.out).alloc (.cells #[.int .i64 e0, .int .i64 e1, .int .i64 e2, .int .i64 e3, .int .i64 e4] 34)
      have hxa4 := (hxa3.keep hbx4.out).alloc (.cells #[.int .i64 e0, .int .i64 e1, .int .i64 e2, .int .i64 e3, .int .i64 e4] 34)
      have hxb4 := Bl.new w4 34 #[.int .i64 e0, .int .i64 e1, .int .i64 e2, .int .i64 e3, .int .i64 e4]
      have hb4' : RowKit.Below W2.heap.size W2 (w4.alloc (.cells #[.int .i64 e0, .int .i64 e1, .int .i64 e2, .int .i64 e3, .int .i64 e4] 34)) := hb4.out.alloc hb4.out.size _
      clear y0 y1 y2 y3 y4 hy3 hxa3
      go_upto_region 8 with (fail)
      generalize w4.alloc (.cells #[.int .i64 e0, .int .i64 e1, .int .i64 e2, .int .i64 e3, .int .i64 e4] 34) = W4 at *
      generalize w4.heap.size = gy at *
      clear hb4 hbx4
      have y0 : W4.cell? ⟨w.heap.size + 1, 0, none⟩ = some (.int .i64 q.id) := hy4.c0
      have y1 : W4.cell? ⟨w.heap.size + 1, 1, none⟩ = some (.int .i64 q.vol) := hy4.c1
      have y2 : W4.cell? ⟨w.heap.size + 1, 2, none⟩ = some (.int .i64 q.fr) := hy4.c2
      have y3 : W4.cell? ⟨w.heap.size + 1, 3, none⟩ = some (.int .i64 q.tod) := hy4.c3
      have y4 : W4.cell? ⟨w.heap.size + 1, 4, none⟩ = some (.slice B nl dd) := hy4.c4
      have k0 : W4.cell? ⟨gx, 0, none⟩ = some (.int .i64 e0) := hxa4.c0
      have k1 : W4.cell? ⟨gx, 1, none⟩ = some (.int .i64 e1) := hxa4.c1
      have k2 : W4.cell? ⟨gx, 2, none⟩ = some (.int .i64 e2) := hxa4.c2
      have k3 : W4.cell? ⟨gx, 3, none⟩ = some (.int .i64 e3) := hxa4.c3
      have k4 : W4.cell? ⟨gx, 4, none⟩ = some (.int .i64 e4) := hxa4.c4
      have j0 : W4.cell? ⟨gy, 0, none⟩ = some (.int .i64 e0) := hxb4.c0
      have j1 : W4.cell? ⟨gy, 1, none⟩ = some (.int .i64 e1) := hxb4.c1
      have j2 : W4.cell? ⟨gy, 2, none⟩ = some (.int .i64 e2) := hxb4.c2
      have j3 : W4.cell? ⟨gy, 3, none⟩ = some (.int .i64 e3) := hxb4.c3
      have j4 : W4.cell? ⟨gy, 4, none⟩ = some (.int .i64 e4) := hxb4.c4
      have HY := Lib.hid hy4
      have HXA := Lib.hid hxa4
      have HXB := Lib.hid hxb4
      have HBW := Lib.hid (hB9.trans (hb4'.mono hB9.size))
      have HB0 : Hid (RowKit.Below W4.heap.size W4 W4.drew) := (Below.refl _ _).drew
      have HGA : Hid (∀ wx, RowKit.Below W4.heap.size W4 wx → Calls Tryz.prog 11 #[.agg #[.int .i64 q.id, .int .i64 q.vol, .int .i64 q.fr, .int .i64 q.tod, .slice B nl dd]] wx fun e w' => ∃ (C : Option Addr) (mm dd : Nat), e = .returned (.slice C mm dd) ∧ mm ≤ 200 ∧ Hid (Recs enc2 2 w' C mm gs) ∧ Hid (RowKit.Below W4.heap.size W4 w')) := fun wx hbx => (HA1.out.g wx (hb4'.trans (hbx.mono hb4'.size))).mono fun e w' ⟨C, mm, dd, a1, a2, a3, a4, a5⟩ => ⟨C, mm, dd, a1, a2, a3, hbx.trans (a5.out.mono hbx.size)⟩
      have HGB : Hid (∀ wx, RowKit.Below W4.heap.size W4 wx → Calls Tryz.prog 12 #[.agg #[.int .i64 q.id, .int .i64 q.vol, .int .i64 q.fr, .int .i64 q.tod, .slice B nl dd]] wx fun e w' => ∃ (C : Option Addr) (mm dd : Nat), e = .returned (.slice C mm dd) ∧ mm ≤ 200 ∧ Hid (Recs enc2 2 w' C mm gs) ∧ Hid (RowKit.Below W4.heap.size W4 w') ∧ Hid (RowKit.Below wx.heap.size wx w')) := fun wx hbx => (HA2.out.g wx (hb4'.trans (hbx.mono hb4'.size))).mono fun e w' ⟨C, mm, dd, a1, a2, a3, a4, a5⟩ => ⟨C, mm, dd, a1, a2, a3, hbx.trans (a5.out.mono hbx.size), a5⟩
      have HSG : Hid (∀ (C1 : Option Addr) (m1 d1 : Nat) (C2 : Option Addr) (m2 d2 : Nat) (w2 w3 : World), Recs enc2 2 w2 C1 m1 gs → m1 ≤ 200 → Recs enc2 2 w3 C2 m2 gs → RowKit.Below w2.heap.size w2 w3 → RowKit.Below W4.heap.size W4 w3 → Calls Tryz.prog 10 #[.slice C1 m1 d1, .slice C2 m2 d2] w3 fun e w' => e = .returned (.bool true) ∧ Hid (RowKit.Below W4.heap.size W4 w')) := fun C1 m1 d1 C2 m2 d2 w2 w3 r1 hm r2 hb hbW => by
        obtain rfl : m1 = m2 := r1.1.symm.trans r2.1
        exact (sameGrants_true C1 C2 m1 d1 d2 _ w3 (r1.below hb) r2 (by omega)).mono fun e w' ⟨h1, h2⟩ => ⟨h1, hbW.trans (h2.mono hbW.size)⟩
      have HBA : Hid (∀ wx, RowKit.Below W4.heap.size W4 wx → Calls Tryz.prog 13 #[.agg #[.int .i64 q.id, .int .i64 q.vol, .int .i64 q.fr, .int .i64 q.tod, .slice B nl dd]] wx fun e w' => e = .returned (.int .i64 bal) ∧ Hid (RowKit.Below W4.heap.size W4 w')) := fun wx hbx => (HA1.out.b wx (hb4'.trans (hbx.mono hb4'.size))).mono fun e w' ⟨a1, a2, a3⟩ => ⟨a1, hbx.trans (a3.out.mono hbx.size)⟩
      have HBB : Hid (∀ wx, RowKit.Below W4.heap.size W4 wx → Calls Tryz.prog 14 #[.agg #[.int .i64 q.id, .int .i64 q.vol, .int .i64 q.fr, .int .i64 q.tod, .slice B nl dd]] wx fun e w' => e = .returned (.int .i64 bal) ∧ Hid (RowKit.Below W4.heap.size W4 w')) := fun wx hbx => (HA2.out.b wx (hb4'.trans (hbx.mono hb4'.size))).mono fun e w' ⟨a1, a2, a3⟩ => ⟨a1, hbx.trans (a3.out.mono hbx.size)⟩
      have HAW2 : Hid (∀ wx, RowKit.Below W4.heap.size W4 wx → Calls Tryz.prog 7 #[] wx fun e w' => e = .returned (.bool true) ∧ Hid (RowKit.Below W4.heap.size W4 w')) := fun wx hb => (HAW.out wx).mono fun e w' ⟨h1, h2⟩ => ⟨h1, hb.trans (h2.mono hb.size)⟩
      have bb1 : (bal == bal) = true := by simp
      have bb2 : (is == is) = true := by simp
      clear hy4 hxa4 hxb4 HA1 HA2
      go_region_held3 (fun w' => w'.cell? ⟨w.heap.size + 1, 0, none⟩ = some (.int .i64 q.id) ∧ w'.cell? ⟨w.heap.size + 1, 1, none⟩ = some (.int .i64 q.vol) ∧ w'.cell? ⟨w.heap.size + 1, 2, none⟩ = some (.int .i64 q.fr) ∧ w'.cell? ⟨w.heap.size + 1, 3, none⟩ = some (.int .i64 q.tod) ∧ w'.cell? ⟨w.heap.size + 1, 4, none⟩ = some (.slice B nl dd) ∧ w'.cell? ⟨gx, 0, none⟩ = some (.int .i64 e0) ∧ w'.cell? ⟨gx, 1, none⟩ = some (.int .i64 e1) ∧ w'.cell? ⟨gx, 2, none⟩ = some (.int .i64 e2) ∧ w'.cell? ⟨gx, 3, none⟩ = some (.int .i64 e3) ∧ w'.cell? ⟨gx, 4, none⟩ = some (.int .i64 e4) ∧ w'.cell? ⟨gy, 0, none⟩ = some (.int .i64 e0) ∧ w'.cell? ⟨gy, 1, none⟩ = some (.int .i64 e1) ∧ w'.cell? ⟨gy, 2, none⟩ = some (.int .i64 e2) ∧ w'.cell? ⟨gy, 3, none⟩ = some (.int .i64 e3) ∧ w'.cell? ⟨gy, 4, none⟩ = some (.int .i64 e4))
        (first
          | with_reducible exact ⟨(HY.out.keep hv6.out).c0, (HY.out.keep hv6.out).c1, (HY.out.keep hv6.out).c2, (HY.out.keep hv6.out).c3, (HY.out.keep hv6.out).c4, (HXA.out.keep hv6.out).c0, (HXA.out.keep hv6.out).c1, (HXA.out.keep hv6.out).c2, (HXA.out.keep hv6.out).c3, (HXA.out.keep hv6.out).c4, (HXB.out.keep hv6.out).c0, (HXB.out.keep hv6.out).c1, (HXB.out.keep hv6.out).c2, (HXB.out.keep hv6.out).c3, (HXB.out.keep hv6.out).c4⟩
          | with_reducible exact ⟨(HY.out.keep hv5.out).c0, (HY.out.keep hv5.out).c1, (HY.out.keep hv5.out).c2, (HY.out.keep hv5.out).c3, (HY.out.keep hv5.out).c4, (HXA.out.keep hv5.out).c0, (HXA.out.keep hv5.out).c1, (HXA.out.keep hv5.out).c2, (HXA.out.keep hv5.out).c3, (HXA.out.keep hv5.out).c4, (HXB.out.keep hv5.out).c0, (HXB.out.keep hv5.out).c1, (HXB.out.keep hv5.out).c2, (HXB.out.keep hv5.out).c3, (HXB.out.keep hv5.out).c4⟩
          | with_reducible exact ⟨(HY.out.keep hv4.out).c0, (HY.out.keep hv4.out).c1, (HY.out.keep hv4.out).c2, (HY.out.keep hv4.out).c3, (HY.out.keep hv4.out).c4, (HXA.out.keep hv4.out).c0, (HXA.out.keep hv4.out).c1, (HXA.out.keep hv4.out).c2, (HXA.out.keep hv4.out).c3, (HXA.out.keep hv4.out).c4, (HXB.out.keep hv4.out).c0, (HXB.out.keep hv4.out).c1, (HXB.out.keep hv4.out).c2, (HXB.out.keep hv4.out).c3, (HXB.out.keep hv4.out).c4⟩
          | with_reducible exact ⟨(HY.out.keep hv3.out).c0, (HY.out.keep hv3.out).c1, (HY.out.keep hv3.out).c2, (HY.out.keep hv3.out).c3, (HY.out.keep hv3.out).c4, (HXA.out.keep hv3.out).c0, (HXA.out.keep hv3.out).c1, (HXA.out.keep hv3.out).c2, (HXA.out.keep hv3.out).c3, (HXA.out.keep hv3.out).c4, (HXB.out.keep hv3.out).c0, (HXB.out.keep hv3.out).c1, (HXB.out.keep hv3.out).c2, (HXB.out.keep hv3.out).c3, (HXB.out.keep hv3.out).c4⟩
          | with_reducible exact ⟨(HY.out.keep hv2.out).c0, (HY.out.keep hv2.out).c1, (HY.out.keep hv2.out).c2, (HY.out.keep hv2.out).c3, (HY.out.keep hv2.out).c4, (HXA.out.keep hv2.out).c0, (HXA.out.keep hv2.out).c1, (HXA.out.keep hv2.out).c2, (HXA.out.keep hv2.out).c3, (HXA.out.keep hv2.out).c4, (HXB.out.keep hv2.out).c0, (HXB.out.keep hv2.out).c1, (HXB.out.keep hv2.out).c2, (HXB.out.keep hv2.out).c3, (HXB.out.keep hv2.out).c4⟩
          | with_reducible exact ⟨(HY.out.keep hv1.out).c0, (HY.out.keep hv1.out).c1, (HY.out.keep hv1.out).c2, (HY.out.keep hv1.out).c3, (HY.out.keep hv1.out).c4, (HXA.out.keep hv1.out).c0, (HXA.out.keep hv1.out).c1, (HXA.out.keep hv1.out).c2, (HXA.out.keep hv1.out).c3, (HXA.out.keep hv1.out).c4, (HXB.out.keep hv1.out).c0, (HXB.out.keep hv1.out).c1, (HXB.out.keep hv1.out).c2, (HXB.out.keep hv1.out).c3, (HXB.out.keep hv1.out).c4⟩
          | go_keep)
        (first
          | (go_at_call 11; with_reducible (refine (HGA.out _ HB0.out).mono ?_); rintro e v1 ⟨C1, m1, d1, rfl, hm1, hr1, hv1⟩)
          | (go_at_call 12; with_reducible (refine (HGB.out _ hv1.out).mono ?_); rintro e v2 ⟨C2, m2, d2, rfl, hm2, hr2, hv2, hvv2⟩)
          | (go_at_call 10; with_reducible (refine (HSG.out _ _ _ _ _ _ _ _ hr1.out hm1 hr2.out hvv2.out hv2.out).mono ?_); rintro e v3 ⟨rfl, hv3⟩)
          | (go_at_call 13; with_reducible (refine (HBA.out _ hv3.out).mono ?_); rintro e v4 ⟨rfl, hv4⟩)
          | (go_at_call 14; with_reducible (refine (HBB.out _ hv4.out).mono ?_); rintro e v5 ⟨rfl, hv5⟩)
          | (go_at_call 7; with_reducible (refine (HAW2.out _ hv5.out).mono ?_); rintro e v6 ⟨rfl, hv6⟩))
      go_wp2
      go_ret
      exact ⟨rfl, HBW.out.trans (hv6.out.mono HBW.out.size)⟩
end Go.Proofs.YtemhiifgplaldaaGreat

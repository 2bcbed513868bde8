/-
  The law CentralNew, if awake returns true. No statement of the seat is proved here. Conditions: the lists read as quotas, guarantees and integers.
-/
import Derived.Test.YtdbcbbiplkikcaaGreatMAV
import Derived.Test.YtdbcbbiplkikcaaGreatMAE
namespace Go.Proofs.YtdbcbbiplkikcaaGreat
open Go.RowKit
set_option linter.unusedVariables false

theorem infoQ37 : (Tryz.prog.info? 27).map (fun i => (i.zero, i.size, i.bytes)) = some (some (.agg #[.int .i64 0, .int .i64 0, .int .i64 0, .int .i64 0]), 4, 32) := by kernel_rfl
theorem own0Q37 (w : World) (b : Nat) : w.ownsRow b 27 4 (.slice none 0 0) 0 (flat encQ []) := ⟨by simp [flat], .inl ⟨rfl, rfl⟩⟩
theorem tmod7 (z : Int) : -7 < z.tmod 7 ∧ z.tmod 7 < 7 := tmod_bounds z 7 (by omega)
theorem newErr_len {qs : List Qt} {gs : List Gb} (h : newErr qs gs = 0) : qs.length ≤ 16 ∧ gs.length ≤ 16 := by
  unfold newErr at h
  split at h
  · cases h
  · omega
theorem own_lit37 {w : World} {g base : Nat} {t : TypeId} {size n : Nat} {xs : List Value} (h : Bl w g t xs.toArray) (hb : base ≤ g) (hl : xs.length = n * size) (hn : n ≤ 1000) : w.ownsRow base t size (.slice (some ⟨g, 0, none⟩) n n) n xs :=
  ⟨hl, .inr ⟨g, n, xs.toArray, rfl, hb, h, Nat.le_refl _, by unfold maxLen; omega, by simpa using hl, by simp [← hl]⟩⟩
theorem heads_same {w : World} {gs : List Gb} (hu : ∀ g ∈ gs, Recs enc2 2 w g.A g.n g.us) (h0 : ∀ g ∈ gs, g.us = []) : ∀ j, j < gs.length → (gs.map gr0)[j]!.h = gs[j]!.h ∧ (gs.map gr0)[j]!.n = 0 ∧ gs[j]!.n = 0 := by
  intro j hj
  have hm : gs[j] ∈ gs := List.getElem_mem hj
  have h1 := (hu _ hm).1
  rw [h0 _ hm] at h1
  rw [getElem!_pos _ j (by simpa using hj), List.getElem_map, getElem!_pos gs j hj]
  exact ⟨rfl, rfl, h1.symm⟩

set_option maxRecDepth 100000 in
set_option maxHeartbeats 8000000 in
theorem centralNew_of (haw : ∀ w, Calls Tryz.prog 9 #[] w (BRes w true)) (A : Option Addr) (n c : Nat) (B : Option Addr) (m d : Nat) (I : Option Addr) (ni ci : Nat) (wild : Bool) (qs : List Qt) (gs : List Gb) (ids : List Int) (w : World)
    (h : Recs encQ 4 w A n qs) (hg : Recs encGu 4 w B m gs) (hu : ∀ g ∈ gs, Recs enc2 2 w g.A g.n g.us) (hi : Ints w I ni ids) (hn : n ≤ 9223372036854775807) (hm : m ≤ 9223372036854775807) (hni : ni ≤ 9223372036854775807) :
    Calls Tryz.prog 3 #[.slice A n c, .slice B m d, .slice I ni ci, .bool wild] w (BRes w true) := by
  have HAW := Lib.hid haw
  have HLQ := Lib.hid h.1
  have HLG := Lib.hid hg.1
  have HNEW := Lib.hid (fun A n c B m d qs gs w h hg hu => new37_any A n c B m d qs gs w h hg hu)
  have HREF := Lib.hid (fun A n c B m d qs gs w h hg hu => rnew37_any A n c B m d qs gs w h hg hu)
  have HW := Lib.hid (fun x k w hk hk' => within_any x k w hk hk')
  have HR := Lib.hid h
  have HG := Lib.hid hg
  have HU := Lib.hid hu
  have HI := Lib.hid hi
  clear haw h hg hu hi
  cases wild
  case true =>
    go_enter Tryz.func3, Tryz.ntmps3
    have HC1 := Lib.hid (HNEW.out (A) (n) (c) (B) (m) (d) (qs) (gs) _ HR.out HG.out HU.out)
    have HQ0 := Lib.hid HR.out
    have HG0 := Lib.hid HG.out
    have HU0 := Lib.hid HU.out
    have HB0 := Lib.hid (Below.refl w.heap.size w)
    go_wp2_with fail
    refine HC1.out.mono ?_
    rintro e w1 ⟨H, er, rfl, he, hok, hbad, hb1⟩
    have HE := Lib.hid he
    have HB1 := Lib.hid (HB0.out.trans (hb1.mono HB0.out.size))
    have HQ1 := Lib.hid (HQ0.out.below hb1)
    have HG1 := Lib.hid (HG0.out.below hb1)
    have HU1 : Hid (∀ g ∈ gs, Recs enc2 2 w1 g.A g.n g.us) := fun g hg => (HU0.out g hg).below hb1
    have HNS := Lib.hid hb1.size
    clear he hb1 HQ0 HG0 HU0 HB0 HC1
    by_cases h0 : er = 0
    case pos =>
      subst h0
      obtain ⟨hO, hs, hk, hm'⟩ := hok rfl
      obtain ⟨Hs, ⟨qA, qn, qc⟩, ⟨gA, gn, gc⟩, Hk, Hm⟩ := H
      simp only at hs hk hm'
      subst hs hk hm'
      have hq1 := hO.at_.qs.recs
      have hg1 := hO.at_.gs.recs
      simp only [cenQ] at hq1 hg1
      have HX1 := Lib.hid hq1
      have HY1 := Lib.hid hg1
      clear hO hok hbad hq1 hg1
      have hx := Bl.new w1 37 #[.slice none 0 0, .slice qA qn qc, .slice gA gn gc, .slice none 0 0, .slice none 0 0]
      have HB2 := Lib.hid (HB1.out.alloc HB1.out.size (.cells #[.slice none 0 0, .slice qA qn qc, .slice gA gn gc, .slice none 0 0, .slice none 0 0] 37))
      have HQ2 := Lib.hid (HQ1.out.alloc (.cells #[.slice none 0 0, .slice qA qn qc, .slice gA gn gc, .slice none 0 0, .slice none 0 0] 37))
      have HG2 := Lib.hid (HG1.out.alloc (.cells #[.slice none 0 0, .slice qA qn qc, .slice gA gn gc, .slice none 0 0, .slice none 0 0] 37))
      have HU2 : Hid (∀ g ∈ gs, Recs enc2 2 (w1.alloc (.cells #[.slice none 0 0, .slice qA qn qc, .slice gA gn gc, .slice none 0 0, .slice none 0 0] 37)) g.A g.n g.us) := fun g hg => (HU1.out g hg).alloc _
      have HX2 := Lib.hid (HX1.out.alloc (.cells #[.slice none 0 0, .slice qA qn qc, .slice gA gn gc, .slice none 0 0, .slice none 0 0] 37))
      have HY2 := Lib.hid (HY1.out.alloc (.cells #[.slice none 0 0, .slice qA qn qc, .slice gA gn gc, .slice none 0 0, .slice none 0 0] 37))
      go_upto_region 21 with (fail)
      generalize w1.alloc (.cells #[.slice none 0 0, .slice qA qn qc, .slice gA gn gc, .slice none 0 0, .slice none 0 0] 37) = W2 at *
      generalize w1.heap.size = gx at *
      have HC2 := Lib.hid (HREF.out (A) (n) (c) (B) (m) (d) (qs) (gs) W2 HQ2.out HG2.out HU2.out)
      go_wp2_with fail
      refine HC2.out.mono ?_
      rintro e w3 ⟨H', er', rfl, he', hok', hbad', hb3⟩
      obtain rfl : er' = 0 := he'.trans HE.out.symm
      have HB3 := Lib.hid (HB2.out.trans (hb3.mono HB2.out.size))
      have hx3 := hx.keep hb3
      have HS3 := Lib.hid hb3
      obtain ⟨hs', hk', hm', hq', hg', hz'⟩ := hok' rfl
      obtain ⟨Hs', ⟨qA', qn', qc'⟩, ⟨gA', gn', gc'⟩, Hk', Hm'⟩ := H'
      simp only at hs' hk' hm' hq' hg'
      subst hs' hk' hm'
      obtain rfl : qn' = qn := hq'.1.symm.trans HX2.out.1
      have hgl := HY2.out.1
      rw [List.length_map] at hgl
      obtain rfl : gn' = gn := hg'.1.symm.trans hgl
      have HXX := Lib.hid hq'
      have HYY := Lib.hid hg'
      have HZZ := Lib.hid hz'
      have HX3 := Lib.hid (HX2.out.below hb3)
      have HY3 := Lib.hid (HY2.out.below hb3)
      clear hok' hbad' he' hq' hg' hz' hb3 hx
      have HY4 := Lib.hid (Bl.new w3 37 #[.slice none 0 0, .slice qA' qn' qc', .slice gA' gn' gc', .slice none 0 0, .slice none 0 0])
      have hx4 := hx3.alloc (.cells #[.slice none 0 0, .slice qA' qn' qc', .slice gA' gn' gc', .slice none 0 0, .slice none 0 0] 37)
      have HB4 := Lib.hid (HB3.out.alloc HB3.out.size (.cells #[.slice none 0 0, .slice qA' qn' qc', .slice gA' gn' gc', .slice none 0 0, .slice none 0 0] 37))
      have HSC := Lib.hid (sameCentral37 qA qA' gA gA' qn' gn' qc qc' gc gc' (qs) ((gs).map gr0) (gs) (w3.alloc (.cells #[.slice none 0 0, .slice qA' qn' qc', .slice gA' gn' gc', .slice none 0 0, .slice none 0 0] 37)) (HX3.out.alloc _) (HXX.out.alloc _) (HY3.out.alloc _) (HYY.out.alloc _) (by have h1 := newErr_len HE.out.symm; have h2 := HX3.out.1; rw [List.length_map] at h2; omega) (by have h1 := newErr_len HE.out.symm; have h2 := HYY.out.1; omega) (fun j hj => heads_same HU2.out HZZ.out j (by have := HYY.out.1; omega)))
      go_upto_region 22 with (fail)
      generalize w3.alloc (.cells #[.slice none 0 0, .slice qA' qn' qc', .slice gA' gn' gc', .slice none 0 0, .slice none 0 0] 37) = W4 at *
      generalize w3.heap.size = gy at *
      have x0 : W4.cell? ⟨gx, 0, none⟩ = some (.slice none 0 0) := hx4.c0
      have y0 : W4.cell? ⟨gy, 0, none⟩ = some (.slice none 0 0) := HY4.out.c0
      have x1 : W4.cell? ⟨gx, 1, none⟩ = some (.slice qA qn' qc) := hx4.c1
      have y1 : W4.cell? ⟨gy, 1, none⟩ = some (.slice qA' qn' qc') := HY4.out.c1
      have x2 : W4.cell? ⟨gx, 2, none⟩ = some (.slice gA gn' gc) := hx4.c2
      have y2 : W4.cell? ⟨gy, 2, none⟩ = some (.slice gA' gn' gc') := HY4.out.c2
      have x3 : W4.cell? ⟨gx, 3, none⟩ = some (.slice none 0 0) := hx4.c3
      have y3 : W4.cell? ⟨gy, 3, none⟩ = some (.slice none 0 0) := HY4.out.c3
      have x4 : W4.cell? ⟨gx, 4, none⟩ = some (.slice none 0 0) := hx4.c4
      have y4 : W4.cell? ⟨gy, 4, none⟩ = some (.slice none 0 0) := HY4.out.c4
      go_wp2_with fail
      refine HSC.out.mono ?_
      rintro e w5 ⟨rfl, hb5⟩
      have HB5 := Lib.hid (HB4.out.trans (hb5.mono HB4.out.size))
      clear hb5
      go_wp2_with fail
      refine (HAW.out _).mono ?_
      rintro e w6 ⟨rfl, hb6⟩
      go_wp2
      go_ret
      exact ⟨rfl, HB5.out.trans (hb6.mono HB5.out.size)⟩
    case neg =>
      obtain rfl := hbad h0
      simp only [hds0]
      clear hok hbad
      have hx := Bl.new w1 37 #[.slice none 0 0, .slice none 0 0, .slice none 0 0, .slice none 0 0, .slice none 0 0]
      have HB2 := Lib.hid (HB1.out.alloc HB1.out.size (.cells #[.slice none 0 0, .slice none 0 0, .slice none 0 0, .slice none 0 0, .slice none 0 0] 37))
      have HQ2 := Lib.hid (HQ1.out.alloc (.cells #[.slice none 0 0, .slice none 0 0, .slice none 0 0, .slice none 0 0, .slice none 0 0] 37))
      have HG2 := Lib.hid (HG1.out.alloc (.cells #[.slice none 0 0, .slice none 0 0, .slice none 0 0, .slice none 0 0, .slice none 0 0] 37))
      have HU2 : Hid (∀ g ∈ gs, Recs enc2 2 (w1.alloc (.cells #[.slice none 0 0, .slice none 0 0, .slice none 0 0, .slice none 0 0, .slice none 0 0] 37)) g.A g.n g.us) := fun g hg => (HU1.out g hg).alloc _
      go_upto_region 21 with (fail)
      generalize w1.alloc (.cells #[.slice none 0 0, .slice none 0 0, .slice none 0 0, .slice none 0 0, .slice none 0 0] 37) = W2 at *
      generalize w1.heap.size = gx at *
      have HC2 := Lib.hid (HREF.out (A) (n) (c) (B) (m) (d) (qs) (gs) W2 HQ2.out HG2.out HU2.out)
      go_wp2_with fail
      refine HC2.out.mono ?_
      rintro e w3 ⟨H', er', rfl, he', hok', hbad', hb3⟩
      obtain rfl : er' = er := he'.trans HE.out.symm
      have HB3 := Lib.hid (HB2.out.trans (hb3.mono HB2.out.size))
      have hx3 := hx.keep hb3
      have HS3 := Lib.hid hb3
      obtain rfl := hbad' h0
      simp only [hds0]
      clear hok' hbad' he' hb3 hx
      have HY4 := Lib.hid (Bl.new w3 37 #[.slice none 0 0, .slice none 0 0, .slice none 0 0, .slice none 0 0, .slice none 0 0])
      have hx4 := hx3.alloc (.cells #[.slice none 0 0, .slice none 0 0, .slice none 0 0, .slice none 0 0, .slice none 0 0] 37)
      have HB4 := Lib.hid (HB3.out.alloc HB3.out.size (.cells #[.slice none 0 0, .slice none 0 0, .slice none 0 0, .slice none 0 0, .slice none 0 0] 37))
      have HSC := Lib.hid (sameCentral37 none none none none 0 0 0 0 0 0 [] [] [] (w3.alloc (.cells #[.slice none 0 0, .slice none 0 0, .slice none 0 0, .slice none 0 0, .slice none 0 0] 37)) Recs.nil Recs.nil Recs.nil Recs.nil (by omega) (by omega) (fun j hj => by omega))
      go_upto_region 22 with (fail)
      generalize w3.alloc (.cells #[.slice none 0 0, .slice none 0 0, .slice none 0 0, .slice none 0 0, .slice none 0 0] 37) = W4 at *
      generalize w3.heap.size = gy at *
      have x0 : W4.cell? ⟨gx, 0, none⟩ = some (.slice none 0 0) := hx4.c0
      have y0 : W4.cell? ⟨gy, 0, none⟩ = some (.slice none 0 0) := HY4.out.c0
      have x1 : W4.cell? ⟨gx, 1, none⟩ = some (.slice none 0 0) := hx4.c1
      have y1 : W4.cell? ⟨gy, 1, none⟩ = some (.slice none 0 0) := HY4.out.c1
      have x2 : W4.cell? ⟨gx, 2, none⟩ = some (.slice none 0 0) := hx4.c2
      have y2 : W4.cell? ⟨gy, 2, none⟩ = some (.slice none 0 0) := HY4.out.c2
      have x3 : W4.cell? ⟨gx, 3, none⟩ = some (.slice none 0 0) := hx4.c3
      have y3 : W4.cell? ⟨gy, 3, none⟩ = some (.slice none 0 0) := HY4.out.c3
      have x4 : W4.cell? ⟨gx, 4, none⟩ = some (.slice none 0 0) := hx4.c4
      have y4 : W4.cell? ⟨gy, 4, none⟩ = some (.slice none 0 0) := HY4.out.c4
      go_wp2_with fail
      refine HSC.out.mono ?_
      rintro e w5 ⟨rfl, hb5⟩
      have HB5 := Lib.hid (HB4.out.trans (hb5.mono HB4.out.size))
      clear hb5
      go_wp2_with fail
      refine (HAW.out _).mono ?_
      rintro e w6 ⟨rfl, hb6⟩
      go_wp2
      go_ret
      exact ⟨rfl, HB5.out.trans (hb6.mono HB5.out.size)⟩
  case false =>
    go_enter Tryz.func3, Tryz.ntmps3
    go_wp2_with fail
    go_loopw [9, 10] (fun x i wx => ∃ (k : Nat) (Bx : Option Addr) (dx : Nat) (xs : List Qt), i = .int .i64 k ∧ x = .slice Bx k dx ∧ k ≤ n ∧ k ≤ 18 ∧ Hid (wx.ownsRow w.heap.size 27 4 (.slice Bx k dx) k (flat encQ xs)) ∧ Hid (RowKit.Below w.heap.size w wx)) (fun _ i _ => n - (intOf i).toNat)
    case atStart => exact ⟨0, none, 0, [], rfl, rfl, Nat.zero_le _, Nat.zero_le _, own0Q37 _ _, Below.refl _ _⟩
    case round =>
      obtain ⟨k, Bx, dx, xs, rfl, rfl, hk, hk18, HO, HB⟩ := hrel
      by_cases hlt : k < n ∧ k < 18
      · obtain ⟨hlt, hlt18⟩ := hlt
        have hki : (k : Int) < n := by omega
        have hk18i : (k : Int) < 18 := by omega
        have dk : decide (k < n) = true := by simpa using hlt
        have dk18 : decide ((k : Int) < 18) = true := by simpa using hk18i
        obtain ⟨b, off, q, hA, hbl, c0, c1, c2, c3, HX⟩ := (HR.out.below HB.out).getQ hlt
        subst hA
        have HWC := Lib.hid (HW.out q.vol 100 wr (by omega) (by omega))
        obtain ⟨v, hv⟩ : ∃ v, q.vol % 100 = v := ⟨_, rfl⟩
        rw [hv] at HWC
        clear hv c0 c2 c3
        go_wp2_with fail
        refine HWC.out.mono ?_
        rintro e w1 ⟨rfl, rfl⟩
        have hy := Bl.new wr 27 #[.int .i64 ((k : Int) + 1), .int .i64 v, .int .i64 2, .int .i64 9]
        have HB2 := Lib.hid (HB.out.alloc HB.out.size (.cells #[.int .i64 ((k : Int) + 1), .int .i64 v, .int .i64 2, .int .i64 9] 27))
        have HO2 := Lib.hid (own_alloc HO.out (.cells #[.int .i64 ((k : Int) + 1), .int .i64 v, .int .i64 2, .int .i64 9] 27))
        have HLT2 : Hid (∀ j, (Value.slice Bx k dx).ownBlock = some j → j < wr.heap.size) := fun j hj => own_lt HO.out j hj
        have hgw : w.heap.size ≤ wr.heap.size := HB.out.size
        clear c1 hbl HB HO HWC
        go_upto_region 7 with (fail)
        generalize wr.alloc (.cells #[.int .i64 ((k : Int) + 1), .int .i64 v, .int .i64 2, .int .i64 9] 27) = W2 at *
        generalize wr.heap.size = gy at *
        by_cases hidn : k < ni
        · obtain ⟨b4, off4, z, hI, hbl4, c4, _⟩ := (HI.out.below HB2.out).get hidn
          subst hI
          have hidi : (k : Int) < ni := by omega
          have d4 : decide (k < ni) = true := by simpa using hidn
          obtain ⟨r, hr⟩ : ∃ r, z.tmod 7 = r := ⟨_, rfl⟩
          have hr7 := tmod7 z
          rw [hr] at hr7
          have u7 : IntKind.i64.wrap r = r := IntWalk.i64_in _ (by omega)
          by_cases g7 : r = 3
          · have b7 : (r == 3) = true := by simpa using g7
            have HO3 : Hid ((W2.setCell ⟨gy, 0, none⟩ (.int .i64 (k : Int))).ownsRow w.heap.size 27 4 (.slice Bx k dx) k (flat encQ xs)) := own_of_block HO2.out fun j hj => Below.heap_setCell _ _ _ j (by have := HLT2.out j hj; simp; omega)
            have HB3 : Hid (RowKit.Below w.heap.size w (W2.setCell ⟨gy, 0, none⟩ (.int .i64 (k : Int)))) := HB2.out.setCell (p := ⟨gy, 0, none⟩) hgw _
            have hy3 : Bl (W2.setCell ⟨gy, 0, none⟩ (.int .i64 (k : Int))) gy 27 #[.int .i64 (k : Int), .int .i64 v, .int .i64 2, .int .i64 9] := by have := hy.put 0 (.int .i64 (k : Int)); simpa using this
            have p0 : W2.cell? ⟨gy, 0, none⟩ = some (.int .i64 ((k : Int) + 1)) := hy.cell 0
            have pf : W2.frozen? ⟨gy, 0, none⟩ = false := hy.free 0
            go_upto_region 9 with (fail)
            clear p0 pf hy HO2 HB2
            generalize W2.setCell ⟨gy, 0, none⟩ (.int .i64 (k : Int)) = W3 at *
            have y0 : W3.cell? ⟨gy, 0, none⟩ = some (.int .i64 ((k : Int))) := hy3.cell 0
            have y1 : W3.cell? ⟨gy, 1, none⟩ = some (.int .i64 v) := hy3.cell 1
            have y2 : W3.cell? ⟨gy, 2, none⟩ = some (.int .i64 2) := hy3.cell 2
            have y3 : W3.cell? ⟨gy, 3, none⟩ = some (.int .i64 9) := hy3.cell 3
            have HOE := Lib.hid (own_alloc HO3.out (.cells #[.int .i64 ((k : Int)), .int .i64 v, .int .i64 2, .int .i64 9] 27))
            have HRD : Hid (Rd (W3.alloc (.cells #[.int .i64 ((k : Int)), .int .i64 v, .int .i64 2, .int .i64 9] 27)) 4 (some ⟨W3.heap.size, 0, none⟩) 1 (encQ ⟨(k : Int), v, 2, 9⟩)) := rd_new W3 27 (encQ ⟨(k : Int), v, 2, 9⟩)
            have HON : Hid (∀ u ∈ encQ ⟨(k : Int), v, 2, 9⟩, u.oneCell' = true) := encQ_one _
            have HM1 : Hid (k + 1 ≤ maxLen ∧ (k + 1) * 32 ≤ 140737488355328) := ⟨by unfold maxLen; omega, by omega⟩
            have HBA : Hid (RowKit.Below w.heap.size w (W3.alloc (.cells #[.int .i64 ((k : Int)), .int .i64 v, .int .i64 2, .int .i64 9] 27))) := HB3.out.alloc HB3.out.size _
            have HOB := Lib.hid (fun j hj => own_base HOE.out j hj)
            go_wp2_with (at_builtin; refine wpList_append_rd _ rfl (.tmp 54) (.tmp 56) 22 rfl w.heap.size 27 _ 4 32 Tryz.underlying22 infoQ37 rfl (by decide) (.slice Bx k dx) k (flat encQ xs) rfl HOE.out (some ⟨W3.heap.size, 0, none⟩) 1 _ (encQ ⟨(k : Int), v, 2, 9⟩) rfl HRD.out HON.out HM1.out.1 HM1.out.2 HBA.out.size ?_; intro v8 w8 ho8 hg8 hv8; obtain ⟨B8, d8, rfl⟩ := own_slice ho8)
            have HB8 : Hid (RowKit.Below w.heap.size w w8) := HBA.out.grown hg8 HBA.out.size (fun j hj => HOB.out j hj)
            have HO8 : Hid (w8.ownsRow w.heap.size 27 4 (.slice B8 (k + 1) d8) (k + 1) (flat encQ (xs ++ [⟨(k : Int), v, 2, 9⟩]))) := by
              show World.ownsRow _ _ _ _ _ _ _
              rw [flat_append, flat_one]
              exact ho8
            clear ho8 hg8
            go_roundw
            case rel => exact ⟨k + 1, B8, d8, _, by go_num, rfl, by omega, by omega, HO8, HB8⟩
            case measure => simp [intOf]; omega
          · have b7 : (r == 3) = false := by simpa using g7
            clear g7
            have HO3 := HO2
            have HB3 := HB2
            go_upto_region 9 with (fail)
            have y0 : W2.cell? ⟨gy, 0, none⟩ = some (.int .i64 ((k : Int) + 1)) := hy.cell 0
            have y1 : W2.cell? ⟨gy, 1, none⟩ = some (.int .i64 v) := hy.cell 1
            have y2 : W2.cell? ⟨gy, 2, none⟩ = some (.int .i64 2) := hy.cell 2
            have y3 : W2.cell? ⟨gy, 3, none⟩ = some (.int .i64 9) := hy.cell 3
            have HOE := Lib.hid (own_alloc HO3.out (.cells #[.int .i64 ((k : Int) + 1), .int .i64 v, .int .i64 2, .int .i64 9] 27))
            have HRD : Hid (Rd (W2.alloc (.cells #[.int .i64 ((k : Int) + 1), .int .i64 v, .int .i64 2, .int .i64 9] 27)) 4 (some ⟨W2.heap.size, 0, none⟩) 1 (encQ ⟨(k : Int) + 1, v, 2, 9⟩)) := rd_new W2 27 (encQ ⟨(k : Int) + 1, v, 2, 9⟩)
            have HON : Hid (∀ u ∈ encQ ⟨(k : Int) + 1, v, 2, 9⟩, u.oneCell' = true) := encQ_one _
            have HM1 : Hid (k + 1 ≤ maxLen ∧ (k + 1) * 32 ≤ 140737488355328) := ⟨by unfold maxLen; omega, by omega⟩
            have HBA : Hid (RowKit.Below w.heap.size w (W2.alloc (.cells #[.int .i64 ((k : Int) + 1), .int .i64 v, .int .i64 2, .int .i64 9] 27))) := HB3.out.alloc HB3.out.size _
            have HOB := Lib.hid (fun j hj => own_base HOE.out j hj)
            go_wp2_with (at_builtin; refine wpList_append_rd _ rfl (.tmp 54) (.tmp 56) 22 rfl w.heap.size 27 _ 4 32 Tryz.underlying22 infoQ37 rfl (by decide) (.slice Bx k dx) k (flat encQ xs) rfl HOE.out (some ⟨W2.heap.size, 0, none⟩) 1 _ (encQ ⟨(k : Int) + 1, v, 2, 9⟩) rfl HRD.out HON.out HM1.out.1 HM1.out.2 HBA.out.size ?_; intro v8 w8 ho8 hg8 hv8; obtain ⟨B8, d8, rfl⟩ := own_slice ho8)
            have HB8 : Hid (RowKit.Below w.heap.size w w8) := HBA.out.grown hg8 HBA.out.size (fun j hj => HOB.out j hj)
            have HO8 : Hid (w8.ownsRow w.heap.size 27 4 (.slice B8 (k + 1) d8) (k + 1) (flat encQ (xs ++ [⟨(k : Int) + 1, v, 2, 9⟩]))) := by
              show World.ownsRow _ _ _ _ _ _ _
              rw [flat_append, flat_one]
              exact ho8
            clear ho8 hg8
            go_roundw
            case rel => exact ⟨k + 1, B8, d8, _, by go_num, rfl, by omega, by omega, HO8, HB8⟩
            case measure => simp [intOf]; omega
        · have d4 : decide (k < ni) = false := by simpa using hidn
          have HO3 := HO2
          have HB3 := HB2
          go_upto_region 9 with (fail)
          have y0 : W2.cell? ⟨gy, 0, none⟩ = some (.int .i64 ((k : Int) + 1)) := hy.cell 0
          have y1 : W2.cell? ⟨gy, 1, none⟩ = some (.int .i64 v) := hy.cell 1
          have y2 : W2.cell? ⟨gy, 2, none⟩ = some (.int .i64 2) := hy.cell 2
          have y3 : W2.cell? ⟨gy, 3, none⟩ = some (.int .i64 9) := hy.cell 3
          have HOE := Lib.hid (own_alloc HO3.out (.cells #[.int .i64 ((k : Int) + 1), .int .i64 v, .int .i64 2, .int .i64 9] 27))
          have HRD : Hid (Rd (W2.alloc (.cells #[.int .i64 ((k : Int) + 1), .int .i64 v, .int .i64 2, .int .i64 9] 27)) 4 (some ⟨W2.heap.size, 0, none⟩) 1 (encQ ⟨(k : Int) + 1, v, 2, 9⟩)) := rd_new W2 27 (encQ ⟨(k : Int) + 1, v, 2, 9⟩)
          have HON : Hid (∀ u ∈ encQ ⟨(k : Int) + 1, v, 2, 9⟩, u.oneCell' = true) := encQ_one _
          have HM1 : Hid (k + 1 ≤ maxLen ∧ (k + 1) * 32 ≤ 140737488355328) := ⟨by unfold maxLen; omega, by omega⟩
          have HBA : Hid (RowKit.Below w.heap.size w (W2.alloc (.cells #[.int .i64 ((k : Int) + 1), .int .i64 v, .int .i64 2, .int .i64 9] 27))) := HB3.out.alloc HB3.out.size _
          have HOB := Lib.hid (fun j hj => own_base HOE.out j hj)
          go_wp2_with (at_builtin; refine wpList_append_rd _ rfl (.tmp 54) (.tmp 56) 22 rfl w.heap.size 27 _ 4 32 Tryz.underlying22 infoQ37 rfl (by decide) (.slice Bx k dx) k (flat encQ xs) rfl HOE.out (some ⟨W2.heap.size, 0, none⟩) 1 _ (encQ ⟨(k : Int) + 1, v, 2, 9⟩) rfl HRD.out HON.out HM1.out.1 HM1.out.2 HBA.out.size ?_; intro v8 w8 ho8 hg8 hv8; obtain ⟨B8, d8, rfl⟩ := own_slice ho8)
          have HB8 : Hid (RowKit.Below w.heap.size w w8) := HBA.out.grown hg8 HBA.out.size (fun j hj => HOB.out j hj)
          have HO8 : Hid (w8.ownsRow w.heap.size 27 4 (.slice B8 (k + 1) d8) (k + 1) (flat encQ (xs ++ [⟨(k : Int) + 1, v, 2, 9⟩]))) := by
            show World.ownsRow _ _ _ _ _ _ _
            rw [flat_append, flat_one]
            exact ho8
          clear ho8 hg8
          go_roundw
          case rel => exact ⟨k + 1, B8, d8, _, by go_num, rfl, by omega, by omega, HO8, HB8⟩
          case measure => simp [intOf]; omega
      · by_cases hn1 : k < n
        · have dk : decide (k < n) = true := by simpa using hn1
          have dk18 : decide ((k : Int) < 18) = false := by simp; omega
          have hki : (k : Int) < n := by omega
          clear hlt
          go_wp2_with fail
          go_loopw [12, 13] (fun z i wx => ∃ (k2 : Nat) (Bz : Option Addr) (dz : Nat) (zs : List Gb), i = .int .i64 k2 ∧ z = .slice Bz k2 dz ∧ k2 ≤ m ∧ k2 ≤ 18 ∧ Hid (wx.ownsRow w.heap.size 30 4 (.slice Bz k2 dz) k2 (flat encGu zs)) ∧ Hid (∀ g ∈ zs, wx.ownsRow w.heap.size 32 2 (.slice g.A g.n g.c) g.n (flat enc2 g.us)) ∧ Hid (wx.ownsRow w.heap.size 27 4 (.slice Bx k dx) k (flat encQ xs)) ∧ Hid (RowKit.Below w.heap.size w wx)) (fun _ i _ => m - (intOf i).toNat)
          case atStart => exact ⟨0, none, 0, [], rfl, rfl, Nat.zero_le _, Nat.zero_le _, own0G _ _, fun g hg => by (cases hg), HO, HB⟩
          case round =>
            clear HO HB
            obtain ⟨k2, Bz, dz, zs, rfl, rfl, hk2, hk218, HO, HUZ, HXO, HB⟩ := hrel
            by_cases hlt : k2 < m ∧ k2 < 18
            · obtain ⟨hlt, hlt18⟩ := hlt
              have hki : (k2 : Int) < m := by omega
              have hk18i : (k2 : Int) < 18 := by omega
              have dk : decide (k2 < m) = true := by simpa using hlt
              have dk18 : decide ((k2 : Int) < 18) = true := by simpa using hk18i
              obtain ⟨b, off, g0, hA, hbl, c0, c1, c2, c3, HX⟩ := (HG.out.below HB.out).getG hlt
              subst hA
              have HWC := Lib.hid (HW.out g0.h.ref 1000 wr (by omega) (by omega))
              obtain ⟨v, hv⟩ : ∃ v, g0.h.ref % 1000 = v := ⟨_, rfl⟩
              rw [hv] at HWC
              clear hv c0 c2 c3
              go_wp2_with fail
              refine HWC.out.mono ?_
              rintro e w1 ⟨rfl, rfl⟩
              have hy := Bl.new wr 30 #[.int .i64 ((k2 : Int) + 1), .int .i64 v, .int .i64 1000000, .slice none 0 0]
              have HB2 := Lib.hid (HB.out.alloc HB.out.size (.cells #[.int .i64 ((k2 : Int) + 1), .int .i64 v, .int .i64 1000000, .slice none 0 0] 30))
              have HO2 := Lib.hid (own_alloc HO.out (.cells #[.int .i64 ((k2 : Int) + 1), .int .i64 v, .int .i64 1000000, .slice none 0 0] 30))
              have HX2 := Lib.hid (own_alloc HXO.out (.cells #[.int .i64 ((k2 : Int) + 1), .int .i64 v, .int .i64 1000000, .slice none 0 0] 30))
              have HU2 : Hid (∀ g ∈ zs, (wr.alloc (.cells #[.int .i64 ((k2 : Int) + 1), .int .i64 v, .int .i64 1000000, .slice none 0 0] 30)).ownsRow w.heap.size 32 2 (.slice g.A g.n g.c) g.n (flat enc2 g.us)) := fun g hg => own_alloc (HUZ.out g hg) _
              have HLT2 : Hid (∀ j, (Value.slice Bz k2 dz).ownBlock = some j → j < wr.heap.size) := fun j hj => own_lt HO.out j hj
              have hgw : w.heap.size ≤ wr.heap.size := HB.out.size
              clear c1 hbl HB HO HXO HUZ HWC
              go_upto_region 16 with (fail)
              generalize wr.alloc (.cells #[.int .i64 ((k2 : Int) + 1), .int .i64 v, .int .i64 1000000, .slice none 0 0] 30) = W2 at *
              generalize wr.heap.size = gy at *
              by_cases hidn : k2 < ni
              · obtain ⟨b4, off4, z, hI, hbl4, c4, _⟩ := (HI.out.below HB2.out).get hidn
                subst hI
                have hidi : (k2 : Int) < ni := by omega
                have d4 : decide (k2 < ni) = true := by simpa using hidn
                obtain ⟨r, hr⟩ : ∃ r, z.tmod 7 = r := ⟨_, rfl⟩
                have hr7 := tmod7 z
                rw [hr] at hr7
                have u7 : IntKind.i64.wrap r = r := IntWalk.i64_in _ (by omega)
                by_cases g7 : r = 5
                · have b7 : (r == 5) = true := by simpa using g7
                  obtain ⟨gu, hgu⟩ : ∃ g, W2.heap.size = g := ⟨_, rfl⟩
                  have hgyl : gy < W2.heap.size := hy.lt
                  have HGU : Hid (w.heap.size ≤ gu) := by show _ ≤ _; rw [← hgu]; exact HB2.out.size
                  have p3 : W2.cell? ⟨gy, 3, none⟩ = some (.slice none 0 0) := hy.cell 3
                  have pf : W2.frozen? ⟨gy, 3, none⟩ = false := hy.free 3
                  have p3' : (W2.alloc (.cells #[.int .i64 1, .int .i64 0] 32)).cell? ⟨gy, 3, none⟩ = some (.slice none 0 0) := (hy.alloc _).cell 3
                  have pf' : (W2.alloc (.cells #[.int .i64 1, .int .i64 0] 32)).frozen? ⟨gy, 3, none⟩ = false := (hy.alloc _).free 3
                  have HOG : Hid (∀ j, (Value.slice Bz k2 dz).ownBlock = some j → j ≠ gy) := fun j hj e => by have := HLT2.out j hj; omega
                  have HXG : Hid (∀ j, (Value.slice Bx k dx).ownBlock = some j → j ≠ gy) := fun j hj e => own_apart HX2.out hy (by decide) (by rw [hj, e])
                  have HUG : Hid (∀ g ∈ zs, ∀ j, (Value.slice g.A g.n g.c).ownBlock = some j → j ≠ gy) := fun g hg j hj e => own_apart (HU2.out g hg) hy (by decide) (by rw [hj, e])
                  go_upto_region 18 with (fail)
                  clear p3 pf p3' pf'
                  have hy3 : Bl ((W2.alloc (.cells #[.int .i64 1, .int .i64 0] 32)).setCell ⟨gy, 3, none⟩ (.slice (some ⟨gu, 0, none⟩) 1 1)) gy 30 #[.int .i64 ((k2 : Int) + 1), .int .i64 v, .int .i64 1000000, .slice (some ⟨gu, 0, none⟩) 1 1] := by have := (hy.alloc (.cells #[.int .i64 1, .int .i64 0] 32)).put 3 (.slice (some ⟨gu, 0, none⟩) 1 1); simpa using this
                  have hu3 : Bl ((W2.alloc (.cells #[.int .i64 1, .int .i64 0] 32)).setCell ⟨gy, 3, none⟩ (.slice (some ⟨gu, 0, none⟩) 1 1)) gu 32 #[.int .i64 1, .int .i64 0] := by rw [← hgu]; exact (Bl.new W2 32 #[.int .i64 1, .int .i64 0]).far (p := ⟨gy, 3, none⟩) (by simp; omega) _
                  have HO3 : Hid (((W2.alloc (.cells #[.int .i64 1, .int .i64 0] 32)).setCell ⟨gy, 3, none⟩ (.slice (some ⟨gu, 0, none⟩) 1 1)).ownsRow w.heap.size 30 4 (.slice Bz k2 dz) k2 (flat encGu zs)) := own_of_block (own_alloc HO2.out _) fun j hj => Below.heap_setCell _ _ _ j (HOG.out j hj)
                  have HX3 : Hid (((W2.alloc (.cells #[.int .i64 1, .int .i64 0] 32)).setCell ⟨gy, 3, none⟩ (.slice (some ⟨gu, 0, none⟩) 1 1)).ownsRow w.heap.size 27 4 (.slice Bx k dx) k (flat encQ xs)) := own_of_block (own_alloc HX2.out _) fun j hj => Below.heap_setCell _ _ _ j (HXG.out j hj)
                  have HU3 : Hid (∀ g ∈ zs ++ [(⟨⟨(k2 : Int) + 1, v, 1000000⟩, some ⟨gu, 0, none⟩, 1, 1, [(1, 0)]⟩ : Gb)], ((W2.alloc (.cells #[.int .i64 1, .int .i64 0] 32)).setCell ⟨gy, 3, none⟩ (.slice (some ⟨gu, 0, none⟩) 1 1)).ownsRow w.heap.size 32 2 (.slice g.A g.n g.c) g.n (flat enc2 g.us)) := fun g hg => by
                    rcases List.mem_append.1 hg with hg | hg
                    · exact own_of_block (own_alloc (HU2.out g hg) _) fun j hj => Below.heap_setCell _ _ _ j (HUG.out g hg j hj)
                    · obtain rfl := List.mem_singleton.1 hg
                      exact own_lit37 hu3 HGU.out rfl (by show 1 ≤ 1000; omega)
                  have HB3 : Hid (RowKit.Below w.heap.size w ((W2.alloc (.cells #[.int .i64 1, .int .i64 0] 32)).setCell ⟨gy, 3, none⟩ (.slice (some ⟨gu, 0, none⟩) 1 1))) := (HB2.out.alloc HB2.out.size _).setCell (p := ⟨gy, 3, none⟩) hgw _
                  clear HO2 HX2 HU2 HB2 hu3 hy HLT2
                  generalize ((W2.alloc (.cells #[.int .i64 1, .int .i64 0] 32)).setCell ⟨gy, 3, none⟩ (.slice (some ⟨gu, 0, none⟩) 1 1)) = W3 at *
                  clear hgyl
                  try simp only [hgu]
                  have y0 : W3.cell? ⟨gy, 0, none⟩ = some (.int .i64 ((k2 : Int) + 1)) := hy3.cell 0
                  have y1 : W3.cell? ⟨gy, 1, none⟩ = some (.int .i64 v) := hy3.cell 1
                  have y2 : W3.cell? ⟨gy, 2, none⟩ = some (.int .i64 1000000) := hy3.cell 2
                  have y3 : W3.cell? ⟨gy, 3, none⟩ = some (.slice (some ⟨gu, 0, none⟩) 1 1) := hy3.cell 3
                  have HOE := Lib.hid (own_alloc HO3.out (.cells #[.int .i64 ((k2 : Int) + 1), .int .i64 v, .int .i64 1000000, .slice (some ⟨gu, 0, none⟩) 1 1] 30))
                  have HXE := Lib.hid (own_alloc HX3.out (.cells #[.int .i64 ((k2 : Int) + 1), .int .i64 v, .int .i64 1000000, .slice (some ⟨gu, 0, none⟩) 1 1] 30))
                  have HUE : Hid (∀ g ∈ zs ++ [(⟨⟨(k2 : Int) + 1, v, 1000000⟩, some ⟨gu, 0, none⟩, 1, 1, [(1, 0)]⟩ : Gb)], (W3.alloc (.cells #[.int .i64 ((k2 : Int) + 1), .int .i64 v, .int .i64 1000000, .slice (some ⟨gu, 0, none⟩) 1 1] 30)).ownsRow w.heap.size 32 2 (.slice g.A g.n g.c) g.n (flat enc2 g.us)) := fun g hg => own_alloc (HU3.out g hg) _
                  have HRD : Hid (Rd (W3.alloc (.cells #[.int .i64 ((k2 : Int) + 1), .int .i64 v, .int .i64 1000000, .slice (some ⟨gu, 0, none⟩) 1 1] 30)) 4 (some ⟨W3.heap.size, 0, none⟩) 1 (encGu (⟨⟨(k2 : Int) + 1, v, 1000000⟩, some ⟨gu, 0, none⟩, 1, 1, [(1, 0)]⟩ : Gb))) := rd_new W3 30 (encGu (⟨⟨(k2 : Int) + 1, v, 1000000⟩, some ⟨gu, 0, none⟩, 1, 1, [(1, 0)]⟩ : Gb))
                  have HON : Hid (∀ u ∈ encGu (⟨⟨(k2 : Int) + 1, v, 1000000⟩, some ⟨gu, 0, none⟩, 1, 1, [(1, 0)]⟩ : Gb), u.oneCell' = true) := encGu_one _
                  have HM1 : Hid (k2 + 1 ≤ maxLen ∧ (k2 + 1) * 48 ≤ 140737488355328) := ⟨by unfold maxLen; omega, by omega⟩
                  have HBA : Hid (RowKit.Below w.heap.size w (W3.alloc (.cells #[.int .i64 ((k2 : Int) + 1), .int .i64 v, .int .i64 1000000, .slice (some ⟨gu, 0, none⟩) 1 1] 30))) := HB3.out.alloc HB3.out.size _
                  have HOB := Lib.hid (fun j hj => own_base HOE.out j hj)
                  clear HO3 HX3 HU3 HB3
                  go_wp2_with (at_builtin; refine wpList_append_rd _ rfl (.tmp 93) (.tmp 95) 23 rfl w.heap.size 30 _ 4 48 Tryz.underlying23 info37G rfl (by decide) (.slice Bz k2 dz) k2 (flat encGu zs) rfl HOE.out (some ⟨W3.heap.size, 0, none⟩) 1 _ (encGu (⟨⟨(k2 : Int) + 1, v, 1000000⟩, some ⟨gu, 0, none⟩, 1, 1, [(1, 0)]⟩ : Gb)) rfl HRD.out HON.out HM1.out.1 HM1.out.2 HBA.out.size ?_; intro v8 w8 ho8 hg8 hv8; obtain ⟨B8, d8, rfl⟩ := own_slice ho8)
                  have HB8 : Hid (RowKit.Below w.heap.size w w8) := HBA.out.grown hg8 HBA.out.size (fun j hj => HOB.out j hj)
                  have HX8 : Hid (w8.ownsRow w.heap.size 27 4 (.slice Bx k dx) k (flat encQ xs)) := own_of_block HXE.out fun j hj => hg8.block j (own_lt HXE.out j hj) (own_diff HXE.out HOE.out (by decide) j hj)
                  have HU8 : Hid (∀ g ∈ zs ++ [(⟨⟨(k2 : Int) + 1, v, 1000000⟩, some ⟨gu, 0, none⟩, 1, 1, [(1, 0)]⟩ : Gb)], w8.ownsRow w.heap.size 32 2 (.slice g.A g.n g.c) g.n (flat enc2 g.us)) := fun g hg => own_of_block (HUE.out g hg) fun j hj => hg8.block j (own_lt (HUE.out g hg) j hj) (own_diff (HUE.out g hg) HOE.out (by decide) j hj)
                  have HO8 : Hid (w8.ownsRow w.heap.size 30 4 (.slice B8 (k2 + 1) d8) (k2 + 1) (flat encGu (zs ++ [(⟨⟨(k2 : Int) + 1, v, 1000000⟩, some ⟨gu, 0, none⟩, 1, 1, [(1, 0)]⟩ : Gb)]))) := by
                    show World.ownsRow _ _ _ _ _ _ _
                    rw [flat_append, flat_one]
                    exact ho8
                  clear ho8 hg8
                  go_roundw
                  case rel => exact ⟨k2 + 1, B8, d8, _, by go_num, rfl, by omega, by omega, HO8, HU8, HX8, HB8⟩
                  case measure => simp [intOf]; omega
                · have b7 : (r == 5) = false := by simpa using g7
                  clear g7
                  have HO3 := HO2
                  have HX3 := HX2
                  have HB3 := HB2
                  have HU3 : Hid (∀ g ∈ zs ++ [(⟨⟨(k2 : Int) + 1, v, 1000000⟩, none, 0, 0, []⟩ : Gb)], W2.ownsRow w.heap.size 32 2 (.slice g.A g.n g.c) g.n (flat enc2 g.us)) := fun g hg => by
                    rcases List.mem_append.1 hg with hg | hg
                    · exact HU2.out g hg
                    · obtain rfl := List.mem_singleton.1 hg
                      exact own0U _ _
                  clear HO2 HX2 HU2 HB2
                  go_upto_region 18 with (fail)
                  have y0 : W2.cell? ⟨gy, 0, none⟩ = some (.int .i64 ((k2 : Int) + 1)) := hy.cell 0
                  have y1 : W2.cell? ⟨gy, 1, none⟩ = some (.int .i64 v) := hy.cell 1
                  have y2 : W2.cell? ⟨gy, 2, none⟩ = some (.int .i64 1000000) := hy.cell 2
                  have y3 : W2.cell? ⟨gy, 3, none⟩ = some (.slice none 0 0) := hy.cell 3
                  have HOE := Lib.hid (own_alloc HO3.out (.cells #[.int .i64 ((k2 : Int) + 1), .int .i64 v, .int .i64 1000000, .slice none 0 0] 30))
                  have HXE := Lib.hid (own_alloc HX3.out (.cells #[.int .i64 ((k2 : Int) + 1), .int .i64 v, .int .i64 1000000, .slice none 0 0] 30))
                  have HUE : Hid (∀ g ∈ zs ++ [(⟨⟨(k2 : Int) + 1, v, 1000000⟩, none, 0, 0, []⟩ : Gb)], (W2.alloc (.cells #[.int .i64 ((k2 : Int) + 1), .int .i64 v, .int .i64 1000000, .slice none 0 0] 30)).ownsRow w.heap.size 32 2 (.slice g.A g.n g.c) g.n (flat enc2 g.us)) := fun g hg => own_alloc (HU3.out g hg) _
                  have HRD : Hid (Rd (W2.alloc (.cells #[.int .i64 ((k2 : Int) + 1), .int .i64 v, .int .i64 1000000, .slice none 0 0] 30)) 4 (some ⟨W2.heap.size, 0, none⟩) 1 (encGu (⟨⟨(k2 : Int) + 1, v, 1000000⟩, none, 0, 0, []⟩ : Gb))) := rd_new W2 30 (encGu (⟨⟨(k2 : Int) + 1, v, 1000000⟩, none, 0, 0, []⟩ : Gb))
                  have HON : Hid (∀ u ∈ encGu (⟨⟨(k2 : Int) + 1, v, 1000000⟩, none, 0, 0, []⟩ : Gb), u.oneCell' = true) := encGu_one _
                  have HM1 : Hid (k2 + 1 ≤ maxLen ∧ (k2 + 1) * 48 ≤ 140737488355328) := ⟨by unfold maxLen; omega, by omega⟩
                  have HBA : Hid (RowKit.Below w.heap.size w (W2.alloc (.cells #[.int .i64 ((k2 : Int) + 1), .int .i64 v, .int .i64 1000000, .slice none 0 0] 30))) := HB3.out.alloc HB3.out.size _
                  have HOB := Lib.hid (fun j hj => own_base HOE.out j hj)
                  clear HO3 HX3 HU3 HB3
                  go_wp2_with (at_builtin; refine wpList_append_rd _ rfl (.tmp 93) (.tmp 95) 23 rfl w.heap.size 30 _ 4 48 Tryz.underlying23 info37G rfl (by decide) (.slice Bz k2 dz) k2 (flat encGu zs) rfl HOE.out (some ⟨W2.heap.size, 0, none⟩) 1 _ (encGu (⟨⟨(k2 : Int) + 1, v, 1000000⟩, none, 0, 0, []⟩ : Gb)) rfl HRD.out HON.out HM1.out.1 HM1.out.2 HBA.out.size ?_; intro v8 w8 ho8 hg8 hv8; obtain ⟨B8, d8, rfl⟩ := own_slice ho8)
                  have HB8 : Hid (RowKit.Below w.heap.size w w8) := HBA.out.grown hg8 HBA.out.size (fun j hj => HOB.out j hj)
                  have HX8 : Hid (w8.ownsRow w.heap.size 27 4 (.slice Bx k dx) k (flat encQ xs)) := own_of_block HXE.out fun j hj => hg8.block j (own_lt HXE.out j hj) (own_diff HXE.out HOE.out (by decide) j hj)
                  have HU8 : Hid (∀ g ∈ zs ++ [(⟨⟨(k2 : Int) + 1, v, 1000000⟩, none, 0, 0, []⟩ : Gb)], w8.ownsRow w.heap.size 32 2 (.slice g.A g.n g.c) g.n (flat enc2 g.us)) := fun g hg => own_of_block (HUE.out g hg) fun j hj => hg8.block j (own_lt (HUE.out g hg) j hj) (own_diff (HUE.out g hg) HOE.out (by decide) j hj)
                  have HO8 : Hid (w8.ownsRow w.heap.size 30 4 (.slice B8 (k2 + 1) d8) (k2 + 1) (flat encGu (zs ++ [(⟨⟨(k2 : Int) + 1, v, 1000000⟩, none, 0, 0, []⟩ : Gb)]))) := by
                    show World.ownsRow _ _ _ _ _ _ _
                    rw [flat_append, flat_one]
                    exact ho8
                  clear ho8 hg8
                  go_roundw
                  case rel => exact ⟨k2 + 1, B8, d8, _, by go_num, rfl, by omega, by omega, HO8, HU8, HX8, HB8⟩
                  case measure => simp [intOf]; omega
              · have d4 : decide (k2 < ni) = false := by simpa using hidn
                have HO3 := HO2
                have HX3 := HX2
                have HB3 := HB2
                have HU3 : Hid (∀ g ∈ zs ++ [(⟨⟨(k2 : Int) + 1, v, 1000000⟩, none, 0, 0, []⟩ : Gb)], W2.ownsRow w.heap.size 32 2 (.slice g.A g.n g.c) g.n (flat enc2 g.us)) := fun g hg => by
                  rcases List.mem_append.1 hg with hg | hg
                  · exact HU2.out g hg
                  · obtain rfl := List.mem_singleton.1 hg
                    exact own0U _ _
                clear HO2 HX2 HU2 HB2
                go_upto_region 18 with (fail)
                have y0 : W2.cell? ⟨gy, 0, none⟩ = some (.int .i64 ((k2 : Int) + 1)) := hy.cell 0
                have y1 : W2.cell? ⟨gy, 1, none⟩ = some (.int .i64 v) := hy.cell 1
                have y2 : W2.cell? ⟨gy, 2, none⟩ = some (.int .i64 1000000) := hy.cell 2
                have y3 : W2.cell? ⟨gy, 3, none⟩ = some (.slice none 0 0) := hy.cell 3
                have HOE := Lib.hid (own_alloc HO3.out (.cells #[.int .i64 ((k2 : Int) + 1), .int .i64 v, .int .i64 1000000, .slice none 0 0] 30))
                have HXE := Lib.hid (own_alloc HX3.out (.cells #[.int .i64 ((k2 : Int) + 1), .int .i64 v, .int .i64 1000000, .slice none 0 0] 30))
                have HUE : Hid (∀ g ∈ zs ++ [(⟨⟨(k2 : Int) + 1, v, 1000000⟩, none, 0, 0, []⟩ : Gb)], (W2.alloc (.cells #[.int .i64 ((k2 : Int) + 1), .int .i64 v, .int .i64 1000000, .slice none 0 0] 30)).ownsRow w.heap.size 32 2 (.slice g.A g.n g.c) g.n (flat enc2 g.us)) := fun g hg => own_alloc (HU3.out g hg) _
                have HRD : Hid (Rd (W2.alloc (.cells #[.int .i64 ((k2 : Int) + 1), .int .i64 v, .int .i64 1000000, .slice none 0 0] 30)) 4 (some ⟨W2.heap.size, 0, none⟩) 1 (encGu (⟨⟨(k2 : Int) + 1, v, 1000000⟩, none, 0, 0, []⟩ : Gb))) := rd_new W2 30 (encGu (⟨⟨(k2 : Int) + 1, v, 1000000⟩, none, 0, 0, []⟩ : Gb))
                have HON : Hid (∀ u ∈ encGu (⟨⟨(k2 : Int) + 1, v, 1000000⟩, none, 0, 0, []⟩ : Gb), u.oneCell' = true) := encGu_one _
                have HM1 : Hid (k2 + 1 ≤ maxLen ∧ (k2 + 1) * 48 ≤ 140737488355328) := ⟨by unfold maxLen; omega, by omega⟩
                have HBA : Hid (RowKit.Below w.heap.size w (W2.alloc (.cells #[.int .i64 ((k2 : Int) + 1), .int .i64 v, .int .i64 1000000, .slice none 0 0] 30))) := HB3.out.alloc HB3.out.size _
                have HOB := Lib.hid (fun j hj => own_base HOE.out j hj)
                clear HO3 HX3 HU3 HB3
                go_wp2_with (at_builtin; refine wpList_append_rd _ rfl (.tmp 93) (.tmp 95) 23 rfl w.heap.size 30 _ 4 48 Tryz.underlying23 info37G rfl (by decide) (.slice Bz k2 dz) k2 (flat encGu zs) rfl HOE.out (some ⟨W2.heap.size, 0, none⟩) 1 _ (encGu (⟨⟨(k2 : Int) + 1, v, 1000000⟩, none, 0, 0, []⟩ : Gb)) rfl HRD.out HON.out HM1.out.1 HM1.out.2 HBA.out.size ?_; intro v8 w8 ho8 hg8 hv8; obtain ⟨B8, d8, rfl⟩ := own_slice ho8)
                have HB8 : Hid (RowKit.Below w.heap.size w w8) := HBA.out.grown hg8 HBA.out.size (fun j hj => HOB.out j hj)
                have HX8 : Hid (w8.ownsRow w.heap.size 27 4 (.slice Bx k dx) k (flat encQ xs)) := own_of_block HXE.out fun j hj => hg8.block j (own_lt HXE.out j hj) (own_diff HXE.out HOE.out (by decide) j hj)
                have HU8 : Hid (∀ g ∈ zs ++ [(⟨⟨(k2 : Int) + 1, v, 1000000⟩, none, 0, 0, []⟩ : Gb)], w8.ownsRow w.heap.size 32 2 (.slice g.A g.n g.c) g.n (flat enc2 g.us)) := fun g hg => own_of_block (HUE.out g hg) fun j hj => hg8.block j (own_lt (HUE.out g hg) j hj) (own_diff (HUE.out g hg) HOE.out (by decide) j hj)
                have HO8 : Hid (w8.ownsRow w.heap.size 30 4 (.slice B8 (k2 + 1) d8) (k2 + 1) (flat encGu (zs ++ [(⟨⟨(k2 : Int) + 1, v, 1000000⟩, none, 0, 0, []⟩ : Gb)]))) := by
                  show World.ownsRow _ _ _ _ _ _ _
                  rw [flat_append, flat_one]
                  exact ho8
                clear ho8 hg8
                go_roundw
                case rel => exact ⟨k2 + 1, B8, d8, _, by go_num, rfl, by omega, by omega, HO8, HU8, HX8, HB8⟩
                case measure => simp [intOf]; omega
            · by_cases hm1 : k2 < m
              · have dk : decide (k2 < m) = true := by simpa using hm1
                have dk18 : decide ((k2 : Int) < 18) = false := by simp; omega
                have hki : (k2 : Int) < m := by omega
                clear hlt
                have HQF : Hid (Recs encQ 4 wr Bx k xs) := Recs.of_own encQ_len HXO.out (own_lenK encQ_len (by omega) HXO.out)
                have HGF : Hid (Recs encGu 4 wr Bz k2 zs) := Recs.of_own encGu_len HO.out (own_lenK encGu_len (by omega) HO.out)
                have HUF : Hid (∀ g ∈ zs, Recs enc2 2 wr g.A g.n g.us) := fun g hg => Recs.of_own enc2_len (HUZ.out g hg) (own_lenK enc2_len (by omega) (HUZ.out g hg))
                clear HO HXO HUZ
                have HC1 := Lib.hid (HNEW.out (Bx) (k) (dx) (Bz) (k2) (dz) (xs) (zs) _ HQF.out HGF.out HUF.out)
                have HQ0 := Lib.hid HQF.out
                have HG0 := Lib.hid HGF.out
                have HU0 := Lib.hid HUF.out
                have HB0 := Lib.hid HB.out
                go_wp2_with fail
                refine HC1.out.mono ?_
                rintro e w1 ⟨H, er, rfl, he, hok, hbad, hb1⟩
                have HE := Lib.hid he
                have HB1 := Lib.hid (HB0.out.trans (hb1.mono HB0.out.size))
                have HQ1 := Lib.hid (HQ0.out.below hb1)
                have HG1 := Lib.hid (HG0.out.below hb1)
                have HU1 : Hid (∀ g ∈ zs, Recs enc2 2 w1 g.A g.n g.us) := fun g hg => (HU0.out g hg).below hb1
                have HNS := Lib.hid hb1.size
                clear he hb1 HQ0 HG0 HU0 HB0 HC1
                by_cases h0 : er = 0
                case pos =>
                  subst h0
                  obtain ⟨hO, hs, hk, hm'⟩ := hok rfl
                  obtain ⟨Hs, ⟨qA, qn, qc⟩, ⟨gA, gn, gc⟩, Hk, Hm⟩ := H
                  simp only at hs hk hm'
                  subst hs hk hm'
                  have hq1 := hO.at_.qs.recs
                  have hg1 := hO.at_.gs.recs
                  simp only [cenQ] at hq1 hg1
                  have HX1 := Lib.hid hq1
                  have HY1 := Lib.hid hg1
                  clear hO hok hbad hq1 hg1
                  have hx := Bl.new w1 37 #[.slice none 0 0, .slice qA qn qc, .slice gA gn gc, .slice none 0 0, .slice none 0 0]
                  have HB2 := Lib.hid (HB1.out.alloc HB1.out.size (.cells #[.slice none 0 0, .slice qA qn qc, .slice gA gn gc, .slice none 0 0, .slice none 0 0] 37))
                  have HQ2 := Lib.hid (HQ1.out.alloc (.cells #[.slice none 0 0, .slice qA qn qc, .slice gA gn gc, .slice none 0 0, .slice none 0 0] 37))
                  have HG2 := Lib.hid (HG1.out.alloc (.cells #[.slice none 0 0, .slice qA qn qc, .slice gA gn gc, .slice none 0 0, .slice none 0 0] 37))
                  have HU2 : Hid (∀ g ∈ zs, Recs enc2 2 (w1.alloc (.cells #[.slice none 0 0, .slice qA qn qc, .slice gA gn gc, .slice none 0 0, .slice none 0 0] 37)) g.A g.n g.us) := fun g hg => (HU1.out g hg).alloc _
                  have HX2 := Lib.hid (HX1.out.alloc (.cells #[.slice none 0 0, .slice qA qn qc, .slice gA gn gc, .slice none 0 0, .slice none 0 0] 37))
                  have HY2 := Lib.hid (HY1.out.alloc (.cells #[.slice none 0 0, .slice qA qn qc, .slice gA gn gc, .slice none 0 0, .slice none 0 0] 37))
                  go_upto_region 21 with (fail)
                  generalize w1.alloc (.cells #[.slice none 0 0, .slice qA qn qc, .slice gA gn gc, .slice none 0 0, .slice none 0 0] 37) = W2 at *
                  generalize w1.heap.size = gx at *
                  have HC2 := Lib.hid (HREF.out (Bx) (k) (dx) (Bz) (k2) (dz) (xs) (zs) W2 HQ2.out HG2.out HU2.out)
                  go_wp2_with fail
                  refine HC2.out.mono ?_
                  rintro e w3 ⟨H', er', rfl, he', hok', hbad', hb3⟩
                  obtain rfl : er' = 0 := he'.trans HE.out.symm
                  have HB3 := Lib.hid (HB2.out.trans (hb3.mono HB2.out.size))
                  have hx3 := hx.keep hb3
                  have HS3 := Lib.hid hb3
                  obtain ⟨hs', hk', hm', hq', hg', hz'⟩ := hok' rfl
                  obtain ⟨Hs', ⟨qA', qn', qc'⟩, ⟨gA', gn', gc'⟩, Hk', Hm'⟩ := H'
                  simp only at hs' hk' hm' hq' hg'
                  subst hs' hk' hm'
                  obtain rfl : qn' = qn := hq'.1.symm.trans HX2.out.1
                  have hgl := HY2.out.1
                  rw [List.length_map] at hgl
                  obtain rfl : gn' = gn := hg'.1.symm.trans hgl
                  have HXX := Lib.hid hq'
                  have HYY := Lib.hid hg'
                  have HZZ := Lib.hid hz'
                  have HX3 := Lib.hid (HX2.out.below hb3)
                  have HY3 := Lib.hid (HY2.out.below hb3)
                  clear hok' hbad' he' hq' hg' hz' hb3 hx
                  have HY4 := Lib.hid (Bl.new w3 37 #[.slice none 0 0, .slice qA' qn' qc', .slice gA' gn' gc', .slice none 0 0, .slice none 0 0])
                  have hx4 := hx3.alloc (.cells #[.slice none 0 0, .slice qA' qn' qc', .slice gA' gn' gc', .slice none 0 0, .slice none 0 0] 37)
                  have HB4 := Lib.hid (HB3.out.alloc HB3.out.size (.cells #[.slice none 0 0, .slice qA' qn' qc', .slice gA' gn' gc', .slice none 0 0, .slice none 0 0] 37))
                  have HSC := Lib.hid (sameCentral37 qA qA' gA gA' qn' gn' qc qc' gc gc' (xs) ((zs).map gr0) (zs) (w3.alloc (.cells #[.slice none 0 0, .slice qA' qn' qc', .slice gA' gn' gc', .slice none 0 0, .slice none 0 0] 37)) (HX3.out.alloc _) (HXX.out.alloc _) (HY3.out.alloc _) (HYY.out.alloc _) (by have h1 := newErr_len HE.out.symm; have h2 := HX3.out.1; rw [List.length_map] at h2; omega) (by have h1 := newErr_len HE.out.symm; have h2 := HYY.out.1; omega) (fun j hj => heads_same HU2.out HZZ.out j (by have := HYY.out.1; omega)))
                  go_upto_region 22 with (fail)
                  generalize w3.alloc (.cells #[.slice none 0 0, .slice qA' qn' qc', .slice gA' gn' gc', .slice none 0 0, .slice none 0 0] 37) = W4 at *
                  generalize w3.heap.size = gy at *
                  have x0 : W4.cell? ⟨gx, 0, none⟩ = some (.slice none 0 0) := hx4.c0
                  have y0 : W4.cell? ⟨gy, 0, none⟩ = some (.slice none 0 0) := HY4.out.c0
                  have x1 : W4.cell? ⟨gx, 1, none⟩ = some (.slice qA qn' qc) := hx4.c1
                  have y1 : W4.cell? ⟨gy, 1, none⟩ = some (.slice qA' qn' qc') := HY4.out.c1
                  have x2 : W4.cell? ⟨gx, 2, none⟩ = some (.slice gA gn' gc) := hx4.c2
                  have y2 : W4.cell? ⟨gy, 2, none⟩ = some (.slice gA' gn' gc') := HY4.out.c2
                  have x3 : W4.cell? ⟨gx, 3, none⟩ = some (.slice none 0 0) := hx4.c3
                  have y3 : W4.cell? ⟨gy, 3, none⟩ = some (.slice none 0 0) := HY4.out.c3
                  have x4 : W4.cell? ⟨gx, 4, none⟩ = some (.slice none 0 0) := hx4.c4
                  have y4 : W4.cell? ⟨gy, 4, none⟩ = some (.slice none 0 0) := HY4.out.c4
                  go_wp2_with fail
                  refine HSC.out.mono ?_
                  rintro e w5 ⟨rfl, hb5⟩
                  have HB5 := Lib.hid (HB4.out.trans (hb5.mono HB4.out.size))
                  clear hb5
                  go_wp2_with fail
                  refine (HAW.out _).mono ?_
                  rintro e w6 ⟨rfl, hb6⟩
                  go_wp2
                  go_ret
                  exact ⟨rfl, HB5.out.trans (hb6.mono HB5.out.size)⟩
                case neg =>
                  obtain rfl := hbad h0
                  simp only [hds0]
                  clear hok hbad
                  have hx := Bl.new w1 37 #[.slice none 0 0, .slice none 0 0, .slice none 0 0, .slice none 0 0, .slice none 0 0]
                  have HB2 := Lib.hid (HB1.out.alloc HB1.out.size (.cells #[.slice none 0 0, .slice none 0 0, .slice none 0 0, .slice none 0 0, .slice none 0 0] 37))
                  have HQ2 := Lib.hid (HQ1.out.alloc (.cells #[.slice none 0 0, .slice none 0 0, .slice none 0 0, .slice none 0 0, .slice none 0 0] 37))
                  have HG2 := Lib.hid (HG1.out.alloc (.cells #[.slice none 0 0, .slice none 0 0, .slice none 0 0, .slice none 0 0, .slice none 0 0] 37))
                  have HU2 : Hid (∀ g ∈ zs, Recs enc2 2 (w1.alloc (.cells #[.slice none 0 0, .slice none 0 0, .slice none 0 0, .slice none 0 0, .slice none 0 0] 37)) g.A g.n g.us) := fun g hg => (HU1.out g hg).alloc _
                  go_upto_region 21 with (fail)
                  generalize w1.alloc (.cells #[.slice none 0 0, .slice none 0 0, .slice none 0 0, .slice none 0 0, .slice none 0 0] 37) = W2 at *
                  generalize w1.heap.size = gx at *
                  have HC2 := Lib.hid (HREF.out (Bx) (k) (dx) (Bz) (k2) (dz) (xs) (zs) W2 HQ2.out HG2.out HU2.out)
                  go_wp2_with fail
                  refine HC2.out.mono ?_
                  rintro e w3 ⟨H', er', rfl, he', hok', hbad', hb3⟩
                  obtain rfl : er' = er := he'.trans HE.out.symm
                  have HB3 := Lib.hid (HB2.out.trans (hb3.mono HB2.out.size))
                  have hx3 := hx.keep hb3
                  have HS3 := Lib.hid hb3
                  obtain rfl := hbad' h0
                  simp only [hds0]
                  clear hok' hbad' he' hb3 hx
                  have HY4 := Lib.hid (Bl.new w3 37 #[.slice none 0 0, .slice none 0 0, .slice none 0 0, .slice none 0 0, .slice none 0 0])
                  have hx4 := hx3.alloc (.cells #[.slice none 0 0, .slice none 0 0, .slice none 0 0, .slice none 0 0, .slice none 0 0] 37)
                  have HB4 := Lib.hid (HB3.out.alloc HB3.out.size (.cells #[.slice none 0 0, .slice none 0 0, .slice none 0 0, .slice none 0 0, .slice none 0 0] 37))
                  have HSC := Lib.hid (sameCentral37 none none none none 0 0 0 0 0 0 [] [] [] (w3.alloc (.cells #[.slice none 0 0, .slice none 0 0, .slice none 0 0, .slice none 0 0, .slice none 0 0] 37)) Recs.nil Recs.nil Recs.nil Recs.nil (by omega) (by omega) (fun j hj => by omega))
                  go_upto_region 22 with (fail)
                  generalize w3.alloc (.cells #[.slice none 0 0, .slice none 0 0, .slice none 0 0, .slice none 0 0, .slice none 0 0] 37) = W4 at *
                  generalize w3.heap.size = gy at *
                  have x0 : W4.cell? ⟨gx, 0, none⟩ = some (.slice none 0 0) := hx4.c0
                  have y0 : W4.cell? ⟨gy, 0, none⟩ = some (.slice none 0 0) := HY4.out.c0
                  have x1 : W4.cell? ⟨gx, 1, none⟩ = some (.slice none 0 0) := hx4.c1
                  have y1 : W4.cell? ⟨gy, 1, none⟩ = some (.slice none 0 0) := HY4.out.c1
                  have x2 : W4.cell? ⟨gx, 2, none⟩ = some (.slice none 0 0) := hx4.c2
                  have y2 : W4.cell? ⟨gy, 2, none⟩ = some (.slice none 0 0) := HY4.out.c2
                  have x3 : W4.cell? ⟨gx, 3, none⟩ = some (.slice none 0 0) := hx4.c3
                  have y3 : W4.cell? ⟨gy, 3, none⟩ = some (.slice none 0 0) := HY4.out.c3
                  have x4 : W4.cell? ⟨gx, 4, none⟩ = some (.slice none 0 0) := hx4.c4
                  have y4 : W4.cell? ⟨gy, 4, none⟩ = some (.slice none 0 0) := HY4.out.c4
                  go_wp2_with fail
                  refine HSC.out.mono ?_
                  rintro e w5 ⟨rfl, hb5⟩
                  have HB5 := Lib.hid (HB4.out.trans (hb5.mono HB4.out.size))
                  clear hb5
                  go_wp2_with fail
                  refine (HAW.out _).mono ?_
                  rintro e w6 ⟨rfl, hb6⟩
                  go_wp2
                  go_ret
                  exact ⟨rfl, HB5.out.trans (hb6.mono HB5.out.size)⟩
              · have dk : decide (k2 < m) = false := by simpa using hm1
                clear hlt
                have HQF : Hid (Recs encQ 4 wr Bx k xs) := Recs.of_own encQ_len HXO.out (own_lenK encQ_len (by omega) HXO.out)
                have HGF : Hid (Recs encGu 4 wr Bz k2 zs) := Recs.of_own encGu_len HO.out (own_lenK encGu_len (by omega) HO.out)
                have HUF : Hid (∀ g ∈ zs, Recs enc2 2 wr g.A g.n g.us) := fun g hg => Recs.of_own enc2_len (HUZ.out g hg) (own_lenK enc2_len (by omega) (HUZ.out g hg))
                clear HO HXO HUZ
                have HC1 := Lib.hid (HNEW.out (Bx) (k) (dx) (Bz) (k2) (dz) (xs) (zs) _ HQF.out HGF.out HUF.out)
                have HQ0 := Lib.hid HQF.out
                have HG0 := Lib.hid HGF.out
                have HU0 := Lib.hid HUF.out
                have HB0 := Lib.hid HB.out
                go_wp2_with fail
                refine HC1.out.mono ?_
                rintro e w1 ⟨H, er, rfl, he, hok, hbad, hb1⟩
                have HE := Lib.hid he
                have HB1 := Lib.hid (HB0.out.trans (hb1.mono HB0.out.size))
                have HQ1 := Lib.hid (HQ0.out.below hb1)
                have HG1 := Lib.hid (HG0.out.below hb1)
                have HU1 : Hid (∀ g ∈ zs, Recs enc2 2 w1 g.A g.n g.us) := fun g hg => (HU0.out g hg).below hb1
                have HNS := Lib.hid hb1.size
                clear he hb1 HQ0 HG0 HU0 HB0 HC1
                by_cases h0 : er = 0
                case pos =>
                  subst h0
                  obtain ⟨hO, hs, hk, hm'⟩ := hok rfl
                  obtain ⟨Hs, ⟨qA, qn, qc⟩, ⟨gA, gn, gc⟩, Hk, Hm⟩ := H
                  simp only at hs hk hm'
                  subst hs hk hm'
                  have hq1 := hO.at_.qs.recs
                  have hg1 := hO.at_.gs.recs
                  simp only [cenQ] at hq1 hg1
                  have HX1 := Lib.hid hq1
                  have HY1 := Lib.hid hg1
                  clear hO hok hbad hq1 hg1
                  have hx := Bl.new w1 37 #[.slice none 0 0, .slice qA qn qc, .slice gA gn gc, .slice none 0 0, .slice none 0 0]
                  have HB2 := Lib.hid (HB1.out.alloc HB1.out.size (.cells #[.slice none 0 0, .slice qA qn qc, .slice gA gn gc, .slice none 0 0, .slice none 0 0] 37))
                  have HQ2 := Lib.hid (HQ1.out.alloc (.cells #[.slice none 0 0, .slice qA qn qc, .slice gA gn gc, .slice none 0 0, .slice none 0 0] 37))
                  have HG2 := Lib.hid (HG1.out.alloc (.cells #[.slice none 0 0, .slice qA qn qc, .slice gA gn gc, .slice none 0 0, .slice none 0 0] 37))
                  have HU2 : Hid (∀ g ∈ zs, Recs enc2 2 (w1.alloc (.cells #[.slice none 0 0, .slice qA qn qc, .slice gA gn gc, .slice none 0 0, .slice none 0 0] 37)) g.A g.n g.us) := fun g hg => (HU1.out g hg).alloc _
                  have HX2 := Lib.hid (HX1.out.alloc (.cells #[.slice none 0 0, .slice qA qn qc, .slice gA gn gc, .slice none 0 0, .slice none 0 0] 37))
                  have HY2 := Lib.hid (HY1.out.alloc (.cells #[.slice none 0 0, .slice qA qn qc, .slice gA gn gc, .slice none 0 0, .slice none 0 0] 37))
                  go_upto_region 21 with (fail)
                  generalize w1.alloc (.cells #[.slice none 0 0, .slice qA qn qc, .slice gA gn gc, .slice none 0 0, .slice none 0 0] 37) = W2 at *
                  generalize w1.heap.size = gx at *
                  have HC2 := Lib.hid (HREF.out (Bx) (k) (dx) (Bz) (k2) (dz) (xs) (zs) W2 HQ2.out HG2.out HU2.out)
                  go_wp2_with fail
                  refine HC2.out.mono ?_
                  rintro e w3 ⟨H', er', rfl, he', hok', hbad', hb3⟩
                  obtain rfl : er' = 0 := he'.trans HE.out.symm
                  have HB3 := Lib.hid (HB2.out.trans (hb3.mono HB2.out.size))
                  have hx3 := hx.keep hb3
                  have HS3 := Lib.hid hb3
                  obtain ⟨hs', hk', hm', hq', hg', hz'⟩ := hok' rfl
                  obtain ⟨Hs', ⟨qA', qn', qc'⟩, ⟨gA', gn', gc'⟩, Hk', Hm'⟩ := H'
                  simp only at hs' hk' hm' hq' hg'
                  subst hs' hk' hm'
                  obtain rfl : qn' = qn := hq'.1.symm.trans HX2.out.1
                  have hgl := HY2.out.1
                  rw [List.length_map] at hgl
                  obtain rfl : gn' = gn := hg'.1.symm.trans hgl
                  have HXX := Lib.hid hq'
                  have HYY := Lib.hid hg'
                  have HZZ := Lib.hid hz'
                  have HX3 := Lib.hid (HX2.out.below hb3)
                  have HY3 := Lib.hid (HY2.out.below hb3)
                  clear hok' hbad' he' hq' hg' hz' hb3 hx
                  have HY4 := Lib.hid (Bl.new w3 37 #[.slice none 0 0, .slice qA' qn' qc', .slice gA' gn' gc', .slice none 0 0, .slice none 0 0])
                  have hx4 := hx3.alloc (.cells #[.slice none 0 0, .slice qA' qn' qc', .slice gA' gn' gc', .slice none 0 0, .slice none 0 0] 37)
                  have HB4 := Lib.hid (HB3.out.alloc HB3.out.size (.cells #[.slice none 0 0, .slice qA' qn' qc', .slice gA' gn' gc', .slice none 0 0, .slice none 0 0] 37))
                  have HSC := Lib.hid (sameCentral37 qA qA' gA gA' qn' gn' qc qc' gc gc' (xs) ((zs).map gr0) (zs) (w3.alloc (.cells #[.slice none 0 0, .slice qA' qn' qc', .slice gA' gn' gc', .slice none 0 0, .slice none 0 0] 37)) (HX3.out.alloc _) (HXX.out.alloc _) (HY3.out.alloc _) (HYY.out.alloc _) (by have h1 := newErr_len HE.out.symm; have h2 := HX3.out.1; rw [List.length_map] at h2; omega) (by have h1 := newErr_len HE.out.symm; have h2 := HYY.out.1; omega) (fun j hj => heads_same HU2.out HZZ.out j (by have := HYY.out.1; omega)))
                  go_upto_region 22 with (fail)
                  generalize w3.alloc (.cells #[.slice none 0 0, .slice qA' qn' qc', .slice gA' gn' gc', .slice none 0 0, .slice none 0 0] 37) = W4 at *
                  generalize w3.heap.size = gy at *
                  have x0 : W4.cell? ⟨gx, 0, none⟩ = some (.slice none 0 0) := hx4.c0
                  have y0 : W4.cell? ⟨gy, 0, none⟩ = some (.slice none 0 0) := HY4.out.c0
                  have x1 : W4.cell? ⟨gx, 1, none⟩ = some (.slice qA qn' qc) := hx4.c1
                  have y1 : W4.cell? ⟨gy, 1, none⟩ = some (.slice qA' qn' qc') := HY4.out.c1
                  have x2 : W4.cell? ⟨gx, 2, none⟩ = some (.slice gA gn' gc) := hx4.c2
                  have y2 : W4.cell? ⟨gy, 2, none⟩ = some (.slice gA' gn' gc') := HY4.out.c2
                  have x3 : W4.cell? ⟨gx, 3, none⟩ = some (.slice none 0 0) := hx4.c3
                  have y3 : W4.cell? ⟨gy, 3, none⟩ = some (.slice none 0 0) := HY4.out.c3
                  have x4 : W4.cell? ⟨gx, 4, none⟩ = some (.slice none 0 0) := hx4.c4
                  have y4 : W4.cell? ⟨gy, 4, none⟩ = some (.slice none 0 0) := HY4.out.c4
                  go_wp2_with fail
                  refine HSC.out.mono ?_
                  rintro e w5 ⟨rfl, hb5⟩
                  have HB5 := Lib.hid (HB4.out.trans (hb5.mono HB4.out.size))
                  clear hb5
                  go_wp2_with fail
                  refine (HAW.out _).mono ?_
                  rintro e w6 ⟨rfl, hb6⟩
                  go_wp2
                  go_ret
                  exact ⟨rfl, HB5.out.trans (hb6.mono HB5.out.size)⟩
                case neg =>
                  obtain rfl := hbad h0
                  simp only [hds0]
                  clear hok hbad
                  have hx := Bl.new w1 37 #[.slice none 0 0, .slice none 0 0, .slice none 0 0, .slice none 0 0, .slice none 0 0]
                  have HB2 := Lib.hid (HB1.out.alloc HB1.out.size (.cells #[.slice none 0 0, .slice none 0 0, .slice none 0 0, .slice none 0 0, .slice none 0 0] 37))
                  have HQ2 := Lib.hid (HQ1.out.alloc (.cells #[.slice none 0 0, .slice none 0 0, .slice none 0 0, .slice none 0 0, .slice none 0 0] 37))
                  have HG2 := Lib.hid (HG1.out.alloc (.cells #[.slice none 0 0, .slice none 0 0, .slice none 0 0, .slice none 0 0, .slice none 0 0] 37))
                  have HU2 : Hid (∀ g ∈ zs, Recs enc2 2 (w1.alloc (.cells #[.slice none 0 0, .slice none 0 0, .slice none 0 0, .slice none 0 0, .slice none 0 0] 37)) g.A g.n g.us) := fun g hg => (HU1.out g hg).alloc _
                  go_upto_region 21 with (fail)
                  generalize w1.alloc (.cells #[.slice none 0 0, .slice none 0 0, .slice none 0 0, .slice none 0 0, .slice none 0 0] 37) = W2 at *
                  generalize w1.heap.size = gx at *
                  have HC2 := Lib.hid (HREF.out (Bx) (k) (dx) (Bz) (k2) (dz) (xs) (zs) W2 HQ2.out HG2.out HU2.out)
                  go_wp2_with fail
                  refine HC2.out.mono ?_
                  rintro e w3 ⟨H', er', rfl, he', hok', hbad', hb3⟩
                  obtain rfl : er' = er := he'.trans HE.out.symm
                  have HB3 := Lib.hid (HB2.out.trans (hb3.mono HB2.out.size))
                  have hx3 := hx.keep hb3
                  have HS3 := Lib.hid hb3
                  obtain rfl := hbad' h0
                  simp only [hds0]
                  clear hok' hbad' he' hb3 hx
                  have HY4 := Lib.hid (Bl.new w3 37 #[.slice none 0 0, .slice none 0 0, .slice none 0 0, .slice none 0 0, .slice none 0 0])
                  have hx4 := hx3.alloc (.cells #[.slice none 0 0, .slice none 0 0, .slice none 0 0, .slice none 0 0, .slice none 0 0] 37)
                  have HB4 := Lib.hid (HB3.out.alloc HB3.out.size (.cells #[.slice none 0 0, .slice none 0 0, .slice none 0 0, .slice none 0 0, .slice none 0 0] 37))
                  have HSC := Lib.hid (sameCentral37 none none none none 0 0 0 0 0 0 [] [] [] (w3.alloc (.cells #[.slice none 0 0, .slice none 0 0, .slice none 0 0, .slice none 0 0, .slice none 0 0] 37)) Recs.nil Recs.nil Recs.nil Recs.nil (by omega) (by omega) (fun j hj => by omega))
                  go_upto_region 22 with (fail)
                  generalize w3.alloc (.cells #[.slice none 0 0, .slice none 0 0, .slice none 0 0, .slice none 0 0, .slice none 0 0] 37) = W4 at *
                  generalize w3.heap.size = gy at *
                  have x0 : W4.cell? ⟨gx, 0, none⟩ = some (.slice none 0 0) := hx4.c0
                  have y0 : W4.cell? ⟨gy, 0, none⟩ = some (.slice none 0 0) := HY4.out.c0
                  have x1 : W4.cell? ⟨gx, 1, none⟩ = some (.slice none 0 0) := hx4.c1
                  have y1 : W4.cell? ⟨gy, 1, none⟩ = some (.slice none 0 0) := HY4.out.c1
                  have x2 : W4.cell? ⟨gx, 2, none⟩ = some (.slice none 0 0) := hx4.c2
                  have y2 : W4.cell? ⟨gy, 2, none⟩ = some (.slice none 0 0) := HY4.out.c2
                  have x3 : W4.cell? ⟨gx, 3, none⟩ = some (.slice none 0 0) := hx4.c3
                  have y3 : W4.cell? ⟨gy, 3, none⟩ = some (.slice none 0 0) := HY4.out.c3
                  have x4 : W4.cell? ⟨gx, 4, none⟩ = some (.slice none 0 0) := hx4.c4
                  have y4 : W4.cell? ⟨gy, 4, none⟩ = some (.slice none 0 0) := HY4.out.c4
                  go_wp2_with fail
                  refine HSC.out.mono ?_
                  rintro e w5 ⟨rfl, hb5⟩
                  have HB5 := Lib.hid (HB4.out.trans (hb5.mono HB4.out.size))
                  clear hb5
                  go_wp2_with fail
                  refine (HAW.out _).mono ?_
                  rintro e w6 ⟨rfl, hb6⟩
                  go_wp2
                  go_ret
                  exact ⟨rfl, HB5.out.trans (hb6.mono HB5.out.size)⟩
        · have dk : decide (k < n) = false := by simpa using hn1
          clear hlt
          go_wp2_with fail
          go_loopw [12, 13] (fun z i wx => ∃ (k2 : Nat) (Bz : Option Addr) (dz : Nat) (zs : List Gb), i = .int .i64 k2 ∧ z = .slice Bz k2 dz ∧ k2 ≤ m ∧ k2 ≤ 18 ∧ Hid (wx.ownsRow w.heap.size 30 4 (.slice Bz k2 dz) k2 (flat encGu zs)) ∧ Hid (∀ g ∈ zs, wx.ownsRow w.heap.size 32 2 (.slice g.A g.n g.c) g.n (flat enc2 g.us)) ∧ Hid (wx.ownsRow w.heap.size 27 4 (.slice Bx k dx) k (flat encQ xs)) ∧ Hid (RowKit.Below w.heap.size w wx)) (fun _ i _ => m - (intOf i).toNat)
          case atStart => exact ⟨0, none, 0, [], rfl, rfl, Nat.zero_le _, Nat.zero_le _, own0G _ _, fun g hg => by (cases hg), HO, HB⟩
          case round =>
            clear HO HB
            obtain ⟨k2, Bz, dz, zs, rfl, rfl, hk2, hk218, HO, HUZ, HXO, HB⟩ := hrel
            by_cases hlt : k2 < m ∧ k2 < 18
            · obtain ⟨hlt, hlt18⟩ := hlt
              have hki : (k2 : Int) < m := by omega
              have hk18i : (k2 : Int) < 18 := by omega
              have dk : decide (k2 < m) = true := by simpa using hlt
              have dk18 : decide ((k2 : Int) < 18) = true := by simpa using hk18i
              obtain ⟨b, off, g0, hA, hbl, c0, c1, c2, c3, HX⟩ := (HG.out.below HB.out).getG hlt
              subst hA
              have HWC := Lib.hid (HW.out g0.h.ref 1000 wr (by omega) (by omega))
              obtain ⟨v, hv⟩ : ∃ v, g0.h.ref % 1000 = v := ⟨_, rfl⟩
              rw [hv] at HWC
              clear hv c0 c2 c3
              go_wp2_with fail
              refine HWC.out.mono ?_
              rintro e w1 ⟨rfl, rfl⟩
              have hy := Bl.new wr 30 #[.int .i64 ((k2 : Int) + 1), .int .i64 v, .int .i64 1000000, .slice none 0 0]
              have HB2 := Lib.hid (HB.out.alloc HB.out.size (.cells #[.int .i64 ((k2 : Int) + 1), .int .i64 v, .int .i64 1000000, .slice none 0 0] 30))
              have HO2 := Lib.hid (own_alloc HO.out (.cells #[.int .i64 ((k2 : Int) + 1), .int .i64 v, .int .i64 1000000, .slice none 0 0] 30))
              have HX2 := Lib.hid (own_alloc HXO.out (.cells #[.int .i64 ((k2 : Int) + 1), .int .i64 v, .int .i64 1000000, .slice none 0 0] 30))
              have HU2 : Hid (∀ g ∈ zs, (wr.alloc (.cells #[.int .i64 ((k2 : Int) + 1), .int .i64 v, .int .i64 1000000, .slice none 0 0] 30)).ownsRow w.heap.size 32 2 (.slice g.A g.n g.c) g.n (flat enc2 g.us)) := fun g hg => own_alloc (HUZ.out g hg) _
              have HLT2 : Hid (∀ j, (Value.slice Bz k2 dz).ownBlock = some j → j < wr.heap.size) := fun j hj => own_lt HO.out j hj
              have hgw : w.heap.size ≤ wr.heap.size := HB.out.size
              clear c1 hbl HB HO HXO HUZ HWC
              go_upto_region 16 with (fail)
              generalize wr.alloc (.cells #[.int .i64 ((k2 : Int) + 1), .int .i64 v, .int .i64 1000000, .slice none 0 0] 30) = W2 at *
              generalize wr.heap.size = gy at *
              by_cases hidn : k2 < ni
              · obtain ⟨b4, off4, z, hI, hbl4, c4, _⟩ := (HI.out.below HB2.out).get hidn
                subst hI
                have hidi : (k2 : Int) < ni := by omega
                have d4 : decide (k2 < ni) = true := by simpa using hidn
                obtain ⟨r, hr⟩ : ∃ r, z.tmod 7 = r := ⟨_, rfl⟩
                have hr7 := tmod7 z
                rw [hr] at hr7
                have u7 : IntKind.i64.wrap r = r := IntWalk.i64_in _ (by omega)
                by_cases g7 : r = 5
                · have b7 : (r == 5) = true := by simpa using g7
                  obtain ⟨gu, hgu⟩ : ∃ g, W2.heap.size = g := ⟨_, rfl⟩
                  have hgyl : gy < W2.heap.size := hy.lt
                  have HGU : Hid (w.heap.size ≤ gu) := by show _ ≤ _; rw [← hgu]; exact HB2.out.size
                  have p3 : W2.cell? ⟨gy, 3, none⟩ = some (.slice none 0 0) := hy.cell 3
                  have pf : W2.frozen? ⟨gy, 3, none⟩ = false := hy.free 3
                  have p3' : (W2.alloc (.cells #[.int .i64 1, .int .i64 0] 32)).cell? ⟨gy, 3, none⟩ = some (.slice none 0 0) := (hy.alloc _).cell 3
                  have pf' : (W2.alloc (.cells #[.int .i64 1, .int .i64 0] 32)).frozen? ⟨gy, 3, none⟩ = false := (hy.alloc _).free 3
                  have HOG : Hid (∀ j, (Value.slice Bz k2 dz).ownBlock = some j → j ≠ gy) := fun j hj e => by have := HLT2.out j hj; omega
                  have HXG : Hid (∀ j, (Value.slice Bx k dx).ownBlock = some j → j ≠ gy) := fun j hj e => own_apart HX2.out hy (by decide) (by rw [hj, e])
                  have HUG : Hid (∀ g ∈ zs, ∀ j, (Value.slice g.A g.n g.c).ownBlock = some j → j ≠ gy) := fun g hg j hj e => own_apart (HU2.out g hg) hy (by decide) (by rw [hj, e])
                  go_upto_region 18 with (fail)
                  clear p3 pf p3' pf'
                  have hy3 : Bl ((W2.alloc (.cells #[.int .i64 1, .int .i64 0] 32)).setCell ⟨gy, 3, none⟩ (.slice (some ⟨gu, 0, none⟩) 1 1)) gy 30 #[.int .i64 ((k2 : Int) + 1), .int .i64 v, .int .i64 1000000, .slice (some ⟨gu, 0, none⟩) 1 1] := by have := (hy.alloc (.cells #[.int .i64 1, .int .i64 0] 32)).put 3 (.slice (some ⟨gu, 0, none⟩) 1 1); simpa using this
                  have hu3 : Bl ((W2.alloc (.cells #[.int .i64 1, .int .i64 0] 32)).setCell ⟨gy, 3, none⟩ (.slice (some ⟨gu, 0, none⟩) 1 1)) gu 32 #[.int .i64 1, .int .i64 0] := by rw [← hgu]; exact (Bl.new W2 32 #[.int .i64 1, .int .i64 0]).far (p := ⟨gy, 3, none⟩) (by simp; omega) _
                  have HO3 : Hid (((W2.alloc (.cells #[.int .i64 1, .int .i64 0] 32)).setCell ⟨gy, 3, none⟩ (.slice (some ⟨gu, 0, none⟩) 1 1)).ownsRow w.heap.size 30 4 (.slice Bz k2 dz) k2 (flat encGu zs)) := own_of_block (own_alloc HO2.out _) fun j hj => Below.heap_setCell _ _ _ j (HOG.out j hj)
                  have HX3 : Hid (((W2.alloc (.cells #[.int .i64 1, .int .i64 0] 32)).setCell ⟨gy, 3, none⟩ (.slice (some ⟨gu, 0, none⟩) 1 1)).ownsRow w.heap.size 27 4 (.slice Bx k dx) k (flat encQ xs)) := own_of_block (own_alloc HX2.out _) fun j hj => Below.heap_setCell _ _ _ j (HXG.out j hj)
                  have HU3 : Hid (∀ g ∈ zs ++ [(⟨⟨(k2 : Int) + 1, v, 1000000⟩, some ⟨gu, 0, none⟩, 1, 1, [(1, 0)]⟩ : Gb)], ((W2.alloc (.cells #[.int .i64 1, .int .i64 0] 32)).setCell ⟨gy, 3, none⟩ (.slice (some ⟨gu, 0, none⟩) 1 1)).ownsRow w.heap.size 32 2 (.slice g.A g.n g.c) g.n (flat enc2 g.us)) := fun g hg => by
                    rcases List.mem_append.1 hg with hg | hg
                    · exact own_of_block (own_alloc (HU2.out g hg) _) fun j hj => Below.heap_setCell _ _ _ j (HUG.out g hg j hj)
                    · obtain rfl := List.mem_singleton.1 hg
                      exact own_lit37 hu3 HGU.out rfl (by show 1 ≤ 1000; omega)
                  have HB3 : Hid (RowKit.Below w.heap.size w ((W2.alloc (.cells #[.int .i64 1, .int .i64 0] 32)).setCell ⟨gy, 3, none⟩ (.slice (some ⟨gu, 0, none⟩) 1 1))) := (HB2.out.alloc HB2.out.size _).setCell (p := ⟨gy, 3, none⟩) hgw _
                  clear HO2 HX2 HU2 HB2 hu3 hy HLT2
                  generalize ((W2.alloc (.cells #[.int .i64 1, .int .i64 0] 32)).setCell ⟨gy, 3, none⟩ (.slice (some ⟨gu, 0, none⟩) 1 1)) = W3 at *
                  clear hgyl
                  try simp only [hgu]
                  have y0 : W3.cell? ⟨gy, 0, none⟩ = some (.int .i64 ((k2 : Int) + 1)) := hy3.cell 0
                  have y1 : W3.cell? ⟨gy, 1, none⟩ = some (.int .i64 v) := hy3.cell 1
                  have y2 : W3.cell? ⟨gy, 2, none⟩ = some (.int .i64 1000000) := hy3.cell 2
                  have y3 : W3.cell? ⟨gy, 3, none⟩ = some (.slice (some ⟨gu, 0, none⟩) 1 1) := hy3.cell 3
                  have HOE := Lib.hid (own_alloc HO3.out (.cells #[.int .i64 ((k2 : Int) + 1), .int .i64 v, .int .i64 1000000, .slice (some ⟨gu, 0, none⟩) 1 1] 30))
                  have HXE := Lib.hid (own_alloc HX3.out (.cells #[.int .i64 ((k2 : Int) + 1), .int .i64 v, .int .i64 1000000, .slice (some ⟨gu, 0, none⟩) 1 1] 30))
                  have HUE : Hid (∀ g ∈ zs ++ [(⟨⟨(k2 : Int) + 1, v, 1000000⟩, some ⟨gu, 0, none⟩, 1, 1, [(1, 0)]⟩ : Gb)], (W3.alloc (.cells #[.int .i64 ((k2 : Int) + 1), .int .i64 v, .int .i64 1000000, .slice (some ⟨gu, 0, none⟩) 1 1] 30)).ownsRow w.heap.size 32 2 (.slice g.A g.n g.c) g.n (flat enc2 g.us)) := fun g hg => own_alloc (HU3.out g hg) _
                  have HRD : Hid (Rd (W3.alloc (.cells #[.int .i64 ((k2 : Int) + 1), .int .i64 v, .int .i64 1000000, .slice (some ⟨gu, 0, none⟩) 1 1] 30)) 4 (some ⟨W3.heap.size, 0, none⟩) 1 (encGu (⟨⟨(k2 : Int) + 1, v, 1000000⟩, some ⟨gu, 0, none⟩, 1, 1, [(1, 0)]⟩ : Gb))) := rd_new W3 30 (encGu (⟨⟨(k2 : Int) + 1, v, 1000000⟩, some ⟨gu, 0, none⟩, 1, 1, [(1, 0)]⟩ : Gb))
                  have HON : Hid (∀ u ∈ encGu (⟨⟨(k2 : Int) + 1, v, 1000000⟩, some ⟨gu, 0, none⟩, 1, 1, [(1, 0)]⟩ : Gb), u.oneCell' = true) := encGu_one _
                  have HM1 : Hid (k2 + 1 ≤ maxLen ∧ (k2 + 1) * 48 ≤ 140737488355328) := ⟨by unfold maxLen; omega, by omega⟩
                  have HBA : Hid (RowKit.Below w.heap.size w (W3.alloc (.cells #[.int .i64 ((k2 : Int) + 1), .int .i64 v, .int .i64 1000000, .slice (some ⟨gu, 0, none⟩) 1 1] 30))) := HB3.out.alloc HB3.out.size _
                  have HOB := Lib.hid (fun j hj => own_base HOE.out j hj)
                  clear HO3 HX3 HU3 HB3
                  go_wp2_with (at_builtin; refine wpList_append_rd _ rfl (.tmp 93) (.tmp 95) 23 rfl w.heap.size 30 _ 4 48 Tryz.underlying23 info37G rfl (by decide) (.slice Bz k2 dz) k2 (flat encGu zs) rfl HOE.out (some ⟨W3.heap.size, 0, none⟩) 1 _ (encGu (⟨⟨(k2 : Int) + 1, v, 1000000⟩, some ⟨gu, 0, none⟩, 1, 1, [(1, 0)]⟩ : Gb)) rfl HRD.out HON.out HM1.out.1 HM1.out.2 HBA.out.size ?_; intro v8 w8 ho8 hg8 hv8; obtain ⟨B8, d8, rfl⟩ := own_slice ho8)
                  have HB8 : Hid (RowKit.Below w.heap.size w w8) := HBA.out.grown hg8 HBA.out.size (fun j hj => HOB.out j hj)
                  have HX8 : Hid (w8.ownsRow w.heap.size 27 4 (.slice Bx k dx) k (flat encQ xs)) := own_of_block HXE.out fun j hj => hg8.block j (own_lt HXE.out j hj) (own_diff HXE.out HOE.out (by decide) j hj)
                  have HU8 : Hid (∀ g ∈ zs ++ [(⟨⟨(k2 : Int) + 1, v, 1000000⟩, some ⟨gu, 0, none⟩, 1, 1, [(1, 0)]⟩ : Gb)], w8.ownsRow w.heap.size 32 2 (.slice g.A g.n g.c) g.n (flat enc2 g.us)) := fun g hg => own_of_block (HUE.out g hg) fun j hj => hg8.block j (own_lt (HUE.out g hg) j hj) (own_diff (HUE.out g hg) HOE.out (by decide) j hj)
                  have HO8 : Hid (w8.ownsRow w.heap.size 30 4 (.slice B8 (k2 + 1) d8) (k2 + 1) (flat encGu (zs ++ [(⟨⟨(k2 : Int) + 1, v, 1000000⟩, some ⟨gu, 0, none⟩, 1, 1, [(1, 0)]⟩ : Gb)]))) := by
                    show World.ownsRow _ _ _ _ _ _ _
                    rw [flat_append, flat_one]
                    exact ho8
                  clear ho8 hg8
                  go_roundw
                  case rel => exact ⟨k2 + 1, B8, d8, _, by go_num, rfl, by omega, by omega, HO8, HU8, HX8, HB8⟩
                  case measure => simp [intOf]; omega
                · have b7 : (r == 5) = false := by simpa using g7
                  clear g7
                  have HO3 := HO2
                  have HX3 := HX2
                  have HB3 := HB2
                  have HU3 : Hid (∀ g ∈ zs ++ [(⟨⟨(k2 : Int) + 1, v, 1000000⟩, none, 0, 0, []⟩ : Gb)], W2.ownsRow w.heap.size 32 2 (.slice g.A g.n g.c) g.n (flat enc2 g.us)) := fun g hg => by
                    rcases List.mem_append.1 hg with hg | hg
                    · exact HU2.out g hg
                    · obtain rfl := List.mem_singleton.1 hg
                      exact own0U _ _
                  clear HO2 HX2 HU2 HB2
                  go_upto_region 18 with (fail)
                  have y0 : W2.cell? ⟨gy, 0, none⟩ = some (.int .i64 ((k2 : Int) + 1)) := hy.cell 0
                  have y1 : W2.cell? ⟨gy, 1, none⟩ = some (.int .i64 v) := hy.cell 1
                  have y2 : W2.cell? ⟨gy, 2, none⟩ = some (.int .i64 1000000) := hy.cell 2
                  have y3 : W2.cell? ⟨gy, 3, none⟩ = some (.slice none 0 0) := hy.cell 3
                  have HOE := Lib.hid (own_alloc HO3.out (.cells #[.int .i64 ((k2 : Int) + 1), .int .i64 v, .int .i64 1000000, .slice none 0 0] 30))
                  have HXE := Lib.hid (own_alloc HX3.out (.cells #[.int .i64 ((k2 : Int) + 1), .int .i64 v, .int .i64 1000000, .slice none 0 0] 30))
                  have HUE : Hid (∀ g ∈ zs ++ [(⟨⟨(k2 : Int) + 1, v, 1000000⟩, none, 0, 0, []⟩ : Gb)], (W2.alloc (.cells #[.int .i64 ((k2 : Int) + 1), .int .i64 v, .int .i64 1000000, .slice none 0 0] 30)).ownsRow w.heap.size 32 2 (.slice g.A g.n g.c) g.n (flat enc2 g.us)) := fun g hg => own_alloc (HU3.out g hg) _
                  have HRD : Hid (Rd (W2.alloc (.cells #[.int .i64 ((k2 : Int) + 1), .int .i64 v, .int .i64 1000000, .slice none 0 0] 30)) 4 (some ⟨W2.heap.size, 0, none⟩) 1 (encGu (⟨⟨(k2 : Int) + 1, v, 1000000⟩, none, 0, 0, []⟩ : Gb))) := rd_new W2 30 (encGu (⟨⟨(k2 : Int) + 1, v, 1000000⟩, none, 0, 0, []⟩ : Gb))
                  have HON : Hid (∀ u ∈ encGu (⟨⟨(k2 : Int) + 1, v, 1000000⟩, none, 0, 0, []⟩ : Gb), u.oneCell' = true) := encGu_one _
                  have HM1 : Hid (k2 + 1 ≤ maxLen ∧ (k2 + 1) * 48 ≤ 140737488355328) := ⟨by unfold maxLen; omega, by omega⟩
                  have HBA : Hid (RowKit.Below w.heap.size w (W2.alloc (.cells #[.int .i64 ((k2 : Int) + 1), .int .i64 v, .int .i64 1000000, .slice none 0 0] 30))) := HB3.out.alloc HB3.out.size _
                  have HOB := Lib.hid (fun j hj => own_base HOE.out j hj)
                  clear HO3 HX3 HU3 HB3
                  go_wp2_with (at_builtin; refine wpList_append_rd _ rfl (.tmp 93) (.tmp 95) 23 rfl w.heap.size 30 _ 4 48 Tryz.underlying23 info37G rfl (by decide) (.slice Bz k2 dz) k2 (flat encGu zs) rfl HOE.out (some ⟨W2.heap.size, 0, none⟩) 1 _ (encGu (⟨⟨(k2 : Int) + 1, v, 1000000⟩, none, 0, 0, []⟩ : Gb)) rfl HRD.out HON.out HM1.out.1 HM1.out.2 HBA.out.size ?_; intro v8 w8 ho8 hg8 hv8; obtain ⟨B8, d8, rfl⟩ := own_slice ho8)
                  have HB8 : Hid (RowKit.Below w.heap.size w w8) := HBA.out.grown hg8 HBA.out.size (fun j hj => HOB.out j hj)
                  have HX8 : Hid (w8.ownsRow w.heap.size 27 4 (.slice Bx k dx) k (flat encQ xs)) := own_of_block HXE.out fun j hj => hg8.block j (own_lt HXE.out j hj) (own_diff HXE.out HOE.out (by decide) j hj)
                  have HU8 : Hid (∀ g ∈ zs ++ [(⟨⟨(k2 : Int) + 1, v, 1000000⟩, none, 0, 0, []⟩ : Gb)], w8.ownsRow w.heap.size 32 2 (.slice g.A g.n g.c) g.n (flat enc2 g.us)) := fun g hg => own_of_block (HUE.out g hg) fun j hj => hg8.block j (own_lt (HUE.out g hg) j hj) (own_diff (HUE.out g hg) HOE.out (by decide) j hj)
                  have HO8 : Hid (w8.ownsRow w.heap.size 30 4 (.slice B8 (k2 + 1) d8) (k2 + 1) (flat encGu (zs ++ [(⟨⟨(k2 : Int) + 1, v, 1000000⟩, none, 0, 0, []⟩ : Gb)]))) := by
                    show World.ownsRow _ _ _ _ _ _ _
                    rw [flat_append, flat_one]
                    exact ho8
                  clear ho8 hg8
                  go_roundw
                  case rel => exact ⟨k2 + 1, B8, d8, _, by go_num, rfl, by omega, by omega, HO8, HU8, HX8, HB8⟩
                  case measure => simp [intOf]; omega
              · have d4 : decide (k2 < ni) = false := by simpa using hidn
                have HO3 := HO2
                have HX3 := HX2
                have HB3 := HB2
                have HU3 : Hid (∀ g ∈ zs ++ [(⟨⟨(k2 : Int) + 1, v, 1000000⟩, none, 0, 0, []⟩ : Gb)], W2.ownsRow w.heap.size 32 2 (.slice g.A g.n g.c) g.n (flat enc2 g.us)) := fun g hg => by
                  rcases List.mem_append.1 hg with hg | hg
                  · exact HU2.out g hg
                  · obtain rfl := List.mem_singleton.1 hg
                    exact own0U _ _
                clear HO2 HX2 HU2 HB2
                go_upto_region 18 with (fail)
                have y0 : W2.cell? ⟨gy, 0, none⟩ = some (.int .i64 ((k2 : Int) + 1)) := hy.cell 0
                have y1 : W2.cell? ⟨gy, 1, none⟩ = some (.int .i64 v) := hy.cell 1
                have y2 : W2.cell? ⟨gy, 2, none⟩ = some (.int .i64 1000000) := hy.cell 2
                have y3 : W2.cell? ⟨gy, 3, none⟩ = some (.slice none 0 0) := hy.cell 3
                have HOE := Lib.hid (own_alloc HO3.out (.cells #[.int .i64 ((k2 : Int) + 1), .int .i64 v, .int .i64 1000000, .slice none 0 0] 30))
                have HXE := Lib.hid (own_alloc HX3.out (.cells #[.int .i64 ((k2 : Int) + 1), .int .i64 v, .int .i64 1000000, .slice none 0 0] 30))
                have HUE : Hid (∀ g ∈ zs ++ [(⟨⟨(k2 : Int) + 1, v, 1000000⟩, none, 0, 0, []⟩ : Gb)], (W2.alloc (.cells #[.int .i64 ((k2 : Int) + 1), .int .i64 v, .int .i64 1000000, .slice none 0 0] 30)).ownsRow w.heap.size 32 2 (.slice g.A g.n g.c) g.n (flat enc2 g.us)) := fun g hg => own_alloc (HU3.out g hg) _
                have HRD : Hid (Rd (W2.alloc (.cells #[.int .i64 ((k2 : Int) + 1), .int .i64 v, .int .i64 1000000, .slice none 0 0] 30)) 4 (some ⟨W2.heap.size, 0, none⟩) 1 (encGu (⟨⟨(k2 : Int) + 1, v, 1000000⟩, none, 0, 0, []⟩ : Gb))) := rd_new W2 30 (encGu (⟨⟨(k2 : Int) + 1, v, 1000000⟩, none, 0, 0, []⟩ : Gb))
                have HON : Hid (∀ u ∈ encGu (⟨⟨(k2 : Int) + 1, v, 1000000⟩, none, 0, 0, []⟩ : Gb), u.oneCell' = true) := encGu_one _
                have HM1 : Hid (k2 + 1 ≤ maxLen ∧ (k2 + 1) * 48 ≤ 140737488355328) := ⟨by unfold maxLen; omega, by omega⟩
                have HBA : Hid (RowKit.Below w.heap.size w (W2.alloc (.cells #[.int .i64 ((k2 : Int) + 1), .int .i64 v, .int .i64 1000000, .slice none 0 0] 30))) := HB3.out.alloc HB3.out.size _
                have HOB := Lib.hid (fun j hj => own_base HOE.out j hj)
                clear HO3 HX3 HU3 HB3
                go_wp2_with (at_builtin; refine wpList_append_rd _ rfl (.tmp 93) (.tmp 95) 23 rfl w.heap.size 30 _ 4 48 Tryz.underlying23 info37G rfl (by decide) (.slice Bz k2 dz) k2 (flat encGu zs) rfl HOE.out (some ⟨W2.heap.size, 0, none⟩) 1 _ (encGu (⟨⟨(k2 : Int) + 1, v, 1000000⟩, none, 0, 0, []⟩ : Gb)) rfl HRD.out HON.out HM1.out.1 HM1.out.2 HBA.out.size ?_; intro v8 w8 ho8 hg8 hv8; obtain ⟨B8, d8, rfl⟩ := own_slice ho8)
                have HB8 : Hid (RowKit.Below w.heap.size w w8) := HBA.out.grown hg8 HBA.out.size (fun j hj => HOB.out j hj)
                have HX8 : Hid (w8.ownsRow w.heap.size 27 4 (.slice Bx k dx) k (flat encQ xs)) := own_of_block HXE.out fun j hj => hg8.block j (own_lt HXE.out j hj) (own_diff HXE.out HOE.out (by decide) j hj)
                have HU8 : Hid (∀ g ∈ zs ++ [(⟨⟨(k2 : Int) + 1, v, 1000000⟩, none, 0, 0, []⟩ : Gb)], w8.ownsRow w.heap.size 32 2 (.slice g.A g.n g.c) g.n (flat enc2 g.us)) := fun g hg => own_of_block (HUE.out g hg) fun j hj => hg8.block j (own_lt (HUE.out g hg) j hj) (own_diff (HUE.out g hg) HOE.out (by decide) j hj)
                have HO8 : Hid (w8.ownsRow w.heap.size 30 4 (.slice B8 (k2 + 1) d8) (k2 + 1) (flat encGu (zs ++ [(⟨⟨(k2 : Int) + 1, v, 1000000⟩, none, 0, 0, []⟩ : Gb)]))) := by
                  show World.ownsRow _ _ _ _ _ _ _
                  rw [flat_append, flat_one]
                  exact ho8
                clear ho8 hg8
                go_roundw
                case rel => exact ⟨k2 + 1, B8, d8, _, by go_num, rfl, by omega, by omega, HO8, HU8, HX8, HB8⟩
                case measure => simp [intOf]; omega
            · by_cases hm1 : k2 < m
              · have dk : decide (k2 < m) = true := by simpa using hm1
                have dk18 : decide ((k2 : Int) < 18) = false := by simp; omega
                have hki : (k2 : Int) < m := by omega
                clear hlt
                have HQF : Hid (Recs encQ 4 wr Bx k xs) := Recs.of_own encQ_len HXO.out (own_lenK encQ_len (by omega) HXO.out)
                have HGF : Hid (Recs encGu 4 wr Bz k2 zs) := Recs.of_own encGu_len HO.out (own_lenK encGu_len (by omega) HO.out)
                have HUF : Hid (∀ g ∈ zs, Recs enc2 2 wr g.A g.n g.us) := fun g hg => Recs.of_own enc2_len (HUZ.out g hg) (own_lenK enc2_len (by omega) (HUZ.out g hg))
                clear HO HXO HUZ
                have HC1 := Lib.hid (HNEW.out (Bx) (k) (dx) (Bz) (k2) (dz) (xs) (zs) _ HQF.out HGF.out HUF.out)
                have HQ0 := Lib.hid HQF.out
                have HG0 := Lib.hid HGF.out
                have HU0 := Lib.hid HUF.out
                have HB0 := Lib.hid HB.out
                go_wp2_with fail
                refine HC1.out.mono ?_
                rintro e w1 ⟨H, er, rfl, he, hok, hbad, hb1⟩
                have HE := Lib.hid he
                have HB1 := Lib.hid (HB0.out.trans (hb1.mono HB0.out.size))
                have HQ1 := Lib.hid (HQ0.out.below hb1)
                have HG1 := Lib.hid (HG0.out.below hb1)
                have HU1 : Hid (∀ g ∈ zs, Recs enc2 2 w1 g.A g.n g.us) := fun g hg => (HU0.out g hg).below hb1
                have HNS := Lib.hid hb1.size
                clear he hb1 HQ0 HG0 HU0 HB0 HC1
                by_cases h0 : er = 0
                case pos =>
                  subst h0
                  obtain ⟨hO, hs, hk, hm'⟩ := hok rfl
                  obtain ⟨Hs, ⟨qA, qn, qc⟩, ⟨gA, gn, gc⟩, Hk, Hm⟩ := H
                  simp only at hs hk hm'
                  subst hs hk hm'
                  have hq1 := hO.at_.qs.recs
                  have hg1 := hO.at_.gs.recs
                  simp only [cenQ] at hq1 hg1
                  have HX1 := Lib.hid hq1
                  have HY1 := Lib.hid hg1
                  clear hO hok hbad hq1 hg1
                  have hx := Bl.new w1 37 #[.slice none 0 0, .slice qA qn qc, .slice gA gn gc, .slice none 0 0, .slice none 0 0]
                  have HB2 := Lib.hid (HB1.out.alloc HB1.out.size (.cells #[.slice none 0 0, .slice qA qn qc, .slice gA gn gc, .slice none 0 0, .slice none 0 0] 37))
                  have HQ2 := Lib.hid (HQ1.out.alloc (.cells #[.slice none 0 0, .slice qA qn qc, .slice gA gn gc, .slice none 0 0, .slice none 0 0] 37))
                  have HG2 := Lib.hid (HG1.out.alloc (.cells #[.slice none 0 0, .slice qA qn qc, .slice gA gn gc, .slice none 0 0, .slice none 0 0] 37))
                  have HU2 : Hid (∀ g ∈ zs, Recs enc2 2 (w1.alloc (.cells #[.slice none 0 0, .slice qA qn qc, .slice gA gn gc, .slice none 0 0, .slice none 0 0] 37)) g.A g.n g.us) := fun g hg => (HU1.out g hg).alloc _
                  have HX2 := Lib.hid (HX1.out.alloc (.cells #[.slice none 0 0, .slice qA qn qc, .slice gA gn gc, .slice none 0 0, .slice none 0 0] 37))
                  have HY2 := Lib.hid (HY1.out.alloc (.cells #[.slice none 0 0, .slice qA qn qc, .slice gA gn gc, .slice none 0 0, .slice none 0 0] 37))
                  go_upto_region 21 with (fail)
                  generalize w1.alloc (.cells #[.slice none 0 0, .slice qA qn qc, .slice gA gn gc, .slice none 0 0, .slice none 0 0] 37) = W2 at *
                  generalize w1.heap.size = gx at *
                  have HC2 := Lib.hid (HREF.out (Bx) (k) (dx) (Bz) (k2) (dz) (xs) (zs) W2 HQ2.out HG2.out HU2.out)
                  go_wp2_with fail
                  refine HC2.out.mono ?_
                  rintro e w3 ⟨H', er', rfl, he', hok', hbad', hb3⟩
                  obtain rfl : er' = 0 := he'.trans HE.out.symm
                  have HB3 := Lib.hid (HB2.out.trans (hb3.mono HB2.out.size))
                  have hx3 := hx.keep hb3
                  have HS3 := Lib.hid hb3
                  obtain ⟨hs', hk', hm', hq', hg', hz'⟩ := hok' rfl
                  obtain ⟨Hs', ⟨qA', qn', qc'⟩, ⟨gA', gn', gc'⟩, Hk', Hm'⟩ := H'
                  simp only at hs' hk' hm' hq' hg'
                  subst hs' hk' hm'
                  obtain rfl : qn' = qn := hq'.1.symm.trans HX2.out.1
                  have hgl := HY2.out.1
                  rw [List.length_map] at hgl
                  obtain rfl : gn' = gn := hg'.1.symm.trans hgl
                  have HXX := Lib.hid hq'
                  have HYY := Lib.hid hg'
                  have HZZ := Lib.hid hz'
                  have HX3 := Lib.hid (HX2.out.below hb3)
                  have HY3 := Lib.hid (HY2.out.below hb3)
                  clear hok' hbad' he' hq' hg' hz' hb3 hx
                  have HY4 := Lib.hid (Bl.new w3 37 #[.slice none 0 0, .slice qA' qn' qc', .slice gA' gn' gc', .slice none 0 0, .slice none 0 0])
                  have hx4 := hx3.alloc (.cells #[.slice none 0 0, .slice qA' qn' qc', .slice gA' gn' gc', .slice none 0 0, .slice none 0 0] 37)
                  have HB4 := Lib.hid (HB3.out.alloc HB3.out.size (.cells #[.slice none 0 0, .slice qA' qn' qc', .slice gA' gn' gc', .slice none 0 0, .slice none 0 0] 37))
                  have HSC := Lib.hid (sameCentral37 qA qA' gA gA' qn' gn' qc qc' gc gc' (xs) ((zs).map gr0) (zs) (w3.alloc (.cells #[.slice none 0 0, .slice qA' qn' qc', .slice gA' gn' gc', .slice none 0 0, .slice none 0 0] 37)) (HX3.out.alloc _) (HXX.out.alloc _) (HY3.out.alloc _) (HYY.out.alloc _) (by have h1 := newErr_len HE.out.symm; have h2 := HX3.out.1; rw [List.length_map] at h2; omega) (by have h1 := newErr_len HE.out.symm; have h2 := HYY.out.1; omega) (fun j hj => heads_same HU2.out HZZ.out j (by have := HYY.out.1; omega)))
                  go_upto_region 22 with (fail)
                  generalize w3.alloc (.cells #[.slice none 0 0, .slice qA' qn' qc', .slice gA' gn' gc', .slice none 0 0, .slice none 0 0] 37) = W4 at *
                  generalize w3.heap.size = gy at *
                  have x0 : W4.cell? ⟨gx, 0, none⟩ = some (.slice none 0 0) := hx4.c0
                  have y0 : W4.cell? ⟨gy, 0, none⟩ = some (.slice none 0 0) := HY4.out.c0
                  have x1 : W4.cell? ⟨gx, 1, none⟩ = some (.slice qA qn' qc) := hx4.c1
                  have y1 : W4.cell? ⟨gy, 1, none⟩ = some (.slice qA' qn' qc') := HY4.out.c1
                  have x2 : W4.cell? ⟨gx, 2, none⟩ = some (.slice gA gn' gc) := hx4.c2
                  have y2 : W4.cell? ⟨gy, 2, none⟩ = some (.slice gA' gn' gc') := HY4.out.c2
                  have x3 : W4.cell? ⟨gx, 3, none⟩ = some (.slice none 0 0) := hx4.c3
                  have y3 : W4.cell? ⟨gy, 3, none⟩ = some (.slice none 0 0) := HY4.out.c3
                  have x4 : W4.cell? ⟨gx, 4, none⟩ = some (.slice none 0 0) := hx4.c4
                  have y4 : W4.cell? ⟨gy, 4, none⟩ = some (.slice none 0 0) := HY4.out.c4
                  go_wp2_with fail
                  refine HSC.out.mono ?_
                  rintro e w5 ⟨rfl, hb5⟩
                  have HB5 := Lib.hid (HB4.out.trans (hb5.mono HB4.out.size))
                  clear hb5
                  go_wp2_with fail
                  refine (HAW.out _).mono ?_
                  rintro e w6 ⟨rfl, hb6⟩
                  go_wp2
                  go_ret
                  exact ⟨rfl, HB5.out.trans (hb6.mono HB5.out.size)⟩
                case neg =>
                  obtain rfl := hbad h0
                  simp only [hds0]
                  clear hok hbad
                  have hx := Bl.new w1 37 #[.slice none 0 0, .slice none 0 0, .slice none 0 0, .slice none 0 0, .slice none 0 0]
                  have HB2 := Lib.hid (HB1.out.alloc HB1.out.size (.cells #[.slice none 0 0, .slice none 0 0, .slice none 0 0, .slice none 0 0, .slice none 0 0] 37))
                  have HQ2 := Lib.hid (HQ1.out.alloc (.cells #[.slice none 0 0, .slice none 0 0, .slice none 0 0, .slice none 0 0, .slice none 0 0] 37))
                  have HG2 := Lib.hid (HG1.out.alloc (.cells #[.slice none 0 0, .slice none 0 0, .slice none 0 0, .slice none 0 0, .slice none 0 0] 37))
                  have HU2 : Hid (∀ g ∈ zs, Recs enc2 2 (w1.alloc (.cells #[.slice none 0 0, .slice none 0 0, .slice none 0 0, .slice none 0 0, .slice none 0 0] 37)) g.A g.n g.us) := fun g hg => (HU1.out g hg).alloc _
                  go_upto_region 21 with (fail)
                  generalize w1.alloc (.cells #[.slice none 0 0, .slice none 0 0, .slice none 0 0, .slice none 0 0, .slice none 0 0] 37) = W2 at *
                  generalize w1.heap.size = gx at *
                  have HC2 := Lib.hid (HREF.out (Bx) (k) (dx) (Bz) (k2) (dz) (xs) (zs) W2 HQ2.out HG2.out HU2.out)
                  go_wp2_with fail
                  refine HC2.out.mono ?_
                  rintro e w3 ⟨H', er', rfl, he', hok', hbad', hb3⟩
                  obtain rfl : er' = er := he'.trans HE.out.symm
                  have HB3 := Lib.hid (HB2.out.trans (hb3.mono HB2.out.size))
                  have hx3 := hx.keep hb3
                  have HS3 := Lib.hid hb3
                  obtain rfl := hbad' h0
                  simp only [hds0]
                  clear hok' hbad' he' hb3 hx
                  have HY4 := Lib.hid (Bl.new w3 37 #[.slice none 0 0, .slice none 0 0, .slice none 0 0, .slice none 0 0, .slice none 0 0])
                  have hx4 := hx3.alloc (.cells #[.slice none 0 0, .slice none 0 0, .slice none 0 0, .slice none 0 0, .slice none 0 0] 37)
                  have HB4 := Lib.hid (HB3.out.alloc HB3.out.size (.cells #[.slice none 0 0, .slice none 0 0, .slice none 0 0, .slice none 0 0, .slice none 0 0] 37))
                  have HSC := Lib.hid (sameCentral37 none none none none 0 0 0 0 0 0 [] [] [] (w3.alloc (.cells #[.slice none 0 0, .slice none 0 0, .slice none 0 0, .slice none 0 0, .slice none 0 0] 37)) Recs.nil Recs.nil Recs.nil Recs.nil (by omega) (by omega) (fun j hj => by omega))
                  go_upto_region 22 with (fail)
                  generalize w3.alloc (.cells #[.slice none 0 0, .slice none 0 0, .slice none 0 0, .slice none 0 0, .slice none 0 0] 37) = W4 at *
                  generalize w3.heap.size = gy at *
                  have x0 : W4.cell? ⟨gx, 0, none⟩ = some (.slice none 0 0) := hx4.c0
                  have y0 : W4.cell? ⟨gy, 0, none⟩ = some (.slice none 0 0) := HY4.out.c0
                  have x1 : W4.cell? ⟨gx, 1, none⟩ = some (.slice none 0 0) := hx4.c1
                  have y1 : W4.cell? ⟨gy, 1, none⟩ = some (.slice none 0 0) := HY4.out.c1
                  have x2 : W4.cell? ⟨gx, 2, none⟩ = some (.slice none 0 0) := hx4.c2
                  have y2 : W4.cell? ⟨gy, 2, none⟩ = some (.slice none 0 0) := HY4.out.c2
                  have x3 : W4.cell? ⟨gx, 3, none⟩ = some (.slice none 0 0) := hx4.c3
                  have y3 : W4.cell? ⟨gy, 3, none⟩ = some (.slice none 0 0) := HY4.out.c3
                  have x4 : W4.cell? ⟨gx, 4, none⟩ = some (.slice none 0 0) := hx4.c4
                  have y4 : W4.cell? ⟨gy, 4, none⟩ = some (.slice none 0 0) := HY4.out.c4
                  go_wp2_with fail
                  refine HSC.out.mono ?_
                  rintro e w5 ⟨rfl, hb5⟩
                  have HB5 := Lib.hid (HB4.out.trans (hb5.mono HB4.out.size))
                  clear hb5
                  go_wp2_with fail
                  refine (HAW.out _).mono ?_
                  rintro e w6 ⟨rfl, hb6⟩
                  go_wp2
                  go_ret
                  exact ⟨rfl, HB5.out.trans (hb6.mono HB5.out.size)⟩
              · have dk : decide (k2 < m) = false := by simpa using hm1
                clear hlt
                have HQF : Hid (Recs encQ 4 wr Bx k xs) := Recs.of_own encQ_len HXO.out (own_lenK encQ_len (by omega) HXO.out)
                have HGF : Hid (Recs encGu 4 wr Bz k2 zs) := Recs.of_own encGu_len HO.out (own_lenK encGu_len (by omega) HO.out)
                have HUF : Hid (∀ g ∈ zs, Recs enc2 2 wr g.A g.n g.us) := fun g hg => Recs.of_own enc2_len (HUZ.out g hg) (own_lenK enc2_len (by omega) (HUZ.out g hg))
                clear HO HXO HUZ
                have HC1 := Lib.hid (HNEW.out (Bx) (k) (dx) (Bz) (k2) (dz) (xs) (zs) _ HQF.out HGF.out HUF.out)
                have HQ0 := Lib.hid HQF.out
                have HG0 := Lib.hid HGF.out
                have HU0 := Lib.hid HUF.out
                have HB0 := Lib.hid HB.out
                go_wp2_with fail
                refine HC1.out.mono ?_
                rintro e w1 ⟨H, er, rfl, he, hok, hbad, hb1⟩
                have HE := Lib.hid he
                have HB1 := Lib.hid (HB0.out.trans (hb1.mono HB0.out.size))
                have HQ1 := Lib.hid (HQ0.out.below hb1)
                have HG1 := Lib.hid (HG0.out.below hb1)
                have HU1 : Hid (∀ g ∈ zs, Recs enc2 2 w1 g.A g.n g.us) := fun g hg => (HU0.out g hg).below hb1
                have HNS := Lib.hid hb1.size
                clear he hb1 HQ0 HG0 HU0 HB0 HC1
                by_cases h0 : er = 0
                case pos =>
                  subst h0
                  obtain ⟨hO, hs, hk, hm'⟩ := hok rfl
                  obtain ⟨Hs, ⟨qA, qn, qc⟩, ⟨gA, gn, gc⟩, Hk, Hm⟩ := H
                  simp only at hs hk hm'
                  subst hs hk hm'
                  have hq1 := hO.at_.qs.recs
                  have hg1 := hO.at_.gs.recs
                  simp only [cenQ] at hq1 hg1
                  have HX1 := Lib.hid hq1
                  have HY1 := Lib.hid hg1
                  clear hO hok hbad hq1 hg1
                  have hx := Bl.new w1 37 #[.slice none 0 0, .slice qA qn qc, .slice gA gn gc, .slice none 0 0, .slice none 0 0]
                  have HB2 := Lib.hid (HB1.out.alloc HB1.out.size (.cells #[.slice none 0 0, .slice qA qn qc, .slice gA gn gc, .slice none 0 0, .slice none 0 0] 37))
                  have HQ2 := Lib.hid (HQ1.out.alloc (.cells #[.slice none 0 0, .slice qA qn qc, .slice gA gn gc, .slice none 0 0, .slice none 0 0] 37))
                  have HG2 := Lib.hid (HG1.out.alloc (.cells #[.slice none 0 0, .slice qA qn qc, .slice gA gn gc, .slice none 0 0, .slice none 0 0] 37))
                  have HU2 : Hid (∀ g ∈ zs, Recs enc2 2 (w1.alloc (.cells #[.slice none 0 0, .slice qA qn qc, .slice gA gn gc, .slice none 0 0, .slice none 0 0] 37)) g.A g.n g.us) := fun g hg => (HU1.out g hg).alloc _
                  have HX2 := Lib.hid (HX1.out.alloc (.cells #[.slice none 0 0, .slice qA qn qc, .slice gA gn gc, .slice none 0 0, .slice none 0 0] 37))
                  have HY2 := Lib.hid (HY1.out.alloc (.cells #[.slice none 0 0, .slice qA qn qc, .slice gA gn gc, .slice none 0 0, .slice none 0 0] 37))
                  go_upto_region 21 with (fail)
                  generalize w1.alloc (.cells #[.slice none 0 0, .slice qA qn qc, .slice gA gn gc, .slice none 0 0, .slice none 0 0] 37) = W2 at *
                  generalize w1.heap.size = gx at *
                  have HC2 := Lib.hid (HREF.out (Bx) (k) (dx) (Bz) (k2) (dz) (xs) (zs) W2 HQ2.out HG2.out HU2.out)
                  go_wp2_with fail
                  refine HC2.out.mono ?_
                  rintro e w3 ⟨H', er', rfl, he', hok', hbad', hb3⟩
                  obtain rfl : er' = 0 := he'.trans HE.out.symm
                  have HB3 := Lib.hid (HB2.out.trans (hb3.mono HB2.out.size))
                  have hx3 := hx.keep hb3
                  have HS3 := Lib.hid hb3
                  obtain ⟨hs', hk', hm', hq', hg', hz'⟩ := hok' rfl
                  obtain ⟨Hs', ⟨qA', qn', qc'⟩, ⟨gA', gn', gc'⟩, Hk', Hm'⟩ := H'
                  simp only at hs' hk' hm' hq' hg'
                  subst hs' hk' hm'
                  obtain rfl : qn' = qn := hq'.1.symm.trans HX2.out.1
                  have hgl := HY2.out.1
                  rw [List.length_map] at hgl
                  obtain rfl : gn' = gn := hg'.1.symm.trans hgl
                  have HXX := Lib.hid hq'
                  have HYY := Lib.hid hg'
                  have HZZ := Lib.hid hz'
                  have HX3 := Lib.hid (HX2.out.below hb3)
                  have HY3 := Lib.hid (HY2.out.below hb3)
                  clear hok' hbad' he' hq' hg' hz' hb3 hx
                  have HY4 := Lib.hid (Bl.new w3 37 #[.slice none 0 0, .slice qA' qn' qc', .slice gA' gn' gc', .slice none 0 0, .slice none 0 0])
                  have hx4 := hx3.alloc (.cells #[.slice none 0 0, .slice qA' qn' qc', .slice gA' gn' gc', .slice none 0 0, .slice none 0 0] 37)
                  have HB4 := Lib.hid (HB3.out.alloc HB3.out.size (.cells #[.slice none 0 0, .slice qA' qn' qc', .slice gA' gn' gc', .slice none 0 0, .slice none 0 0] 37))
                  have HSC := Lib.hid (sameCentral37 qA qA' gA gA' qn' gn' qc qc' gc gc' (xs) ((zs).map gr0) (zs) (w3.alloc (.cells #[.slice none 0 0, .slice qA' qn' qc', .slice gA' gn' gc', .slice none 0 0, .slice none 0 0] 37)) (HX3.out.alloc _) (HXX.out.alloc _) (HY3.out.alloc _) (HYY.out.alloc _) (by have h1 := newErr_len HE.out.symm; have h2 := HX3.out.1; rw [List.length_map] at h2; omega) (by have h1 := newErr_len HE.out.symm; have h2 := HYY.out.1; omega) (fun j hj => heads_same HU2.out HZZ.out j (by have := HYY.out.1; omega)))
                  go_upto_region 22 with (fail)
                  generalize w3.alloc (.cells #[.slice none 0 0, .slice qA' qn' qc', .slice gA' gn' gc', .slice none 0 0, .slice none 0 0] 37) = W4 at *
                  generalize w3.heap.size = gy at *
                  have x0 : W4.cell? ⟨gx, 0, none⟩ = some (.slice none 0 0) := hx4.c0
                  have y0 : W4.cell? ⟨gy, 0, none⟩ = some (.slice none 0 0) := HY4.out.c0
                  have x1 : W4.cell? ⟨gx, 1, none⟩ = some (.slice qA qn' qc) := hx4.c1
                  have y1 : W4.cell? ⟨gy, 1, none⟩ = some (.slice qA' qn' qc') := HY4.out.c1
                  have x2 : W4.cell? ⟨gx, 2, none⟩ = some (.slice gA gn' gc) := hx4.c2
                  have y2 : W4.cell? ⟨gy, 2, none⟩ = some (.slice gA' gn' gc') := HY4.out.c2
                  have x3 : W4.cell? ⟨gx, 3, none⟩ = some (.slice none 0 0) := hx4.c3
                  have y3 : W4.cell? ⟨gy, 3, none⟩ = some (.slice none 0 0) := HY4.out.c3
                  have x4 : W4.cell? ⟨gx, 4, none⟩ = some (.slice none 0 0) := hx4.c4
                  have y4 : W4.cell? ⟨gy, 4, none⟩ = some (.slice none 0 0) := HY4.out.c4
                  go_wp2_with fail
                  refine HSC.out.mono ?_
                  rintro e w5 ⟨rfl, hb5⟩
                  have HB5 := Lib.hid (HB4.out.trans (hb5.mono HB4.out.size))
                  clear hb5
                  go_wp2_with fail
                  refine (HAW.out _).mono ?_
                  rintro e w6 ⟨rfl, hb6⟩
                  go_wp2
                  go_ret
                  exact ⟨rfl, HB5.out.trans (hb6.mono HB5.out.size)⟩
                case neg =>
                  obtain rfl := hbad h0
                  simp only [hds0]
                  clear hok hbad
                  have hx := Bl.new w1 37 #[.slice none 0 0, .slice none 0 0, .slice none 0 0, .slice none 0 0, .slice none 0 0]
                  have HB2 := Lib.hid (HB1.out.alloc HB1.out.size (.cells #[.slice none 0 0, .slice none 0 0, .slice none 0 0, .slice none 0 0, .slice none 0 0] 37))
                  have HQ2 := Lib.hid (HQ1.out.alloc (.cells #[.slice none 0 0, .slice none 0 0, .slice none 0 0, .slice none 0 0, .slice none 0 0] 37))
                  have HG2 := Lib.hid (HG1.out.alloc (.cells #[.slice none 0 0, .slice none 0 0, .slice none 0 0, .slice none 0 0, .slice none 0 0] 37))
                  have HU2 : Hid (∀ g ∈ zs, Recs enc2 2 (w1.alloc (.cells #[.slice none 0 0, .slice none 0 0, .slice none 0 0, .slice none 0 0, .slice none 0 0] 37)) g.A g.n g.us) := fun g hg => (HU1.out g hg).alloc _
                  go_upto_region 21 with (fail)
                  generalize w1.alloc (.cells #[.slice none 0 0, .slice none 0 0, .slice none 0 0, .slice none 0 0, .slice none 0 0] 37) = W2 at *
                  generalize w1.heap.size = gx at *
                  have HC2 := Lib.hid (HREF.out (Bx) (k) (dx) (Bz) (k2) (dz) (xs) (zs) W2 HQ2.out HG2.out HU2.out)
                  go_wp2_with fail
                  refine HC2.out.mono ?_
                  rintro e w3 ⟨H', er', rfl, he', hok', hbad', hb3⟩
                  obtain rfl : er' = er := he'.trans HE.out.symm
                  have HB3 := Lib.hid (HB2.out.trans (hb3.mono HB2.out.size))
                  have hx3 := hx.keep hb3
                  have HS3 := Lib.hid hb3
                  obtain rfl := hbad' h0
                  simp only [hds0]
                  clear hok' hbad' he' hb3 hx
                  have HY4 := Lib.hid (Bl.new w3 37 #[.slice none 0 0, .slice none 0 0, .slice none 0 0, .slice none 0 0, .slice none 0 0])
                  have hx4 := hx3.alloc (.cells #[.slice none 0 0, .slice none 0 0, .slice none 0 0, .slice none 0 0, .slice none 0 0] 37)
                  have HB4 := Lib.hid (HB3.out.alloc HB3.out.size (.cells #[.slice none 0 0, .slice none 0 0, .slice none 0 0, .slice none 0 0, .slice none 0 0] 37))
                  have HSC := Lib.hid (sameCentral37 none none none none 0 0 0 0 0 0 [] [] [] (w3.alloc (.cells #[.slice none 0 0, .slice none 0 0, .slice none 0 0, .slice none 0 0, .slice none 0 0] 37)) Recs.nil Recs.nil Recs.nil Recs.nil (by omega) (by omega) (fun j hj => by omega))
                  go_upto_region 22 with (fail)
                  generalize w3.alloc (.cells #[.slice none 0 0, .slice none 0 0, .slice none 0 0, .slice none 0 0, .slice none 0 0] 37) = W4 at *
                  generalize w3.heap.size = gy at *
                  have x0 : W4.cell? ⟨gx, 0, none⟩ = some (.slice none 0 0) := hx4.c0
                  have y0 : W4.cell? ⟨gy, 0, none⟩ = some (.slice none 0 0) := HY4.out.c0
                  have x1 : W4.cell? ⟨gx, 1, none⟩ = some (.slice none 0 0) := hx4.c1
                  have y1 : W4.cell? ⟨gy, 1, none⟩ = some (.slice none 0 0) := HY4.out.c1
                  have x2 : W4.cell? ⟨gx, 2, none⟩ = some (.slice none 0 0) := hx4.c2
                  have y2 : W4.cell? ⟨gy, 2, none⟩ = some (.slice none 0 0) := HY4.out.c2
                  have x3 : W4.cell? ⟨gx, 3, none⟩ = some (.slice none 0 0) := hx4.c3
                  have y3 : W4.cell? ⟨gy, 3, none⟩ = some (.slice none 0 0) := HY4.out.c3
                  have x4 : W4.cell? ⟨gx, 4, none⟩ = some (.slice none 0 0) := hx4.c4
                  have y4 : W4.cell? ⟨gy, 4, none⟩ = some (.slice none 0 0) := HY4.out.c4
                  go_wp2_with fail
                  refine HSC.out.mono ?_
                  rintro e w5 ⟨rfl, hb5⟩
                  have HB5 := Lib.hid (HB4.out.trans (hb5.mono HB4.out.size))
                  clear hb5
                  go_wp2_with fail
                  refine (HAW.out _).mono ?_
                  rintro e w6 ⟨rfl, hb6⟩
                  go_wp2
                  go_ret
                  exact ⟨rfl, HB5.out.trans (hb6.mono HB5.out.size)⟩
end Go.Proofs.YtdbcbbiplkikcaaGreat

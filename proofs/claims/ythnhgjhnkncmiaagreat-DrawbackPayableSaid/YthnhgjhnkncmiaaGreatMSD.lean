/-
  The law DrawbackPayable returns true. No conditions beyond the row's own.
-/
import Derived.Test.YthnhgjhnkncmiaaGreatMAN
import Derived.Test.YthnhgjhnkncmiaaGreatMAW
import Derived.Test.YthnhgjhnkncmiaaGreatMAX
namespace Go.Proofs.YthnhgjhnkncmiaaGreat
open Go.RowKit
set_option linter.unusedVariables false

/-- What both packages' payouts are, without cases. -/
theorem PoutRes.get {w w' : World} {n : Nat} {cs : List Clm} {d p : List Ch} {e : Ending} {er : Int} {ln : Nat} {rs : List Po} (h : PoutRes w n cs d p e w') (he : poErr d p cs = er) (hn : ln = if er = 0 then n else 0) (hr : rs = if er = 0 then cs.map (poOf d p) else []) :
    ∃ (B : Option Addr) (k : Nat), e = .returned (.tuple #[.slice B ln k, .int .i64 er]) ∧ Hid (Recs encPo 3 w' B ln rs) ∧ Hid (RowKit.Below w.heap.size w w') := by
  subst he
  by_cases h0 : poErr d p cs = 0
  · rw [if_pos h0] at hn hr
    subst hn hr
    obtain ⟨B, k, h1, h2⟩ := h.1 h0
    exact ⟨B, k, by rw [h1, h0], h2, h.2.2⟩
  · rw [if_neg h0] at hn hr
    subst hn hr
    exact ⟨none, 0, h.2.1 h0, Recs.nil, h.2.2⟩
theorem put6 {w : World} {N r : Nat} {w' : World} (h : RowKit.Below N w w') (hr : N ≤ r) (a b c d e f : Value) : RowKit.Below N w ((((((w'.setCell ⟨r, 0, none⟩ a).setCell ⟨r, 1, none⟩ b).setCell ⟨r, 2, none⟩ c).setCell ⟨r, 3, none⟩ d).setCell ⟨r, 4, none⟩ e).setCell ⟨r, 5, none⟩ f) :=
  (put5 h hr a b c d e).setCell (p := ⟨r, 5, none⟩) hr f
/-- The address leads elsewhere. -/
def Far (n : Nat) (A : Option Addr) (g : Nat) : Prop := 0 < n → ∀ b off, A = some ⟨b, off, none⟩ → b ≠ g
theorem Far.ty {w : World} {A : Option Addr} {T U : TypeId} {n g : Nat} {cs : Array Value} (h : TyA w A T) (hb : Bl w g U cs) (hne : T ≠ U) : Far n A g := fun _ b off e e2 => by
  obtain ⟨ds, hd⟩ := h b off e
  subst e2
  exact bl_inj hd hb hne rfl
theorem Far.low {α : Type} [Inhabited α] {enc : α → List Value} {k : Nat} {w : World} {A : Option Addr} {n g : Nat} {xs : List α} (h : Recs enc k w A n xs) (hg : w.heap.size ≤ g) : Far n A g := fun h0 b off e e2 => by
  obtain ⟨b', off', e3, hb, _⟩ := h.2 h0
  rw [e] at e3
  injection e3 with e3
  injection e3 with e4 e5
  omega
theorem Recs.kp {α : Type} [Inhabited α] {enc : α → List Value} {k : Nat} {W wx : World} {g : Nat} {A : Option Addr} {n : Nat} {xs : List α} (h : Recs enc k W A n xs) (hf : Far n A g) (hk : Kp g W wx) : Recs enc k wx A n xs := by
  refine ⟨h.1, fun h0 => ?_⟩
  obtain ⟨b, off, e, hb, hc⟩ := h.2 h0
  refine ⟨b, off, e, Nat.lt_of_lt_of_le hb hk.size, fun i hi c' hcc => ?_⟩
  rw [← hc i hi c' hcc]
  exact World.cell?_of_block (a := ⟨b, off + i * k + c', none⟩) (hk.block b hb (hf h0 b off e))
theorem kp6 {W : World} {g : Nat} (a b c d e f : Value) : Kp g W ((((((W.setCell ⟨g, 0, none⟩ a).setCell ⟨g, 1, none⟩ b).setCell ⟨g, 2, none⟩ c).setCell ⟨g, 3, none⟩ d).setCell ⟨g, 4, none⟩ e).setCell ⟨g, 5, none⟩ f) :=
  (((((((Kp.refl g W).put 0 a).put 1 b).put 2 c).put 3 d).put 4 e).put 5 f)
/-- The claims while an older box is written. -/
theorem clAt_kp {N : Nat} {W wx : World} {g : Nat} {A : Option Addr} {n d : Nat} {xs : List Cb} {cs : Array Value} (h : ClAt W A n xs) (ho : W.ownsRow N 39 6 (.slice A n d) n (flat encCl xs)) (hg : g < N) (ht : ∀ b ∈ xs, TyA W b.A 68) (hb : Bl W g 39 cs) (hk : Kp g W wx) : ClAt wx A n xs := by
  refine ⟨⟨Recs.kp h.cls.recs (fun h0 b off e e2 => ?_) hk, h.cls.plain, h.cls.nil⟩, fun b hb2 => ⟨⟨Recs.kp (h.sls b hb2).1.recs (Far.ty (ht b hb2) hb (by decide)) hk, (h.sls b hb2).1.plain, (h.sls b hb2).1.nil⟩, (h.sls b hb2).2⟩⟩
  have := own_base ho b (by rw [e]; rfl)
  omega
set_option maxRecDepth 100000 in
set_option maxHeartbeats 32000000 in
theorem drawbackPayable_any (A0 : Option Addr) (n0 c0 : Nat) (xs0 : List Int) (A1 : Option Addr) (n1 c1 : Nat) (xs1 : List Int) (A2 : Option Addr) (n2 c2 : Nat) (xs2 : List Int) (A3 : Option Addr) (n3 c3 : Nat) (xs3 : List Int) (RA : Option Addr) (rn rc : Nat) (rs : List Ch) (x : Clm) (XA : Option Addr) (xn xc : Nat) (wild : Int) (w : World) (h0 : Ints w A0 n0 xs0) (hnc0 : n0 ≤ c0) (hcm0 : c0 ≤ 9223372036854775807) (h1 : Ints w A1 n1 xs1) (hnc1 : n1 ≤ c1) (hcm1 : c1 ≤ 9223372036854775807) (h2 : Ints w A2 n2 xs2) (hnc2 : n2 ≤ c2) (hcm2 : c2 ≤ 9223372036854775807) (h3 : Ints w A3 n3 xs3) (hnc3 : n3 ≤ c3) (hcm3 : c3 ≤ 9223372036854775807) (hr : Recs encCh 3 w RA rn rs) (hx : Recs encSl 3 w XA xn x.sl) (hxc : xn ≤ xc) (hxm : xc ≤ 9223372036854775807) :
    Calls Tryz.prog 5 #[.slice A0 n0 c0, .slice A1 n1 c1, .slice A2 n2 c2, .slice A3 n3 c3, .slice RA rn rc, .agg #[.int .i64 x.num, .int .i64 x.lot, .int .i64 x.sch, .int .i64 x.qty, .int .i64 x.rate, .slice XA xn xc], .int .i64 wild] w (BRes w true) := by
  have HAW := Lib.hid awake29_any
  -- the claim's box
  have HB0 : Hid (RowKit.Below w.heap.size w (w.alloc (.cells #[.int .i64 x.num, .int .i64 x.lot, .int .i64 x.sch, .int .i64 x.qty, .int .i64 x.rate, .slice XA xn xc] 39))) := (Below.refl _ _).alloc (Nat.le_refl _) _
  have HC0 : Hid (Bl (w.alloc (.cells #[.int .i64 x.num, .int .i64 x.lot, .int .i64 x.sch, .int .i64 x.qty, .int .i64 x.rate, .slice XA xn xc] 39)) w.heap.size 39 #[.int .i64 x.num, .int .i64 x.lot, .int .i64 x.sch, .int .i64 x.qty, .int .i64 x.rate, .slice XA xn xc]) := Bl.new _ _ _
  have HMK := Lib.hid (Make_any A0 n0 c0 xs0 (w.alloc (.cells #[.int .i64 x.num, .int .i64 x.lot, .int .i64 x.sch, .int .i64 x.qty, .int .i64 x.rate, .slice XA xn xc] 39)) (h0.below HB0.out) hnc0 hcm0)
  have HI1 := Lib.hid h1
  have HI2 := Lib.hid h2
  have HI3 := Lib.hid h3
  have HRR := Lib.hid hr
  have HXR := Lib.hid hx
  have hn1 : n1 ≤ 9223372036854775807 := by omega
  have hn2 : n2 ≤ 9223372036854775807 := by omega
  clear h0 h1 h2 h3 hnc0 hcm0 hnc1 hcm1 hnc2 hcm2 hr hx
  go_enter Tryz.func5, Tryz.ntmps5
  go_upto_region 1 with (fail)
  generalize w.alloc (.cells #[.int .i64 x.num, .int .i64 x.lot, .int .i64 x.sch, .int .i64 x.qty, .int .i64 x.rate, .slice XA xn xc] 39) = W0 at *
  obtain ⟨gc, hgc⟩ : ∃ gc, w.heap.size = gc := ⟨_, rfl⟩
  rw [hgc] at HC0 ⊢
  have HGC : Hid (w.heap.size ≤ gc) := Nat.le_of_eq hgc
  have HGE := Lib.hid hgc
  clear hgc
  go_wp2_with fail
  refine HMK.out.mono ?_
  rintro e w1 ⟨SA, sn, sc, bs, B, k, d0, cs, free, rfl, hM, hb1⟩
  have HM : Hid (Made W0 (w1.alloc (.cells #[.slice SA sn sc, .slice B k d0, .int .i64 free] 26)) SA sn sc bs B k d0 cs free) := ⟨hM.st.below ((Below.refl _ _).alloc (Nat.le_refl _) _), own_alloc hM.own _, hM.kl, hM.few, hM.ok, hM.free⟩
  have HB1 : Hid (RowKit.Below W0.heap.size W0 (w1.alloc (.cells #[.slice SA sn sc, .slice B k d0, .int .i64 free] 26))) := hb1.alloc hb1.size _
  have HX1 : Hid (Bl (w1.alloc (.cells #[.slice SA sn sc, .slice B k d0, .int .i64 free] 26)) w1.heap.size 26 #[.slice SA sn sc, .slice B k d0, .int .i64 free]) := Bl.new _ _ _
  clear hM hb1 HMK
  go_upto_region 2 with (fail)
  generalize w1.alloc (.cells #[.slice SA sn sc, .slice B k d0, .int .i64 free] 26) = W1 at *
  generalize w1.heap.size = gx at *
  have z0 : W1.cell? ⟨gx, 0, none⟩ = some (.slice SA sn sc) := HX1.out.cell 0
  have z1 : W1.cell? ⟨gx, 1, none⟩ = some (.slice B k d0) := HX1.out.cell 1
  have z2 : W1.cell? ⟨gx, 2, none⟩ = some (.int .i64 free) := HX1.out.cell 2
  have HBw : Hid (RowKit.Below w.heap.size w W1) := HB0.out.trans (HB1.out.mono HB0.out.size)
  have HCH := Lib.hid (charges_any SA sn sc B k d0 free cs A1 n1 c1 xs1 A2 n2 c2 xs2 W1 (Recs.of_own encCh_len HM.out.own HM.out.kl) HM.out.few (HI1.out.below HBw.out) hn1 (HI2.out.below HBw.out) hn2)
  go_wp2_with fail
  refine HCH.out.mono ?_
  rintro e W2 ⟨DA, dn, dc, PA, pn, pc, d, p, j, rfl, HDA, HPA, hcd, hcp, hj, hb2⟩
  have HB2 : Hid (RowKit.Below w.heap.size w W2) := HBw.out.trans (hb2.mono HBw.out.size)
  have HST : Hid (StM W2 SA sn sc bs) := HM.out.st.below hb2
  have HX2 : Hid (Bl W2 gx 26 #[.slice SA sn sc, .slice B k d0, .int .i64 free]) := (hb2.block gx HX1.out.lt).trans HX1.out
  have HCG2 : Hid (Bl W2 gc 39 #[.int .i64 x.num, .int .i64 x.lot, .int .i64 x.sch, .int .i64 x.qty, .int .i64 x.rate, .slice XA xn xc]) := ((HB1.out.trans (hb2.mono HB1.out.size)).block gc HC0.out.lt).trans HC0.out
  have HOK : Hid (EstOk (lotsOf bs) cs free) := HM.out.ok
  clear hb2 hcd hcp HM HB1 HX1 HCH z0 z1 z2 HI1 HI2 HBw HC0 HB0
  have z0 : W2.cell? ⟨gx, 0, none⟩ = some (.slice SA sn sc) := HX2.out.cell 0
  have z1 : W2.cell? ⟨gx, 1, none⟩ = some (.slice B k d0) := HX2.out.cell 1
  have z2 : W2.cell? ⟨gx, 2, none⟩ = some (.int .i64 free) := HX2.out.cell 2
  have HDC := Lib.hid (DrawbackClaims_any SA sn sc bs B k d0 cs free A3 n3 c3 xs3 W2 HST.out HOK.out (HI3.out.below HB2.out) hnc3 hcm3)
  go_wp2_with fail
  refine HDC.out.mono ?_
  rintro e W3 ⟨CA, cn, cd, xs, rfl, hcd, hcl, hco, hcf, hb3, hown, hty⟩
  have HFD : Hid (Far dn DA gc) := Far.ty HDA.out.2 HCG2.out (by decide)
  have HFP : Hid (Far pn PA gc) := Far.ty HPA.out.2 HCG2.out (by decide)
  have HFR : Hid (Far rn RA gc) := Far.low HRR.out HGC.out
  have HFX : Hid (Far xn XA gc) := Far.low HXR.out HGC.out
  have HGL : Hid (gc < W2.heap.size) := HCG2.out.lt
  have HOWN := Lib.hid hown
  have HTY := Lib.hid hty
  have HB3 : Hid (RowKit.Below w.heap.size w W3) := HB2.out.trans (hb3.mono HB2.out.size)
  have HDA3 : Hid (Recs encCh 3 W3 DA dn d) := HDA.out.1.recs.below hb3
  have HPA3 : Hid (Recs encCh 3 W3 PA pn (p.drop j)) := HPA.out.1.recs.below hb3
  have HRR3 : Hid (Recs encCh 3 W3 RA rn rs) := HRR.out.below HB3.out
  have HXR3 : Hid (Recs encSl 3 W3 XA xn x.sl) := HXR.out.below HB3.out
  have HCG3 : Hid (Bl W3 gc 39 #[.int .i64 x.num, .int .i64 x.lot, .int .i64 x.sch, .int .i64 x.qty, .int .i64 x.rate, .slice XA xn xc]) := (hb3.block gc HCG2.out.lt).trans HCG2.out
  have HCL := Lib.hid hcl
  have HCO := Lib.hid hco
  have hcn : cn ≤ 64 := by have := hco.few; rw [clms_len] at this; have := hcl.cls.recs.1; omega
  have HXL : Hid (xs.length = cn) := hcl.cls.recs.1
  -- the claims' rows lie apart from the claim's box: below, the box is older than all of them
  clear hb3 hcl hco hcf hown hty HDA HPA HST HX2 HDC HB2 z0 z1 z2 HI3 hcd HOK HCG2 HRR HXR hnc3 hcm3
  obtain ⟨k1, hk1⟩ : ∃ k, bits .and .i64 wild 1 = k := ⟨_, rfl⟩
  obtain ⟨k2, hk2⟩ : ∃ k, bits .and .i64 wild 2 = k := ⟨_, rfl⟩
  obtain ⟨k4, hk4⟩ : ∃ k, bits .and .i64 wild 4 = k := ⟨_, rfl⟩
  go_upto_if 46 with (fail)
  try rw [hk1]
  go_cut [17] (fun v wx => ∃ (PA : Option Addr) (pn pc : Nat) (pd : List Ch), v = .slice PA pn pc ∧ Hid (Recs encCh 3 W3 PA pn pd) ∧ Hid (Far pn PA gc) ∧ W3 = wx)
  case first =>
    cases b : (k1 == 1)
    · clear hk1
      go_wp2_with fail
      go_meet
      exact ⟨PA, pn, pc, _, rfl, HPA3, HFP, rfl⟩
    · clear hk1
      go_wp2_with fail
      go_meet
      exact ⟨RA, rn, rc, rs, rfl, HRR3, HFR, rfl⟩
  case rest =>
  clear HPA3 HFP hk1
  obtain ⟨PA, pn, pc, pd, rfl, HPA3, HFP, rfl⟩ := hcut
  go_upto_if 50 with (fail)
  try rw [hk2]
  go_cut [16] (fun v wx => ∃ (DA : Option Addr) (dn dc : Nat) (dd : List Ch), v = .slice DA dn dc ∧ Hid (Recs encCh 3 W3 DA dn dd) ∧ Hid (Far dn DA gc) ∧ W3 = wx)
  case first =>
    cases b : (k2 == 2)
    · clear hk2
      go_wp2_with fail
      go_meet
      exact ⟨DA, dn, dc, d, rfl, HDA3, HFD, rfl⟩
    · clear hk2
      go_wp2_with fail
      go_meet
      exact ⟨RA, rn, rc, rs, rfl, HRR3, HFR, rfl⟩
  case rest =>
  clear HDA3 HFD hk2
  obtain ⟨DA, dn, dc, d, rfl, HDA3, HFD, rfl⟩ := hcut
  go_upto_region 8 with (fail)
  go_cut [59] (fun v wx => ∃ b : Bool, v = .bool b ∧ (b = true → 0 < cn) ∧ W3 = wx)
  case first =>
    cases b : (k4 == 0)
    · go_wp2_with fail
      go_meet
      exact ⟨false, rfl, (fun h => by cases h), rfl⟩
    · by_cases h0 : 0 < cn
      · have d1 : decide ((cn : Int) > 0) = true := by simp; omega
        have d2 : decide (0 < cn) = true := decide_eq_true h0
        have H0 := Lib.hid h0
        clear h0
        go_wp2_with fail
        go_meet
        exact ⟨true, rfl, (fun _ => H0.out), rfl⟩
      · have d1 : decide ((cn : Int) > 0) = false := by simp; omega
        have d2 : decide (0 < cn) = false := decide_eq_false h0
        clear h0
        go_wp2_with fail
        go_meet
        exact ⟨false, rfl, (fun h => by cases h), rfl⟩
  case rest =>
  clear hk4
  obtain ⟨bb, rfl, hbb, rfl⟩ := hcut
  have HBB : Hid (bb = true → 0 < cn) := hbb
  clear hbb
  go_upto_if 59 with (fail)
  go_cut [] (fun wx => ∃ (y : Clm) (YA : Option Addr) (yn yc : Nat), Hid (Bl wx gc 39 #[.int .i64 y.num, .int .i64 y.lot, .int .i64 y.sch, .int .i64 y.qty, .int .i64 y.rate, .slice YA yn yc]) ∧ Hid (Recs encSl 3 wx YA yn y.sl) ∧ yn ≤ yc ∧ yc ≤ 9223372036854775807 ∧ Hid (Recs encCh 3 wx DA dn d) ∧ Hid (Recs encCh 3 wx PA pn pd) ∧ Hid (ClAt wx CA cn xs) ∧ Hid (RowKit.Below w.heap.size w wx))
  case first =>
    cases bb
    case false =>
      go_wp2_with fail
      go_meet
      exact ⟨x, XA, xn, xc, HCG3, HXR3, hxc, hxm, HDA3, HPA3, HCL, HB3⟩
    case true =>
    have h0 : 0 < cn := HBB.out rfl
    have hk0' := Int.emod_nonneg wild (show (cn : Int) ≠ 0 by omega)
    have hk1' := Int.emod_lt_of_pos wild (show (0 : Int) < cn by omega)
    have HWI : Hid (∀ wx, Calls Tryz.prog 16 #[.int .i64 wild, .int .i64 (cn : Int)] wx fun e w' => e = .returned (.int .i64 (wild % (cn : Int))) ∧ w' = wx) := fun wx => (within_any wild (cn : Int) wx (by omega) (by omega)).mono fun e w' ⟨h1, h2⟩ => ⟨h1, h2.symm⟩
    obtain ⟨i, hi⟩ : ∃ i : Nat, wild % (cn : Int) = (i : Int) := ⟨(wild % (cn : Int)).toNat, by omega⟩
    have hin : i < cn := by omega
    rw [hi] at HWI
    clear hk0' hk1' hi
    obtain ⟨b1, o1, rfl, hb1, ha⟩ := recs_at HCL.out.cls.recs hin
    obtain ⟨z, hz⟩ : ∃ z, xs[i]! = z := ⟨_, rfl⟩
    rw [hz] at ha
    have hmem : z ∈ xs := by rw [← hz]; exact get_memK (by have := HXL.out; omega)
    have HSZ := Lib.hid (HCL.out.sls z hmem)
    have HZT := Lib.hid (HTY.out z hmem)
    have a0 : W3.cell? ⟨b1, o1 + i * 6, none⟩ = some (.int .i64 z.x.num) := ha.out 0 (by omega)
    have a1 : W3.cell? ⟨b1, o1 + i * 6 + 1, none⟩ = some (.int .i64 z.x.lot) := ha.out 1 (by omega)
    have a2 : W3.cell? ⟨b1, o1 + i * 6 + 2, none⟩ = some (.int .i64 z.x.sch) := ha.out 2 (by omega)
    have a3 : W3.cell? ⟨b1, o1 + i * 6 + 3, none⟩ = some (.int .i64 z.x.qty) := ha.out 3 (by omega)
    have a4 : W3.cell? ⟨b1, o1 + i * 6 + 4, none⟩ = some (.int .i64 z.x.rate) := ha.out 4 (by omega)
    have a5 : W3.cell? ⟨b1, o1 + i * 6 + 5, none⟩ = some (.slice z.A z.n z.c) := ha.out 5 (by omega)
    obtain ⟨⟨x0, x1, x2, x3, x4, x5⟩, ⟨f0, f1, f2, f3, f4, f5⟩⟩ := bl6 HCG3.out
    have hii : (i : Int) < (cn : Int) := by omega
    have hiz : (0 : Int) ≤ (i : Int) := by omega
    have HKP : Hid (Kp gc W3 ((((((W3.setCell ⟨gc, 0, none⟩ (.int .i64 z.x.num)).setCell ⟨gc, 1, none⟩ (.int .i64 z.x.lot)).setCell ⟨gc, 2, none⟩ (.int .i64 z.x.sch)).setCell ⟨gc, 3, none⟩ (.int .i64 z.x.qty)).setCell ⟨gc, 4, none⟩ (.int .i64 z.x.rate)).setCell ⟨gc, 5, none⟩ (.slice z.A z.n z.c))) := kp6 _ _ _ _ _ _
    have HBL : Hid (Bl ((((((W3.setCell ⟨gc, 0, none⟩ (.int .i64 z.x.num)).setCell ⟨gc, 1, none⟩ (.int .i64 z.x.lot)).setCell ⟨gc, 2, none⟩ (.int .i64 z.x.sch)).setCell ⟨gc, 3, none⟩ (.int .i64 z.x.qty)).setCell ⟨gc, 4, none⟩ (.int .i64 z.x.rate)).setCell ⟨gc, 5, none⟩ (.slice z.A z.n z.c)) gc 39 #[.int .i64 z.x.num, .int .i64 z.x.lot, .int .i64 z.x.sch, .int .i64 z.x.qty, .int .i64 z.x.rate, .slice z.A z.n z.c]) := set6_bl HCG3.out _ _ _ _ _ _
    have HBW : Hid (RowKit.Below w.heap.size w ((((((W3.setCell ⟨gc, 0, none⟩ (.int .i64 z.x.num)).setCell ⟨gc, 1, none⟩ (.int .i64 z.x.lot)).setCell ⟨gc, 2, none⟩ (.int .i64 z.x.sch)).setCell ⟨gc, 3, none⟩ (.int .i64 z.x.qty)).setCell ⟨gc, 4, none⟩ (.int .i64 z.x.rate)).setCell ⟨gc, 5, none⟩ (.slice z.A z.n z.c))) := put6 HB3.out HGC.out _ _ _ _ _ _
    clear ha hz hmem h0
    go_wp2_with fail
    refine (HWI.out W3).mono ?_
    rintro e wa ⟨rfl, rfl⟩
    go_wp2_with fail
    go_meet
    exact ⟨z.x, z.A, z.n, z.c, HBL, Recs.kp HSZ.out.1.recs (Far.ty HZT.out HCG3.out (by decide)) HKP.out, HSZ.out.2.1, HSZ.out.2.2, Recs.kp HDA3.out HFD.out HKP.out, Recs.kp HPA3.out HFP.out HKP.out, clAt_kp HCL.out HOWN.out HGL.out HTY.out HCG3.out HKP.out, HBW⟩
  case rest =>
  clear HDA3 HPA3 HCL HB3 HCG3 HXR3 HRR3 HFD HFP HFR HFX HGL HOWN HTY HBB
  obtain ⟨y, YA, yn, yc, HCG4, HYR4, hyc, hym, HDA4, HPA4, HCL4, HB4⟩ := hcut
  generalize wc = W4 at *
  have c5 : W4.cell? ⟨gc, 5, none⟩ = some (.slice YA yn yc) := HCG4.out.cell 5
  by_cases g1 : dn > 80
  case pos =>
    have d1 : decide ((dn : Int) > 80) = true := by simp; omega
    have d1b : decide (80 < dn) = true := by simp; omega
    have HAC := Lib.hid (HAW.out W4)
    go_wp2_with fail
    refine HAC.out.mono ?_
    rintro e w8 ⟨rfl, hb8⟩
    have HB8 : Hid (RowKit.Below w.heap.size w w8) := HB4.out.trans (hb8.mono HB4.out.size)
    clear hb8
    go_wp2
    go_ret
    exact ⟨rfl, HB8.out⟩
  case neg =>
  have d1 : decide ((dn : Int) > 80) = false := by simp; omega
  have d1b : decide (80 < dn) = false := by simp; omega
  by_cases g2 : pn > 80
  case pos =>
    have d2 : decide ((pn : Int) > 80) = true := by simp; omega
    have d2b : decide (80 < pn) = true := by simp; omega
    have HAC := Lib.hid (HAW.out W4)
    go_wp2_with fail
    refine HAC.out.mono ?_
    rintro e w8 ⟨rfl, hb8⟩
    have HB8 : Hid (RowKit.Below w.heap.size w w8) := HB4.out.trans (hb8.mono HB4.out.size)
    clear hb8
    go_wp2
    go_ret
    exact ⟨rfl, HB8.out⟩
  case neg =>
  have d2 : decide ((pn : Int) > 80) = false := by simp; omega
  have d2b : decide (80 < pn) = false := by simp; omega
  by_cases g3 : yn > 80
  case pos =>
    have d3 : decide ((yn : Int) > 80) = true := by simp; omega
    have d3b : decide (80 < yn) = true := by simp; omega
    have HAC := Lib.hid (HAW.out W4)
    go_wp2_with fail
    refine HAC.out.mono ?_
    rintro e w8 ⟨rfl, hb8⟩
    have HB8 : Hid (RowKit.Below w.heap.size w w8) := HB4.out.trans (hb8.mono HB4.out.size)
    clear hb8
    go_wp2
    go_ret
    exact ⟨rfl, HB8.out⟩
  case neg =>
  have d3 : decide ((yn : Int) > 80) = false := by simp; omega
  have d3b : decide (80 < yn) = false := by simp; omega
  have hdn : dn ≤ 1000 := by omega
  have hpn : pn ≤ 1000 := by omega
  obtain ⟨v1, e1, hbe⟩ : ∃ v1 e1, borneE y.sl d pd = (v1, e1) := ⟨_, _, rfl⟩
  obtain ⟨v2, e2, hpe⟩ : ∃ v2 e2, payE y d pd = (v2, e2) := ⟨_, _, rfl⟩
  obtain ⟨er, her⟩ : ∃ er, poErr d pd (clms xs) = er := ⟨_, rfl⟩
  obtain ⟨ln, hln⟩ : ∃ ln, ln = if er = 0 then cn else 0 := ⟨_, rfl⟩
  obtain ⟨ps, hps⟩ : ∃ ps, ps = if er = 0 then (clms xs).map (poOf d pd) else [] := ⟨_, rfl⟩
  have hln64 : ln ≤ 64 := by rw [hln]; split <;> omega
  have K1 : Hid (∀ wx, RowKit.Below W4.heap.size W4 wx → Calls Tryz.prog 19 #[.slice YA yn yc, .slice DA dn dc, .slice PA pn pc] wx fun e w' => e = .returned (.tuple #[.int .i64 v1, .int .i64 e1]) ∧ RowKit.Below wx.heap.size wx w') := fun wx hb => by
    have := Borne_any YA yn yc y.sl DA PA dn dc pn pc d pd wx (HYR4.out.below hb) (HDA4.out.below hb) (HPA4.out.below hb)
    rw [hbe] at this
    exact this
  have K2 : Hid (∀ wx, RowKit.Below W4.heap.size W4 wx → Calls Tryz.prog 20 #[.slice YA yn yc, .slice DA dn dc, .slice PA pn pc] wx fun e w' => e = .returned (.tuple #[.int .i64 v1, .int .i64 e1]) ∧ RowKit.Below wx.heap.size wx w') := fun wx hb => by
    have := RBorne_any YA yn yc y.sl DA PA dn dc pn pc d pd wx (HYR4.out.below hb) hyc hym (HDA4.out.below hb) (HPA4.out.below hb) hdn hpn
    rw [hbe] at this
    exact this
  have K3 : Hid (∀ wx, RowKit.Below W4.heap.size W4 wx → Calls Tryz.prog 17 #[.agg #[.int .i64 y.num, .int .i64 y.lot, .int .i64 y.sch, .int .i64 y.qty, .int .i64 y.rate, .slice YA yn yc], .slice DA dn dc, .slice PA pn pc] wx fun e w' => e = .returned (.tuple #[.int .i64 v2, .int .i64 e2]) ∧ RowKit.Below wx.heap.size wx w') := fun wx hb => by
    have := Payable_any y YA yn yc DA PA dn dc pn pc d pd wx (HYR4.out.below hb) (HDA4.out.below hb) (HPA4.out.below hb)
    rw [hpe] at this
    exact this
  have K4 : Hid (∀ wx, RowKit.Below W4.heap.size W4 wx → Calls Tryz.prog 21 #[.agg #[.int .i64 y.num, .int .i64 y.lot, .int .i64 y.sch, .int .i64 y.qty, .int .i64 y.rate, .slice YA yn yc], .slice DA dn dc, .slice PA pn pc] wx fun e w' => e = .returned (.tuple #[.int .i64 v2, .int .i64 e2]) ∧ RowKit.Below wx.heap.size wx w') := fun wx hb => by
    have := RPayable_any y YA yn yc DA PA dn dc pn pc d pd wx (HYR4.out.below hb) hyc hym (HDA4.out.below hb) (HPA4.out.below hb) hdn hpn
    rw [hpe] at this
    exact this
  have K5 : Hid (∀ wx, RowKit.Below W4.heap.size W4 wx → Calls Tryz.prog 22 #[.slice CA cn cd, .slice DA dn dc, .slice PA pn pc] wx fun e w' => ∃ (B : Option Addr) (k : Nat), e = .returned (.tuple #[.slice B ln k, .int .i64 er]) ∧ Hid (Recs encPo 3 w' B ln ps) ∧ Hid (RowKit.Below wx.heap.size wx w')) := fun wx hb =>
    (Payouts_ok CA cn cd xs DA PA dn dc pn pc d pd wx (HCL4.out.below hb) HCO.out (HDA4.out.below hb) (HPA4.out.below hb)).mono fun e w' h => h.get her hln hps
  have K6 : Hid (∀ wx, RowKit.Below W4.heap.size W4 wx → Calls Tryz.prog 23 #[.slice CA cn cd, .slice DA dn dc, .slice PA pn pc] wx fun e w' => ∃ (B : Option Addr) (k : Nat), e = .returned (.tuple #[.slice B ln k, .int .i64 er]) ∧ Hid (Recs encPo 3 w' B ln ps) ∧ Hid (RowKit.Below wx.heap.size wx w')) := fun wx hb =>
    (RPayouts_ok CA cn cd xs DA PA dn dc pn pc d pd wx (HCL4.out.below hb) HCO.out (HDA4.out.below hb) (HPA4.out.below hb) hdn hpn).mono fun e w' h => h.get her hln hps
  have HCX : Hid (∀ wx, RowKit.Below W4.heap.size W4 wx → wx.cell? ⟨gc, 0, none⟩ = some (.int .i64 y.num) ∧ wx.cell? ⟨gc, 1, none⟩ = some (.int .i64 y.lot) ∧ wx.cell? ⟨gc, 2, none⟩ = some (.int .i64 y.sch) ∧ wx.cell? ⟨gc, 3, none⟩ = some (.int .i64 y.qty) ∧ wx.cell? ⟨gc, 4, none⟩ = some (.int .i64 y.rate) ∧ wx.cell? ⟨gc, 5, none⟩ = some (.slice YA yn yc)) := fun wx hb => (bl6 (HCG4.out.keep hb)).1
  clear hbe hpe her hln hps g1 g2 g3 HCO HCL4 HDA4 HPA4 HYR4 HCG4 hyc hym hdn hpn HXL
  go_wp2_with fail
  refine (K1.out W4 (Below.refl _ _)).mono ?_
  rintro e w5 ⟨rfl, hb5⟩
  have HW5 := Lib.hid hb5
  clear hb5 c5 d1 d2 d3 d1b d2b d3b
  have c5 := (HCX.out w5 HW5.out).2.2.2.2.2
  go_wp2_with fail
  refine (K2.out w5 HW5.out).mono ?_
  rintro e w6 ⟨rfl, hb6⟩
  have HW6 : Hid (RowKit.Below W4.heap.size W4 w6) := HW5.out.trans (hb6.mono HW5.out.size)
  clear hb6 c5 HW5
  obtain ⟨c0, c1, c2, c3, c4, c5⟩ := HCX.out w6 HW6.out
  go_wp2_with fail
  refine (K3.out w6 HW6.out).mono ?_
  rintro e w7 ⟨rfl, hb7⟩
  have HW7 : Hid (RowKit.Below W4.heap.size W4 w7) := HW6.out.trans (hb7.mono HW6.out.size)
  clear hb7 c0 c1 c2 c3 c4 c5 HW6
  obtain ⟨c0, c1, c2, c3, c4, c5⟩ := HCX.out w7 HW7.out
  go_wp2_with fail
  refine (K4.out w7 HW7.out).mono ?_
  rintro e w8 ⟨rfl, hb8⟩
  have HW8 : Hid (RowKit.Below W4.heap.size W4 w8) := HW7.out.trans (hb8.mono HW7.out.size)
  clear hb8 c0 c1 c2 c3 c4 c5 HW7
  go_wp2_with fail
  refine (K5.out w8 HW8.out).mono ?_
  rintro e w9 ⟨QB, qk, rfl, HQ9, HB9⟩
  have HW9 : Hid (RowKit.Below W4.heap.size W4 w9) := HW8.out.trans (HB9.out.mono HW8.out.size)
  clear HB9 HW8
  go_wp2_with fail
  refine (K6.out w9 HW9.out).mono ?_
  rintro e w10 ⟨SB, sk, rfl, HS10, HB10⟩
  have HW10 : Hid (RowKit.Below w.heap.size w w10) := HB4.out.trans ((HW9.out.trans (HB10.out.mono HW9.out.size)).mono HB4.out.size)
  have HQ10 : Hid (Recs encPo 3 w10 QB ln ps) := HQ9.out.below HB10.out
  clear HB10 HW9 HQ9 K1 K2 K3 K4 K5 K6 HCX HB4
  go_wp2_with fail
  go_loopw [31] (fun v wx => ∃ i : Nat, v = .int .i64 (i : Int) ∧ i ≤ ln ∧ Hid (RowKit.Below w10.heap.size w10 wx)) (fun v _ => ln - (intOf v).toNat)
  case atStart => exact ⟨0, rfl, Nat.zero_le _, Below.refl _ _⟩
  case round =>
    obtain ⟨i, rfl, hi, HB⟩ := hrel
    by_cases hlt : i < ln
    case neg =>
      have dk : decide ((i : Int) < (ln : Int)) = false := by simp; omega
      have HBZ : Hid (RowKit.Below w.heap.size w wr) := HW10.out.trans (HB.out.mono HW10.out.size)
      have HAC := Lib.hid (HAW.out wr)
      go_wp2_with fail
      refine HAC.out.mono ?_
      rintro e w12 ⟨rfl, hb12⟩
      have HB12 : Hid (RowKit.Below w.heap.size w w12) := HBZ.out.trans (hb12.mono HBZ.out.size)
      clear hb12
      go_wp2
      go_ret
      exact ⟨rfl, HB12.out⟩
    case pos =>
    have dk : decide ((i : Int) < (ln : Int)) = true := by simp; omega
    obtain ⟨b1, o1, rfl, hb1, ha⟩ := recs_at (HQ10.out.below HB.out) hlt
    obtain ⟨b2, o2, rfl, hb2, hc⟩ := recs_at (HS10.out.below HB.out) hlt
    obtain ⟨z, hz⟩ : ∃ z, ps[i]! = z := ⟨_, rfl⟩
    rw [hz] at ha hc
    have a0 : wr.cell? ⟨b1, o1 + i * 3, none⟩ = some (.int .i64 z.num) := ha.out 0 (by omega)
    have a1 : wr.cell? ⟨b1, o1 + i * 3 + 1, none⟩ = some (.int .i64 z.lot) := ha.out 1 (by omega)
    have a2 : wr.cell? ⟨b1, o1 + i * 3 + 2, none⟩ = some (.int .i64 z.am) := ha.out 2 (by omega)
    have e0 : wr.cell? ⟨b2, o2 + i * 3, none⟩ = some (.int .i64 z.num) := hc.out 0 (by omega)
    have e1 : wr.cell? ⟨b2, o2 + i * 3 + 1, none⟩ = some (.int .i64 z.lot) := hc.out 1 (by omega)
    have e2 : wr.cell? ⟨b2, o2 + i * 3 + 2, none⟩ = some (.int .i64 z.am) := hc.out 2 (by omega)
    have hii : (i : Int) < (ln : Int) := by omega
    have hiz : (0 : Int) ≤ (i : Int) := by omega
    clear ha hc hz
    go_upto_region 23 with (fail)
    go_quiet (fail)
    have HB2 : Hid (RowKit.Below w10.heap.size w10 (wr.drewN nq)) := below_drewN HB.out nq
    clear a0 a1 a2 e0 e1 e2 HB
    go_wp2_with fail
    go_roundw
    case rel => exact ⟨i + 1, by go_num, by omega, HB2⟩
    case measure => simp [intOf]; omega
end Go.Proofs.YthnhgjhnkncmiaaGreat

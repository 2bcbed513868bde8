/-
  The contract of central.free. No statement of the seat is proved here. Conditions: rows of the call's own, at most 100 messages before, a message that was not refused, of another kind than 50.
  The contract of central.handle at a message of the kind 52, and at a message that is refused. No statement of the seat is proved here. Conditions: rows of the call's own, at most 100 messages before.
  The contract of central.Handle at any message. No statement of the seat is proved here. Conditions: the centre reads as one of which the invariant holds, at most 100 messages before.
-/
import Derived.Test.YtdbcbbiplkikcaaGreatNAX
import Derived.Test.YtdbcbbiplkikcaaGreatNAZ
import Derived.Test.YtdbcbbiplkikcaaGreatNAQ
import Derived.Test.YtdbcbbiplkikcaaGreatNAS
import Derived.Test.YtdbcbbiplkikcaaGreatNAL
namespace Go.Proofs.YtdbcbbiplkikcaaGreat
open Go.RowKit
set_option linter.unusedVariables false

set_option maxRecDepth 100000 in
set_option maxHeartbeats 16000000 in
theorem free37_any (N : Nat) (H : Hds) (C : Cen) (m : Mg) (k : Nat) (w : World) (hO : CenO N w H C) (ha : CovApart H C) (hN : N ≤ w.heap.size) (hI : CInv k C) (hk : k ≤ 100) (hm : MOk m) (hkd : m.kind ≠ 50) :
    Calls Tryz.prog 45 #[.agg #[.slice H.s.A H.s.n H.s.c, .slice H.q.A H.q.n H.q.c, .slice H.g.A H.g.n H.g.c, .slice H.k.A H.k.n H.k.c, .slice H.m.A H.m.n H.m.c], .agg #[.int .i64 m.kind, .int .i64 m.frm, .int .i64 m.dst, .int .i64 m.num, .int .i64 m.day, .int .i64 m.lot, .int .i64 m.oth, .string m.code, .string m.ctry, .int .i64 m.qty, .int .i64 m.amt, .slice m.LA m.ln m.lc, .string m.text]] w (ActRes N w H C m k) := by
  obtain ⟨Hs, Hq, ⟨gA, gn, gc⟩, Hk, ⟨mA, mn, mc⟩⟩ := H
  obtain ⟨_, bf1, bf2, bn1, bn2, _, _, bl1, bl2, _⟩ := hm.bounds
  have HO := Lib.hid hO
  have HA := Lib.hid ha
  have HN := Lib.hid hN
  have HI := Lib.hid hI
  have HKD := Lib.hid hkd
  have HGN : Hid (C.gs.length = gn) := own_lenK encGu_len (by omega) hO.gs
  have HMN : Hid (C.sent.length = mn) := own_lenK encS_len (by omega) hO.sent
  have HKN : Hid (C.cov.length = Hk.n) := own_lenK enc2_len (by omega) hO.cov
  have hgn : gn ≤ 16 := by have := hI.ng; have := HGN.out; omega
  have hmn : mn ≤ 20100 := by have := hI.sent; have := HMN.out; omega
  have hkn : Hk.n ≤ 100 := by have := hI.cov; have := HKN.out; omega
  have HML : Hid (∀ g, (Value.slice mA mn mc).ownBlock = some g → g < w.heap.size) := fun g e => own_lt hO.sent g e
  have HKL : Hid (∀ g, (Value.slice Hk.A Hk.n Hk.c).ownBlock = some g → g < w.heap.size) := fun g e => own_lt hO.cov g e
  clear hO ha hN hI hk hm hkd
  obtain ⟨W0, hW0⟩ : ∃ W, W = ((w.alloc (.cells #[.slice Hs.A Hs.n Hs.c, .slice Hq.A Hq.n Hq.c, .slice gA gn gc, .slice Hk.A Hk.n Hk.c, .slice mA mn mc] 37)).alloc (.cells #[.int .i64 m.kind, .int .i64 m.frm, .int .i64 m.dst, .int .i64 m.num, .int .i64 m.day, .int .i64 m.lot, .int .i64 m.oth, .string m.code, .string m.ctry, .int .i64 m.qty, .int .i64 m.amt, .slice m.LA m.ln m.lc, .string m.text] 48)).alloc (.cells #[.slice none 0 0, .slice none 0 0, .slice none 0 0, .slice none 0 0, .slice none 0 0] 37) := ⟨_, rfl⟩
  have hx : Bl W0 w.heap.size 37 #[.slice Hs.A Hs.n Hs.c, .slice Hq.A Hq.n Hq.c, .slice gA gn gc, .slice Hk.A Hk.n Hk.c, .slice mA mn mc] := by rw [hW0]; exact ((Bl.new w _ _).alloc _).alloc _
  have hmb : Bl W0 (w.heap.size + 1) 48 #[.int .i64 m.kind, .int .i64 m.frm, .int .i64 m.dst, .int .i64 m.num, .int .i64 m.day, .int .i64 m.lot, .int .i64 m.oth, .string m.code, .string m.ctry, .int .i64 m.qty, .int .i64 m.amt, .slice m.LA m.ln m.lc, .string m.text] := by rw [hW0]; have := (Bl.new (w.alloc (.cells #[.slice Hs.A Hs.n Hs.c, .slice Hq.A Hq.n Hq.c, .slice gA gn gc, .slice Hk.A Hk.n Hk.c, .slice mA mn mc] 37)) 48 #[.int .i64 m.kind, .int .i64 m.frm, .int .i64 m.dst, .int .i64 m.num, .int .i64 m.day, .int .i64 m.lot, .int .i64 m.oth, .string m.code, .string m.ctry, .int .i64 m.qty, .int .i64 m.amt, .slice m.LA m.ln m.lc, .string m.text]).alloc (.cells #[.slice none 0 0, .slice none 0 0, .slice none 0 0, .slice none 0 0, .slice none 0 0] 37); simpa using this
  have hr : Bl W0 (w.heap.size + 1 + 1) 37 #[.slice none 0 0, .slice none 0 0, .slice none 0 0, .slice none 0 0, .slice none 0 0] := by rw [hW0]; have := Bl.new ((w.alloc (.cells #[.slice Hs.A Hs.n Hs.c, .slice Hq.A Hq.n Hq.c, .slice gA gn gc, .slice Hk.A Hk.n Hk.c, .slice mA mn mc] 37)).alloc (.cells #[.int .i64 m.kind, .int .i64 m.frm, .int .i64 m.dst, .int .i64 m.num, .int .i64 m.day, .int .i64 m.lot, .int .i64 m.oth, .string m.code, .string m.ctry, .int .i64 m.qty, .int .i64 m.amt, .slice m.LA m.ln m.lc, .string m.text] 48)) 37 #[.slice none 0 0, .slice none 0 0, .slice none 0 0, .slice none 0 0, .slice none 0 0]; simpa using this
  have hb0 : RowKit.Below w.heap.size w W0 := by rw [hW0]; exact (((Below.refl _ _).alloc (Nat.le_refl _) _).alloc (by simp) _).alloc (by simp; omega) _
  have HO0 := Lib.hid (HO.out.below hb0)
  have HX0 := Lib.hid hx
  have HM0 := Lib.hid hmb
  have HR0 := Lib.hid hr
  have HB0 := Lib.hid hb0
  clear hx hmb hr hb0
  have HCL := Lib.hid (guarAt_any ⟨Hs, Hq, ⟨gA, gn, gc⟩, Hk, ⟨mA, mn, mc⟩⟩ C.gs m.oth W0 HO0.out.at_.gs.recs (by simp only; omega))
  go_enter Tryz.func45, Tryz.ntmps45
  go_upto_region 1 with (fail)
  rw [← hW0]
  clear hW0
  have x0 : W0.cell? ⟨w.heap.size, 0, none⟩ = some (.slice Hs.A Hs.n Hs.c) := HX0.out.c0
  have x1 : W0.cell? ⟨w.heap.size, 1, none⟩ = some (.slice Hq.A Hq.n Hq.c) := HX0.out.c1
  have x2 : W0.cell? ⟨w.heap.size, 2, none⟩ = some (.slice gA gn gc) := HX0.out.c2
  have x3 : W0.cell? ⟨w.heap.size, 3, none⟩ = some (.slice Hk.A Hk.n Hk.c) := HX0.out.c3
  have x4 : W0.cell? ⟨w.heap.size, 4, none⟩ = some (.slice mA mn mc) := HX0.out.c4
  have y6 : W0.cell? ⟨w.heap.size + 1, 6, none⟩ = some (.int .i64 m.oth) := HM0.out.cell 6
  go_wp2_with fail
  refine HCL.out.mono ?_
  rintro e w2 ⟨hor, hb2⟩
  have HX := Lib.hid (HX0.out.keep hb2)
  have HM := Lib.hid (HM0.out.keep hb2)
  have HR := Lib.hid (HR0.out.keep hb2)
  have HB : Hid (RowKit.Below w.heap.size w w2) := HB0.out.trans (hb2.mono HB0.out.size)
  have HO2 := Lib.hid (HO0.out.below hb2)
  clear x0 x1 x2 x3 x4 y6 HX0 HM0 HR0 HB0 HO0 HCL hb2
  rcases hor with ⟨I, rfl, hI1, hI2⟩ | ⟨rfl, hno⟩
  case inr =>
    clear hno
    have d0 : decide ((-1 : Int) < 0) = true := rfl
    have x0 : w2.cell? ⟨w.heap.size, 0, none⟩ = some (.slice Hs.A Hs.n Hs.c) := HX.out.c0
    have x1 : w2.cell? ⟨w.heap.size, 1, none⟩ = some (.slice Hq.A Hq.n Hq.c) := HX.out.c1
    have x2 : w2.cell? ⟨w.heap.size, 2, none⟩ = some (.slice gA gn gc) := HX.out.c2
    have x3 : w2.cell? ⟨w.heap.size, 3, none⟩ = some (.slice Hk.A Hk.n Hk.c) := HX.out.c3
    have x4 : w2.cell? ⟨w.heap.size, 4, none⟩ = some (.slice mA mn mc) := HX.out.c4
    have r0 : w2.cell? ⟨w.heap.size + 1 + 1, 0, none⟩ = some (.slice none 0 0) := HR.out.c0
    have rf0 : w2.frozen? ⟨w.heap.size + 1 + 1, 0, none⟩ = false := HR.out.free 0
    have r1 : w2.cell? ⟨w.heap.size + 1 + 1, 1, none⟩ = some (.slice none 0 0) := HR.out.c1
    have rf1 : w2.frozen? ⟨w.heap.size + 1 + 1, 1, none⟩ = false := HR.out.free 1
    have r2 : w2.cell? ⟨w.heap.size + 1 + 1, 2, none⟩ = some (.slice none 0 0) := HR.out.c2
    have rf2 : w2.frozen? ⟨w.heap.size + 1 + 1, 2, none⟩ = false := HR.out.free 2
    have r3 : w2.cell? ⟨w.heap.size + 1 + 1, 3, none⟩ = some (.slice none 0 0) := HR.out.c3
    have rf3 : w2.frozen? ⟨w.heap.size + 1 + 1, 3, none⟩ = false := HR.out.free 3
    have r4 : w2.cell? ⟨w.heap.size + 1 + 1, 4, none⟩ = some (.slice none 0 0) := HR.out.c4
    have rf4 : w2.frozen? ⟨w.heap.size + 1 + 1, 4, none⟩ = false := HR.out.free 4
    go_wp2
    refine bodyPost_ret (v := .tuple #[.agg #[.slice Hs.A Hs.n Hs.c, .slice Hq.A Hq.n Hq.c, .slice gA gn gc, .slice Hk.A Hk.n Hk.c, .slice mA mn mc], .int .i64 6]) (by simp [results, Tryz.results45, go_sem, r0, r1, r2, r3, r4]) rfl ?_
    exact ActRes.same (H := ⟨Hs, Hq, ⟨gA, gn, gc⟩, Hk, ⟨mA, mn, mc⟩⟩) (HO2.out.far HR.out (fun b hb => heap_set5 hb _ _ _ _ _)) HA.out HI.out (RowsFix.of_below (put5 HB.out (by omega) _ _ _ _ _)) (put5 (HB.out.mono HN.out) (Nat.le_trans HN.out (by omega)) _ _ _ _ _) (AwEx.kind HKD.out)
  case inl =>
    clear hI2
    have d0 : decide ((I : Int) < 0) = false := by simp
    obtain ⟨gg, b, hA, hgg, a0, a1, a2, a3, HBI, HBM, HFR⟩ := getG HO2.out.gs hI1
    simp only at hA
    subst hA
    have hgw : gg < w.heap.size := own_lt HO.out.gs gg rfl
    have hIi : (I : Int) < gn := by omega
    have hIz : (0 : Int) ≤ (I : Int) := by omega
    have HGB := Lib.hid (HI.out.guars b HBM.out)
    have HMV := Lib.hid (fun w => mov37_any m.frm m.lot w (by omega) (by omega))
    have y1 : w2.cell? ⟨w.heap.size + 1, 1, none⟩ = some (.int .i64 m.frm) := HM.out.cell 1
    have y5 : w2.cell? ⟨w.heap.size + 1, 5, none⟩ = some (.int .i64 m.lot) := HM.out.cell 5
    go_wp2_with fail
    refine (HMV.out _).mono ?_
    rintro e w3 ⟨rfl, hw1⟩
    obtain rfl : w2 = w3 := hw1.symm
    clear hw1 y1 y5 d0 HMV
    obtain ⟨mov, hmov⟩ : ∃ mov, 100000 * m.frm + m.lot = mov := ⟨_, rfl⟩
    rw [hmov]
    clear hmov
    have x2 : w2.cell? ⟨w.heap.size, 2, none⟩ = some (.slice (some ⟨gg, 0, none⟩) gn gc) := HX.out.c2
    have HCR := Lib.hid (release37_any b.h b.A b.n b.c b.us mov w2 (HO2.out.at_.uses b HBM.out).recs (rd_of_recs enc2_len (by omega) (HO2.out.at_.uses b HBM.out).recs) (own_boundsF (HO2.out.uses b HBM.out)).1 HGB.out)
    go_wp2_with fail
    refine HCR.out.mono ?_
    rintro e w5 ⟨a, B, n', d, er, rfl, hr5, hb5⟩
    have hg9 := Bl.new w5 30 #[.int .i64 a.id, .int .i64 a.ref, .int .i64 a.lev, .slice B n' d]
    have hg9w : w2.heap.size ≤ w5.heap.size := hb5.size
    have hb8 : RowKit.Below w2.heap.size w2 (w5.alloc (.cells #[.int .i64 a.id, .int .i64 a.ref, .int .i64 a.lev, .slice B n' d] 30)) := hb5.alloc hb5.size _
    have hap : GRel b.h w2.heap.size (w5.alloc (.cells #[.int .i64 a.id, .int .i64 a.ref, .int .i64 a.lev, .slice B n' d] 30)) a B n' d er := GRel.alloc hr5 _
    clear hr5 hb5
    go_upto_region 6 with (fail)
    generalize w5.alloc (.cells #[.int .i64 a.id, .int .i64 a.ref, .int .i64 a.lev, .slice B n' d] 30) = wc at *
    generalize w5.heap.size = g9 at *
    focus
      have HX8 := Lib.hid (HX.out.keep hb8)
      have HM8 := Lib.hid (HM.out.keep hb8)
      have HR8 := Lib.hid (HR.out.keep hb8)
      have HB8 : Hid (RowKit.Below w.heap.size w wc) := HB.out.trans (hb8.mono HB.out.size)
      have HO8 := Lib.hid (HO2.out.below hb8)
      have HG9 := Lib.hid hg9
      have HAP := Lib.hid hap
      have HF8 : Hid (∀ o, wc.frozen? ⟨gg, o, none⟩ = false) := fun o => (hb8.frozen (p := ⟨gg, o, none⟩) hgg).trans (HFR.out o)
      have E0 := Lib.hid ((hb8.cell (p := ⟨gg, I * 4, none⟩) hgg).trans a0)
      have E1 := Lib.hid ((hb8.cell (p := ⟨gg, I * 4 + 1, none⟩) hgg).trans a1)
      have E2 := Lib.hid ((hb8.cell (p := ⟨gg, I * 4 + 2, none⟩) hgg).trans a2)
      have E3 := Lib.hid ((hb8.cell (p := ⟨gg, I * 4 + 3, none⟩) hgg).trans a3)
      have hgw8 : w.heap.size ≤ w2.heap.size := HB.out.size
      clear hg9 hb8 hap HX HM HR HB HO2 HFR HCR x2 a0 a1 a2 a3 hgg
      have HX := HX8
      have HM := HM8
      have HR := HR8
      have HB := HB8
      clear HX8 HM8 HR8 HB8
      have hs8 : w.heap.size + 1 + 1 < wc.heap.size := HR.out.lt
      by_cases her : er = 0
      case neg =>
        have b1 : (er != 0) = true := by simpa using her
        clear her E0 E1 E2 E3 HAP
        have x0 : wc.cell? ⟨w.heap.size, 0, none⟩ = some (.slice Hs.A Hs.n Hs.c) := HX.out.c0
        have x1 : wc.cell? ⟨w.heap.size, 1, none⟩ = some (.slice Hq.A Hq.n Hq.c) := HX.out.c1
        have x2 : wc.cell? ⟨w.heap.size, 2, none⟩ = some (.slice (some ⟨gg, 0, none⟩) gn gc) := HX.out.c2
        have x3 : wc.cell? ⟨w.heap.size, 3, none⟩ = some (.slice Hk.A Hk.n Hk.c) := HX.out.c3
        have x4 : wc.cell? ⟨w.heap.size, 4, none⟩ = some (.slice mA mn mc) := HX.out.c4
        have r0 : wc.cell? ⟨w.heap.size + 1 + 1, 0, none⟩ = some (.slice none 0 0) := HR.out.c0
        have rf0 : wc.frozen? ⟨w.heap.size + 1 + 1, 0, none⟩ = false := HR.out.free 0
        have r1 : wc.cell? ⟨w.heap.size + 1 + 1, 1, none⟩ = some (.slice none 0 0) := HR.out.c1
        have rf1 : wc.frozen? ⟨w.heap.size + 1 + 1, 1, none⟩ = false := HR.out.free 1
        have r2 : wc.cell? ⟨w.heap.size + 1 + 1, 2, none⟩ = some (.slice none 0 0) := HR.out.c2
        have rf2 : wc.frozen? ⟨w.heap.size + 1 + 1, 2, none⟩ = false := HR.out.free 2
        have r3 : wc.cell? ⟨w.heap.size + 1 + 1, 3, none⟩ = some (.slice none 0 0) := HR.out.c3
        have rf3 : wc.frozen? ⟨w.heap.size + 1 + 1, 3, none⟩ = false := HR.out.free 3
        have r4 : wc.cell? ⟨w.heap.size + 1 + 1, 4, none⟩ = some (.slice none 0 0) := HR.out.c4
        have rf4 : wc.frozen? ⟨w.heap.size + 1 + 1, 4, none⟩ = false := HR.out.free 4
        go_wp2
        refine bodyPost_ret (v := .tuple #[.agg #[.slice Hs.A Hs.n Hs.c, .slice Hq.A Hq.n Hq.c, .slice (some ⟨gg, 0, none⟩) gn gc, .slice Hk.A Hk.n Hk.c, .slice mA mn mc], .int .i64 er]) (by simp [results, Tryz.results45, go_sem, r0, r1, r2, r3, r4]) rfl ?_
        exact ActRes.same (H := ⟨Hs, Hq, ⟨some ⟨gg, 0, none⟩, gn, gc⟩, Hk, ⟨mA, mn, mc⟩⟩) (HO8.out.far HR.out (fun b hb => heap_set5 hb _ _ _ _ _)) HA.out HI.out (RowsFix.of_below (put5 HB.out (by omega) _ _ _ _ _)) (put5 (HB.out.mono HN.out) (Nat.le_trans HN.out (by omega)) _ _ _ _ _) (AwEx.kind HKD.out)
      case pos =>
        subst her
        have b1 : ((0 : Int) != 0) = false := rfl
        obtain ⟨haq, us', hok, hul, hou⟩ := HAP.out rfl
        subst haq
        have HOK := Lib.hid hok
        have HUL := Lib.hid hul
        have x2 : wc.cell? ⟨w.heap.size, 2, none⟩ = some (.slice (some ⟨gg, 0, none⟩) gn gc) := HX.out.c2
        have k0 : wc.cell? ⟨g9, 0, none⟩ = some (.int .i64 b.h.id) := HG9.out.cell 0
        have k1 : wc.cell? ⟨g9, 1, none⟩ = some (.int .i64 b.h.ref) := HG9.out.cell 1
        have k2 : wc.cell? ⟨g9, 2, none⟩ = some (.int .i64 b.h.lev) := HG9.out.cell 2
        have k3 : wc.cell? ⟨g9, 3, none⟩ = some (.slice B n' d) := HG9.out.cell 3
        have e0 : wc.cell? ⟨gg, I * 4, none⟩ = some (.int .i64 b.h.id) := E0.out
        have e1 : wc.cell? ⟨gg, I * 4 + 1, none⟩ = some (.int .i64 b.h.ref) := E1.out
        have e2 : wc.cell? ⟨gg, I * 4 + 2, none⟩ = some (.int .i64 b.h.lev) := E2.out
        have e3 : wc.cell? ⟨gg, I * 4 + 3, none⟩ = some (.slice b.A b.n b.c) := E3.out
        have z0 : wc.frozen? ⟨gg, I * 4, none⟩ = false := HF8.out _
        have z1 : wc.frozen? ⟨gg, I * 4 + 1, none⟩ = false := HF8.out _
        have z2 : wc.frozen? ⟨gg, I * 4 + 2, none⟩ = false := HF8.out _
        have z3 : wc.frozen? ⟨gg, I * 4 + 3, none⟩ = false := HF8.out _
        have HOB : Hid (CenO N ((((wc.setCell ⟨gg, I * 4, none⟩ (.int .i64 b.h.id)).setCell ⟨gg, I * 4 + 1, none⟩ (.int .i64 b.h.ref)).setCell ⟨gg, I * 4 + 2, none⟩ (.int .i64 b.h.lev)).setCell ⟨gg, I * 4 + 3, none⟩ (.slice B n' d)) ⟨Hs, Hq, ⟨some ⟨gg, 0, none⟩, gn, gc⟩, Hk, ⟨mA, mn, mc⟩⟩ { C with gs := C.gs.set I ⟨b.h, B, n', d, us'⟩ }) := cenO_guar (I := I) (q := b.h) HO8.out rfl (by have := HGN.out; omega) (hou.mono (Nat.le_trans HN.out hgw8))
        have HAB : Hid (CovApart ⟨Hs, Hq, ⟨some ⟨gg, 0, none⟩, gn, gc⟩, Hk, ⟨mA, mn, mc⟩⟩ { C with gs := C.gs.set I ⟨b.h, B, n', d, us'⟩ }) := HA.out.guar (fun j hj e => by have h1 := own_base hou j hj; have h2 := HKL.out j e; omega)
        have HIB : Hid (CInv k { C with gs := C.gs.set I ⟨b.h, B, n', d, us'⟩ }) := CInv.guar HI.out (b := ⟨b.h, B, n', d, us'⟩) hok
        have hne0 : w.heap.size ≠ gg := by omega
        have hne1 : w.heap.size + 1 ≠ gg := by omega
        have hne2 : w.heap.size + 1 + 1 ≠ gg := by omega
        have HHP : Hid (∀ j, j ≠ gg → ((((wc.setCell ⟨gg, I * 4, none⟩ (.int .i64 b.h.id)).setCell ⟨gg, I * 4 + 1, none⟩ (.int .i64 b.h.ref)).setCell ⟨gg, I * 4 + 2, none⟩ (.int .i64 b.h.lev)).setCell ⟨gg, I * 4 + 3, none⟩ (.slice B n' d)).heap[j]? = wc.heap[j]?) := fun j hj => heap_set4o hj _ _ _ _
        have HXB : Hid (Bl ((((wc.setCell ⟨gg, I * 4, none⟩ (.int .i64 b.h.id)).setCell ⟨gg, I * 4 + 1, none⟩ (.int .i64 b.h.ref)).setCell ⟨gg, I * 4 + 2, none⟩ (.int .i64 b.h.lev)).setCell ⟨gg, I * 4 + 3, none⟩ (.slice B n' d)) w.heap.size 37 #[.slice Hs.A Hs.n Hs.c, .slice Hq.A Hq.n Hq.c, .slice (some ⟨gg, 0, none⟩) gn gc, .slice Hk.A Hk.n Hk.c, .slice mA mn mc]) := (HHP.out _ hne0).trans HX.out
        have HMB : Hid (Bl ((((wc.setCell ⟨gg, I * 4, none⟩ (.int .i64 b.h.id)).setCell ⟨gg, I * 4 + 1, none⟩ (.int .i64 b.h.ref)).setCell ⟨gg, I * 4 + 2, none⟩ (.int .i64 b.h.lev)).setCell ⟨gg, I * 4 + 3, none⟩ (.slice B n' d)) (w.heap.size + 1) 48 #[.int .i64 m.kind, .int .i64 m.frm, .int .i64 m.dst, .int .i64 m.num, .int .i64 m.day, .int .i64 m.lot, .int .i64 m.oth, .string m.code, .string m.ctry, .int .i64 m.qty, .int .i64 m.amt, .slice m.LA m.ln m.lc, .string m.text]) := (HHP.out _ hne1).trans HM.out
        have HRB : Hid (Bl ((((wc.setCell ⟨gg, I * 4, none⟩ (.int .i64 b.h.id)).setCell ⟨gg, I * 4 + 1, none⟩ (.int .i64 b.h.ref)).setCell ⟨gg, I * 4 + 2, none⟩ (.int .i64 b.h.lev)).setCell ⟨gg, I * 4 + 3, none⟩ (.slice B n' d)) (w.heap.size + 1 + 1) 37 #[.slice none 0 0, .slice none 0 0, .slice none 0 0, .slice none 0 0, .slice none 0 0]) := (HHP.out _ hne2).trans HR.out
        have HSB : Hid (wc.heap.size = ((((wc.setCell ⟨gg, I * 4, none⟩ (.int .i64 b.h.id)).setCell ⟨gg, I * 4 + 1, none⟩ (.int .i64 b.h.ref)).setCell ⟨gg, I * 4 + 2, none⟩ (.int .i64 b.h.lev)).setCell ⟨gg, I * 4 + 3, none⟩ (.slice B n' d)).heap.size) := (by show _ = _; simp)
        have HFX : Hid (RowsFix w ((((wc.setCell ⟨gg, I * 4, none⟩ (.int .i64 b.h.id)).setCell ⟨gg, I * 4 + 1, none⟩ (.int .i64 b.h.ref)).setCell ⟨gg, I * 4 + 2, none⟩ (.int .i64 b.h.lev)).setCell ⟨gg, I * 4 + 3, none⟩ (.slice B n' d)) ⟨Hs, Hq, ⟨some ⟨gg, 0, none⟩, gn, gc⟩, Hk, ⟨mA, mn, mc⟩⟩) := fun j hj _ hq _ _ => (HHP.out j (fun e => hq (by rw [e]; rfl))).trans (HB.out.block j hj)
        have HBN : Hid (RowKit.Below N w ((((wc.setCell ⟨gg, I * 4, none⟩ (.int .i64 b.h.id)).setCell ⟨gg, I * 4 + 1, none⟩ (.int .i64 b.h.ref)).setCell ⟨gg, I * 4 + 2, none⟩ (.int .i64 b.h.lev)).setCell ⟨gg, I * 4 + 3, none⟩ (.slice B n' d))) := ((((HB.out.mono HN.out).setCell (p := ⟨gg, I * 4, none⟩) (own_base HO8.out.gs gg rfl) _).setCell (p := ⟨gg, I * 4 + 1, none⟩) (own_base HO8.out.gs gg rfl) _).setCell (p := ⟨gg, I * 4 + 2, none⟩) (own_base HO8.out.gs gg rfl) _).setCell (p := ⟨gg, I * 4 + 3, none⟩) (own_base HO8.out.gs gg rfl) _
        clear hok hul hou E0 E1 E2 E3 HAP hne0 hne1 hne2
        go_upto_region 9 with (fail)
        clear x2 k0 k1 k2 k3 e0 e1 e2 e3 z0 z1 z2 z3 b1 HX HM HR HB HO8 HG9 HF8 HHP
        generalize ((((wc.setCell ⟨gg, I * 4, none⟩ (.int .i64 b.h.id)).setCell ⟨gg, I * 4 + 1, none⟩ (.int .i64 b.h.ref)).setCell ⟨gg, I * 4 + 2, none⟩ (.int .i64 b.h.lev)).setCell ⟨gg, I * 4 + 3, none⟩ (.slice B n' d)) = W9 at *
        have HCV := Lib.hid (covering37_any ⟨Hs, Hq, ⟨some ⟨gg, 0, none⟩, gn, gc⟩, Hk, ⟨mA, mn, mc⟩⟩ C.cov mov W9 HOB.out.at_.cov.recs (by simp only; omega) HI.out.asc)
        have hs9 : w.heap.size + 1 + 1 < W9.heap.size := HRB.out.lt
        have x0 : W9.cell? ⟨w.heap.size, 0, none⟩ = some (.slice Hs.A Hs.n Hs.c) := HXB.out.c0
        have x1 : W9.cell? ⟨w.heap.size, 1, none⟩ = some (.slice Hq.A Hq.n Hq.c) := HXB.out.c1
        have x2 : W9.cell? ⟨w.heap.size, 2, none⟩ = some (.slice (some ⟨gg, 0, none⟩) gn gc) := HXB.out.c2
        have x3 : W9.cell? ⟨w.heap.size, 3, none⟩ = some (.slice Hk.A Hk.n Hk.c) := HXB.out.c3
        have x4 : W9.cell? ⟨w.heap.size, 4, none⟩ = some (.slice mA mn mc) := HXB.out.c4
        go_wp2_with fail
        refine HCV.out.mono ?_
        rintro e w10 ⟨J, fnd, rfl, hJ1, hJ2, hJ3, hJ4, hb10⟩
        have HX10 := Lib.hid (HXB.out.keep hb10)
        have HR10 := Lib.hid (HRB.out.keep hb10)
        have HO10 := Lib.hid (HOB.out.below hb10)
        have HB10 : Hid (RowKit.Below N w w10) := HBN.out.trans (hb10.mono (Nat.le_trans HN.out HBN.out.size))
        have HFX10 : Hid (RowsFix w w10 ⟨Hs, Hq, ⟨some ⟨gg, 0, none⟩, gn, gc⟩, Hk, ⟨mA, mn, mc⟩⟩) := fun b' h1 h2 h3 h4 h5 => (hb10.block b' (Nat.lt_of_lt_of_le h1 HBN.out.size)).trans (HFX.out b' h1 h2 h3 h4 h5)
        have HJ4 := Lib.hid hJ4
        clear hJ1 hJ2 hJ3 hJ4 hb10 HCV x0 x1 x2 x3 x4 HXB HMB HRB HOB HBN HFX
        cases fnd
        case false =>
          have x0 : w10.cell? ⟨w.heap.size, 0, none⟩ = some (.slice Hs.A Hs.n Hs.c) := HX10.out.c0
          have x1 : w10.cell? ⟨w.heap.size, 1, none⟩ = some (.slice Hq.A Hq.n Hq.c) := HX10.out.c1
          have x2 : w10.cell? ⟨w.heap.size, 2, none⟩ = some (.slice (some ⟨gg, 0, none⟩) gn gc) := HX10.out.c2
          have x3 : w10.cell? ⟨w.heap.size, 3, none⟩ = some (.slice Hk.A Hk.n Hk.c) := HX10.out.c3
          have x4 : w10.cell? ⟨w.heap.size, 4, none⟩ = some (.slice mA mn mc) := HX10.out.c4
          have r0 : w10.cell? ⟨w.heap.size + 1 + 1, 0, none⟩ = some (.slice none 0 0) := HR10.out.c0
          have rf0 : w10.frozen? ⟨w.heap.size + 1 + 1, 0, none⟩ = false := HR10.out.free 0
          have r1 : w10.cell? ⟨w.heap.size + 1 + 1, 1, none⟩ = some (.slice none 0 0) := HR10.out.c1
          have rf1 : w10.frozen? ⟨w.heap.size + 1 + 1, 1, none⟩ = false := HR10.out.free 1
          have r2 : w10.cell? ⟨w.heap.size + 1 + 1, 2, none⟩ = some (.slice none 0 0) := HR10.out.c2
          have rf2 : w10.frozen? ⟨w.heap.size + 1 + 1, 2, none⟩ = false := HR10.out.free 2
          have r3 : w10.cell? ⟨w.heap.size + 1 + 1, 3, none⟩ = some (.slice none 0 0) := HR10.out.c3
          have rf3 : w10.frozen? ⟨w.heap.size + 1 + 1, 3, none⟩ = false := HR10.out.free 3
          have r4 : w10.cell? ⟨w.heap.size + 1 + 1, 4, none⟩ = some (.slice none 0 0) := HR10.out.c4
          have rf4 : w10.frozen? ⟨w.heap.size + 1 + 1, 4, none⟩ = false := HR10.out.free 4
          go_wp2
          refine bodyPost_ret (v := .tuple #[.agg #[.slice Hs.A Hs.n Hs.c, .slice Hq.A Hq.n Hq.c, .slice (some ⟨gg, 0, none⟩) gn gc, .slice Hk.A Hk.n Hk.c, .slice mA mn mc], .int .i64 0]) (by simp [results, Tryz.results45, go_sem, r0, r1, r2, r3, r4]) rfl ?_
          exact ⟨⟨Hs, Hq, ⟨some ⟨gg, 0, none⟩, gn, gc⟩, Hk, ⟨mA, mn, mc⟩⟩, _, 0, rfl, HO10.out.far HR10.out (fun b hb => heap_set5 hb _ _ _ _ _), HAB.out, HIB.out.mono (Nat.le_succ k), rfl, rfl, (fun b' h1 h2 h3 h4 h5 => (heap_set5 (by omega) _ _ _ _ _).trans (HFX10.out b' h1 h2 h3 h4 h5)), put5 HB10.out (Nat.le_trans HN.out (by omega)) _ _ _ _ _, AwEx.kind HKD.out⟩
        case true =>
          obtain ⟨hJ, _⟩ := HJ4.out.1 rfl
          have hJn : J < Hk.n := by have := HKN.out; omega
          obtain ⟨kA, kn, kc⟩ := Hk
          simp only at hkn hJn
          obtain ⟨gk, hkA⟩ := own_addr HO10.out.cov (by simp only; omega)
          simp only at hkA
          subst hkA
          have hkw : gk < w.heap.size := HKL.out gk rfl
          have x3 : w10.cell? ⟨w.heap.size, 3, none⟩ = some (.slice (some ⟨gk, 0, none⟩) kn kc) := HX10.out.c3
          have hw1 : IntKind.i64.wrap ((J : Int) + 1) = (J : Int) + 1 := by rw [IntKind.wrap_i64]; omega
          have HDL := Lib.hid (delete_anyU N gk kn kc J C.cov w10 HO10.out.cov HKN.out hJn (by omega) (Nat.le_trans HN.out HB10.out.size))
          go_wp2_with fail
          refine HDL.out.mono ?_
          rintro e w11 ⟨rfl, ho11, hb11, hk11⟩
          have HX11 : Hid (Bl w11 w.heap.size 37 #[.slice Hs.A Hs.n Hs.c, .slice Hq.A Hq.n Hq.c, .slice (some ⟨gg, 0, none⟩) gn gc, .slice (some ⟨gk, 0, none⟩) kn kc, .slice mA mn mc]) := (hk11 _ (by omega)).trans HX10.out
          have HR11 : Hid (Bl w11 (w.heap.size + 1 + 1) 37 #[.slice none 0 0, .slice none 0 0, .slice none 0 0, .slice none 0 0, .slice none 0 0]) := (hk11 _ (by omega)).trans HR10.out
          have HO11 : Hid (CenO N w11 ⟨Hs, Hq, ⟨some ⟨gg, 0, none⟩, gn, gc⟩, ⟨some ⟨gk, 0, none⟩, kn - 1, kc⟩, ⟨mA, mn, mc⟩⟩ { C with gs := C.gs.set I ⟨b.h, B, n', d, us'⟩, cov := C.cov.take J ++ C.cov.drop (J + 1) }) := HO10.out.cov' (B := some ⟨gk, 0, none⟩) (n := kn - 1) (d := kc) HAB.out (fun j _ hj => hk11 j (fun e => hj (by rw [e]; rfl))) ho11
          have HB11 : Hid (RowKit.Below N w w11) := HB10.out.trans hb11
          have HFX11 : Hid (RowsFix w w11 ⟨Hs, Hq, ⟨some ⟨gg, 0, none⟩, gn, gc⟩, ⟨some ⟨gk, 0, none⟩, kn, kc⟩, ⟨mA, mn, mc⟩⟩) := fun b' h1 h2 h3 h4 h5 => (hk11 b' (fun e => h4 (by rw [e]; rfl))).trans (HFX10.out b' h1 h2 h3 h4 h5)
          clear ho11 hb11 hk11 HDL x3 HX10 HR10 HO10 HB10 HFX10
          have x3 : w11.cell? ⟨w.heap.size, 3, none⟩ = some (.slice (some ⟨gk, 0, none⟩) kn kc) := HX11.out.c3
          have xf3 : w11.frozen? ⟨w.heap.size, 3, none⟩ = false := HX11.out.free 3
          have HX12 : Hid (Bl (w11.setCell ⟨w.heap.size, 3, none⟩ (.slice (some ⟨gk, 0, none⟩) (kn - 1) kc)) w.heap.size 37 #[.slice Hs.A Hs.n Hs.c, .slice Hq.A Hq.n Hq.c, .slice (some ⟨gg, 0, none⟩) gn gc, .slice (some ⟨gk, 0, none⟩) (kn - 1) kc, .slice mA mn mc]) := by
            have := HX11.out.put 3 (.slice (some ⟨gk, 0, none⟩) (kn - 1) kc)
            show Bl _ _ _ _
            simpa using this
          have HR12 : Hid (Bl (w11.setCell ⟨w.heap.size, 3, none⟩ (.slice (some ⟨gk, 0, none⟩) (kn - 1) kc)) (w.heap.size + 1 + 1) 37 #[.slice none 0 0, .slice none 0 0, .slice none 0 0, .slice none 0 0, .slice none 0 0]) := HR11.out.far (p := ⟨w.heap.size, 3, none⟩) (by simp; omega) _
          have HO12 := Lib.hid (HO11.out.setC HX11.out 3 (.slice (some ⟨gk, 0, none⟩) (kn - 1) kc))
          have HB12 : Hid (RowKit.Below N w (w11.setCell ⟨w.heap.size, 3, none⟩ (.slice (some ⟨gk, 0, none⟩) (kn - 1) kc))) := HB11.out.setCell (p := ⟨w.heap.size, 3, none⟩) HN.out _
          have HFX12 : Hid (RowsFix w (w11.setCell ⟨w.heap.size, 3, none⟩ (.slice (some ⟨gk, 0, none⟩) (kn - 1) kc)) ⟨Hs, Hq, ⟨some ⟨gg, 0, none⟩, gn, gc⟩, ⟨some ⟨gk, 0, none⟩, kn, kc⟩, ⟨mA, mn, mc⟩⟩) := fun b' h1 h2 h3 h4 h5 => (Below.heap_setCell _ _ _ b' (Nat.ne_of_lt h1)).trans (HFX11.out b' h1 h2 h3 h4 h5)
          have HA12 : Hid (CovApart ⟨Hs, Hq, ⟨some ⟨gg, 0, none⟩, gn, gc⟩, ⟨some ⟨gk, 0, none⟩, kn - 1, kc⟩, ⟨mA, mn, mc⟩⟩ { C with gs := C.gs.set I ⟨b.h, B, n', d, us'⟩, cov := C.cov.take J ++ C.cov.drop (J + 1) }) := fun g hg j hj => HAB.out g hg j hj
          go_upto_region 12 with (fail)
          clear x3 xf3 HX11 HR11 HO11 HB11 HFX11 hw1
          generalize w11.setCell ⟨w.heap.size, 3, none⟩ (.slice (some ⟨gk, 0, none⟩) (kn - 1) kc) = W12 at *
          have x0 : W12.cell? ⟨w.heap.size, 0, none⟩ = some (.slice Hs.A Hs.n Hs.c) := HX12.out.c0
          have x1 : W12.cell? ⟨w.heap.size, 1, none⟩ = some (.slice Hq.A Hq.n Hq.c) := HX12.out.c1
          have x2 : W12.cell? ⟨w.heap.size, 2, none⟩ = some (.slice (some ⟨gg, 0, none⟩) gn gc) := HX12.out.c2
          have x3 : W12.cell? ⟨w.heap.size, 3, none⟩ = some (.slice (some ⟨gk, 0, none⟩) (kn - 1) kc) := HX12.out.c3
          have x4 : W12.cell? ⟨w.heap.size, 4, none⟩ = some (.slice mA mn mc) := HX12.out.c4
          have r0 : W12.cell? ⟨w.heap.size + 1 + 1, 0, none⟩ = some (.slice none 0 0) := HR12.out.c0
          have rf0 : W12.frozen? ⟨w.heap.size + 1 + 1, 0, none⟩ = false := HR12.out.free 0
          have r1 : W12.cell? ⟨w.heap.size + 1 + 1, 1, none⟩ = some (.slice none 0 0) := HR12.out.c1
          have rf1 : W12.frozen? ⟨w.heap.size + 1 + 1, 1, none⟩ = false := HR12.out.free 1
          have r2 : W12.cell? ⟨w.heap.size + 1 + 1, 2, none⟩ = some (.slice none 0 0) := HR12.out.c2
          have rf2 : W12.frozen? ⟨w.heap.size + 1 + 1, 2, none⟩ = false := HR12.out.free 2
          have r3 : W12.cell? ⟨w.heap.size + 1 + 1, 3, none⟩ = some (.slice none 0 0) := HR12.out.c3
          have rf3 : W12.frozen? ⟨w.heap.size + 1 + 1, 3, none⟩ = false := HR12.out.free 3
          have r4 : W12.cell? ⟨w.heap.size + 1 + 1, 4, none⟩ = some (.slice none 0 0) := HR12.out.c4
          have rf4 : W12.frozen? ⟨w.heap.size + 1 + 1, 4, none⟩ = false := HR12.out.free 4
          go_wp2
          refine bodyPost_ret (v := .tuple #[.agg #[.slice Hs.A Hs.n Hs.c, .slice Hq.A Hq.n Hq.c, .slice (some ⟨gg, 0, none⟩) gn gc, .slice (some ⟨gk, 0, none⟩) (kn - 1) kc, .slice mA mn mc], .int .i64 0]) (by simp [results, Tryz.results45, go_sem, r0, r1, r2, r3, r4]) rfl ?_
          exact ⟨⟨Hs, Hq, ⟨some ⟨gg, 0, none⟩, gn, gc⟩, ⟨some ⟨gk, 0, none⟩, kn - 1, kc⟩, ⟨mA, mn, mc⟩⟩, _, 0, rfl, HO12.out.far HR12.out (fun b hb => heap_set5 hb _ _ _ _ _), HA12.out, CInv.covd HIB.out (uAsc_del HI.out.asc) (by simp; omega), rfl, rfl, (fun b' h1 h2 h3 h4 h5 => (heap_set5 (by omega) _ _ _ _ _).trans (HFX12.out b' h1 h2 h3 h4 h5)), put5 HB12.out (Nat.le_trans HN.out (by omega)) _ _ _ _ _, AwEx.kind HKD.out⟩
end Go.Proofs.YtdbcbbiplkikcaaGreat

namespace Go.Proofs.YtdbcbbiplkikcaaGreat
open Go.RowKit
set_option linter.unusedVariables false
set_option maxRecDepth 100000 in
set_option maxHeartbeats 8000000 in
theorem handle37c (N : Nat) (H : Hds) (C : Cen) (m : Mg) (ls : List Int) (k : Nat) (w : World) (hO : CenO N w H C) (ha : CovApart H C) (hN : N ≤ w.heap.size) (hI : CInv k C) (hk : k ≤ 100) (hkd : m.kind ≠ 50 ∧ m.kind ≠ 51) (h : Ints w m.LA m.ln ls) (hc : m.code.size ≤ 9223372036854775807) (hy : m.ctry.size ≤ 9223372036854775807) (hln : m.ln ≤ 9223372036854775807) (htx : m.text.size ≤ 9223372036854775807) :
    Calls Tryz.prog 28 #[.agg #[.slice H.s.A H.s.n H.s.c, .slice H.q.A H.q.n H.q.c, .slice H.g.A H.g.n H.g.c, .slice H.k.A H.k.n H.k.c, .slice H.m.A H.m.n H.m.c], .agg #[.int .i64 m.kind, .int .i64 m.frm, .int .i64 m.dst, .int .i64 m.num, .int .i64 m.day, .int .i64 m.lot, .int .i64 m.oth, .string m.code, .string m.ctry, .int .i64 m.qty, .int .i64 m.amt, .slice m.LA m.ln m.lc, .string m.text]] w (HdlRes N w C m k) := by
  obtain ⟨⟨sA, sn, sc⟩, Hq, Hg, Hk, Hm⟩ := H
  have HO := Lib.hid hO
  have HA := Lib.hid ha
  have HN := Lib.hid hN
  have HI := Lib.hid hI
  have HKC := Lib.hid hkd
  have HK := Lib.hid hk
  have HSN : Hid (C.seen.length = sn) := own_lenK encRc_len (by omega) hO.seen
  have hsn : sn ≤ 100 := by have := hI.seen; have := HSN.out; omega
  have HLS : Hid (∀ b, (Value.slice sA sn sc).ownBlock = some b → b < w.heap.size) := fun b e => own_lt hO.seen b e
  have HLQ : Hid (∀ b, (Value.slice Hq.A Hq.n Hq.c).ownBlock = some b → b < w.heap.size) := fun b e => own_lt hO.qs b e
  have HLG : Hid (∀ b, (Value.slice Hg.A Hg.n Hg.c).ownBlock = some b → b < w.heap.size) := fun b e => own_lt hO.gs b e
  have HLK : Hid (∀ b, (Value.slice Hk.A Hk.n Hk.c).ownBlock = some b → b < w.heap.size) := fun b e => own_lt hO.cov b e
  have HLM : Hid (∀ b, (Value.slice Hm.A Hm.n Hm.c).ownBlock = some b → b < w.heap.size) := fun b e => own_lt hO.sent b e
  obtain ⟨W0, hW0⟩ : ∃ W, W = (((w.alloc (.cells #[.slice sA sn sc, .slice Hq.A Hq.n Hq.c, .slice Hg.A Hg.n Hg.c, .slice Hk.A Hk.n Hk.c, .slice Hm.A Hm.n Hm.c] 37)).alloc (.cells #[.int .i64 m.kind, .int .i64 m.frm, .int .i64 m.dst, .int .i64 m.num, .int .i64 m.day, .int .i64 m.lot, .int .i64 m.oth, .string m.code, .string m.ctry, .int .i64 m.qty, .int .i64 m.amt, .slice m.LA m.ln m.lc, .string m.text] 48)).alloc (.cells #[.slice none 0 0, .slice none 0 0, .slice none 0 0, .slice none 0 0, .slice none 0 0] 37)).alloc (.cells #[.int .i64 0] 38) := ⟨_, rfl⟩
  have hx : Bl W0 w.heap.size 37 #[.slice sA sn sc, .slice Hq.A Hq.n Hq.c, .slice Hg.A Hg.n Hg.c, .slice Hk.A Hk.n Hk.c, .slice Hm.A Hm.n Hm.c] := by rw [hW0]; exact (((Bl.new w _ _).alloc _).alloc _).alloc _
  have hmb : Bl W0 (w.heap.size + 1) 48 #[.int .i64 m.kind, .int .i64 m.frm, .int .i64 m.dst, .int .i64 m.num, .int .i64 m.day, .int .i64 m.lot, .int .i64 m.oth, .string m.code, .string m.ctry, .int .i64 m.qty, .int .i64 m.amt, .slice m.LA m.ln m.lc, .string m.text] := by rw [hW0]; have := ((Bl.new (w.alloc (.cells #[.slice sA sn sc, .slice Hq.A Hq.n Hq.c, .slice Hg.A Hg.n Hg.c, .slice Hk.A Hk.n Hk.c, .slice Hm.A Hm.n Hm.c] 37)) 48 #[.int .i64 m.kind, .int .i64 m.frm, .int .i64 m.dst, .int .i64 m.num, .int .i64 m.day, .int .i64 m.lot, .int .i64 m.oth, .string m.code, .string m.ctry, .int .i64 m.qty, .int .i64 m.amt, .slice m.LA m.ln m.lc, .string m.text]).alloc (.cells #[.slice none 0 0, .slice none 0 0, .slice none 0 0, .slice none 0 0, .slice none 0 0] 37)).alloc (.cells #[.int .i64 0] 38); simpa using this
  have hr : Bl W0 (w.heap.size + 1 + 1) 37 #[.slice none 0 0, .slice none 0 0, .slice none 0 0, .slice none 0 0, .slice none 0 0] := by rw [hW0]; have := (Bl.new ((w.alloc (.cells #[.slice sA sn sc, .slice Hq.A Hq.n Hq.c, .slice Hg.A Hg.n Hg.c, .slice Hk.A Hk.n Hk.c, .slice Hm.A Hm.n Hm.c] 37)).alloc (.cells #[.int .i64 m.kind, .int .i64 m.frm, .int .i64 m.dst, .int .i64 m.num, .int .i64 m.day, .int .i64 m.lot, .int .i64 m.oth, .string m.code, .string m.ctry, .int .i64 m.qty, .int .i64 m.amt, .slice m.LA m.ln m.lc, .string m.text] 48)) 37 #[.slice none 0 0, .slice none 0 0, .slice none 0 0, .slice none 0 0, .slice none 0 0]).alloc (.cells #[.int .i64 0] 38); simpa using this
  have hee : Bl W0 (w.heap.size + 1 + 1 + 1) 38 #[.int .i64 0] := by rw [hW0]; have := Bl.new (((w.alloc (.cells #[.slice sA sn sc, .slice Hq.A Hq.n Hq.c, .slice Hg.A Hg.n Hg.c, .slice Hk.A Hk.n Hk.c, .slice Hm.A Hm.n Hm.c] 37)).alloc (.cells #[.int .i64 m.kind, .int .i64 m.frm, .int .i64 m.dst, .int .i64 m.num, .int .i64 m.day, .int .i64 m.lot, .int .i64 m.oth, .string m.code, .string m.ctry, .int .i64 m.qty, .int .i64 m.amt, .slice m.LA m.ln m.lc, .string m.text] 48)).alloc (.cells #[.slice none 0 0, .slice none 0 0, .slice none 0 0, .slice none 0 0, .slice none 0 0] 37)) 38 #[.int .i64 0]; simpa using this
  have hb0 : RowKit.Below w.heap.size w W0 := by rw [hW0]; exact ((((Below.refl _ _).alloc (Nat.le_refl _) _).alloc (by simp) _).alloc (by simp; omega) _).alloc (by simp; omega) _
  have HO0 := Lib.hid (hO.below hb0)
  have HCL := Lib.hid (refuse_any m ls W0 (h.below hb0) hc hy hln htx)
  have HX0 := Lib.hid hx
  have HM0 := Lib.hid hmb
  have HR0 := Lib.hid hr
  have HE0 := Lib.hid hee
  have HB0 := Lib.hid hb0
  have hmf : ∀ (fn : Fn) (first cap : Array Value) (w : World), (Instr.makeFunc fn first cap).run Tryz.prog w = .ok (.func fn first cap) w := fun _ _ _ _ => rfl
  clear hO ha hN hI hkd hk hx hmb hr hee hb0 h hc hy hln htx
  go_enter_defers Tryz.func28, Tryz.ntmps28
  go_upto_region 1 with (fail)
  rw [← hW0]
  clear hW0
  have y0 : W0.cell? ⟨w.heap.size + 1, 0, none⟩ = some (.int .i64 m.kind) := HM0.out.cell 0
  have y1 : W0.cell? ⟨w.heap.size + 1, 1, none⟩ = some (.int .i64 m.frm) := HM0.out.cell 1
  have y2 : W0.cell? ⟨w.heap.size + 1, 2, none⟩ = some (.int .i64 m.dst) := HM0.out.cell 2
  have y3 : W0.cell? ⟨w.heap.size + 1, 3, none⟩ = some (.int .i64 m.num) := HM0.out.cell 3
  have y4 : W0.cell? ⟨w.heap.size + 1, 4, none⟩ = some (.int .i64 m.day) := HM0.out.cell 4
  have y5 : W0.cell? ⟨w.heap.size + 1, 5, none⟩ = some (.int .i64 m.lot) := HM0.out.cell 5
  have y6 : W0.cell? ⟨w.heap.size + 1, 6, none⟩ = some (.int .i64 m.oth) := HM0.out.cell 6
  have y7 : W0.cell? ⟨w.heap.size + 1, 7, none⟩ = some (.string m.code) := HM0.out.cell 7
  have y8 : W0.cell? ⟨w.heap.size + 1, 8, none⟩ = some (.string m.ctry) := HM0.out.cell 8
  have y9 : W0.cell? ⟨w.heap.size + 1, 9, none⟩ = some (.int .i64 m.qty) := HM0.out.cell 9
  have y10 : W0.cell? ⟨w.heap.size + 1, 10, none⟩ = some (.int .i64 m.amt) := HM0.out.cell 10
  have y11 : W0.cell? ⟨w.heap.size + 1, 11, none⟩ = some (.slice m.LA m.ln m.lc) := HM0.out.cell 11
  have y12 : W0.cell? ⟨w.heap.size + 1, 12, none⟩ = some (.string m.text) := HM0.out.cell 12
  go_wp2_with fail
  refine HCL.out.mono ?_
  rintro e w1 ⟨er, rfl, her1, her2, hb1⟩
  have HX := Lib.hid (HX0.out.keep hb1)
  have HM := Lib.hid (HM0.out.keep hb1)
  have HR := Lib.hid (HR0.out.keep hb1)
  have HE := Lib.hid (HE0.out.keep hb1)
  have HB : Hid (RowKit.Below w.heap.size w w1) := HB0.out.trans (hb1.mono HB0.out.size)
  have HO1 := Lib.hid (HO0.out.below hb1)
  have HE1 := Lib.hid her1
  have HE2 := Lib.hid her2
  have hsz1 : w.heap.size + 1 + 1 + 1 < w1.heap.size := HE.out.lt
  clear y0 y1 y2 y3 y4 y5 y6 y7 y8 y9 y10 y11 y12 her1 her2 HX0 HM0 HR0 HE0 HB0 HO0 HCL hb1
  by_cases h0 : er = 0
  case neg =>
    have b1 : (er != 0) = true := by simpa using h0
    have HAW : Hid (AwHx C m er C) := fun k1 k2 k3 k4 hm _ => absurd (HE2.out hm k1 k2 k3 k4) h0
    clear h0
    have x0 : w1.cell? ⟨w.heap.size, 0, none⟩ = some (.slice sA sn sc) := HX.out.c0
    have x1 : w1.cell? ⟨w.heap.size, 1, none⟩ = some (.slice Hq.A Hq.n Hq.c) := HX.out.c1
    have x2 : w1.cell? ⟨w.heap.size, 2, none⟩ = some (.slice Hg.A Hg.n Hg.c) := HX.out.c2
    have x3 : w1.cell? ⟨w.heap.size, 3, none⟩ = some (.slice Hk.A Hk.n Hk.c) := HX.out.c3
    have x4 : w1.cell? ⟨w.heap.size, 4, none⟩ = some (.slice Hm.A Hm.n Hm.c) := HX.out.c4
    have r0 : w1.cell? ⟨w.heap.size + 1 + 1, 0, none⟩ = some (.slice none 0 0) := HR.out.c0
    have rf0 : w1.frozen? ⟨w.heap.size + 1 + 1, 0, none⟩ = false := HR.out.free 0
    have r1 : w1.cell? ⟨w.heap.size + 1 + 1, 1, none⟩ = some (.slice none 0 0) := HR.out.c1
    have rf1 : w1.frozen? ⟨w.heap.size + 1 + 1, 1, none⟩ = false := HR.out.free 1
    have r2 : w1.cell? ⟨w.heap.size + 1 + 1, 2, none⟩ = some (.slice none 0 0) := HR.out.c2
    have rf2 : w1.frozen? ⟨w.heap.size + 1 + 1, 2, none⟩ = false := HR.out.free 2
    have r3 : w1.cell? ⟨w.heap.size + 1 + 1, 3, none⟩ = some (.slice none 0 0) := HR.out.c3
    have rf3 : w1.frozen? ⟨w.heap.size + 1 + 1, 3, none⟩ = false := HR.out.free 3
    have r4 : w1.cell? ⟨w.heap.size + 1 + 1, 4, none⟩ = some (.slice none 0 0) := HR.out.c4
    have rf4 : w1.frozen? ⟨w.heap.size + 1 + 1, 4, none⟩ = false := HR.out.free 4
    have e0 : w1.cell? ⟨w.heap.size + 1 + 1 + 1, 0, none⟩ = some (.int .i64 0) := HE.out.cell 0
    have ef : w1.frozen? ⟨w.heap.size + 1 + 1 + 1, 0, none⟩ = false := HE.out.free 0
    go_wp2
    refine ⟨.tuple #[.agg #[.slice sA sn sc, .slice Hq.A Hq.n Hq.c, .slice Hg.A Hg.n Hg.c, .slice Hk.A Hk.n Hk.c, .slice Hm.A Hm.n Hm.c], .int .i64 er], ?_, ?_⟩
    · simp [results, Tryz.results28, go_sem, r0, r1, r2, r3, r4, e0]
    · exact HdlRes.mk ⟨⟨sA, sn, sc⟩, Hq, Hg, Hk, Hm⟩ C er rfl (cenO_set6 HO1.out HR.out HE.out (by omega) _ _ _ _ _ _) (HI.out.mono (Nat.le_succ k)) (put6 (HB.out.mono HN.out) (Nat.le_trans HN.out (by omega)) (Nat.le_trans HN.out (by omega)) _ _ _ _ _ _) HAW.out
  case pos =>
    subst h0
    have HMK : Hid (MOk m) := HE1.out rfl
    have b1 : ((0 : Int) != 0) = false := rfl
    clear HE1 HE2
    have y1 : w1.cell? ⟨w.heap.size + 1, 1, none⟩ = some (.int .i64 m.frm) := HM.out.cell 1
    have y3 : w1.cell? ⟨w.heap.size + 1, 3, none⟩ = some (.int .i64 m.num) := HM.out.cell 3
    have hba : RowKit.Below w1.heap.size w1 (w1.alloc (.cells #[.int .i64 m.frm, .int .i64 m.num, .int .i64 0] 85)) := (Below.refl _ _).alloc (Nat.le_refl _) _
    have HX4 := Lib.hid (HX.out.keep hba)
    have HM4 := Lib.hid (HM.out.keep hba)
    have HR4 := Lib.hid (HR.out.keep hba)
    have HE4 := Lib.hid (HE.out.keep hba)
    have HO4 := Lib.hid (HO1.out.below hba)
    have HB4 : Hid (RowKit.Below w.heap.size w (w1.alloc (.cells #[.int .i64 m.frm, .int .i64 m.num, .int .i64 0] 85))) := HB.out.trans (hba.mono HB.out.size)
    have HG4 := Lib.hid (Bl.new w1 85 #[.int .i64 m.frm, .int .i64 m.num, .int .i64 0])
    clear hba HX HM HR HE HO1 HB
    go_upto_region 5 with (fail)
    clear y1 y3 b1
    generalize w1.alloc (.cells #[.int .i64 m.frm, .int .i64 m.num, .int .i64 0] 85) = W4 at *
    generalize w1.heap.size = g7 at *
    have HCB := Lib.hid (bsearchR_any sA sn sc C.seen ⟨m.frm, m.num, 0⟩ W4 HO4.out.at_.seen.recs (by omega))
    have x0 : W4.cell? ⟨w.heap.size, 0, none⟩ = some (.slice sA sn sc) := HX4.out.c0
    have q0 : W4.cell? ⟨g7, 0, none⟩ = some (.int .i64 m.frm) := HG4.out.cell 0
    have q1 : W4.cell? ⟨g7, 1, none⟩ = some (.int .i64 m.num) := HG4.out.cell 1
    have q2 : W4.cell? ⟨g7, 2, none⟩ = some (.int .i64 0) := HG4.out.cell 2
    go_wp2_with fail
    refine HCB.out.mono ?_
    rintro e w5 ⟨I, b, rfl, hI1, hI2, hb5⟩
    have hba : RowKit.Below W4.heap.size W4 (w5.alloc (.cells #[.int .i64 (I : Int)] 3)) := hb5.alloc hb5.size _
    have HX5 := Lib.hid (HX4.out.keep hba)
    have HM5 := Lib.hid (HM4.out.keep hba)
    have HR5 := Lib.hid (HR4.out.keep hba)
    have HE5 := Lib.hid (HE4.out.keep hba)
    have HG5 := Lib.hid (HG4.out.keep hba)
    have HO5 := Lib.hid (HO4.out.below hba)
    have HB5 : Hid (RowKit.Below w.heap.size w (w5.alloc (.cells #[.int .i64 (I : Int)] 3))) := HB4.out.trans (hba.mono HB4.out.size)
    have HA5 := Lib.hid (Bl.new w5 3 #[.int .i64 (I : Int)])
    have hsz5 : g7 < w5.heap.size := Nat.lt_of_lt_of_le HG4.out.lt hb5.size
    have HI2 := Lib.hid hI2
    clear hba hb5 hI2 x0 q0 q1 q2 HX4 HM4 HR4 HE4 HG4 HO4 HB4 HCB
    go_upto_region 6 with (fail)
    generalize w5.alloc (.cells #[.int .i64 (I : Int)] 3) = W5 at *
    generalize w5.heap.size = g8 at *
    cases b
    case true =>
      have hIn := HI2.out rfl
      obtain ⟨gs, hA⟩ := own_addr HO5.out.seen (by simp only; omega)
      simp only at hA
      subst hA
      have hIi : (I : Int) < sn := by omega
      have hIz : (0 : Int) ≤ (I : Int) := by omega
      obtain ⟨re, hre⟩ : ∃ re, C.seen[I]! = re := ⟨_, rfl⟩
      have s2 : W5.cell? ⟨gs, I * 3 + 2, none⟩ = some (.int .i64 re.err) := by
        have := own_cellK encRc_len HO5.out.seen (i := I) (c := 2) (by rw [HSN.out]; exact hIn) (by omega) HSN.out
        rw [this, hre]; rfl
      have a0 : W5.cell? ⟨g8, 0, none⟩ = some (.int .i64 (I : Int)) := HA5.out.cell 0
      have HAW : Hid (∀ er, AwHx C m er C) := fun er _ _ _ _ _ hs => absurd hIn (by have := HSN.out; rw [hs] at this; simp at this; omega)
      clear hre
      have x0 : W5.cell? ⟨w.heap.size, 0, none⟩ = some (.slice (some ⟨gs, 0, none⟩) sn sc) := HX5.out.c0
      have x1 : W5.cell? ⟨w.heap.size, 1, none⟩ = some (.slice Hq.A Hq.n Hq.c) := HX5.out.c1
      have x2 : W5.cell? ⟨w.heap.size, 2, none⟩ = some (.slice Hg.A Hg.n Hg.c) := HX5.out.c2
      have x3 : W5.cell? ⟨w.heap.size, 3, none⟩ = some (.slice Hk.A Hk.n Hk.c) := HX5.out.c3
      have x4 : W5.cell? ⟨w.heap.size, 4, none⟩ = some (.slice Hm.A Hm.n Hm.c) := HX5.out.c4
      have r0 : W5.cell? ⟨w.heap.size + 1 + 1, 0, none⟩ = some (.slice none 0 0) := HR5.out.c0
      have rf0 : W5.frozen? ⟨w.heap.size + 1 + 1, 0, none⟩ = false := HR5.out.free 0
      have r1 : W5.cell? ⟨w.heap.size + 1 + 1, 1, none⟩ = some (.slice none 0 0) := HR5.out.c1
      have rf1 : W5.frozen? ⟨w.heap.size + 1 + 1, 1, none⟩ = false := HR5.out.free 1
      have r2 : W5.cell? ⟨w.heap.size + 1 + 1, 2, none⟩ = some (.slice none 0 0) := HR5.out.c2
      have rf2 : W5.frozen? ⟨w.heap.size + 1 + 1, 2, none⟩ = false := HR5.out.free 2
      have r3 : W5.cell? ⟨w.heap.size + 1 + 1, 3, none⟩ = some (.slice none 0 0) := HR5.out.c3
      have rf3 : W5.frozen? ⟨w.heap.size + 1 + 1, 3, none⟩ = false := HR5.out.free 3
      have r4 : W5.cell? ⟨w.heap.size + 1 + 1, 4, none⟩ = some (.slice none 0 0) := HR5.out.c4
      have rf4 : W5.frozen? ⟨w.heap.size + 1 + 1, 4, none⟩ = false := HR5.out.free 4
      have e0 : W5.cell? ⟨w.heap.size + 1 + 1 + 1, 0, none⟩ = some (.int .i64 0) := HE5.out.cell 0
      have ef : W5.frozen? ⟨w.heap.size + 1 + 1 + 1, 0, none⟩ = false := HE5.out.free 0
      have nn0 : gs < w.heap.size := HLS.out gs rfl
      have nn1 : w.heap.size + 1 + 1 ≠ gs := by omega
      have nn2 : w.heap.size + 1 + 1 + 1 ≠ gs := by omega
      have nn3 : gs ≠ w.heap.size + 1 + 1 := by omega
      have nn4 : gs ≠ w.heap.size + 1 + 1 + 1 := by omega
      have nn5 : w.heap.size + 1 + 1 ≠ g8 := by omega
      have nn6 : w.heap.size + 1 + 1 + 1 ≠ g8 := by omega
      have nn7 : g8 ≠ w.heap.size + 1 + 1 := by omega
      have nn8 : g8 ≠ w.heap.size + 1 + 1 + 1 := by omega
      go_upto_region 7 with (fail)
      go_region
      all_goals
        (go_wp2
         refine ⟨.tuple #[.agg #[.slice (some ⟨gs, 0, none⟩) sn sc, .slice Hq.A Hq.n Hq.c, .slice Hg.A Hg.n Hg.c, .slice Hk.A Hk.n Hk.c, .slice Hm.A Hm.n Hm.c], .int .i64 re.err], ?_, ?_⟩
         · simp [results, Tryz.results28, go_sem, r0, r1, r2, r3, r4, e0]
         · exact HdlRes.mk ⟨⟨some ⟨gs, 0, none⟩, sn, sc⟩, Hq, Hg, Hk, Hm⟩ C re.err rfl ((cenO_set6 HO5.out HR5.out HE5.out (by omega) _ _ _ _ _ _).below (Below.refl _ _).drew) (HI.out.mono (Nat.le_succ k)) ((put6 (HB5.out.mono HN.out) (Nat.le_trans HN.out (by omega)) (Nat.le_trans HN.out (by omega)) _ _ _ _ _ _).drew) (HAW.out _))
    case false =>
      have x0 : W5.cell? ⟨w.heap.size, 0, none⟩ = some (.slice sA sn sc) := HX5.out.c0
      have x1 : W5.cell? ⟨w.heap.size, 1, none⟩ = some (.slice Hq.A Hq.n Hq.c) := HX5.out.c1
      have x2 : W5.cell? ⟨w.heap.size, 2, none⟩ = some (.slice Hg.A Hg.n Hg.c) := HX5.out.c2
      have x3 : W5.cell? ⟨w.heap.size, 3, none⟩ = some (.slice Hk.A Hk.n Hk.c) := HX5.out.c3
      have x4 : W5.cell? ⟨w.heap.size, 4, none⟩ = some (.slice Hm.A Hm.n Hm.c) := HX5.out.c4
      have y0 : W5.cell? ⟨w.heap.size + 1, 0, none⟩ = some (.int .i64 m.kind) := HM5.out.cell 0
      have y1 : W5.cell? ⟨w.heap.size + 1, 1, none⟩ = some (.int .i64 m.frm) := HM5.out.cell 1
      have y2 : W5.cell? ⟨w.heap.size + 1, 2, none⟩ = some (.int .i64 m.dst) := HM5.out.cell 2
      have y3 : W5.cell? ⟨w.heap.size + 1, 3, none⟩ = some (.int .i64 m.num) := HM5.out.cell 3
      have y4 : W5.cell? ⟨w.heap.size + 1, 4, none⟩ = some (.int .i64 m.day) := HM5.out.cell 4
      have y5 : W5.cell? ⟨w.heap.size + 1, 5, none⟩ = some (.int .i64 m.lot) := HM5.out.cell 5
      have y6 : W5.cell? ⟨w.heap.size + 1, 6, none⟩ = some (.int .i64 m.oth) := HM5.out.cell 6
      have y7 : W5.cell? ⟨w.heap.size + 1, 7, none⟩ = some (.string m.code) := HM5.out.cell 7
      have y8 : W5.cell? ⟨w.heap.size + 1, 8, none⟩ = some (.string m.ctry) := HM5.out.cell 8
      have y9 : W5.cell? ⟨w.heap.size + 1, 9, none⟩ = some (.int .i64 m.qty) := HM5.out.cell 9
      have y10 : W5.cell? ⟨w.heap.size + 1, 10, none⟩ = some (.int .i64 m.amt) := HM5.out.cell 10
      have y11 : W5.cell? ⟨w.heap.size + 1, 11, none⟩ = some (.slice m.LA m.ln m.lc) := HM5.out.cell 11
      have y12 : W5.cell? ⟨w.heap.size + 1, 12, none⟩ = some (.string m.text) := HM5.out.cell 12
      have r0 : W5.cell? ⟨w.heap.size + 1 + 1, 0, none⟩ = some (.slice none 0 0) := HR5.out.c0
      have rf0 : W5.frozen? ⟨w.heap.size + 1 + 1, 0, none⟩ = false := HR5.out.free 0
      have r1 : W5.cell? ⟨w.heap.size + 1 + 1, 1, none⟩ = some (.slice none 0 0) := HR5.out.c1
      have rf1 : W5.frozen? ⟨w.heap.size + 1 + 1, 1, none⟩ = false := HR5.out.free 1
      have r2 : W5.cell? ⟨w.heap.size + 1 + 1, 2, none⟩ = some (.slice none 0 0) := HR5.out.c2
      have rf2 : W5.frozen? ⟨w.heap.size + 1 + 1, 2, none⟩ = false := HR5.out.free 2
      have r3 : W5.cell? ⟨w.heap.size + 1 + 1, 3, none⟩ = some (.slice none 0 0) := HR5.out.c3
      have rf3 : W5.frozen? ⟨w.heap.size + 1 + 1, 3, none⟩ = false := HR5.out.free 3
      have r4 : W5.cell? ⟨w.heap.size + 1 + 1, 4, none⟩ = some (.slice none 0 0) := HR5.out.c4
      have rf4 : W5.frozen? ⟨w.heap.size + 1 + 1, 4, none⟩ = false := HR5.out.free 4
      have e0 : W5.cell? ⟨w.heap.size + 1 + 1 + 1, 0, none⟩ = some (.int .i64 0) := HE5.out.cell 0
      have ef : W5.frozen? ⟨w.heap.size + 1 + 1 + 1, 0, none⟩ = false := HE5.out.free 0
      have kb0 : (m.kind == 50) = false := by simpa using HKC.out.1
      have kb1 : (m.kind == 51) = false := by simpa using HKC.out.2
      have HAC := Lib.hid (free37_any N ⟨⟨sA, sn, sc⟩, Hq, Hg, Hk, Hm⟩ C m k W5 HO5.out HA.out (Nat.le_trans HN.out HB5.out.size) HI.out HK.out HMK.out HKC.out.1)
      go_wp2_with fail
      refine HAC.out.mono ?_
      rintro e w6 ⟨⟨Hs', Hq', Hg', Hk', Hm'⟩, C', er, rfl, hO6, hA6, hI6, hs6, hse6, hfx6, hb6, haw6⟩
      simp only at hs6
      subst hs6
      have hbx : ∀ b, w.heap.size ≤ b → b < W5.heap.size → w6.heap[b]? = W5.heap[b]? := fun b h1 h2 => hfx6 b h2 (fun e => by have := HLQ.out b e.symm; omega) (fun e => by have := HLG.out b e.symm; omega) (fun e => by have := HLK.out b e.symm; omega) (fun e => by have := HLM.out b e.symm; omega)
      have hl8 : g8 < W5.heap.size := HA5.out.lt
      have HR6 : Hid (Bl w6 (w.heap.size + 1 + 1) 37 #[.slice none 0 0, .slice none 0 0, .slice none 0 0, .slice none 0 0, .slice none 0 0]) := (hbx _ (by omega) (by omega)).trans HR5.out
      have HE6 : Hid (Bl w6 (w.heap.size + 1 + 1 + 1) 38 #[.int .i64 0]) := (hbx _ (by omega) (by omega)).trans HE5.out
      have HG6 : Hid (Bl w6 g7 85 #[.int .i64 m.frm, .int .i64 m.num, .int .i64 0]) := (hbx _ (by omega) (by omega)).trans HG5.out
      have HA6 : Hid (Bl w6 g8 3 #[.int .i64 (I : Int)]) := (hbx _ (by omega) (by omega)).trans HA5.out
      have HO6 := Lib.hid hO6
      have HI6 := Lib.hid hI6
      have HSE6 := Lib.hid hse6
      have HB6 : Hid (RowKit.Below N w w6) := (HB5.out.mono HN.out).trans hb6
      have HAW6 := Lib.hid haw6
      clear hO6 hA6 hI6 hse6 hfx6 hb6 haw6 hbx x0 x1 x2 x3 x4 y0 y1 y2 y3 y4 y5 y6 y7 y8 y9 y10 y11 y12 r0 r1 r2 r3 r4 rf0 rf1 rf2 rf3 rf4 e0 ef kb0 HX5 HM5 HR5 HE5 HG5 HO5 HA5 HAC HB5
      have r0 : w6.cell? ⟨w.heap.size + 1 + 1, 0, none⟩ = some (.slice none 0 0) := HR6.out.c0
      have rf0 : w6.frozen? ⟨w.heap.size + 1 + 1, 0, none⟩ = false := HR6.out.free 0
      have r1 : w6.cell? ⟨w.heap.size + 1 + 1, 1, none⟩ = some (.slice none 0 0) := HR6.out.c1
      have rf1 : w6.frozen? ⟨w.heap.size + 1 + 1, 1, none⟩ = false := HR6.out.free 1
      have r2 : w6.cell? ⟨w.heap.size + 1 + 1, 2, none⟩ = some (.slice none 0 0) := HR6.out.c2
      have rf2 : w6.frozen? ⟨w.heap.size + 1 + 1, 2, none⟩ = false := HR6.out.free 2
      have r3 : w6.cell? ⟨w.heap.size + 1 + 1, 3, none⟩ = some (.slice none 0 0) := HR6.out.c3
      have rf3 : w6.frozen? ⟨w.heap.size + 1 + 1, 3, none⟩ = false := HR6.out.free 3
      have r4 : w6.cell? ⟨w.heap.size + 1 + 1, 4, none⟩ = some (.slice none 0 0) := HR6.out.c4
      have rf4 : w6.frozen? ⟨w.heap.size + 1 + 1, 4, none⟩ = false := HR6.out.free 4
      have e0 : w6.cell? ⟨w.heap.size + 1 + 1 + 1, 0, none⟩ = some (.int .i64 0) := HE6.out.cell 0
      have ef : w6.frozen? ⟨w.heap.size + 1 + 1 + 1, 0, none⟩ = false := HE6.out.free 0
      have HR7 : Hid (Bl ((((((w6.setCell ⟨w.heap.size + 1 + 1, 0, none⟩ (.slice sA sn sc)).setCell ⟨w.heap.size + 1 + 1, 1, none⟩ (.slice Hq'.A Hq'.n Hq'.c)).setCell ⟨w.heap.size + 1 + 1, 2, none⟩ (.slice Hg'.A Hg'.n Hg'.c)).setCell ⟨w.heap.size + 1 + 1, 3, none⟩ (.slice Hk'.A Hk'.n Hk'.c)).setCell ⟨w.heap.size + 1 + 1, 4, none⟩ (.slice Hm'.A Hm'.n Hm'.c)).setCell ⟨w.heap.size + 1 + 1 + 1, 0, none⟩ (.int .i64 er)) (w.heap.size + 1 + 1) 37 #[.slice sA sn sc, .slice Hq'.A Hq'.n Hq'.c, .slice Hg'.A Hg'.n Hg'.c, .slice Hk'.A Hk'.n Hk'.c, .slice Hm'.A Hm'.n Hm'.c]) := (set5_bl HR6.out _ _ _ _ _).far (p := ⟨w.heap.size + 1 + 1 + 1, 0, none⟩) (by simp) _
      have HE7 : Hid (Bl ((((((w6.setCell ⟨w.heap.size + 1 + 1, 0, none⟩ (.slice sA sn sc)).setCell ⟨w.heap.size + 1 + 1, 1, none⟩ (.slice Hq'.A Hq'.n Hq'.c)).setCell ⟨w.heap.size + 1 + 1, 2, none⟩ (.slice Hg'.A Hg'.n Hg'.c)).setCell ⟨w.heap.size + 1 + 1, 3, none⟩ (.slice Hk'.A Hk'.n Hk'.c)).setCell ⟨w.heap.size + 1 + 1, 4, none⟩ (.slice Hm'.A Hm'.n Hm'.c)).setCell ⟨w.heap.size + 1 + 1 + 1, 0, none⟩ (.int .i64 er)) (w.heap.size + 1 + 1 + 1) 38 #[.int .i64 er]) := by
        have h1 := (HE6.out.far5 (r := w.heap.size + 1 + 1) (by omega) (.slice sA sn sc) (.slice Hq'.A Hq'.n Hq'.c) (.slice Hg'.A Hg'.n Hg'.c) (.slice Hk'.A Hk'.n Hk'.c) (.slice Hm'.A Hm'.n Hm'.c)).put 0 (.int .i64 er)
        show Bl _ _ _ _
        simpa using h1
      have HG7 : Hid (Bl ((((((w6.setCell ⟨w.heap.size + 1 + 1, 0, none⟩ (.slice sA sn sc)).setCell ⟨w.heap.size + 1 + 1, 1, none⟩ (.slice Hq'.A Hq'.n Hq'.c)).setCell ⟨w.heap.size + 1 + 1, 2, none⟩ (.slice Hg'.A Hg'.n Hg'.c)).setCell ⟨w.heap.size + 1 + 1, 3, none⟩ (.slice Hk'.A Hk'.n Hk'.c)).setCell ⟨w.heap.size + 1 + 1, 4, none⟩ (.slice Hm'.A Hm'.n Hm'.c)).setCell ⟨w.heap.size + 1 + 1 + 1, 0, none⟩ (.int .i64 er)) g7 85 #[.int .i64 m.frm, .int .i64 m.num, .int .i64 0]) := (HG6.out.far5 (by omega) _ _ _ _ _).far (p := ⟨w.heap.size + 1 + 1 + 1, 0, none⟩) (by simp; omega) _
      have HA7 : Hid (Bl ((((((w6.setCell ⟨w.heap.size + 1 + 1, 0, none⟩ (.slice sA sn sc)).setCell ⟨w.heap.size + 1 + 1, 1, none⟩ (.slice Hq'.A Hq'.n Hq'.c)).setCell ⟨w.heap.size + 1 + 1, 2, none⟩ (.slice Hg'.A Hg'.n Hg'.c)).setCell ⟨w.heap.size + 1 + 1, 3, none⟩ (.slice Hk'.A Hk'.n Hk'.c)).setCell ⟨w.heap.size + 1 + 1, 4, none⟩ (.slice Hm'.A Hm'.n Hm'.c)).setCell ⟨w.heap.size + 1 + 1 + 1, 0, none⟩ (.int .i64 er)) g8 3 #[.int .i64 (I : Int)]) := (HA6.out.far5 (by omega) _ _ _ _ _).far (p := ⟨w.heap.size + 1 + 1 + 1, 0, none⟩) (by simp; omega) _
      have HO7 : Hid (CenO N ((((((w6.setCell ⟨w.heap.size + 1 + 1, 0, none⟩ (.slice sA sn sc)).setCell ⟨w.heap.size + 1 + 1, 1, none⟩ (.slice Hq'.A Hq'.n Hq'.c)).setCell ⟨w.heap.size + 1 + 1, 2, none⟩ (.slice Hg'.A Hg'.n Hg'.c)).setCell ⟨w.heap.size + 1 + 1, 3, none⟩ (.slice Hk'.A Hk'.n Hk'.c)).setCell ⟨w.heap.size + 1 + 1, 4, none⟩ (.slice Hm'.A Hm'.n Hm'.c)).setCell ⟨w.heap.size + 1 + 1 + 1, 0, none⟩ (.int .i64 er)) ⟨⟨sA, sn, sc⟩, Hq', Hg', Hk', Hm'⟩ C') := cenO_set6 HO6.out HR6.out HE6.out (by omega) _ _ _ _ _ _
      have HB7 : Hid (RowKit.Below N w ((((((w6.setCell ⟨w.heap.size + 1 + 1, 0, none⟩ (.slice sA sn sc)).setCell ⟨w.heap.size + 1 + 1, 1, none⟩ (.slice Hq'.A Hq'.n Hq'.c)).setCell ⟨w.heap.size + 1 + 1, 2, none⟩ (.slice Hg'.A Hg'.n Hg'.c)).setCell ⟨w.heap.size + 1 + 1, 3, none⟩ (.slice Hk'.A Hk'.n Hk'.c)).setCell ⟨w.heap.size + 1 + 1, 4, none⟩ (.slice Hm'.A Hm'.n Hm'.c)).setCell ⟨w.heap.size + 1 + 1 + 1, 0, none⟩ (.int .i64 er))) := put6 HB6.out (Nat.le_trans HN.out (by omega)) (Nat.le_trans HN.out (by omega)) _ _ _ _ _ _
      have hNw := HN.out
      go_wp2
      refine leaves_cons (f := 41) (args := #[.pointer (some ⟨w.heap.size + 1 + 1 + 1, 0, none⟩), .pointer (some ⟨g7, 0, none⟩), .pointer (some ⟨w.heap.size + 1 + 1, 0, none⟩), .pointer (some ⟨g8, 0, none⟩)]) (by simp) (by simp [go_sem]) ?_
      refine (defer37_any N ⟨⟨sA, sn, sc⟩, Hq', Hg', Hk', Hm'⟩ C' (w.heap.size + 1 + 1 + 1) g7 (w.heap.size + 1 + 1) g8 er m.frm m.num 0 I .returning _ HO7.out (Nat.le_trans HN.out HB7.out.size) HE7.out HG7.out HR7.out HA7.out hI1 (by simp only; omega) (fun b e => by have := HLS.out b e; omega) (by omega) (by omega) (by omega)).mono ?_
      rintro e u' w8 ⟨rfl, rfl, B8, d8, hn8, he8, hO8, hb8⟩
      have r0 : w8.cell? ⟨w.heap.size + 1 + 1, 0, none⟩ = some (.slice B8 (sn + 1) d8) := hn8.c0
      have r1 : w8.cell? ⟨w.heap.size + 1 + 1, 1, none⟩ = some (.slice Hq'.A Hq'.n Hq'.c) := hn8.c1
      have r2 : w8.cell? ⟨w.heap.size + 1 + 1, 2, none⟩ = some (.slice Hg'.A Hg'.n Hg'.c) := hn8.c2
      have r3 : w8.cell? ⟨w.heap.size + 1 + 1, 3, none⟩ = some (.slice Hk'.A Hk'.n Hk'.c) := hn8.c3
      have r4 : w8.cell? ⟨w.heap.size + 1 + 1, 4, none⟩ = some (.slice Hm'.A Hm'.n Hm'.c) := hn8.c4
      have e0 : w8.cell? ⟨w.heap.size + 1 + 1 + 1, 0, none⟩ = some (.int .i64 er) := he8.cell 0
      refine ⟨.tuple #[.agg #[.slice B8 (sn + 1) d8, .slice Hq'.A Hq'.n Hq'.c, .slice Hg'.A Hg'.n Hg'.c, .slice Hk'.A Hk'.n Hk'.c, .slice Hm'.A Hm'.n Hm'.c], .int .i64 er], ?_, ?_⟩
      · simp [results, Tryz.results28, go_sem, r0, r1, r2, r3, r4, e0]
      · exact HdlRes.mk ⟨⟨B8, sn + 1, d8⟩, Hq', Hg', Hk', Hm'⟩ { C' with seen := C'.seen.take I ++ ⟨m.frm, m.num, er⟩ :: C'.seen.drop I } er rfl hO8 (CInv.seen_ins HI6.out (by rw [HSE6.out]; exact HI.out.seen) I _) (HB7.out.trans hb8) (fun _ _ _ _ _ _ => HAW6.out)
end Go.Proofs.YtdbcbbiplkikcaaGreat

namespace Go.Proofs.YtdbcbbiplkikcaaGreat
open Go.RowKit
set_option linter.unusedVariables false

theorem Handle37_any (H : Hds) (C : Cen) (m : Mg) (k : Nat) (w : World) (hA : CenAt w H C) (hI : CInv k C) (hk : k ≤ 100) (h : MgIn w m) :
    Calls Tryz.prog 12 #[.agg #[.slice H.s.A H.s.n H.s.c, .slice H.q.A H.q.n H.q.c, .slice H.g.A H.g.n H.g.c, .slice H.k.A H.k.n H.k.c, .slice H.m.A H.m.n H.m.c], .agg #[.int .i64 m.kind, .int .i64 m.frm, .int .i64 m.dst, .int .i64 m.num, .int .i64 m.day, .int .i64 m.lot, .int .i64 m.oth, .string m.code, .string m.ctry, .int .i64 m.qty, .int .i64 m.amt, .slice m.LA m.ln m.lc, .string m.text]] w (HndRes w C m k) := by
  obtain ⟨⟨ls, h1⟩, hc, hy, hln, htx⟩ := h
  refine Handle37_of H C m ls k w hA hI hk h1 (fun N H C w h1 h2 h3 h4 h5 => ?_)
  by_cases e : m.kind = 50
  · exact handle37a N H C m ls k w h1 h2 h3 h4 hk e h5 hc hy hln htx
  · by_cases e2 : m.kind = 51
    · exact handle37b N H C m ls k w h1 h2 h3 h4 hk e2 h5 hc hy hln htx
    · exact handle37c N H C m ls k w h1 h2 h3 h4 hk ⟨e, e2⟩ h5 hc hy hln htx
end Go.Proofs.YtdbcbbiplkikcaaGreat

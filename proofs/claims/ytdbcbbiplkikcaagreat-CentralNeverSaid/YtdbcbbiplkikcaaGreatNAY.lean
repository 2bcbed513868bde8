/-
  The contract of central.reserve. No statement of the seat is proved here. Conditions: rows of the call's own, at most 100 messages before, a message that was not refused, of another kind than 50.
-/
import Derived.Test.YtdbcbbiplkikcaaGreatNAX
namespace Go.Proofs.YtdbcbbiplkikcaaGreat
open Go.RowKit
set_option linter.unusedVariables false

set_option maxRecDepth 100000 in
set_option maxHeartbeats 16000000 in
theorem reserve37_any (N : Nat) (H : Hds) (C : Cen) (m : Mg) (k : Nat) (w : World) (hO : CenO N w H C) (ha : CovApart H C) (hN : N ≤ w.heap.size) (hI : CInv k C) (hk : k ≤ 100) (hm : MOk m) (hkd : m.kind ≠ 50) :
    Calls Tryz.prog 44 #[.agg #[.slice H.s.A H.s.n H.s.c, .slice H.q.A H.q.n H.q.c, .slice H.g.A H.g.n H.g.c, .slice H.k.A H.k.n H.k.c, .slice H.m.A H.m.n H.m.c], .agg #[.int .i64 m.kind, .int .i64 m.frm, .int .i64 m.dst, .int .i64 m.num, .int .i64 m.day, .int .i64 m.lot, .int .i64 m.oth, .string m.code, .string m.ctry, .int .i64 m.qty, .int .i64 m.amt, .slice m.LA m.ln m.lc, .string m.text]] w (ActRes N w H C m k) := by
  obtain ⟨Hs, Hq, ⟨gA, gn, gc⟩, Hk, ⟨mA, mn, mc⟩⟩ := H
  obtain ⟨_, bf1, bf2, bn1, bn2, _, _, bl1, bl2, _⟩ := hm.bounds
  have HO := Lib.hid hO
  have HA := Lib.hid ha
  have HN := Lib.hid hN
  have HI := Lib.hid hI
  have HKD := Lib.hid hkd
  have HGN : Hid (C.gs.length = gn) := own_lenK encGu_len (by omega) hO.gs
  have HMN : Hid (C.sent.length = mn) := own_lenK encS_len (by omega) hO.sent
  have HKN : Hid (C.cov.length = Hk.n) := own_lenK enc2_len (by omega) hO.cov
  have hgn : gn ≤ 16 := by have := hI.ng; have := HGN.out; omega
  have hmn : mn ≤ 20100 := by have := hI.sent; have := HMN.out; omega
  have hkn : Hk.n ≤ 100 := by have := hI.cov; have := HKN.out; omega
  have HML : Hid (∀ g, (Value.slice mA mn mc).ownBlock = some g → g < w.heap.size) := fun g e => own_lt hO.sent g e
  have HKL : Hid (∀ g, (Value.slice Hk.A Hk.n Hk.c).ownBlock = some g → g < w.heap.size) := fun g e => own_lt hO.cov g e
  clear hO ha hN hI hk hm hkd
  obtain ⟨W0, hW0⟩ : ∃ W, W = ((w.alloc (.cells #[.slice Hs.A Hs.n Hs.c, .slice Hq.A Hq.n Hq.c, .slice gA gn gc, .slice Hk.A Hk.n Hk.c, .slice mA mn mc] 37)).alloc (.cells #[.int .i64 m.kind, .int .i64 m.frm, .int .i64 m.dst, .int .i64 m.num, .int .i64 m.day, .int .i64 m.lot, .int .i64 m.oth, .string m.code, .string m.ctry, .int .i64 m.qty, .int .i64 m.amt, .slice m.LA m.ln m.lc, .string m.text] 48)).alloc (.cells #[.slice none 0 0, .slice none 0 0, .slice none 0 0, .slice none 0 0, .slice none 0 0] 37) := ⟨_, rfl⟩
  have hx : Bl W0 w.heap.size 37 #[.slice Hs.A Hs.n Hs.c, .slice Hq.A Hq.n Hq.c, .slice gA gn gc, .slice Hk.A Hk.n Hk.c, .slice mA mn mc] := by rw [hW0]; exact ((Bl.new w _ _).alloc _).alloc _
  have hmb : Bl W0 (w.heap.size + 1) 48 #[.int .i64 m.kind, .int .i64 m.frm, .int .i64 m.dst, .int .i64 m.num, .int .i64 m.day, .int .i64 m.lot, .int .i64 m.oth, .string m.code, .string m.ctry, .int .i64 m.qty, .int .i64 m.amt, .slice m.LA m.ln m.lc, .string m.text] := by rw [hW0]; have := (Bl.new (w.alloc (.cells #[.slice Hs.A Hs.n Hs.c, .slice Hq.A Hq.n Hq.c, .slice gA gn gc, .slice Hk.A Hk.n Hk.c, .slice mA mn mc] 37)) 48 #[.int .i64 m.kind, .int .i64 m.frm, .int .i64 m.dst, .int .i64 m.num, .int .i64 m.day, .int .i64 m.lot, .int .i64 m.oth, .string m.code, .string m.ctry, .int .i64 m.qty, .int .i64 m.amt, .slice m.LA m.ln m.lc, .string m.text]).alloc (.cells #[.slice none 0 0, .slice none 0 0, .slice none 0 0, .slice none 0 0, .slice none 0 0] 37); simpa using this
  have hr : Bl W0 (w.heap.size + 1 + 1) 37 #[.slice none 0 0, .slice none 0 0, .slice none 0 0, .slice none 0 0, .slice none 0 0] := by rw [hW0]; have := Bl.new ((w.alloc (.cells #[.slice Hs.A Hs.n Hs.c, .slice Hq.A Hq.n Hq.c, .slice gA gn gc, .slice Hk.A Hk.n Hk.c, .slice mA mn mc] 37)).alloc (.cells #[.int .i64 m.kind, .int .i64 m.frm, .int .i64 m.dst, .int .i64 m.num, .int .i64 m.day, .int .i64 m.lot, .int .i64 m.oth, .string m.code, .string m.ctry, .int .i64 m.qty, .int .i64 m.amt, .slice m.LA m.ln m.lc, .string m.text] 48)) 37 #[.slice none 0 0, .slice none 0 0, .slice none 0 0, .slice none 0 0, .slice none 0 0]; simpa using this
  have hb0 : RowKit.Below w.heap.size w W0 := by rw [hW0]; exact (((Below.refl _ _).alloc (Nat.le_refl _) _).alloc (by simp) _).alloc (by simp; omega) _
  have HO0 := Lib.hid (HO.out.below hb0)
  have HX0 := Lib.hid hx
  have HM0 := Lib.hid hmb
  have HR0 := Lib.hid hr
  have HB0 := Lib.hid hb0
  clear hx hmb hr hb0
  go_enter Tryz.func44, Tryz.ntmps44
  go_upto_region 1 with (fail)
  rw [← hW0]
  clear hW0
  have y5 : W0.cell? ⟨w.heap.size + 1, 5, none⟩ = some (.int .i64 m.lot) := HM0.out.cell 5
  have y6 : W0.cell? ⟨w.heap.size + 1, 6, none⟩ = some (.int .i64 m.oth) := HM0.out.cell 6
  have y10 : W0.cell? ⟨w.heap.size + 1, 10, none⟩ = some (.int .i64 m.amt) := HM0.out.cell 10
  by_cases gl1 : m.lot < 1
  · have dl1 : decide (m.lot < 1) = true := by simpa using gl1
    clear gl1
    have x0 : W0.cell? ⟨w.heap.size, 0, none⟩ = some (.slice Hs.A Hs.n Hs.c) := HX0.out.c0
    have x1 : W0.cell? ⟨w.heap.size, 1, none⟩ = some (.slice Hq.A Hq.n Hq.c) := HX0.out.c1
    have x2 : W0.cell? ⟨w.heap.size, 2, none⟩ = some (.slice gA gn gc) := HX0.out.c2
    have x3 : W0.cell? ⟨w.heap.size, 3, none⟩ = some (.slice Hk.A Hk.n Hk.c) := HX0.out.c3
    have x4 : W0.cell? ⟨w.heap.size, 4, none⟩ = some (.slice mA mn mc) := HX0.out.c4
    have r0 : W0.cell? ⟨w.heap.size + 1 + 1, 0, none⟩ = some (.slice none 0 0) := HR0.out.c0
    have rf0 : W0.frozen? ⟨w.heap.size + 1 + 1, 0, none⟩ = false := HR0.out.free 0
    have r1 : W0.cell? ⟨w.heap.size + 1 + 1, 1, none⟩ = some (.slice none 0 0) := HR0.out.c1
    have rf1 : W0.frozen? ⟨w.heap.size + 1 + 1, 1, none⟩ = false := HR0.out.free 1
    have r2 : W0.cell? ⟨w.heap.size + 1 + 1, 2, none⟩ = some (.slice none 0 0) := HR0.out.c2
    have rf2 : W0.frozen? ⟨w.heap.size + 1 + 1, 2, none⟩ = false := HR0.out.free 2
    have r3 : W0.cell? ⟨w.heap.size + 1 + 1, 3, none⟩ = some (.slice none 0 0) := HR0.out.c3
    have rf3 : W0.frozen? ⟨w.heap.size + 1 + 1, 3, none⟩ = false := HR0.out.free 3
    have r4 : W0.cell? ⟨w.heap.size + 1 + 1, 4, none⟩ = some (.slice none 0 0) := HR0.out.c4
    have rf4 : W0.frozen? ⟨w.heap.size + 1 + 1, 4, none⟩ = false := HR0.out.free 4
    go_wp2
    refine bodyPost_ret (v := .tuple #[.agg #[.slice Hs.A Hs.n Hs.c, .slice Hq.A Hq.n Hq.c, .slice gA gn gc, .slice Hk.A Hk.n Hk.c, .slice mA mn mc], .int .i64 2]) (by simp [results, Tryz.results44, go_sem, r0, r1, r2, r3, r4]) rfl ?_
    exact ActRes.same (H := ⟨Hs, Hq, ⟨gA, gn, gc⟩, Hk, ⟨mA, mn, mc⟩⟩) (HO0.out.far HR0.out (fun b hb => heap_set5 hb _ _ _ _ _)) HA.out HI.out (RowsFix.of_below (put5 HB0.out (by omega) _ _ _ _ _)) (put5 (HB0.out.mono HN.out) (Nat.le_trans HN.out (by omega)) _ _ _ _ _) (AwEx.kind HKD.out)
  have dl1 : decide (m.lot < 1) = false := by simpa using gl1
  by_cases gl2 : 99999 < m.lot
  · have dl2 : decide (99999 < m.lot) = true := by simpa using gl2
    clear gl2
    have x0 : W0.cell? ⟨w.heap.size, 0, none⟩ = some (.slice Hs.A Hs.n Hs.c) := HX0.out.c0
    have x1 : W0.cell? ⟨w.heap.size, 1, none⟩ = some (.slice Hq.A Hq.n Hq.c) := HX0.out.c1
    have x2 : W0.cell? ⟨w.heap.size, 2, none⟩ = some (.slice gA gn gc) := HX0.out.c2
    have x3 : W0.cell? ⟨w.heap.size, 3, none⟩ = some (.slice Hk.A Hk.n Hk.c) := HX0.out.c3
    have x4 : W0.cell? ⟨w.heap.size, 4, none⟩ = some (.slice mA mn mc) := HX0.out.c4
    have r0 : W0.cell? ⟨w.heap.size + 1 + 1, 0, none⟩ = some (.slice none 0 0) := HR0.out.c0
    have rf0 : W0.frozen? ⟨w.heap.size + 1 + 1, 0, none⟩ = false := HR0.out.free 0
    have r1 : W0.cell? ⟨w.heap.size + 1 + 1, 1, none⟩ = some (.slice none 0 0) := HR0.out.c1
    have rf1 : W0.frozen? ⟨w.heap.size + 1 + 1, 1, none⟩ = false := HR0.out.free 1
    have r2 : W0.cell? ⟨w.heap.size + 1 + 1, 2, none⟩ = some (.slice none 0 0) := HR0.out.c2
    have rf2 : W0.frozen? ⟨w.heap.size + 1 + 1, 2, none⟩ = false := HR0.out.free 2
    have r3 : W0.cell? ⟨w.heap.size + 1 + 1, 3, none⟩ = some (.slice none 0 0) := HR0.out.c3
    have rf3 : W0.frozen? ⟨w.heap.size + 1 + 1, 3, none⟩ = false := HR0.out.free 3
    have r4 : W0.cell? ⟨w.heap.size + 1 + 1, 4, none⟩ = some (.slice none 0 0) := HR0.out.c4
    have rf4 : W0.frozen? ⟨w.heap.size + 1 + 1, 4, none⟩ = false := HR0.out.free 4
    go_wp2
    refine bodyPost_ret (v := .tuple #[.agg #[.slice Hs.A Hs.n Hs.c, .slice Hq.A Hq.n Hq.c, .slice gA gn gc, .slice Hk.A Hk.n Hk.c, .slice mA mn mc], .int .i64 2]) (by simp [results, Tryz.results44, go_sem, r0, r1, r2, r3, r4]) rfl ?_
    exact ActRes.same (H := ⟨Hs, Hq, ⟨gA, gn, gc⟩, Hk, ⟨mA, mn, mc⟩⟩) (HO0.out.far HR0.out (fun b hb => heap_set5 hb _ _ _ _ _)) HA.out HI.out (RowsFix.of_below (put5 HB0.out (by omega) _ _ _ _ _)) (put5 (HB0.out.mono HN.out) (Nat.le_trans HN.out (by omega)) _ _ _ _ _) (AwEx.kind HKD.out)
  have dl2 : decide (99999 < m.lot) = false := by simpa using gl2
  by_cases gl3 : m.oth < 1
  · have dl3 : decide (m.oth < 1) = true := by simpa using gl3
    clear gl3
    have x0 : W0.cell? ⟨w.heap.size, 0, none⟩ = some (.slice Hs.A Hs.n Hs.c) := HX0.out.c0
    have x1 : W0.cell? ⟨w.heap.size, 1, none⟩ = some (.slice Hq.A Hq.n Hq.c) := HX0.out.c1
    have x2 : W0.cell? ⟨w.heap.size, 2, none⟩ = some (.slice gA gn gc) := HX0.out.c2
    have x3 : W0.cell? ⟨w.heap.size, 3, none⟩ = some (.slice Hk.A Hk.n Hk.c) := HX0.out.c3
    have x4 : W0.cell? ⟨w.heap.size, 4, none⟩ = some (.slice mA mn mc) := HX0.out.c4
    have r0 : W0.cell? ⟨w.heap.size + 1 + 1, 0, none⟩ = some (.slice none 0 0) := HR0.out.c0
    have rf0 : W0.frozen? ⟨w.heap.size + 1 + 1, 0, none⟩ = false := HR0.out.free 0
    have r1 : W0.cell? ⟨w.heap.size + 1 + 1, 1, none⟩ = some (.slice none 0 0) := HR0.out.c1
    have rf1 : W0.frozen? ⟨w.heap.size + 1 + 1, 1, none⟩ = false := HR0.out.free 1
    have r2 : W0.cell? ⟨w.heap.size + 1 + 1, 2, none⟩ = some (.slice none 0 0) := HR0.out.c2
    have rf2 : W0.frozen? ⟨w.heap.size + 1 + 1, 2, none⟩ = false := HR0.out.free 2
    have r3 : W0.cell? ⟨w.heap.size + 1 + 1, 3, none⟩ = some (.slice none 0 0) := HR0.out.c3
    have rf3 : W0.frozen? ⟨w.heap.size + 1 + 1, 3, none⟩ = false := HR0.out.free 3
    have r4 : W0.cell? ⟨w.heap.size + 1 + 1, 4, none⟩ = some (.slice none 0 0) := HR0.out.c4
    have rf4 : W0.frozen? ⟨w.heap.size + 1 + 1, 4, none⟩ = false := HR0.out.free 4
    go_wp2
    refine bodyPost_ret (v := .tuple #[.agg #[.slice Hs.A Hs.n Hs.c, .slice Hq.A Hq.n Hq.c, .slice gA gn gc, .slice Hk.A Hk.n Hk.c, .slice mA mn mc], .int .i64 2]) (by simp [results, Tryz.results44, go_sem, r0, r1, r2, r3, r4]) rfl ?_
    exact ActRes.same (H := ⟨Hs, Hq, ⟨gA, gn, gc⟩, Hk, ⟨mA, mn, mc⟩⟩) (HO0.out.far HR0.out (fun b hb => heap_set5 hb _ _ _ _ _)) HA.out HI.out (RowsFix.of_below (put5 HB0.out (by omega) _ _ _ _ _)) (put5 (HB0.out.mono HN.out) (Nat.le_trans HN.out (by omega)) _ _ _ _ _) (AwEx.kind HKD.out)
  have dl3 : decide (m.oth < 1) = false := by simpa using gl3
  by_cases gl4 : 1000000 < m.oth
  · have dl4 : decide (1000000 < m.oth) = true := by simpa using gl4
    clear gl4
    have x0 : W0.cell? ⟨w.heap.size, 0, none⟩ = some (.slice Hs.A Hs.n Hs.c) := HX0.out.c0
    have x1 : W0.cell? ⟨w.heap.size, 1, none⟩ = some (.slice Hq.A Hq.n Hq.c) := HX0.out.c1
    have x2 : W0.cell? ⟨w.heap.size, 2, none⟩ = some (.slice gA gn gc) := HX0.out.c2
    have x3 : W0.cell? ⟨w.heap.size, 3, none⟩ = some (.slice Hk.A Hk.n Hk.c) := HX0.out.c3
    have x4 : W0.cell? ⟨w.heap.size, 4, none⟩ = some (.slice mA mn mc) := HX0.out.c4
    have r0 : W0.cell? ⟨w.heap.size + 1 + 1, 0, none⟩ = some (.slice none 0 0) := HR0.out.c0
    have rf0 : W0.frozen? ⟨w.heap.size + 1 + 1, 0, none⟩ = false := HR0.out.free 0
    have r1 : W0.cell? ⟨w.heap.size + 1 + 1, 1, none⟩ = some (.slice none 0 0) := HR0.out.c1
    have rf1 : W0.frozen? ⟨w.heap.size + 1 + 1, 1, none⟩ = false := HR0.out.free 1
    have r2 : W0.cell? ⟨w.heap.size + 1 + 1, 2, none⟩ = some (.slice none 0 0) := HR0.out.c2
    have rf2 : W0.frozen? ⟨w.heap.size + 1 + 1, 2, none⟩ = false := HR0.out.free 2
    have r3 : W0.cell? ⟨w.heap.size + 1 + 1, 3, none⟩ = some (.slice none 0 0) := HR0.out.c3
    have rf3 : W0.frozen? ⟨w.heap.size + 1 + 1, 3, none⟩ = false := HR0.out.free 3
    have r4 : W0.cell? ⟨w.heap.size + 1 + 1, 4, none⟩ = some (.slice none 0 0) := HR0.out.c4
    have rf4 : W0.frozen? ⟨w.heap.size + 1 + 1, 4, none⟩ = false := HR0.out.free 4
    go_wp2
    refine bodyPost_ret (v := .tuple #[.agg #[.slice Hs.A Hs.n Hs.c, .slice Hq.A Hq.n Hq.c, .slice gA gn gc, .slice Hk.A Hk.n Hk.c, .slice mA mn mc], .int .i64 2]) (by simp [results, Tryz.results44, go_sem, r0, r1, r2, r3, r4]) rfl ?_
    exact ActRes.same (H := ⟨Hs, Hq, ⟨gA, gn, gc⟩, Hk, ⟨mA, mn, mc⟩⟩) (HO0.out.far HR0.out (fun b hb => heap_set5 hb _ _ _ _ _)) HA.out HI.out (RowsFix.of_below (put5 HB0.out (by omega) _ _ _ _ _)) (put5 (HB0.out.mono HN.out) (Nat.le_trans HN.out (by omega)) _ _ _ _ _) (AwEx.kind HKD.out)
  have dl4 : decide (1000000 < m.oth) = false := by simpa using gl4
  by_cases gl5 : m.amt < 0
  · have dl5 : decide (m.amt < 0) = true := by simpa using gl5
    clear gl5
    have x0 : W0.cell? ⟨w.heap.size, 0, none⟩ = some (.slice Hs.A Hs.n Hs.c) := HX0.out.c0
    have x1 : W0.cell? ⟨w.heap.size, 1, none⟩ = some (.slice Hq.A Hq.n Hq.c) := HX0.out.c1
    have x2 : W0.cell? ⟨w.heap.size, 2, none⟩ = some (.slice gA gn gc) := HX0.out.c2
    have x3 : W0.cell? ⟨w.heap.size, 3, none⟩ = some (.slice Hk.A Hk.n Hk.c) := HX0.out.c3
    have x4 : W0.cell? ⟨w.heap.size, 4, none⟩ = some (.slice mA mn mc) := HX0.out.c4
    have r0 : W0.cell? ⟨w.heap.size + 1 + 1, 0, none⟩ = some (.slice none 0 0) := HR0.out.c0
    have rf0 : W0.frozen? ⟨w.heap.size + 1 + 1, 0, none⟩ = false := HR0.out.free 0
    have r1 : W0.cell? ⟨w.heap.size + 1 + 1, 1, none⟩ = some (.slice none 0 0) := HR0.out.c1
    have rf1 : W0.frozen? ⟨w.heap.size + 1 + 1, 1, none⟩ = false := HR0.out.free 1
    have r2 : W0.cell? ⟨w.heap.size + 1 + 1, 2, none⟩ = some (.slice none 0 0) := HR0.out.c2
    have rf2 : W0.frozen? ⟨w.heap.size + 1 + 1, 2, none⟩ = false := HR0.out.free 2
    have r3 : W0.cell? ⟨w.heap.size + 1 + 1, 3, none⟩ = some (.slice none 0 0) := HR0.out.c3
    have rf3 : W0.frozen? ⟨w.heap.size + 1 + 1, 3, none⟩ = false := HR0.out.free 3
    have r4 : W0.cell? ⟨w.heap.size + 1 + 1, 4, none⟩ = some (.slice none 0 0) := HR0.out.c4
    have rf4 : W0.frozen? ⟨w.heap.size + 1 + 1, 4, none⟩ = false := HR0.out.free 4
    go_wp2
    refine bodyPost_ret (v := .tuple #[.agg #[.slice Hs.A Hs.n Hs.c, .slice Hq.A Hq.n Hq.c, .slice gA gn gc, .slice Hk.A Hk.n Hk.c, .slice mA mn mc], .int .i64 2]) (by simp [results, Tryz.results44, go_sem, r0, r1, r2, r3, r4]) rfl ?_
    exact ActRes.same (H := ⟨Hs, Hq, ⟨gA, gn, gc⟩, Hk, ⟨mA, mn, mc⟩⟩) (HO0.out.far HR0.out (fun b hb => heap_set5 hb _ _ _ _ _)) HA.out HI.out (RowsFix.of_below (put5 HB0.out (by omega) _ _ _ _ _)) (put5 (HB0.out.mono HN.out) (Nat.le_trans HN.out (by omega)) _ _ _ _ _) (AwEx.kind HKD.out)
  have dl5 : decide (m.amt < 0) = false := by simpa using gl5
  have hlot1 : 1 ≤ m.lot := by omega
  have hlot2 : m.lot ≤ 99999 := by omega
  clear gl1 gl2 gl3 gl4 gl5
  have HMV := Lib.hid (fun w => mov37_any m.frm m.lot w (by omega) (by omega))
  have y1 : W0.cell? ⟨w.heap.size + 1, 1, none⟩ = some (.int .i64 m.frm) := HM0.out.cell 1
  go_wp2_with fail
  refine (HMV.out _).mono ?_
  rintro e w1 ⟨rfl, hw1⟩
  obtain rfl : W0 = w1 := hw1.symm
  clear hw1 dl1 dl2 dl3 dl4 dl5
  obtain ⟨mov, hmov⟩ : ∃ mov, 100000 * m.frm + m.lot = mov := ⟨_, rfl⟩
  rw [hmov]
  clear hmov
  go_upto_region 4 with (fail)
  have HAC : Hid (∀ wx, RowKit.Below W0.heap.size W0 wx → Calls Tryz.prog 79 #[.agg #[.slice Hs.A Hs.n Hs.c, .slice Hq.A Hq.n Hq.c, .slice gA gn gc, .slice Hk.A Hk.n Hk.c, .slice mA mn mc], .int .i64 mov] wx fun e w' => ∃ a : Int, e = .returned (.int .i64 a) ∧ Hid (RowKit.Below W0.heap.size W0 w') ∧ Hid (RowKit.Below wx.heap.size wx w')) := fun wx hb =>
    (coveredOf_any ⟨Hs, Hq, ⟨gA, gn, gc⟩, Hk, ⟨mA, mn, mc⟩⟩ C.cov mov wx (HO0.out.below hb).at_.cov.recs (by simp only; omega)).mono fun e w' ⟨⟨a, h1⟩, h2⟩ => ⟨a, h1, hb.trans (h2.mono hb.size), h2⟩
  have x0 : W0.cell? ⟨w.heap.size, 0, none⟩ = some (.slice Hs.A Hs.n Hs.c) := HX0.out.c0
  have x1 : W0.cell? ⟨w.heap.size, 1, none⟩ = some (.slice Hq.A Hq.n Hq.c) := HX0.out.c1
  have x2 : W0.cell? ⟨w.heap.size, 2, none⟩ = some (.slice gA gn gc) := HX0.out.c2
  have x3 : W0.cell? ⟨w.heap.size, 3, none⟩ = some (.slice Hk.A Hk.n Hk.c) := HX0.out.c3
  have x4 : W0.cell? ⟨w.heap.size, 4, none⟩ = some (.slice mA mn mc) := HX0.out.c4
  have y4 : W0.cell? ⟨w.heap.size + 1, 4, none⟩ = some (.int .i64 m.day) := HM0.out.cell 4
  have y9 : W0.cell? ⟨w.heap.size + 1, 9, none⟩ = some (.int .i64 m.qty) := HM0.out.cell 9
  have hv1 : Hid (RowKit.Below W0.heap.size W0 W0.drew) := (Below.refl _ _).drew
  have hv2 : Hid (RowKit.Below W0.heap.size W0 (W0.alloc (.cells #[.int .i64 0, .int .i64 0, .int .i64 0, .int .i64 0, .int .i64 0, .int .i64 0, .int .i64 0, .string ⟨#[]⟩, .string ⟨#[]⟩, .int .i64 0, .int .i64 0, .slice none 0 0, .string ⟨#[]⟩] 48)).drew) := ((Below.refl _ _).alloc (Nat.le_refl _) _).drew
  have lx : w.heap.size < W0.heap.size := HX0.out.lt
  have lm : w.heap.size + 1 < W0.heap.size := HM0.out.lt
  have HKS : Hid (∀ wx, RowKit.Below W0.heap.size W0 wx → wx.cell? ⟨w.heap.size, 0, none⟩ = some (.slice Hs.A Hs.n Hs.c) ∧ wx.cell? ⟨w.heap.size, 1, none⟩ = some (.slice Hq.A Hq.n Hq.c) ∧ wx.cell? ⟨w.heap.size, 2, none⟩ = some (.slice gA gn gc) ∧ wx.cell? ⟨w.heap.size, 3, none⟩ = some (.slice Hk.A Hk.n Hk.c) ∧ wx.cell? ⟨w.heap.size, 4, none⟩ = some (.slice mA mn mc) ∧ wx.cell? ⟨w.heap.size + 1, 1, none⟩ = some (.int .i64 m.frm) ∧ wx.cell? ⟨w.heap.size + 1, 4, none⟩ = some (.int .i64 m.day) ∧ wx.cell? ⟨w.heap.size + 1, 5, none⟩ = some (.int .i64 m.lot) ∧ wx.cell? ⟨w.heap.size + 1, 9, none⟩ = some (.int .i64 m.qty)) := fun wx hb => ⟨(hb.cell (p := ⟨w.heap.size, 0, none⟩) lx).trans x0, (hb.cell (p := ⟨w.heap.size, 1, none⟩) lx).trans x1, (hb.cell (p := ⟨w.heap.size, 2, none⟩) lx).trans x2, (hb.cell (p := ⟨w.heap.size, 3, none⟩) lx).trans x3, (hb.cell (p := ⟨w.heap.size, 4, none⟩) lx).trans x4, (hb.cell (p := ⟨w.heap.size + 1, 1, none⟩) lm).trans y1, (hb.cell (p := ⟨w.heap.size + 1, 4, none⟩) lm).trans y4, (hb.cell (p := ⟨w.heap.size + 1, 5, none⟩) lm).trans y5, (hb.cell (p := ⟨w.heap.size + 1, 9, none⟩) lm).trans y9⟩
  go_cut [7] from 40 (fun v7 wx => Mid4 m W0 v7 wx)
  case first =>
    go_region_held3 (fun w' => w'.cell? ⟨w.heap.size, 0, none⟩ = some (.slice Hs.A Hs.n Hs.c) ∧ w'.cell? ⟨w.heap.size, 1, none⟩ = some (.slice Hq.A Hq.n Hq.c) ∧ w'.cell? ⟨w.heap.size, 2, none⟩ = some (.slice gA gn gc) ∧ w'.cell? ⟨w.heap.size, 3, none⟩ = some (.slice Hk.A Hk.n Hk.c) ∧ w'.cell? ⟨w.heap.size, 4, none⟩ = some (.slice mA mn mc) ∧ w'.cell? ⟨w.heap.size + 1, 1, none⟩ = some (.int .i64 m.frm) ∧ w'.cell? ⟨w.heap.size + 1, 4, none⟩ = some (.int .i64 m.day) ∧ w'.cell? ⟨w.heap.size + 1, 5, none⟩ = some (.int .i64 m.lot) ∧ w'.cell? ⟨w.heap.size + 1, 9, none⟩ = some (.int .i64 m.qty))
      (first
        | with_reducible exact HKS.out _ hv6.out
        | with_reducible exact HKS.out _ hv5.out
        | with_reducible exact HKS.out _ hv2.out
        | with_reducible exact HKS.out _ hv1.out
        | go_keep)
      (first
        | (go_at_call 79; (with_reducible refine (HAC.out _ hv1.out).mono ?_); rintro e w5 ⟨a, rfl, hv5, hvv⟩; have hv6 : Hid (RowKit.Below W0.heap.size W0 (w5.alloc (.cells #[.int .i64 31, .int .i64 0, .int .i64 m.frm, .int .i64 0, .int .i64 m.day, .int .i64 m.lot, .int .i64 2, .string ⟨#[]⟩, .string ⟨#[]⟩, .int .i64 m.qty, .int .i64 a, .slice none 0 0, .string ⟨#[]⟩] 48))) := hv5.out.alloc hv5.out.size _)
        | (go_at_call 79; (with_reducible refine (HAC.out _ hv2.out).mono ?_); rintro e w5 ⟨a, rfl, hv5, hvv⟩; have hv6 : Hid (RowKit.Below W0.heap.size W0 ((((((((((((((w5.setCell ⟨W0.heap.size, 0, none⟩ (.int .i64 31)).setCell ⟨W0.heap.size, 1, none⟩ (.int .i64 0)).setCell ⟨W0.heap.size, 2, none⟩ (.int .i64 m.frm)).setCell ⟨W0.heap.size, 3, none⟩ (.int .i64 0)).setCell ⟨W0.heap.size, 4, none⟩ (.int .i64 m.day)).setCell ⟨W0.heap.size, 5, none⟩ (.int .i64 m.lot)).setCell ⟨W0.heap.size, 6, none⟩ (.int .i64 2)).setCell ⟨W0.heap.size, 7, none⟩ (.string ⟨#[]⟩)).setCell ⟨W0.heap.size, 8, none⟩ (.string ⟨#[]⟩)).setCell ⟨W0.heap.size, 9, none⟩ (.int .i64 m.qty)).setCell ⟨W0.heap.size, 10, none⟩ (.int .i64 a)).setCell ⟨W0.heap.size, 11, none⟩ (.slice none 0 0)).setCell ⟨W0.heap.size, 12, none⟩ (.string ⟨#[]⟩)))) := put13 hv5.out (Nat.le_refl _) _ _ _ _ _ _ _ _ _ _ _ _ _; have HZ5 := Lib.hid (((Bl.new W0 48 #[.int .i64 0, .int .i64 0, .int .i64 0, .int .i64 0, .int .i64 0, .int .i64 0, .int .i64 0, .string ⟨#[]⟩, .string ⟨#[]⟩, .int .i64 0, .int .i64 0, .slice none 0 0, .string ⟨#[]⟩]).drew).keep hvv.out); have z0 : w5.cell? ⟨W0.heap.size, 0, none⟩ = some (.int .i64 0) := HZ5.out.cell 0; have zf0 : w5.frozen? ⟨W0.heap.size, 0, none⟩ = false := HZ5.out.free 0; have z1 : w5.cell? ⟨W0.heap.size, 1, none⟩ = some (.int .i64 0) := HZ5.out.cell 1; have zf1 : w5.frozen? ⟨W0.heap.size, 1, none⟩ = false := HZ5.out.free 1; have z2 : w5.cell? ⟨W0.heap.size, 2, none⟩ = some (.int .i64 0) := HZ5.out.cell 2; have zf2 : w5.frozen? ⟨W0.heap.size, 2, none⟩ = false := HZ5.out.free 2; have z3 : w5.cell? ⟨W0.heap.size, 3, none⟩ = some (.int .i64 0) := HZ5.out.cell 3; have zf3 : w5.frozen? ⟨W0.heap.size, 3, none⟩ = false := HZ5.out.free 3; have z4 : w5.cell? ⟨W0.heap.size, 4, none⟩ = some (.int .i64 0) := HZ5.out.cell 4; have zf4 : w5.frozen? ⟨W0.heap.size, 4, none⟩ = false := HZ5.out.free 4; have z5 : w5.cell? ⟨W0.heap.size, 5, none⟩ = some (.int .i64 0) := HZ5.out.cell 5; have zf5 : w5.frozen? ⟨W0.heap.size, 5, none⟩ = false := HZ5.out.free 5; have z6 : w5.cell? ⟨W0.heap.size, 6, none⟩ = some (.int .i64 0) := HZ5.out.cell 6; have zf6 : w5.frozen? ⟨W0.heap.size, 6, none⟩ = false := HZ5.out.free 6; have z7 : w5.cell? ⟨W0.heap.size, 7, none⟩ = some (.string ⟨#[]⟩) := HZ5.out.cell 7; have zf7 : w5.frozen? ⟨W0.heap.size, 7, none⟩ = false := HZ5.out.free 7; have z8 : w5.cell? ⟨W0.heap.size, 8, none⟩ = some (.string ⟨#[]⟩) := HZ5.out.cell 8; have zf8 : w5.frozen? ⟨W0.heap.size, 8, none⟩ = false := HZ5.out.free 8; have z9 : w5.cell? ⟨W0.heap.size, 9, none⟩ = some (.int .i64 0) := HZ5.out.cell 9; have zf9 : w5.frozen? ⟨W0.heap.size, 9, none⟩ = false := HZ5.out.free 9; have z10 : w5.cell? ⟨W0.heap.size, 10, none⟩ = some (.int .i64 0) := HZ5.out.cell 10; have zf10 : w5.frozen? ⟨W0.heap.size, 10, none⟩ = false := HZ5.out.free 10; have z11 : w5.cell? ⟨W0.heap.size, 11, none⟩ = some (.slice none 0 0) := HZ5.out.cell 11; have zf11 : w5.frozen? ⟨W0.heap.size, 11, none⟩ = false := HZ5.out.free 11; have z12 : w5.cell? ⟨W0.heap.size, 12, none⟩ = some (.string ⟨#[]⟩) := HZ5.out.cell 12; have zf12 : w5.frozen? ⟨W0.heap.size, 12, none⟩ = false := HZ5.out.free 12))
    all_goals
      (go_wp2_with fail
       go_meet
       first
         | with_reducible exact Mid4.a hv5.out
         | with_reducible exact Mid4.b hv5.out HZ5.out (Nat.le_refl _))
  case rest =>
  obtain ⟨g7, a7, rfl, hg7, hg7w, hb4⟩ := hcut
  have HX := Lib.hid (HX0.out.keep hb4)
  have HM := Lib.hid (HM0.out.keep hb4)
  have HR := Lib.hid (HR0.out.keep hb4)
  have HB : Hid (RowKit.Below w.heap.size w wc) := HB0.out.trans (hb4.mono HB0.out.size)
  have HO1 := Lib.hid (HO0.out.below hb4)
  have HD := Lib.hid hg7
  have hs7 : w.heap.size + 1 + 1 < g7 := Nat.lt_of_lt_of_le HR0.out.lt hg7w
  clear HKS hv1 hv2 HAC x0 x1 x2 x3 x4 y1 y4 y5 y6 y9 y10 hg7 hg7w hb4 HX0 HM0 HR0 HB0 HO0 lx lm HMV
  generalize wc = w1 at *
  have HCL := Lib.hid (guarAt_any ⟨Hs, Hq, ⟨gA, gn, gc⟩, Hk, ⟨mA, mn, mc⟩⟩ C.gs m.oth w1 HO1.out.at_.gs.recs (by simp only; omega))
  have x0 : w1.cell? ⟨w.heap.size, 0, none⟩ = some (.slice Hs.A Hs.n Hs.c) := HX.out.c0
  have x1 : w1.cell? ⟨w.heap.size, 1, none⟩ = some (.slice Hq.A Hq.n Hq.c) := HX.out.c1
  have x2 : w1.cell? ⟨w.heap.size, 2, none⟩ = some (.slice gA gn gc) := HX.out.c2
  have x3 : w1.cell? ⟨w.heap.size, 3, none⟩ = some (.slice Hk.A Hk.n Hk.c) := HX.out.c3
  have x4 : w1.cell? ⟨w.heap.size, 4, none⟩ = some (.slice mA mn mc) := HX.out.c4
  have y6 : w1.cell? ⟨w.heap.size + 1, 6, none⟩ = some (.int .i64 m.oth) := HM.out.cell 6
  go_wp2_with fail
  refine HCL.out.mono ?_
  rintro e w2 ⟨hor, hb2⟩
  have HX2 := Lib.hid (HX.out.keep hb2)
  have HM2 := Lib.hid (HM.out.keep hb2)
  have HR2 := Lib.hid (HR.out.keep hb2)
  have HD2 := Lib.hid (HD.out.keep hb2)
  have HB2 : Hid (RowKit.Below w.heap.size w w2) := HB.out.trans (hb2.mono HB.out.size)
  have HO2 := Lib.hid (HO1.out.below hb2)
  clear x0 x1 x2 x3 x4 y6 HX HM HR HD HB HO1 HCL hb2
  have HX := HX2
  have HM := HM2
  have HR := HR2
  have HD := HD2
  have HB := HB2
  clear HX2 HM2 HR2 HD2 HB2
  rcases hor with ⟨I, rfl, hI1, hI2⟩ | ⟨rfl, hno⟩
  case inr =>
    clear hno
    have d0 : decide ((-1 : Int) ≥ 0) = false := rfl
    go_upto_region 13 with (fail)
    have HFX : Hid (RowsFix w w2 ⟨Hs, Hq, ⟨gA, gn, gc⟩, Hk, ⟨mA, mn, mc⟩⟩) := RowsFix.of_below HB.out
    have HBN : Hid (RowKit.Below N w w2) := HB.out.mono HN.out
    have hwN : N ≤ w2.heap.size := Nat.le_trans HN.out HBN.out.size
    have HCS := Lib.hid (send_any N ⟨Hs, Hq, ⟨gA, gn, gc⟩, Hk, ⟨mA, mn, mc⟩⟩ C 31 m.frm m.day m.lot 2 m.qty a7 w2 HO2.out hwN (by simp only; omega))
    have x0 : w2.cell? ⟨w.heap.size, 0, none⟩ = some (.slice Hs.A Hs.n Hs.c) := HX.out.c0
    have x1 : w2.cell? ⟨w.heap.size, 1, none⟩ = some (.slice Hq.A Hq.n Hq.c) := HX.out.c1
    have x2 : w2.cell? ⟨w.heap.size, 2, none⟩ = some (.slice gA gn gc) := HX.out.c2
    have x3 : w2.cell? ⟨w.heap.size, 3, none⟩ = some (.slice Hk.A Hk.n Hk.c) := HX.out.c3
    have x4 : w2.cell? ⟨w.heap.size, 4, none⟩ = some (.slice mA mn mc) := HX.out.c4
    have d0 : w2.cell? ⟨g7, 0, none⟩ = some (.int .i64 31) := HD.out.cell 0
    have d1 : w2.cell? ⟨g7, 1, none⟩ = some (.int .i64 0) := HD.out.cell 1
    have d2 : w2.cell? ⟨g7, 2, none⟩ = some (.int .i64 m.frm) := HD.out.cell 2
    have d3 : w2.cell? ⟨g7, 3, none⟩ = some (.int .i64 0) := HD.out.cell 3
    have d4 : w2.cell? ⟨g7, 4, none⟩ = some (.int .i64 m.day) := HD.out.cell 4
    have d5 : w2.cell? ⟨g7, 5, none⟩ = some (.int .i64 m.lot) := HD.out.cell 5
    have d6 : w2.cell? ⟨g7, 6, none⟩ = some (.int .i64 2) := HD.out.cell 6
    have d7 : w2.cell? ⟨g7, 7, none⟩ = some (.string ⟨#[]⟩) := HD.out.cell 7
    have d8 : w2.cell? ⟨g7, 8, none⟩ = some (.string ⟨#[]⟩) := HD.out.cell 8
    have d9 : w2.cell? ⟨g7, 9, none⟩ = some (.int .i64 m.qty) := HD.out.cell 9
    have d10 : w2.cell? ⟨g7, 10, none⟩ = some (.int .i64 a7) := HD.out.cell 10
    have d11 : w2.cell? ⟨g7, 11, none⟩ = some (.slice none 0 0) := HD.out.cell 11
    have d12 : w2.cell? ⟨g7, 12, none⟩ = some (.string ⟨#[]⟩) := HD.out.cell 12
    go_wp2_with fail
    refine HCS.out.mono ?_
    rintro e w9 ⟨num, B9, n9, rfl, hO9, hb9, hmv9, hfx9⟩
    have HR9 : Hid (Bl w9 (w.heap.size + 1 + 1) 37 #[.slice none 0 0, .slice none 0 0, .slice none 0 0, .slice none 0 0, .slice none 0 0]) := (hfx9 (w.heap.size + 1 + 1) (Bl.lt HR.out) (fun e => by have := HML.out _ e.symm; omega)).trans HR.out
    have HO9 := Lib.hid hO9
    have HB9 : Hid (RowKit.Below N w w9) := HBN.out.trans hb9
    have HFX9 : Hid (RowsFix w w9 ⟨Hs, Hq, ⟨gA, gn, gc⟩, Hk, ⟨mA, mn, mc⟩⟩) := fun b' h1 h2 h3 h4 h5 => (hfx9 b' (Nat.lt_of_lt_of_le h1 HBN.out.size) h5).trans (HFX.out b' h1 h2 h3 h4 h5)
    clear hO9 hb9 hmv9 hfx9 x0 x1 x2 x3 x4 d0 d1 d2 d3 d4 d5 d6 d7 d8 d9 d10 d11 d12 HCS hwN
    have r0 : w9.cell? ⟨w.heap.size + 1 + 1, 0, none⟩ = some (.slice none 0 0) := HR9.out.c0
    have rf0 : w9.frozen? ⟨w.heap.size + 1 + 1, 0, none⟩ = false := HR9.out.free 0
    have r1 : w9.cell? ⟨w.heap.size + 1 + 1, 1, none⟩ = some (.slice none 0 0) := HR9.out.c1
    have rf1 : w9.frozen? ⟨w.heap.size + 1 + 1, 1, none⟩ = false := HR9.out.free 1
    have r2 : w9.cell? ⟨w.heap.size + 1 + 1, 2, none⟩ = some (.slice none 0 0) := HR9.out.c2
    have rf2 : w9.frozen? ⟨w.heap.size + 1 + 1, 2, none⟩ = false := HR9.out.free 2
    have r3 : w9.cell? ⟨w.heap.size + 1 + 1, 3, none⟩ = some (.slice none 0 0) := HR9.out.c3
    have rf3 : w9.frozen? ⟨w.heap.size + 1 + 1, 3, none⟩ = false := HR9.out.free 3
    have r4 : w9.cell? ⟨w.heap.size + 1 + 1, 4, none⟩ = some (.slice none 0 0) := HR9.out.c4
    have rf4 : w9.frozen? ⟨w.heap.size + 1 + 1, 4, none⟩ = false := HR9.out.free 4
    go_wp2
    refine bodyPost_ret (v := .tuple #[.agg #[.slice Hs.A Hs.n Hs.c, .slice Hq.A Hq.n Hq.c, .slice gA gn gc, .slice Hk.A Hk.n Hk.c, .slice B9 (mn + 1) n9], .int .i64 0]) (by simp [results, Tryz.results44, go_sem, r0, r1, r2, r3, r4]) rfl ?_
    exact ⟨⟨Hs, Hq, ⟨gA, gn, gc⟩, Hk, ⟨B9, mn + 1, n9⟩⟩, _, 0, rfl, HO9.out.far HR9.out (fun b hb => heap_set5 hb _ _ _ _ _), (fun g hg => HA.out g hg), CInv.sent1 HI.out _, rfl, rfl, (fun b' h1 h2 h3 h4 h5 => (heap_set5 (by omega) _ _ _ _ _).trans (HFX9.out b' h1 h2 h3 h4 h5)), put5 HB9.out (Nat.le_trans HN.out (by omega)) _ _ _ _ _, AwEx.kind HKD.out⟩
  case inl =>
    clear hI2
    have d0 : decide ((I : Int) ≥ 0) = true := by simp
    obtain ⟨gg, b, hA, hgg, a0, a1, a2, a3, HBI, HBM, HFR⟩ := getG HO2.out.gs hI1
    simp only at hA
    subst hA
    have hgw : gg < w.heap.size := own_lt HO.out.gs gg rfl
    have hIi : (I : Int) < gn := by omega
    have hIz : (0 : Int) ≤ (I : Int) := by omega
    have HGB := Lib.hid (HI.out.guars b HBM.out)
    have x2 : w2.cell? ⟨w.heap.size, 2, none⟩ = some (.slice (some ⟨gg, 0, none⟩) gn gc) := HX.out.c2
    have y10 : w2.cell? ⟨w.heap.size + 1, 10, none⟩ = some (.int .i64 m.amt) := HM.out.cell 10
    have HAC : Hid (∀ wx, RowKit.Below w2.heap.size w2 wx → Calls Tryz.prog 81 #[.agg #[.int .i64 b.h.id, .int .i64 b.h.ref, .int .i64 b.h.lev, .slice b.A b.n b.c], .int .i64 mov, .int .i64 m.amt] wx fun e w' => ∃ (a : Gh) (B : Option Addr) (n' d : Nat) (er : Int), e = .returned (.tuple #[.agg #[.int .i64 a.id, .int .i64 a.ref, .int .i64 a.lev, .slice B n' d], .int .i64 er]) ∧ Hid (GRel b.h w2.heap.size w' a B n' d er) ∧ Hid (RowKit.Below w2.heap.size w2 w') ∧ Hid (RowKit.Below wx.heap.size wx w')) := fun wx hb =>
      (set37_any b.h b.A b.n b.c b.us mov m.amt wx ((HO2.out.below hb).at_.uses b HBM.out).recs (rd_of_recs enc2_len (by omega) ((HO2.out.below hb).at_.uses b HBM.out).recs) (own_boundsF (HO2.out.uses b HBM.out)).1 HGB.out).mono fun e w' ⟨a, B, n', d, er, h1, h2, h3⟩ => ⟨a, B, n', d, er, h1, GRel.mono h2 hb.size, hb.trans (h3.mono hb.size), h3⟩
    have hv1 : Hid (RowKit.Below w2.heap.size w2 w2.drew) := (Below.refl _ _).drew
    have hv2 : Hid (RowKit.Below w2.heap.size w2 (w2.alloc (.cells #[.int .i64 0, .int .i64 0, .int .i64 0, .slice none 0 0] 30)).drew) := ((Below.refl _ _).alloc (Nat.le_refl _) _).drew
    have lx : w.heap.size < w2.heap.size := HX.out.lt
    have lm : w.heap.size + 1 < w2.heap.size := HM.out.lt
    have HKS : Hid (∀ wx, RowKit.Below w2.heap.size w2 wx → wx.cell? ⟨w.heap.size, 2, none⟩ = some (.slice (some ⟨gg, 0, none⟩) gn gc) ∧ wx.cell? ⟨gg, I * 4, none⟩ = some (.int .i64 b.h.id) ∧ wx.cell? ⟨gg, I * 4 + 1, none⟩ = some (.int .i64 b.h.ref) ∧ wx.cell? ⟨gg, I * 4 + 2, none⟩ = some (.int .i64 b.h.lev) ∧ wx.cell? ⟨gg, I * 4 + 3, none⟩ = some (.slice b.A b.n b.c) ∧ wx.cell? ⟨w.heap.size + 1, 10, none⟩ = some (.int .i64 m.amt)) := fun wx hb => ⟨(hb.cell (p := ⟨w.heap.size, 2, none⟩) lx).trans x2, (hb.cell (p := ⟨gg, I * 4, none⟩) hgg).trans a0, (hb.cell (p := ⟨gg, I * 4 + 1, none⟩) hgg).trans a1, (hb.cell (p := ⟨gg, I * 4 + 2, none⟩) hgg).trans a2, (hb.cell (p := ⟨gg, I * 4 + 3, none⟩) hgg).trans a3, (hb.cell (p := ⟨w.heap.size + 1, 10, none⟩) lm).trans y10⟩
    go_upto_region 7 with (fail)
    go_cut [9, 10] from 58 (fun v9 v10 wx => Mid7 w2 b.h v9 v10 wx)
    case first =>
      go_region_held3 (fun w' => w'.cell? ⟨w.heap.size, 2, none⟩ = some (.slice (some ⟨gg, 0, none⟩) gn gc) ∧ w'.cell? ⟨gg, I * 4, none⟩ = some (.int .i64 b.h.id) ∧ w'.cell? ⟨gg, I * 4 + 1, none⟩ = some (.int .i64 b.h.ref) ∧ w'.cell? ⟨gg, I * 4 + 2, none⟩ = some (.int .i64 b.h.lev) ∧ w'.cell? ⟨gg, I * 4 + 3, none⟩ = some (.slice b.A b.n b.c) ∧ w'.cell? ⟨w.heap.size + 1, 10, none⟩ = some (.int .i64 m.amt))
        (first
          | with_reducible exact HKS.out _ hv6.out
          | with_reducible exact HKS.out _ hv5.out
          | with_reducible exact HKS.out _ hv2.out
          | with_reducible exact HKS.out _ hv1.out
          | go_keep)
        (first
          | (go_at_call 81; (with_reducible refine (HAC.out _ hv1.out).mono ?_); rintro e w5 ⟨a, B, n', d, er, rfl, hap, hv5, hvv⟩; have hv6 : Hid (RowKit.Below w2.heap.size w2 (w5.alloc (.cells #[.int .i64 a.id, .int .i64 a.ref, .int .i64 a.lev, .slice B n' d] 30))) := hv5.out.alloc hv5.out.size _)
          | (go_at_call 81; (with_reducible refine (HAC.out _ hv2.out).mono ?_); rintro e w5 ⟨a, B, n', d, er, rfl, hap, hv5, hvv⟩; have hv6 : Hid (RowKit.Below w2.heap.size w2 ((((w5.setCell ⟨w2.heap.size, 0, none⟩ (.int .i64 a.id)).setCell ⟨w2.heap.size, 1, none⟩ (.int .i64 a.ref)).setCell ⟨w2.heap.size, 2, none⟩ (.int .i64 a.lev)).setCell ⟨w2.heap.size, 3, none⟩ (.slice B n' d))) := put4 hv5.out (Nat.le_refl _) _ _ _ _; have HZ5 := Lib.hid (((Bl.new w2 30 #[.int .i64 0, .int .i64 0, .int .i64 0, .slice none 0 0]).drew).keep hvv.out); have z0 : w5.cell? ⟨w2.heap.size, 0, none⟩ = some (.int .i64 0) := HZ5.out.cell 0; have zf0 : w5.frozen? ⟨w2.heap.size, 0, none⟩ = false := HZ5.out.free 0; have z1 : w5.cell? ⟨w2.heap.size, 1, none⟩ = some (.int .i64 0) := HZ5.out.cell 1; have zf1 : w5.frozen? ⟨w2.heap.size, 1, none⟩ = false := HZ5.out.free 1; have z2 : w5.cell? ⟨w2.heap.size, 2, none⟩ = some (.int .i64 0) := HZ5.out.cell 2; have zf2 : w5.frozen? ⟨w2.heap.size, 2, none⟩ = false := HZ5.out.free 2; have z3 : w5.cell? ⟨w2.heap.size, 3, none⟩ = some (.slice none 0 0) := HZ5.out.cell 3; have zf3 : w5.frozen? ⟨w2.heap.size, 3, none⟩ = false := HZ5.out.free 3))
      all_goals
        (go_wp2_with fail
         go_meet
         first
           | with_reducible exact Mid7.a hv5.out hap.out
           | with_reducible exact Mid7.b hv5.out HZ5.out (Nat.le_refl _) hap.out)
    case rest =>
      obtain ⟨g9, a, B, n', d, er, rfl, rfl, hg9, hg9w, hb8, hap⟩ := hcut
      have HX8 := Lib.hid (HX.out.keep hb8)
      have HM8 := Lib.hid (HM.out.keep hb8)
      have HR8 := Lib.hid (HR.out.keep hb8)
      have HD8 := Lib.hid (HD.out.keep hb8)
      have HB8 : Hid (RowKit.Below w.heap.size w wc) := HB.out.trans (hb8.mono HB.out.size)
      have HO8 := Lib.hid (HO2.out.below hb8)
      have HG9 := Lib.hid hg9
      have HAP := Lib.hid hap
      have HF8 : Hid (∀ o, wc.frozen? ⟨gg, o, none⟩ = false) := fun o => (hb8.frozen (p := ⟨gg, o, none⟩) hgg).trans (HFR.out o)
      have E0 := Lib.hid ((hb8.cell (p := ⟨gg, I * 4, none⟩) hgg).trans a0)
      have E1 := Lib.hid ((hb8.cell (p := ⟨gg, I * 4 + 1, none⟩) hgg).trans a1)
      have E2 := Lib.hid ((hb8.cell (p := ⟨gg, I * 4 + 2, none⟩) hgg).trans a2)
      have E3 := Lib.hid ((hb8.cell (p := ⟨gg, I * 4 + 3, none⟩) hgg).trans a3)
      have hgw8 : w.heap.size ≤ w2.heap.size := HB.out.size
      clear hg9 hb8 hap HX HM HR HB HO2 HFR HAC HKS hv1 hv2 lx lm x2 a0 a1 a2 a3 hgg y10 HD
      have HX := HX8
      have HM := HM8
      have HR := HR8
      have HB := HB8
      have HD := HD8
      clear HX8 HM8 HR8 HB8 HD8
      by_cases her : er = 0
      case neg =>
        have b1 : (er == 0) = false := by simpa using her
        clear her E0 E1 E2 E3 HAP
        go_upto_region 13 with (fail)
        have HFX : Hid (RowsFix w wc ⟨Hs, Hq, ⟨some ⟨gg, 0, none⟩, gn, gc⟩, Hk, ⟨mA, mn, mc⟩⟩) := RowsFix.of_below HB.out
        have HBN : Hid (RowKit.Below N w wc) := HB.out.mono HN.out
        have hwN : N ≤ wc.heap.size := Nat.le_trans HN.out HBN.out.size
        have HCS := Lib.hid (send_any N ⟨Hs, Hq, ⟨some ⟨gg, 0, none⟩, gn, gc⟩, Hk, ⟨mA, mn, mc⟩⟩ C 31 m.frm m.day m.lot 2 m.qty a7 wc HO8.out hwN (by simp only; omega))
        have x0 : wc.cell? ⟨w.heap.size, 0, none⟩ = some (.slice Hs.A Hs.n Hs.c) := HX.out.c0
        have x1 : wc.cell? ⟨w.heap.size, 1, none⟩ = some (.slice Hq.A Hq.n Hq.c) := HX.out.c1
        have x2 : wc.cell? ⟨w.heap.size, 2, none⟩ = some (.slice (some ⟨gg, 0, none⟩) gn gc) := HX.out.c2
        have x3 : wc.cell? ⟨w.heap.size, 3, none⟩ = some (.slice Hk.A Hk.n Hk.c) := HX.out.c3
        have x4 : wc.cell? ⟨w.heap.size, 4, none⟩ = some (.slice mA mn mc) := HX.out.c4
        have d0 : wc.cell? ⟨g7, 0, none⟩ = some (.int .i64 31) := HD.out.cell 0
        have d1 : wc.cell? ⟨g7, 1, none⟩ = some (.int .i64 0) := HD.out.cell 1
        have d2 : wc.cell? ⟨g7, 2, none⟩ = some (.int .i64 m.frm) := HD.out.cell 2
        have d3 : wc.cell? ⟨g7, 3, none⟩ = some (.int .i64 0) := HD.out.cell 3
        have d4 : wc.cell? ⟨g7, 4, none⟩ = some (.int .i64 m.day) := HD.out.cell 4
        have d5 : wc.cell? ⟨g7, 5, none⟩ = some (.int .i64 m.lot) := HD.out.cell 5
        have d6 : wc.cell? ⟨g7, 6, none⟩ = some (.int .i64 2) := HD.out.cell 6
        have d7 : wc.cell? ⟨g7, 7, none⟩ = some (.string ⟨#[]⟩) := HD.out.cell 7
        have d8 : wc.cell? ⟨g7, 8, none⟩ = some (.string ⟨#[]⟩) := HD.out.cell 8
        have d9 : wc.cell? ⟨g7, 9, none⟩ = some (.int .i64 m.qty) := HD.out.cell 9
        have d10 : wc.cell? ⟨g7, 10, none⟩ = some (.int .i64 a7) := HD.out.cell 10
        have d11 : wc.cell? ⟨g7, 11, none⟩ = some (.slice none 0 0) := HD.out.cell 11
        have d12 : wc.cell? ⟨g7, 12, none⟩ = some (.string ⟨#[]⟩) := HD.out.cell 12
        go_wp2_with fail
        refine HCS.out.mono ?_
        rintro e w9 ⟨num, B9, n9, rfl, hO9, hb9, hmv9, hfx9⟩
        have HR9 : Hid (Bl w9 (w.heap.size + 1 + 1) 37 #[.slice none 0 0, .slice none 0 0, .slice none 0 0, .slice none 0 0, .slice none 0 0]) := (hfx9 (w.heap.size + 1 + 1) (Bl.lt HR.out) (fun e => by have := HML.out _ e.symm; omega)).trans HR.out
        have HO9 := Lib.hid hO9
        have HB9 : Hid (RowKit.Below N w w9) := HBN.out.trans hb9
        have HFX9 : Hid (RowsFix w w9 ⟨Hs, Hq, ⟨some ⟨gg, 0, none⟩, gn, gc⟩, Hk, ⟨mA, mn, mc⟩⟩) := fun b' h1 h2 h3 h4 h5 => (hfx9 b' (Nat.lt_of_lt_of_le h1 HBN.out.size) h5).trans (HFX.out b' h1 h2 h3 h4 h5)
        clear hO9 hb9 hmv9 hfx9 x0 x1 x2 x3 x4 d0 d1 d2 d3 d4 d5 d6 d7 d8 d9 d10 d11 d12 HCS hwN
        have r0 : w9.cell? ⟨w.heap.size + 1 + 1, 0, none⟩ = some (.slice none 0 0) := HR9.out.c0
        have rf0 : w9.frozen? ⟨w.heap.size + 1 + 1, 0, none⟩ = false := HR9.out.free 0
        have r1 : w9.cell? ⟨w.heap.size + 1 + 1, 1, none⟩ = some (.slice none 0 0) := HR9.out.c1
        have rf1 : w9.frozen? ⟨w.heap.size + 1 + 1, 1, none⟩ = false := HR9.out.free 1
        have r2 : w9.cell? ⟨w.heap.size + 1 + 1, 2, none⟩ = some (.slice none 0 0) := HR9.out.c2
        have rf2 : w9.frozen? ⟨w.heap.size + 1 + 1, 2, none⟩ = false := HR9.out.free 2
        have r3 : w9.cell? ⟨w.heap.size + 1 + 1, 3, none⟩ = some (.slice none 0 0) := HR9.out.c3
        have rf3 : w9.frozen? ⟨w.heap.size + 1 + 1, 3, none⟩ = false := HR9.out.free 3
        have r4 : w9.cell? ⟨w.heap.size + 1 + 1, 4, none⟩ = some (.slice none 0 0) := HR9.out.c4
        have rf4 : w9.frozen? ⟨w.heap.size + 1 + 1, 4, none⟩ = false := HR9.out.free 4
        go_wp2
        refine bodyPost_ret (v := .tuple #[.agg #[.slice Hs.A Hs.n Hs.c, .slice Hq.A Hq.n Hq.c, .slice (some ⟨gg, 0, none⟩) gn gc, .slice Hk.A Hk.n Hk.c, .slice B9 (mn + 1) n9], .int .i64 0]) (by simp [results, Tryz.results44, go_sem, r0, r1, r2, r3, r4]) rfl ?_
        exact ⟨⟨Hs, Hq, ⟨some ⟨gg, 0, none⟩, gn, gc⟩, Hk, ⟨B9, mn + 1, n9⟩⟩, _, 0, rfl, HO9.out.far HR9.out (fun b hb => heap_set5 hb _ _ _ _ _), (fun g hg => HA.out g hg), CInv.sent1 HI.out _, rfl, rfl, (fun b' h1 h2 h3 h4 h5 => (heap_set5 (by omega) _ _ _ _ _).trans (HFX9.out b' h1 h2 h3 h4 h5)), put5 HB9.out (Nat.le_trans HN.out (by omega)) _ _ _ _ _, AwEx.kind HKD.out⟩
      case pos =>
        subst her
        have b1 : ((0 : Int) == 0) = true := rfl
        obtain ⟨haq, us', hok, hul, hou⟩ := HAP.out rfl
        subst haq
        have HOK := Lib.hid hok
        have HUL := Lib.hid hul
        have x2 : wc.cell? ⟨w.heap.size, 2, none⟩ = some (.slice (some ⟨gg, 0, none⟩) gn gc) := HX.out.c2
        have k0 : wc.cell? ⟨g9, 0, none⟩ = some (.int .i64 b.h.id) := HG9.out.cell 0
        have k1 : wc.cell? ⟨g9, 1, none⟩ = some (.int .i64 b.h.ref) := HG9.out.cell 1
        have k2 : wc.cell? ⟨g9, 2, none⟩ = some (.int .i64 b.h.lev) := HG9.out.cell 2
        have k3 : wc.cell? ⟨g9, 3, none⟩ = some (.slice B n' d) := HG9.out.cell 3
        have e0 : wc.cell? ⟨gg, I * 4, none⟩ = some (.int .i64 b.h.id) := E0.out
        have e1 : wc.cell? ⟨gg, I * 4 + 1, none⟩ = some (.int .i64 b.h.ref) := E1.out
        have e2 : wc.cell? ⟨gg, I * 4 + 2, none⟩ = some (.int .i64 b.h.lev) := E2.out
        have e3 : wc.cell? ⟨gg, I * 4 + 3, none⟩ = some (.slice b.A b.n b.c) := E3.out
        have z0 : wc.frozen? ⟨gg, I * 4, none⟩ = false := HF8.out _
        have z1 : wc.frozen? ⟨gg, I * 4 + 1, none⟩ = false := HF8.out _
        have z2 : wc.frozen? ⟨gg, I * 4 + 2, none⟩ = false := HF8.out _
        have z3 : wc.frozen? ⟨gg, I * 4 + 3, none⟩ = false := HF8.out _
        have HOB : Hid (CenO N ((((wc.setCell ⟨gg, I * 4, none⟩ (.int .i64 b.h.id)).setCell ⟨gg, I * 4 + 1, none⟩ (.int .i64 b.h.ref)).setCell ⟨gg, I * 4 + 2, none⟩ (.int .i64 b.h.lev)).setCell ⟨gg, I * 4 + 3, none⟩ (.slice B n' d)) ⟨Hs, Hq, ⟨some ⟨gg, 0, none⟩, gn, gc⟩, Hk, ⟨mA, mn, mc⟩⟩ { C with gs := C.gs.set I ⟨b.h, B, n', d, us'⟩ }) := cenO_guar (I := I) (q := b.h) HO8.out rfl (by have := HGN.out; omega) (hou.mono (Nat.le_trans HN.out hgw8))
        have HAB : Hid (CovApart ⟨Hs, Hq, ⟨some ⟨gg, 0, none⟩, gn, gc⟩, Hk, ⟨mA, mn, mc⟩⟩ { C with gs := C.gs.set I ⟨b.h, B, n', d, us'⟩ }) := HA.out.guar (fun j hj e => by have h1 := own_base hou j hj; have h2 := HKL.out j e; omega)
        have HIB : Hid (CInv k { C with gs := C.gs.set I ⟨b.h, B, n', d, us'⟩ }) := CInv.guar HI.out (b := ⟨b.h, B, n', d, us'⟩) hok
        have hne0 : w.heap.size ≠ gg := by omega
        have hne1 : w.heap.size + 1 ≠ gg := by omega
        have hne2 : w.heap.size + 1 + 1 ≠ gg := by omega
        have HHP : Hid (∀ j, j ≠ gg → ((((wc.setCell ⟨gg, I * 4, none⟩ (.int .i64 b.h.id)).setCell ⟨gg, I * 4 + 1, none⟩ (.int .i64 b.h.ref)).setCell ⟨gg, I * 4 + 2, none⟩ (.int .i64 b.h.lev)).setCell ⟨gg, I * 4 + 3, none⟩ (.slice B n' d)).heap[j]? = wc.heap[j]?) := fun j hj => heap_set4o hj _ _ _ _
        have HXB : Hid (Bl ((((wc.setCell ⟨gg, I * 4, none⟩ (.int .i64 b.h.id)).setCell ⟨gg, I * 4 + 1, none⟩ (.int .i64 b.h.ref)).setCell ⟨gg, I * 4 + 2, none⟩ (.int .i64 b.h.lev)).setCell ⟨gg, I * 4 + 3, none⟩ (.slice B n' d)) w.heap.size 37 #[.slice Hs.A Hs.n Hs.c, .slice Hq.A Hq.n Hq.c, .slice (some ⟨gg, 0, none⟩) gn gc, .slice Hk.A Hk.n Hk.c, .slice mA mn mc]) := (HHP.out _ hne0).trans HX.out
        have HMB : Hid (Bl ((((wc.setCell ⟨gg, I * 4, none⟩ (.int .i64 b.h.id)).setCell ⟨gg, I * 4 + 1, none⟩ (.int .i64 b.h.ref)).setCell ⟨gg, I * 4 + 2, none⟩ (.int .i64 b.h.lev)).setCell ⟨gg, I * 4 + 3, none⟩ (.slice B n' d)) (w.heap.size + 1) 48 #[.int .i64 m.kind, .int .i64 m.frm, .int .i64 m.dst, .int .i64 m.num, .int .i64 m.day, .int .i64 m.lot, .int .i64 m.oth, .string m.code, .string m.ctry, .int .i64 m.qty, .int .i64 m.amt, .slice m.LA m.ln m.lc, .string m.text]) := (HHP.out _ hne1).trans HM.out
        have HRB : Hid (Bl ((((wc.setCell ⟨gg, I * 4, none⟩ (.int .i64 b.h.id)).setCell ⟨gg, I * 4 + 1, none⟩ (.int .i64 b.h.ref)).setCell ⟨gg, I * 4 + 2, none⟩ (.int .i64 b.h.lev)).setCell ⟨gg, I * 4 + 3, none⟩ (.slice B n' d)) (w.heap.size + 1 + 1) 37 #[.slice none 0 0, .slice none 0 0, .slice none 0 0, .slice none 0 0, .slice none 0 0]) := (HHP.out _ hne2).trans HR.out
        have HSB : Hid (wc.heap.size = ((((wc.setCell ⟨gg, I * 4, none⟩ (.int .i64 b.h.id)).setCell ⟨gg, I * 4 + 1, none⟩ (.int .i64 b.h.ref)).setCell ⟨gg, I * 4 + 2, none⟩ (.int .i64 b.h.lev)).setCell ⟨gg, I * 4 + 3, none⟩ (.slice B n' d)).heap.size) := (by show _ = _; simp)
        have HFX : Hid (RowsFix w ((((wc.setCell ⟨gg, I * 4, none⟩ (.int .i64 b.h.id)).setCell ⟨gg, I * 4 + 1, none⟩ (.int .i64 b.h.ref)).setCell ⟨gg, I * 4 + 2, none⟩ (.int .i64 b.h.lev)).setCell ⟨gg, I * 4 + 3, none⟩ (.slice B n' d)) ⟨Hs, Hq, ⟨some ⟨gg, 0, none⟩, gn, gc⟩, Hk, ⟨mA, mn, mc⟩⟩) := fun j hj _ hq _ _ => (HHP.out j (fun e => hq (by rw [e]; rfl))).trans (HB.out.block j hj)
        have HBN : Hid (RowKit.Below N w ((((wc.setCell ⟨gg, I * 4, none⟩ (.int .i64 b.h.id)).setCell ⟨gg, I * 4 + 1, none⟩ (.int .i64 b.h.ref)).setCell ⟨gg, I * 4 + 2, none⟩ (.int .i64 b.h.lev)).setCell ⟨gg, I * 4 + 3, none⟩ (.slice B n' d))) := ((((HB.out.mono HN.out).setCell (p := ⟨gg, I * 4, none⟩) (own_base HO8.out.gs gg rfl) _).setCell (p := ⟨gg, I * 4 + 1, none⟩) (own_base HO8.out.gs gg rfl) _).setCell (p := ⟨gg, I * 4 + 2, none⟩) (own_base HO8.out.gs gg rfl) _).setCell (p := ⟨gg, I * 4 + 3, none⟩) (own_base HO8.out.gs gg rfl) _
        have HDB : Hid (Bl ((((wc.setCell ⟨gg, I * 4, none⟩ (.int .i64 b.h.id)).setCell ⟨gg, I * 4 + 1, none⟩ (.int .i64 b.h.ref)).setCell ⟨gg, I * 4 + 2, none⟩ (.int .i64 b.h.lev)).setCell ⟨gg, I * 4 + 3, none⟩ (.slice B n' d)) g7 48 #[.int .i64 31, .int .i64 0, .int .i64 m.frm, .int .i64 0, .int .i64 m.day, .int .i64 m.lot, .int .i64 2, .string ⟨#[]⟩, .string ⟨#[]⟩, .int .i64 m.qty, .int .i64 a7, .slice none 0 0, .string ⟨#[]⟩]) := (HHP.out _ (by omega)).trans HD.out
        clear hok hul hou E0 E1 E2 E3 HAP hne0 hne1 hne2
        go_upto_region 10 with (fail)
        clear x2 k0 k1 k2 k3 e0 e1 e2 e3 z0 z1 z2 z3 b1 HX HM HR HD HB HO8 HG9 HF8 HHP
        generalize ((((wc.setCell ⟨gg, I * 4, none⟩ (.int .i64 b.h.id)).setCell ⟨gg, I * 4 + 1, none⟩ (.int .i64 b.h.ref)).setCell ⟨gg, I * 4 + 2, none⟩ (.int .i64 b.h.lev)).setCell ⟨gg, I * 4 + 3, none⟩ (.slice B n' d)) = W9 at *
        have HCV := Lib.hid (cover37_any N ⟨Hs, Hq, ⟨some ⟨gg, 0, none⟩, gn, gc⟩, Hk, ⟨mA, mn, mc⟩⟩ { C with gs := C.gs.set I ⟨b.h, B, n', d, us'⟩ } mov m.amt W9 HOB.out HAB.out (Nat.le_trans HN.out HBN.out.size) HI.out.asc (by simp only; omega))
        have x0 : W9.cell? ⟨w.heap.size, 0, none⟩ = some (.slice Hs.A Hs.n Hs.c) := HXB.out.c0
        have x1 : W9.cell? ⟨w.heap.size, 1, none⟩ = some (.slice Hq.A Hq.n Hq.c) := HXB.out.c1
        have x2 : W9.cell? ⟨w.heap.size, 2, none⟩ = some (.slice (some ⟨gg, 0, none⟩) gn gc) := HXB.out.c2
        have x3 : W9.cell? ⟨w.heap.size, 3, none⟩ = some (.slice Hk.A Hk.n Hk.c) := HXB.out.c3
        have x4 : W9.cell? ⟨w.heap.size, 4, none⟩ = some (.slice mA mn mc) := HXB.out.c4
        have y10 : W9.cell? ⟨w.heap.size + 1, 10, none⟩ = some (.int .i64 m.amt) := HMB.out.cell 10
        go_wp2_with fail
        refine HCV.out.mono ?_
        rintro e w10 ⟨kB, kn', kd, cov', rfl, hO10, hasc, hclen, hb10, hmv10, hfx10⟩
        have HKF : Hid (∀ g, w.heap.size ≤ g → g < W9.heap.size → w10.heap[g]? = W9.heap[g]?) := fun g h1 h2 => hfx10 g h2 (fun e => by have := HKL.out g e.symm; omega)
        have hs9 : w.heap.size + 1 + 1 < W9.heap.size := HRB.out.lt
        have hs79 : g7 < W9.heap.size := HDB.out.lt
        have HX10 : Hid (Bl w10 w.heap.size 37 #[.slice Hs.A Hs.n Hs.c, .slice Hq.A Hq.n Hq.c, .slice (some ⟨gg, 0, none⟩) gn gc, .slice Hk.A Hk.n Hk.c, .slice mA mn mc]) := (HKF.out _ (Nat.le_refl _) (by omega)).trans HXB.out
        have HM10 : Hid (Bl w10 (w.heap.size + 1) 48 #[.int .i64 m.kind, .int .i64 m.frm, .int .i64 m.dst, .int .i64 m.num, .int .i64 m.day, .int .i64 m.lot, .int .i64 m.oth, .string m.code, .string m.ctry, .int .i64 m.qty, .int .i64 m.amt, .slice m.LA m.ln m.lc, .string m.text]) := (HKF.out _ (by omega) (by omega)).trans HMB.out
        have HR10 : Hid (Bl w10 (w.heap.size + 1 + 1) 37 #[.slice none 0 0, .slice none 0 0, .slice none 0 0, .slice none 0 0, .slice none 0 0]) := (HKF.out _ (by omega) (by omega)).trans HRB.out
        have HD10 : Hid (Bl w10 g7 48 #[.int .i64 31, .int .i64 0, .int .i64 m.frm, .int .i64 0, .int .i64 m.day, .int .i64 m.lot, .int .i64 2, .string ⟨#[]⟩, .string ⟨#[]⟩, .int .i64 m.qty, .int .i64 a7, .slice none 0 0, .string ⟨#[]⟩]) := (HKF.out _ (by omega) hs79).trans HDB.out
        have HO10 := Lib.hid hO10
        have HA10 : Hid (CovApart ⟨Hs, Hq, ⟨some ⟨gg, 0, none⟩, gn, gc⟩, ⟨kB, kn', kd⟩, ⟨mA, mn, mc⟩⟩ { C with gs := C.gs.set I ⟨b.h, B, n', d, us'⟩, cov := cov' }) := HAB.out.moved HOB.out hmv10
        have HB10 : Hid (RowKit.Below N w w10) := HBN.out.trans hb10
        have HFX10 : Hid (RowsFix w w10 ⟨Hs, Hq, ⟨some ⟨gg, 0, none⟩, gn, gc⟩, Hk, ⟨mA, mn, mc⟩⟩) := fun b' h1 h2 h3 h4 h5 => (hfx10 b' (Nat.lt_of_lt_of_le h1 HBN.out.size) h4).trans (HFX.out b' h1 h2 h3 h4 h5)
        have HAS := Lib.hid hasc
        have HCL := Lib.hid hclen
        clear hO10 hasc hclen hb10 hmv10 hfx10 HKF HCV x0 x1 x2 x3 x4 y10 HXB HMB HRB HDB HOB HAB HBN HFX
        have x0 : w10.cell? ⟨w.heap.size, 0, none⟩ = some (.slice Hs.A Hs.n Hs.c) := HX10.out.c0
        have x1 : w10.cell? ⟨w.heap.size, 1, none⟩ = some (.slice Hq.A Hq.n Hq.c) := HX10.out.c1
        have x2 : w10.cell? ⟨w.heap.size, 2, none⟩ = some (.slice (some ⟨gg, 0, none⟩) gn gc) := HX10.out.c2
        have x3 : w10.cell? ⟨w.heap.size, 3, none⟩ = some (.slice Hk.A Hk.n Hk.c) := HX10.out.c3
        have x4 : w10.cell? ⟨w.heap.size, 4, none⟩ = some (.slice mA mn mc) := HX10.out.c4
        have xf0 : w10.frozen? ⟨w.heap.size, 0, none⟩ = false := HX10.out.free 0
        have xf1 : w10.frozen? ⟨w.heap.size, 1, none⟩ = false := HX10.out.free 1
        have xf2 : w10.frozen? ⟨w.heap.size, 2, none⟩ = false := HX10.out.free 2
        have xf3 : w10.frozen? ⟨w.heap.size, 3, none⟩ = false := HX10.out.free 3
        have xf4 : w10.frozen? ⟨w.heap.size, 4, none⟩ = false := HX10.out.free 4
        have HXC : Hid (Bl (((((w10.setCell ⟨w.heap.size, 0, none⟩ (.slice Hs.A Hs.n Hs.c)).setCell ⟨w.heap.size, 1, none⟩ (.slice Hq.A Hq.n Hq.c)).setCell ⟨w.heap.size, 2, none⟩ (.slice (some ⟨gg, 0, none⟩) gn gc)).setCell ⟨w.heap.size, 3, none⟩ (.slice kB kn' kd)).setCell ⟨w.heap.size, 4, none⟩ (.slice mA mn mc)) w.heap.size 37 #[.slice Hs.A Hs.n Hs.c, .slice Hq.A Hq.n Hq.c, .slice (some ⟨gg, 0, none⟩) gn gc, .slice kB kn' kd, .slice mA mn mc]) := set5_bl HX10.out _ _ _ _ _
        have HMC : Hid (Bl (((((w10.setCell ⟨w.heap.size, 0, none⟩ (.slice Hs.A Hs.n Hs.c)).setCell ⟨w.heap.size, 1, none⟩ (.slice Hq.A Hq.n Hq.c)).setCell ⟨w.heap.size, 2, none⟩ (.slice (some ⟨gg, 0, none⟩) gn gc)).setCell ⟨w.heap.size, 3, none⟩ (.slice kB kn' kd)).setCell ⟨w.heap.size, 4, none⟩ (.slice mA mn mc)) (w.heap.size + 1) 48 #[.int .i64 m.kind, .int .i64 m.frm, .int .i64 m.dst, .int .i64 m.num, .int .i64 m.day, .int .i64 m.lot, .int .i64 m.oth, .string m.code, .string m.ctry, .int .i64 m.qty, .int .i64 m.amt, .slice m.LA m.ln m.lc, .string m.text]) := HM10.out.far5 (by omega) _ _ _ _ _
        have HRC : Hid (Bl (((((w10.setCell ⟨w.heap.size, 0, none⟩ (.slice Hs.A Hs.n Hs.c)).setCell ⟨w.heap.size, 1, none⟩ (.slice Hq.A Hq.n Hq.c)).setCell ⟨w.heap.size, 2, none⟩ (.slice (some ⟨gg, 0, none⟩) gn gc)).setCell ⟨w.heap.size, 3, none⟩ (.slice kB kn' kd)).setCell ⟨w.heap.size, 4, none⟩ (.slice mA mn mc)) (w.heap.size + 1 + 1) 37 #[.slice none 0 0, .slice none 0 0, .slice none 0 0, .slice none 0 0, .slice none 0 0]) := HR10.out.far5 (by omega) _ _ _ _ _
        have HDC : Hid (Bl (((((w10.setCell ⟨w.heap.size, 0, none⟩ (.slice Hs.A Hs.n Hs.c)).setCell ⟨w.heap.size, 1, none⟩ (.slice Hq.A Hq.n Hq.c)).setCell ⟨w.heap.size, 2, none⟩ (.slice (some ⟨gg, 0, none⟩) gn gc)).setCell ⟨w.heap.size, 3, none⟩ (.slice kB kn' kd)).setCell ⟨w.heap.size, 4, none⟩ (.slice mA mn mc)) g7 48 #[.int .i64 31, .int .i64 0, .int .i64 m.frm, .int .i64 0, .int .i64 m.day, .int .i64 m.lot, .int .i64 2, .string ⟨#[]⟩, .string ⟨#[]⟩, .int .i64 m.qty, .int .i64 a7, .slice none 0 0, .string ⟨#[]⟩]) := HD10.out.far5 (by omega) _ _ _ _ _
        have HOC : Hid (CenO N (((((w10.setCell ⟨w.heap.size, 0, none⟩ (.slice Hs.A Hs.n Hs.c)).setCell ⟨w.heap.size, 1, none⟩ (.slice Hq.A Hq.n Hq.c)).setCell ⟨w.heap.size, 2, none⟩ (.slice (some ⟨gg, 0, none⟩) gn gc)).setCell ⟨w.heap.size, 3, none⟩ (.slice kB kn' kd)).setCell ⟨w.heap.size, 4, none⟩ (.slice mA mn mc)) ⟨Hs, Hq, ⟨some ⟨gg, 0, none⟩, gn, gc⟩, ⟨kB, kn', kd⟩, ⟨mA, mn, mc⟩⟩ { C with gs := C.gs.set I ⟨b.h, B, n', d, us'⟩, cov := cov' }) := HO10.out.far HX10.out (fun j hj => heap_set5 hj _ _ _ _ _)
        have HBC : Hid (RowKit.Below N w (((((w10.setCell ⟨w.heap.size, 0, none⟩ (.slice Hs.A Hs.n Hs.c)).setCell ⟨w.heap.size, 1, none⟩ (.slice Hq.A Hq.n Hq.c)).setCell ⟨w.heap.size, 2, none⟩ (.slice (some ⟨gg, 0, none⟩) gn gc)).setCell ⟨w.heap.size, 3, none⟩ (.slice kB kn' kd)).setCell ⟨w.heap.size, 4, none⟩ (.slice mA mn mc))) := put5 HB10.out HN.out _ _ _ _ _
        have HFC : Hid (RowsFix w (((((w10.setCell ⟨w.heap.size, 0, none⟩ (.slice Hs.A Hs.n Hs.c)).setCell ⟨w.heap.size, 1, none⟩ (.slice Hq.A Hq.n Hq.c)).setCell ⟨w.heap.size, 2, none⟩ (.slice (some ⟨gg, 0, none⟩) gn gc)).setCell ⟨w.heap.size, 3, none⟩ (.slice kB kn' kd)).setCell ⟨w.heap.size, 4, none⟩ (.slice mA mn mc)) ⟨Hs, Hq, ⟨some ⟨gg, 0, none⟩, gn, gc⟩, Hk, ⟨mA, mn, mc⟩⟩) := fun b' h1 h2 h3 h4 h5 => (heap_set5 (Nat.ne_of_lt h1) _ _ _ _ _).trans (HFX10.out b' h1 h2 h3 h4 h5)
        go_upto_region 11 with (fail)
        clear x0 x1 x2 x3 x4 xf0 xf1 xf2 xf3 xf4 HX10 HM10 HR10 HD10 HO10 HB10 HFX10
        generalize (((((w10.setCell ⟨w.heap.size, 0, none⟩ (.slice Hs.A Hs.n Hs.c)).setCell ⟨w.heap.size, 1, none⟩ (.slice Hq.A Hq.n Hq.c)).setCell ⟨w.heap.size, 2, none⟩ (.slice (some ⟨gg, 0, none⟩) gn gc)).setCell ⟨w.heap.size, 3, none⟩ (.slice kB kn' kd)).setCell ⟨w.heap.size, 4, none⟩ (.slice mA mn mc)) = W11 at *
        have e6 : W11.cell? ⟨g7, 6, none⟩ = some (.int .i64 2) := HDC.out.cell 6
        have f6 : W11.frozen? ⟨g7, 6, none⟩ = false := HDC.out.free 6
        have HDD : Hid (Bl (W11.setCell ⟨g7, 6, none⟩ (.int .i64 1)) g7 48 #[.int .i64 31, .int .i64 0, .int .i64 m.frm, .int .i64 0, .int .i64 m.day, .int .i64 m.lot, .int .i64 1, .string ⟨#[]⟩, .string ⟨#[]⟩, .int .i64 m.qty, .int .i64 a7, .slice none 0 0, .string ⟨#[]⟩]) := by
          have := HDC.out.put 6 (.int .i64 1)
          show Bl _ _ _ _
          simpa using this
        have HHQ : Hid (∀ j, j ≠ g7 → (W11.setCell ⟨g7, 6, none⟩ (.int .i64 1)).heap[j]? = W11.heap[j]?) := fun j hj => Below.heap_setCell _ _ _ j hj
        have HMD : Hid (Bl (W11.setCell ⟨g7, 6, none⟩ (.int .i64 1)) (w.heap.size + 1) 48 #[.int .i64 m.kind, .int .i64 m.frm, .int .i64 m.dst, .int .i64 m.num, .int .i64 m.day, .int .i64 m.lot, .int .i64 m.oth, .string m.code, .string m.ctry, .int .i64 m.qty, .int .i64 m.amt, .slice m.LA m.ln m.lc, .string m.text]) := (HHQ.out _ (by omega)).trans HMC.out
        go_upto_region 12 with (fail)
        obtain ⟨W12, hW12⟩ : ∃ W, W = W11.setCell ⟨g7, 6, none⟩ (.int .i64 1) := ⟨_, rfl⟩
        rw [← hW12] at HDD HHQ HMD ⊢
        have HW12 := Lib.hid hW12
        clear hW12
        have y10 : W12.cell? ⟨w.heap.size + 1, 10, none⟩ = some (.int .i64 m.amt) := HMD.out.cell 10
        have e10 : W12.cell? ⟨g7, 10, none⟩ = some (.int .i64 a7) := HDD.out.cell 10
        have f10 : W12.frozen? ⟨g7, 10, none⟩ = false := HDD.out.free 10
        have HDE : Hid (Bl (W12.setCell ⟨g7, 10, none⟩ (.int .i64 m.amt)) g7 48 #[.int .i64 31, .int .i64 0, .int .i64 m.frm, .int .i64 0, .int .i64 m.day, .int .i64 m.lot, .int .i64 1, .string ⟨#[]⟩, .string ⟨#[]⟩, .int .i64 m.qty, .int .i64 m.amt, .slice none 0 0, .string ⟨#[]⟩]) := by
          have := HDD.out.put 10 (.int .i64 m.amt)
          show Bl _ _ _ _
          simpa using this
        have HHR : Hid (∀ j, j ≠ g7 → (W12.setCell ⟨g7, 10, none⟩ (.int .i64 m.amt)).heap[j]? = W11.heap[j]?) := fun j hj => (Below.heap_setCell _ _ _ j hj).trans (HHQ.out j hj)
        have HXE : Hid (Bl (W12.setCell ⟨g7, 10, none⟩ (.int .i64 m.amt)) w.heap.size 37 #[.slice Hs.A Hs.n Hs.c, .slice Hq.A Hq.n Hq.c, .slice (some ⟨gg, 0, none⟩) gn gc, .slice kB kn' kd, .slice mA mn mc]) := (HHR.out _ (by omega)).trans HXC.out
        have HRE : Hid (Bl (W12.setCell ⟨g7, 10, none⟩ (.int .i64 m.amt)) (w.heap.size + 1 + 1) 37 #[.slice none 0 0, .slice none 0 0, .slice none 0 0, .slice none 0 0, .slice none 0 0]) := (HHR.out _ (by omega)).trans HRC.out
        have HOE : Hid (CenO N (W12.setCell ⟨g7, 10, none⟩ (.int .i64 m.amt)) ⟨Hs, Hq, ⟨some ⟨gg, 0, none⟩, gn, gc⟩, ⟨kB, kn', kd⟩, ⟨mA, mn, mc⟩⟩ { C with gs := C.gs.set I ⟨b.h, B, n', d, us'⟩, cov := cov' }) := cenO_msgBox HOC.out HDC.out (by have := HML.out; exact fun j hj => by have := this j hj; omega) (fun j hj => HHR.out j hj)
        have HBE : Hid (RowKit.Below N w (W12.setCell ⟨g7, 10, none⟩ (.int .i64 m.amt))) := by
          rw [HW12.out]
          exact (HBC.out.setCell (p := ⟨g7, 6, none⟩) (Nat.le_trans HN.out (by show w.heap.size ≤ g7; omega)) _).setCell (p := ⟨g7, 10, none⟩) (Nat.le_trans HN.out (by show w.heap.size ≤ g7; omega)) _
        have HFE : Hid (RowsFix w (W12.setCell ⟨g7, 10, none⟩ (.int .i64 m.amt)) ⟨Hs, Hq, ⟨some ⟨gg, 0, none⟩, gn, gc⟩, Hk, ⟨mA, mn, mc⟩⟩) := fun b' h1 h2 h3 h4 h5 => (HHR.out b' (by omega)).trans (HFC.out b' h1 h2 h3 h4 h5)
        go_upto_region 13 with (fail)
        clear e6 f6 y10 e10 f10 HXC HMC HRC HDC HOC HBC HFC HDD HHQ HMD HW12
        generalize W12.setCell ⟨g7, 10, none⟩ (.int .i64 m.amt) = W13 at *
        have hwN : N ≤ W13.heap.size := Nat.le_trans HN.out HBE.out.size
        have HCS := Lib.hid (send_any N ⟨Hs, Hq, ⟨some ⟨gg, 0, none⟩, gn, gc⟩, ⟨kB, kn', kd⟩, ⟨mA, mn, mc⟩⟩ { C with gs := C.gs.set I ⟨b.h, B, n', d, us'⟩, cov := cov' } 31 m.frm m.day m.lot 1 m.qty m.amt W13 HOE.out hwN (by simp only; omega))
        have x0 : W13.cell? ⟨w.heap.size, 0, none⟩ = some (.slice Hs.A Hs.n Hs.c) := HXE.out.c0
        have x1 : W13.cell? ⟨w.heap.size, 1, none⟩ = some (.slice Hq.A Hq.n Hq.c) := HXE.out.c1
        have x2 : W13.cell? ⟨w.heap.size, 2, none⟩ = some (.slice (some ⟨gg, 0, none⟩) gn gc) := HXE.out.c2
        have x3 : W13.cell? ⟨w.heap.size, 3, none⟩ = some (.slice kB kn' kd) := HXE.out.c3
        have x4 : W13.cell? ⟨w.heap.size, 4, none⟩ = some (.slice mA mn mc) := HXE.out.c4
        have d0 : W13.cell? ⟨g7, 0, none⟩ = some (.int .i64 31) := HDE.out.cell 0
        have d1 : W13.cell? ⟨g7, 1, none⟩ = some (.int .i64 0) := HDE.out.cell 1
        have d2 : W13.cell? ⟨g7, 2, none⟩ = some (.int .i64 m.frm) := HDE.out.cell 2
        have d3 : W13.cell? ⟨g7, 3, none⟩ = some (.int .i64 0) := HDE.out.cell 3
        have d4 : W13.cell? ⟨g7, 4, none⟩ = some (.int .i64 m.day) := HDE.out.cell 4
        have d5 : W13.cell? ⟨g7, 5, none⟩ = some (.int .i64 m.lot) := HDE.out.cell 5
        have d6 : W13.cell? ⟨g7, 6, none⟩ = some (.int .i64 1) := HDE.out.cell 6
        have d7 : W13.cell? ⟨g7, 7, none⟩ = some (.string ⟨#[]⟩) := HDE.out.cell 7
        have d8 : W13.cell? ⟨g7, 8, none⟩ = some (.string ⟨#[]⟩) := HDE.out.cell 8
        have d9 : W13.cell? ⟨g7, 9, none⟩ = some (.int .i64 m.qty) := HDE.out.cell 9
        have d10 : W13.cell? ⟨g7, 10, none⟩ = some (.int .i64 m.amt) := HDE.out.cell 10
        have d11 : W13.cell? ⟨g7, 11, none⟩ = some (.slice none 0 0) := HDE.out.cell 11
        have d12 : W13.cell? ⟨g7, 12, none⟩ = some (.string ⟨#[]⟩) := HDE.out.cell 12
        go_wp2_with fail
        refine HCS.out.mono ?_
        rintro e w9 ⟨num, B9, n9, rfl, hO9, hb9, hmv9, hfx9⟩
        have HR9 : Hid (Bl w9 (w.heap.size + 1 + 1) 37 #[.slice none 0 0, .slice none 0 0, .slice none 0 0, .slice none 0 0, .slice none 0 0]) := (hfx9 (w.heap.size + 1 + 1) (Bl.lt HRE.out) (fun e => by have := HML.out _ e.symm; omega)).trans HRE.out
        have HO9 := Lib.hid hO9
        have HB9 : Hid (RowKit.Below N w w9) := HBE.out.trans hb9
        have HFX9 : Hid (RowsFix w w9 ⟨Hs, Hq, ⟨some ⟨gg, 0, none⟩, gn, gc⟩, Hk, ⟨mA, mn, mc⟩⟩) := fun b' h1 h2 h3 h4 h5 => (hfx9 b' (Nat.lt_of_lt_of_le h1 HBE.out.size) h5).trans (HFE.out b' h1 h2 h3 h4 h5)
        clear hO9 hb9 hmv9 hfx9 x0 x1 x2 x3 x4 d0 d1 d2 d3 d4 d5 d6 d7 d8 d9 d10 d11 d12 HCS hwN
        have r0 : w9.cell? ⟨w.heap.size + 1 + 1, 0, none⟩ = some (.slice none 0 0) := HR9.out.c0
        have rf0 : w9.frozen? ⟨w.heap.size + 1 + 1, 0, none⟩ = false := HR9.out.free 0
        have r1 : w9.cell? ⟨w.heap.size + 1 + 1, 1, none⟩ = some (.slice none 0 0) := HR9.out.c1
        have rf1 : w9.frozen? ⟨w.heap.size + 1 + 1, 1, none⟩ = false := HR9.out.free 1
        have r2 : w9.cell? ⟨w.heap.size + 1 + 1, 2, none⟩ = some (.slice none 0 0) := HR9.out.c2
        have rf2 : w9.frozen? ⟨w.heap.size + 1 + 1, 2, none⟩ = false := HR9.out.free 2
        have r3 : w9.cell? ⟨w.heap.size + 1 + 1, 3, none⟩ = some (.slice none 0 0) := HR9.out.c3
        have rf3 : w9.frozen? ⟨w.heap.size + 1 + 1, 3, none⟩ = false := HR9.out.free 3
        have r4 : w9.cell? ⟨w.heap.size + 1 + 1, 4, none⟩ = some (.slice none 0 0) := HR9.out.c4
        have rf4 : w9.frozen? ⟨w.heap.size + 1 + 1, 4, none⟩ = false := HR9.out.free 4
        go_wp2
        refine bodyPost_ret (v := .tuple #[.agg #[.slice Hs.A Hs.n Hs.c, .slice Hq.A Hq.n Hq.c, .slice (some ⟨gg, 0, none⟩) gn gc, .slice kB kn' kd, .slice B9 (mn + 1) n9], .int .i64 0]) (by simp [results, Tryz.results44, go_sem, r0, r1, r2, r3, r4]) rfl ?_
        exact ⟨⟨Hs, Hq, ⟨some ⟨gg, 0, none⟩, gn, gc⟩, ⟨kB, kn', kd⟩, ⟨B9, mn + 1, n9⟩⟩, _, 0, rfl, HO9.out.far HR9.out (fun b hb => heap_set5 hb _ _ _ _ _), (fun g hg => HA10.out g hg), CInv.covsent HIB.out HAS.out HCL.out _, rfl, rfl, (fun b' h1 h2 h3 h4 h5 => (heap_set5 (by omega) _ _ _ _ _).trans (HFX9.out b' h1 h2 h3 h4 h5)), put5 HB9.out (Nat.le_trans HN.out (by omega)) _ _ _ _ _, AwEx.kind HKD.out⟩
end Go.Proofs.YtdbcbbiplkikcaaGreat

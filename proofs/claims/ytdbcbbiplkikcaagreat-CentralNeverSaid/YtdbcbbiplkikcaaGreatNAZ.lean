/-
  The contract of central.handle at a message of the kind 51, and at a message that is refused. No statement of the seat is proved here. Conditions: rows of the call's own, at most 100 messages before.
  The contract of slices.Delete of one Reservation in a row of the call's own. No statement of the seat is proved here. Conditions: at most 1000 elements.
-/
import Derived.Test.YtdbcbbiplkikcaaGreatNAQ
import Derived.Test.YtdbcbbiplkikcaaGreatNAY
import Derived.Test.YtdbcbbiplkikcaaGreatNAS
import Derived.Test.YtdbcbbiplkikcaaGreatNAT
import Derived.Test.YtdbcbbiplkikcaaGreatNAK
namespace Go.Proofs.YtdbcbbiplkikcaaGreat
open Go.RowKit
set_option linter.unusedVariables false
set_option maxRecDepth 100000 in
set_option maxHeartbeats 8000000 in
theorem handle37b (N : Nat) (H : Hds) (C : Cen) (m : Mg) (ls : List Int) (k : Nat) (w : World) (hO : CenO N w H C) (ha : CovApart H C) (hN : N ≤ w.heap.size) (hI : CInv k C) (hk : k ≤ 100) (hkd : m.kind = 51) (h : Ints w m.LA m.ln ls) (hc : m.code.size ≤ 9223372036854775807) (hy : m.ctry.size ≤ 9223372036854775807) (hln : m.ln ≤ 9223372036854775807) (htx : m.text.size ≤ 9223372036854775807) :
    Calls Tryz.prog 28 #[.agg #[.slice H.s.A H.s.n H.s.c, .slice H.q.A H.q.n H.q.c, .slice H.g.A H.g.n H.g.c, .slice H.k.A H.k.n H.k.c, .slice H.m.A H.m.n H.m.c], .agg #[.int .i64 m.kind, .int .i64 m.frm, .int .i64 m.dst, .int .i64 m.num, .int .i64 m.day, .int .i64 m.lot, .int .i64 m.oth, .string m.code, .string m.ctry, .int .i64 m.qty, .int .i64 m.amt, .slice m.LA m.ln m.lc, .string m.text]] w (HdlRes N w C m k) := by
  obtain ⟨⟨sA, sn, sc⟩, Hq, Hg, Hk, Hm⟩ := H
  have HO := Lib.hid hO
  have HA := Lib.hid ha
  have HN := Lib.hid hN
  have HI := Lib.hid hI
  have HKC := Lib.hid hkd
  have HK := Lib.hid hk
  have HSN : Hid (C.seen.length = sn) := own_lenK encRc_len (by omega) hO.seen
  have hsn : sn ≤ 100 := by have := hI.seen; have := HSN.out; omega
  have HLS : Hid (∀ b, (Value.slice sA sn sc).ownBlock = some b → b < w.heap.size) := fun b e => own_lt hO.seen b e
  have HLQ : Hid (∀ b, (Value.slice Hq.A Hq.n Hq.c).ownBlock = some b → b < w.heap.size) := fun b e => own_lt hO.qs b e
  have HLG : Hid (∀ b, (Value.slice Hg.A Hg.n Hg.c).ownBlock = some b → b < w.heap.size) := fun b e => own_lt hO.gs b e
  have HLK : Hid (∀ b, (Value.slice Hk.A Hk.n Hk.c).ownBlock = some b → b < w.heap.size) := fun b e => own_lt hO.cov b e
  have HLM : Hid (∀ b, (Value.slice Hm.A Hm.n Hm.c).ownBlock = some b → b < w.heap.size) := fun b e => own_lt hO.sent b e
  obtain ⟨W0, hW0⟩ : ∃ W, W = (((w.alloc (.cells #[.slice sA sn sc, .slice Hq.A Hq.n Hq.c, .slice Hg.A Hg.n Hg.c, .slice Hk.A Hk.n Hk.c, .slice Hm.A Hm.n Hm.c] 37)).alloc (.cells #[.int .i64 m.kind, .int .i64 m.frm, .int .i64 m.dst, .int .i64 m.num, .int .i64 m.day, .int .i64 m.lot, .int .i64 m.oth, .string m.code, .string m.ctry, .int .i64 m.qty, .int .i64 m.amt, .slice m.LA m.ln m.lc, .string m.text] 48)).alloc (.cells #[.slice none 0 0, .slice none 0 0, .slice none 0 0, .slice none 0 0, .slice none 0 0] 37)).alloc (.cells #[.int .i64 0] 38) := ⟨_, rfl⟩
  have hx : Bl W0 w.heap.size 37 #[.slice sA sn sc, .slice Hq.A Hq.n Hq.c, .slice Hg.A Hg.n Hg.c, .slice Hk.A Hk.n Hk.c, .slice Hm.A Hm.n Hm.c] := by rw [hW0]; exact (((Bl.new w _ _).alloc _).alloc _).alloc _
  have hmb : Bl W0 (w.heap.size + 1) 48 #[.int .i64 m.kind, .int .i64 m.frm, .int .i64 m.dst, .int .i64 m.num, .int .i64 m.day, .int .i64 m.lot, .int .i64 m.oth, .string m.code, .string m.ctry, .int .i64 m.qty, .int .i64 m.amt, .slice m.LA m.ln m.lc, .string m.text] := by rw [hW0]; have := ((Bl.new (w.alloc (.cells #[.slice sA sn sc, .slice Hq.A Hq.n Hq.c, .slice Hg.A Hg.n Hg.c, .slice Hk.A Hk.n Hk.c, .slice Hm.A Hm.n Hm.c] 37)) 48 #[.int .i64 m.kind, .int .i64 m.frm, .int .i64 m.dst, .int .i64 m.num, .int .i64 m.day, .int .i64 m.lot, .int .i64 m.oth, .string m.code, .string m.ctry, .int .i64 m.qty, .int .i64 m.amt, .slice m.LA m.ln m.lc, .string m.text]).alloc (.cells #[.slice none 0 0, .slice none 0 0, .slice none 0 0, .slice none 0 0, .slice none 0 0] 37)).alloc (.cells #[.int .i64 0] 38); simpa using this
  have hr : Bl W0 (w.heap.size + 1 + 1) 37 #[.slice none 0 0, .slice none 0 0, .slice none 0 0, .slice none 0 0, .slice none 0 0] := by rw [hW0]; have := (Bl.new ((w.alloc (.cells #[.slice sA sn sc, .slice Hq.A Hq.n Hq.c, .slice Hg.A Hg.n Hg.c, .slice Hk.A Hk.n Hk.c, .slice Hm.A Hm.n Hm.c] 37)).alloc (.cells #[.int .i64 m.kind, .int .i64 m.frm, .int .i64 m.dst, .int .i64 m.num, .int .i64 m.day, .int .i64 m.lot, .int .i64 m.oth, .string m.code, .string m.ctry, .int .i64 m.qty, .int .i64 m.amt, .slice m.LA m.ln m.lc, .string m.text] 48)) 37 #[.slice none 0 0, .slice none 0 0, .slice none 0 0, .slice none 0 0, .slice none 0 0]).alloc (.cells #[.int .i64 0] 38); simpa using this
  have hee : Bl W0 (w.heap.size + 1 + 1 + 1) 38 #[.int .i64 0] := by rw [hW0]; have := Bl.new (((w.alloc (.cells #[.slice sA sn sc, .slice Hq.A Hq.n Hq.c, .slice Hg.A Hg.n Hg.c, .slice Hk.A Hk.n Hk.c, .slice Hm.A Hm.n Hm.c] 37)).alloc (.cells #[.int .i64 m.kind, .int .i64 m.frm, .int .i64 m.dst, .int .i64 m.num, .int .i64 m.day, .int .i64 m.lot, .int .i64 m.oth, .string m.code, .string m.ctry, .int .i64 m.qty, .int .i64 m.amt, .slice m.LA m.ln m.lc, .string m.text] 48)).alloc (.cells #[.slice none 0 0, .slice none 0 0, .slice none 0 0, .slice none 0 0, .slice none 0 0] 37)) 38 #[.int .i64 0]; simpa using this
  have hb0 : RowKit.Below w.heap.size w W0 := by rw [hW0]; exact ((((Below.refl _ _).alloc (Nat.le_refl _) _).alloc (by simp) _).alloc (by simp; omega) _).alloc (by simp; omega) _
  have HO0 := Lib.hid (hO.below hb0)
  have HCL := Lib.hid (refuse_any m ls W0 (h.below hb0) hc hy hln htx)
  have HX0 := Lib.hid hx
  have HM0 := Lib.hid hmb
  have HR0 := Lib.hid hr
  have HE0 := Lib.hid hee
  have HB0 := Lib.hid hb0
  have hmf : ∀ (fn : Fn) (first cap : Array Value) (w : World), (Instr.makeFunc fn first cap).run Tryz.prog w = .ok (.func fn first cap) w := fun _ _ _ _ => rfl
  clear hO ha hN hI hkd hk hx hmb hr hee hb0 h hc hy hln htx
  go_enter_defers Tryz.func28, Tryz.ntmps28
  go_upto_region 1 with (fail)
  rw [← hW0]
  clear hW0
  have y0 : W0.cell? ⟨w.heap.size + 1, 0, none⟩ = some (.int .i64 m.kind) := HM0.out.cell 0
  have y1 : W0.cell? ⟨w.heap.size + 1, 1, none⟩ = some (.int .i64 m.frm) := HM0.out.cell 1
  have y2 : W0.cell? ⟨w.heap.size + 1, 2, none⟩ = some (.int .i64 m.dst) := HM0.out.cell 2
  have y3 : W0.cell? ⟨w.heap.size + 1, 3, none⟩ = some (.int .i64 m.num) := HM0.out.cell 3
  have y4 : W0.cell? ⟨w.heap.size + 1, 4, none⟩ = some (.int .i64 m.day) := HM0.out.cell 4
  have y5 : W0.cell? ⟨w.heap.size + 1, 5, none⟩ = some (.int .i64 m.lot) := HM0.out.cell 5
  have y6 : W0.cell? ⟨w.heap.size + 1, 6, none⟩ = some (.int .i64 m.oth) := HM0.out.cell 6
  have y7 : W0.cell? ⟨w.heap.size + 1, 7, none⟩ = some (.string m.code) := HM0.out.cell 7
  have y8 : W0.cell? ⟨w.heap.size + 1, 8, none⟩ = some (.string m.ctry) := HM0.out.cell 8
  have y9 : W0.cell? ⟨w.heap.size + 1, 9, none⟩ = some (.int .i64 m.qty) := HM0.out.cell 9
  have y10 : W0.cell? ⟨w.heap.size + 1, 10, none⟩ = some (.int .i64 m.amt) := HM0.out.cell 10
  have y11 : W0.cell? ⟨w.heap.size + 1, 11, none⟩ = some (.slice m.LA m.ln m.lc) := HM0.out.cell 11
  have y12 : W0.cell? ⟨w.heap.size + 1, 12, none⟩ = some (.string m.text) := HM0.out.cell 12
  go_wp2_with fail
  refine HCL.out.mono ?_
  rintro e w1 ⟨er, rfl, her1, her2, hb1⟩
  have HX := Lib.hid (HX0.out.keep hb1)
  have HM := Lib.hid (HM0.out.keep hb1)
  have HR := Lib.hid (HR0.out.keep hb1)
  have HE := Lib.hid (HE0.out.keep hb1)
  have HB : Hid (RowKit.Below w.heap.size w w1) := HB0.out.trans (hb1.mono HB0.out.size)
  have HO1 := Lib.hid (HO0.out.below hb1)
  have HE1 := Lib.hid her1
  have HE2 := Lib.hid her2
  have hsz1 : w.heap.size + 1 + 1 + 1 < w1.heap.size := HE.out.lt
  clear y0 y1 y2 y3 y4 y5 y6 y7 y8 y9 y10 y11 y12 her1 her2 HX0 HM0 HR0 HE0 HB0 HO0 HCL hb1
  by_cases h0 : er = 0
  case neg =>
    have b1 : (er != 0) = true := by simpa using h0
    have HAW : Hid (AwHx C m er C) := fun k1 k2 k3 k4 hm _ => absurd (HE2.out hm k1 k2 k3 k4) h0
    clear h0
    have x0 : w1.cell? ⟨w.heap.size, 0, none⟩ = some (.slice sA sn sc) := HX.out.c0
    have x1 : w1.cell? ⟨w.heap.size, 1, none⟩ = some (.slice Hq.A Hq.n Hq.c) := HX.out.c1
    have x2 : w1.cell? ⟨w.heap.size, 2, none⟩ = some (.slice Hg.A Hg.n Hg.c) := HX.out.c2
    have x3 : w1.cell? ⟨w.heap.size, 3, none⟩ = some (.slice Hk.A Hk.n Hk.c) := HX.out.c3
    have x4 : w1.cell? ⟨w.heap.size, 4, none⟩ = some (.slice Hm.A Hm.n Hm.c) := HX.out.c4
    have r0 : w1.cell? ⟨w.heap.size + 1 + 1, 0, none⟩ = some (.slice none 0 0) := HR.out.c0
    have rf0 : w1.frozen? ⟨w.heap.size + 1 + 1, 0, none⟩ = false := HR.out.free 0
    have r1 : w1.cell? ⟨w.heap.size + 1 + 1, 1, none⟩ = some (.slice none 0 0) := HR.out.c1
    have rf1 : w1.frozen? ⟨w.heap.size + 1 + 1, 1, none⟩ = false := HR.out.free 1
    have r2 : w1.cell? ⟨w.heap.size + 1 + 1, 2, none⟩ = some (.slice none 0 0) := HR.out.c2
    have rf2 : w1.frozen? ⟨w.heap.size + 1 + 1, 2, none⟩ = false := HR.out.free 2
    have r3 : w1.cell? ⟨w.heap.size + 1 + 1, 3, none⟩ = some (.slice none 0 0) := HR.out.c3
    have rf3 : w1.frozen? ⟨w.heap.size + 1 + 1, 3, none⟩ = false := HR.out.free 3
    have r4 : w1.cell? ⟨w.heap.size + 1 + 1, 4, none⟩ = some (.slice none 0 0) := HR.out.c4
    have rf4 : w1.frozen? ⟨w.heap.size + 1 + 1, 4, none⟩ = false := HR.out.free 4
    have e0 : w1.cell? ⟨w.heap.size + 1 + 1 + 1, 0, none⟩ = some (.int .i64 0) := HE.out.cell 0
    have ef : w1.frozen? ⟨w.heap.size + 1 + 1 + 1, 0, none⟩ = false := HE.out.free 0
    go_wp2
    refine ⟨.tuple #[.agg #[.slice sA sn sc, .slice Hq.A Hq.n Hq.c, .slice Hg.A Hg.n Hg.c, .slice Hk.A Hk.n Hk.c, .slice Hm.A Hm.n Hm.c], .int .i64 er], ?_, ?_⟩
    · simp [results, Tryz.results28, go_sem, r0, r1, r2, r3, r4, e0]
    · exact HdlRes.mk ⟨⟨sA, sn, sc⟩, Hq, Hg, Hk, Hm⟩ C er rfl (cenO_set6 HO1.out HR.out HE.out (by omega) _ _ _ _ _ _) (HI.out.mono (Nat.le_succ k)) (put6 (HB.out.mono HN.out) (Nat.le_trans HN.out (by omega)) (Nat.le_trans HN.out (by omega)) _ _ _ _ _ _) HAW.out
  case pos =>
    subst h0
    have HMK : Hid (MOk m) := HE1.out rfl
    have b1 : ((0 : Int) != 0) = false := rfl
    clear HE1 HE2
    have y1 : w1.cell? ⟨w.heap.size + 1, 1, none⟩ = some (.int .i64 m.frm) := HM.out.cell 1
    have y3 : w1.cell? ⟨w.heap.size + 1, 3, none⟩ = some (.int .i64 m.num) := HM.out.cell 3
    have hba : RowKit.Below w1.heap.size w1 (w1.alloc (.cells #[.int .i64 m.frm, .int .i64 m.num, .int .i64 0] 85)) := (Below.refl _ _).alloc (Nat.le_refl _) _
    have HX4 := Lib.hid (HX.out.keep hba)
    have HM4 := Lib.hid (HM.out.keep hba)
    have HR4 := Lib.hid (HR.out.keep hba)
    have HE4 := Lib.hid (HE.out.keep hba)
    have HO4 := Lib.hid (HO1.out.below hba)
    have HB4 : Hid (RowKit.Below w.heap.size w (w1.alloc (.cells #[.int .i64 m.frm, .int .i64 m.num, .int .i64 0] 85))) := HB.out.trans (hba.mono HB.out.size)
    have HG4 := Lib.hid (Bl.new w1 85 #[.int .i64 m.frm, .int .i64 m.num, .int .i64 0])
    clear hba HX HM HR HE HO1 HB
    go_upto_region 5 with (fail)
    clear y1 y3 b1
    generalize w1.alloc (.cells #[.int .i64 m.frm, .int .i64 m.num, .int .i64 0] 85) = W4 at *
    generalize w1.heap.size = g7 at *
    have HCB := Lib.hid (bsearchR_any sA sn sc C.seen ⟨m.frm, m.num, 0⟩ W4 HO4.out.at_.seen.recs (by omega))
    have x0 : W4.cell? ⟨w.heap.size, 0, none⟩ = some (.slice sA sn sc) := HX4.out.c0
    have q0 : W4.cell? ⟨g7, 0, none⟩ = some (.int .i64 m.frm) := HG4.out.cell 0
    have q1 : W4.cell? ⟨g7, 1, none⟩ = some (.int .i64 m.num) := HG4.out.cell 1
    have q2 : W4.cell? ⟨g7, 2, none⟩ = some (.int .i64 0) := HG4.out.cell 2
    go_wp2_with fail
    refine HCB.out.mono ?_
    rintro e w5 ⟨I, b, rfl, hI1, hI2, hb5⟩
    have hba : RowKit.Below W4.heap.size W4 (w5.alloc (.cells #[.int .i64 (I : Int)] 3)) := hb5.alloc hb5.size _
    have HX5 := Lib.hid (HX4.out.keep hba)
    have HM5 := Lib.hid (HM4.out.keep hba)
    have HR5 := Lib.hid (HR4.out.keep hba)
    have HE5 := Lib.hid (HE4.out.keep hba)
    have HG5 := Lib.hid (HG4.out.keep hba)
    have HO5 := Lib.hid (HO4.out.below hba)
    have HB5 : Hid (RowKit.Below w.heap.size w (w5.alloc (.cells #[.int .i64 (I : Int)] 3))) := HB4.out.trans (hba.mono HB4.out.size)
    have HA5 := Lib.hid (Bl.new w5 3 #[.int .i64 (I : Int)])
    have hsz5 : g7 < w5.heap.size := Nat.lt_of_lt_of_le HG4.out.lt hb5.size
    have HI2 := Lib.hid hI2
    clear hba hb5 hI2 x0 q0 q1 q2 HX4 HM4 HR4 HE4 HG4 HO4 HB4 HCB
    go_upto_region 6 with (fail)
    generalize w5.alloc (.cells #[.int .i64 (I : Int)] 3) = W5 at *
    generalize w5.heap.size = g8 at *
    cases b
    case true =>
      have hIn := HI2.out rfl
      obtain ⟨gs, hA⟩ := own_addr HO5.out.seen (by simp only; omega)
      simp only at hA
      subst hA
      have hIi : (I : Int) < sn := by omega
      have hIz : (0 : Int) ≤ (I : Int) := by omega
      obtain ⟨re, hre⟩ : ∃ re, C.seen[I]! = re := ⟨_, rfl⟩
      have s2 : W5.cell? ⟨gs, I * 3 + 2, none⟩ = some (.int .i64 re.err) := by
        have := own_cellK encRc_len HO5.out.seen (i := I) (c := 2) (by rw [HSN.out]; exact hIn) (by omega) HSN.out
        rw [this, hre]; rfl
      have a0 : W5.cell? ⟨g8, 0, none⟩ = some (.int .i64 (I : Int)) := HA5.out.cell 0
      have HAW : Hid (∀ er, AwHx C m er C) := fun er _ _ _ _ _ hs => absurd hIn (by have := HSN.out; rw [hs] at this; simp at this; omega)
      clear hre
      have x0 : W5.cell? ⟨w.heap.size, 0, none⟩ = some (.slice (some ⟨gs, 0, none⟩) sn sc) := HX5.out.c0
      have x1 : W5.cell? ⟨w.heap.size, 1, none⟩ = some (.slice Hq.A Hq.n Hq.c) := HX5.out.c1
      have x2 : W5.cell? ⟨w.heap.size, 2, none⟩ = some (.slice Hg.A Hg.n Hg.c) := HX5.out.c2
      have x3 : W5.cell? ⟨w.heap.size, 3, none⟩ = some (.slice Hk.A Hk.n Hk.c) := HX5.out.c3
      have x4 : W5.cell? ⟨w.heap.size, 4, none⟩ = some (.slice Hm.A Hm.n Hm.c) := HX5.out.c4
      have r0 : W5.cell? ⟨w.heap.size + 1 + 1, 0, none⟩ = some (.slice none 0 0) := HR5.out.c0
      have rf0 : W5.frozen? ⟨w.heap.size + 1 + 1, 0, none⟩ = false := HR5.out.free 0
      have r1 : W5.cell? ⟨w.heap.size + 1 + 1, 1, none⟩ = some (.slice none 0 0) := HR5.out.c1
      have rf1 : W5.frozen? ⟨w.heap.size + 1 + 1, 1, none⟩ = false := HR5.out.free 1
      have r2 : W5.cell? ⟨w.heap.size + 1 + 1, 2, none⟩ = some (.slice none 0 0) := HR5.out.c2
      have rf2 : W5.frozen? ⟨w.heap.size + 1 + 1, 2, none⟩ = false := HR5.out.free 2
      have r3 : W5.cell? ⟨w.heap.size + 1 + 1, 3, none⟩ = some (.slice none 0 0) := HR5.out.c3
      have rf3 : W5.frozen? ⟨w.heap.size + 1 + 1, 3, none⟩ = false := HR5.out.free 3
      have r4 : W5.cell? ⟨w.heap.size + 1 + 1, 4, none⟩ = some (.slice none 0 0) := HR5.out.c4
      have rf4 : W5.frozen? ⟨w.heap.size + 1 + 1, 4, none⟩ = false := HR5.out.free 4
      have e0 : W5.cell? ⟨w.heap.size + 1 + 1 + 1, 0, none⟩ = some (.int .i64 0) := HE5.out.cell 0
      have ef : W5.frozen? ⟨w.heap.size + 1 + 1 + 1, 0, none⟩ = false := HE5.out.free 0
      have nn0 : gs < w.heap.size := HLS.out gs rfl
      have nn1 : w.heap.size + 1 + 1 ≠ gs := by omega
      have nn2 : w.heap.size + 1 + 1 + 1 ≠ gs := by omega
      have nn3 : gs ≠ w.heap.size + 1 + 1 := by omega
      have nn4 : gs ≠ w.heap.size + 1 + 1 + 1 := by omega
      have nn5 : w.heap.size + 1 + 1 ≠ g8 := by omega
      have nn6 : w.heap.size + 1 + 1 + 1 ≠ g8 := by omega
      have nn7 : g8 ≠ w.heap.size + 1 + 1 := by omega
      have nn8 : g8 ≠ w.heap.size + 1 + 1 + 1 := by omega
      go_upto_region 7 with (fail)
      go_region
      all_goals
        (go_wp2
         refine ⟨.tuple #[.agg #[.slice (some ⟨gs, 0, none⟩) sn sc, .slice Hq.A Hq.n Hq.c, .slice Hg.A Hg.n Hg.c, .slice Hk.A Hk.n Hk.c, .slice Hm.A Hm.n Hm.c], .int .i64 re.err], ?_, ?_⟩
         · simp [results, Tryz.results28, go_sem, r0, r1, r2, r3, r4, e0]
         · exact HdlRes.mk ⟨⟨some ⟨gs, 0, none⟩, sn, sc⟩, Hq, Hg, Hk, Hm⟩ C re.err rfl ((cenO_set6 HO5.out HR5.out HE5.out (by omega) _ _ _ _ _ _).below (Below.refl _ _).drew) (HI.out.mono (Nat.le_succ k)) ((put6 (HB5.out.mono HN.out) (Nat.le_trans HN.out (by omega)) (Nat.le_trans HN.out (by omega)) _ _ _ _ _ _).drew) (HAW.out _))
    case false =>
      have x0 : W5.cell? ⟨w.heap.size, 0, none⟩ = some (.slice sA sn sc) := HX5.out.c0
      have x1 : W5.cell? ⟨w.heap.size, 1, none⟩ = some (.slice Hq.A Hq.n Hq.c) := HX5.out.c1
      have x2 : W5.cell? ⟨w.heap.size, 2, none⟩ = some (.slice Hg.A Hg.n Hg.c) := HX5.out.c2
      have x3 : W5.cell? ⟨w.heap.size, 3, none⟩ = some (.slice Hk.A Hk.n Hk.c) := HX5.out.c3
      have x4 : W5.cell? ⟨w.heap.size, 4, none⟩ = some (.slice Hm.A Hm.n Hm.c) := HX5.out.c4
      have y0 : W5.cell? ⟨w.heap.size + 1, 0, none⟩ = some (.int .i64 m.kind) := HM5.out.cell 0
      have y1 : W5.cell? ⟨w.heap.size + 1, 1, none⟩ = some (.int .i64 m.frm) := HM5.out.cell 1
      have y2 : W5.cell? ⟨w.heap.size + 1, 2, none⟩ = some (.int .i64 m.dst) := HM5.out.cell 2
      have y3 : W5.cell? ⟨w.heap.size + 1, 3, none⟩ = some (.int .i64 m.num) := HM5.out.cell 3
      have y4 : W5.cell? ⟨w.heap.size + 1, 4, none⟩ = some (.int .i64 m.day) := HM5.out.cell 4
      have y5 : W5.cell? ⟨w.heap.size + 1, 5, none⟩ = some (.int .i64 m.lot) := HM5.out.cell 5
      have y6 : W5.cell? ⟨w.heap.size + 1, 6, none⟩ = some (.int .i64 m.oth) := HM5.out.cell 6
      have y7 : W5.cell? ⟨w.heap.size + 1, 7, none⟩ = some (.string m.code) := HM5.out.cell 7
      have y8 : W5.cell? ⟨w.heap.size + 1, 8, none⟩ = some (.string m.ctry) := HM5.out.cell 8
      have y9 : W5.cell? ⟨w.heap.size + 1, 9, none⟩ = some (.int .i64 m.qty) := HM5.out.cell 9
      have y10 : W5.cell? ⟨w.heap.size + 1, 10, none⟩ = some (.int .i64 m.amt) := HM5.out.cell 10
      have y11 : W5.cell? ⟨w.heap.size + 1, 11, none⟩ = some (.slice m.LA m.ln m.lc) := HM5.out.cell 11
      have y12 : W5.cell? ⟨w.heap.size + 1, 12, none⟩ = some (.string m.text) := HM5.out.cell 12
      have r0 : W5.cell? ⟨w.heap.size + 1 + 1, 0, none⟩ = some (.slice none 0 0) := HR5.out.c0
      have rf0 : W5.frozen? ⟨w.heap.size + 1 + 1, 0, none⟩ = false := HR5.out.free 0
      have r1 : W5.cell? ⟨w.heap.size + 1 + 1, 1, none⟩ = some (.slice none 0 0) := HR5.out.c1
      have rf1 : W5.frozen? ⟨w.heap.size + 1 + 1, 1, none⟩ = false := HR5.out.free 1
      have r2 : W5.cell? ⟨w.heap.size + 1 + 1, 2, none⟩ = some (.slice none 0 0) := HR5.out.c2
      have rf2 : W5.frozen? ⟨w.heap.size + 1 + 1, 2, none⟩ = false := HR5.out.free 2
      have r3 : W5.cell? ⟨w.heap.size + 1 + 1, 3, none⟩ = some (.slice none 0 0) := HR5.out.c3
      have rf3 : W5.frozen? ⟨w.heap.size + 1 + 1, 3, none⟩ = false := HR5.out.free 3
      have r4 : W5.cell? ⟨w.heap.size + 1 + 1, 4, none⟩ = some (.slice none 0 0) := HR5.out.c4
      have rf4 : W5.frozen? ⟨w.heap.size + 1 + 1, 4, none⟩ = false := HR5.out.free 4
      have e0 : W5.cell? ⟨w.heap.size + 1 + 1 + 1, 0, none⟩ = some (.int .i64 0) := HE5.out.cell 0
      have ef : W5.frozen? ⟨w.heap.size + 1 + 1 + 1, 0, none⟩ = false := HE5.out.free 0
      have kb0 : (m.kind == 50) = false := by have := HKC.out; simp; omega
      have kb1 : (m.kind == 51) = true := by simpa using HKC.out
      have HAC := Lib.hid (reserve37_any N ⟨⟨sA, sn, sc⟩, Hq, Hg, Hk, Hm⟩ C m k W5 HO5.out HA.out (Nat.le_trans HN.out HB5.out.size) HI.out HK.out HMK.out (by have := HKC.out; omega))
      go_wp2_with fail
      refine HAC.out.mono ?_
      rintro e w6 ⟨⟨Hs', Hq', Hg', Hk', Hm'⟩, C', er, rfl, hO6, hA6, hI6, hs6, hse6, hfx6, hb6, haw6⟩
      simp only at hs6
      subst hs6
      have hbx : ∀ b, w.heap.size ≤ b → b < W5.heap.size → w6.heap[b]? = W5.heap[b]? := fun b h1 h2 => hfx6 b h2 (fun e => by have := HLQ.out b e.symm; omega) (fun e => by have := HLG.out b e.symm; omega) (fun e => by have := HLK.out b e.symm; omega) (fun e => by have := HLM.out b e.symm; omega)
      have hl8 : g8 < W5.heap.size := HA5.out.lt
      have HR6 : Hid (Bl w6 (w.heap.size + 1 + 1) 37 #[.slice none 0 0, .slice none 0 0, .slice none 0 0, .slice none 0 0, .slice none 0 0]) := (hbx _ (by omega) (by omega)).trans HR5.out
      have HE6 : Hid (Bl w6 (w.heap.size + 1 + 1 + 1) 38 #[.int .i64 0]) := (hbx _ (by omega) (by omega)).trans HE5.out
      have HG6 : Hid (Bl w6 g7 85 #[.int .i64 m.frm, .int .i64 m.num, .int .i64 0]) := (hbx _ (by omega) (by omega)).trans HG5.out
      have HA6 : Hid (Bl w6 g8 3 #[.int .i64 (I : Int)]) := (hbx _ (by omega) (by omega)).trans HA5.out
      have HO6 := Lib.hid hO6
      have HI6 := Lib.hid hI6
      have HSE6 := Lib.hid hse6
      have HB6 : Hid (RowKit.Below N w w6) := (HB5.out.mono HN.out).trans hb6
      have HAW6 := Lib.hid haw6
      clear hO6 hA6 hI6 hse6 hfx6 hb6 haw6 hbx x0 x1 x2 x3 x4 y0 y1 y2 y3 y4 y5 y6 y7 y8 y9 y10 y11 y12 r0 r1 r2 r3 r4 rf0 rf1 rf2 rf3 rf4 e0 ef kb0 HX5 HM5 HR5 HE5 HG5 HO5 HA5 HAC HB5
      have r0 : w6.cell? ⟨w.heap.size + 1 + 1, 0, none⟩ = some (.slice none 0 0) := HR6.out.c0
      have rf0 : w6.frozen? ⟨w.heap.size + 1 + 1, 0, none⟩ = false := HR6.out.free 0
      have r1 : w6.cell? ⟨w.heap.size + 1 + 1, 1, none⟩ = some (.slice none 0 0) := HR6.out.c1
      have rf1 : w6.frozen? ⟨w.heap.size + 1 + 1, 1, none⟩ = false := HR6.out.free 1
      have r2 : w6.cell? ⟨w.heap.size + 1 + 1, 2, none⟩ = some (.slice none 0 0) := HR6.out.c2
      have rf2 : w6.frozen? ⟨w.heap.size + 1 + 1, 2, none⟩ = false := HR6.out.free 2
      have r3 : w6.cell? ⟨w.heap.size + 1 + 1, 3, none⟩ = some (.slice none 0 0) := HR6.out.c3
      have rf3 : w6.frozen? ⟨w.heap.size + 1 + 1, 3, none⟩ = false := HR6.out.free 3
      have r4 : w6.cell? ⟨w.heap.size + 1 + 1, 4, none⟩ = some (.slice none 0 0) := HR6.out.c4
      have rf4 : w6.frozen? ⟨w.heap.size + 1 + 1, 4, none⟩ = false := HR6.out.free 4
      have e0 : w6.cell? ⟨w.heap.size + 1 + 1 + 1, 0, none⟩ = some (.int .i64 0) := HE6.out.cell 0
      have ef : w6.frozen? ⟨w.heap.size + 1 + 1 + 1, 0, none⟩ = false := HE6.out.free 0
      have HR7 : Hid (Bl ((((((w6.setCell ⟨w.heap.size + 1 + 1, 0, none⟩ (.slice sA sn sc)).setCell ⟨w.heap.size + 1 + 1, 1, none⟩ (.slice Hq'.A Hq'.n Hq'.c)).setCell ⟨w.heap.size + 1 + 1, 2, none⟩ (.slice Hg'.A Hg'.n Hg'.c)).setCell ⟨w.heap.size + 1 + 1, 3, none⟩ (.slice Hk'.A Hk'.n Hk'.c)).setCell ⟨w.heap.size + 1 + 1, 4, none⟩ (.slice Hm'.A Hm'.n Hm'.c)).setCell ⟨w.heap.size + 1 + 1 + 1, 0, none⟩ (.int .i64 er)) (w.heap.size + 1 + 1) 37 #[.slice sA sn sc, .slice Hq'.A Hq'.n Hq'.c, .slice Hg'.A Hg'.n Hg'.c, .slice Hk'.A Hk'.n Hk'.c, .slice Hm'.A Hm'.n Hm'.c]) := (set5_bl HR6.out _ _ _ _ _).far (p := ⟨w.heap.size + 1 + 1 + 1, 0, none⟩) (by simp) _
      have HE7 : Hid (Bl ((((((w6.setCell ⟨w.heap.size + 1 + 1, 0, none⟩ (.slice sA sn sc)).setCell ⟨w.heap.size + 1 + 1, 1, none⟩ (.slice Hq'.A Hq'.n Hq'.c)).setCell ⟨w.heap.size + 1 + 1, 2, none⟩ (.slice Hg'.A Hg'.n Hg'.c)).setCell ⟨w.heap.size + 1 + 1, 3, none⟩ (.slice Hk'.A Hk'.n Hk'.c)).setCell ⟨w.heap.size + 1 + 1, 4, none⟩ (.slice Hm'.A Hm'.n Hm'.c)).setCell ⟨w.heap.size + 1 + 1 + 1, 0, none⟩ (.int .i64 er)) (w.heap.size + 1 + 1 + 1) 38 #[.int .i64 er]) := by
        have h1 := (HE6.out.far5 (r := w.heap.size + 1 + 1) (by omega) (.slice sA sn sc) (.slice Hq'.A Hq'.n Hq'.c) (.slice Hg'.A Hg'.n Hg'.c) (.slice Hk'.A Hk'.n Hk'.c) (.slice Hm'.A Hm'.n Hm'.c)).put 0 (.int .i64 er)
        show Bl _ _ _ _
        simpa using h1
      have HG7 : Hid (Bl ((((((w6.setCell ⟨w.heap.size + 1 + 1, 0, none⟩ (.slice sA sn sc)).setCell ⟨w.heap.size + 1 + 1, 1, none⟩ (.slice Hq'.A Hq'.n Hq'.c)).setCell ⟨w.heap.size + 1 + 1, 2, none⟩ (.slice Hg'.A Hg'.n Hg'.c)).setCell ⟨w.heap.size + 1 + 1, 3, none⟩ (.slice Hk'.A Hk'.n Hk'.c)).setCell ⟨w.heap.size + 1 + 1, 4, none⟩ (.slice Hm'.A Hm'.n Hm'.c)).setCell ⟨w.heap.size + 1 + 1 + 1, 0, none⟩ (.int .i64 er)) g7 85 #[.int .i64 m.frm, .int .i64 m.num, .int .i64 0]) := (HG6.out.far5 (by omega) _ _ _ _ _).far (p := ⟨w.heap.size + 1 + 1 + 1, 0, none⟩) (by simp; omega) _
      have HA7 : Hid (Bl ((((((w6.setCell ⟨w.heap.size + 1 + 1, 0, none⟩ (.slice sA sn sc)).setCell ⟨w.heap.size + 1 + 1, 1, none⟩ (.slice Hq'.A Hq'.n Hq'.c)).setCell ⟨w.heap.size + 1 + 1, 2, none⟩ (.slice Hg'.A Hg'.n Hg'.c)).setCell ⟨w.heap.size + 1 + 1, 3, none⟩ (.slice Hk'.A Hk'.n Hk'.c)).setCell ⟨w.heap.size + 1 + 1, 4, none⟩ (.slice Hm'.A Hm'.n Hm'.c)).setCell ⟨w.heap.size + 1 + 1 + 1, 0, none⟩ (.int .i64 er)) g8 3 #[.int .i64 (I : Int)]) := (HA6.out.far5 (by omega) _ _ _ _ _).far (p := ⟨w.heap.size + 1 + 1 + 1, 0, none⟩) (by simp; omega) _
      have HO7 : Hid (CenO N ((((((w6.setCell ⟨w.heap.size + 1 + 1, 0, none⟩ (.slice sA sn sc)).setCell ⟨w.heap.size + 1 + 1, 1, none⟩ (.slice Hq'.A Hq'.n Hq'.c)).setCell ⟨w.heap.size + 1 + 1, 2, none⟩ (.slice Hg'.A Hg'.n Hg'.c)).setCell ⟨w.heap.size + 1 + 1, 3, none⟩ (.slice Hk'.A Hk'.n Hk'.c)).setCell ⟨w.heap.size + 1 + 1, 4, none⟩ (.slice Hm'.A Hm'.n Hm'.c)).setCell ⟨w.heap.size + 1 + 1 + 1, 0, none⟩ (.int .i64 er)) ⟨⟨sA, sn, sc⟩, Hq', Hg', Hk', Hm'⟩ C') := cenO_set6 HO6.out HR6.out HE6.out (by omega) _ _ _ _ _ _
      have HB7 : Hid (RowKit.Below N w ((((((w6.setCell ⟨w.heap.size + 1 + 1, 0, none⟩ (.slice sA sn sc)).setCell ⟨w.heap.size + 1 + 1, 1, none⟩ (.slice Hq'.A Hq'.n Hq'.c)).setCell ⟨w.heap.size + 1 + 1, 2, none⟩ (.slice Hg'.A Hg'.n Hg'.c)).setCell ⟨w.heap.size + 1 + 1, 3, none⟩ (.slice Hk'.A Hk'.n Hk'.c)).setCell ⟨w.heap.size + 1 + 1, 4, none⟩ (.slice Hm'.A Hm'.n Hm'.c)).setCell ⟨w.heap.size + 1 + 1 + 1, 0, none⟩ (.int .i64 er))) := put6 HB6.out (Nat.le_trans HN.out (by omega)) (Nat.le_trans HN.out (by omega)) _ _ _ _ _ _
      have hNw := HN.out
      go_wp2
      refine leaves_cons (f := 41) (args := #[.pointer (some ⟨w.heap.size + 1 + 1 + 1, 0, none⟩), .pointer (some ⟨g7, 0, none⟩), .pointer (some ⟨w.heap.size + 1 + 1, 0, none⟩), .pointer (some ⟨g8, 0, none⟩)]) (by simp) (by simp [go_sem]) ?_
      refine (defer37_any N ⟨⟨sA, sn, sc⟩, Hq', Hg', Hk', Hm'⟩ C' (w.heap.size + 1 + 1 + 1) g7 (w.heap.size + 1 + 1) g8 er m.frm m.num 0 I .returning _ HO7.out (Nat.le_trans HN.out HB7.out.size) HE7.out HG7.out HR7.out HA7.out hI1 (by simp only; omega) (fun b e => by have := HLS.out b e; omega) (by omega) (by omega) (by omega)).mono ?_
      rintro e u' w8 ⟨rfl, rfl, B8, d8, hn8, he8, hO8, hb8⟩
      have r0 : w8.cell? ⟨w.heap.size + 1 + 1, 0, none⟩ = some (.slice B8 (sn + 1) d8) := hn8.c0
      have r1 : w8.cell? ⟨w.heap.size + 1 + 1, 1, none⟩ = some (.slice Hq'.A Hq'.n Hq'.c) := hn8.c1
      have r2 : w8.cell? ⟨w.heap.size + 1 + 1, 2, none⟩ = some (.slice Hg'.A Hg'.n Hg'.c) := hn8.c2
      have r3 : w8.cell? ⟨w.heap.size + 1 + 1, 3, none⟩ = some (.slice Hk'.A Hk'.n Hk'.c) := hn8.c3
      have r4 : w8.cell? ⟨w.heap.size + 1 + 1, 4, none⟩ = some (.slice Hm'.A Hm'.n Hm'.c) := hn8.c4
      have e0 : w8.cell? ⟨w.heap.size + 1 + 1 + 1, 0, none⟩ = some (.int .i64 er) := he8.cell 0
      refine ⟨.tuple #[.agg #[.slice B8 (sn + 1) d8, .slice Hq'.A Hq'.n Hq'.c, .slice Hg'.A Hg'.n Hg'.c, .slice Hk'.A Hk'.n Hk'.c, .slice Hm'.A Hm'.n Hm'.c], .int .i64 er], ?_, ?_⟩
      · simp [results, Tryz.results28, go_sem, r0, r1, r2, r3, r4, e0]
      · exact HdlRes.mk ⟨⟨B8, sn + 1, d8⟩, Hq', Hg', Hk', Hm'⟩ { C' with seen := C'.seen.take I ++ ⟨m.frm, m.num, er⟩ :: C'.seen.drop I } er rfl hO8 (CInv.seen_ins HI6.out (by rw [HSE6.out]; exact HI.out.seen) I _) (HB7.out.trans hb8) (fun _ _ _ _ _ _ => HAW6.out)
end Go.Proofs.YtdbcbbiplkikcaaGreat

namespace Go.Proofs.YtdbcbbiplkikcaaGreat
open Go.RowKit Go.Shelf
set_option linter.unusedVariables false

theorem run_append_rowK {P : Program} (w : World) (t ty e : TypeId) (k : Nat) (ht : P.underlying t = some (.slice e)) (hs : (P.info? e).map (·.size) = some k) (g off sLen sCap : Nat) (a : Addr) (m c : Nat) (cur : List Value) (T : TypeId) (news : List Value)
    (hg : w.heap[g]? = some (.cells cur.toArray T (0, 0))) (hl : news.length = m * k) (hnews : ∀ j u, news[j]? = some u → w.cell? (a.add j) = some u) (hroom : sLen + m ≤ sCap) (hfit : off + sLen * k + news.length ≤ cur.length) (h1 : ∀ u ∈ news, u.oneCell' = true) :
    (Builtin.append_ #[t, t] ty #[.slice (some ⟨g, off, none⟩) sLen sCap, .slice (some a) m c]).run P w = .ok (.slice (some ⟨g, off, none⟩) (sLen + m) sCap) (w.setRow g (splice cur (off + sLen * k) news).toArray) := by
  cases hq : P.info? e with
  | none => simp [hq] at hs
  | some i =>
    have hi : i.size = k := by simpa [hq] using hs
    subst hi
    have hfc := run_firstCells_some (P := P) w i.size m a m c news hl hnews
    have hst := run_storeCells_at P g (off + sLen * i.size) T news 0 cur.toArray w hg (by simpa using hfit) h1
    simp only [Nat.add_zero] at hst
    simp [Builtin.append_, run_underlying ht, sizeOf, typeInfo, hq, Builtin.lenOf, hroom, hfc, Addr.add_lit, hst, splice]
theorem step_append_rowK {P : Program} {ops : Array Oper} {o : Oper} {a : Act} {w : World} {K : Act → World → Prop} {Q : Exit → Act → World → Prop} {E : Prop}
    (hgd : o.guard = none) (s x : Operand) (t : TypeId) (ho : o.op = .call { callee := .builtin .append, args := #[s, x], argTypes := #[t, t] }) (e : TypeId) (k : Nat) (ht : P.underlying t = some (.slice e)) (hsz : (P.info? e).map (·.size) = some k)
    (g off sLen sCap : Nat) (ad : Addr) (m c : Nat) (hs : a.eval s = .slice (some ⟨g, off, none⟩) sLen sCap) (hx : a.eval x = .slice (some ad) m c)
    (cur : List Value) (T : TypeId) (hg : w.heap[g]? = some (.cells cur.toArray T (0, 0))) (news : List Value) (hl : news.length = m * k) (hnews : ∀ j u, news[j]? = some u → w.cell? (ad.add j) = some u) (hroom : sLen + m ≤ sCap) (hfit : off + sLen * k + news.length ≤ cur.length) (h1 : ∀ u ∈ news, u.oneCell' = true)
    (h : ∀ w', Hid (w'.heap[g]? = some (.cells (splice cur (off + sLen * k) news).toArray T (0, 0))) → Over w w' g → K (a.put o.dst (.slice (some ⟨g, off, none⟩) (sLen + m) sCap)) w') :
    if Region.wanted o (yielded ops a.tmps) = true then Oper.wp P o a w K Q else E := by
  have hw : Region.wanted o (yielded ops a.tmps) = true := by simp [Region.wanted, hgd]
  rw [if_pos hw]
  have hrun := run_append_rowK (P := P) w t o.type e k ht hsz g off sLen sCap ad m c cur T news hg hl hnews hroom hfit h1
  unfold Oper.wp
  simp [execOp, ho, resolve, invoke, builtin, hs, hx, hrun, Result.andThen]
  exact h _ (show _ = _ from setRow_heap w g _ _ T _ hg) (over_setRow w g _)
theorem run_clear_rowU {P : Program} (w : World) (t e ty : TypeId) (z : Value) (zs : List Value) (ht : P.underlying t = some (.slice e)) (hv : ∀ w, (zeroValue e).run P w = .ok z w) (hz : (Builtin.zeroCells z.cells 1).toList = zs) (h1 : ∀ v ∈ zs, v.oneCell' = true) (g o c : Nat) (cur : List Value) (T : TypeId)
    (hg : w.heap[g]? = some (.cells cur.toArray T (0, 0))) (hfit : o + zs.length ≤ cur.length) :
    (Builtin.clear_ #[t] ty #[.slice (some ⟨g, o, none⟩) 1 c]).run P w = .ok (.tuple #[]) (w.setRow g (splice cur o zs).toArray) := by
  have hst := run_storeCells_at P g o T zs 0 cur.toArray w hg (by simpa using hfit) h1
  simp only [Nat.add_zero] at hst
  simp [Builtin.clear_, run_underlying ht, hv, hz, hst, splice]

theorem splice_cut {α : Type} (L X E Y Z : List α) (m : Nat) (hL : L.take (m + E.length) = X ++ (E ++ Y)) (hm : X.length + Y.length = m) : (splice (splice L X.length Y) m Z).take m = X ++ Y := by
  have hlen : m + E.length ≤ L.length := by
    have := congrArg List.length hL
    simp at this; omega
  have hX : L.take X.length = X := by
    have := congrArg (List.take X.length) hL
    rw [List.take_take, Nat.min_eq_left (by omega)] at this
    simpa using this
  unfold splice
  rw [hX, ← List.append_assoc X Y, List.take_append_of_le_length (by simp; omega), List.take_take, Nat.min_self, List.take_append_of_le_length (by simp; omega), List.take_of_length_le (by simp; omega)]

def DelResU (w : World) (N g n c : Nat) (us : List (Int × Int)) (e : Ending) (w' : World) : Prop := e = .returned (.slice (some ⟨g, 0, none⟩) (n - 1) c) ∧ w'.ownsRow N 32 2 (.slice (some ⟨g, 0, none⟩) (n - 1) c) (n - 1) (flat enc2 us) ∧ RowKit.Below N w w' ∧ ∀ k, k ≠ g → w'.heap[k]? = w.heap[k]?
set_option maxRecDepth 100000 in
set_option maxHeartbeats 4000000 in
theorem delete_anyU (N g n c i : Nat) (fs : List (Int × Int)) (w : World) (ho : w.ownsRow N 32 2 (.slice (some ⟨g, 0, none⟩) n c) n (flat enc2 fs)) (hl : fs.length = n) (hi : i < n) (hn : n ≤ 1000) (hN : N ≤ w.heap.size) :
    Calls Tryz.prog 85 #[.slice (some ⟨g, 0, none⟩) n c, .int .i64 (i : Int), .int .i64 ((i : Int) + 1)] w (DelResU w N g n c (fs.take i ++ fs.drop (i + 1))) := by
  obtain ⟨cur, hNg, hcur, hcs, hct, hnc⟩ : ∃ cur : List Value, N ≤ g ∧ w.heap[g]? = some (.cells cur.toArray 32 (0, 0)) ∧ cur.length = c * 2 ∧ cur.take (n * 2) = flat enc2 fs ∧ n ≤ c := by
    rcases ho.2 with ⟨hv, h0⟩ | ⟨g', cap, cur, hv, h1, h2, h5, _, h3, h4⟩
    · cases hv
    · injection hv with h6 _ h7
      injection h6 with h6
      injection h6 with h6
      subst h6 h7
      exact ⟨cur.toList, h1, by simpa using h2, by simpa using h3, h4, h5⟩
  have hbd := own_boundsF ho
  obtain ⟨X, hX⟩ : ∃ X, X = flat enc2 (fs.take i) := ⟨_, rfl⟩
  obtain ⟨Y, hY⟩ : ∃ Y, Y = flat enc2 (fs.drop (i + 1)) := ⟨_, rfl⟩
  obtain ⟨E, hE⟩ : ∃ E, E = enc2 fs[i]! := ⟨_, rfl⟩
  have hXl : X.length = i * 2 := by rw [hX, flat_length enc2_len, List.length_take]; omega
  have hYl : Y.length = (n - (i + 1)) * 2 := by rw [hY, flat_length enc2_len, List.length_drop, hl]
  have hEl : E.length = 2 := by rw [hE]; rfl
  have hfs : flat enc2 fs = X ++ (E ++ Y) := by
    rw [hX, hY, hE]
    conv => lhs; rw [← List.take_append_drop i fs, List.drop_eq_getElem_cons (by omega : i < fs.length)]
    rw [flat_append, show fs[i] :: fs.drop (i + 1) = [fs[i]] ++ fs.drop (i + 1) from rfl, flat_append, flat_one, getElem!_pos fs i (by omega)]
  rw [hfs] at hct
  have hY1 : ∀ v ∈ Y, v.oneCell' = true := by rw [hY]; exact flat_oneFU _
  have hcurJ : ∀ j v, Y[j]? = some v → w.cell? ⟨g, (i + 1) * 2 + j, none⟩ = some v := by
    intro j v hj
    rw [cell_of_row w g _ cur.toArray _ (0, 0) hcur]
    have h1 : (X ++ (E ++ Y))[(i + 1) * 2 + j]? = some v := by rw [List.getElem?_append_right (by omega), List.getElem?_append_right (by omega), hXl, hEl, show (i + 1) * 2 + j - i * 2 - 2 = j by omega]; exact hj
    rw [← hct, List.getElem?_take] at h1
    split at h1
    · simpa using h1
    · cases h1
  obtain ⟨A, hA, HSY⟩ : ∃ A : Addr, (if c = i + 1 then (some ⟨g, 0, none⟩ : Option Addr) else some ⟨g, (i + 1) * 2, none⟩) = some A ∧ Hid (∀ j v, Y[j]? = some v → w.cell? (A.add j) = some v) := by
    by_cases h : c = i + 1
    · refine ⟨⟨g, 0, none⟩, by simp [h], fun j v hj => ?_⟩
      have h0 : Y.length = 0 := by rw [hYl]; omega
      rw [List.length_eq_zero_iff.1 h0] at hj
      cases hj
    · refine ⟨⟨g, (i + 1) * 2, none⟩, by simp [h], fun j v hj => ?_⟩
      rw [Addr.add_lit]
      exact hcurJ j v hj
  have HC := Lib.hid hcur
  obtain ⟨zs, hzs⟩ : ∃ zs : List Value, zs = [.int .i64 0, .int .i64 0] := ⟨_, rfl⟩
  have hzl : zs.length = 2 := by rw [hzs]; rfl
  have hz1 : ∀ v ∈ zs, v.oneCell' = true := by rw [hzs]; intro v hv; rcases List.mem_cons.1 hv with rfl | hv; · rfl
                                               rcases List.mem_cons.1 hv with rfl | hv; · rfl
                                               cases hv
  have HRES : Hid (∀ w', w'.heap[g]? = some (.cells (splice (splice cur (i * 2) Y) ((n - 1) * 2) zs).toArray 32 (0, 0)) → RowKit.Below N w w' → (∀ k, k ≠ g → w'.heap[k]? = w.heap[k]?) → DelResU w N g n c (fs.take i ++ fs.drop (i + 1)) (.returned (.slice (some ⟨g, 0, none⟩) (n - 1) c)) w') := by
    intro w' hw' hb hoth
    have hsp := splice_cut cur X E Y zs ((n - 1) * 2) (by rw [hEl, show (n - 1) * 2 + 2 = n * 2 by omega]; exact hct) (by omega)
    rw [hXl] at hsp
    refine ⟨rfl, ⟨?_, Or.inr ⟨g, c, _, rfl, hNg, hw', by omega, by unfold maxLen; omega, ?_, ?_⟩⟩, hb, hoth⟩
    · rw [flat_length enc2_len]; simp; omega
    · rw [List.size_toArray, length_splice _ _ _ (by rw [length_splice _ _ _ (by omega)]; omega), length_splice _ _ _ (by omega), hcs]
    · rw [List.toList_toArray, hsp, flat_append, ← hX, ← hY]
  have hinf : (Tryz.prog.info? 32).map (·.size) = some 2 := by kernel_rfl
  have HINF := Lib.hid hinf
  have HLEN : Hid (0 + i * 2 + Y.length ≤ cur.length ∧ (n - 1) * 2 + zs.length ≤ (splice cur (i * 2) Y).length) := ⟨by omega, by rw [length_splice _ _ _ (by omega)]; omega⟩
  have HNg := Lib.hid hNg
  have HMN : Hid (Y.length = (n - (i + 1)) * 2) := hYl
  have hi0 : ((i : Int) == (i : Int) + 1) = false := by simp; omega
  have hw1 : IntKind.i64.wrap ((i : Int) + 1) = (i : Int) + 1 := by rw [IntKind.wrap_i64]; omega
  have htn : ((i : Int) + 1).toNat = i + 1 := by omega
  have hb1 : ¬ (c = n - 1) := by omega
  have hb2 : (0 : Int) ≤ (i : Int) + 1 := by omega
  have hb3 : (i : Int) ≤ (i : Int) + 1 := by omega
  have hb4 : (i : Int) + 1 ≤ (n : Int) := by omega
  have hb5 : (n : Int) ≤ (c : Int) := by omega
  have hin : i ≤ n := by omega
  have hic : i ≤ c := by omega
  have hlen1 : i + (n - (i + 1)) = n - 1 := by omega
  have hn1 : n - (n - 1) = 1 := by omega
  have mixed : Tryz.prog.follows Departure.mixedOrders = true := rfl
  clear ho hl hcur hcs hct hX hY hE hfs hinf hcurJ hNg hYl hXl hEl hzl
  go_enter Tryz.func85, Tryz.ntmps85
  go_wp2_with fail
  go_region_law_o (refine step_append_rowK rfl (.tmp 22) (.tmp 25) 28 rfl 32 2 Tryz.underlying28 HINF.out g 0 i c A (n - (i + 1)) (c - (i + 1)) (by simp [Act.eval, Act.put]) (by simp [Act.eval, Act.put]) cur 32 HC.out Y HMN.out HSY.out (by omega) HLEN.out.1 hY1 ?_; intro w1 HC1 hO1)
  rw [Nat.zero_add] at HC1
  have HB1 : Hid (RowKit.Below N w w1) := (show Over w w1 g from ⟨hO1.os, hO1.tape, hO1.output, hO1.size, hO1.other⟩).below HNg.out
  have HO1 := Lib.hid hO1.other
  clear hO1
  obtain ⟨w2, hcl, HC2, hO2⟩ : ∃ w2, (∀ ty, (Builtin.clear_ #[28] ty #[.slice (some ⟨g, (n - 1) * 2, none⟩) 1 (c - (n - 1))]).run Tryz.prog w1 = .ok (.tuple #[]) w2) ∧ Hid (w2.heap[g]? = some (.cells (splice (splice cur (i * 2) Y) ((n - 1) * 2) zs).toArray 32 (0, 0))) ∧ Over w1 w2 g :=
    ⟨_, fun ty => run_clear_rowU w1 _ _ ty _ zs Tryz.underlying28 Tryz.zeroValue32 (by rw [hzs]; first | kernel_rfl | simp [Builtin.zeroCells, Value.cells]) hz1 g ((n - 1) * 2) _ _ _ HC1.out HLEN.out.2, setRow_heap w1 g _ _ _ _ HC1.out, over_setRow w1 g _⟩
  go_wp2_with (simp only [hcl])
  go_ret
  exact HRES.out _ HC2.out (HB1.out.trans (hO2.below HNg.out)) (fun k hk => (hO2.other k hk).trans (HO1.out k hk))
end Go.Proofs.YtdbcbbiplkikcaaGreat

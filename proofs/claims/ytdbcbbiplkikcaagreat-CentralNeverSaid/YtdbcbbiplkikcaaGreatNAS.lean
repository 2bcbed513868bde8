/-
  The contract of central.handle at a message of the kind 50, and at a message that is refused. No statement of the seat is proved here. Conditions: rows of the call's own, at most 100 messages before.
  The contract of central.Handle, out of one of central.handle. No statement of the seat is proved here. Conditions: the centre reads as one of which the invariant holds.
-/
import Derived.Test.YtdbcbbiplkikcaaGreatNAQ
import Derived.Test.YtdbcbbiplkikcaaGreatNAR
import Derived.Deep.RegionHeld3
namespace Go.Proofs.YtdbcbbiplkikcaaGreat
open Go.RowKit
set_option linter.unusedVariables false
def AwHx (C : Cen) (m : Mg) (er : Int) (C' : Cen) : Prop := m.code.size = 0 → m.ctry.size = 0 → m.ln = 0 → m.text.size = 0 → MOk m → C.seen = [] → AwEx C m er C'
def HdlRes (N : Nat) (w : World) (C : Cen) (m : Mg) (k : Nat) (e : Ending) (w' : World) : Prop :=
  ∃ (H' : Hds) (C' : Cen) (er : Int), e = .returned (.tuple #[.agg #[.slice H'.s.A H'.s.n H'.s.c, .slice H'.q.A H'.q.n H'.q.c, .slice H'.g.A H'.g.n H'.g.c, .slice H'.k.A H'.k.n H'.k.c, .slice H'.m.A H'.m.n H'.m.c], .int .i64 er]) ∧ CenO N w' H' C' ∧ CInv (k + 1) C' ∧ RowKit.Below N w w' ∧ AwHx C m er C'
theorem HdlRes.mk {N : Nat} {w : World} {C : Cen} {m : Mg} {k : Nat} {e : Ending} {w' : World} (H' : Hds) (C' : Cen) (er : Int) (h1 : e = .returned (.tuple #[.agg #[.slice H'.s.A H'.s.n H'.s.c, .slice H'.q.A H'.q.n H'.q.c, .slice H'.g.A H'.g.n H'.g.c, .slice H'.k.A H'.k.n H'.k.c, .slice H'.m.A H'.m.n H'.m.c], .int .i64 er])) (h2 : CenO N w' H' C') (h3 : CInv (k + 1) C') (h4 : RowKit.Below N w w') (h5 : AwHx C m er C') : HdlRes N w C m k e w' := ⟨H', C', er, h1, h2, h3, h4, h5⟩
theorem cenO_setE {N : Nat} {w : World} {H : Hds} {C : Cen} {g : Nat} {cs : Array Value} (h : CenO N w H C) (hg : Bl w g 38 cs) (o : Nat) (v : Value) : CenO N (w.setCell ⟨g, o, none⟩ v) H C :=
  ⟨own_of_block h.seen fun b e => Below.heap_setCell _ _ _ b (fun e2 => own_apart h.seen hg (by decide) (by rw [e, e2])), own_of_block h.qs fun b e => Below.heap_setCell _ _ _ b (fun e2 => own_apart h.qs hg (by decide) (by rw [e, e2])), own_of_block h.gs fun b e => Below.heap_setCell _ _ _ b (fun e2 => own_apart h.gs hg (by decide) (by rw [e, e2])), own_of_block h.cov fun b e => Below.heap_setCell _ _ _ b (fun e2 => own_apart h.cov hg (by decide) (by rw [e, e2])), own_of_block h.sent fun b e => Below.heap_setCell _ _ _ b (fun e2 => own_apart h.sent hg (by decide) (by rw [e, e2])), fun x hx => own_of_block (h.facts x hx) fun b e => Below.heap_setCell _ _ _ b (fun e2 => own_apart (h.facts x hx) hg (by decide) (by rw [e, e2])), fun x hx => own_of_block (h.uses x hx) fun b e => Below.heap_setCell _ _ _ b (fun e2 => own_apart (h.uses x hx) hg (by decide) (by rw [e, e2]))⟩
theorem cenO_set6 {N : Nat} {w : World} {H : Hds} {C : Cen} {r g : Nat} {cs ds : Array Value} (h : CenO N w H C) (hr : Bl w r 37 cs) (hg : Bl w g 38 ds) (hne : g ≠ r) (v0 v1 v2 v3 v4 v5 : Value) : CenO N ((((((w.setCell ⟨r, 0, none⟩ v0).setCell ⟨r, 1, none⟩ v1).setCell ⟨r, 2, none⟩ v2).setCell ⟨r, 3, none⟩ v3).setCell ⟨r, 4, none⟩ v4).setCell ⟨g, 0, none⟩ v5) H C :=
  cenO_setE (h.far hr (fun b hb => heap_set5 hb _ _ _ _ _)) (hg.far5 hne _ _ _ _ _) 0 v5
theorem put6 {w : World} {N r g : Nat} {w' : World} (h : RowKit.Below N w w') (hr : N ≤ r) (hg : N ≤ g) (a b c d e f : Value) : RowKit.Below N w ((((((w'.setCell ⟨r, 0, none⟩ a).setCell ⟨r, 1, none⟩ b).setCell ⟨r, 2, none⟩ c).setCell ⟨r, 3, none⟩ d).setCell ⟨r, 4, none⟩ e).setCell ⟨g, 0, none⟩ f) := (put5 h hr a b c d e).setCell (p := ⟨g, 0, none⟩) hg _
theorem CInv.seen_ins {k : Nat} {C : Cen} (h : CInv (k + 1) C) (hs : C.seen.length ≤ k) (i : Nat) (r : Rcp) : CInv (k + 1) { C with seen := C.seen.take i ++ r :: C.seen.drop i } :=
  ⟨by simp; omega, h.sent, h.cov, h.asc, h.nq, h.ng, h.books, h.guars⟩
set_option maxRecDepth 100000 in
set_option maxHeartbeats 8000000 in
theorem handle37a (N : Nat) (H : Hds) (C : Cen) (m : Mg) (ls : List Int) (k : Nat) (w : World) (hO : CenO N w H C) (ha : CovApart H C) (hN : N ≤ w.heap.size) (hI : CInv k C) (hk : k ≤ 100) (hkd : m.kind = 50) (h : Ints w m.LA m.ln ls) (hc : m.code.size ≤ 9223372036854775807) (hy : m.ctry.size ≤ 9223372036854775807) (hln : m.ln ≤ 9223372036854775807) (htx : m.text.size ≤ 9223372036854775807) :
    Calls Tryz.prog 28 #[.agg #[.slice H.s.A H.s.n H.s.c, .slice H.q.A H.q.n H.q.c, .slice H.g.A H.g.n H.g.c, .slice H.k.A H.k.n H.k.c, .slice H.m.A H.m.n H.m.c], .agg #[.int .i64 m.kind, .int .i64 m.frm, .int .i64 m.dst, .int .i64 m.num, .int .i64 m.day, .int .i64 m.lot, .int .i64 m.oth, .string m.code, .string m.ctry, .int .i64 m.qty, .int .i64 m.amt, .slice m.LA m.ln m.lc, .string m.text]] w (HdlRes N w C m k) := by
  obtain ⟨⟨sA, sn, sc⟩, Hq, Hg, Hk, Hm⟩ := H
  have HO := Lib.hid hO
  have HA := Lib.hid ha
  have HN := Lib.hid hN
  have HI := Lib.hid hI
  have HKC := Lib.hid hkd
  have HK := Lib.hid hk
  have HSN : Hid (C.seen.length = sn) := own_lenK encRc_len (by omega) hO.seen
  have hsn : sn ≤ 100 := by have := hI.seen; have := HSN.out; omega
  have HLS : Hid (∀ b, (Value.slice sA sn sc).ownBlock = some b → b < w.heap.size) := fun b e => own_lt hO.seen b e
  have HLQ : Hid (∀ b, (Value.slice Hq.A Hq.n Hq.c).ownBlock = some b → b < w.heap.size) := fun b e => own_lt hO.qs b e
  have HLG : Hid (∀ b, (Value.slice Hg.A Hg.n Hg.c).ownBlock = some b → b < w.heap.size) := fun b e => own_lt hO.gs b e
  have HLK : Hid (∀ b, (Value.slice Hk.A Hk.n Hk.c).ownBlock = some b → b < w.heap.size) := fun b e => own_lt hO.cov b e
  have HLM : Hid (∀ b, (Value.slice Hm.A Hm.n Hm.c).ownBlock = some b → b < w.heap.size) := fun b e => own_lt hO.sent b e
  obtain ⟨W0, hW0⟩ : ∃ W, W = (((w.alloc (.cells #[.slice sA sn sc, .slice Hq.A Hq.n Hq.c, .slice Hg.A Hg.n Hg.c, .slice Hk.A Hk.n Hk.c, .slice Hm.A Hm.n Hm.c] 37)).alloc (.cells #[.int .i64 m.kind, .int .i64 m.frm, .int .i64 m.dst, .int .i64 m.num, .int .i64 m.day, .int .i64 m.lot, .int .i64 m.oth, .string m.code, .string m.ctry, .int .i64 m.qty, .int .i64 m.amt, .slice m.LA m.ln m.lc, .string m.text] 48)).alloc (.cells #[.slice none 0 0, .slice none 0 0, .slice none 0 0, .slice none 0 0, .slice none 0 0] 37)).alloc (.cells #[.int .i64 0] 38) := ⟨_, rfl⟩
  have hx : Bl W0 w.heap.size 37 #[.slice sA sn sc, .slice Hq.A Hq.n Hq.c, .slice Hg.A Hg.n Hg.c, .slice Hk.A Hk.n Hk.c, .slice Hm.A Hm.n Hm.c] := by rw [hW0]; exact (((Bl.new w _ _).alloc _).alloc _).alloc _
  have hmb : Bl W0 (w.heap.size + 1) 48 #[.int .i64 m.kind, .int .i64 m.frm, .int .i64 m.dst, .int .i64 m.num, .int .i64 m.day, .int .i64 m.lot, .int .i64 m.oth, .string m.code, .string m.ctry, .int .i64 m.qty, .int .i64 m.amt, .slice m.LA m.ln m.lc, .string m.text] := by rw [hW0]; have := ((Bl.new (w.alloc (.cells #[.slice sA sn sc, .slice Hq.A Hq.n Hq.c, .slice Hg.A Hg.n Hg.c, .slice Hk.A Hk.n Hk.c, .slice Hm.A Hm.n Hm.c] 37)) 48 #[.int .i64 m.kind, .int .i64 m.frm, .int .i64 m.dst, .int .i64 m.num, .int .i64 m.day, .int .i64 m.lot, .int .i64 m.oth, .string m.code, .string m.ctry, .int .i64 m.qty, .int .i64 m.amt, .slice m.LA m.ln m.lc, .string m.text]).alloc (.cells #[.slice none 0 0, .slice none 0 0, .slice none 0 0, .slice none 0 0, .slice none 0 0] 37)).alloc (.cells #[.int .i64 0] 38); simpa using this
  have hr : Bl W0 (w.heap.size + 1 + 1) 37 #[.slice none 0 0, .slice none 0 0, .slice none 0 0, .slice none 0 0, .slice none 0 0] := by rw [hW0]; have := (Bl.new ((w.alloc (.cells #[.slice sA sn sc, .slice Hq.A Hq.n Hq.c, .slice Hg.A Hg.n Hg.c, .slice Hk.A Hk.n Hk.c, .slice Hm.A Hm.n Hm.c] 37)).alloc (.cells #[.int .i64 m.kind, .int .i64 m.frm, .int .i64 m.dst, .int .i64 m.num, .int .i64 m.day, .int .i64 m.lot, .int .i64 m.oth, .string m.code, .string m.ctry, .int .i64 m.qty, .int .i64 m.amt, .slice m.LA m.ln m.lc, .string m.text] 48)) 37 #[.slice none 0 0, .slice none 0 0, .slice none 0 0, .slice none 0 0, .slice none 0 0]).alloc (.cells #[.int .i64 0] 38); simpa using this
  have hee : Bl W0 (w.heap.size + 1 + 1 + 1) 38 #[.int .i64 0] := by rw [hW0]; have := Bl.new (((w.alloc (.cells #[.slice sA sn sc, .slice Hq.A Hq.n Hq.c, .slice Hg.A Hg.n Hg.c, .slice Hk.A Hk.n Hk.c, .slice Hm.A Hm.n Hm.c] 37)).alloc (.cells #[.int .i64 m.kind, .int .i64 m.frm, .int .i64 m.dst, .int .i64 m.num, .int .i64 m.day, .int .i64 m.lot, .int .i64 m.oth, .string m.code, .string m.ctry, .int .i64 m.qty, .int .i64 m.amt, .slice m.LA m.ln m.lc, .string m.text] 48)).alloc (.cells #[.slice none 0 0, .slice none 0 0, .slice none 0 0, .slice none 0 0, .slice none 0 0] 37)) 38 #[.int .i64 0]; simpa using this
  have hb0 : RowKit.Below w.heap.size w W0 := by rw [hW0]; exact ((((Below.refl _ _).alloc (Nat.le_refl _) _).alloc (by simp) _).alloc (by simp; omega) _).alloc (by simp; omega) _
  have HO0 := Lib.hid (hO.below hb0)
  have HCL := Lib.hid (refuse_any m ls W0 (h.below hb0) hc hy hln htx)
  have HX0 := Lib.hid hx
  have HM0 := Lib.hid hmb
  have HR0 := Lib.hid hr
  have HE0 := Lib.hid hee
  have HB0 := Lib.hid hb0
  have hmf : ∀ (fn : Fn) (first cap : Array Value) (w : World), (Instr.makeFunc fn first cap).run Tryz.prog w = .ok (.func fn first cap) w := fun _ _ _ _ => rfl
  clear hO ha hN hI hkd hk hx hmb hr hee hb0 h hc hy hln htx
  go_enter_defers Tryz.func28, Tryz.ntmps28
  go_upto_region 1 with (fail)
  rw [← hW0]
  clear hW0
  have y0 : W0.cell? ⟨w.heap.size + 1, 0, none⟩ = some (.int .i64 m.kind) := HM0.out.cell 0
  have y1 : W0.cell? ⟨w.heap.size + 1, 1, none⟩ = some (.int .i64 m.frm) := HM0.out.cell 1
  have y2 : W0.cell? ⟨w.heap.size + 1, 2, none⟩ = some (.int .i64 m.dst) := HM0.out.cell 2
  have y3 : W0.cell? ⟨w.heap.size + 1, 3, none⟩ = some (.int .i64 m.num) := HM0.out.cell 3
  have y4 : W0.cell? ⟨w.heap.size + 1, 4, none⟩ = some (.int .i64 m.day) := HM0.out.cell 4
  have y5 : W0.cell? ⟨w.heap.size + 1, 5, none⟩ = some (.int .i64 m.lot) := HM0.out.cell 5
  have y6 : W0.cell? ⟨w.heap.size + 1, 6, none⟩ = some (.int .i64 m.oth) := HM0.out.cell 6
  have y7 : W0.cell? ⟨w.heap.size + 1, 7, none⟩ = some (.string m.code) := HM0.out.cell 7
  have y8 : W0.cell? ⟨w.heap.size + 1, 8, none⟩ = some (.string m.ctry) := HM0.out.cell 8
  have y9 : W0.cell? ⟨w.heap.size + 1, 9, none⟩ = some (.int .i64 m.qty) := HM0.out.cell 9
  have y10 : W0.cell? ⟨w.heap.size + 1, 10, none⟩ = some (.int .i64 m.amt) := HM0.out.cell 10
  have y11 : W0.cell? ⟨w.heap.size + 1, 11, none⟩ = some (.slice m.LA m.ln m.lc) := HM0.out.cell 11
  have y12 : W0.cell? ⟨w.heap.size + 1, 12, none⟩ = some (.string m.text) := HM0.out.cell 12
  go_wp2_with fail
  refine HCL.out.mono ?_
  rintro e w1 ⟨er, rfl, her1, her2, hb1⟩
  have HX := Lib.hid (HX0.out.keep hb1)
  have HM := Lib.hid (HM0.out.keep hb1)
  have HR := Lib.hid (HR0.out.keep hb1)
  have HE := Lib.hid (HE0.out.keep hb1)
  have HB : Hid (RowKit.Below w.heap.size w w1) := HB0.out.trans (hb1.mono HB0.out.size)
  have HO1 := Lib.hid (HO0.out.below hb1)
  have HE1 := Lib.hid her1
  have HE2 := Lib.hid her2
  have hsz1 : w.heap.size + 1 + 1 + 1 < w1.heap.size := HE.out.lt
  clear y0 y1 y2 y3 y4 y5 y6 y7 y8 y9 y10 y11 y12 her1 her2 HX0 HM0 HR0 HE0 HB0 HO0 HCL hb1
  by_cases h0 : er = 0
  case neg =>
    have b1 : (er != 0) = true := by simpa using h0
    have HAW : Hid (AwHx C m er C) := fun k1 k2 k3 k4 hm _ => absurd (HE2.out hm k1 k2 k3 k4) h0
    clear h0
    have x0 : w1.cell? ⟨w.heap.size, 0, none⟩ = some (.slice sA sn sc) := HX.out.c0
    have x1 : w1.cell? ⟨w.heap.size, 1, none⟩ = some (.slice Hq.A Hq.n Hq.c) := HX.out.c1
    have x2 : w1.cell? ⟨w.heap.size, 2, none⟩ = some (.slice Hg.A Hg.n Hg.c) := HX.out.c2
    have x3 : w1.cell? ⟨w.heap.size, 3, none⟩ = some (.slice Hk.A Hk.n Hk.c) := HX.out.c3
    have x4 : w1.cell? ⟨w.heap.size, 4, none⟩ = some (.slice Hm.A Hm.n Hm.c) := HX.out.c4
    have r0 : w1.cell? ⟨w.heap.size + 1 + 1, 0, none⟩ = some (.slice none 0 0) := HR.out.c0
    have rf0 : w1.frozen? ⟨w.heap.size + 1 + 1, 0, none⟩ = false := HR.out.free 0
    have r1 : w1.cell? ⟨w.heap.size + 1 + 1, 1, none⟩ = some (.slice none 0 0) := HR.out.c1
    have rf1 : w1.frozen? ⟨w.heap.size + 1 + 1, 1, none⟩ = false := HR.out.free 1
    have r2 : w1.cell? ⟨w.heap.size + 1 + 1, 2, none⟩ = some (.slice none 0 0) := HR.out.c2
    have rf2 : w1.frozen? ⟨w.heap.size + 1 + 1, 2, none⟩ = false := HR.out.free 2
    have r3 : w1.cell? ⟨w.heap.size + 1 + 1, 3, none⟩ = some (.slice none 0 0) := HR.out.c3
    have rf3 : w1.frozen? ⟨w.heap.size + 1 + 1, 3, none⟩ = false := HR.out.free 3
    have r4 : w1.cell? ⟨w.heap.size + 1 + 1, 4, none⟩ = some (.slice none 0 0) := HR.out.c4
    have rf4 : w1.frozen? ⟨w.heap.size + 1 + 1, 4, none⟩ = false := HR.out.free 4
    have e0 : w1.cell? ⟨w.heap.size + 1 + 1 + 1, 0, none⟩ = some (.int .i64 0) := HE.out.cell 0
    have ef : w1.frozen? ⟨w.heap.size + 1 + 1 + 1, 0, none⟩ = false := HE.out.free 0
    go_wp2
    refine ⟨.tuple #[.agg #[.slice sA sn sc, .slice Hq.A Hq.n Hq.c, .slice Hg.A Hg.n Hg.c, .slice Hk.A Hk.n Hk.c, .slice Hm.A Hm.n Hm.c], .int .i64 er], ?_, ?_⟩
    · simp [results, Tryz.results28, go_sem, r0, r1, r2, r3, r4, e0]
    · exact HdlRes.mk ⟨⟨sA, sn, sc⟩, Hq, Hg, Hk, Hm⟩ C er rfl (cenO_set6 HO1.out HR.out HE.out (by omega) _ _ _ _ _ _) (HI.out.mono (Nat.le_succ k)) (put6 (HB.out.mono HN.out) (Nat.le_trans HN.out (by omega)) (Nat.le_trans HN.out (by omega)) _ _ _ _ _ _) HAW.out
  case pos =>
    subst h0
    have HMK : Hid (MOk m) := HE1.out rfl
    have b1 : ((0 : Int) != 0) = false := rfl
    clear HE1 HE2
    have y1 : w1.cell? ⟨w.heap.size + 1, 1, none⟩ = some (.int .i64 m.frm) := HM.out.cell 1
    have y3 : w1.cell? ⟨w.heap.size + 1, 3, none⟩ = some (.int .i64 m.num) := HM.out.cell 3
    have hba : RowKit.Below w1.heap.size w1 (w1.alloc (.cells #[.int .i64 m.frm, .int .i64 m.num, .int .i64 0] 85)) := (Below.refl _ _).alloc (Nat.le_refl _) _
    have HX4 := Lib.hid (HX.out.keep hba)
    have HM4 := Lib.hid (HM.out.keep hba)
    have HR4 := Lib.hid (HR.out.keep hba)
    have HE4 := Lib.hid (HE.out.keep hba)
    have HO4 := Lib.hid (HO1.out.below hba)
    have HB4 : Hid (RowKit.Below w.heap.size w (w1.alloc (.cells #[.int .i64 m.frm, .int .i64 m.num, .int .i64 0] 85))) := HB.out.trans (hba.mono HB.out.size)
    have HG4 := Lib.hid (Bl.new w1 85 #[.int .i64 m.frm, .int .i64 m.num, .int .i64 0])
    clear hba HX HM HR HE HO1 HB
    go_upto_region 5 with (fail)
    clear y1 y3 b1
    generalize w1.alloc (.cells #[.int .i64 m.frm, .int .i64 m.num, .int .i64 0] 85) = W4 at *
    generalize w1.heap.size = g7 at *
    have HCB := Lib.hid (bsearchR_any sA sn sc C.seen ⟨m.frm, m.num, 0⟩ W4 HO4.out.at_.seen.recs (by omega))
    have x0 : W4.cell? ⟨w.heap.size, 0, none⟩ = some (.slice sA sn sc) := HX4.out.c0
    have q0 : W4.cell? ⟨g7, 0, none⟩ = some (.int .i64 m.frm) := HG4.out.cell 0
    have q1 : W4.cell? ⟨g7, 1, none⟩ = some (.int .i64 m.num) := HG4.out.cell 1
    have q2 : W4.cell? ⟨g7, 2, none⟩ = some (.int .i64 0) := HG4.out.cell 2
    go_wp2_with fail
    refine HCB.out.mono ?_
    rintro e w5 ⟨I, b, rfl, hI1, hI2, hb5⟩
    have hba : RowKit.Below W4.heap.size W4 (w5.alloc (.cells #[.int .i64 (I : Int)] 3)) := hb5.alloc hb5.size _
    have HX5 := Lib.hid (HX4.out.keep hba)
    have HM5 := Lib.hid (HM4.out.keep hba)
    have HR5 := Lib.hid (HR4.out.keep hba)
    have HE5 := Lib.hid (HE4.out.keep hba)
    have HG5 := Lib.hid (HG4.out.keep hba)
    have HO5 := Lib.hid (HO4.out.below hba)
    have HB5 : Hid (RowKit.Below w.heap.size w (w5.alloc (.cells #[.int .i64 (I : Int)] 3))) := HB4.out.trans (hba.mono HB4.out.size)
    have HA5 := Lib.hid (Bl.new w5 3 #[.int .i64 (I : Int)])
    have hsz5 : g7 < w5.heap.size := Nat.lt_of_lt_of_le HG4.out.lt hb5.size
    have HI2 := Lib.hid hI2
    clear hba hb5 hI2 x0 q0 q1 q2 HX4 HM4 HR4 HE4 HG4 HO4 HB4 HCB
    go_upto_region 6 with (fail)
    generalize w5.alloc (.cells #[.int .i64 (I : Int)] 3) = W5 at *
    generalize w5.heap.size = g8 at *
    cases b
    case true =>
      have hIn := HI2.out rfl
      obtain ⟨gs, hA⟩ := own_addr HO5.out.seen (by simp only; omega)
      simp only at hA
      subst hA
      have hIi : (I : Int) < sn := by omega
      have hIz : (0 : Int) ≤ (I : Int) := by omega
      obtain ⟨re, hre⟩ : ∃ re, C.seen[I]! = re := ⟨_, rfl⟩
      have s2 : W5.cell? ⟨gs, I * 3 + 2, none⟩ = some (.int .i64 re.err) := by
        have := own_cellK encRc_len HO5.out.seen (i := I) (c := 2) (by rw [HSN.out]; exact hIn) (by omega) HSN.out
        rw [this, hre]; rfl
      have a0 : W5.cell? ⟨g8, 0, none⟩ = some (.int .i64 (I : Int)) := HA5.out.cell 0
      have HAW : Hid (∀ er, AwHx C m er C) := fun er _ _ _ _ _ hs => absurd hIn (by have := HSN.out; rw [hs] at this; simp at this; omega)
      clear hre
      have x0 : W5.cell? ⟨w.heap.size, 0, none⟩ = some (.slice (some ⟨gs, 0, none⟩) sn sc) := HX5.out.c0
      have x1 : W5.cell? ⟨w.heap.size, 1, none⟩ = some (.slice Hq.A Hq.n Hq.c) := HX5.out.c1
      have x2 : W5.cell? ⟨w.heap.size, 2, none⟩ = some (.slice Hg.A Hg.n Hg.c) := HX5.out.c2
      have x3 : W5.cell? ⟨w.heap.size, 3, none⟩ = some (.slice Hk.A Hk.n Hk.c) := HX5.out.c3
      have x4 : W5.cell? ⟨w.heap.size, 4, none⟩ = some (.slice Hm.A Hm.n Hm.c) := HX5.out.c4
      have r0 : W5.cell? ⟨w.heap.size + 1 + 1, 0, none⟩ = some (.slice none 0 0) := HR5.out.c0
      have rf0 : W5.frozen? ⟨w.heap.size + 1 + 1, 0, none⟩ = false := HR5.out.free 0
      have r1 : W5.cell? ⟨w.heap.size + 1 + 1, 1, none⟩ = some (.slice none 0 0) := HR5.out.c1
      have rf1 : W5.frozen? ⟨w.heap.size + 1 + 1, 1, none⟩ = false := HR5.out.free 1
      have r2 : W5.cell? ⟨w.heap.size + 1 + 1, 2, none⟩ = some (.slice none 0 0) := HR5.out.c2
      have rf2 : W5.frozen? ⟨w.heap.size + 1 + 1, 2, none⟩ = false := HR5.out.free 2
      have r3 : W5.cell? ⟨w.heap.size + 1 + 1, 3, none⟩ = some (.slice none 0 0) := HR5.out.c3
      have rf3 : W5.frozen? ⟨w.heap.size + 1 + 1, 3, none⟩ = false := HR5.out.free 3
      have r4 : W5.cell? ⟨w.heap.size + 1 + 1, 4, none⟩ = some (.slice none 0 0) := HR5.out.c4
      have rf4 : W5.frozen? ⟨w.heap.size + 1 + 1, 4, none⟩ = false := HR5.out.free 4
      have e0 : W5.cell? ⟨w.heap.size + 1 + 1 + 1, 0, none⟩ = some (.int .i64 0) := HE5.out.cell 0
      have ef : W5.frozen? ⟨w.heap.size + 1 + 1 + 1, 0, none⟩ = false := HE5.out.free 0
      have nn0 : gs < w.heap.size := HLS.out gs rfl
      have nn1 : w.heap.size + 1 + 1 ≠ gs := by omega
      have nn2 : w.heap.size + 1 + 1 + 1 ≠ gs := by omega
      have nn3 : gs ≠ w.heap.size + 1 + 1 := by omega
      have nn4 : gs ≠ w.heap.size + 1 + 1 + 1 := by omega
      have nn5 : w.heap.size + 1 + 1 ≠ g8 := by omega
      have nn6 : w.heap.size + 1 + 1 + 1 ≠ g8 := by omega
      have nn7 : g8 ≠ w.heap.size + 1 + 1 := by omega
      have nn8 : g8 ≠ w.heap.size + 1 + 1 + 1 := by omega
      go_upto_region 7 with (fail)
      go_region
      all_goals
        (go_wp2
         refine ⟨.tuple #[.agg #[.slice (some ⟨gs, 0, none⟩) sn sc, .slice Hq.A Hq.n Hq.c, .slice Hg.A Hg.n Hg.c, .slice Hk.A Hk.n Hk.c, .slice Hm.A Hm.n Hm.c], .int .i64 re.err], ?_, ?_⟩
         · simp [results, Tryz.results28, go_sem, r0, r1, r2, r3, r4, e0]
         · exact HdlRes.mk ⟨⟨some ⟨gs, 0, none⟩, sn, sc⟩, Hq, Hg, Hk, Hm⟩ C re.err rfl ((cenO_set6 HO5.out HR5.out HE5.out (by omega) _ _ _ _ _ _).below (Below.refl _ _).drew) (HI.out.mono (Nat.le_succ k)) ((put6 (HB5.out.mono HN.out) (Nat.le_trans HN.out (by omega)) (Nat.le_trans HN.out (by omega)) _ _ _ _ _ _).drew) (HAW.out _))
    case false =>
      have x0 : W5.cell? ⟨w.heap.size, 0, none⟩ = some (.slice sA sn sc) := HX5.out.c0
      have x1 : W5.cell? ⟨w.heap.size, 1, none⟩ = some (.slice Hq.A Hq.n Hq.c) := HX5.out.c1
      have x2 : W5.cell? ⟨w.heap.size, 2, none⟩ = some (.slice Hg.A Hg.n Hg.c) := HX5.out.c2
      have x3 : W5.cell? ⟨w.heap.size, 3, none⟩ = some (.slice Hk.A Hk.n Hk.c) := HX5.out.c3
      have x4 : W5.cell? ⟨w.heap.size, 4, none⟩ = some (.slice Hm.A Hm.n Hm.c) := HX5.out.c4
      have y0 : W5.cell? ⟨w.heap.size + 1, 0, none⟩ = some (.int .i64 m.kind) := HM5.out.cell 0
      have y1 : W5.cell? ⟨w.heap.size + 1, 1, none⟩ = some (.int .i64 m.frm) := HM5.out.cell 1
      have y2 : W5.cell? ⟨w.heap.size + 1, 2, none⟩ = some (.int .i64 m.dst) := HM5.out.cell 2
      have y3 : W5.cell? ⟨w.heap.size + 1, 3, none⟩ = some (.int .i64 m.num) := HM5.out.cell 3
      have y4 : W5.cell? ⟨w.heap.size + 1, 4, none⟩ = some (.int .i64 m.day) := HM5.out.cell 4
      have y5 : W5.cell? ⟨w.heap.size + 1, 5, none⟩ = some (.int .i64 m.lot) := HM5.out.cell 5
      have y6 : W5.cell? ⟨w.heap.size + 1, 6, none⟩ = some (.int .i64 m.oth) := HM5.out.cell 6
      have y7 : W5.cell? ⟨w.heap.size + 1, 7, none⟩ = some (.string m.code) := HM5.out.cell 7
      have y8 : W5.cell? ⟨w.heap.size + 1, 8, none⟩ = some (.string m.ctry) := HM5.out.cell 8
      have y9 : W5.cell? ⟨w.heap.size + 1, 9, none⟩ = some (.int .i64 m.qty) := HM5.out.cell 9
      have y10 : W5.cell? ⟨w.heap.size + 1, 10, none⟩ = some (.int .i64 m.amt) := HM5.out.cell 10
      have y11 : W5.cell? ⟨w.heap.size + 1, 11, none⟩ = some (.slice m.LA m.ln m.lc) := HM5.out.cell 11
      have y12 : W5.cell? ⟨w.heap.size + 1, 12, none⟩ = some (.string m.text) := HM5.out.cell 12
      have r0 : W5.cell? ⟨w.heap.size + 1 + 1, 0, none⟩ = some (.slice none 0 0) := HR5.out.c0
      have rf0 : W5.frozen? ⟨w.heap.size + 1 + 1, 0, none⟩ = false := HR5.out.free 0
      have r1 : W5.cell? ⟨w.heap.size + 1 + 1, 1, none⟩ = some (.slice none 0 0) := HR5.out.c1
      have rf1 : W5.frozen? ⟨w.heap.size + 1 + 1, 1, none⟩ = false := HR5.out.free 1
      have r2 : W5.cell? ⟨w.heap.size + 1 + 1, 2, none⟩ = some (.slice none 0 0) := HR5.out.c2
      have rf2 : W5.frozen? ⟨w.heap.size + 1 + 1, 2, none⟩ = false := HR5.out.free 2
      have r3 : W5.cell? ⟨w.heap.size + 1 + 1, 3, none⟩ = some (.slice none 0 0) := HR5.out.c3
      have rf3 : W5.frozen? ⟨w.heap.size + 1 + 1, 3, none⟩ = false := HR5.out.free 3
      have r4 : W5.cell? ⟨w.heap.size + 1 + 1, 4, none⟩ = some (.slice none 0 0) := HR5.out.c4
      have rf4 : W5.frozen? ⟨w.heap.size + 1 + 1, 4, none⟩ = false := HR5.out.free 4
      have e0 : W5.cell? ⟨w.heap.size + 1 + 1 + 1, 0, none⟩ = some (.int .i64 0) := HE5.out.cell 0
      have ef : W5.frozen? ⟨w.heap.size + 1 + 1 + 1, 0, none⟩ = false := HE5.out.free 0
      have kb0 : (m.kind == 50) = true := by simpa using HKC.out
      have HAC := Lib.hid (fact37_any N ⟨⟨sA, sn, sc⟩, Hq, Hg, Hk, Hm⟩ C m k W5 HO5.out HA.out (Nat.le_trans HN.out HB5.out.size) HI.out HK.out HMK.out)
      go_wp2_with fail
      refine HAC.out.mono ?_
      rintro e w6 ⟨⟨Hs', Hq', Hg', Hk', Hm'⟩, C', er, rfl, hO6, hA6, hI6, hs6, hse6, hfx6, hb6, haw6⟩
      simp only at hs6
      subst hs6
      have hbx : ∀ b, w.heap.size ≤ b → b < W5.heap.size → w6.heap[b]? = W5.heap[b]? := fun b h1 h2 => hfx6 b h2 (fun e => by have := HLQ.out b e.symm; omega) (fun e => by have := HLG.out b e.symm; omega) (fun e => by have := HLK.out b e.symm; omega) (fun e => by have := HLM.out b e.symm; omega)
      have hl8 : g8 < W5.heap.size := HA5.out.lt
      have HR6 : Hid (Bl w6 (w.heap.size + 1 + 1) 37 #[.slice none 0 0, .slice none 0 0, .slice none 0 0, .slice none 0 0, .slice none 0 0]) := (hbx _ (by omega) (by omega)).trans HR5.out
      have HE6 : Hid (Bl w6 (w.heap.size + 1 + 1 + 1) 38 #[.int .i64 0]) := (hbx _ (by omega) (by omega)).trans HE5.out
      have HG6 : Hid (Bl w6 g7 85 #[.int .i64 m.frm, .int .i64 m.num, .int .i64 0]) := (hbx _ (by omega) (by omega)).trans HG5.out
      have HA6 : Hid (Bl w6 g8 3 #[.int .i64 (I : Int)]) := (hbx _ (by omega) (by omega)).trans HA5.out
      have HO6 := Lib.hid hO6
      have HI6 := Lib.hid hI6
      have HSE6 := Lib.hid hse6
      have HB6 : Hid (RowKit.Below N w w6) := (HB5.out.mono HN.out).trans hb6
      have HAW6 := Lib.hid haw6
      clear hO6 hA6 hI6 hse6 hfx6 hb6 haw6 hbx x0 x1 x2 x3 x4 y0 y1 y2 y3 y4 y5 y6 y7 y8 y9 y10 y11 y12 r0 r1 r2 r3 r4 rf0 rf1 rf2 rf3 rf4 e0 ef kb0 HX5 HM5 HR5 HE5 HG5 HO5 HA5 HAC HB5
      have r0 : w6.cell? ⟨w.heap.size + 1 + 1, 0, none⟩ = some (.slice none 0 0) := HR6.out.c0
      have rf0 : w6.frozen? ⟨w.heap.size + 1 + 1, 0, none⟩ = false := HR6.out.free 0
      have r1 : w6.cell? ⟨w.heap.size + 1 + 1, 1, none⟩ = some (.slice none 0 0) := HR6.out.c1
      have rf1 : w6.frozen? ⟨w.heap.size + 1 + 1, 1, none⟩ = false := HR6.out.free 1
      have r2 : w6.cell? ⟨w.heap.size + 1 + 1, 2, none⟩ = some (.slice none 0 0) := HR6.out.c2
      have rf2 : w6.frozen? ⟨w.heap.size + 1 + 1, 2, none⟩ = false := HR6.out.free 2
      have r3 : w6.cell? ⟨w.heap.size + 1 + 1, 3, none⟩ = some (.slice none 0 0) := HR6.out.c3
      have rf3 : w6.frozen? ⟨w.heap.size + 1 + 1, 3, none⟩ = false := HR6.out.free 3
      have r4 : w6.cell? ⟨w.heap.size + 1 + 1, 4, none⟩ = some (.slice none 0 0) := HR6.out.c4
      have rf4 : w6.frozen? ⟨w.heap.size + 1 + 1, 4, none⟩ = false := HR6.out.free 4
      have e0 : w6.cell? ⟨w.heap.size + 1 + 1 + 1, 0, none⟩ = some (.int .i64 0) := HE6.out.cell 0
      have ef : w6.frozen? ⟨w.heap.size + 1 + 1 + 1, 0, none⟩ = false := HE6.out.free 0
      have HR7 : Hid (Bl ((((((w6.setCell ⟨w.heap.size + 1 + 1, 0, none⟩ (.slice sA sn sc)).setCell ⟨w.heap.size + 1 + 1, 1, none⟩ (.slice Hq'.A Hq'.n Hq'.c)).setCell ⟨w.heap.size + 1 + 1, 2, none⟩ (.slice Hg'.A Hg'.n Hg'.c)).setCell ⟨w.heap.size + 1 + 1, 3, none⟩ (.slice Hk'.A Hk'.n Hk'.c)).setCell ⟨w.heap.size + 1 + 1, 4, none⟩ (.slice Hm'.A Hm'.n Hm'.c)).setCell ⟨w.heap.size + 1 + 1 + 1, 0, none⟩ (.int .i64 er)) (w.heap.size + 1 + 1) 37 #[.slice sA sn sc, .slice Hq'.A Hq'.n Hq'.c, .slice Hg'.A Hg'.n Hg'.c, .slice Hk'.A Hk'.n Hk'.c, .slice Hm'.A Hm'.n Hm'.c]) := (set5_bl HR6.out _ _ _ _ _).far (p := ⟨w.heap.size + 1 + 1 + 1, 0, none⟩) (by simp) _
      have HE7 : Hid (Bl ((((((w6.setCell ⟨w.heap.size + 1 + 1, 0, none⟩ (.slice sA sn sc)).setCell ⟨w.heap.size + 1 + 1, 1, none⟩ (.slice Hq'.A Hq'.n Hq'.c)).setCell ⟨w.heap.size + 1 + 1, 2, none⟩ (.slice Hg'.A Hg'.n Hg'.c)).setCell ⟨w.heap.size + 1 + 1, 3, none⟩ (.slice Hk'.A Hk'.n Hk'.c)).setCell ⟨w.heap.size + 1 + 1, 4, none⟩ (.slice Hm'.A Hm'.n Hm'.c)).setCell ⟨w.heap.size + 1 + 1 + 1, 0, none⟩ (.int .i64 er)) (w.heap.size + 1 + 1 + 1) 38 #[.int .i64 er]) := by
        have h1 := (HE6.out.far5 (r := w.heap.size + 1 + 1) (by omega) (.slice sA sn sc) (.slice Hq'.A Hq'.n Hq'.c) (.slice Hg'.A Hg'.n Hg'.c) (.slice Hk'.A Hk'.n Hk'.c) (.slice Hm'.A Hm'.n Hm'.c)).put 0 (.int .i64 er)
        show Bl _ _ _ _
        simpa using h1
      have HG7 : Hid (Bl ((((((w6.setCell ⟨w.heap.size + 1 + 1, 0, none⟩ (.slice sA sn sc)).setCell ⟨w.heap.size + 1 + 1, 1, none⟩ (.slice Hq'.A Hq'.n Hq'.c)).setCell ⟨w.heap.size + 1 + 1, 2, none⟩ (.slice Hg'.A Hg'.n Hg'.c)).setCell ⟨w.heap.size + 1 + 1, 3, none⟩ (.slice Hk'.A Hk'.n Hk'.c)).setCell ⟨w.heap.size + 1 + 1, 4, none⟩ (.slice Hm'.A Hm'.n Hm'.c)).setCell ⟨w.heap.size + 1 + 1 + 1, 0, none⟩ (.int .i64 er)) g7 85 #[.int .i64 m.frm, .int .i64 m.num, .int .i64 0]) := (HG6.out.far5 (by omega) _ _ _ _ _).far (p := ⟨w.heap.size + 1 + 1 + 1, 0, none⟩) (by simp; omega) _
      have HA7 : Hid (Bl ((((((w6.setCell ⟨w.heap.size + 1 + 1, 0, none⟩ (.slice sA sn sc)).setCell ⟨w.heap.size + 1 + 1, 1, none⟩ (.slice Hq'.A Hq'.n Hq'.c)).setCell ⟨w.heap.size + 1 + 1, 2, none⟩ (.slice Hg'.A Hg'.n Hg'.c)).setCell ⟨w.heap.size + 1 + 1, 3, none⟩ (.slice Hk'.A Hk'.n Hk'.c)).setCell ⟨w.heap.size + 1 + 1, 4, none⟩ (.slice Hm'.A Hm'.n Hm'.c)).setCell ⟨w.heap.size + 1 + 1 + 1, 0, none⟩ (.int .i64 er)) g8 3 #[.int .i64 (I : Int)]) := (HA6.out.far5 (by omega) _ _ _ _ _).far (p := ⟨w.heap.size + 1 + 1 + 1, 0, none⟩) (by simp; omega) _
      have HO7 : Hid (CenO N ((((((w6.setCell ⟨w.heap.size + 1 + 1, 0, none⟩ (.slice sA sn sc)).setCell ⟨w.heap.size + 1 + 1, 1, none⟩ (.slice Hq'.A Hq'.n Hq'.c)).setCell ⟨w.heap.size + 1 + 1, 2, none⟩ (.slice Hg'.A Hg'.n Hg'.c)).setCell ⟨w.heap.size + 1 + 1, 3, none⟩ (.slice Hk'.A Hk'.n Hk'.c)).setCell ⟨w.heap.size + 1 + 1, 4, none⟩ (.slice Hm'.A Hm'.n Hm'.c)).setCell ⟨w.heap.size + 1 + 1 + 1, 0, none⟩ (.int .i64 er)) ⟨⟨sA, sn, sc⟩, Hq', Hg', Hk', Hm'⟩ C') := cenO_set6 HO6.out HR6.out HE6.out (by omega) _ _ _ _ _ _
      have HB7 : Hid (RowKit.Below N w ((((((w6.setCell ⟨w.heap.size + 1 + 1, 0, none⟩ (.slice sA sn sc)).setCell ⟨w.heap.size + 1 + 1, 1, none⟩ (.slice Hq'.A Hq'.n Hq'.c)).setCell ⟨w.heap.size + 1 + 1, 2, none⟩ (.slice Hg'.A Hg'.n Hg'.c)).setCell ⟨w.heap.size + 1 + 1, 3, none⟩ (.slice Hk'.A Hk'.n Hk'.c)).setCell ⟨w.heap.size + 1 + 1, 4, none⟩ (.slice Hm'.A Hm'.n Hm'.c)).setCell ⟨w.heap.size + 1 + 1 + 1, 0, none⟩ (.int .i64 er))) := put6 HB6.out (Nat.le_trans HN.out (by omega)) (Nat.le_trans HN.out (by omega)) _ _ _ _ _ _
      have hNw := HN.out
      go_wp2
      refine leaves_cons (f := 41) (args := #[.pointer (some ⟨w.heap.size + 1 + 1 + 1, 0, none⟩), .pointer (some ⟨g7, 0, none⟩), .pointer (some ⟨w.heap.size + 1 + 1, 0, none⟩), .pointer (some ⟨g8, 0, none⟩)]) (by simp) (by simp [go_sem]) ?_
      refine (defer37_any N ⟨⟨sA, sn, sc⟩, Hq', Hg', Hk', Hm'⟩ C' (w.heap.size + 1 + 1 + 1) g7 (w.heap.size + 1 + 1) g8 er m.frm m.num 0 I .returning _ HO7.out (Nat.le_trans HN.out HB7.out.size) HE7.out HG7.out HR7.out HA7.out hI1 (by simp only; omega) (fun b e => by have := HLS.out b e; omega) (by omega) (by omega) (by omega)).mono ?_
      rintro e u' w8 ⟨rfl, rfl, B8, d8, hn8, he8, hO8, hb8⟩
      have r0 : w8.cell? ⟨w.heap.size + 1 + 1, 0, none⟩ = some (.slice B8 (sn + 1) d8) := hn8.c0
      have r1 : w8.cell? ⟨w.heap.size + 1 + 1, 1, none⟩ = some (.slice Hq'.A Hq'.n Hq'.c) := hn8.c1
      have r2 : w8.cell? ⟨w.heap.size + 1 + 1, 2, none⟩ = some (.slice Hg'.A Hg'.n Hg'.c) := hn8.c2
      have r3 : w8.cell? ⟨w.heap.size + 1 + 1, 3, none⟩ = some (.slice Hk'.A Hk'.n Hk'.c) := hn8.c3
      have r4 : w8.cell? ⟨w.heap.size + 1 + 1, 4, none⟩ = some (.slice Hm'.A Hm'.n Hm'.c) := hn8.c4
      have e0 : w8.cell? ⟨w.heap.size + 1 + 1 + 1, 0, none⟩ = some (.int .i64 er) := he8.cell 0
      refine ⟨.tuple #[.agg #[.slice B8 (sn + 1) d8, .slice Hq'.A Hq'.n Hq'.c, .slice Hg'.A Hg'.n Hg'.c, .slice Hk'.A Hk'.n Hk'.c, .slice Hm'.A Hm'.n Hm'.c], .int .i64 er], ?_, ?_⟩
      · simp [results, Tryz.results28, go_sem, r0, r1, r2, r3, r4, e0]
      · exact HdlRes.mk ⟨⟨B8, sn + 1, d8⟩, Hq', Hg', Hk', Hm'⟩ { C' with seen := C'.seen.take I ++ ⟨m.frm, m.num, er⟩ :: C'.seen.drop I } er rfl hO8 (CInv.seen_ins HI6.out (by rw [HSE6.out]; exact HI.out.seen) I _) (HB7.out.trans hb8) (fun _ _ _ _ _ _ => HAW6.out)
end Go.Proofs.YtdbcbbiplkikcaaGreat

namespace Go.Proofs.YtdbcbbiplkikcaaGreat
open Go.RowKit
set_option linter.unusedVariables false

theorem cenO_mono {N M : Nat} {w : World} {H : Hds} {C : Cen} (h : CenO N w H C) (hM : M ≤ N) : CenO M w H C :=
  ⟨h.seen.mono hM, h.qs.mono hM, h.gs.mono hM, h.cov.mono hM, h.sent.mono hM, fun b hb => (h.facts b hb).mono hM, fun g hg => (h.uses g hg).mono hM⟩
theorem AwHx.same {C C1 C' : Cen} {m : Mg} {er : Int} (h : AwHx C1 m er C') (hs : SameC C C1) : AwHx C m er C' := by
  intro k1 k2 k3 k4 hm hse b hq hb hf hsn
  have h1 := hs.qs
  rw [hq] at h1
  match hq1 : C1.qs with
  | [] => rw [hq1] at h1; simp at h1
  | b1 :: t =>
    rw [hq1] at h1
    cases t with
    | cons y t => simp at h1
    | nil =>
      simp only [List.map_cons, List.map_nil, List.cons.injEq, and_true, Prod.mk.injEq] at h1
      exact h k1 k2 k3 k4 hm (by rw [hs.seen, hse]) b1 hq1 (h1.1.trans hb) (h1.2.trans hf) (by rw [hs.sent, hsn])
def HndRes (w : World) (C : Cen) (m : Mg) (k : Nat) (e : Ending) (w' : World) : Prop :=
  ∃ (H' : Hds) (C' : Cen) (er : Int), e = .returned (.tuple #[.agg #[.slice H'.s.A H'.s.n H'.s.c, .slice H'.q.A H'.q.n H'.q.c, .slice H'.g.A H'.g.n H'.g.c, .slice H'.k.A H'.k.n H'.k.c, .slice H'.m.A H'.m.n H'.m.c], .int .i64 er]) ∧ CenO w.heap.size w' H' C' ∧ CInv (k + 1) C' ∧ RowKit.Below w.heap.size w w' ∧ AwHx C m er C'
def HdlOf (m : Mg) (ls : List Int) (k : Nat) : Prop := ∀ (N : Nat) (H : Hds) (C : Cen) (w : World), CenO N w H C → CovApart H C → N ≤ w.heap.size → CInv k C → Ints w m.LA m.ln ls → Calls Tryz.prog 28 #[.agg #[.slice H.s.A H.s.n H.s.c, .slice H.q.A H.q.n H.q.c, .slice H.g.A H.g.n H.g.c, .slice H.k.A H.k.n H.k.c, .slice H.m.A H.m.n H.m.c], .agg #[.int .i64 m.kind, .int .i64 m.frm, .int .i64 m.dst, .int .i64 m.num, .int .i64 m.day, .int .i64 m.lot, .int .i64 m.oth, .string m.code, .string m.ctry, .int .i64 m.qty, .int .i64 m.amt, .slice m.LA m.ln m.lc, .string m.text]] w (HdlRes N w C m k)

set_option maxRecDepth 100000 in
set_option maxHeartbeats 8000000 in
theorem Handle37_of (H : Hds) (C : Cen) (m : Mg) (ls : List Int) (k : Nat) (w : World) (hA : CenAt w H C) (hI : CInv k C) (hk : k ≤ 100) (h : Ints w m.LA m.ln ls) (hh : HdlOf m ls k) :
    Calls Tryz.prog 12 #[.agg #[.slice H.s.A H.s.n H.s.c, .slice H.q.A H.q.n H.q.c, .slice H.g.A H.g.n H.g.c, .slice H.k.A H.k.n H.k.c, .slice H.m.A H.m.n H.m.c], .agg #[.int .i64 m.kind, .int .i64 m.frm, .int .i64 m.dst, .int .i64 m.num, .int .i64 m.day, .int .i64 m.lot, .int .i64 m.oth, .string m.code, .string m.ctry, .int .i64 m.qty, .int .i64 m.amt, .slice m.LA m.ln m.lc, .string m.text]] w (HndRes w C m k) := by
  have l1 : H.s.n ≤ 100000 := by have := hA.seen.recs.1; have := hI.seen; omega
  have l2 : H.q.n ≤ 1000 := by have := hA.qs.recs.1; have := hI.nq; omega
  have l3 : H.g.n ≤ 1000 := by have := hA.gs.recs.1; have := hI.ng; omega
  have l4 : H.k.n ≤ 100000 := by have := hA.cov.recs.1; have := hI.cov; omega
  have l5 : H.m.n ≤ 100000 := by have := hA.sent.recs.1; have := hI.sent; omega
  have l6 : ∀ b ∈ C.qs, b.n ≤ 1000 := fun b hb => by have := (hA.facts b hb).recs.1; have := (hI.books b hb).2; omega
  have l7 : ∀ g ∈ C.gs, g.n ≤ 1000 := fun g hg => by have := (hA.uses g hg).recs.1; have := (hI.guars g hg).len; omega
  obtain ⟨Hs, Hq, Hg, Hk, Hm⟩ := H
  obtain ⟨W0, hW0⟩ : ∃ W, W = ((w.alloc (.cells #[.slice Hs.A Hs.n Hs.c, .slice Hq.A Hq.n Hq.c, .slice Hg.A Hg.n Hg.c, .slice Hk.A Hk.n Hk.c, .slice Hm.A Hm.n Hm.c] 37)).alloc (.cells #[.int .i64 m.kind, .int .i64 m.frm, .int .i64 m.dst, .int .i64 m.num, .int .i64 m.day, .int .i64 m.lot, .int .i64 m.oth, .string m.code, .string m.ctry, .int .i64 m.qty, .int .i64 m.amt, .slice m.LA m.ln m.lc, .string m.text] 48)).alloc (.cells #[.slice none 0 0, .slice none 0 0, .slice none 0 0, .slice none 0 0, .slice none 0 0] 37) := ⟨_, rfl⟩
  have hx : Bl W0 w.heap.size 37 #[.slice Hs.A Hs.n Hs.c, .slice Hq.A Hq.n Hq.c, .slice Hg.A Hg.n Hg.c, .slice Hk.A Hk.n Hk.c, .slice Hm.A Hm.n Hm.c] := by rw [hW0]; exact ((Bl.new w _ _).alloc _).alloc _
  have hmb : Bl W0 (w.heap.size + 1) 48 #[.int .i64 m.kind, .int .i64 m.frm, .int .i64 m.dst, .int .i64 m.num, .int .i64 m.day, .int .i64 m.lot, .int .i64 m.oth, .string m.code, .string m.ctry, .int .i64 m.qty, .int .i64 m.amt, .slice m.LA m.ln m.lc, .string m.text] := by rw [hW0]; have := (Bl.new (w.alloc (.cells #[.slice Hs.A Hs.n Hs.c, .slice Hq.A Hq.n Hq.c, .slice Hg.A Hg.n Hg.c, .slice Hk.A Hk.n Hk.c, .slice Hm.A Hm.n Hm.c] 37)) 48 #[.int .i64 m.kind, .int .i64 m.frm, .int .i64 m.dst, .int .i64 m.num, .int .i64 m.day, .int .i64 m.lot, .int .i64 m.oth, .string m.code, .string m.ctry, .int .i64 m.qty, .int .i64 m.amt, .slice m.LA m.ln m.lc, .string m.text]).alloc (.cells #[.slice none 0 0, .slice none 0 0, .slice none 0 0, .slice none 0 0, .slice none 0 0] 37); simpa using this
  have hr : Bl W0 (w.heap.size + 1 + 1) 37 #[.slice none 0 0, .slice none 0 0, .slice none 0 0, .slice none 0 0, .slice none 0 0] := by rw [hW0]; have := Bl.new ((w.alloc (.cells #[.slice Hs.A Hs.n Hs.c, .slice Hq.A Hq.n Hq.c, .slice Hg.A Hg.n Hg.c, .slice Hk.A Hk.n Hk.c, .slice Hm.A Hm.n Hm.c] 37)).alloc (.cells #[.int .i64 m.kind, .int .i64 m.frm, .int .i64 m.dst, .int .i64 m.num, .int .i64 m.day, .int .i64 m.lot, .int .i64 m.oth, .string m.code, .string m.ctry, .int .i64 m.qty, .int .i64 m.amt, .slice m.LA m.ln m.lc, .string m.text] 48)) 37 #[.slice none 0 0, .slice none 0 0, .slice none 0 0, .slice none 0 0, .slice none 0 0]; simpa using this
  have hb0 : RowKit.Below w.heap.size w W0 := by rw [hW0]; exact (((Below.refl _ _).alloc (Nat.le_refl _) _).alloc (by simp) _).alloc (by simp; omega) _
  have HX0 := Lib.hid hx
  have HM0 := Lib.hid hmb
  have HR0 := Lib.hid hr
  have HB0 := Lib.hid hb0
  have HCC : Hid (∀ wx, RowKit.Below W0.heap.size W0 wx → Calls Tryz.prog 29 #[.agg #[.slice Hs.A Hs.n Hs.c, .slice Hq.A Hq.n Hq.c, .slice Hg.A Hg.n Hg.c, .slice Hk.A Hk.n Hk.c, .slice Hm.A Hm.n Hm.c]] wx fun e w' => ∃ (H' : Hds) (C1 : Cen), e = .returned (.agg #[.slice H'.s.A H'.s.n H'.s.c, .slice H'.q.A H'.q.n H'.q.c, .slice H'.g.A H'.g.n H'.g.c, .slice H'.k.A H'.k.n H'.k.c, .slice H'.m.A H'.m.n H'.m.c]) ∧ Hid (CenO W0.heap.size w' H' C1 ∧ CovApart H' C1 ∧ SameC C C1) ∧ Hid (RowKit.Below W0.heap.size W0 w')) := fun wx hb =>
    (clone37_any ⟨Hs, Hq, Hg, Hk, Hm⟩ C wx ((hA.below hb0).below hb) l1 l2 l3 l4 l5 l6 l7).mono fun e w' ⟨H', C1, h1, h2, h3, h4, h5⟩ => ⟨H', C1, h1, ⟨cenO_mono h2 hb.size, h3, h4⟩, hb.trans (h5.mono hb.size)⟩
  have HHH : Hid (∀ (H' : Hds) (C1 : Cen) (wx : World), (CenO W0.heap.size wx H' C1 ∧ CovApart H' C1 ∧ SameC C C1) → RowKit.Below W0.heap.size W0 wx → Calls Tryz.prog 28 #[.agg #[.slice H'.s.A H'.s.n H'.s.c, .slice H'.q.A H'.q.n H'.q.c, .slice H'.g.A H'.g.n H'.g.c, .slice H'.k.A H'.k.n H'.k.c, .slice H'.m.A H'.m.n H'.m.c], .agg #[.int .i64 m.kind, .int .i64 m.frm, .int .i64 m.dst, .int .i64 m.num, .int .i64 m.day, .int .i64 m.lot, .int .i64 m.oth, .string m.code, .string m.ctry, .int .i64 m.qty, .int .i64 m.amt, .slice m.LA m.ln m.lc, .string m.text]] wx fun e w' => ∃ (H2 : Hds) (C2 : Cen) (er : Int), e = .returned (.tuple #[.agg #[.slice H2.s.A H2.s.n H2.s.c, .slice H2.q.A H2.q.n H2.q.c, .slice H2.g.A H2.g.n H2.g.c, .slice H2.k.A H2.k.n H2.k.c, .slice H2.m.A H2.m.n H2.m.c], .int .i64 er]) ∧ Hid (CenO W0.heap.size w' H2 C2 ∧ CInv (k + 1) C2 ∧ AwHx C m er C2) ∧ Hid (RowKit.Below W0.heap.size W0 w') ∧ Hid (Bl w' (w.heap.size + 1 + 1) 37 #[.slice none 0 0, .slice none 0 0, .slice none 0 0, .slice none 0 0, .slice none 0 0])) := fun H' C1 wx ⟨h1, h2, h3⟩ hb =>
    (hh W0.heap.size H' C1 wx h1 h2 hb.size (hI.same h3) ((h.below hb0).below hb)).mono fun e w' ⟨H2, C2, er, g1, g2, g3, g4, g5⟩ => ⟨H2, C2, er, g1, ⟨g2, g3, g5.same h3⟩, hb.trans g4, (HR0.out.keep (hb.trans g4))⟩
  have hv1 : Hid (RowKit.Below W0.heap.size W0 W0.drew) := (Below.refl _ _).drew
  have HKS : Hid (∀ wx, RowKit.Below W0.heap.size W0 wx → wx.cell? ⟨w.heap.size, 0, none⟩ = some (.slice Hs.A Hs.n Hs.c) ∧ wx.cell? ⟨w.heap.size, 1, none⟩ = some (.slice Hq.A Hq.n Hq.c) ∧ wx.cell? ⟨w.heap.size, 2, none⟩ = some (.slice Hg.A Hg.n Hg.c) ∧ wx.cell? ⟨w.heap.size, 3, none⟩ = some (.slice Hk.A Hk.n Hk.c) ∧ wx.cell? ⟨w.heap.size, 4, none⟩ = some (.slice Hm.A Hm.n Hm.c) ∧ wx.cell? ⟨w.heap.size + 1, 0, none⟩ = some (.int .i64 m.kind) ∧ wx.cell? ⟨w.heap.size + 1, 1, none⟩ = some (.int .i64 m.frm) ∧ wx.cell? ⟨w.heap.size + 1, 2, none⟩ = some (.int .i64 m.dst) ∧ wx.cell? ⟨w.heap.size + 1, 3, none⟩ = some (.int .i64 m.num) ∧ wx.cell? ⟨w.heap.size + 1, 4, none⟩ = some (.int .i64 m.day) ∧ wx.cell? ⟨w.heap.size + 1, 5, none⟩ = some (.int .i64 m.lot) ∧ wx.cell? ⟨w.heap.size + 1, 6, none⟩ = some (.int .i64 m.oth) ∧ wx.cell? ⟨w.heap.size + 1, 7, none⟩ = some (.string m.code) ∧ wx.cell? ⟨w.heap.size + 1, 8, none⟩ = some (.string m.ctry) ∧ wx.cell? ⟨w.heap.size + 1, 9, none⟩ = some (.int .i64 m.qty) ∧ wx.cell? ⟨w.heap.size + 1, 10, none⟩ = some (.int .i64 m.amt) ∧ wx.cell? ⟨w.heap.size + 1, 11, none⟩ = some (.slice m.LA m.ln m.lc) ∧ wx.cell? ⟨w.heap.size + 1, 12, none⟩ = some (.string m.text)) := fun wx hb => ⟨(HX0.out.keep hb).c0, (HX0.out.keep hb).c1, (HX0.out.keep hb).c2, (HX0.out.keep hb).c3, (HX0.out.keep hb).c4, (HM0.out.keep hb).cell 0, (HM0.out.keep hb).cell 1, (HM0.out.keep hb).cell 2, (HM0.out.keep hb).cell 3, (HM0.out.keep hb).cell 4, (HM0.out.keep hb).cell 5, (HM0.out.keep hb).cell 6, (HM0.out.keep hb).cell 7, (HM0.out.keep hb).cell 8, (HM0.out.keep hb).cell 9, (HM0.out.keep hb).cell 10, (HM0.out.keep hb).cell 11, (HM0.out.keep hb).cell 12⟩
  have HKT : Hid (∀ wx v0 v1 v2 v3 v4, RowKit.Below W0.heap.size W0 wx → (((((wx.setCell ⟨w.heap.size + 1 + 1, 0, none⟩ v0).setCell ⟨w.heap.size + 1 + 1, 1, none⟩ v1).setCell ⟨w.heap.size + 1 + 1, 2, none⟩ v2).setCell ⟨w.heap.size + 1 + 1, 3, none⟩ v3).setCell ⟨w.heap.size + 1 + 1, 4, none⟩ v4).cell? ⟨w.heap.size, 0, none⟩ = some (.slice Hs.A Hs.n Hs.c) ∧ (((((wx.setCell ⟨w.heap.size + 1 + 1, 0, none⟩ v0).setCell ⟨w.heap.size + 1 + 1, 1, none⟩ v1).setCell ⟨w.heap.size + 1 + 1, 2, none⟩ v2).setCell ⟨w.heap.size + 1 + 1, 3, none⟩ v3).setCell ⟨w.heap.size + 1 + 1, 4, none⟩ v4).cell? ⟨w.heap.size, 1, none⟩ = some (.slice Hq.A Hq.n Hq.c) ∧ (((((wx.setCell ⟨w.heap.size + 1 + 1, 0, none⟩ v0).setCell ⟨w.heap.size + 1 + 1, 1, none⟩ v1).setCell ⟨w.heap.size + 1 + 1, 2, none⟩ v2).setCell ⟨w.heap.size + 1 + 1, 3, none⟩ v3).setCell ⟨w.heap.size + 1 + 1, 4, none⟩ v4).cell? ⟨w.heap.size, 2, none⟩ = some (.slice Hg.A Hg.n Hg.c) ∧ (((((wx.setCell ⟨w.heap.size + 1 + 1, 0, none⟩ v0).setCell ⟨w.heap.size + 1 + 1, 1, none⟩ v1).setCell ⟨w.heap.size + 1 + 1, 2, none⟩ v2).setCell ⟨w.heap.size + 1 + 1, 3, none⟩ v3).setCell ⟨w.heap.size + 1 + 1, 4, none⟩ v4).cell? ⟨w.heap.size, 3, none⟩ = some (.slice Hk.A Hk.n Hk.c) ∧ (((((wx.setCell ⟨w.heap.size + 1 + 1, 0, none⟩ v0).setCell ⟨w.heap.size + 1 + 1, 1, none⟩ v1).setCell ⟨w.heap.size + 1 + 1, 2, none⟩ v2).setCell ⟨w.heap.size + 1 + 1, 3, none⟩ v3).setCell ⟨w.heap.size + 1 + 1, 4, none⟩ v4).cell? ⟨w.heap.size, 4, none⟩ = some (.slice Hm.A Hm.n Hm.c) ∧ (((((wx.setCell ⟨w.heap.size + 1 + 1, 0, none⟩ v0).setCell ⟨w.heap.size + 1 + 1, 1, none⟩ v1).setCell ⟨w.heap.size + 1 + 1, 2, none⟩ v2).setCell ⟨w.heap.size + 1 + 1, 3, none⟩ v3).setCell ⟨w.heap.size + 1 + 1, 4, none⟩ v4).cell? ⟨w.heap.size + 1, 0, none⟩ = some (.int .i64 m.kind) ∧ (((((wx.setCell ⟨w.heap.size + 1 + 1, 0, none⟩ v0).setCell ⟨w.heap.size + 1 + 1, 1, none⟩ v1).setCell ⟨w.heap.size + 1 + 1, 2, none⟩ v2).setCell ⟨w.heap.size + 1 + 1, 3, none⟩ v3).setCell ⟨w.heap.size + 1 + 1, 4, none⟩ v4).cell? ⟨w.heap.size + 1, 1, none⟩ = some (.int .i64 m.frm) ∧ (((((wx.setCell ⟨w.heap.size + 1 + 1, 0, none⟩ v0).setCell ⟨w.heap.size + 1 + 1, 1, none⟩ v1).setCell ⟨w.heap.size + 1 + 1, 2, none⟩ v2).setCell ⟨w.heap.size + 1 + 1, 3, none⟩ v3).setCell ⟨w.heap.size + 1 + 1, 4, none⟩ v4).cell? ⟨w.heap.size + 1, 2, none⟩ = some (.int .i64 m.dst) ∧ (((((wx.setCell ⟨w.heap.size + 1 + 1, 0, none⟩ v0).setCell ⟨w.heap.size + 1 + 1, 1, none⟩ v1).setCell ⟨w.heap.size + 1 + 1, 2, none⟩ v2).setCell ⟨w.heap.size + 1 + 1, 3, none⟩ v3).setCell ⟨w.heap.size + 1 + 1, 4, none⟩ v4).cell? ⟨w.heap.size + 1, 3, none⟩ = some (.int .i64 m.num) ∧ (((((wx.setCell ⟨w.heap.size + 1 + 1, 0, none⟩ v0).setCell ⟨w.heap.size + 1 + 1, 1, none⟩ v1).setCell ⟨w.heap.size + 1 + 1, 2, none⟩ v2).setCell ⟨w.heap.size + 1 + 1, 3, none⟩ v3).setCell ⟨w.heap.size + 1 + 1, 4, none⟩ v4).cell? ⟨w.heap.size + 1, 4, none⟩ = some (.int .i64 m.day) ∧ (((((wx.setCell ⟨w.heap.size + 1 + 1, 0, none⟩ v0).setCell ⟨w.heap.size + 1 + 1, 1, none⟩ v1).setCell ⟨w.heap.size + 1 + 1, 2, none⟩ v2).setCell ⟨w.heap.size + 1 + 1, 3, none⟩ v3).setCell ⟨w.heap.size + 1 + 1, 4, none⟩ v4).cell? ⟨w.heap.size + 1, 5, none⟩ = some (.int .i64 m.lot) ∧ (((((wx.setCell ⟨w.heap.size + 1 + 1, 0, none⟩ v0).setCell ⟨w.heap.size + 1 + 1, 1, none⟩ v1).setCell ⟨w.heap.size + 1 + 1, 2, none⟩ v2).setCell ⟨w.heap.size + 1 + 1, 3, none⟩ v3).setCell ⟨w.heap.size + 1 + 1, 4, none⟩ v4).cell? ⟨w.heap.size + 1, 6, none⟩ = some (.int .i64 m.oth) ∧ (((((wx.setCell ⟨w.heap.size + 1 + 1, 0, none⟩ v0).setCell ⟨w.heap.size + 1 + 1, 1, none⟩ v1).setCell ⟨w.heap.size + 1 + 1, 2, none⟩ v2).setCell ⟨w.heap.size + 1 + 1, 3, none⟩ v3).setCell ⟨w.heap.size + 1 + 1, 4, none⟩ v4).cell? ⟨w.heap.size + 1, 7, none⟩ = some (.string m.code) ∧ (((((wx.setCell ⟨w.heap.size + 1 + 1, 0, none⟩ v0).setCell ⟨w.heap.size + 1 + 1, 1, none⟩ v1).setCell ⟨w.heap.size + 1 + 1, 2, none⟩ v2).setCell ⟨w.heap.size + 1 + 1, 3, none⟩ v3).setCell ⟨w.heap.size + 1 + 1, 4, none⟩ v4).cell? ⟨w.heap.size + 1, 8, none⟩ = some (.string m.ctry) ∧ (((((wx.setCell ⟨w.heap.size + 1 + 1, 0, none⟩ v0).setCell ⟨w.heap.size + 1 + 1, 1, none⟩ v1).setCell ⟨w.heap.size + 1 + 1, 2, none⟩ v2).setCell ⟨w.heap.size + 1 + 1, 3, none⟩ v3).setCell ⟨w.heap.size + 1 + 1, 4, none⟩ v4).cell? ⟨w.heap.size + 1, 9, none⟩ = some (.int .i64 m.qty) ∧ (((((wx.setCell ⟨w.heap.size + 1 + 1, 0, none⟩ v0).setCell ⟨w.heap.size + 1 + 1, 1, none⟩ v1).setCell ⟨w.heap.size + 1 + 1, 2, none⟩ v2).setCell ⟨w.heap.size + 1 + 1, 3, none⟩ v3).setCell ⟨w.heap.size + 1 + 1, 4, none⟩ v4).cell? ⟨w.heap.size + 1, 10, none⟩ = some (.int .i64 m.amt) ∧ (((((wx.setCell ⟨w.heap.size + 1 + 1, 0, none⟩ v0).setCell ⟨w.heap.size + 1 + 1, 1, none⟩ v1).setCell ⟨w.heap.size + 1 + 1, 2, none⟩ v2).setCell ⟨w.heap.size + 1 + 1, 3, none⟩ v3).setCell ⟨w.heap.size + 1 + 1, 4, none⟩ v4).cell? ⟨w.heap.size + 1, 11, none⟩ = some (.slice m.LA m.ln m.lc) ∧ (((((wx.setCell ⟨w.heap.size + 1 + 1, 0, none⟩ v0).setCell ⟨w.heap.size + 1 + 1, 1, none⟩ v1).setCell ⟨w.heap.size + 1 + 1, 2, none⟩ v2).setCell ⟨w.heap.size + 1 + 1, 3, none⟩ v3).setCell ⟨w.heap.size + 1 + 1, 4, none⟩ v4).cell? ⟨w.heap.size + 1, 12, none⟩ = some (.string m.text)) := fun wx v0 v1 v2 v3 v4 hb => ⟨((HX0.out.keep hb).far5 (by omega) _ _ _ _ _).c0, ((HX0.out.keep hb).far5 (by omega) _ _ _ _ _).c1, ((HX0.out.keep hb).far5 (by omega) _ _ _ _ _).c2, ((HX0.out.keep hb).far5 (by omega) _ _ _ _ _).c3, ((HX0.out.keep hb).far5 (by omega) _ _ _ _ _).c4, ((HM0.out.keep hb).far5 (by omega) _ _ _ _ _).cell 0, ((HM0.out.keep hb).far5 (by omega) _ _ _ _ _).cell 1, ((HM0.out.keep hb).far5 (by omega) _ _ _ _ _).cell 2, ((HM0.out.keep hb).far5 (by omega) _ _ _ _ _).cell 3, ((HM0.out.keep hb).far5 (by omega) _ _ _ _ _).cell 4, ((HM0.out.keep hb).far5 (by omega) _ _ _ _ _).cell 5, ((HM0.out.keep hb).far5 (by omega) _ _ _ _ _).cell 6, ((HM0.out.keep hb).far5 (by omega) _ _ _ _ _).cell 7, ((HM0.out.keep hb).far5 (by omega) _ _ _ _ _).cell 8, ((HM0.out.keep hb).far5 (by omega) _ _ _ _ _).cell 9, ((HM0.out.keep hb).far5 (by omega) _ _ _ _ _).cell 10, ((HM0.out.keep hb).far5 (by omega) _ _ _ _ _).cell 11, ((HM0.out.keep hb).far5 (by omega) _ _ _ _ _).cell 12⟩
  clear hA hI hk h hh l1 l2 l3 l4 l5 l6 l7 hx hmb hr hb0
  go_enter Tryz.func12, Tryz.ntmps12
  go_upto_region 1 with (fail)
  rw [← hW0]
  clear hW0
  have x0 : W0.cell? ⟨w.heap.size, 0, none⟩ = some (.slice Hs.A Hs.n Hs.c) := HX0.out.c0
  have x1 : W0.cell? ⟨w.heap.size, 1, none⟩ = some (.slice Hq.A Hq.n Hq.c) := HX0.out.c1
  have x2 : W0.cell? ⟨w.heap.size, 2, none⟩ = some (.slice Hg.A Hg.n Hg.c) := HX0.out.c2
  have x3 : W0.cell? ⟨w.heap.size, 3, none⟩ = some (.slice Hk.A Hk.n Hk.c) := HX0.out.c3
  have x4 : W0.cell? ⟨w.heap.size, 4, none⟩ = some (.slice Hm.A Hm.n Hm.c) := HX0.out.c4
  have y0 : W0.cell? ⟨w.heap.size + 1, 0, none⟩ = some (.int .i64 m.kind) := HM0.out.cell 0
  have y1 : W0.cell? ⟨w.heap.size + 1, 1, none⟩ = some (.int .i64 m.frm) := HM0.out.cell 1
  have y2 : W0.cell? ⟨w.heap.size + 1, 2, none⟩ = some (.int .i64 m.dst) := HM0.out.cell 2
  have y3 : W0.cell? ⟨w.heap.size + 1, 3, none⟩ = some (.int .i64 m.num) := HM0.out.cell 3
  have y4 : W0.cell? ⟨w.heap.size + 1, 4, none⟩ = some (.int .i64 m.day) := HM0.out.cell 4
  have y5 : W0.cell? ⟨w.heap.size + 1, 5, none⟩ = some (.int .i64 m.lot) := HM0.out.cell 5
  have y6 : W0.cell? ⟨w.heap.size + 1, 6, none⟩ = some (.int .i64 m.oth) := HM0.out.cell 6
  have y7 : W0.cell? ⟨w.heap.size + 1, 7, none⟩ = some (.string m.code) := HM0.out.cell 7
  have y8 : W0.cell? ⟨w.heap.size + 1, 8, none⟩ = some (.string m.ctry) := HM0.out.cell 8
  have y9 : W0.cell? ⟨w.heap.size + 1, 9, none⟩ = some (.int .i64 m.qty) := HM0.out.cell 9
  have y10 : W0.cell? ⟨w.heap.size + 1, 10, none⟩ = some (.int .i64 m.amt) := HM0.out.cell 10
  have y11 : W0.cell? ⟨w.heap.size + 1, 11, none⟩ = some (.slice m.LA m.ln m.lc) := HM0.out.cell 11
  have y12 : W0.cell? ⟨w.heap.size + 1, 12, none⟩ = some (.string m.text) := HM0.out.cell 12
  go_region_held3 (fun w' => w'.cell? ⟨w.heap.size, 0, none⟩ = some (.slice Hs.A Hs.n Hs.c) ∧ w'.cell? ⟨w.heap.size, 1, none⟩ = some (.slice Hq.A Hq.n Hq.c) ∧ w'.cell? ⟨w.heap.size, 2, none⟩ = some (.slice Hg.A Hg.n Hg.c) ∧ w'.cell? ⟨w.heap.size, 3, none⟩ = some (.slice Hk.A Hk.n Hk.c) ∧ w'.cell? ⟨w.heap.size, 4, none⟩ = some (.slice Hm.A Hm.n Hm.c) ∧ w'.cell? ⟨w.heap.size + 1, 0, none⟩ = some (.int .i64 m.kind) ∧ w'.cell? ⟨w.heap.size + 1, 1, none⟩ = some (.int .i64 m.frm) ∧ w'.cell? ⟨w.heap.size + 1, 2, none⟩ = some (.int .i64 m.dst) ∧ w'.cell? ⟨w.heap.size + 1, 3, none⟩ = some (.int .i64 m.num) ∧ w'.cell? ⟨w.heap.size + 1, 4, none⟩ = some (.int .i64 m.day) ∧ w'.cell? ⟨w.heap.size + 1, 5, none⟩ = some (.int .i64 m.lot) ∧ w'.cell? ⟨w.heap.size + 1, 6, none⟩ = some (.int .i64 m.oth) ∧ w'.cell? ⟨w.heap.size + 1, 7, none⟩ = some (.string m.code) ∧ w'.cell? ⟨w.heap.size + 1, 8, none⟩ = some (.string m.ctry) ∧ w'.cell? ⟨w.heap.size + 1, 9, none⟩ = some (.int .i64 m.qty) ∧ w'.cell? ⟨w.heap.size + 1, 10, none⟩ = some (.int .i64 m.amt) ∧ w'.cell? ⟨w.heap.size + 1, 11, none⟩ = some (.slice m.LA m.ln m.lc) ∧ w'.cell? ⟨w.heap.size + 1, 12, none⟩ = some (.string m.text))
    (first
      | with_reducible exact HKT.out _ _ _ _ _ _ hv3.out
      | with_reducible exact HKS.out _ hv3.out
      | with_reducible exact HKS.out _ hv2.out
      | with_reducible exact HKS.out _ hv1.out
      | go_keep)
    (first
      | (go_at_call 29; (with_reducible refine (HCC.out _ hv1.out).mono ?_); rintro e w1 ⟨H', C1, rfl, hc1, hv2⟩)
      | (go_at_call 28; (with_reducible refine (HHH.out _ _ _ hc1.out hv2.out).mono ?_); rintro e w2 ⟨H2, C2, er, rfl, hc2, hv3, hr3⟩; have r0 : w2.cell? ⟨w.heap.size + 1 + 1, 0, none⟩ = some (.slice none 0 0) := hr3.out.c0; have rf0 : w2.frozen? ⟨w.heap.size + 1 + 1, 0, none⟩ = false := hr3.out.free 0; have r1 : w2.cell? ⟨w.heap.size + 1 + 1, 1, none⟩ = some (.slice none 0 0) := hr3.out.c1; have rf1 : w2.frozen? ⟨w.heap.size + 1 + 1, 1, none⟩ = false := hr3.out.free 1; have r2 : w2.cell? ⟨w.heap.size + 1 + 1, 2, none⟩ = some (.slice none 0 0) := hr3.out.c2; have rf2 : w2.frozen? ⟨w.heap.size + 1 + 1, 2, none⟩ = false := hr3.out.free 2; have r3 : w2.cell? ⟨w.heap.size + 1 + 1, 3, none⟩ = some (.slice none 0 0) := hr3.out.c3; have rf3 : w2.frozen? ⟨w.heap.size + 1 + 1, 3, none⟩ = false := hr3.out.free 3; have r4 : w2.cell? ⟨w.heap.size + 1 + 1, 4, none⟩ = some (.slice none 0 0) := hr3.out.c4; have rf4 : w2.frozen? ⟨w.heap.size + 1 + 1, 4, none⟩ = false := hr3.out.free 4))
  go_wp2
  refine bodyPost_ret (v := .tuple #[.agg #[.slice H2.s.A H2.s.n H2.s.c, .slice H2.q.A H2.q.n H2.q.c, .slice H2.g.A H2.g.n H2.g.c, .slice H2.k.A H2.k.n H2.k.c, .slice H2.m.A H2.m.n H2.m.c], .int .i64 er]) (by simp [results, Tryz.results12, go_sem, r0, r1, r2, r3, r4]) rfl ?_
  exact ⟨H2, C2, er, rfl, cenO_mono (hc2.out.1.far hr3.out (fun b hb => heap_set5 hb _ _ _ _ _)) HB0.out.size, hc2.out.2.1, put5 (HB0.out.trans (hv3.out.mono HB0.out.size)) (by omega) _ _ _ _ _, hc2.out.2.2⟩
end Go.Proofs.YtdbcbbiplkikcaaGreat

/-
  The contract of quotabook.changes. No statement of the seat is proved here. Conditions: both books' facts are in range.
  Facts in order of their numbers: the insertion of one. No statement of the seat is proved here.
  The reference's list of requests as a plain list: first the requests, then their effective quantities. No statement of the seat is proved here.
  The reference's days as plain lists: day after day, as the settlement runs. No statement of the seat is proved here.
  Every book can be settled. No statement of the seat is proved here.
-/
import Derived.Test.YtemhiifgplaldaaGreatMAJ
namespace Go.Proofs.YtemhiifgplaldaaGreat
open Go.RowKit Go.Maps
set_option linter.unusedVariables false

theorem ownsMap_keep {H : Type} {P : Program} {k : TypeId} {R : Value → Option (DataW H × List MemPlace)} {w w' : World} {b n : Nat} {D : DataW H} (h : w.ownsMap P k R b n D) (hb : RowKit.Below w.heap.size w w') : w'.ownsMap P k R b n D := by
  have hl := h.lt
  obtain ⟨es, clock, h1, h2⟩ := h
  exact ⟨es, clock, (hb.block b hl).trans h1, h2⟩
/-- The grant of an ID, 0 where there is none. -/
def grOf (gs : List Rq) (id : Int) : Int := gs.foldl (fun a r => if r.id = id then r.grant else a) 0
theorem grOf_snoc (gs : List Rq) (r : Rq) (id : Int) : grOf (gs ++ [r]) id = if r.id = id then r.grant else grOf gs id := by simp [grOf, List.foldl_append]
structure Cg where
  id : Int
  before : Int
  after : Int
deriving Inhabited, DecidableEq
def encG (x : Cg) : List Value := [.int .i64 x.id, .int .i64 x.before, .int .i64 x.after]
theorem encG_len (x : Cg) : (encG x).length = 3 := rfl
theorem encG_one (x : Cg) : ∀ v ∈ encG x, v.oneCell' = true := fun v hv => by
  simp [encG] at hv
  rcases hv with rfl | rfl | rfl <;> rfl
/-- The changes from one list of grants to another. -/
def chgs (ga gb : List Rq) : List Cg := gb.filterMap fun r => if grOf ga r.id = r.grant then none else some ⟨r.id, grOf ga r.id, r.grant⟩
theorem chgs_snoc (ga gb : List Rq) (r : Rq) : chgs ga (gb ++ [r]) = chgs ga gb ++ if grOf ga r.id = r.grant then [] else [⟨r.id, grOf ga r.id, r.grant⟩] := by
  unfold chgs
  rw [List.filterMap_append]
  congr 1
  by_cases e : grOf ga r.id = r.grant <;> simp [e]
theorem Recs.getR {w : World} {A : Option Addr} {n : Nat} {xs : List Rq} (h : Recs encR 6 w A n xs) {i : Nat} (hi : i < n) :
    ∃ b off x, A = some ⟨b, off, none⟩ ∧ b < w.heap.size ∧ w.cell? ⟨b, off + i * 6, none⟩ = some (.int .i64 x.id) ∧ w.cell? ⟨b, off + i * 6 + 1, none⟩ = some (.int .i64 x.day) ∧ w.cell? ⟨b, off + i * 6 + 2, none⟩ = some (.int .i64 x.avail) ∧ w.cell? ⟨b, off + i * 6 + 3, none⟩ = some (.int .i64 x.asked) ∧ w.cell? ⟨b, off + i * 6 + 4, none⟩ = some (.int .i64 x.req) ∧ w.cell? ⟨b, off + i * 6 + 5, none⟩ = some (.int .i64 x.grant) ∧ Hid (xs[i]! = x) := by
  obtain ⟨b, off, e, hb, hc⟩ := h.at_ hi
  exact ⟨b, off, xs[i]!, e, hb, hc 0 (by omega), hc 1 (by omega), hc 2 (by omega), hc 3 (by omega), hc 4 (by omega), hc 5 (by omega), rfl⟩
theorem infoG3 : (Tryz.prog.info? 58).map (fun i => (i.zero, i.size, i.bytes)) = some (some (.agg #[.int .i64 0, .int .i64 0, .int .i64 0]), 3, 24) := by kernel_rfl
/-- What changes returns. -/
def ChgRes (w : World) (fa fb : List Fct) (va vb : Int) (e : Ending) (w' : World) : Prop := ∃ (B : Option Addr) (m d : Nat) (ga gb : List Rq) (ba bb : Int), e = .returned (.slice B m d) ∧ Settled fa va ga ba ∧ Settled fb vb gb bb ∧ (chgs ga gb).length = m ∧ w'.ownsRow w.heap.size 58 3 (.slice B m d) m (flat encG (chgs ga gb)) ∧ RowKit.Below w.heap.size w w'
/-- Facts that settle takes. -/
structure FGood (fs : List Fct) (vol : Int) : Prop where
  len : fs.length ≤ 200
  ok : ∀ x ∈ fs, FOk x
  ids : ∀ x ∈ fs, x.kind = 1 → 1 ≤ x.id
  v0 : 0 ≤ vol
  v1 : vol ≤ 100000000000

set_option maxRecDepth 100000 in
set_option maxHeartbeats 8000000 in
theorem changes_any (qa va fra ta : Int) (A : Option Addr) (n c : Nat) (fa : List Fct) (qb vb frb tb : Int) (A2 : Option Addr) (n2 c2 : Nat) (fb : List Fct) (w : World) (h : Recs encF 5 w A n fa) (h2 : Recs encF 5 w A2 n2 fb) (hga : FGood fa va) (hgb : FGood fb vb) :
    Calls Tryz.prog 37 #[.agg #[.int .i64 qa, .int .i64 va, .int .i64 fra, .int .i64 ta, .slice A n c], .agg #[.int .i64 qb, .int .i64 vb, .int .i64 frb, .int .i64 tb, .slice A2 n2 c2]] w (ChgRes w fa fb va vb) := by
  have HGA := Lib.hid hga
  have HGB := Lib.hid hgb
  have hmm := @run_makeMap Tryz.prog
  obtain ⟨W0, hW0⟩ : ∃ W, W = (w.alloc (.cells #[.int .i64 qa, .int .i64 va, .int .i64 fra, .int .i64 ta, .slice A n c] 27)).alloc (.cells #[.int .i64 qb, .int .i64 vb, .int .i64 frb, .int .i64 tb, .slice A2 n2 c2] 27) := ⟨_, rfl⟩
  have hb0 : RowKit.Below w.heap.size w W0 := by rw [hW0]; exact ((Below.refl _ _).alloc (Nat.le_refl _) _).alloc (by simp) _
  have hx0 : Bl W0 w.heap.size 27 #[.int .i64 qa, .int .i64 va, .int .i64 fra, .int .i64 ta, .slice A n c] := by rw [hW0]; exact (Bl.new w _ _).alloc _
  have hy0 : Bl W0 (w.heap.size + 1) 27 #[.int .i64 qb, .int .i64 vb, .int .i64 frb, .int .i64 tb, .slice A2 n2 c2] := by rw [hW0]; have := Bl.new (w.alloc (.cells #[.int .i64 qa, .int .i64 va, .int .i64 fra, .int .i64 ta, .slice A n c] 27)) 27 #[.int .i64 qb, .int .i64 vb, .int .i64 frb, .int .i64 tb, .slice A2 n2 c2]; simpa using this
  have hra := h.below hb0
  have hrb := h2.below hb0
  have hW0s : W0.heap.size = w.heap.size + 2 := by rw [hW0]; simp
  clear h h2 hga hgb
  go_enter Tryz.func37, Tryz.ntmps37
  go_upto_region 1 with (fail)
  rw [← hW0]
  clear hW0
  have p0 : W0.cell? ⟨w.heap.size, 0, none⟩ = some (.int .i64 qa) := hx0.cell 0
  have p1 : W0.cell? ⟨w.heap.size, 1, none⟩ = some (.int .i64 va) := hx0.cell 1
  have p2 : W0.cell? ⟨w.heap.size, 2, none⟩ = some (.int .i64 fra) := hx0.cell 2
  have p3 : W0.cell? ⟨w.heap.size, 3, none⟩ = some (.int .i64 ta) := hx0.cell 3
  have p4 : W0.cell? ⟨w.heap.size, 4, none⟩ = some (.slice A n c) := hx0.cell 4
  have HS := Lib.hid (settle_any qa va fra ta A n c fa W0 hra (by have := HGA.out.len; have := hra.1; omega) HGA.out.ok HGA.out.ids HGA.out.v0 HGA.out.v1)
  go_wp2_with fail
  refine HS.out.mono ?_
  intro e w1 hres
  obtain ⟨B1, m1, d1, ga, ba, rfl, hst, hgl, hm1, ho1, hb1⟩ := hres.settled
  clear HS hres p0 p1 p2 p3 p4 hx0
  have hw1 := hb1.size
  have HST := Lib.hid hst
  have HLW := Lib.hid (hst.law HGA.out.ok HGA.out.ids HGA.out.v0)
  have hm200 : m1 ≤ 200 := by have := HGA.out.len; omega
  have hr1 : Recs encR 6 w1 B1 m1 ga := Recs.of_own encR_len ho1 hgl
  have hy1 := hy0.keep hb1
  have hrb1 := hrb.below hb1
  have hB1 := hb0.trans (hb1.mono (by omega))
  have HOM := Lib.hid (World.ownsMap_made w1 Tryz.prog 3 (plainElem (H := Unit) Tryz.prog 3))
  clear ho1 hst hy0 hrb hb1 hra
  go_wp2
  clear hmm
  go_loopw [23] (fun i wx => ∃ (k : Nat) (D : DataW Unit), k ≤ m1 ∧ i = .int .i64 k ∧ wx.ownsMap Tryz.prog 3 (plainElem Tryz.prog 3) w1.heap.size k D ∧ Hid (∀ id : Int, D.atKey (.int .i64 id) (.lit (.int .i64 0)) = .lit (.int .i64 (grOf (ga.take k) id))) ∧ RowKit.Below w1.heap.size w1 wx) (fun i _ => m1 - (intOf i).toNat)
  case atStart => exact ⟨0, _, Nat.zero_le _, rfl, HOM.out, fun _ => rfl, (Below.refl _ _).alloc (Nat.le_refl _) _⟩
  case round =>
    clear HOM
    obtain ⟨k, D, hk, rfl, hO, HM, hb⟩ := hrel
    by_cases hlt : k < m1
    · obtain ⟨b, off, x, hB, hbl, c0, c1, c2, c3, c4, c5, HX⟩ := (hr1.below hb).getR hlt
      subst hB
      have hxm : x ∈ ga := by have := HX.out; rw [← this, getElem!_pos ga k (by omega)]; exact List.getElem_mem _
      obtain ⟨o1, o2, o3, o4, o5, o6⟩ := HLW.out.each x hxm
      clear o6
      have HKEY : Hid (keyOf Tryz.prog 3 (.int .i64 x.id) = some (.int .i64 x.id)) := keyOf_int_mk Tryz.underlying3 (wf_small (by omega) (by omega))
      have HWF : Hid (plainElem (H := Unit) Tryz.prog 3 (.int .i64 x.grant) = some (.lit (.int .i64 x.grant), [])) := plainElem_int Tryz.underlying3 (wf_small (by omega) (by omega))
      have HP : Hid (∀ id : Int, (D.put (.int .i64 x.id) (.lit (.int .i64 x.grant))).atKey (.int .i64 id) (.lit (.int .i64 0)) = .lit (.int .i64 (grOf (ga.take (k + 1)) id))) := by
        intro id
        rw [List.take_succ_eq_append_getElem (by omega), grOf_snoc]
        have hx := HX.out
        rw [getElem!_pos ga k (by omega)] at hx
        rw [hx]
        by_cases e : id = x.id
        · subst e
          rw [if_pos rfl]
          exact atKey_put_same hO.isMap (key_lit _) _ _
        · rw [atKey_put_other (lit_ne e), if_neg (fun q => e q.symm)]
          exact HM.out id
      have hb4 : RowKit.Below w1.heap.size w1 (wr.alloc (.cells #[.int .i64 x.id, .int .i64 x.day, .int .i64 x.avail, .int .i64 x.asked, .int .i64 x.req, .int .i64 x.grant] 64)) := hb.alloc hb.size _
      have hx4 := Bl.new wr 64 #[.int .i64 x.id, .int .i64 x.day, .int .i64 x.avail, .int .i64 x.asked, .int .i64 x.req, .int .i64 x.grant]
      have HO4 := Lib.hid (hO.alloc (.cells #[.int .i64 x.id, .int .i64 x.day, .int .i64 x.avail, .int .i64 x.asked, .int .i64 x.req, .int .i64 x.grant] 64))
      clear hO
      go_upto_region 6 with (fail)
      clear c0 c1 c2 c3 c4 c5
      generalize wr.alloc (.cells #[.int .i64 x.id, .int .i64 x.day, .int .i64 x.avail, .int .i64 x.asked, .int .i64 x.req, .int .i64 x.grant] 64) = W4 at *
      generalize wr.heap.size = g4 at *
      have q0 : W4.cell? ⟨g4, 0, none⟩ = some (.int .i64 x.id) := hx4.cell 0
      have q5 : W4.cell? ⟨g4, 5, none⟩ = some (.int .i64 x.grant) := hx4.cell 5
      clear hb hbl
      go_wp2_with (at_mapUpdate; refine wpList_mapUpdate_own _ rfl _ _ _ 97 rfl 3 3 klawI Tryz.underlying97 _ w1.heap.size k _ rfl HO4.out (by unfold maxLen; omega) _ _ _ rfl rfl HKEY.out _ [] HWF.out ?_; intro w6 ho6 hg6)
      have HB6 : Hid (RowKit.Below w1.heap.size w1 w6) := hb4.grown hg6 hb4.size (fun j hj => by cases hj; omega)
      clear hg6
      go_roundw
      case rel => exact ⟨k + 1, _, by omega, by go_num, ho6, HP, HB6.out⟩
      case measure => simp [intOf]; omega
    · obtain rfl : m1 = k := by omega
      rw [List.take_of_length_le (by omega)] at HM
      have hy2 := hy1.keep hb
      have hrb2 := hrb1.below hb
      have hB2 := hB1.trans (hb.mono hB1.size)
      have p0 : wr.cell? ⟨w.heap.size + 1, 0, none⟩ = some (.int .i64 qb) := hy2.cell 0
      have p1 : wr.cell? ⟨w.heap.size + 1, 1, none⟩ = some (.int .i64 vb) := hy2.cell 1
      have p2 : wr.cell? ⟨w.heap.size + 1, 2, none⟩ = some (.int .i64 frb) := hy2.cell 2
      have p3 : wr.cell? ⟨w.heap.size + 1, 3, none⟩ = some (.int .i64 tb) := hy2.cell 3
      have p4 : wr.cell? ⟨w.heap.size + 1, 4, none⟩ = some (.slice A2 n2 c2) := hy2.cell 4
      have HS := Lib.hid (settle_any qb vb frb tb A2 n2 c2 fb wr hrb2 (by have := HGB.out.len; have := hrb2.1; omega) HGB.out.ok HGB.out.ids HGB.out.v0 HGB.out.v1)
      clear hlt hk hr1 hy1 hrb1 hB1 hb hy2 hrb2
      go_wp2_with fail
      refine HS.out.mono ?_
      intro e w2 hres
      obtain ⟨B2, m2, d2, gb, bb, rfl, hst2, hgl2, hm2, ho2, hb2⟩ := hres.settled
      clear HS hres p0 p1 p2 p3 p4
      have hO2 := ownsMap_keep hO hb2
      have HST2 := Lib.hid hst2
      have HLW2 := Lib.hid (hst2.law HGB.out.ok HGB.out.ids HGB.out.v0)
      have hm2b : m2 ≤ 200 := by have := HGB.out.len; omega
      have hr2 : Recs encR 6 w2 B2 m2 gb := Recs.of_own encR_len ho2 hgl2
      have HB2 := Lib.hid (hB2.trans (hb2.mono hB2.size))
      have hgm : w1.heap.size < w2.heap.size := hO2.lt
      have HGL2 := Lib.hid hgl2
      clear hO ho2 hst2 hb2 hB2 hm2 hgl2
      generalize w1.heap.size = gm at *
      go_wp2_with fail
      go_loopw [10, 41] (fun v i wx => ∃ (k2 : Nat) (B : Option Addr) (m d : Nat), k2 ≤ m2 ∧ i = .int .i64 k2 ∧ v = .slice B m d ∧ m ≤ k2 ∧ Hid ((chgs ga (gb.take k2)).length = m) ∧ wx.ownsMap Tryz.prog 3 (plainElem Tryz.prog 3) gm m1 D ∧ wx.ownsRow w2.heap.size 58 3 (.slice B m d) m (flat encG (chgs ga (gb.take k2))) ∧ RowKit.Below w2.heap.size w2 wx) (fun _ i _ => m2 - (intOf i).toNat)
      case atStart => exact ⟨0, none, 0, 0, Nat.zero_le _, rfl, rfl, Nat.le_refl _, rfl, hO2, ⟨rfl, .inl ⟨rfl, rfl⟩⟩, Below.refl _ _⟩
      case round =>
        clear hO2
        obtain ⟨k2, B, m, d, hk2, rfl, rfl, hmk, HCL, hO, ho, hb⟩ := hrel
        by_cases hlt : k2 < m2
        · obtain ⟨b, off, x, hB, hbl, c0, c1, c2, c3, c4, c5, HX⟩ := (hr2.below hb).getR hlt
          subst hB
          have hxm : x ∈ gb := by have := HX.out; rw [← this, getElem!_pos gb k2 (by have := HGL2.out; omega)]; exact List.getElem_mem _
          obtain ⟨o1, o2, o3, o4, o5, o6⟩ := HLW2.out.each x hxm
          clear o6
          have HKEY : Hid (keyOf Tryz.prog 3 (.int .i64 x.id) = some (.int .i64 x.id)) := keyOf_int_mk Tryz.underlying3 (wf_small (by omega) (by omega))
          have HTK : Hid (gb.take (k2 + 1) = gb.take k2 ++ [x]) := by
            have hx := HX.out
            rw [getElem!_pos gb k2 (by have := HGL2.out; omega)] at hx
            show _ = _
            rw [List.take_succ_eq_append_getElem (by have := HGL2.out; omega), hx]
          have HRE := Lib.hid (HM.out x.id)
          have HSN := Lib.hid (chgs_snoc ga (gb.take k2) x)
          rw [← HTK.out] at HSN
          generalize grOf ga x.id = rv at *
          have hb4 : RowKit.Below w2.heap.size w2 (wr.alloc (.cells #[.int .i64 x.id, .int .i64 x.day, .int .i64 x.avail, .int .i64 x.asked, .int .i64 x.req, .int .i64 x.grant] 64)) := hb.alloc hb.size _
          have hx4 := Bl.new wr 64 #[.int .i64 x.id, .int .i64 x.day, .int .i64 x.avail, .int .i64 x.asked, .int .i64 x.req, .int .i64 x.grant]
          have HO4 := Lib.hid (hO.alloc (.cells #[.int .i64 x.id, .int .i64 x.day, .int .i64 x.avail, .int .i64 x.asked, .int .i64 x.req, .int .i64 x.grant] 64))
          have HR4 := Lib.hid (own_alloc ho (.cells #[.int .i64 x.id, .int .i64 x.day, .int .i64 x.avail, .int .i64 x.asked, .int .i64 x.req, .int .i64 x.grant] 64))
          clear hO ho hxm o1 o2 o3 o4 o5
          go_upto_region 13 with (fail)
          clear c0 c1 c2 c3 c4 c5
          generalize wr.alloc (.cells #[.int .i64 x.id, .int .i64 x.day, .int .i64 x.avail, .int .i64 x.asked, .int .i64 x.req, .int .i64 x.grant] 64) = W4 at *
          generalize wr.heap.size = g4 at *
          have q0 : W4.cell? ⟨g4, 0, none⟩ = some (.int .i64 x.id) := hx4.cell 0
          have q5 : W4.cell? ⟨g4, 5, none⟩ = some (.int .i64 x.grant) := hx4.cell 5
          have l4 := hx4.lt
          clear hb hbl hx4
          by_cases e : rv = x.grant
          · have bn : (rv != x.grant) = false := by simpa using e
            rw [if_pos e, List.append_nil] at HSN
            clear e
            go_wp2_with (first
              | (at_lookup; refine wpList_lookup_own_int _ rfl _ _ 97 rfl 3 3 .i64 klawI Tryz.underlying97 Tryz.underlying3 (zeroI _) gm m1 _ rfl HO4.out _ _ rfl HKEY.out ?_; intro c9 hat hwc; obtain rfl : rv = c9 := lit_eq (HRE.out.symm.trans hat); clear hat hwc)
              | fail)
            go_roundw
            case rel => exact ⟨k2 + 1, B, m, d, by omega, by go_num, rfl, by omega, by show _ = _; rw [HSN.out]; exact HCL.out, HO4.out, by rw [HSN.out]; exact HR4.out, hb4⟩
            case measure => simp [intOf]; omega
          · have bn : (rv != x.grant) = true := by simpa using e
            rw [if_neg e] at HSN
            clear e
            have HOE := Lib.hid (own_alloc HR4.out (.cells #[.int .i64 x.id, .int .i64 rv, .int .i64 x.grant] 58))
            have HOM := Lib.hid (HO4.out.alloc (.cells #[.int .i64 x.id, .int .i64 rv, .int .i64 x.grant] 58))
            have HRD : Hid (Rd (W4.alloc (.cells #[.int .i64 x.id, .int .i64 rv, .int .i64 x.grant] 58)) 3 (some ⟨W4.heap.size, 0, none⟩) 1 (encG ⟨x.id, rv, x.grant⟩)) := rd_new W4 58 (encG ⟨x.id, rv, x.grant⟩)
            have HON : Hid (∀ u ∈ encG ⟨x.id, rv, x.grant⟩, u.oneCell' = true) := encG_one _
            have HM1 : Hid (m + 1 ≤ maxLen ∧ (m + 1) * 24 ≤ 140737488355328) := ⟨by unfold maxLen; omega, by omega⟩
            have HBA : Hid (RowKit.Below w2.heap.size w2 (W4.alloc (.cells #[.int .i64 x.id, .int .i64 rv, .int .i64 x.grant] 58))) := hb4.alloc hb4.size _
            have HOB := Lib.hid (fun j hj => own_base HR4.out j hj)
            go_wp2_with (first
              | (at_lookup; refine wpList_lookup_own_int _ rfl _ _ 97 rfl 3 3 .i64 klawI Tryz.underlying97 Tryz.underlying3 (zeroI _) gm m1 _ rfl HO4.out _ _ rfl HKEY.out ?_; intro c9 hat hwc; obtain rfl : rv = c9 := lit_eq (HRE.out.symm.trans hat); clear hat hwc)
              | (at_builtin; refine wpList_append_rd _ rfl (.tmp 53) (.tmp 64) 42 rfl w2.heap.size 58 _ 3 24 Tryz.underlying42 infoG3 rfl (by decide) (.slice B m d) m _ rfl HOE.out (some ⟨W4.heap.size, 0, none⟩) 1 _ (encG ⟨x.id, rv, x.grant⟩) rfl HRD.out HON.out HM1.out.1 HM1.out.2 HBA.out.size ?_; intro v6 w6 ho6 hg6 _; obtain ⟨B6, d6, rfl⟩ := own_slice ho6))
            have HM6 := Lib.hid (HOM.out.kept hg6 (fun e => by have := HOB.out _ e.symm; omega))
            have HB6 : Hid (RowKit.Below w2.heap.size w2 w6) := HBA.out.grown hg6 HBA.out.size (fun j hj => HOB.out j hj)
            have HO6 : Hid (w6.ownsRow w2.heap.size 58 3 (.slice B6 (m + 1) d6) (m + 1) (flat encG (chgs ga (gb.take (k2 + 1))))) := by
              show World.ownsRow _ _ _ _ _ _ _
              rw [HSN.out, flat_append, flat_one]
              exact ho6
            clear ho6 hg6
            go_roundw
            case rel => exact ⟨k2 + 1, B6, m + 1, d6, by omega, by go_num, rfl, by omega, by show _ = _; rw [HSN.out, List.length_append, HCL.out]; rfl, HM6.out, HO6.out, HB6.out⟩
            case measure => simp [intOf]; omega
        · obtain rfl : m2 = k2 := by omega
          rw [List.take_of_length_le (by have := HGL2.out; omega)] at HCL ho
          have hsz := HB2.out.size
          clear hlt
          go_wp2
          go_ret
          exact ⟨B, m, d, ga, gb, ba, bb, rfl, HST.out, HST2.out, HCL.out, own_mono ho hsz, HB2.out.trans (hb.mono hsz)⟩
end Go.Proofs.YtemhiifgplaldaaGreat

namespace Go.Proofs.YtemhiifgplaldaaGreat
open Go.RowKit
set_option linter.unusedVariables false

theorem numAsc_pair {fs : List Fct} : numAsc fs ↔ fs.Pairwise (fun a b => a.num < b.num) := by
  constructor
  · intro h
    exact pairwise_of_get fun i j hij hj => num_lt h hij hj
  · intro h r hr
    have := List.pairwise_iff_getElem.1 h r (r + 1) (by omega) (by omega) (by omega)
    rwa [getElem!_pos fs r (by omega), getElem!_pos fs (r + 1) (by omega)]
theorem mem_take_get {α : Type} [Inhabited α] {xs : List α} {i : Nat} {x : α} (h : x ∈ xs.take i) : ∃ k, k < i ∧ k < xs.length ∧ xs[k]! = x := by
  obtain ⟨k, hk, rfl⟩ := List.getElem_of_mem h
  rw [List.length_take] at hk
  exact ⟨k, by omega, by omega, by rw [getElem!_pos xs k (by omega), List.getElem_take]⟩
theorem mem_drop_get {α : Type} [Inhabited α] {xs : List α} {i : Nat} {x : α} (h : x ∈ xs.drop i) : ∃ k, i ≤ k ∧ k < xs.length ∧ xs[k]! = x := by
  obtain ⟨k, hk, rfl⟩ := List.getElem_of_mem h
  rw [List.length_drop] at hk
  exact ⟨i + k, by omega, by omega, by rw [getElem!_pos xs (i + k) (by omega), List.getElem_drop]⟩
theorem numAsc_ins {fs : List Fct} {f : Fct} {I : Nat} (h : numAsc fs) (h1 : ∀ q, q < I → q < fs.length → fs[q]!.num < f.num) (h2 : ∀ q, I ≤ q → q < fs.length → f.num < fs[q]!.num) : numAsc (fs.take I ++ f :: fs.drop I) := by
  rw [numAsc_pair] at h ⊢
  rw [List.pairwise_append, List.pairwise_cons]
  refine ⟨h.take, ⟨fun x hx => ?_, h.drop⟩, fun x hx y hy => ?_⟩
  · obtain ⟨k, k1, k2, rfl⟩ := mem_drop_get hx
    exact h2 k k1 k2
  · obtain ⟨k, k1, k2, rfl⟩ := mem_take_get hx
    rcases List.mem_cons.1 hy with rfl | hy
    · exact h1 k k1 k2
    · obtain ⟨j, j1, j2, rfl⟩ := mem_drop_get hy
      have := List.pairwise_iff_getElem.1 h k j k2 j2 (by omega)
      rwa [getElem!_pos fs k k2, getElem!_pos fs j j2]
theorem perm_ins (fs : List Fct) (f : Fct) (I : Nat) : (fs.take I ++ f :: fs.drop I).Perm (f :: fs) := by
  have := @List.perm_middle Fct f (fs.take I) (fs.drop I)
  rwa [List.take_append_drop] at this
/-- Facts in order are known by their members. -/
theorem numAsc_ext {fs gs : List Fct} (h : numAsc fs) (h' : numAsc gs) (hm : ∀ x, x ∈ fs ↔ x ∈ gs) : fs = gs :=
  sorted_ext (fun a b : Fct => a.num < b.num) (fun a => by omega) (fun a b c => by omega) fs gs (numAsc_pair.1 h) (numAsc_pair.1 h') hm
/-- A valid book. -/
structure BOk (q : Qt) (fs : List Fct) : Prop where
  qok : qOk q = true
  len : fs.length ≤ 200
  ok : ∀ x ∈ fs, fErr q x = 0
  asc : numAsc fs
theorem BOk.err {q : Qt} {fs : List Fct} (h : BOk q fs) : bErr q fs = 0 := bErr_ok h.qok h.len (fun i hi => h.ok _ (by rw [getElem!_pos fs i hi]; exact List.getElem_mem _)) h.asc
theorem BOk.good {q : Qt} {fs : List Fct} (h : BOk q fs) : FGood fs q.vol :=
  ⟨h.len, fun x hx => (fErr_zero (h.ok x hx)).1, fun x hx hk => (fErr_zero (h.ok x hx)).2.2.1 hk, (qOk_yes h.qok).2.2.1, (qOk_yes h.qok).2.2.2.1⟩
theorem BOk.nil {q : Qt} (h : qOk q = true) : BOk q [] := ⟨h, Nat.zero_le _, fun x hx => (by cases hx), fun r hr => (by simp at hr)⟩
theorem BOk.ins {q : Qt} {fs : List Fct} {f : Fct} {I : Nat} (h : BOk q fs) (hf : fErr q f = 0) (hl : fs.length < 200) (h1 : ∀ k, k < I → k < fs.length → fs[k]!.num < f.num) (h2 : ∀ k, I ≤ k → k < fs.length → f.num < fs[k]!.num) : BOk q (fs.take I ++ f :: fs.drop I) := by
  refine ⟨h.qok, ?_, fun x hx => ?_, numAsc_ins h.asc h1 h2⟩
  · rw [(perm_ins fs f I).length_eq]; simp; omega
  · rcases List.mem_cons.1 ((perm_ins fs f I).mem_iff.1 hx) with rfl | hx
    · exact hf
    · exact h.ok x hx
theorem put5 {w : World} {N r : Nat} {w' : World} (h : RowKit.Below N w w') (hr : N ≤ r) (a b c d e : Value) : RowKit.Below N w (((((w'.setCell ⟨r, 0, none⟩ a).setCell ⟨r, 1, none⟩ b).setCell ⟨r, 2, none⟩ c).setCell ⟨r, 3, none⟩ d).setCell ⟨r, 4, none⟩ e) :=
  ((((h.setCell (p := ⟨r, 0, none⟩) hr _).setCell (p := ⟨r, 1, none⟩) hr _).setCell (p := ⟨r, 2, none⟩) hr _).setCell (p := ⟨r, 3, none⟩) hr _).setCell (p := ⟨r, 4, none⟩) hr _
theorem own5 {w : World} {N r : Nat} {T : TypeId} {size n : Nat} {v : Value} {xs : List Value} (h : w.ownsRow N T size v n xs) (hr : ∀ g, v.ownBlock = some g → g ≠ r) (a b c d e : Value) : (((((w.setCell ⟨r, 0, none⟩ a).setCell ⟨r, 1, none⟩ b).setCell ⟨r, 2, none⟩ c).setCell ⟨r, 3, none⟩ d).setCell ⟨r, 4, none⟩ e).ownsRow N T size v n xs :=
  own_of_block h fun g hg => ((((Below.heap_setCell _ _ _ g (hr g hg)).trans (Below.heap_setCell _ _ _ g (hr g hg))).trans (Below.heap_setCell _ _ _ g (hr g hg))).trans (Below.heap_setCell _ _ _ g (hr g hg))).trans (Below.heap_setCell _ _ _ g (hr g hg))
theorem set5_bl {w : World} {g : Nat} {T : TypeId} {z0 z1 z2 z3 z4 : Value} (h : Bl w g T #[z0, z1, z2, z3, z4]) (a b c d e : Value) : Bl (((((w.setCell ⟨g, 0, none⟩ a).setCell ⟨g, 1, none⟩ b).setCell ⟨g, 2, none⟩ c).setCell ⟨g, 3, none⟩ d).setCell ⟨g, 4, none⟩ e) g T #[a, b, c, d, e] := by
  have := ((((h.put 0 a).put 1 b).put 2 c).put 3 d).put 4 e
  simpa using this
theorem Bl.c0 {w : World} {g : Nat} {T : TypeId} {z0 z1 z2 z3 z4 : Value} (h : Bl w g T #[z0, z1, z2, z3, z4]) : w.cell? ⟨g, 0, none⟩ = some z0 := h.cell 0
theorem Bl.c1 {w : World} {g : Nat} {T : TypeId} {z0 z1 z2 z3 z4 : Value} (h : Bl w g T #[z0, z1, z2, z3, z4]) : w.cell? ⟨g, 1, none⟩ = some z1 := h.cell 1
theorem Bl.c2 {w : World} {g : Nat} {T : TypeId} {z0 z1 z2 z3 z4 : Value} (h : Bl w g T #[z0, z1, z2, z3, z4]) : w.cell? ⟨g, 2, none⟩ = some z2 := h.cell 2
theorem Bl.c3 {w : World} {g : Nat} {T : TypeId} {z0 z1 z2 z3 z4 : Value} (h : Bl w g T #[z0, z1, z2, z3, z4]) : w.cell? ⟨g, 3, none⟩ = some z3 := h.cell 3
theorem Bl.c4 {w : World} {g : Nat} {T : TypeId} {z0 z1 z2 z3 z4 : Value} (h : Bl w g T #[z0, z1, z2, z3, z4]) : w.cell? ⟨g, 4, none⟩ = some z4 := h.cell 4
theorem Bl.far5 {w : World} {k r : Nat} {T : TypeId} {cs : Array Value} (h : Bl w k T cs) (hne : k ≠ r) (a b c d e : Value) : Bl (((((w.setCell ⟨r, 0, none⟩ a).setCell ⟨r, 1, none⟩ b).setCell ⟨r, 2, none⟩ c).setCell ⟨r, 3, none⟩ d).setCell ⟨r, 4, none⟩ e) k T cs := ((((h.far (p := ⟨r, 0, none⟩) hne a).far (p := ⟨r, 1, none⟩) hne b).far (p := ⟨r, 2, none⟩) hne c).far (p := ⟨r, 3, none⟩) hne d).far (p := ⟨r, 4, none⟩) hne e
end Go.Proofs.YtemhiifgplaldaaGreat

namespace Go.Proofs.YtemhiifgplaldaaGreat
open Go.RowKit
set_option linter.unusedVariables false

/-- A request of the reference. -/
structure Ak where
  day : Int
  id : Int
  qty : Int
deriving Inhabited, DecidableEq
def encA (x : Ak) : List Value := [.int .i64 x.day, .int .i64 x.id, .int .i64 x.qty]
theorem encA_len (x : Ak) : (encA x).length = 3 := rfl
theorem encA_one (x : Ak) : ∀ v ∈ encA x, v.oneCell' = true := fun v hv => by
  simp [encA] at hv
  rcases hv with rfl | rfl | rfl <;> rfl

/-- The requests of the facts so far, in order of their IDs. -/
structure AskP (fs : List Fct) (os : List Ak) : Prop where
  asc : os.Pairwise (fun a b => a.id < b.id)
  mem : ∀ id : Int, (∃ o ∈ os, o.id = id) ↔ (askOf fs id).isSome = true
  val : ∀ o ∈ os, ∀ f, askOf fs o.id = some f → o.day = f.day ∧ o.qty = f.qty
theorem AskP.nil : AskP [] [] := ⟨.nil, fun id => by simp [askOf], fun o ho => by cases ho⟩
theorem askOf_skip {fs : List Fct} {x : Fct} {id : Int} (h : ¬ (x.kind = 1 ∧ x.id = id)) : askOf (fs ++ [x]) id = askOf fs id := by
  rw [askOf_snoc]
  cases askOf fs id with
  | some y => rfl
  | none => simp only; rw [if_neg (by simpa using h)]
theorem askOf_some {fs : List Fct} {x y : Fct} {id : Int} (h : askOf fs id = some y) : askOf (fs ++ [x]) id = some y := by rw [askOf_snoc, h]
theorem AskP.skip {fs : List Fct} {os : List Ak} (h : AskP fs os) {x : Fct} (hx : x.kind ≠ 1) : AskP (fs ++ [x]) os :=
  ⟨h.asc, fun id => by rw [askOf_skip (fun e => hx e.1)]; exact h.mem id, fun o ho f hf => h.val o ho f (by rwa [askOf_skip (fun e => hx e.1)] at hf)⟩
theorem AskP.hit {fs : List Fct} {os : List Ak} (h : AskP fs os) {x : Fct} (hx : ∃ o ∈ os, o.id = x.id) : AskP (fs ++ [x]) os := by
  obtain ⟨y, hy⟩ := Option.isSome_iff_exists.1 ((h.mem x.id).1 hx)
  have key : ∀ id, askOf (fs ++ [x]) id = askOf fs id := fun id => by
    by_cases e : x.id = id
    · subst e; rw [askOf_some hy, hy]
    · exact askOf_skip fun e2 => e e2.2
  exact ⟨h.asc, fun id => by rw [key]; exact h.mem id, fun o ho f hf => h.val o ho f (by rwa [key] at hf)⟩
theorem AskP.miss {fs : List Fct} {os : List Ak} (h : AskP fs os) {k : Nat} (hk : k ≤ os.length) {id : Int} (h1 : ∀ j, j < k → os[j]!.id < id) (h2 : k < os.length → id < os[k]!.id) : ¬ ∃ o ∈ os, o.id = id := by
  rintro ⟨o, ho, e⟩
  obtain ⟨j, hj, rfl⟩ := List.getElem_of_mem ho
  rcases Nat.lt_or_ge j k with hjk | hjk
  · have := h1 j hjk
    rw [getElem!_pos os j hj] at this
    omega
  · have h3 := h2 (by omega)
    rw [getElem!_pos os k (by omega)] at h3
    rcases Nat.eq_or_lt_of_le hjk with rfl | hlt
    · omega
    · have := List.pairwise_iff_getElem.1 h.asc k j (by omega) hj hlt
      omega
theorem AskP.ins {fs : List Fct} {os : List Ak} (h : AskP fs os) {x : Fct} (hx : x.kind = 1) {k : Nat} (hk : k ≤ os.length) (h1 : ∀ j, j < k → os[j]!.id < x.id) (h2 : k < os.length → x.id < os[k]!.id) : AskP (fs ++ [x]) (os.take k ++ [⟨x.day, x.id, x.qty⟩] ++ os.drop k) := by
  have hmiss := h.miss hk h1 h2
  have hno : askOf fs x.id = none := by
    cases e : askOf fs x.id with
    | none => rfl
    | some y => exact absurd ((h.mem x.id).2 (by rw [e]; rfl)) hmiss
  have hme : askOf (fs ++ [x]) x.id = some x := by rw [askOf_snoc, hno]; simp [hx]
  have hot : ∀ id, id ≠ x.id → askOf (fs ++ [x]) id = askOf fs id := fun id hne => askOf_skip fun e => hne e.2.symm
  have hm : ∀ o, o ∈ os.take k ++ [(⟨x.day, x.id, x.qty⟩ : Ak)] ++ os.drop k ↔ (o = ⟨x.day, x.id, x.qty⟩ ∨ o ∈ os) := fun o => by
    rw [List.append_assoc, List.mem_append, List.mem_append, List.mem_singleton]
    constructor
    · rintro (h | h | h)
      · exact .inr (List.mem_of_mem_take h)
      · exact .inl h
      · exact .inr (List.mem_of_mem_drop h)
    · rintro (h | h)
      · exact .inr (.inl h)
      · rw [← List.take_append_drop k os] at h
        rcases List.mem_append.1 h with h | h
        · exact .inl h
        · exact .inr (.inr h)
  have ht : ∀ o ∈ os.take k, o.id < x.id := fun o ho => by
    obtain ⟨j, hj, hl, e⟩ := mem_take_get ho
    rw [← e]; exact h1 j hj
  have hd : ∀ o ∈ os.drop k, x.id < o.id := fun o ho => by
    obtain ⟨j, hj, hl, e⟩ := mem_drop_get ho
    have h3 := h2 (by omega)
    rw [← e]
    rcases Nat.eq_or_lt_of_le hj with rfl | hlt
    · exact h3
    · have := List.pairwise_iff_getElem.1 h.asc k j (by omega) hl hlt
      rw [getElem!_pos os k (by omega)] at h3
      rw [getElem!_pos os j hl]
      omega
  refine ⟨?_, fun id => ?_, fun o ho f hf => ?_⟩
  · rw [List.append_assoc, List.pairwise_append]
    refine ⟨h.asc.sublist (List.take_sublist _ _), ?_, fun a ha b hb => ?_⟩
    · rw [List.singleton_append, List.pairwise_cons]
      exact ⟨fun b hb => hd b hb, h.asc.sublist (List.drop_sublist _ _)⟩
    · rcases List.mem_append.1 hb with hb | hb
      · rw [List.mem_singleton] at hb; subst hb; exact ht a ha
      · exact Int.lt_trans (ht a ha) (hd b hb)
  · by_cases e : id = x.id
    · subst e
      rw [hme]
      exact ⟨fun _ => rfl, fun _ => ⟨_, (hm _).2 (.inl rfl), rfl⟩⟩
    · rw [hot id e, ← h.mem id]
      constructor
      · rintro ⟨o, ho, e2⟩
        rcases (hm o).1 ho with rfl | ho
        · exact absurd e2.symm e
        · exact ⟨o, ho, e2⟩
      · rintro ⟨o, ho, e2⟩
        exact ⟨o, (hm o).2 (.inr ho), e2⟩
  · rcases (hm o).1 ho with rfl | ho
    · rw [hme] at hf; injection hf with hf; subst hf; exact ⟨rfl, rfl⟩
    · have hne : o.id ≠ x.id := fun e => hmiss ⟨o, ho, e⟩
      rw [hot _ hne] at hf
      exact h.val o ho f hf

/-- A fact's effect on a request. -/
def updA (x : Fct) (o : Ak) : Ak := if o.id = x.id then (if x.kind = 2 then ⟨o.day, o.id, max (o.qty - x.qty) 0⟩ else if x.kind = 3 then ⟨o.day, o.id, 0⟩ else o) else o
theorem updA_id (x : Fct) (o : Ak) : (updA x o).id = o.id ∧ (updA x o).day = o.day := by
  unfold updA; split
  · split
    · exact ⟨rfl, rfl⟩
    · split <;> exact ⟨rfl, rfl⟩
  · exact ⟨rfl, rfl⟩
/-- The requests with what the facts fs1 have left of them. -/
structure EffP (fs fs1 : List Fct) (os : List Ak) : Prop where
  asc : os.Pairwise (fun a b => a.id < b.id)
  mem : ∀ id : Int, (∃ o ∈ os, o.id = id) ↔ (askOf fs id).isSome = true
  val : ∀ o ∈ os, ∀ f, askOf fs o.id = some f → o.day = f.day ∧ o.qty = effOf fs1 o.id f.qty
theorem AskP.eff {fs : List Fct} {os : List Ak} (h : AskP fs os) (hf : ∀ x ∈ fs, 0 ≤ x.qty) : EffP fs [] os :=
  ⟨h.asc, h.mem, fun o ho f hfo => by
    have h1 := h.val o ho f hfo
    refine ⟨h1.1, ?_⟩
    have h2 := hf f (List.mem_of_find?_eq_some hfo)
    unfold effOf wdOf retOf
    simp
    omega⟩
theorem wdOf_snoc' (fs : List Fct) (x : Fct) (id : Int) : wdOf (fs ++ [x]) id = (wdOf fs id || (x.kind == 3 && x.id == id)) := by simp [wdOf]
theorem EffP.step {fs fs1 : List Fct} {os : List Ak} (h : EffP fs fs1 os) {x : Fct} (hx : 0 ≤ x.qty) : EffP fs (fs1 ++ [x]) (os.map (updA x)) := by
  refine ⟨?_, fun id => ?_, fun o ho f hf => ?_⟩
  · rw [List.pairwise_map]
    exact h.asc.imp fun {a b} hab => by rw [(updA_id x a).1, (updA_id x b).1]; exact hab
  · rw [← h.mem id]
    constructor
    · rintro ⟨o, ho, e⟩
      obtain ⟨o', ho', rfl⟩ := List.mem_map.1 ho
      exact ⟨o', ho', by rw [← e, (updA_id x o').1]⟩
    · rintro ⟨o, ho, e⟩
      exact ⟨_, List.mem_map.2 ⟨o, ho, rfl⟩, by rw [(updA_id x o).1]; exact e⟩
  · obtain ⟨o', ho', rfl⟩ := List.mem_map.1 ho
    rw [(updA_id x o').1] at hf ⊢
    obtain ⟨h1, h2⟩ := h.val o' ho' f hf
    rw [(updA_id x o').2]
    refine ⟨h1, ?_⟩
    unfold effOf at h2 ⊢
    rw [wdOf_snoc', retOf_snoc]
    unfold updA
    by_cases e1 : o'.id = x.id
    · rw [if_pos e1]
      by_cases e2 : x.kind = 2
      · rw [if_pos e2]
        show max (o'.qty - x.qty) 0 = _
        rw [h2]
        cases hw : wdOf fs1 o'.id
        · simp [e2, e1]; omega
        · simp; omega
      · rw [if_neg e2]
        by_cases e3 : x.kind = 3
        · rw [if_pos e3]; simp [e3, e1]
        · rw [if_neg e3, h2]; simp [e2, e3]
    · rw [if_neg e1, h2]
      have e1' : ¬ x.id = o'.id := fun e => e1 e.symm
      simp [e1']
/-- The effect on the first k requests. -/
def updTo (x : Fct) (k : Nat) (os : List Ak) : List Ak := (os.take k).map (updA x) ++ os.drop k
theorem updTo_len (x : Fct) (k : Nat) (os : List Ak) : (updTo x k os).length = os.length := by simp [updTo]; omega
theorem updTo_zero (x : Fct) (os : List Ak) : updTo x 0 os = os := by simp [updTo]
theorem updTo_all (x : Fct) (os : List Ak) : updTo x os.length os = os.map (updA x) := by simp [updTo]
theorem updTo_get? (x : Fct) (k : Nat) (os : List Ak) (hk : k ≤ os.length) (i : Nat) : (updTo x k os)[i]? = if i < k then (os[i]?).map (updA x) else os[i]? := by
  unfold updTo
  rw [List.getElem?_append]
  have hl : ((os.take k).map (updA x)).length = k := by simp; omega
  rw [hl]
  by_cases e : i < k
  · rw [if_pos e, if_pos e, List.getElem?_map, List.getElem?_take, if_pos e]
  · rw [if_neg e, if_neg e, List.getElem?_drop]
    congr 1
    omega
theorem updTo_get (x : Fct) (k : Nat) (os : List Ak) (hk : k < os.length) : (updTo x k os)[k]! = os[k]! := by
  rw [getElem!_def, getElem!_def, updTo_get? x k os (by omega), if_neg (by omega)]
theorem updTo_succ (x : Fct) (k : Nat) (os : List Ak) (hk : k < os.length) : updTo x (k + 1) os = (updTo x k os).set k (updA x os[k]!) := by
  apply List.ext_getElem?
  intro i
  rw [updTo_get? x (k + 1) os (by omega), List.getElem?_set, updTo_len, updTo_get? x k os (by omega)]
  by_cases e : k = i
  · subst e
    rw [if_pos (by omega), if_pos rfl, if_pos hk, getElem!_pos os k hk, List.getElem?_eq_getElem hk]
    rfl
  · rw [if_neg e]
    by_cases e2 : i < k
    · rw [if_pos (by omega), if_pos e2]
    · rw [if_neg (by omega), if_neg e2]
theorem set_same {os : List Ak} {k : Nat} (hk : k < os.length) {y : Ak} (h : os[k]! = y) : os.set k y = os := by
  rw [← h, getElem!_pos os k hk]
  simp
/-- A request's quantity is stored. -/
theorem flatA_set (os : List Ak) (k : Nat) (hk : k < os.length) {y : Ak} (hy : os[k]! = y) (z : Int) : flat encA (os.set k ⟨y.day, y.id, z⟩) = (flat encA os).set (k * 3 + 2) (.int .i64 z) := by
  induction os generalizing k with
  | nil => simp at hk
  | cons o os ih =>
    cases k with
    | zero =>
      simp at hy
      subst hy
      simp [flat, encA]
    | succ k =>
      have h1 : os[k]! = y := by simpa using hy
      have := ih k (by simpa using hk) h1
      simp only [List.set_cons_succ]
      show encA o ++ flat encA (os.set k ⟨y.day, y.id, z⟩) = (encA o ++ flat encA os).set _ _
      rw [this, show (k + 1) * 3 + 2 = (encA o).length + (k * 3 + 2) by rw [encA_len]; omega, List.set_append_right _ _ (by omega)]
      congr 2
      omega
/-- A cell of a row of the call's own is stored. -/
theorem own_setCell {w : World} {base g size n c : Nat} {e : TypeId} {xs : List Value} (h : w.ownsRow base e size (.slice (some ⟨g, 0, none⟩) n c) n xs) {i : Nat} (hi : i < n * size) (u : Value) : (w.setCell ⟨g, i, none⟩ u).ownsRow base e size (.slice (some ⟨g, 0, none⟩) n c) n (xs.set i u) := by
  refine ⟨by simpa using h.1, ?_⟩
  rcases h.2 with ⟨h1, h2⟩ | ⟨g', cap, cur, h1, h2, h3, h4, h5, h6, h7⟩
  · cases h1
  · injection h1 with e1 e2 e3
    injection e1 with e1
    injection e1 with e1
    subst e1 e3
    refine .inr ⟨g, c, cur.setIfInBounds i u, rfl, h2, (Bl.put (t := e) h3 i u), h4, h5, by simpa using h6, ?_⟩
    rw [Array.toList_setIfInBounds, ← h7, List.take_set]
end Go.Proofs.YtemhiifgplaldaaGreat

namespace Go.Proofs.YtemhiifgplaldaaGreat
open Go.RowKit
set_option linter.unusedVariables false

/-- A day of the reference: what is in its cells, and its grants. -/
structure DayR where
  day : Int
  avail : Int
  asked : Int
  A : Option Addr
  n : Nat
  c : Nat
  grants : List (Int × Int)
deriving Inhabited
def encD (x : DayR) : List Value := [.int .i64 x.day, .int .i64 x.avail, .int .i64 x.asked, .slice x.A x.n x.c]
theorem encD_len (x : DayR) : (encD x).length = 4 := rfl
theorem encD_one (x : DayR) : ∀ v ∈ encD x, v.oneCell' = true := fun v hv => by
  simp [encD] at hv
  rcases hv with rfl | rfl | rfl | rfl <;> rfl

/-- Two lists in strict order with the same members are one. -/
theorem asc_ext {α : Type} {key : α → Int} : ∀ {xs ys : List α}, xs.Pairwise (fun a b => key a < key b) → ys.Pairwise (fun a b => key a < key b) → (∀ x, x ∈ xs ↔ x ∈ ys) → xs = ys := by
  intro xs
  induction xs with
  | nil =>
    intro ys _ _ h
    cases ys with
    | nil => rfl
    | cons y ys => exact absurd ((h y).2 (List.mem_cons_self ..)) (by simp)
  | cons x xs ih =>
    intro ys h1 h2 h
    cases ys with
    | nil => exact absurd ((h x).1 (List.mem_cons_self ..)) (by simp)
    | cons y ys =>
      rw [List.pairwise_cons] at h1 h2
      have hxy : x = y := by
        rcases List.mem_cons.1 ((h x).1 (List.mem_cons_self ..)) with e | hx
        · exact e
        · rcases List.mem_cons.1 ((h y).2 (List.mem_cons_self ..)) with e | hy
          · exact e.symm
          · have := h2.1 x hx; have := h1.1 y hy; omega
      subst hxy
      congr 1
      refine ih h1.2 h2.2 fun z => ?_
      constructor
      · intro hz
        rcases List.mem_cons.1 ((h z).1 (List.mem_cons_of_mem _ hz)) with rfl | hz'
        · have := h1.1 z hz; omega
        · exact hz'
      · intro hz
        rcases List.mem_cons.1 ((h z).2 (List.mem_cons_of_mem _ hz)) with rfl | hz'
        · have := h2.1 z hz; omega
        · exact hz'
theorem ReqList.pair {fs : List Fct} {rs : List Rq} (h : ReqList fs rs) : rs.Pairwise (fun a b => a.day < b.day ∨ (a.day = b.day ∧ a.id < b.id)) := pairwise_of_get (lt := fun a b : Rq => a.day < b.day ∨ (a.day = b.day ∧ a.id < b.id)) h.srt
/-- The requests of a day, as the reference has them and as the settlement has them. -/
theorem day_reqs {fs : List Fct} {os : List Ak} {rs : List Rq} (h : EffP fs fs os) (hr : ReqList fs rs) (D : Int) : (os.filter fun o => o.day == D).map (fun o => (o.id, o.qty)) = prs (rs.filter fun r => r.day == D) := by
  refine asc_ext (key := fun p : Int × Int => p.1) ?_ ?_ fun p => ?_
  · rw [List.pairwise_map]
    exact (h.asc.filter _)
  · unfold prs
    rw [List.pairwise_map]
    have := hr.pair.filter (fun r => r.day == D)
    rw [List.pairwise_iff_getElem] at this ⊢
    intro i j hi hj hij
    have h1 := this i j hi hj hij
    have h2 := (List.mem_filter.1 (List.getElem_mem hi)).2
    have h3 := (List.mem_filter.1 (List.getElem_mem hj)).2
    simp only [beq_iff_eq] at h2 h3
    omega
  · have key : ∀ o ∈ os, ∀ r ∈ rs, o.id = r.id → o.day = r.day ∧ o.qty = r.req := fun o ho r hrr e => by
      obtain ⟨f, hf⟩ := Option.isSome_iff_exists.1 ((h.mem o.id).1 ⟨o, ho, rfl⟩)
      have h1 := h.val o ho f hf
      have h2 := hr.val r hrr
      rw [← e] at h2
      unfold rqOf at h2
      rw [hf] at h2
      rw [h2]
      exact h1
    simp only [prs, List.mem_map, List.mem_filter, beq_iff_eq]
    constructor
    · rintro ⟨o, ⟨ho, hd⟩, rfl⟩
      obtain ⟨r, hrr, e⟩ := (hr.mem o.id).2 ((h.mem o.id).1 ⟨o, ho, rfl⟩)
      have := key o ho r hrr e.symm
      exact ⟨r, ⟨hrr, by rw [← this.1]; exact hd⟩, by rw [e, this.2]⟩
    · rintro ⟨r, ⟨hrr, hd⟩, rfl⟩
      obtain ⟨o, ho, e⟩ := (h.mem r.id).2 ((hr.mem r.id).1 ⟨r, hrr, rfl⟩)
      have := key o ho r hrr e
      exact ⟨o, ⟨ho, by rw [this.1]; exact hd⟩, by rw [e, this.2]⟩

/-- The days before D are settled. -/
structure DaysP (T : Int → Int) (rs : List Rq) (vol D left : Int) (ds : List DayR) (rs1 rs2 G : List Rq) (b : Int) : Prop where
  split : rs = rs1 ++ rs2
  before : ∀ r ∈ rs1, r.day < D
  behind : ∀ r ∈ rs2, D ≤ r.day
  run : runD T rs.length rs vol = (G ++ (runD T rs.length rs2 b).1, (runD T rs.length rs2 b).2)
  left_ : left = b + T (D - 1)
  grants : ds.flatMap (·.grants) = G.map (fun g => (g.id, g.grant))
  asc : ds.Pairwise (fun a b => a.day < b.day)
  days : ∀ d ∈ ds, d.day < D
  each : ∀ g ∈ G, ∃ d ∈ ds, d.day = g.day ∧ d.avail = g.avail ∧ d.asked = g.asked ∧ (g.id, g.grant) ∈ d.grants
theorem DaysP.start {T : Int → Int} {rs : List Rq} {vol D : Int} (h : ∀ r ∈ rs, D ≤ r.day) (hT : T (D - 1) = 0) : DaysP T rs vol D vol [] [] rs [] vol :=
  ⟨rfl, fun r hr => (by cases hr), h, rfl, by omega, rfl, List.Pairwise.nil, fun d hd => (by cases hd), fun g hg => (by cases hg)⟩
theorem grantL_pairs (t : Int) (blk : List Rq) : (grantL t blk).map (fun g => (g.id, g.grant)) = grantsOf t (prs blk) := by
  unfold grantL grantsOf
  rw [List.map_map, show (prs blk).length = blk.length by simp [prs]]
  refine List.map_congr_left fun k hk => ?_
  have hk' := List.mem_range.1 hk
  show (blk[k]!.id, _) = _
  rw [getElem!_pos blk k hk', getElem!_pos (prs blk) k (by simpa [prs] using hk')]
  simp [prs]
theorem grantL_mem {t : Int} {blk : List Rq} {g : Rq} (h : g ∈ grantL t blk) : g.avail = t ∧ g.asked = (qsOf (prs blk)).sum ∧ ∃ r ∈ blk, g.day = r.day ∧ g.id = r.id := by
  obtain ⟨k, hk, rfl⟩ := List.mem_map.1 h
  have hk' := List.mem_range.1 hk
  exact ⟨rfl, rfl, blk[k]!, by rw [getElem!_pos blk k hk']; exact List.getElem_mem _, rfl, rfl⟩
/-- One day more. -/
theorem DaysP.step {T : Int → Int} {rs : List Rq} {vol D left : Int} {ds : List DayR} {rs1 rs2 G : List Rq} {b : Int} (h : DaysP T rs vol D left ds rs1 rs2 G b) (hp : rs.Pairwise (fun a b => a.day < b.day ∨ (a.day = b.day ∧ a.id < b.id)))
    {nx t : Int} (h1 : D ≤ nx) (h2 : ∀ r ∈ rs, D ≤ r.day → nx ≤ r.day) (h3 : T (nx - 1) = T (D - 1)) (ht : t = left + (T nx - T (nx - 1))) (ht0 : 0 ≤ t) {x : DayR}
    (e1 : x.day = nx) (e2 : x.avail = t) (e3 : x.asked = (qsOf (prs (rs.filter fun r => r.day == nx))).sum) (e4 : x.grants = grantsOf t (prs (rs.filter fun r => r.day == nx))) :
    ∃ rs1' rs2' G' b', DaysP T rs vol (nx + 1) (max (t - (qsOf (prs (rs.filter fun r => r.day == nx))).sum) 0) (ds ++ [x]) rs1' rs2' G' b' := by
  have hbt : b + T nx = t := by have := h.left_; omega
  have hb2 : ∀ r ∈ rs2, nx ≤ r.day := fun r hr => h2 r (by rw [h.split]; simp [hr]) (h.behind r hr)
  have hp2 : rs2.Pairwise (fun a b => a.day < b.day ∨ (a.day = b.day ∧ a.id < b.id)) := by
    rw [h.split, List.pairwise_append] at hp; exact hp.2.1
  -- the block of the day
  have hfil : rs.filter (fun r => r.day == nx) = rs2.takeWhile (fun r => r.day == nx) := by
    rw [h.split, List.filter_append, List.filter_eq_nil_iff.2 (fun r hr => by have := h.before r hr; simp; omega), List.nil_append]
    clear h hbt h2 hp
    induction rs2 with
    | nil => rfl
    | cons r rs2 ih =>
      rw [List.pairwise_cons] at hp2
      by_cases e : r.day = nx
      · have eb : (r.day == nx) = true := by simpa using e
        rw [List.filter_cons_of_pos (by simpa using e), List.takeWhile_cons_of_pos (by simpa using e), ih (fun s hs => hb2 s (List.mem_cons_of_mem _ hs)) hp2.2]
      · have h5 := hb2 r (List.mem_cons_self ..)
        rw [List.filter_cons_of_neg (by simpa using e), List.takeWhile_cons_of_neg (by simpa using e)]
        refine List.filter_eq_nil_iff.2 fun s hs => ?_
        have := hp2.1 s hs
        simp
        omega
  rw [hfil] at e3 e4 ⊢
  obtain ⟨blk, hblk⟩ : ∃ blk, blk = rs2.takeWhile (fun r => r.day == nx) := ⟨_, rfl⟩
  obtain ⟨rest, hrest⟩ : ∃ rest, rest = rs2.dropWhile (fun r => r.day == nx) := ⟨_, rfl⟩
  have hcut : rs2 = blk ++ rest := by rw [hblk, hrest]; exact (List.takeWhile_append_dropWhile).symm
  have hday : ∀ r ∈ blk, r.day = nx := fun r hr => by
    rw [hblk, ← hfil] at hr
    simpa using (List.mem_filter.1 hr).2
  have hrd : ∀ r ∈ rest, nx + 1 ≤ r.day := by
    rw [hcut, List.pairwise_append] at hp2
    cases hc : rest with
    | nil => intro r hr; cases hr
    | cons s ss =>
      have hs : s.day ≠ nx := by
        have := List.head?_dropWhile_not (fun r : Rq => r.day == nx) rs2
        rw [← hrest, hc] at this
        simpa using this
      have hs2 : nx ≤ s.day := hb2 s (by rw [hcut, hc]; simp)
      intro r hr
      rcases List.mem_cons.1 hr with rfl | hr
      · omega
      · rw [hc] at hp2
        have := (List.pairwise_cons.1 hp2.2.1).1 r hr
        omega
  rw [← hblk] at e3 e4 ⊢
  have hev : ∀ d ∈ ds ++ [x], d.day < nx + 1 := fun d hd => by
    rcases List.mem_append.1 hd with hd | hd
    · have := h.days d hd; omega
    · rw [List.mem_singleton] at hd; subst hd; omega
  have hasc : (ds ++ [x]).Pairwise (fun a b => a.day < b.day) := by
    rw [List.pairwise_append]
    refine ⟨h.asc, by simp, fun a ha c hc => ?_⟩
    rw [List.mem_singleton] at hc; subst hc
    have := h.days a ha
    omega
  by_cases hbe : blk = []
  · subst hbe
    rw [List.nil_append] at hcut
    have hz : (qsOf (prs ([] : List Rq))).sum = 0 := rfl
    rw [hz] at e3 ⊢
    refine ⟨rs1, rs2, G, b, h.split, fun r hr => by have := h.before r hr; omega, fun r hr => hrd r (by rw [← hcut]; exact hr), h.run, ?_, ?_, hasc, hev, fun g hg => ?_⟩
    · rw [show nx + 1 - 1 = nx by omega]; omega
    · rw [List.flatMap_append, h.grants]
      have : x.grants = [] := by rw [e4]; rfl
      simp [this]
    · obtain ⟨d, hd, h5⟩ := h.each g hg
      exact ⟨d, by simp [hd], h5⟩
  · have hlen : rs.length = (rs.length - 1) + 1 := by
      have : 0 < rs2.length := by rw [hcut]; cases blk with
        | nil => exact absurd rfl hbe
        | cons _ _ => simp
      rw [h.split, List.length_append]
      omega
    have hrl : rest.length ≤ rs.length - 1 := by
      have : 0 < blk.length := by cases blk with
        | nil => exact absurd rfl hbe
        | cons _ _ => simp
      have h6 : rs.length = rs1.length + (blk.length + rest.length) := by rw [h.split, hcut]; simp
      omega
    have hstep := runD_step T (rs.length - 1) (b := b) hbe hcut hday (fun r hr => by
      have : r ∈ rest := by
        cases rest with
        | nil => cases hr
        | cons s ss => simp at hr; subst hr; simp
      have := hrd r this
      omega)
    rw [← hlen, runD_fuel T (rs.length - 1) rs.length rest _ hrl (by omega), hbt] at hstep
    refine ⟨rs1 ++ blk, rest, G ++ grantL t blk, max (t - (qsOf (prs blk)).sum) 0 - T nx, by rw [h.split, hcut, List.append_assoc], fun r hr => ?_, hrd, ?_, ?_, ?_, hasc, hev, fun g hg => ?_⟩
    · rcases List.mem_append.1 hr with hr | hr
      · have := h.before r hr; omega
      · have := hday r hr; omega
    · rw [h.run, hstep]
      simp [List.append_assoc]
    · rw [show nx + 1 - 1 = nx by omega]; omega
    · rw [List.flatMap_append, h.grants, List.map_append, grantL_pairs]
      simp [e4]
    · rcases List.mem_append.1 hg with hg | hg
      · obtain ⟨d, hd, h5⟩ := h.each g hg
        exact ⟨d, by simp [hd], h5⟩
      · obtain ⟨h5, h6, r, hr, h7, h8⟩ := grantL_mem hg
        refine ⟨x, by simp, by rw [e1, h7, hday r hr], by rw [e2, h5], by rw [e3, h6], ?_⟩
        rw [e4, ← grantL_pairs]
        exact List.mem_map.2 ⟨g, hg, rfl⟩
/-- What is left and what was granted, when nothing is to come. -/
structure DaysF (gs : List Rq) (bal : Int) (ds : List DayR) (left : Int) : Prop where
  left_ : left = bal
  perm : (ds.flatMap (·.grants)).Perm (gs.map fun g => (g.id, g.grant))
  asc : ds.Pairwise (fun a b => a.day < b.day)
  each : ∀ g ∈ gs, ∃ d ∈ ds, d.day = g.day ∧ d.avail = g.avail ∧ d.asked = g.asked ∧ (g.id, g.grant) ∈ d.grants
theorem DaysP.fin {fs : List Fct} {rs : List Rq} {vol D left : Int} {ds : List DayR} {rs1 rs2 G : List Rq} {b : Int} (h : DaysP (trSum (trOf fs)) rs vol D left ds rs1 rs2 G b) (hr : ReqList fs rs) (h1 : ∀ r ∈ rs, r.day < D) (h2 : trSum (trOf fs) (D - 1) = trAll (trOf fs)) {gs : List Rq} {bal : Int} (hs : Settled fs vol gs bal) : DaysF gs bal ds left := by
  have hnil : rs2 = [] := by
    cases hc : rs2 with
    | nil => rfl
    | cons r rs2' =>
      have h3 := h.behind r (by rw [hc]; simp)
      have h4 := h1 r (by rw [h.split, hc]; simp)
      omega
  subst hnil
  have hrun := h.run
  rw [runD_nil, List.append_nil] at hrun
  obtain ⟨rs', k1, k2, k3, k4⟩ := settled_list.1 hs
  obtain rfl := hr.unique k1
  rw [hrun] at k2 k4
  refine ⟨by rw [h.left_, h2, k4], ?_, h.asc, fun g hg => h.each g (k2.mem_iff.1 hg)⟩
  rw [h.grants]
  exact (k2.map _).symm
end Go.Proofs.YtemhiifgplaldaaGreat

namespace Go.Proofs.YtemhiifgplaldaaGreat
open Go.RowKit
set_option linter.unusedVariables false

theorem sort_exists {α : Type} (le : α → α → Bool) (h1 : ∀ a b c, le a b = true → le b c = true → le a c = true) (h2 : ∀ a b, (le a b || le b a) = true) (L : List α) : ∃ S : List α, S.Perm L ∧ S.Pairwise (fun a b => le a b = true) :=
  ⟨L.mergeSort le, List.mergeSort_perm L le, List.pairwise_mergeSort (le := le) h1 h2 L⟩
theorem reqList_eff {fs : List Fct} {os : List Ak} (h : EffP fs fs os) : ∃ rs, ReqList fs rs ∧ (rs.map (·.id)).Perm (os.map (·.id)) := by
  obtain ⟨L, hL⟩ : ∃ L, L = os.map fun o => rqOf fs o.id := ⟨_, rfl⟩
  have hid : ∀ o ∈ os, (rqOf fs o.id).id = o.id := fun o ho => by
    obtain ⟨f, hf⟩ := Option.isSome_iff_exists.1 ((h.mem o.id).1 ⟨o, ho, rfl⟩)
    unfold rqOf; rw [hf]
  have hids : L.map (·.id) = os.map (·.id) := by
    rw [hL, List.map_map]
    exact List.map_congr_left fun o ho => hid o ho
  have hnd : (os.map (·.id)).Nodup := by
    rw [List.Nodup, List.pairwise_map]
    exact h.asc.imp fun {a b} hab => by omega
  obtain ⟨S, hp, hs⟩ := sort_exists (fun a b : Rq => decide (a.day < b.day ∨ (a.day = b.day ∧ a.id ≤ b.id))) (fun a b c h1 h2 => by simp at h1 h2 ⊢; omega) (fun a b => by simp; omega) L
  have hnd2 : (S.map (·.id)).Nodup := by rw [(hp.map _).nodup_iff, hids]; exact hnd
  refine ⟨S, ⟨hnd2, fun id => ?_, fun r hr => ?_, fun i j hij hj => ?_⟩, by rw [← hids]; exact hp.map _⟩
  · rw [← h.mem id]
    constructor
    · rintro ⟨r, hr, e⟩
      have := hp.mem_iff.1 hr
      rw [hL] at this
      obtain ⟨o, ho, rfl⟩ := List.mem_map.1 this
      exact ⟨o, ho, by rw [← e, hid o ho]⟩
    · rintro ⟨o, ho, e⟩
      exact ⟨rqOf fs o.id, hp.mem_iff.2 (by rw [hL]; exact List.mem_map.2 ⟨o, ho, rfl⟩), by rw [hid o ho]; exact e⟩
  · have := hp.mem_iff.1 hr
    rw [hL] at this
    obtain ⟨o, ho, rfl⟩ := List.mem_map.1 this
    rw [hid o ho]
  · rw [getElem!_pos _ i (by omega), getElem!_pos _ j hj]
    have h1 := List.pairwise_iff_getElem.1 hs i j (by omega) hj hij
    have h2 := List.pairwise_iff_getElem.1 hnd2 i j (by simp; omega) (by simpa using hj) hij
    rw [List.getElem_map, List.getElem_map] at h2
    simp at h1
    omega
theorem runD_ids (T : Int → Int) : ∀ (m : Nat) (rs : List Rq) (b : Int), rs.length ≤ m → (runD T m rs b).1.map (·.id) = rs.map (·.id) := by
  intro m
  induction m with
  | zero =>
    intro rs b h
    obtain rfl : rs = [] := List.eq_nil_of_length_eq_zero (by omega)
    rfl
  | succ m ih =>
    intro rs b h
    cases rs with
    | nil => rfl
    | cons r rs =>
      have hl : ((r :: rs).dropWhile fun x => x.day == r.day).length ≤ rs.length := by
        rw [List.dropWhile_cons_of_pos (by simp)]
        exact (List.dropWhile_sublist _).length_le
      simp only [List.length_cons] at h
      rw [runD]
      simp only [List.map_append]
      rw [ih _ _ (by omega)]
      have h1 : ∀ (t : Int) (blk : List Rq), (grantL t blk).map (·.id) = blk.map (·.id) := fun t blk => by
        unfold grantL
        rw [List.map_map]
        apply List.ext_getElem
        · simp
        · intro i h1 h2
          simp at h1
          rw [List.getElem_map, List.getElem_map, List.getElem_range]
          show blk[i]!.id = _
          rw [getElem!_pos blk i h1]
      rw [h1, ← List.map_append, List.takeWhile_append_dropWhile]
theorem settled_of {fs : List Fct} {os : List Ak} (h : EffP fs fs os) (vol : Int) : ∃ gs bal, Settled fs vol gs bal := by
  obtain ⟨rs, h1, _⟩ := reqList_eff h
  obtain ⟨R, hR⟩ : ∃ R, R = (runD (trSum (trOf fs)) rs.length rs vol).1 := ⟨_, rfl⟩
  have hnd : (R.map (·.id)).Nodup := by rw [hR, runD_ids _ _ _ _ (Nat.le_refl _)]; exact h1.nodup
  obtain ⟨S, hp, hs⟩ := sort_exists (fun a b : Rq => decide (a.id ≤ b.id)) (fun a b c h1 h2 => by simp at h1 h2 ⊢; omega) (fun a b => by simp; omega) R
  have hnd2 : (S.map (·.id)).Nodup := by rw [(hp.map _).nodup_iff]; exact hnd
  refine ⟨S, _, settled_list.2 ⟨rs, h1, by rw [← hR]; exact hp, fun i j hij hj => ?_, rfl⟩⟩
  rw [getElem!_pos _ i (by omega), getElem!_pos _ j hj]
  have h2 := List.pairwise_iff_getElem.1 hs i j (by omega) hj hij
  have h3 := List.pairwise_iff_getElem.1 hnd2 i j (by simp; omega) (by simpa using hj) hij
  rw [List.getElem_map, List.getElem_map] at h3
  simp at h2
  omega
end Go.Proofs.YtemhiifgplaldaaGreat

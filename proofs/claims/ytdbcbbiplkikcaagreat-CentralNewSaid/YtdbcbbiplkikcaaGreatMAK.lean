/-
  The contract of quotabook.changes. No statement of the seat is proved here. Conditions: both books' facts are in range.
  Facts in order of their numbers: the insertion of one. No statement of the seat is proved here.
  The contract of quotabook.Apply at valid books and valid facts. No statement of the seat is proved here. Conditions: as typed.
  What chapter 23 says of reservations, as plain functions, and their laws. No statement of the seat is proved here. No conditions.
-/
import Derived.Test.YtdbcbbiplkikcaaGreatMAJ
import Derived.Test.YtdbcbbiplkikcaaGreatMAA
namespace Go.Proofs.YtdbcbbiplkikcaaGreat
open Go.RowKit Go.Maps
set_option linter.unusedVariables false

theorem ownsMap_keep {H : Type} {P : Program} {k : TypeId} {R : Value → Option (DataW H × List MemPlace)} {w w' : World} {b n : Nat} {D : DataW H} (h : w.ownsMap P k R b n D) (hb : RowKit.Below w.heap.size w w') : w'.ownsMap P k R b n D := by
  have hl := h.lt
  obtain ⟨es, clock, h1, h2⟩ := h
  exact ⟨es, clock, (hb.block b hl).trans h1, h2⟩
/-- The grant of an ID, 0 where there is none. -/
def grOf (gs : List Rq) (id : Int) : Int := gs.foldl (fun a r => if r.id = id then r.grant else a) 0
theorem grOf_snoc (gs : List Rq) (r : Rq) (id : Int) : grOf (gs ++ [r]) id = if r.id = id then r.grant else grOf gs id := by simp [grOf, List.foldl_append]
structure Cg where
  id : Int
  before : Int
  after : Int
deriving Inhabited, DecidableEq
def encG (x : Cg) : List Value := [.int .i64 x.id, .int .i64 x.before, .int .i64 x.after]
theorem encG_len (x : Cg) : (encG x).length = 3 := rfl
theorem encG_one (x : Cg) : ∀ v ∈ encG x, v.oneCell' = true := fun v hv => by
  simp [encG] at hv
  rcases hv with rfl | rfl | rfl <;> rfl
/-- The changes from one list of grants to another. -/
def chgs (ga gb : List Rq) : List Cg := gb.filterMap fun r => if grOf ga r.id = r.grant then none else some ⟨r.id, grOf ga r.id, r.grant⟩
theorem chgs_snoc (ga gb : List Rq) (r : Rq) : chgs ga (gb ++ [r]) = chgs ga gb ++ if grOf ga r.id = r.grant then [] else [⟨r.id, grOf ga r.id, r.grant⟩] := by
  unfold chgs
  rw [List.filterMap_append]
  congr 1
  by_cases e : grOf ga r.id = r.grant <;> simp [e]
theorem Recs.getR {w : World} {A : Option Addr} {n : Nat} {xs : List Rq} (h : Recs encR 6 w A n xs) {i : Nat} (hi : i < n) :
    ∃ b off x, A = some ⟨b, off, none⟩ ∧ b < w.heap.size ∧ w.cell? ⟨b, off + i * 6, none⟩ = some (.int .i64 x.id) ∧ w.cell? ⟨b, off + i * 6 + 1, none⟩ = some (.int .i64 x.day) ∧ w.cell? ⟨b, off + i * 6 + 2, none⟩ = some (.int .i64 x.avail) ∧ w.cell? ⟨b, off + i * 6 + 3, none⟩ = some (.int .i64 x.asked) ∧ w.cell? ⟨b, off + i * 6 + 4, none⟩ = some (.int .i64 x.req) ∧ w.cell? ⟨b, off + i * 6 + 5, none⟩ = some (.int .i64 x.grant) ∧ Hid (xs[i]! = x) := by
  obtain ⟨b, off, e, hb, hc⟩ := h.at_ hi
  exact ⟨b, off, xs[i]!, e, hb, hc 0 (by omega), hc 1 (by omega), hc 2 (by omega), hc 3 (by omega), hc 4 (by omega), hc 5 (by omega), rfl⟩
theorem infoG3 : (Tryz.prog.info? 167).map (fun i => (i.zero, i.size, i.bytes)) = some (some (.agg #[.int .i64 0, .int .i64 0, .int .i64 0]), 3, 24) := by kernel_rfl
/-- What changes returns. -/
def ChgRes (w : World) (fa fb : List Fct) (va vb : Int) (e : Ending) (w' : World) : Prop := ∃ (B : Option Addr) (m d : Nat) (ga gb : List Rq) (ba bb : Int), e = .returned (.slice B m d) ∧ Settled fa va ga ba ∧ Settled fb vb gb bb ∧ (chgs ga gb).length = m ∧ w'.ownsRow w.heap.size 167 3 (.slice B m d) m (flat encG (chgs ga gb)) ∧ RowKit.Below w.heap.size w w'
/-- Facts that settle takes. -/
structure FGood (fs : List Fct) (vol : Int) : Prop where
  len : fs.length ≤ 200
  ok : ∀ x ∈ fs, FOk x
  ids : ∀ x ∈ fs, x.kind = 1 → 1 ≤ x.id
  v0 : 0 ≤ vol
  v1 : vol ≤ 100000000000

set_option maxRecDepth 100000 in
set_option maxHeartbeats 8000000 in
theorem changes_any (qa va fra ta : Int) (A : Option Addr) (n c : Nat) (fa : List Fct) (qb vb frb tb : Int) (A2 : Option Addr) (n2 c2 : Nat) (fb : List Fct) (w : World) (h : Recs encF 5 w A n fa) (h2 : Recs encF 5 w A2 n2 fb) (hga : FGood fa va) (hgb : FGood fb vb) :
    Calls Tryz.prog 113 #[.agg #[.int .i64 qa, .int .i64 va, .int .i64 fra, .int .i64 ta, .slice A n c], .agg #[.int .i64 qb, .int .i64 vb, .int .i64 frb, .int .i64 tb, .slice A2 n2 c2]] w (ChgRes w fa fb va vb) := by
  have HGA := Lib.hid hga
  have HGB := Lib.hid hgb
  have hmm := @run_makeMap Tryz.prog
  obtain ⟨W0, hW0⟩ : ∃ W, W = (w.alloc (.cells #[.int .i64 qa, .int .i64 va, .int .i64 fra, .int .i64 ta, .slice A n c] 54)).alloc (.cells #[.int .i64 qb, .int .i64 vb, .int .i64 frb, .int .i64 tb, .slice A2 n2 c2] 54) := ⟨_, rfl⟩
  have hb0 : RowKit.Below w.heap.size w W0 := by rw [hW0]; exact ((Below.refl _ _).alloc (Nat.le_refl _) _).alloc (by simp) _
  have hx0 : Bl W0 w.heap.size 54 #[.int .i64 qa, .int .i64 va, .int .i64 fra, .int .i64 ta, .slice A n c] := by rw [hW0]; exact (Bl.new w _ _).alloc _
  have hy0 : Bl W0 (w.heap.size + 1) 54 #[.int .i64 qb, .int .i64 vb, .int .i64 frb, .int .i64 tb, .slice A2 n2 c2] := by rw [hW0]; have := Bl.new (w.alloc (.cells #[.int .i64 qa, .int .i64 va, .int .i64 fra, .int .i64 ta, .slice A n c] 54)) 54 #[.int .i64 qb, .int .i64 vb, .int .i64 frb, .int .i64 tb, .slice A2 n2 c2]; simpa using this
  have hra := h.below hb0
  have hrb := h2.below hb0
  have hW0s : W0.heap.size = w.heap.size + 2 := by rw [hW0]; simp
  clear h h2 hga hgb
  go_enter Tryz.func113, Tryz.ntmps113
  go_upto_region 1 with (fail)
  rw [← hW0]
  clear hW0
  have p0 : W0.cell? ⟨w.heap.size, 0, none⟩ = some (.int .i64 qa) := hx0.cell 0
  have p1 : W0.cell? ⟨w.heap.size, 1, none⟩ = some (.int .i64 va) := hx0.cell 1
  have p2 : W0.cell? ⟨w.heap.size, 2, none⟩ = some (.int .i64 fra) := hx0.cell 2
  have p3 : W0.cell? ⟨w.heap.size, 3, none⟩ = some (.int .i64 ta) := hx0.cell 3
  have p4 : W0.cell? ⟨w.heap.size, 4, none⟩ = some (.slice A n c) := hx0.cell 4
  have HS := Lib.hid (settle_any qa va fra ta A n c fa W0 hra (by have := HGA.out.len; have := hra.1; omega) HGA.out.ok HGA.out.ids HGA.out.v0 HGA.out.v1)
  go_wp2_with fail
  refine HS.out.mono ?_
  intro e w1 hres
  obtain ⟨B1, m1, d1, ga, ba, rfl, hst, hgl, hm1, ho1, hb1⟩ := hres.settled
  clear HS hres p0 p1 p2 p3 p4 hx0
  have hw1 := hb1.size
  have HST := Lib.hid hst
  have HLW := Lib.hid (hst.law HGA.out.ok HGA.out.ids HGA.out.v0)
  have hm200 : m1 ≤ 200 := by have := HGA.out.len; omega
  have hr1 : Recs encR 6 w1 B1 m1 ga := Recs.of_own encR_len ho1 hgl
  have hy1 := hy0.keep hb1
  have hrb1 := hrb.below hb1
  have hB1 := hb0.trans (hb1.mono (by omega))
  have HOM := Lib.hid (World.ownsMap_made w1 Tryz.prog 3 (plainElem (H := Unit) Tryz.prog 3))
  clear ho1 hst hy0 hrb hb1 hra
  go_wp2
  clear hmm
  go_loopw [23] (fun i wx => ∃ (k : Nat) (D : DataW Unit), k ≤ m1 ∧ i = .int .i64 k ∧ wx.ownsMap Tryz.prog 3 (plainElem Tryz.prog 3) w1.heap.size k D ∧ Hid (∀ id : Int, D.atKey (.int .i64 id) (.lit (.int .i64 0)) = .lit (.int .i64 (grOf (ga.take k) id))) ∧ RowKit.Below w1.heap.size w1 wx) (fun i _ => m1 - (intOf i).toNat)
  case atStart => exact ⟨0, _, Nat.zero_le _, rfl, HOM.out, fun _ => rfl, (Below.refl _ _).alloc (Nat.le_refl _) _⟩
  case round =>
    clear HOM
    obtain ⟨k, D, hk, rfl, hO, HM, hb⟩ := hrel
    by_cases hlt : k < m1
    · obtain ⟨b, off, x, hB, hbl, c0, c1, c2, c3, c4, c5, HX⟩ := (hr1.below hb).getR hlt
      subst hB
      have hxm : x ∈ ga := by have := HX.out; rw [← this, getElem!_pos ga k (by omega)]; exact List.getElem_mem _
      obtain ⟨o1, o2, o3, o4, o5, o6⟩ := HLW.out.each x hxm
      clear o6
      have HKEY : Hid (keyOf Tryz.prog 3 (.int .i64 x.id) = some (.int .i64 x.id)) := keyOf_int_mk Tryz.underlying3 (wf_small (by omega) (by omega))
      have HWF : Hid (plainElem (H := Unit) Tryz.prog 3 (.int .i64 x.grant) = some (.lit (.int .i64 x.grant), [])) := plainElem_int Tryz.underlying3 (wf_small (by omega) (by omega))
      have HP : Hid (∀ id : Int, (D.put (.int .i64 x.id) (.lit (.int .i64 x.grant))).atKey (.int .i64 id) (.lit (.int .i64 0)) = .lit (.int .i64 (grOf (ga.take (k + 1)) id))) := by
        intro id
        rw [List.take_succ_eq_append_getElem (by omega), grOf_snoc]
        have hx := HX.out
        rw [getElem!_pos ga k (by omega)] at hx
        rw [hx]
        by_cases e : id = x.id
        · subst e
          rw [if_pos rfl]
          exact atKey_put_same hO.isMap (key_lit _) _ _
        · rw [atKey_put_other (lit_ne e), if_neg (fun q => e q.symm)]
          exact HM.out id
      have hb4 : RowKit.Below w1.heap.size w1 (wr.alloc (.cells #[.int .i64 x.id, .int .i64 x.day, .int .i64 x.avail, .int .i64 x.asked, .int .i64 x.req, .int .i64 x.grant] 264)) := hb.alloc hb.size _
      have hx4 := Bl.new wr 264 #[.int .i64 x.id, .int .i64 x.day, .int .i64 x.avail, .int .i64 x.asked, .int .i64 x.req, .int .i64 x.grant]
      have HO4 := Lib.hid (hO.alloc (.cells #[.int .i64 x.id, .int .i64 x.day, .int .i64 x.avail, .int .i64 x.asked, .int .i64 x.req, .int .i64 x.grant] 264))
      clear hO
      go_upto_region 6 with (fail)
      clear c0 c1 c2 c3 c4 c5
      generalize wr.alloc (.cells #[.int .i64 x.id, .int .i64 x.day, .int .i64 x.avail, .int .i64 x.asked, .int .i64 x.req, .int .i64 x.grant] 264) = W4 at *
      generalize wr.heap.size = g4 at *
      have q0 : W4.cell? ⟨g4, 0, none⟩ = some (.int .i64 x.id) := hx4.cell 0
      have q5 : W4.cell? ⟨g4, 5, none⟩ = some (.int .i64 x.grant) := hx4.cell 5
      clear hb hbl
      go_wp2_with (at_mapUpdate; refine wpList_mapUpdate_own _ rfl _ _ _ 260 rfl 3 3 klawI Tryz.underlying260 _ w1.heap.size k _ rfl HO4.out (by unfold maxLen; omega) _ _ _ rfl rfl HKEY.out _ [] HWF.out ?_; intro w6 ho6 hg6)
      have HB6 : Hid (RowKit.Below w1.heap.size w1 w6) := hb4.grown hg6 hb4.size (fun j hj => by cases hj; omega)
      clear hg6
      go_roundw
      case rel => exact ⟨k + 1, _, by omega, by go_num, ho6, HP, HB6.out⟩
      case measure => simp [intOf]; omega
    · obtain rfl : m1 = k := by omega
      rw [List.take_of_length_le (by omega)] at HM
      have hy2 := hy1.keep hb
      have hrb2 := hrb1.below hb
      have hB2 := hB1.trans (hb.mono hB1.size)
      have p0 : wr.cell? ⟨w.heap.size + 1, 0, none⟩ = some (.int .i64 qb) := hy2.cell 0
      have p1 : wr.cell? ⟨w.heap.size + 1, 1, none⟩ = some (.int .i64 vb) := hy2.cell 1
      have p2 : wr.cell? ⟨w.heap.size + 1, 2, none⟩ = some (.int .i64 frb) := hy2.cell 2
      have p3 : wr.cell? ⟨w.heap.size + 1, 3, none⟩ = some (.int .i64 tb) := hy2.cell 3
      have p4 : wr.cell? ⟨w.heap.size + 1, 4, none⟩ = some (.slice A2 n2 c2) := hy2.cell 4
      have HS := Lib.hid (settle_any qb vb frb tb A2 n2 c2 fb wr hrb2 (by have := HGB.out.len; have := hrb2.1; omega) HGB.out.ok HGB.out.ids HGB.out.v0 HGB.out.v1)
      clear hlt hk hr1 hy1 hrb1 hB1 hb hy2 hrb2
      go_wp2_with fail
      refine HS.out.mono ?_
      intro e w2 hres
      obtain ⟨B2, m2, d2, gb, bb, rfl, hst2, hgl2, hm2, ho2, hb2⟩ := hres.settled
      clear HS hres p0 p1 p2 p3 p4
      have hO2 := ownsMap_keep hO hb2
      have HST2 := Lib.hid hst2
      have HLW2 := Lib.hid (hst2.law HGB.out.ok HGB.out.ids HGB.out.v0)
      have hm2b : m2 ≤ 200 := by have := HGB.out.len; omega
      have hr2 : Recs encR 6 w2 B2 m2 gb := Recs.of_own encR_len ho2 hgl2
      have HB2 := Lib.hid (hB2.trans (hb2.mono hB2.size))
      have hgm : w1.heap.size < w2.heap.size := hO2.lt
      have HGL2 := Lib.hid hgl2
      clear hO ho2 hst2 hb2 hB2 hm2 hgl2
      generalize w1.heap.size = gm at *
      go_wp2_with fail
      go_loopw [10, 41] (fun v i wx => ∃ (k2 : Nat) (B : Option Addr) (m d : Nat), k2 ≤ m2 ∧ i = .int .i64 k2 ∧ v = .slice B m d ∧ m ≤ k2 ∧ Hid ((chgs ga (gb.take k2)).length = m) ∧ wx.ownsMap Tryz.prog 3 (plainElem Tryz.prog 3) gm m1 D ∧ wx.ownsRow w2.heap.size 167 3 (.slice B m d) m (flat encG (chgs ga (gb.take k2))) ∧ RowKit.Below w2.heap.size w2 wx) (fun _ i _ => m2 - (intOf i).toNat)
      case atStart => exact ⟨0, none, 0, 0, Nat.zero_le _, rfl, rfl, Nat.le_refl _, rfl, hO2, ⟨rfl, .inl ⟨rfl, rfl⟩⟩, Below.refl _ _⟩
      case round =>
        clear hO2
        obtain ⟨k2, B, m, d, hk2, rfl, rfl, hmk, HCL, hO, ho, hb⟩ := hrel
        by_cases hlt : k2 < m2
        · obtain ⟨b, off, x, hB, hbl, c0, c1, c2, c3, c4, c5, HX⟩ := (hr2.below hb).getR hlt
          subst hB
          have hxm : x ∈ gb := by have := HX.out; rw [← this, getElem!_pos gb k2 (by have := HGL2.out; omega)]; exact List.getElem_mem _
          obtain ⟨o1, o2, o3, o4, o5, o6⟩ := HLW2.out.each x hxm
          clear o6
          have HKEY : Hid (keyOf Tryz.prog 3 (.int .i64 x.id) = some (.int .i64 x.id)) := keyOf_int_mk Tryz.underlying3 (wf_small (by omega) (by omega))
          have HTK : Hid (gb.take (k2 + 1) = gb.take k2 ++ [x]) := by
            have hx := HX.out
            rw [getElem!_pos gb k2 (by have := HGL2.out; omega)] at hx
            show _ = _
            rw [List.take_succ_eq_append_getElem (by have := HGL2.out; omega), hx]
          have HRE := Lib.hid (HM.out x.id)
          have HSN := Lib.hid (chgs_snoc ga (gb.take k2) x)
          rw [← HTK.out] at HSN
          generalize grOf ga x.id = rv at *
          have hb4 : RowKit.Below w2.heap.size w2 (wr.alloc (.cells #[.int .i64 x.id, .int .i64 x.day, .int .i64 x.avail, .int .i64 x.asked, .int .i64 x.req, .int .i64 x.grant] 264)) := hb.alloc hb.size _
          have hx4 := Bl.new wr 264 #[.int .i64 x.id, .int .i64 x.day, .int .i64 x.avail, .int .i64 x.asked, .int .i64 x.req, .int .i64 x.grant]
          have HO4 := Lib.hid (hO.alloc (.cells #[.int .i64 x.id, .int .i64 x.day, .int .i64 x.avail, .int .i64 x.asked, .int .i64 x.req, .int .i64 x.grant] 264))
          have HR4 := Lib.hid (own_alloc ho (.cells #[.int .i64 x.id, .int .i64 x.day, .int .i64 x.avail, .int .i64 x.asked, .int .i64 x.req, .int .i64 x.grant] 264))
          clear hO ho hxm o1 o2 o3 o4 o5
          go_upto_region 13 with (fail)
          clear c0 c1 c2 c3 c4 c5
          generalize wr.alloc (.cells #[.int .i64 x.id, .int .i64 x.day, .int .i64 x.avail, .int .i64 x.asked, .int .i64 x.req, .int .i64 x.grant] 264) = W4 at *
          generalize wr.heap.size = g4 at *
          have q0 : W4.cell? ⟨g4, 0, none⟩ = some (.int .i64 x.id) := hx4.cell 0
          have q5 : W4.cell? ⟨g4, 5, none⟩ = some (.int .i64 x.grant) := hx4.cell 5
          have l4 := hx4.lt
          clear hb hbl hx4
          by_cases e : rv = x.grant
          · have bn : (rv != x.grant) = false := by simpa using e
            rw [if_pos e, List.append_nil] at HSN
            clear e
            go_wp2_with (first
              | (at_lookup; refine wpList_lookup_own_int _ rfl _ _ 260 rfl 3 3 .i64 klawI Tryz.underlying260 Tryz.underlying3 (zeroI _) gm m1 _ rfl HO4.out _ _ rfl HKEY.out ?_; intro c9 hat hwc; obtain rfl : rv = c9 := lit_eq (HRE.out.symm.trans hat); clear hat hwc)
              | fail)
            go_roundw
            case rel => exact ⟨k2 + 1, B, m, d, by omega, by go_num, rfl, by omega, by show _ = _; rw [HSN.out]; exact HCL.out, HO4.out, by rw [HSN.out]; exact HR4.out, hb4⟩
            case measure => simp [intOf]; omega
          · have bn : (rv != x.grant) = true := by simpa using e
            rw [if_neg e] at HSN
            clear e
            have HOE := Lib.hid (own_alloc HR4.out (.cells #[.int .i64 x.id, .int .i64 rv, .int .i64 x.grant] 167))
            have HOM := Lib.hid (HO4.out.alloc (.cells #[.int .i64 x.id, .int .i64 rv, .int .i64 x.grant] 167))
            have HRD : Hid (Rd (W4.alloc (.cells #[.int .i64 x.id, .int .i64 rv, .int .i64 x.grant] 167)) 3 (some ⟨W4.heap.size, 0, none⟩) 1 (encG ⟨x.id, rv, x.grant⟩)) := rd_new W4 167 (encG ⟨x.id, rv, x.grant⟩)
            have HON : Hid (∀ u ∈ encG ⟨x.id, rv, x.grant⟩, u.oneCell' = true) := encG_one _
            have HM1 : Hid (m + 1 ≤ maxLen ∧ (m + 1) * 24 ≤ 140737488355328) := ⟨by unfold maxLen; omega, by omega⟩
            have HBA : Hid (RowKit.Below w2.heap.size w2 (W4.alloc (.cells #[.int .i64 x.id, .int .i64 rv, .int .i64 x.grant] 167))) := hb4.alloc hb4.size _
            have HOB := Lib.hid (fun j hj => own_base HR4.out j hj)
            go_wp2_with (first
              | (at_lookup; refine wpList_lookup_own_int _ rfl _ _ 260 rfl 3 3 .i64 klawI Tryz.underlying260 Tryz.underlying3 (zeroI _) gm m1 _ rfl HO4.out _ _ rfl HKEY.out ?_; intro c9 hat hwc; obtain rfl : rv = c9 := lit_eq (HRE.out.symm.trans hat); clear hat hwc)
              | (at_builtin; refine wpList_append_rd _ rfl (.tmp 53) (.tmp 64) 163 rfl w2.heap.size 167 _ 3 24 Tryz.underlying163 infoG3 rfl (by decide) (.slice B m d) m _ rfl HOE.out (some ⟨W4.heap.size, 0, none⟩) 1 _ (encG ⟨x.id, rv, x.grant⟩) rfl HRD.out HON.out HM1.out.1 HM1.out.2 HBA.out.size ?_; intro v6 w6 ho6 hg6 _; obtain ⟨B6, d6, rfl⟩ := own_slice ho6))
            have HM6 := Lib.hid (HOM.out.kept hg6 (fun e => by have := HOB.out _ e.symm; omega))
            have HB6 : Hid (RowKit.Below w2.heap.size w2 w6) := HBA.out.grown hg6 HBA.out.size (fun j hj => HOB.out j hj)
            have HO6 : Hid (w6.ownsRow w2.heap.size 167 3 (.slice B6 (m + 1) d6) (m + 1) (flat encG (chgs ga (gb.take (k2 + 1))))) := by
              show World.ownsRow _ _ _ _ _ _ _
              rw [HSN.out, flat_append, flat_one]
              exact ho6
            clear ho6 hg6
            go_roundw
            case rel => exact ⟨k2 + 1, B6, m + 1, d6, by omega, by go_num, rfl, by omega, by show _ = _; rw [HSN.out, List.length_append, HCL.out]; rfl, HM6.out, HO6.out, HB6.out⟩
            case measure => simp [intOf]; omega
        · obtain rfl : m2 = k2 := by omega
          rw [List.take_of_length_le (by have := HGL2.out; omega)] at HCL ho
          have hsz := HB2.out.size
          clear hlt
          go_wp2
          go_ret
          exact ⟨B, m, d, ga, gb, ba, bb, rfl, HST.out, HST2.out, HCL.out, own_mono ho hsz, HB2.out.trans (hb.mono hsz)⟩
end Go.Proofs.YtdbcbbiplkikcaaGreat

namespace Go.Proofs.YtdbcbbiplkikcaaGreat
open Go.RowKit
set_option linter.unusedVariables false

theorem numAsc_pair {fs : List Fct} : numAsc fs ↔ fs.Pairwise (fun a b => a.num < b.num) := by
  constructor
  · intro h
    exact pairwise_of_get fun i j hij hj => num_lt h hij hj
  · intro h r hr
    have := List.pairwise_iff_getElem.1 h r (r + 1) (by omega) (by omega) (by omega)
    rwa [getElem!_pos fs r (by omega), getElem!_pos fs (r + 1) (by omega)]
theorem mem_take_get {α : Type} [Inhabited α] {xs : List α} {i : Nat} {x : α} (h : x ∈ xs.take i) : ∃ k, k < i ∧ k < xs.length ∧ xs[k]! = x := by
  obtain ⟨k, hk, rfl⟩ := List.getElem_of_mem h
  rw [List.length_take] at hk
  exact ⟨k, by omega, by omega, by rw [getElem!_pos xs k (by omega), List.getElem_take]⟩
theorem mem_drop_get {α : Type} [Inhabited α] {xs : List α} {i : Nat} {x : α} (h : x ∈ xs.drop i) : ∃ k, i ≤ k ∧ k < xs.length ∧ xs[k]! = x := by
  obtain ⟨k, hk, rfl⟩ := List.getElem_of_mem h
  rw [List.length_drop] at hk
  exact ⟨i + k, by omega, by omega, by rw [getElem!_pos xs (i + k) (by omega), List.getElem_drop]⟩
theorem numAsc_ins {fs : List Fct} {f : Fct} {I : Nat} (h : numAsc fs) (h1 : ∀ q, q < I → q < fs.length → fs[q]!.num < f.num) (h2 : ∀ q, I ≤ q → q < fs.length → f.num < fs[q]!.num) : numAsc (fs.take I ++ f :: fs.drop I) := by
  rw [numAsc_pair] at h ⊢
  rw [List.pairwise_append, List.pairwise_cons]
  refine ⟨h.take, ⟨fun x hx => ?_, h.drop⟩, fun x hx y hy => ?_⟩
  · obtain ⟨k, k1, k2, rfl⟩ := mem_drop_get hx
    exact h2 k k1 k2
  · obtain ⟨k, k1, k2, rfl⟩ := mem_take_get hx
    rcases List.mem_cons.1 hy with rfl | hy
    · exact h1 k k1 k2
    · obtain ⟨j, j1, j2, rfl⟩ := mem_drop_get hy
      have := List.pairwise_iff_getElem.1 h k j k2 j2 (by omega)
      rwa [getElem!_pos fs k k2, getElem!_pos fs j j2]
theorem perm_ins (fs : List Fct) (f : Fct) (I : Nat) : (fs.take I ++ f :: fs.drop I).Perm (f :: fs) := by
  have := @List.perm_middle Fct f (fs.take I) (fs.drop I)
  rwa [List.take_append_drop] at this
/-- Facts in order are known by their members. -/
theorem numAsc_ext {fs gs : List Fct} (h : numAsc fs) (h' : numAsc gs) (hm : ∀ x, x ∈ fs ↔ x ∈ gs) : fs = gs :=
  sorted_ext (fun a b : Fct => a.num < b.num) (fun a => by omega) (fun a b c => by omega) fs gs (numAsc_pair.1 h) (numAsc_pair.1 h') hm
/-- A valid book. -/
structure BOk (q : Qt) (fs : List Fct) : Prop where
  qok : qOk q = true
  len : fs.length ≤ 200
  ok : ∀ x ∈ fs, fErr q x = 0
  asc : numAsc fs
theorem BOk.err {q : Qt} {fs : List Fct} (h : BOk q fs) : bErr q fs = 0 := bErr_ok h.qok h.len (fun i hi => h.ok _ (by rw [getElem!_pos fs i hi]; exact List.getElem_mem _)) h.asc
theorem BOk.good {q : Qt} {fs : List Fct} (h : BOk q fs) : FGood fs q.vol :=
  ⟨h.len, fun x hx => (fErr_zero (h.ok x hx)).1, fun x hx hk => (fErr_zero (h.ok x hx)).2.2.1 hk, (qOk_yes h.qok).2.2.1, (qOk_yes h.qok).2.2.2.1⟩
theorem BOk.nil {q : Qt} (h : qOk q = true) : BOk q [] := ⟨h, Nat.zero_le _, fun x hx => (by cases hx), fun r hr => (by simp at hr)⟩
theorem BOk.ins {q : Qt} {fs : List Fct} {f : Fct} {I : Nat} (h : BOk q fs) (hf : fErr q f = 0) (hl : fs.length < 200) (h1 : ∀ k, k < I → k < fs.length → fs[k]!.num < f.num) (h2 : ∀ k, I ≤ k → k < fs.length → f.num < fs[k]!.num) : BOk q (fs.take I ++ f :: fs.drop I) := by
  refine ⟨h.qok, ?_, fun x hx => ?_, numAsc_ins h.asc h1 h2⟩
  · rw [(perm_ins fs f I).length_eq]; simp; omega
  · rcases List.mem_cons.1 ((perm_ins fs f I).mem_iff.1 hx) with rfl | hx
    · exact hf
    · exact h.ok x hx
theorem put5 {w : World} {N r : Nat} {w' : World} (h : RowKit.Below N w w') (hr : N ≤ r) (a b c d e : Value) : RowKit.Below N w (((((w'.setCell ⟨r, 0, none⟩ a).setCell ⟨r, 1, none⟩ b).setCell ⟨r, 2, none⟩ c).setCell ⟨r, 3, none⟩ d).setCell ⟨r, 4, none⟩ e) :=
  ((((h.setCell (p := ⟨r, 0, none⟩) hr _).setCell (p := ⟨r, 1, none⟩) hr _).setCell (p := ⟨r, 2, none⟩) hr _).setCell (p := ⟨r, 3, none⟩) hr _).setCell (p := ⟨r, 4, none⟩) hr _
theorem own5 {w : World} {N r : Nat} {T : TypeId} {size n : Nat} {v : Value} {xs : List Value} (h : w.ownsRow N T size v n xs) (hr : ∀ g, v.ownBlock = some g → g ≠ r) (a b c d e : Value) : (((((w.setCell ⟨r, 0, none⟩ a).setCell ⟨r, 1, none⟩ b).setCell ⟨r, 2, none⟩ c).setCell ⟨r, 3, none⟩ d).setCell ⟨r, 4, none⟩ e).ownsRow N T size v n xs :=
  own_of_block h fun g hg => ((((Below.heap_setCell _ _ _ g (hr g hg)).trans (Below.heap_setCell _ _ _ g (hr g hg))).trans (Below.heap_setCell _ _ _ g (hr g hg))).trans (Below.heap_setCell _ _ _ g (hr g hg))).trans (Below.heap_setCell _ _ _ g (hr g hg))
theorem set5_bl {w : World} {g : Nat} {T : TypeId} {z0 z1 z2 z3 z4 : Value} (h : Bl w g T #[z0, z1, z2, z3, z4]) (a b c d e : Value) : Bl (((((w.setCell ⟨g, 0, none⟩ a).setCell ⟨g, 1, none⟩ b).setCell ⟨g, 2, none⟩ c).setCell ⟨g, 3, none⟩ d).setCell ⟨g, 4, none⟩ e) g T #[a, b, c, d, e] := by
  have := ((((h.put 0 a).put 1 b).put 2 c).put 3 d).put 4 e
  simpa using this
theorem Bl.c0 {w : World} {g : Nat} {T : TypeId} {z0 z1 z2 z3 z4 : Value} (h : Bl w g T #[z0, z1, z2, z3, z4]) : w.cell? ⟨g, 0, none⟩ = some z0 := h.cell 0
theorem Bl.c1 {w : World} {g : Nat} {T : TypeId} {z0 z1 z2 z3 z4 : Value} (h : Bl w g T #[z0, z1, z2, z3, z4]) : w.cell? ⟨g, 1, none⟩ = some z1 := h.cell 1
theorem Bl.c2 {w : World} {g : Nat} {T : TypeId} {z0 z1 z2 z3 z4 : Value} (h : Bl w g T #[z0, z1, z2, z3, z4]) : w.cell? ⟨g, 2, none⟩ = some z2 := h.cell 2
theorem Bl.c3 {w : World} {g : Nat} {T : TypeId} {z0 z1 z2 z3 z4 : Value} (h : Bl w g T #[z0, z1, z2, z3, z4]) : w.cell? ⟨g, 3, none⟩ = some z3 := h.cell 3
theorem Bl.c4 {w : World} {g : Nat} {T : TypeId} {z0 z1 z2 z3 z4 : Value} (h : Bl w g T #[z0, z1, z2, z3, z4]) : w.cell? ⟨g, 4, none⟩ = some z4 := h.cell 4
theorem Bl.far5 {w : World} {k r : Nat} {T : TypeId} {cs : Array Value} (h : Bl w k T cs) (hne : k ≠ r) (a b c d e : Value) : Bl (((((w.setCell ⟨r, 0, none⟩ a).setCell ⟨r, 1, none⟩ b).setCell ⟨r, 2, none⟩ c).setCell ⟨r, 3, none⟩ d).setCell ⟨r, 4, none⟩ e) k T cs := ((((h.far (p := ⟨r, 0, none⟩) hne a).far (p := ⟨r, 1, none⟩) hne b).far (p := ⟨r, 2, none⟩) hne c).far (p := ⟨r, 3, none⟩) hne d).far (p := ⟨r, 4, none⟩) hne e
end Go.Proofs.YtdbcbbiplkikcaaGreat

namespace Go.Proofs.YtdbcbbiplkikcaaGreat
open Go.RowKit
set_option linter.unusedVariables false

/-- A list of facts as callers hold it. -/
structure FRd (w : World) (A : Option Addr) (n c : Nat) (fs : List Fct) : Prop where
  recs : Recs encF 5 w A n fs
  plain : Plain A
  nil : A = none → n = 0
theorem FRd.below {w w' : World} {A : Option Addr} {n c : Nat} {fs : List Fct} (h : FRd w A n c fs) (hb : RowKit.Below w.heap.size w w') : FRd w' A n c fs := ⟨h.recs.below hb, h.plain, h.nil⟩
theorem FRd.empty (w : World) : FRd w none 0 0 [] := ⟨Recs.nil, .inl rfl, fun _ => rfl⟩
theorem FRd.own {w : World} {N n d : Nat} {B : Option Addr} {fs : List Fct} (h : w.ownsRow N 122 5 (.slice B n d) n (flat encF fs)) (hl : fs.length = n) : FRd w B n d fs := by
  refine ⟨Recs.of_own encF_len h hl, ?_, ?_⟩
  · rcases h.2 with ⟨hv, h0⟩ | ⟨g', cap, cur, hv, _⟩
    · injection hv with h5; exact .inl h5
    · injection hv with h5; exact .inr ⟨g', 0, h5⟩
  · rintro rfl
    rcases h.2 with ⟨hv, h0⟩ | ⟨g', cap, cur, hv, _⟩
    · exact h0
    · injection hv with h5; cases h5
theorem FRd.set5 {w : World} {A : Option Addr} {n c g : Nat} {fs : List Fct} (h : FRd w A n c fs) (hg : ∀ b off, A = some ⟨b, off, none⟩ → b ≠ g) (v0 v1 v2 v3 v4 : Value) : FRd (((((w.setCell ⟨g, 0, none⟩ v0).setCell ⟨g, 1, none⟩ v1).setCell ⟨g, 2, none⟩ v2).setCell ⟨g, 3, none⟩ v3).setCell ⟨g, 4, none⟩ v4) A n c fs := by
  refine ⟨⟨h.recs.1, fun h0 => ?_⟩, h.plain, h.nil⟩
  obtain ⟨b, off, e, hb, hc⟩ := h.recs.2 h0
  have hne := hg b off e
  refine ⟨b, off, e, by simpa [World.setCell] using hb, fun i hi c hcc => ?_⟩
  rw [← hc i hi c hcc]
  exact World.cell?_of_block (a := ⟨b, off + i * 5 + c, none⟩) (((((Below.heap_setCell _ _ _ b hne).trans (Below.heap_setCell _ _ _ b hne)).trans (Below.heap_setCell _ _ _ b hne)).trans (Below.heap_setCell _ _ _ b hne)).trans (Below.heap_setCell _ _ _ b hne))
/-- What Apply returns for a new fact. -/
def ApRes (w : World) (q : Qt) (n : Nat) (fs : List Fct) (f : Fct) (e : Ending) (w' : World) : Prop := ∃ (I : Nat) (B : Option Addr) (d : Nat) (C : Option Addr) (m d2 : Nat) (ga gb : List Rq) (ba bb : Int), e = .returned (.tuple #[.agg #[.int .i64 q.id, .int .i64 q.vol, .int .i64 q.fr, .int .i64 q.tod, .slice B (n + 1) d], .slice C m d2, .int .i64 0]) ∧ BOk q (fs.take I ++ f :: fs.drop I) ∧ Settled fs q.vol ga ba ∧ Settled (fs.take I ++ f :: fs.drop I) q.vol gb bb ∧ (chgs ga gb).length = m ∧ w'.ownsRow w.heap.size 122 5 (.slice B (n + 1) d) (n + 1) (flat encF (fs.take I ++ f :: fs.drop I)) ∧ w'.ownsRow w.heap.size 167 3 (.slice C m d2) m (flat encG (chgs ga gb)) ∧ RowKit.Below w.heap.size w w'
/-- What Apply returns for a known fact. -/
def ApSame (w : World) (q : Qt) (n : Nat) (fs : List Fct) (e : Ending) (w' : World) : Prop := ∃ (B : Option Addr) (d : Nat), e = .returned (.tuple #[.agg #[.int .i64 q.id, .int .i64 q.vol, .int .i64 q.fr, .int .i64 q.tod, .slice B n d], .slice none 0 0, .int .i64 0]) ∧ w'.ownsRow w.heap.size 122 5 (.slice B n d) n (flat encF fs) ∧ RowKit.Below w.heap.size w w'
theorem mem_getF {fs : List Fct} {I : Nat} (h : I < fs.length) : fs[I]! ∈ fs := by rw [getElem!_pos fs I h]; exact List.getElem_mem _
theorem get_memF {fs : List Fct} {x : Fct} (h : x ∈ fs) : ∃ I, I < fs.length ∧ fs[I]! = x := by
  obtain ⟨i, hi, rfl⟩ := List.getElem_of_mem h
  exact ⟨i, hi, getElem!_pos fs i hi⟩

set_option maxRecDepth 100000 in
set_option maxHeartbeats 8000000 in
theorem apply_new (q : Qt) (A : Option Addr) (n c : Nat) (fs : List Fct) (f : Fct) (w : World) (h : FRd w A n c fs) (hok : BOk q fs) (hf : fErr q f = 0) (hnew : ∀ x ∈ fs, x.num ≠ f.num) (hl : fs.length < 200) :
    Calls Tryz.prog 76 #[.agg #[.int .i64 q.id, .int .i64 q.vol, .int .i64 q.fr, .int .i64 q.tod, .slice A n c], .agg #[.int .i64 f.num, .int .i64 f.kind, .int .i64 f.day, .int .i64 f.id, .int .i64 f.qty]] w (ApRes w q n fs f) := by
  have HOK := Lib.hid hok
  have HP := Lib.hid h.plain
  have HN0 := Lib.hid h.nil
  have HLN := Lib.hid h.recs.1
  have hn200 : n ≤ 200 := by have := hok.len; have := h.recs.1; omega
  have HV := Lib.hid (fun w' (hb : RowKit.Below w.heap.size w w') => bvalidate_any q A n c fs w' (h.recs.below hb) (by omega))
  have HVF := Lib.hid (fun w => validateFact_any q f w)
  rw [hok.err] at HV
  rw [hf] at HVF
  have HBS := Lib.hid (fun w' (hb : RowKit.Below w.heap.size w w') => bsearch_any A n c fs f.num w' (h.recs.below hb) (by omega) hok.asc)
  have HCLN := Lib.hid (fun w' (hb : RowKit.Below w.heap.size w w') => cloneF_any A n c fs w' (h.recs.below hb) h.plain (by omega) h.nil)
  have HR := Lib.hid h.recs
  clear h hok
  obtain ⟨W0, hW0⟩ : ∃ W, W = ((w.alloc (.cells #[.int .i64 q.id, .int .i64 q.vol, .int .i64 q.fr, .int .i64 q.tod, .slice A n c] 54)).alloc (.cells #[.int .i64 f.num, .int .i64 f.kind, .int .i64 f.day, .int .i64 f.id, .int .i64 f.qty] 122)).alloc (.cells #[.int .i64 0, .int .i64 0, .int .i64 0, .int .i64 0, .slice none 0 0] 54) := ⟨_, rfl⟩
  have hb0 : RowKit.Below w.heap.size w W0 := by rw [hW0]; exact (((Below.refl _ _).alloc (Nat.le_refl _) _).alloc (by simp) _).alloc (by simp; omega) _
  have hx0 : Bl W0 w.heap.size 54 #[.int .i64 q.id, .int .i64 q.vol, .int .i64 q.fr, .int .i64 q.tod, .slice A n c] := by rw [hW0]; exact ((Bl.new w _ _).alloc _).alloc _
  have hf0 : Bl W0 (w.heap.size + 1) 122 #[.int .i64 f.num, .int .i64 f.kind, .int .i64 f.day, .int .i64 f.id, .int .i64 f.qty] := by rw [hW0]; have := (Bl.new (w.alloc (.cells #[.int .i64 q.id, .int .i64 q.vol, .int .i64 q.fr, .int .i64 q.tod, .slice A n c] 54)) 122 #[.int .i64 f.num, .int .i64 f.kind, .int .i64 f.day, .int .i64 f.id, .int .i64 f.qty]).alloc (.cells #[.int .i64 0, .int .i64 0, .int .i64 0, .int .i64 0, .slice none 0 0] 54); simpa using this
  have hr0 : Bl W0 (w.heap.size + 1 + 1) 54 #[.int .i64 0, .int .i64 0, .int .i64 0, .int .i64 0, .slice none 0 0] := by rw [hW0]; have := Bl.new ((w.alloc (.cells #[.int .i64 q.id, .int .i64 q.vol, .int .i64 q.fr, .int .i64 q.tod, .slice A n c] 54)).alloc (.cells #[.int .i64 f.num, .int .i64 f.kind, .int .i64 f.day, .int .i64 f.id, .int .i64 f.qty] 122)) 54 #[.int .i64 0, .int .i64 0, .int .i64 0, .int .i64 0, .slice none 0 0]; simpa using this
  go_enter Tryz.func76, Tryz.ntmps76
  go_upto_region 1 with (fail)
  rw [← hW0]
  clear hW0
  have p0 : W0.cell? ⟨w.heap.size, 0, none⟩ = some (.int .i64 q.id) := hx0.cell 0
  have p1 : W0.cell? ⟨w.heap.size, 1, none⟩ = some (.int .i64 q.vol) := hx0.cell 1
  have p2 : W0.cell? ⟨w.heap.size, 2, none⟩ = some (.int .i64 q.fr) := hx0.cell 2
  have p3 : W0.cell? ⟨w.heap.size, 3, none⟩ = some (.int .i64 q.tod) := hx0.cell 3
  have p4 : W0.cell? ⟨w.heap.size, 4, none⟩ = some (.slice A n c) := hx0.cell 4
  go_wp2_with fail
  refine (HV.out _ hb0).mono ?_
  rintro e w1 ⟨rfl, hb1⟩
  have hB1 := hb0.trans (hb1.mono hb0.size)
  have hx1 := hx0.keep hb1
  have hf1 := hf0.keep hb1
  have hr1 := hr0.keep hb1
  clear p0 p1 p2 p3 p4 hx0 hf0 hr0 hb0 hb1 HV
  have p0 : w1.cell? ⟨w.heap.size, 0, none⟩ = some (.int .i64 q.id) := hx1.cell 0
  have p1 : w1.cell? ⟨w.heap.size, 1, none⟩ = some (.int .i64 q.vol) := hx1.cell 1
  have p2 : w1.cell? ⟨w.heap.size, 2, none⟩ = some (.int .i64 q.fr) := hx1.cell 2
  have p3 : w1.cell? ⟨w.heap.size, 3, none⟩ = some (.int .i64 q.tod) := hx1.cell 3
  have p4 : w1.cell? ⟨w.heap.size, 4, none⟩ = some (.slice A n c) := hx1.cell 4
  have f0 : w1.cell? ⟨w.heap.size + 1, 0, none⟩ = some (.int .i64 f.num) := hf1.cell 0
  have f1 : w1.cell? ⟨w.heap.size + 1, 1, none⟩ = some (.int .i64 f.kind) := hf1.cell 1
  have f2 : w1.cell? ⟨w.heap.size + 1, 2, none⟩ = some (.int .i64 f.day) := hf1.cell 2
  have f3 : w1.cell? ⟨w.heap.size + 1, 3, none⟩ = some (.int .i64 f.id) := hf1.cell 3
  have f4 : w1.cell? ⟨w.heap.size + 1, 4, none⟩ = some (.int .i64 f.qty) := hf1.cell 4
  go_wp2_with fail
  refine (HVF.out _).mono ?_
  rintro e w2 ⟨rfl, hb2⟩
  have hB2 := hB1.trans (hb2.mono hB1.size)
  have hx2 := hx1.keep hb2
  have hf2 := hf1.keep hb2
  have hr2 := hr1.keep hb2
  clear p0 p1 p2 p3 p4 f0 f1 f2 f3 f4 hx1 hf1 hr1 hB1 hb2 HVF
  have p4 : w2.cell? ⟨w.heap.size, 4, none⟩ = some (.slice A n c) := hx2.cell 4
  have f0 : w2.cell? ⟨w.heap.size + 1, 0, none⟩ = some (.int .i64 f.num) := hf2.cell 0
  go_wp2_with fail
  refine (HBS.out _ hB2).mono ?_
  rintro e w3 ⟨I, fb, rfl, hI, hI1, hI2, hfb, hb3⟩
  have hB3 := hB2.trans (hb3.mono hB2.size)
  have hx3 := hx2.keep hb3
  have hf3 := hf2.keep hb3
  have hr3 := hr2.keep hb3
  have HI1 := Lib.hid hI1
  have HI2 := Lib.hid hI2
  have HFB := Lib.hid hfb
  clear p4 f0 hx2 hf2 hr2 hB2 hb3 HBS hI1 hI2 hfb
  obtain rfl : fb = false := by
    cases fb
    · rfl
    · have := HFB.out.1 rfl
      exact absurd this.2 (hnew _ (mem_getF this.1))
  have HI3 : Hid (∀ k, I ≤ k → k < fs.length → f.num < fs[k]!.num) := fun k h1 h2 => by
    have := HI2.out k h1 h2
    have := hnew _ (mem_getF h2)
    omega
  have HBO := Lib.hid (HOK.out.ins hf hl (fun k h1 _ => HI1.out k h1) HI3.out)
  have hln : n < 200 := by have := HLN.out; omega
  have HIN : Hid (I ≤ n) := by have := HLN.out; show _ ≤ _; omega
  clear hnew hl hf HI2 HFB hI
  have p0 : w3.cell? ⟨w.heap.size, 0, none⟩ = some (.int .i64 q.id) := hx3.cell 0
  have p1 : w3.cell? ⟨w.heap.size, 1, none⟩ = some (.int .i64 q.vol) := hx3.cell 1
  have p2 : w3.cell? ⟨w.heap.size, 2, none⟩ = some (.int .i64 q.fr) := hx3.cell 2
  have p3 : w3.cell? ⟨w.heap.size, 3, none⟩ = some (.int .i64 q.tod) := hx3.cell 3
  have p4 : w3.cell? ⟨w.heap.size, 4, none⟩ = some (.slice A n c) := hx3.cell 4
  have HX3 := Lib.hid hx3
  have HCL2 : Hid (∀ wx, RowKit.Below w3.heap.size w3 wx → Calls Tryz.prog 48 #[.slice A n c] wx fun e w' => ∃ (B : Option Addr) (d : Nat), e = .returned (.slice B n d) ∧ w'.ownsRow w3.heap.size 122 5 (.slice B n d) n (flat encF fs) ∧ RowKit.Below w3.heap.size w3 w' ∧ RowKit.Below wx.heap.size wx w') := fun wx hb => (HCLN.out wx (hB3.trans (hb.mono hB3.size))).mono fun e w' ⟨B, d, h1, h2, h3⟩ => ⟨B, d, h1, own_mono h2 hb.size, hb.trans (h3.mono hb.size), h3⟩
  have HBN : Hid (RowKit.Below w3.heap.size w3 w3.drew) := (Below.refl _ _).drew
  have HBA : Hid (RowKit.Below w3.heap.size w3 (w3.alloc (.cells #[.int .i64 0, .int .i64 0, .int .i64 0, .int .i64 0, .slice none 0 0] 54)).drew) := ((Below.refl _ _).alloc (Nat.le_refl _) _).drew
  have lx := hx3.lt
  clear hx3 HCLN
  go_upto_region 8 with (fail)
  go_cut [11] (fun v wx => ∃ (g : Nat) (B : Option Addr) (d : Nat), v = .pointer (some ⟨g, 0, none⟩) ∧ w3.heap.size ≤ g ∧ Bl wx g 54 #[.int .i64 q.id, .int .i64 q.vol, .int .i64 q.fr, .int .i64 q.tod, .slice B n d] ∧ wx.ownsRow w3.heap.size 122 5 (.slice B n d) n (flat encF fs) ∧ RowKit.Below w3.heap.size w3 wx)
  case first =>
    go_region_held3 (fun w' => w'.cell? ⟨w.heap.size, 0, none⟩ = some (.int .i64 q.id) ∧ w'.cell? ⟨w.heap.size, 1, none⟩ = some (.int .i64 q.vol) ∧ w'.cell? ⟨w.heap.size, 2, none⟩ = some (.int .i64 q.fr) ∧ w'.cell? ⟨w.heap.size, 3, none⟩ = some (.int .i64 q.tod) ∧ w'.cell? ⟨w.heap.size, 4, none⟩ = some (.slice A n c))
      (first
        | go_keep
        | exact ⟨(HX3.out.keep hb5.out).cell 0, (HX3.out.keep hb5.out).cell 1, (HX3.out.keep hb5.out).cell 2, (HX3.out.keep hb5.out).cell 3, (HX3.out.keep hb5.out).cell 4⟩
        | exact ⟨((HX3.out.keep hb5.out).alloc _).cell 0, ((HX3.out.keep hb5.out).alloc _).cell 1, ((HX3.out.keep hb5.out).alloc _).cell 2, ((HX3.out.keep hb5.out).alloc _).cell 3, ((HX3.out.keep hb5.out).alloc _).cell 4⟩)
      (first
        | (go_at_call 48; with_reducible (refine (HCL2.out _ ?_).mono ?_); with_reducible (exact HBN.out); rintro e w5 ⟨B5, d5, rfl, ho5', hb5', _⟩; have hb5 := Lib.hid hb5'; have ho5 := Lib.hid ho5'; clear hb5' ho5'; have l5 : w.heap.size < w5.heap.size := Nat.lt_of_lt_of_le lx hb5.out.size)
        | (go_at_call 48; with_reducible (refine (HCL2.out _ ?_).mono ?_); with_reducible (exact HBA.out); rintro e w5 ⟨B5, d5, rfl, ho5', hb5', hbx'⟩; have hb5 := Lib.hid hb5'; have ho5 := Lib.hid ho5'; clear hb5' ho5'; have l5 : w.heap.size < w5.heap.size := Nat.lt_of_lt_of_le lx hb5.out.size; have HZ5 := Lib.hid (((Bl.new w3 54 #[.int .i64 0, .int .i64 0, .int .i64 0, .int .i64 0, .slice none 0 0]).drew).keep hbx'); clear hbx'; have z0 : w5.cell? ⟨w3.heap.size, 0, none⟩ = some (.int .i64 0) := HZ5.out.c0; have zf0 : w5.frozen? ⟨w3.heap.size, 0, none⟩ = false := HZ5.out.free 0; have z1 : w5.cell? ⟨w3.heap.size, 1, none⟩ = some (.int .i64 0) := HZ5.out.c1; have zf1 : w5.frozen? ⟨w3.heap.size, 1, none⟩ = false := HZ5.out.free 1; have z2 : w5.cell? ⟨w3.heap.size, 2, none⟩ = some (.int .i64 0) := HZ5.out.c2; have zf2 : w5.frozen? ⟨w3.heap.size, 2, none⟩ = false := HZ5.out.free 2; have z3 : w5.cell? ⟨w3.heap.size, 3, none⟩ = some (.int .i64 0) := HZ5.out.c3; have zf3 : w5.frozen? ⟨w3.heap.size, 3, none⟩ = false := HZ5.out.free 3; have z4 : w5.cell? ⟨w3.heap.size, 4, none⟩ = some (.slice none 0 0) := HZ5.out.c4; have zf4 : w5.frozen? ⟨w3.heap.size, 4, none⟩ = false := HZ5.out.free 4; have ln : w.heap.size ≠ w3.heap.size := Nat.ne_of_lt lx; have ln2 : w3.heap.size ≠ w.heap.size := Nat.ne_of_gt lx))
    · go_wp2_with fail
      go_meet
      exact ⟨_, B5, d5, rfl, hb5.out.size, Bl.new _ _ _, own_alloc ho5.out _, hb5.out.alloc hb5.out.size _⟩
    · go_wp2_with fail
      go_meet
      exact ⟨_, B5, d5, rfl, Nat.le_refl _, set5_bl HZ5.out _ _ _ _ _, own5 ho5.out (fun g hg e => own_apart ho5.out HZ5.out (by decide) (by rw [hg, e])) _ _ _ _ _, put5 hb5.out (Nat.le_refl _) _ _ _ _ _⟩
  case rest =>
    obtain ⟨g, B, d, rfl, hg, hnx, hown, hb4⟩ := hcut
    have hB4 := hB3.trans (hb4.mono hB3.size)
    have hx4 := HX3.out.keep hb4
    have hf4 := hf3.keep hb4
    have hr4 := hr3.keep hb4
    have hfl := hf3.lt
    have hrl := hr3.lt
    have hnl := hnx.lt
    have hs3 := hB3.size
    clear p0 p1 p2 p3 p4 HX3 HCL2 HBN HBA hf3 hr3 hb4 lx

    have x4 : wc.cell? ⟨w.heap.size, 4, none⟩ = some (.slice A n c) := hx4.cell 4
    have n4 : wc.cell? ⟨g, 4, none⟩ = some (.slice B n d) := hnx.cell 4
    have f0 : wc.cell? ⟨w.heap.size + 1, 0, none⟩ = some (.int .i64 f.num) := hf4.cell 0
    have f1 : wc.cell? ⟨w.heap.size + 1, 1, none⟩ = some (.int .i64 f.kind) := hf4.cell 1
    have f2 : wc.cell? ⟨w.heap.size + 1, 2, none⟩ = some (.int .i64 f.day) := hf4.cell 2
    have f3 : wc.cell? ⟨w.heap.size + 1, 3, none⟩ = some (.int .i64 f.id) := hf4.cell 3
    have f4 : wc.cell? ⟨w.heap.size + 1, 4, none⟩ = some (.int .i64 f.qty) := hf4.cell 4
    have hln' : (n : Int) < 200 := by omega
    go_upto_region 9 with (fail)
    go_quiet (fail)
    go_upto_region 15 with (fail)
    have hB5 : RowKit.Below w.heap.size w (wc.drewN nq) := below_drewN hB4 nq
    have hx5 := hx4.drewN nq
    have hf5 := hf4.drewN nq
    have hr5 := hr4.drewN nq
    have hnx5 := hnx.drewN nq
    have hown5 := own_drewN hown nq
    have hsz5 : w3.heap.size ≤ (wc.drewN nq).heap.size := by show _ ≤ wc.heap.size; omega
    clear x4 n4 f0 f1 f2 f3 f4 hB4 hx4 hf4 hr4 hnx hown hnl
    generalize wc.drewN nq = W5 at *
    have hgne : ∀ a, B = some a → W5.heap.size ≠ a.block := fun a ha e => by
      have := own_lt hown5 a.block (by rw [ha]; rfl)
      omega
    have hapx : some g ≠ (Value.slice B n d).ownBlock := own_apart hown5 hnx5 (by decide)
    have hapr : some (w.heap.size + 1 + 1) ≠ (Value.slice B n d).ownBlock := own_apart hown5 hr5 (by decide)
    have hlt2 : ∀ k, k < w3.heap.size → some k ≠ (Value.slice B n d).ownBlock := fun k hk e => by have := own_base hown5 k e.symm; omega
    have HINS := Lib.hid (insert_any w3.heap.size B n d I fs f W5.heap.size (W5.alloc (.cells #[.int .i64 f.num, .int .i64 f.kind, .int .i64 f.day, .int .i64 f.id, .int .i64 f.qty] 122)) (own_alloc hown5 _) HLN.out (Bl.new W5 _ _) hgne HIN.out (by omega) (by simp; omega))
    have n4 : W5.cell? ⟨g, 4, none⟩ = some (.slice B n d) := hnx5.cell 4
    have f0 : W5.cell? ⟨w.heap.size + 1, 0, none⟩ = some (.int .i64 f.num) := hf5.cell 0
    have f1 : W5.cell? ⟨w.heap.size + 1, 1, none⟩ = some (.int .i64 f.kind) := hf5.cell 1
    have f2 : W5.cell? ⟨w.heap.size + 1, 2, none⟩ = some (.int .i64 f.day) := hf5.cell 2
    have f3 : W5.cell? ⟨w.heap.size + 1, 3, none⟩ = some (.int .i64 f.id) := hf5.cell 3
    have f4 : W5.cell? ⟨w.heap.size + 1, 4, none⟩ = some (.int .i64 f.qty) := hf5.cell 4
    have hgl := hnx5.lt
    have hrl5 := hr5.lt
    go_wp2_with fail
    refine HINS.out.mono ?_
    rintro e w7 ⟨B7, d7, rfl, ho7, hb7, hk7⟩
    have hk7' : ∀ k, k < W5.heap.size → some k ≠ (Value.slice B n d).ownBlock → w7.heap[k]? = W5.heap[k]? := fun k h1 h2 => (hk7 k (by simp; omega) h2).trans (Below.heap_alloc W5 _ k h1)
    have hnx7 : Bl w7 g 54 #[.int .i64 q.id, .int .i64 q.vol, .int .i64 q.fr, .int .i64 q.tod, .slice B n d] := (hk7' g hgl hapx).trans hnx5
    have hr7 : Bl w7 (w.heap.size + 1 + 1) 54 #[.int .i64 0, .int .i64 0, .int .i64 0, .int .i64 0, .slice none 0 0] := (hk7' _ hrl5 hapr).trans hr5
    have hx7 : Bl w7 w.heap.size 54 #[.int .i64 q.id, .int .i64 q.vol, .int .i64 q.fr, .int .i64 q.tod, .slice A n c] := (hk7' _ (by omega) (hlt2 _ (by omega))).trans hx5
    have hB7 : RowKit.Below w.heap.size w w7 := (hB5.alloc (by omega) _).trans (hb7.mono hs3)
    have hs7 : w3.heap.size ≤ w7.heap.size := by have := hb7.size; simp at this; omega
    have hap7 := own_apart ho7 hnx7 (by decide)
    have hap7r := own_apart ho7 hr7 (by decide)
    clear hk7 hk7' hb7 hnx5 hr5 hx5 hf5 hB5 hown5 n4 f0 f1 f2 f3 f4 HINS hgne hapx hapr hlt2 hgl hrl5 hsz5
    have n4 : w7.cell? ⟨g, 4, none⟩ = some (.slice B n d) := hnx7.cell 4
    have nf4 : w7.frozen? ⟨g, 4, none⟩ = false := hnx7.free 4
    go_upto_region 16 with (fail)
    have hnx8 : Bl (w7.setCell ⟨g, 4, none⟩ (.slice B7 (n + 1) d7)) g 54 #[.int .i64 q.id, .int .i64 q.vol, .int .i64 q.fr, .int .i64 q.tod, .slice B7 (n + 1) d7] := by have := hnx7.put 4 (.slice B7 (n + 1) d7); simpa using this
    have hr8 := hr7.far (p := ⟨g, 4, none⟩) (by show w.heap.size + 1 + 1 ≠ g; omega) (.slice B7 (n + 1) d7)
    have hx8 := hx7.far (p := ⟨g, 4, none⟩) (by show w.heap.size ≠ g; omega) (.slice B7 (n + 1) d7)
    have hB8 : RowKit.Below w.heap.size w (w7.setCell ⟨g, 4, none⟩ (.slice B7 (n + 1) d7)) := hB7.setCell (p := ⟨g, 4, none⟩) (by show w.heap.size ≤ g; omega) _
    have ho8 : (w7.setCell ⟨g, 4, none⟩ (.slice B7 (n + 1) d7)).ownsRow w3.heap.size 122 5 (.slice B7 (n + 1) d7) (n + 1) (flat encF (fs.take I ++ f :: fs.drop I)) := own_of_block ho7 fun k hk => Below.heap_setCell w7 ⟨g, 4, none⟩ _ k (fun e => hap7 (by rw [hk, e]))
    have hs8 : w3.heap.size ≤ (w7.setCell ⟨g, 4, none⟩ (.slice B7 (n + 1) d7)).heap.size := by simpa [World.setCell] using hs7
    clear n4 nf4 hnx7 hr7 hx7 hB7 ho7 hs7 hap7
    generalize w7.setCell ⟨g, 4, none⟩ (.slice B7 (n + 1) d7) = W8 at *
    have hil : (fs.take I ++ f :: fs.drop I).length = n + 1 := by rw [(perm_ins fs f I).length_eq]; simp [HLN.out]
    have HO8 := Lib.hid ho8
    have HR8 := Lib.hid hr8
    have HX8 := Lib.hid hx8
    have HN8 := Lib.hid hnx8
    have HB8 := Lib.hid hB8
    have HCH : Hid (∀ wx, RowKit.Below W8.heap.size W8 wx → Calls Tryz.prog 113 #[.agg #[.int .i64 q.id, .int .i64 q.vol, .int .i64 q.fr, .int .i64 q.tod, .slice A n c], .agg #[.int .i64 q.id, .int .i64 q.vol, .int .i64 q.fr, .int .i64 q.tod, .slice B7 (n + 1) d7]] wx fun e w' => ∃ (C : Option Addr) (m d2 : Nat) (ga gb : List Rq) (ba bb : Int), e = .returned (.slice C m d2) ∧ Settled fs q.vol ga ba ∧ Settled (fs.take I ++ f :: fs.drop I) q.vol gb bb ∧ (chgs ga gb).length = m ∧ w'.ownsRow W8.heap.size 167 3 (.slice C m d2) m (flat encG (chgs ga gb)) ∧ RowKit.Below W8.heap.size W8 w') := fun wx hb => by
      have hra : Recs encF 5 wx A n fs := HR.out.below (hB8.trans (hb.mono hB8.size))
      have hrb : Recs encF 5 wx B7 (n + 1) (fs.take I ++ f :: fs.drop I) := (Recs.of_own encF_len ho8 hil).below hb
      exact (changes_any q.id q.vol q.fr q.tod A n c fs q.id q.vol q.fr q.tod B7 (n + 1) d7 _ wx hra hrb HOK.out.good HBO.out.good).mono fun e w' ⟨C, m, d2, ga, gb, ba, bb, h1, h2, h3, h4, h5, h6⟩ => ⟨C, m, d2, ga, gb, ba, bb, h1, h2, h3, h4, own_mono h5 hb.size, hb.trans (h6.mono hb.size)⟩
    have HBD : Hid (RowKit.Below W8.heap.size W8 W8.drew) := (Below.refl _ _).drew
    have ng : w.heap.size + 1 + 1 ≠ g := by omega
    have ng2 : g ≠ w.heap.size + 1 + 1 := by omega
    have ng3 : w.heap.size ≠ g := by omega
    have ng4 : g ≠ w.heap.size := by omega
    have ng5 : w.heap.size ≠ w.heap.size + 1 + 1 := by omega
    have ng6 : w.heap.size + 1 + 1 ≠ w.heap.size := by omega
    have x0 : W8.cell? ⟨w.heap.size, 0, none⟩ = some (.int .i64 q.id) := hx8.c0
    have x1 : W8.cell? ⟨w.heap.size, 1, none⟩ = some (.int .i64 q.vol) := hx8.c1
    have x2 : W8.cell? ⟨w.heap.size, 2, none⟩ = some (.int .i64 q.fr) := hx8.c2
    have x3 : W8.cell? ⟨w.heap.size, 3, none⟩ = some (.int .i64 q.tod) := hx8.c3
    have x4 : W8.cell? ⟨w.heap.size, 4, none⟩ = some (.slice A n c) := hx8.c4
    have y0 : W8.cell? ⟨g, 0, none⟩ = some (.int .i64 q.id) := hnx8.c0
    have y1 : W8.cell? ⟨g, 1, none⟩ = some (.int .i64 q.vol) := hnx8.c1
    have y2 : W8.cell? ⟨g, 2, none⟩ = some (.int .i64 q.fr) := hnx8.c2
    have y3 : W8.cell? ⟨g, 3, none⟩ = some (.int .i64 q.tod) := hnx8.c3
    have y4 : W8.cell? ⟨g, 4, none⟩ = some (.slice B7 (n + 1) d7) := hnx8.c4
    have l1 := hnx8.lt
    have l2 := hx8.lt
    have l3 := hr8.lt
    clear hr8 hx8 hnx8 hB8 ho8
    go_region_held3 (fun w' => w'.cell? ⟨w.heap.size, 0, none⟩ = some (.int .i64 q.id) ∧ w'.cell? ⟨w.heap.size, 1, none⟩ = some (.int .i64 q.vol) ∧ w'.cell? ⟨w.heap.size, 2, none⟩ = some (.int .i64 q.fr) ∧ w'.cell? ⟨w.heap.size, 3, none⟩ = some (.int .i64 q.tod) ∧ w'.cell? ⟨w.heap.size, 4, none⟩ = some (.slice A n c) ∧ w'.cell? ⟨g, 0, none⟩ = some (.int .i64 q.id) ∧ w'.cell? ⟨g, 1, none⟩ = some (.int .i64 q.vol) ∧ w'.cell? ⟨g, 2, none⟩ = some (.int .i64 q.fr) ∧ w'.cell? ⟨g, 3, none⟩ = some (.int .i64 q.tod) ∧ w'.cell? ⟨g, 4, none⟩ = some (.slice B7 (n + 1) d7))
      (first
        | go_keep
        | exact ⟨(HX8.out.keep hb9.out).c0, (HX8.out.keep hb9.out).c1, (HX8.out.keep hb9.out).c2, (HX8.out.keep hb9.out).c3, (HX8.out.keep hb9.out).c4, (HN8.out.keep hb9.out).c0, (HN8.out.keep hb9.out).c1, (HN8.out.keep hb9.out).c2, (HN8.out.keep hb9.out).c3, (HN8.out.keep hb9.out).c4⟩
        | exact ⟨((HX8.out.keep hb9.out).far5 ng5 _ _ _ _ _).c0, ((HX8.out.keep hb9.out).far5 ng5 _ _ _ _ _).c1, ((HX8.out.keep hb9.out).far5 ng5 _ _ _ _ _).c2, ((HX8.out.keep hb9.out).far5 ng5 _ _ _ _ _).c3, ((HX8.out.keep hb9.out).far5 ng5 _ _ _ _ _).c4, ((HN8.out.keep hb9.out).far5 ng2 _ _ _ _ _).c0, ((HN8.out.keep hb9.out).far5 ng2 _ _ _ _ _).c1, ((HN8.out.keep hb9.out).far5 ng2 _ _ _ _ _).c2, ((HN8.out.keep hb9.out).far5 ng2 _ _ _ _ _).c3, ((HN8.out.keep hb9.out).far5 ng2 _ _ _ _ _).c4⟩)
      (first
        | (go_at_call 113; with_reducible (refine (HCH.out _ ?_).mono ?_); with_reducible (exact HBD.out); rintro e w9 ⟨C9, m9, d9, ga, gb, ba, bb, rfl, hs9, ht9, hl9, ho9', hb9'⟩; have hb9 := Lib.hid hb9'; have ho9 := Lib.hid ho9'; have HS9 := Lib.hid hs9; have HT9 := Lib.hid ht9; have HL9 := Lib.hid hl9; clear hb9' ho9' hs9 ht9 hl9; have HR9 := Lib.hid (HR8.out.keep hb9.out); have r0 : w9.cell? ⟨w.heap.size + 1 + 1, 0, none⟩ = some (.int .i64 0) := HR9.out.c0; have r1 : w9.cell? ⟨w.heap.size + 1 + 1, 1, none⟩ = some (.int .i64 0) := HR9.out.c1; have r2 : w9.cell? ⟨w.heap.size + 1 + 1, 2, none⟩ = some (.int .i64 0) := HR9.out.c2; have r3 : w9.cell? ⟨w.heap.size + 1 + 1, 3, none⟩ = some (.int .i64 0) := HR9.out.c3; have r4 : w9.cell? ⟨w.heap.size + 1 + 1, 4, none⟩ = some (.slice none 0 0) := HR9.out.c4; have rf0 : w9.frozen? ⟨w.heap.size + 1 + 1, 0, none⟩ = false := HR9.out.free 0; have rf1 : w9.frozen? ⟨w.heap.size + 1 + 1, 1, none⟩ = false := HR9.out.free 1; have rf2 : w9.frozen? ⟨w.heap.size + 1 + 1, 2, none⟩ = false := HR9.out.free 2; have rf3 : w9.frozen? ⟨w.heap.size + 1 + 1, 3, none⟩ = false := HR9.out.free 3; have rf4 : w9.frozen? ⟨w.heap.size + 1 + 1, 4, none⟩ = false := HR9.out.free 4; have l9 : w.heap.size + 1 + 1 < w9.heap.size := HR9.out.lt))
    go_wp2
    refine bodyPost_ret (v := .tuple #[.agg #[.int .i64 q.id, .int .i64 q.vol, .int .i64 q.fr, .int .i64 q.tod, .slice B7 (n + 1) d7], .slice C9 m9 d9, .int .i64 0]) (by simp [results, Tryz.results76, go_sem, r0, r1, r2, r3, r4]) rfl ?_
    have hw8 : w.heap.size ≤ W8.heap.size := by omega
    exact ⟨I, B7, d7, C9, m9, d9, ga, gb, ba, bb, rfl, HBO.out, HS9.out, HT9.out, HL9.out, own5 (own_mono (own_below HO8.out hb9.out) hs3) (fun k hk e => own_apart HO8.out HR8.out (by decide) (by rw [hk, e])) _ _ _ _ _, own5 (own_mono ho9.out hw8) (fun k hk e => own_apart ho9.out HR9.out (by decide) (by rw [hk, e])) _ _ _ _ _, put5 (HB8.out.trans (hb9.out.mono hw8)) (by omega) _ _ _ _ _⟩

end Go.Proofs.YtdbcbbiplkikcaaGreat

namespace Go.Proofs.YtdbcbbiplkikcaaGreat
set_option linter.unusedVariables false

/-- A reservation within the bounds. -/
def uOk (u : Int × Int) : Bool := decide (1 ≤ u.1) && decide (u.1 ≤ 1000000) && decide (0 ≤ u.2) && decide (u.2 ≤ 1000000000000)
theorem uOk_yes {u : Int × Int} (h : uOk u = true) : 1 ≤ u.1 ∧ u.1 ≤ 1000000 ∧ 0 ≤ u.2 ∧ u.2 ≤ 1000000000000 := by
  simp [uOk] at h
  omega
def uSum (us : List (Int × Int)) : Int := (us.map (·.2)).sum
theorem uSum_nil : uSum [] = 0 := rfl
theorem uSum_cons (u : Int × Int) (us : List (Int × Int)) : uSum (u :: us) = u.2 + uSum us := by simp [uSum]
theorem uSum_append (us vs : List (Int × Int)) : uSum (us ++ vs) = uSum us + uSum vs := by simp [uSum]
theorem uSum_nonneg {us : List (Int × Int)} (h : ∀ u ∈ us, uOk u = true) : 0 ≤ uSum us := by
  induction us with
  | nil => simp [uSum]
  | cons u us ih =>
    rw [uSum_cons]
    have := uOk_yes (h u (by simp))
    have := ih fun x hx => h x (by simp [hx])
    omega
theorem uSum_le {us : List (Int × Int)} (h : ∀ u ∈ us, uOk u = true) : uSum us ≤ us.length * 1000000000000 := by
  induction us with
  | nil => simp [uSum]
  | cons u us ih =>
    rw [uSum_cons, List.length_cons]
    have := uOk_yes (h u (by simp))
    have := ih fun x hx => h x (by simp [hx])
    omega
theorem uSum_take {us : List (Int × Int)} {i : Nat} (h : i < us.length) : uSum (us.take (i + 1)) = uSum (us.take i) + us[i]!.2 := by
  rw [List.take_add_one, List.getElem?_eq_getElem h, getElem!_pos us i h, Option.toList_some, uSum_append, uSum_cons, uSum_nil]
  omega
/-- The head of a guarantee. -/
structure Gh where
  id : Int
  ref : Int
  lev : Int
deriving Inhabited
def ghOk (g : Gh) : Bool := decide (1 ≤ g.id) && decide (g.id ≤ 1000000) && decide (0 ≤ g.ref) && decide (g.ref ≤ 1000000000000) && decide (0 ≤ g.lev) && decide (g.lev ≤ 1000000)
theorem ghOk_yes {g : Gh} (h : ghOk g = true) : 1 ≤ g.id ∧ g.id ≤ 1000000 ∧ 0 ≤ g.ref ∧ g.ref ≤ 1000000000000 ∧ 0 ≤ g.lev ∧ g.lev ≤ 1000000 := by
  simp [ghOk] at h
  omega
/-- The movements ascend. -/
def uAsc (us : List (Int × Int)) : Prop := ∀ r, r + 1 < us.length → us[r]!.1 < us[r + 1]!.1
instance (us : List (Int × Int)) : Decidable (uAsc us) := decidable_of_iff (∀ r : Fin us.length, r.1 + 1 < us.length → us[r.1]!.1 < us[r.1 + 1]!.1) ⟨fun h r hr => h ⟨r, by omega⟩ hr, fun h r hr => h r.1 hr⟩
/-- The first error of a guarantee. -/
def gErr (g : Gh) (us : List (Int × Int)) : Int :=
  if ghOk g = true then
    if us.length ≤ 64 then
      if ∀ u ∈ us, uOk u = true then
        if uAsc us then if uSum us ≤ g.ref then 0 else 16 else 9
      else 2
    else 8
  else 2
/-- A valid guarantee. -/
structure GOk (g : Gh) (us : List (Int × Int)) : Prop where
  head : ghOk g = true
  len : us.length ≤ 64
  ok : ∀ u ∈ us, uOk u = true
  asc : uAsc us
  sum : uSum us ≤ g.ref
theorem GOk.err {g : Gh} {us : List (Int × Int)} (h : GOk g us) : gErr g us = 0 := by
  unfold gErr
  rw [if_pos h.head, if_pos h.len, if_pos h.ok, if_pos h.asc, if_pos h.sum]
theorem gErr_ok {g : Gh} {us : List (Int × Int)} (h : gErr g us = 0) : GOk g us := by
  unfold gErr at h
  split at h
  · split at h
    · split at h
      · split at h
        · split at h
          · exact ⟨by assumption, by assumption, by assumption, by assumption, by assumption⟩
          · cases h
        · cases h
      · cases h
    · cases h
  · cases h
theorem uAsc_pair {us : List (Int × Int)} : uAsc us ↔ us.Pairwise (fun a b => a.1 < b.1) := by
  constructor
  · intro h
    have hlt : ∀ i j, i < j → j < us.length → us[i]!.1 < us[j]!.1 := by
      intro i j hij
      induction j with
      | zero => omega
      | succ j ih =>
        intro hj
        have h1 := h j (by omega)
        by_cases e : i = j
        · subst e; exact h1
        · have := ih (by omega) (by omega); omega
    rw [List.pairwise_iff_getElem]
    intro i j hi hj hij
    have := hlt i j hij hj
    rwa [getElem!_pos us i hi, getElem!_pos us j hj] at this
  · intro h r hr
    have := List.pairwise_iff_getElem.1 h r (r + 1) (by omega) (by omega) (by omega)
    rwa [getElem!_pos us r (by omega), getElem!_pos us (r + 1) (by omega)]
theorem u_mem_take {us : List (Int × Int)} {i : Nat} {x : Int × Int} (h : x ∈ us.take i) : ∃ k, k < i ∧ k < us.length ∧ us[k]! = x := by
  obtain ⟨k, hk, rfl⟩ := List.getElem_of_mem h
  rw [List.length_take] at hk
  exact ⟨k, by omega, by omega, by rw [getElem!_pos us k (by omega), List.getElem_take]⟩
theorem u_mem_drop {us : List (Int × Int)} {i : Nat} {x : Int × Int} (h : x ∈ us.drop i) : ∃ k, i ≤ k ∧ k < us.length ∧ us[k]! = x := by
  obtain ⟨k, hk, rfl⟩ := List.getElem_of_mem h
  rw [List.length_drop] at hk
  exact ⟨i + k, by omega, by omega, by rw [getElem!_pos us (i + k) (by omega), List.getElem_drop]⟩
/-- A reservation that is set in its place. -/
theorem GOk.set {g : Gh} {us : List (Int × Int)} {x : Int × Int} {I J : Nat} (h : GOk g us) (hx : uOk x = true) (hIJ : I ≤ J) (h1 : ∀ q, q < I → q < us.length → us[q]!.1 < x.1) (h2 : ∀ q, J ≤ q → q < us.length → x.1 < us[q]!.1)
    (hl : (us.take I ++ x :: us.drop J).length ≤ 64) (hs : uSum (us.take I ++ x :: us.drop J) ≤ g.ref) : GOk g (us.take I ++ x :: us.drop J) := by
  refine ⟨h.head, hl, fun u hu => ?_, ?_, hs⟩
  · rcases List.mem_append.1 hu with hu | hu
    · exact h.ok u (List.mem_of_mem_take hu)
    · rcases List.mem_cons.1 hu with rfl | hu
      · exact hx
      · exact h.ok u (List.mem_of_mem_drop hu)
  · have hp := uAsc_pair.1 h.asc
    rw [uAsc_pair, List.pairwise_append, List.pairwise_cons]
    refine ⟨hp.take, ⟨fun a ha => ?_, hp.drop⟩, fun a ha b hb => ?_⟩
    · obtain ⟨k, k1, k2, rfl⟩ := u_mem_drop ha
      exact h2 k k1 k2
    · obtain ⟨k, k1, k2, rfl⟩ := u_mem_take ha
      rcases List.mem_cons.1 hb with rfl | hb
      · exact h1 k k1 k2
      · obtain ⟨j, j1, j2, rfl⟩ := u_mem_drop hb
        have := List.pairwise_iff_getElem.1 hp k j k2 j2 (by omega)
        rwa [getElem!_pos us k k2, getElem!_pos us j j2]
/-- A reservation that is taken away. -/
theorem GOk.release {g : Gh} {us : List (Int × Int)} {I : Nat} (h : GOk g us) (hI : I < us.length) : GOk g (us.take I ++ us.drop (I + 1)) := by
  have hsub : (us.take I ++ us.drop (I + 1)).Sublist us := by
    have h1 : (us.drop (I + 1)).Sublist (us.drop I) := by
      have e : us.drop (I + 1) = (us.drop I).drop 1 := by simp
      rw [e]
      exact List.drop_sublist _ _
    have := (List.Sublist.refl (us.take I)).append h1
    rwa [List.take_append_drop] at this
  refine ⟨h.head, Nat.le_trans hsub.length_le h.len, fun u hu => h.ok u (hsub.subset hu), uAsc_pair.2 ((uAsc_pair.1 h.asc).sublist hsub), ?_⟩
  have e : uSum us = uSum (us.take I) + (us[I]!.2 + uSum (us.drop (I + 1))) := by
    conv => lhs; rw [← List.take_append_drop I us]
    rw [uSum_append, List.drop_eq_getElem_cons hI, uSum_cons, getElem!_pos us I hI]
  rw [uSum_append]
  have := h.sum
  have := uOk_yes (h.ok us[I]! (by rw [getElem!_pos us I hI]; exact List.getElem_mem hI))
  omega
theorem uSum_bounds {us : List (Int × Int)} (h : ∀ u ∈ us, uOk u = true) (hl : us.length ≤ 1000) (k : Nat) : 0 ≤ uSum (us.take k) ∧ uSum (us.take k) ≤ 1000000000000000 := by
  have h' : ∀ u ∈ us.take k, uOk u = true := fun u hu => h u (List.mem_of_mem_take hu)
  have h1 := uSum_nonneg h'
  have h2 := uSum_le h'
  have h3 : (us.take k).length ≤ 1000 := by rw [List.length_take]; omega
  omega
theorem uOk_get {us : List (Int × Int)} (h : ∀ u ∈ us, uOk u = true) {k : Nat} (hk : k < us.length) {x y : Int} (e : us[k]! = (x, y)) : 1 ≤ x ∧ x ≤ 1000000 ∧ 0 ≤ y ∧ y ≤ 1000000000000 := by
  have h1 := h us[k]! (by rw [getElem!_pos us k hk]; exact List.getElem_mem hk)
  rw [e] at h1
  exact uOk_yes h1
theorem gErr_head {g : Gh} {us : List (Int × Int)} (h : ghOk g = false) : gErr g us = 2 := by
  unfold gErr
  rw [if_neg (by rw [h]; simp)]
theorem gErr_len {g : Gh} {us : List (Int × Int)} (h : ghOk g = true) (h2 : 64 < us.length) : gErr g us = 8 := by
  unfold gErr
  rw [if_pos h, if_neg (by omega)]
theorem gErr_use {g : Gh} {us : List (Int × Int)} (h : ghOk g = true) (h2 : us.length ≤ 64) {k : Nat} (hk : k < us.length) (h3 : uOk us[k]! = false) : gErr g us = 2 := by
  unfold gErr
  rw [if_pos h, if_pos h2, if_neg (fun h4 => by rw [h4 us[k]! (by rw [getElem!_pos us k hk]; exact List.getElem_mem hk)] at h3; cases h3)]
theorem gErr_asc {g : Gh} {us : List (Int × Int)} (h : ghOk g = true) (h2 : us.length ≤ 64) (h3 : ∀ u ∈ us, uOk u = true) {k : Nat} (hk : k + 1 < us.length) (h4 : ¬ us[k]!.1 < us[k + 1]!.1) : gErr g us = 9 := by
  unfold gErr
  rw [if_pos h, if_pos h2, if_pos h3, if_neg (fun h5 => h4 (h5 k hk))]
theorem gErr_sum {g : Gh} {us : List (Int × Int)} (h : ghOk g = true) (h2 : us.length ≤ 64) (h3 : ∀ u ∈ us, uOk u = true) (h4 : uAsc us) : gErr g us = if uSum us ≤ g.ref then 0 else 16 := by
  unfold gErr
  rw [if_pos h, if_pos h2, if_pos h3, if_pos h4]
theorem all_of_get {us : List (Int × Int)} (h : ∀ i, i < us.length → uOk us[i]! = true) : ∀ u ∈ us, uOk u = true := fun u hu => by
  obtain ⟨i, hi, rfl⟩ := List.getElem_of_mem hu
  have := h i hi
  rwa [getElem!_pos us i hi] at this
end Go.Proofs.YtdbcbbiplkikcaaGreat

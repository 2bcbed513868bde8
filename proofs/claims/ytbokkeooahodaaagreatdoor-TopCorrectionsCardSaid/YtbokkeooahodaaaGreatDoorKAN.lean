/-
  Contracts of assess.Assess and Total. No statement of the seat is proved here. Conditions: the measures lie in memory, the table of lengths is laid, the strings are not too long.
  Contract of assess.Difference. No statement of the seat is proved here. Conditions: the lines of both debts lie in memory and are sound, at most 10 each.
-/
import Derived.Test.YtbokkeooahodaaaGreatDoorKAH
import Derived.Test.YtbokkeooahodaaaGreatDoorKAI
import Derived.Test.YtbokkeooahodaaaGreatDoorKAK
import Derived.Test.YtbokkeooahodaaaGreatDoorKAM
import Derived.Test.YtbokkeooahodaaaGreatDoorKAG
namespace Go.Proofs.YtbokkeooahodaaaGreatDoor
open Go.RowKit
set_option linter.unusedVariables false

theorem infoDl : (Tryz.prog.info? 38).map (fun i => (i.zero, i.size, i.bytes)) = some (some (.agg #[.int .i64 0, .int .i64 0, .int .i64 0, .int .i64 0, .int .i64 0]), 5, 40) := by kernel_rfl
def encDl (x : Dl) : List Value := [.int .i64 x.kind, .int .i64 x.meas, .int .i64 x.qty, .int .i64 x.val, .int .i64 x.amt]
theorem encDl_len (x : Dl) : (encDl x).length = 5 := rfl
theorem encDl_one (x : Dl) : ∀ v ∈ encDl x, v.oneCell' = true := fun v hv => by
  simp only [encDl, List.mem_cons, List.not_mem_nil, or_false] at hv
  rcases hv with rfl | rfl | rfl | rfl | rfl <;> rfl
def AsRes (w : World) (o : Int × List Dl) (e : Ending) (w' : World) : Prop := ∃ (R : Option Addr) (c : Nat), e = .returned (.tuple #[.agg #[.slice R o.2.length c, .int .i64 (sumA o.2)], .int .i64 o.1]) ∧ w'.ownsRow w.heap.size 38 5 (.slice R o.2.length c) o.2.length (flat encDl o.2) ∧ RowKit.Below w.heap.size w w'
theorem AsRes.err {w w' : World} {o : Int × List Dl} {er : Int} (h : o = (er, [])) (hb : RowKit.Below w.heap.size w w') : AsRes w o (.returned (.tuple #[.agg #[.slice none 0 0, .int .i64 0], .int .i64 er])) w' := by
  subst h
  exact ⟨none, 0, rfl, ⟨by simp [flat], .inl ⟨rfl, rfl⟩⟩, hb⟩
structure AsB (W0 : World) (gd : Nat) (R : Option Addr) (m c : Nat) (ls : List Dl) (wx : World) : Prop where
  below : RowKit.Below gd W0 wx
  d : Bl wx gd 28 #[.slice R m c, .int .i64 (sumA ls)]
  o : wx.ownsRow gd 38 5 (.slice R m c) m (flat encDl ls)
  len : ls.length = m
section
variable {W0 wx w' : World} {gd : Nat} {R : Option Addr} {m c : Nat} {ls : List Dl}
theorem AsB.size (h : AsB W0 gd R m c ls wx) : gd ≤ wx.heap.size := Nat.le_of_lt h.d.lt
theorem AsB.under (h : AsB W0 gd R m c ls wx) (hb : RowKit.Below wx.heap.size wx w') : AsB W0 gd R m c ls w' := ⟨h.below.trans (hb.mono h.size), h.d.keep hb, own_below h.o hb, h.len⟩
theorem AsB.alloc (h : AsB W0 gd R m c ls wx) (o : Obj) : AsB W0 gd R m c ls (wx.alloc o) := h.under ((Below.refl _ _).alloc (Nat.le_refl _) _)
theorem AsB.app (h : AsB W0 gd R m c ls wx) {o : Obj} {R4 : Option Addr} {d4 : Nat} {x : Dl} (hg : (wx.alloc o).grownBy w' (Value.slice R m c).ownBlock) (ho : w'.ownsRow gd 38 5 (.slice R4 (m + 1) d4) (m + 1) (flat encDl ls ++ encDl x)) :
    (Bl w' gd 28 #[.slice R m c, .int .i64 (sumA ls)] ∧ Bl (w'.setCell ⟨gd, 0, none⟩ (.slice R4 (m + 1) d4)) gd 28 #[.slice R4 (m + 1) d4, .int .i64 (sumA ls)]) ∧ AsB W0 gd R4 (m + 1) d4 (ls ++ [x]) ((w'.setCell ⟨gd, 0, none⟩ (.slice R4 (m + 1) d4)).setCell ⟨gd, 1, none⟩ (.int .i64 (sumA ls + x.amt))) := by
  have h1 := h.alloc o
  have hd : Bl w' gd 28 #[.slice R m c, .int .i64 (sumA ls)] := (hg.block gd h1.d.lt (fun e => own_apart h1.o h1.d (by decide) e)).trans h1.d
  have hd1 : Bl (w'.setCell ⟨gd, 0, none⟩ (.slice R4 (m + 1) d4)) gd 28 #[.slice R4 (m + 1) d4, .int .i64 (sumA ls)] := by simpa using hd.put 0 (.slice R4 (m + 1) d4)
  refine ⟨⟨hd, hd1⟩, ?_⟩
  have hO : Only gd w' ((w'.setCell ⟨gd, 0, none⟩ (.slice R4 (m + 1) d4)).setCell ⟨gd, 1, none⟩ (.int .i64 (sumA ls + x.amt))) := ((Only.refl gd w').setCell 0 _).setCell 1 _
  have hs : sumA (ls ++ [x]) = sumA ls + x.amt := by rw [sumA_append, sumA_cons, sumA_nil]; omega
  refine ⟨(h1.below.grown hg h1.size (fun g e => own_base h.o g e)).trans (hO.below (Nat.le_refl _)), by rw [hs]; exact set2_bl hd _ _, ?_, by rw [List.length_append, h.len]; rfl⟩
  rw [flat_append, flat_one]
  refine own_of_block ho fun g hgb => hO.block g (fun e => ?_)
  exact own_apart ho hd (by decide) (by rw [hgb, e])
end
set_option maxRecDepth 100000 in
set_option maxHeartbeats 16000000 in
theorem assess_any (A : Option Addr) (n c : Nat) (xs : List MsA) (x : It) (w : World) (h : MsR w A n xs) (hG : LenG w) (h1 : x.code.size ≤ 1000000) (h2 : x.org.size ≤ 1000000) :
    Calls Tryz.prog 6 #[.slice A n c, .agg #[.string x.code, .string x.org, .bool x.proof, .int .i64 x.co, .int .i64 x.day, .int .i64 x.qty, .int .i64 x.val, .int .i64 x.gr]] w (AsRes w (asOut (msL xs) x)) := by
  have HX := Lib.hid h
  have HG := Lib.hid hG
  have HMV := Lib.hid mvalidate20_any
  have HIV : Hid (∀ wx, LenG wx → Calls Tryz.prog 21 #[.agg #[.string x.code, .string x.org, .bool x.proof, .int .i64 x.co, .int .i64 x.day, .int .i64 x.qty, .int .i64 x.val, .int .i64 x.gr]] wx (VRes wx (itErr x))) := fun wx hg => itval_any x wx hg h1 h2
  have HAP : Hid (∀ wx, MsR wx A n xs → Calls Tryz.prog 22 #[.slice A n c, .string x.code, .string x.org, .int .i64 x.co, .int .i64 x.day] wx (ApRes wx (applic (msL xs) x))) := fun wx hm => applicable_any A n c xs x wx hm
  have HPO : Hid (itRange x → ∀ wx, Calls Tryz.prog 25 #[.agg #[.string x.code, .string x.org, .bool x.proof, .int .i64 x.co, .int .i64 x.day, .int .i64 x.qty, .int .i64 x.val, .int .i64 x.gr]] wx (PtRes wx (partsL x (shA x) (shB x)))) := fun hr wx => partsOf_any x wx hr
  obtain ⟨l, hl⟩ : ∃ l, msL xs = l := ⟨_, rfl⟩
  obtain ⟨N, hN⟩ : ∃ N, w.heap.size = N := ⟨_, rfl⟩
  have HE1 := Lib.hid (fun h => asOut_1 (l := l) (x := x) h)
  have HE2 := Lib.hid (fun h h2 => asOut_2 (l := l) (x := x) h h2)
  have HE3 := Lib.hid (fun h h2 h3 => asOut_3 (l := l) (x := x) h h2 h3)
  have HE4 : Hid (∀ {e : Int}, mssErr l = 0 → itErr x = 0 → ((applic l x).any fun m => m.kind == 1) = true → (linesOf (applic l x) (partsL x (shA x) (shB x))).1 = e → e ≠ 0 → asOut l x = (e, [])) := fun h h2 h3 h4 h5 => asOut_4 h h2 h3 h4 h5
  have HE5 := Lib.hid (fun h h2 h3 h4 => asOut_5 (l := l) (x := x) h h2 h3 h4)
  rw [hl] at HAP ⊢
  have HVM : Hid (∀ wx, MsR wx A n xs → LenG wx → Calls Tryz.prog 20 #[.slice A n c] wx (VRes wx (mssErr l))) := fun wx h3 h4 => by rw [← hl]; exact HMV.out A n c xs wx h3 h4
  have HERR : Hid (∀ (er : Int) (w' : World), RowKit.Below N w w' → asOut l x = (er, []) → AsRes w (asOut l x) (.returned (.tuple #[.agg #[.slice none 0 0, .int .i64 0], .int .i64 er])) w') := fun er w' hb he => AsRes.err he (by rw [hN]; exact hb)
  clear HMV h hG h1 h2 hl
  have HX0 : Hid (Bl ((w.alloc (.cells #[.string x.code, .string x.org, .bool x.proof, .int .i64 x.co, .int .i64 x.day, .int .i64 x.qty, .int .i64 x.val, .int .i64 x.gr] 33)).alloc (.cells #[.slice none 0 0, .int .i64 0] 28)) N 33 #[.string x.code, .string x.org, .bool x.proof, .int .i64 x.co, .int .i64 x.day, .int .i64 x.qty, .int .i64 x.val, .int .i64 x.gr]) := by rw [← hN]; exact Bl.alloc (Bl.new _ _ _) _
  have s1 : (w.alloc (.cells #[.string x.code, .string x.org, .bool x.proof, .int .i64 x.co, .int .i64 x.day, .int .i64 x.qty, .int .i64 x.val, .int .i64 x.gr] 33)).heap.size = N + 1 := by rw [← hN]; simp
  have HR0 : Hid (Bl ((w.alloc (.cells #[.string x.code, .string x.org, .bool x.proof, .int .i64 x.co, .int .i64 x.day, .int .i64 x.qty, .int .i64 x.val, .int .i64 x.gr] 33)).alloc (.cells #[.slice none 0 0, .int .i64 0] 28)) (N + 1) 28 #[.slice none 0 0, .int .i64 0]) := by rw [← s1]; exact Bl.new _ _ _
  have HB0 : Hid (RowKit.Below N w ((w.alloc (.cells #[.string x.code, .string x.org, .bool x.proof, .int .i64 x.co, .int .i64 x.day, .int .i64 x.qty, .int .i64 x.val, .int .i64 x.gr] 33)).alloc (.cells #[.slice none 0 0, .int .i64 0] 28))) := by rw [← hN]; exact ((Below.refl _ _).alloc (Nat.le_refl _) _).alloc (by simp) _
  go_enter Tryz.func6, Tryz.ntmps6
  go_upto_region 1 with (fail)
  try rw [s1]
  try rw [hN]
  generalize (w.alloc (.cells #[.string x.code, .string x.org, .bool x.proof, .int .i64 x.co, .int .i64 x.day, .int .i64 x.qty, .int .i64 x.val, .int .i64 x.gr] 33)).alloc (.cells #[.slice none 0 0, .int .i64 0] 28) = W0 at *
  clear s1
  have HBW : Hid (∀ wx, RowKit.Below N w wx → RowKit.Below w.heap.size w wx) := fun wx hb => by rw [hN]; exact hb
  go_wp2_with fail
  refine (HVM.out _ (HX.out.below (HBW.out _ HB0.out)) (HG.out.below (HBW.out _ HB0.out))).mono ?_
  rintro e w1 ⟨rfl, hb1⟩
  have HX1 := Lib.hid (HX0.out.keep hb1)
  have HR1 := Lib.hid (HR0.out.keep hb1)
  have HB1 := Lib.hid (HB0.out.trans (hb1.mono (Nat.le_of_lt HX0.out.lt)))
  clear hb1 HX0 HR0 HB0 HVM
  obtain ⟨me, hme⟩ : ∃ q, mssErr l = q := ⟨_, rfl⟩
  rw [hme] at HE1 HE2 HE3 HE4 HE5 ⊢
  have HME := Lib.hid hme
  clear hme
  by_cases z1 : me = 0
  case neg =>
    have y1' : (me != 0) = true := by simpa using z1
    have HE := Lib.hid (HE1.out z1)
    have HZ := set2_bl HR1.out (.slice none 0 0) (.int .i64 0)
    have HBZ := Lib.hid ((HB1.out.setCell (p := ⟨N + 1, 0, none⟩) (show N ≤ N + 1 by omega) (.slice none 0 0)).setCell (p := ⟨N + 1, 1, none⟩) (show N ≤ N + 1 by omega) (.int .i64 0))
    have t0 : w1.cell? ⟨N + 1, 0, none⟩ = some (.slice none 0 0) := HR1.out.cell 0
    have t1 : w1.cell? ⟨N + 1, 1, none⟩ = some (.int .i64 0) := HR1.out.cell 1
    have t2 : w1.frozen? ⟨N + 1, 0, none⟩ = false := HR1.out.free 0
    have t3 : w1.frozen? ⟨N + 1, 1, none⟩ = false := HR1.out.free 1
    go_wp2
    generalize (w1.setCell ⟨N + 1, 0, none⟩ (.slice none 0 0)).setCell ⟨N + 1, 1, none⟩ (.int .i64 0) = WZ at *
    have y0 : WZ.cell? ⟨N + 1, 0, none⟩ = some (.slice none 0 0) := HZ.cell 0
    have y1 : WZ.cell? ⟨N + 1, 1, none⟩ = some (.int .i64 0) := HZ.cell 1
    refine bodyPost_ret (v := .tuple #[.agg #[.slice none 0 0, .int .i64 0], .int .i64 me]) (by simp [results, Tryz.results6, go_sem, y0, y1]) rfl (HERR.out _ _ HBZ.out HE.out)
  case pos =>
  subst z1
  have i0 : w1.cell? ⟨N, 0, none⟩ = some (.string x.code) := HX1.out.cell 0
  have i1 : w1.cell? ⟨N, 1, none⟩ = some (.string x.org) := HX1.out.cell 1
  have i2 : w1.cell? ⟨N, 2, none⟩ = some (.bool x.proof) := HX1.out.cell 2
  have i3 : w1.cell? ⟨N, 3, none⟩ = some (.int .i64 x.co) := HX1.out.cell 3
  have i4 : w1.cell? ⟨N, 4, none⟩ = some (.int .i64 x.day) := HX1.out.cell 4
  have i5 : w1.cell? ⟨N, 5, none⟩ = some (.int .i64 x.qty) := HX1.out.cell 5
  have i6 : w1.cell? ⟨N, 6, none⟩ = some (.int .i64 x.val) := HX1.out.cell 6
  have i7 : w1.cell? ⟨N, 7, none⟩ = some (.int .i64 x.gr) := HX1.out.cell 7
  go_wp2_with fail
  refine (HIV.out _ (HG.out.below (HBW.out _ HB1.out))).mono ?_
  rintro e w2 ⟨rfl, hb2⟩
  have HX2 := Lib.hid (HX1.out.keep hb2)
  have HR2 := Lib.hid (HR1.out.keep hb2)
  have HB2 := Lib.hid (HB1.out.trans (hb2.mono (Nat.le_of_lt HX1.out.lt)))
  clear hb2 HX1 HR1 HB1 HIV i0 i1 i2 i3 i4 i5 i6 i7
  obtain ⟨ie, hie⟩ : ∃ q, itErr x = q := ⟨_, rfl⟩
  have HIE := Lib.hid hie
  rw [hie] at HE2 HE3 HE4 HE5 ⊢
  clear hie
  by_cases z2 : ie = 0
  case neg =>
    have y1' : (ie != 0) = true := by simpa using z2
    have HE := Lib.hid (HE2.out (by first | trivial | rfl) z2)
    have HZ := set2_bl HR2.out (.slice none 0 0) (.int .i64 0)
    have HBZ := Lib.hid ((HB2.out.setCell (p := ⟨N + 1, 0, none⟩) (show N ≤ N + 1 by omega) (.slice none 0 0)).setCell (p := ⟨N + 1, 1, none⟩) (show N ≤ N + 1 by omega) (.int .i64 0))
    have t0 : w2.cell? ⟨N + 1, 0, none⟩ = some (.slice none 0 0) := HR2.out.cell 0
    have t1 : w2.cell? ⟨N + 1, 1, none⟩ = some (.int .i64 0) := HR2.out.cell 1
    have t2 : w2.frozen? ⟨N + 1, 0, none⟩ = false := HR2.out.free 0
    have t3 : w2.frozen? ⟨N + 1, 1, none⟩ = false := HR2.out.free 1
    go_wp2
    generalize (w2.setCell ⟨N + 1, 0, none⟩ (.slice none 0 0)).setCell ⟨N + 1, 1, none⟩ (.int .i64 0) = WZ at *
    have y0 : WZ.cell? ⟨N + 1, 0, none⟩ = some (.slice none 0 0) := HZ.cell 0
    have y1 : WZ.cell? ⟨N + 1, 1, none⟩ = some (.int .i64 0) := HZ.cell 1
    refine bodyPost_ret (v := .tuple #[.agg #[.slice none 0 0, .int .i64 0], .int .i64 ie]) (by simp [results, Tryz.results6, go_sem, y0, y1]) rfl (HERR.out _ _ HBZ.out HE.out)
  case pos =>
  subst z2
  have hrng : itRange x := by
    have h3 := HIE.out
    unfold itErr at h3
    by_cases a : itFit x
    · rw [if_neg (by simpa using a)] at h3
      by_cases b : itRange x
      · exact b
      · rw [if_pos b] at h3; cases h3
    · rw [if_pos a] at h3; cases h3
  have HPO2 := Lib.hid (HPO.out hrng)
  clear hrng HPO
  have i0 : w2.cell? ⟨N, 0, none⟩ = some (.string x.code) := HX2.out.cell 0
  have i1 : w2.cell? ⟨N, 1, none⟩ = some (.string x.org) := HX2.out.cell 1
  have i3 : w2.cell? ⟨N, 3, none⟩ = some (.int .i64 x.co) := HX2.out.cell 3
  have i4 : w2.cell? ⟨N, 4, none⟩ = some (.int .i64 x.day) := HX2.out.cell 4
  go_wp2_with fail
  refine (HAP.out _ (HX.out.below (HBW.out _ HB2.out))).mono ?_
  rintro e w3 ⟨AR, ac, ys, rfl, hao, hal, hb3⟩
  have hyr : Recs encM 15 w3 AR ys.length ys := Recs.of_own encM_len hao rfl
  have HX3 := Lib.hid (HX2.out.keep hb3)
  have HR3 := Lib.hid (HR2.out.keep hb3)
  have HB3 := Lib.hid (HB2.out.trans (hb3.mono (Nat.le_of_lt HX2.out.lt)))
  have HYR := Lib.hid hyr
  have HAL := Lib.hid hal
  have hyl : ys.length ≤ 6 := by
    have h4 := appTo_len l x 6
    have h5 : (msL ys).length = (applic l x).length := by rw [hal]
    rw [msL_len] at h5
    unfold applic at h5
    omega
  have HAN : Hid (((applic l x).any fun m => m.kind == 1) = ys.any fun y => y.m.kind == 1) := by
    show _ = _
    rw [← hal]
    unfold msL
    rw [List.any_map]
    rfl
  have HC := Lib.hid (contains20 AR ys.length ac ys w3 hyr (by omega))
  clear hao hal hb3 hyr HX2 HR2 HB2 HAP i0 i1 i3 i4
  rw [HAN.out] at HE3 HE4 HE5
  clear HAN
  go_wp2_with fail
  refine HC.out.mono ?_
  rintro e w4 ⟨rfl, hb4⟩
  have HX4 := Lib.hid (HX3.out.keep hb4)
  have HR4 := Lib.hid (HR3.out.keep hb4)
  have HB4 := Lib.hid (HB3.out.trans (hb4.mono (Nat.le_of_lt HX3.out.lt)))
  have HYR4 := Lib.hid (HYR.out.below hb4)
  clear hb4 HX3 HR3 HB3 HYR HC
  cases hany : (ys.any fun y => y.m.kind == 1)
  case false =>
    rw [hany] at HE3
    have HE := Lib.hid (HE3.out (by first | trivial | rfl) (by first | trivial | rfl) (by first | trivial | rfl))
    have HZ := set2_bl HR4.out (.slice none 0 0) (.int .i64 0)
    have HBZ := Lib.hid ((HB4.out.setCell (p := ⟨N + 1, 0, none⟩) (show N ≤ N + 1 by omega) (.slice none 0 0)).setCell (p := ⟨N + 1, 1, none⟩) (show N ≤ N + 1 by omega) (.int .i64 0))
    have t0 : w4.cell? ⟨N + 1, 0, none⟩ = some (.slice none 0 0) := HR4.out.cell 0
    have t1 : w4.cell? ⟨N + 1, 1, none⟩ = some (.int .i64 0) := HR4.out.cell 1
    have t2 : w4.frozen? ⟨N + 1, 0, none⟩ = false := HR4.out.free 0
    have t3 : w4.frozen? ⟨N + 1, 1, none⟩ = false := HR4.out.free 1
    go_wp2
    generalize (w4.setCell ⟨N + 1, 0, none⟩ (.slice none 0 0)).setCell ⟨N + 1, 1, none⟩ (.int .i64 0) = WZ at *
    have y0 : WZ.cell? ⟨N + 1, 0, none⟩ = some (.slice none 0 0) := HZ.cell 0
    have y1 : WZ.cell? ⟨N + 1, 1, none⟩ = some (.int .i64 0) := HZ.cell 1
    refine bodyPost_ret (v := .tuple #[.agg #[.slice none 0 0, .int .i64 0], .int .i64 7]) (by simp [results, Tryz.results6, go_sem, y0, y1]) rfl (HERR.out _ _ HBZ.out HE.out)
  case true =>
  rw [hany] at HE4 HE5
  have i0 : w4.cell? ⟨N, 0, none⟩ = some (.string x.code) := HX4.out.cell 0
  have i1 : w4.cell? ⟨N, 1, none⟩ = some (.string x.org) := HX4.out.cell 1
  have i2 : w4.cell? ⟨N, 2, none⟩ = some (.bool x.proof) := HX4.out.cell 2
  have i3 : w4.cell? ⟨N, 3, none⟩ = some (.int .i64 x.co) := HX4.out.cell 3
  have i4 : w4.cell? ⟨N, 4, none⟩ = some (.int .i64 x.day) := HX4.out.cell 4
  have i5 : w4.cell? ⟨N, 5, none⟩ = some (.int .i64 x.qty) := HX4.out.cell 5
  have i6 : w4.cell? ⟨N, 6, none⟩ = some (.int .i64 x.val) := HX4.out.cell 6
  have i7 : w4.cell? ⟨N, 7, none⟩ = some (.int .i64 x.gr) := HX4.out.cell 7
  go_wp2_with fail
  refine (HPO2.out _).mono ?_
  rintro e w5 ⟨PR, pn, pc, ps, rfl, hpo, hpl, hpk, hpm, hb5⟩
  have HR5 := Lib.hid (HR4.out.keep hb5)
  have HB5 := Lib.hid (HB4.out.trans (hb5.mono (Nat.le_of_lt HX4.out.lt)))
  have HYR5 := Lib.hid (HYR4.out.below hb5)
  have HPR5 : Hid (Recs encPt 3 w5 PR pn ps) := Recs.of_own encPt_len hpo hpl
  have HPK5 : Hid (∀ y ∈ ps, Ints w5 y.A y.n y.p.kinds ∧ y.n ≤ 1000000) := fun y hy => ⟨IntsK.of_own (hpk y hy), by
    have h3 := (hpk y hy).1
    have h4 : y.p ∈ partsL x (shA x) (shB x) := by rw [← hpm]; exact List.mem_map.2 ⟨y, hy, rfl⟩
    have h5 := partsL_kinds h4
    rw [List.length_map] at h3
    omega⟩
  have HPM := Lib.hid hpm
  have hpn : pn ≤ 4 := by
    have h3 := partsL_len x (shA x) (shB x)
    rw [← hpm, List.length_map] at h3
    omega
  clear hpo hpk hpm hb5 HX4 HR4 HB4 HYR4 HPO2 i0 i1 i2 i3 i4 i5 i6 i7
  generalize partsL x (shA x) (shB x) = pts at *
  have hN5 : N ≤ w5.heap.size := by have := HR5.out.lt; omega
  have HD0 : Hid (AsB w5 w5.heap.size none 0 0 [] (w5.alloc (.cells #[.slice none 0 0, .int .i64 0] 28))) := ⟨(Below.refl _ _).alloc (Nat.le_refl _) _, Bl.new _ _ _, ⟨by simp [flat], .inl ⟨rfl, rfl⟩⟩, rfl⟩
  obtain ⟨gd, hgd⟩ : ∃ gd, w5.heap.size = gd := ⟨_, rfl⟩
  go_upto_region 14 with (fail)
  rw [hgd] at HD0
  try rw [hgd]
  generalize w5.alloc (.cells #[.slice none 0 0, .int .i64 0] 28) = W6 at *
  go_wp2_with fail
  go_loopw [54] (fun v wx => ∃ (i : Nat) (R : Option Addr) (m cc : Nat) (ls : List Dl), v = .int .i64 (i : Int) ∧ i ≤ pn ∧ m ≤ i ∧ Hid (AsB w5 gd R m cc ls wx) ∧ Hid (ls = linTo (applic l x) (pts.take i)) ∧ Hid (∀ q ∈ pts.take i, (leastOf (applic l x) q).1 = 0) ∧ (0 ≤ sumA ls ∧ sumA ls ≤ 1000000000000 * (i : Int))) (fun v _ => pn - (intOf v).toNat)
  case atStart => exact ⟨0, none, 0, 0, [], rfl, Nat.zero_le _, Nat.le_refl _, HD0.out, (by show _ = _; simp [linTo]), (fun q hq => by simp at hq), by rw [sumA_nil]; omega⟩
  case round =>
    clear HD0
    obtain ⟨i, R, m, cc, ls, rfl, hi, hmi, HD, HLS, HOK, hs0, hs1⟩ := hrel
    have hptl : pts.length = pn := by rw [← HPM.out, List.length_map]; exact hpl
    have hNg : N + 1 < gd := by have := HR5.out.lt; omega
    by_cases hlt : i < pn
    case neg =>
      obtain rfl : i = pn := by omega
      have di : decide ((i : Int) < (i : Int)) = false := by simp
      have HA5 := HE5.out (by first | trivial | rfl) (by first | trivial | rfl) (by first | trivial | rfl) (by have := HOK.out; rw [List.take_of_length_le (by omega)] at this; exact this)
      have hle : linTo (applic l x) pts = ls := by have := HLS.out; rw [List.take_of_length_le (by omega)] at this; exact this.symm
      rw [hle] at HA5
      have d1 : wr.cell? ⟨gd, 1, none⟩ = some (.int .i64 (sumA ls)) := HD.out.d.cell 1
      have d0 : wr.cell? ⟨gd, 0, none⟩ = some (.slice R m cc) := HD.out.d.cell 0
      have HR6 : Hid (Bl wr (N + 1) 28 #[.slice none 0 0, .int .i64 0]) := (HD.out.below.block (N + 1) hNg).trans HR5.out
      have HB6 : Hid (RowKit.Below N w wr) := HB5.out.trans (HD.out.below.mono (by omega))
      by_cases hov : 1000000000000 < sumA ls
      case pos =>
        have dv : decide (sumA ls > 1000000000000) = true := decide_eq_true hov
        have dv2 : decide (1000000000000 < sumA ls) = true := decide_eq_true hov
        have HE : Hid (asOut l x = (3, [])) := by rw [HA5, if_pos hov]; exact Lib.hid rfl
        clear HA5 d0
        have HZ := set2_bl HR6.out (.slice none 0 0) (.int .i64 0)
        have HBZ := Lib.hid ((HB6.out.setCell (p := ⟨N + 1, 0, none⟩) (show N ≤ N + 1 by omega) (.slice none 0 0)).setCell (p := ⟨N + 1, 1, none⟩) (show N ≤ N + 1 by omega) (.int .i64 0))
        have t0 : wr.cell? ⟨N + 1, 0, none⟩ = some (.slice none 0 0) := HR6.out.cell 0
        have t1 : wr.cell? ⟨N + 1, 1, none⟩ = some (.int .i64 0) := HR6.out.cell 1
        have t2 : wr.frozen? ⟨N + 1, 0, none⟩ = false := HR6.out.free 0
        have t3 : wr.frozen? ⟨N + 1, 1, none⟩ = false := HR6.out.free 1
        go_wp2
        generalize (wr.setCell ⟨N + 1, 0, none⟩ (.slice none 0 0)).setCell ⟨N + 1, 1, none⟩ (.int .i64 0) = WZ at *
        have y0 : WZ.cell? ⟨N + 1, 0, none⟩ = some (.slice none 0 0) := HZ.cell 0
        have y1 : WZ.cell? ⟨N + 1, 1, none⟩ = some (.int .i64 0) := HZ.cell 1
        refine bodyPost_ret (v := .tuple #[.agg #[.slice none 0 0, .int .i64 0], .int .i64 3]) (by simp [results, Tryz.results6, go_sem, y0, y1]) rfl (HERR.out _ _ HBZ.out HE.out)
      case neg =>
        have dv : decide (sumA ls > 1000000000000) = false := decide_eq_false hov
        have dv2 : decide (1000000000000 < sumA ls) = false := decide_eq_false hov
        have HE : Hid (asOut l x = (0, ls)) := by rw [HA5, if_neg hov]; exact Lib.hid rfl
        have HZ := set2_bl HR6.out (.slice R m cc) (.int .i64 (sumA ls))
        have HBZ := Lib.hid ((HB6.out.setCell (p := ⟨N + 1, 0, none⟩) (show N ≤ N + 1 by omega) (.slice R m cc)).setCell (p := ⟨N + 1, 1, none⟩) (show N ≤ N + 1 by omega) (.int .i64 (sumA ls)))
        have t0 : wr.cell? ⟨N + 1, 0, none⟩ = some (.slice none 0 0) := HR6.out.cell 0
        have t1 : wr.cell? ⟨N + 1, 1, none⟩ = some (.int .i64 0) := HR6.out.cell 1
        have t2 : wr.frozen? ⟨N + 1, 0, none⟩ = false := HR6.out.free 0
        have t3 : wr.frozen? ⟨N + 1, 1, none⟩ = false := HR6.out.free 1
        have hRO : Only (N + 1) wr ((wr.setCell ⟨N + 1, 0, none⟩ (.slice R m cc)).setCell ⟨N + 1, 1, none⟩ (.int .i64 (sumA ls))) := ((Only.refl _ _).setCell 0 _).setCell 1 _
        have hOW : ((wr.setCell ⟨N + 1, 0, none⟩ (.slice R m cc)).setCell ⟨N + 1, 1, none⟩ (.int .i64 (sumA ls))).ownsRow gd 38 5 (.slice R m cc) m (flat encDl ls) := own_of_block HD.out.o fun g hg => hRO.block g (fun e => by have := own_base HD.out.o g hg; omega)
        have HRES : Hid (AsRes w (asOut l x) (.returned (.tuple #[.agg #[.slice R m cc, .int .i64 (sumA ls)], .int .i64 0])) ((wr.setCell ⟨N + 1, 0, none⟩ (.slice R m cc)).setCell ⟨N + 1, 1, none⟩ (.int .i64 (sumA ls)))) := by
          rw [HE.out]
          have hlm := HD.out.len
          subst hlm
          exact ⟨R, cc, rfl, own_mono hOW (by omega), by rw [hN]; exact HBZ.out⟩
        clear HA5 hRO hOW
        go_wp2
        generalize (wr.setCell ⟨N + 1, 0, none⟩ (.slice R m cc)).setCell ⟨N + 1, 1, none⟩ (.int .i64 (sumA ls)) = WZ at *
        have y0 : WZ.cell? ⟨N + 1, 0, none⟩ = some (.slice R m cc) := HZ.cell 0
        have y1 : WZ.cell? ⟨N + 1, 1, none⟩ = some (.int .i64 (sumA ls)) := HZ.cell 1
        refine bodyPost_ret (v := .tuple #[.agg #[.slice R m cc, .int .i64 (sumA ls)], .int .i64 0]) (by simp [results, Tryz.results6, go_sem, y0, y1]) rfl HRES.out
    case pos =>
    have di : decide ((i : Int) < (pn : Int)) = true := by simp; omega
    obtain ⟨b1, o1, hA, hb1, ha⟩ := HPR5.out.at_ hlt
    subst hA
    obtain ⟨y, hy⟩ : ∃ y, ps[i]! = y := ⟨_, rfl⟩
    rw [hy] at ha
    have hmem : y ∈ ps := by rw [← hy, getElem!_pos ps i (by omega)]; exact List.getElem_mem _
    have HYK := Lib.hid (HPK5.out y hmem)
    have HPI : Hid (pts[i]! = y.p) := by
      show _ = _
      rw [← HPM.out, getElem!_pos (ps.map (·.p)) i (by rw [List.length_map]; omega), List.getElem_map, ← hy, getElem!_pos ps i (by omega)]
    have lb1 : b1 < gd := by omega
    have a0 : wr.cell? ⟨b1, o1 + i * 3, none⟩ = some (.int .i64 y.p.qty) := (HD.out.below.cell (p := ⟨b1, o1 + i * 3, none⟩) lb1).trans (ha 0 (by omega))
    have a1 : wr.cell? ⟨b1, o1 + i * 3 + 1, none⟩ = some (.int .i64 y.p.val) := (HD.out.below.cell (p := ⟨b1, o1 + i * 3 + 1, none⟩) lb1).trans (ha 1 (by omega))
    have a2 : wr.cell? ⟨b1, o1 + i * 3 + 2, none⟩ = some (.slice y.A y.n y.c) := (HD.out.below.cell (p := ⟨b1, o1 + i * 3 + 2, none⟩) lb1).trans (ha 2 (by omega))
    have hii : (i : Int) < (pn : Int) := by omega
    have hiz : (0 : Int) ≤ (i : Int) := by omega
    have ui : IntKind.i64.wrap ((i : Int) + 1) = ((i + 1 : Nat) : Int) := IntWalk.i64_in _ (by omega)
    have HTK : Hid (pts.take (i + 1) = pts.take i ++ [y.p]) := by show _ = _; rw [take_snoc20 pts (by omega), HPI.out]
    have HDP := Lib.hid (HD.out.alloc (.cells #[.int .i64 y.p.qty, .int .i64 y.p.val, .slice y.A y.n y.c] 74))
    have HBP : Hid (Bl (wr.alloc (.cells #[.int .i64 y.p.qty, .int .i64 y.p.val, .slice y.A y.n y.c] 74)) wr.heap.size 74 #[.int .i64 y.p.qty, .int .i64 y.p.val, .slice y.A y.n y.c]) := Bl.new _ _ _
    have HLD : Hid (∀ wx, RowKit.Below gd w5 wx → Calls Tryz.prog 26 #[.slice AR ys.length ac, .agg #[.int .i64 y.p.qty, .int .i64 y.p.val, .slice y.A y.n y.c]] wx (LeRes wx (leastOf (applic l x) y.p))) := fun wx hb => by
      have hb' : RowKit.Below w5.heap.size w5 wx := by rw [hgd]; exact hb
      have := leastDuty_any AR ys.length ac ys y.p.qty y.p.val y.A y.n y.c y.p.kinds wx (HYR5.out.below hb') (HYK.out.1.below hb') (by omega) HYK.out.2
      rw [HAL.out] at this
      exact this
    clear ha hy hmem hb1
    go_upto_region 17 with (fail)
    clear a0 a1 a2 HD
    generalize wr.alloc (.cells #[.int .i64 y.p.qty, .int .i64 y.p.val, .slice y.A y.n y.c] 74) = W7 at *
    generalize wr.heap.size = gp at *
    have p0 : W7.cell? ⟨gp, 0, none⟩ = some (.int .i64 y.p.qty) := HBP.out.cell 0
    have p1 : W7.cell? ⟨gp, 1, none⟩ = some (.int .i64 y.p.val) := HBP.out.cell 1
    have p2 : W7.cell? ⟨gp, 2, none⟩ = some (.slice y.A y.n y.c) := HBP.out.cell 2
    obtain ⟨o, ho⟩ : ∃ o, leastOf (applic l x) y.p = o := ⟨_, rfl⟩
    have HO := Lib.hid ho
    have HOB := least_ok (applic l x) y.p
    rw [ho] at HLD HOB
    clear ho
    go_wp2_with fail
    refine (HLD.out _ HDP.out.below).mono ?_
    unfold LeRes dlA
    rintro e w8 ⟨rfl, hb8⟩
    have HD8 := Lib.hid (HDP.out.under hb8)
    clear hb8 p0 p1 p2 HDP HBP HLD
    obtain ⟨er, od⟩ := o
    have HDL : Hid (AsB w5 gd R m cc ls (w8.alloc (.cells #[.int .i64 (bestL (er, od)).kind, .int .i64 (bestL (er, od)).meas, .int .i64 (bestL (er, od)).qty, .int .i64 (bestL (er, od)).val, .int .i64 (bestL (er, od)).amt] 38))) := HD8.out.alloc _
    have HBL : Hid (Bl (w8.alloc (.cells #[.int .i64 (bestL (er, od)).kind, .int .i64 (bestL (er, od)).meas, .int .i64 (bestL (er, od)).qty, .int .i64 (bestL (er, od)).val, .int .i64 (bestL (er, od)).amt] 38)) w8.heap.size 38 #[.int .i64 (bestL (er, od)).kind, .int .i64 (bestL (er, od)).meas, .int .i64 (bestL (er, od)).qty, .int .i64 (bestL (er, od)).val, .int .i64 (bestL (er, od)).amt]) := Bl.new _ _ _
    have HROW : Hid (∀ g, (Value.slice R m cc).ownBlock = some g → g ≠ w8.heap.size) := fun g hg e => by have := own_lt HD8.out.o g hg; omega
    have HGG : Hid (w8.heap.size ≠ gd) := by have := HD8.out.d.lt; exact Lib.hid (by omega)
    go_upto_region 18 with (fail)
    try dsimp only
    clear HD8
    generalize w8.alloc (.cells #[.int .i64 (bestL (er, od)).kind, .int .i64 (bestL (er, od)).meas, .int .i64 (bestL (er, od)).qty, .int .i64 (bestL (er, od)).val, .int .i64 (bestL (er, od)).amt] 38) = W9 at *
    generalize w8.heap.size = gl at *
    by_cases he : er = 0
    case neg =>
      have y1' : (er != 0) = true := by simpa using he
      have HE : Hid (asOut l x = (er, [])) := by
        refine HE4.out (by first | trivial | rfl) (by first | trivial | rfl) (by first | trivial | rfl) ?_ he
        rw [linesOf_bad (i := i) (by omega) HOK.out (by rw [HPI.out, HO.out]; exact he), HPI.out, HO.out]
      have HR9 : Hid (Bl W9 (N + 1) 28 #[.slice none 0 0, .int .i64 0]) := (HDL.out.below.block (N + 1) hNg).trans HR5.out
      have HB9 : Hid (RowKit.Below N w W9) := HB5.out.trans (HDL.out.below.mono (by omega))
      have HZ := set2_bl HR9.out (.slice none 0 0) (.int .i64 0)
      have HBZ := Lib.hid ((HB9.out.setCell (p := ⟨N + 1, 0, none⟩) (show N ≤ N + 1 by omega) (.slice none 0 0)).setCell (p := ⟨N + 1, 1, none⟩) (show N ≤ N + 1 by omega) (.int .i64 0))
      have t0 : W9.cell? ⟨N + 1, 0, none⟩ = some (.slice none 0 0) := HR9.out.cell 0
      have t1 : W9.cell? ⟨N + 1, 1, none⟩ = some (.int .i64 0) := HR9.out.cell 1
      have t2 : W9.frozen? ⟨N + 1, 0, none⟩ = false := HR9.out.free 0
      have t3 : W9.frozen? ⟨N + 1, 1, none⟩ = false := HR9.out.free 1
      go_wp2
      generalize (W9.setCell ⟨N + 1, 0, none⟩ (.slice none 0 0)).setCell ⟨N + 1, 1, none⟩ (.int .i64 0) = WZ at *
      have y0 : WZ.cell? ⟨N + 1, 0, none⟩ = some (.slice none 0 0) := HZ.cell 0
      have y1 : WZ.cell? ⟨N + 1, 1, none⟩ = some (.int .i64 0) := HZ.cell 1
      refine bodyPost_ret (v := .tuple #[.agg #[.slice none 0 0, .int .i64 0], .int .i64 er]) (by simp [results, Tryz.results6, go_sem, y0, y1]) rfl (HERR.out _ _ HBZ.out HE.out)
    case pos =>
    subst he
    have y1' : ((0 : Int) != 0) = false := by decide
    have HOK2 : Hid (∀ q ∈ pts.take (i + 1), (leastOf (applic l x) q).1 = 0) := fun q hq => by
      rw [HTK.out] at hq
      rcases List.mem_append.1 hq with hq | hq
      · exact HOK.out q hq
      · rw [List.mem_singleton] at hq
        subst hq
        rw [HO.out]
    cases od with
    | none =>
      have HLS2 : Hid (ls = linTo (applic l x) (pts.take (i + 1))) := by
        show _ = _
        rw [HTK.out, linTo_snoc, HO.out, ← HLS.out]
        simp
      have ef : fndOf ((0 : Int), (none : Option Dl)) = false := rfl
      go_wp2_with fail
      go_roundw
      case rel => exact ⟨i + 1, R, m, cc, ls, by go_num, by omega, by omega, HDL.out, HLS2.out, HOK2.out, by omega⟩
      case measure => simp [intOf]; omega
    | some z =>
      obtain ⟨⟨z0, z1⟩, _⟩ := HOB z rfl
      have ez : bestL ((0 : Int), some z) = z := rfl
      have ef : fndOf ((0 : Int), some z) = true := rfl
      rw [ez] at HBL
      have HLS2 : Hid (ls ++ [z] = linTo (applic l x) (pts.take (i + 1))) := by
        show _ = _
        rw [HTK.out, linTo_snoc, HO.out, ← HLS.out]
        simp
      have l0 : W9.cell? ⟨gl, 0, none⟩ = some (.int .i64 z.kind) := HBL.out.cell 0
      have l1 : W9.cell? ⟨gl, 1, none⟩ = some (.int .i64 z.meas) := HBL.out.cell 1
      have l2 : W9.cell? ⟨gl, 2, none⟩ = some (.int .i64 z.qty) := HBL.out.cell 2
      have l3 : W9.cell? ⟨gl, 3, none⟩ = some (.int .i64 z.val) := HBL.out.cell 3
      have l4 : W9.cell? ⟨gl, 4, none⟩ = some (.int .i64 z.amt) := HBL.out.cell 4
      have d0 : W9.cell? ⟨gd, 0, none⟩ = some (.slice R m cc) := HDL.out.d.cell 0
      have HDA := Lib.hid (HDL.out.alloc (.cells #[.int .i64 z.kind, .int .i64 z.meas, .int .i64 z.qty, .int .i64 z.val, .int .i64 z.amt] 38))
      have HRD : Hid (Rd (W9.alloc (.cells #[.int .i64 z.kind, .int .i64 z.meas, .int .i64 z.qty, .int .i64 z.val, .int .i64 z.amt] 38)) 5 (some ⟨W9.heap.size, 0, none⟩) 1 (encDl z)) := rd_bl (xs := encDl z) (Bl.new _ _ _) rfl
      have HON := Lib.hid (encDl_one z)
      have HM1 : Hid (m + 1 ≤ maxLen ∧ (m + 1) * 40 ≤ 140737488355328) := ⟨by unfold maxLen; omega, by omega⟩
      have hgl : gl < W9.heap.size := HBL.out.lt
      have HGL : Hid (Bl (W9.alloc (.cells #[.int .i64 z.kind, .int .i64 z.meas, .int .i64 z.qty, .int .i64 z.val, .int .i64 z.amt] 38)) gl 38 #[.int .i64 z.kind, .int .i64 z.meas, .int .i64 z.qty, .int .i64 z.val, .int .i64 z.amt]) := Bl.alloc HBL.out _
      have HNO := Lib.hid HROW.out
      have us : IntKind.i64.wrap (sumA ls + z.amt) = sumA ls + z.amt := IntWalk.i64_in _ (by omega)
      go_wp2_with (at_builtin; refine wpList_append_rd _ rfl (.tmp 71) (.tmp 73) 26 rfl gd 38 _ 5 40 Tryz.underlying26 infoDl rfl (by decide) (.slice R m cc) m _ rfl HDA.out.o (some ⟨W9.heap.size, 0, none⟩) 1 _ (encDl z) rfl HRD.out HON.out HM1.out.1 HM1.out.2 HDA.out.size ?_; intro v10 w10 ho10 hg10 hv10; obtain ⟨R10, d10, rfl⟩ := own_slice ho10; have hap := HDL.out.app hg10 ho10; have c10 : w10.cell? ⟨gd, 0, none⟩ = some (.slice R m cc) := hap.1.1.cell 0; have c11 : w10.frozen? ⟨gd, 0, none⟩ = false := hap.1.1.free 0; have c12 : (w10.setCell ⟨gd, 0, none⟩ (.slice R10 (m + 1) d10)).cell? ⟨gd, 1, none⟩ = some (.int .i64 (sumA ls)) := hap.1.2.cell 1; have c13 : (w10.setCell ⟨gd, 0, none⟩ (.slice R10 (m + 1) d10)).frozen? ⟨gd, 1, none⟩ = false := hap.1.2.free 1; have hl10 : Bl w10 gl 38 #[.int .i64 z.kind, .int .i64 z.meas, .int .i64 z.qty, .int .i64 z.val, .int .i64 z.amt] := (hg10.block gl HGL.out.lt (fun e => HNO.out gl e.symm rfl)).trans HGL.out; have c14 : (w10.setCell ⟨gd, 0, none⟩ (.slice R10 (m + 1) d10)).cell? ⟨gl, 4, none⟩ = some (.int .i64 z.amt) := (hl10.far (p := ⟨gd, 0, none⟩) (show gl ≠ gd from HGG.out) _).cell 4)
      have HD11 := Lib.hid hap.2
      have hsz : sumA (ls ++ [z]) = sumA ls + z.amt := by rw [sumA_append, sumA_cons, sumA_nil]; omega
      clear hap
      go_roundw
      case rel => exact ⟨i + 1, R10, m + 1, d10, ls ++ [z], by go_num, by omega, by omega, HD11.out, HLS2.out, HOK2.out, by rw [hsz]; omega⟩
      case measure => simp [intOf]; omega
end Go.Proofs.YtbokkeooahodaaaGreatDoor

namespace Go.Proofs.YtbokkeooahodaaaGreatDoor
open Go.RowKit Go.Maps
set_option linter.unusedVariables false

theorem TlW.under {w0 wx w' : World} {N gt : Nat} {es : List Dl} (h : TlW w0 N gt es wx) (hb : RowKit.Below wx.heap.size wx w') : TlW w0 N gt es w' := by
  rcases h with ⟨h1, h2, h3, h4⟩ | ⟨ks, R, m, c, b, k, D, h1, h2⟩
  · exact .inl ⟨h1, h2.trans (hb.mono (by have := h4.lt; omega)), h3, h4.keep hb⟩
  · exact .inr ⟨ks, R, m, c, b, k, D, h1.under hb, h2⟩
theorem TlW.alloc {w0 wx : World} {N gt : Nat} {es : List Dl} (h : TlW w0 N gt es wx) (o : Obj) : TlW w0 N gt es (wx.alloc o) := h.under ((Below.refl _ _).alloc (Nat.le_refl _) _)
theorem TlW.below {w0 wx : World} {N gt : Nat} {es : List Dl} (h : TlW w0 N gt es wx) : RowKit.Below N w0 wx := by
  rcases h with ⟨_, h2, _⟩ | ⟨_, _, _, _, _, _, _, h1, _⟩
  · exact h2
  · exact h1.below
structure TlC (w0 : World) (N gt : Nat) (ks : List Ak) (R : Option Addr) (m c : Nat) (mv : Value) (D : DataW Unit) (wx : World) : Prop where
  below : RowKit.Below N w0 wx
  t : Bl wx gt 80 #[.slice R m c, mv]
  o : wx.ownsRow N 83 2 (.slice R m c) m (flat encA ks)
  len : ks.length = m
  base : N ≤ gt
  map : m = 0 ∨ ∃ b k, mv = .map (some b) ∧ N ≤ b ∧ TlMap wx b k D
theorem TlW.read {w0 wx : World} {N gt : Nat} {es : List Dl} (h : TlW w0 N gt es wx) : ∃ (ks : List Ak) (R : Option Addr) (m c : Nat) (mv : Value) (D : DataW Unit), TlC w0 N gt ks R m c mv D wx ∧ TlOk es ks D ∧ m ≤ es.length := by
  rcases h with ⟨h1, h2, h3, h4⟩ | ⟨ks, R, m, c, b, k, D, h1, h2, h3, _⟩
  · subst h1
    exact ⟨[], none, 0, 0, _, .map [], ⟨h2, h4, ⟨by simp [flat], .inl ⟨rfl, rfl⟩⟩, rfl, h3, .inl rfl⟩, TlOk.start, Nat.le_refl _⟩
  · exact ⟨ks, R, m, c, _, D, ⟨h1.below, h1.t, h1.o, h1.len, h1.base.1, .inr ⟨b, k, rfl, h1.base.2, h1.map⟩⟩, h2, h3⟩
structure DfB (w0 : World) (N gt : Nat) (ks : List Ak) (R : Option Addr) (m c : Nat) (mv : Value) (D : DataW Unit) (R2 : Option Addr) (m2 c2 : Nat) (ls : List Dl) (wx : World) : Prop where
  c : TlC w0 N gt ks R m c mv D wx
  r : wx.ownsRow N 38 5 (.slice R2 m2 c2) m2 (flat encDl ls)
  len : ls.length = m2
section
variable {w0 wx w' : World} {N gt : Nat} {ks : List Ak} {R : Option Addr} {m c : Nat} {mv : Value} {D : DataW Unit} {R2 : Option Addr} {m2 c2 : Nat} {ls : List Dl}
theorem TlC.size (h : TlC w0 N gt ks R m c mv D wx) : N ≤ wx.heap.size := by have := h.t.lt; have := h.base; omega
theorem TlC.under (h : TlC w0 N gt ks R m c mv D wx) (hb : RowKit.Below wx.heap.size wx w') : TlC w0 N gt ks R m c mv D w' :=
  ⟨h.below.trans (hb.mono h.size), h.t.keep hb, own_below h.o hb, h.len, h.base, h.map.imp id fun ⟨b, k, h1, h2, h3⟩ => ⟨b, k, h1, h2, h3.of_block (hb.block b (World.ownsMap.lt h3))⟩⟩
theorem TlC.sorted (h : TlC w0 N gt ks R m c mv D wx) {ks' : List Ak} (hg : wx.grownBy w' (Value.slice R m c).ownBlock) (ho : w'.ownsRow N 83 2 (.slice R m c) m (flat encA ks')) (hb : RowKit.Below N wx w') (hl : ks'.length = m) : TlC w0 N gt ks' R m c mv D w' :=
  ⟨h.below.trans hb, (hg.block gt h.t.lt (fun e => own_apart h.o h.t (by decide) e)).trans h.t, ho, hl, h.base, h.map.imp id fun ⟨b, k, h1, h2, h3⟩ => ⟨b, k, h1, h2, h3.of_block (hg.block b (World.ownsMap.lt h3) (fun e => map_row h3 h.o e.symm))⟩⟩
theorem DfB.under (h : DfB w0 N gt ks R m c mv D R2 m2 c2 ls wx) (hb : RowKit.Below wx.heap.size wx w') : DfB w0 N gt ks R m c mv D R2 m2 c2 ls w' := ⟨h.c.under hb, own_below h.r hb, h.len⟩
theorem DfB.alloc (h : DfB w0 N gt ks R m c mv D R2 m2 c2 ls wx) (o : Obj) : DfB w0 N gt ks R m c mv D R2 m2 c2 ls (wx.alloc o) := h.under ((Below.refl _ _).alloc (Nat.le_refl _) _)
theorem DfB.app (h : DfB w0 N gt ks R m c mv D R2 m2 c2 ls wx) {R4 : Option Addr} {d4 : Nat} {x : Dl} {o : Obj} (hg : (wx.alloc o).grownBy w' (Value.slice R2 m2 c2).ownBlock) (ho : w'.ownsRow N 38 5 (.slice R4 (m2 + 1) d4) (m2 + 1) (flat encDl ls ++ encDl x)) :
    DfB w0 N gt ks R m c mv D R4 (m2 + 1) d4 (ls ++ [x]) w' := by
  have h1 := h.alloc o
  refine ⟨⟨h1.c.below.grown hg h1.c.size (fun g e => own_base h.r g e), (hg.block gt h1.c.t.lt (fun e => own_apart h1.r h1.c.t (by decide) e)).trans h1.c.t, ?_, h.c.len, h.c.base, h1.c.map.imp id fun ⟨b, k, e1, e2, e3⟩ => ⟨b, k, e1, e2, e3.of_block (hg.block b (World.ownsMap.lt e3) (fun e => map_row e3 h1.r e.symm))⟩⟩, by rw [flat_append, flat_one]; exact ho, by rw [List.length_append, h.len]; rfl⟩
  refine own_of_block h1.c.o fun g hgb => hg.block g (own_lt h1.c.o g hgb) (fun e => own_far20 h1.c.o h1.r (by decide) g hgb e.symm)
end
def DfRes (w : World) (la lb : List Dl) (e : Ending) (w' : World) : Prop := ∃ (R : Option Addr) (c : Nat) (ls : List Dl), e = .returned (.slice R ls.length c) ∧ w'.ownsRow w.heap.size 38 5 (.slice R ls.length c) ls.length (flat encDl ls) ∧ (∀ k m, totA ls k m = totA lb k m - totA la k m) ∧ (∀ d ∈ ls, (-20000000000000 ≤ d.amt ∧ d.amt ≤ 20000000000000) ∧ InK d.kind ∧ InK d.meas) ∧ ls.length ≤ la.length + lb.length ∧ RowKit.Below w.heap.size w w'
theorem neg_ok {la : List Dl} (h : ∀ d ∈ la, DlOk d) : ∀ e ∈ la.map negD, -1000000000000 ≤ e.amt ∧ e.amt ≤ 1000000000000 := fun e he => by
  obtain ⟨d, hd, rfl⟩ := List.mem_map.1 he
  have := (h d hd).1
  simp only [negD]
  omega
theorem tot_in {es : List Dl} (h : ∀ e ∈ es, -1000000000000 ≤ e.amt ∧ e.amt ≤ 1000000000000) (hl : es.length ≤ 20) {a : Int} (ha : -1000000000000 ≤ a ∧ a ≤ 1000000000000) (k m : Int) : InK (totA es k m + a) := by
  have := tot_bound (B := 1000000000000) (by decide) h k m
  unfold InK
  omega
theorem InK.of (a : Int) (h : 1 ≤ a ∧ a ≤ 1000000) : InK a := by unfold InK; omega
theorem dl_in {d : Dl} (h : DlOk d) : InK d.kind ∧ InK d.meas := ⟨InK.of _ ⟨h.2.1.1, by have := h.2.1.2; omega⟩, InK.of _ h.2.2⟩
theorem diffOf_mem {es : List Dl} {ks : List (Int × Int)} {d : Dl} (h : d ∈ diffOf es ks) : ∃ p ∈ ks, d = ⟨p.1, p.2, 0, 0, totA es p.1 p.2⟩ := by
  obtain ⟨p, hp, hd⟩ := List.mem_flatMap.1 h
  refine ⟨p, hp, ?_⟩
  unfold lineOf at hd
  split at hd
  · cases hd
  · exact List.mem_singleton.1 hd
set_option maxRecDepth 100000 in
set_option maxHeartbeats 16000000 in
theorem difference_any (A1 : Option Addr) (n1 c1 : Nat) (la : List Dl) (t1 : Int) (A2 : Option Addr) (n2 c2 : Nat) (lb : List Dl) (t2 : Int) (w : World) (h1 : Recs encDl 5 w A1 n1 la) (h2 : Recs encDl 5 w A2 n2 lb) (hn1 : n1 ≤ 10) (hn2 : n2 ≤ 10) (k1 : ∀ d ∈ la, DlOk d) (k2 : ∀ d ∈ lb, DlOk d) :
    Calls Tryz.prog 8 #[.agg #[.slice A1 n1 c1, .int .i64 t1], .agg #[.slice A2 n2 c2, .int .i64 t2]] w (DfRes w la lb) := by
  have HX1 := Lib.hid h1
  have HX2 := Lib.hid h2
  have HK1 := Lib.hid k1
  have HK2 := Lib.hid k2
  have hl1 : la.length = n1 := h1.1
  have hl2 : lb.length = n2 := h2.1
  have hb0 : RowKit.Below w.heap.size w ((w.alloc (.cells #[.slice A1 n1 c1, .int .i64 t1] 28)).alloc (.cells #[.slice A2 n2 c2, .int .i64 t2] 28)) := ((Below.refl _ _).alloc (Nat.le_refl _) _).alloc (by simp) _
  have HXA : Hid (Bl ((w.alloc (.cells #[.slice A1 n1 c1, .int .i64 t1] 28)).alloc (.cells #[.slice A2 n2 c2, .int .i64 t2] 28)) w.heap.size 28 #[.slice A1 n1 c1, .int .i64 t1]) := Bl.alloc (Bl.new _ _ _) _
  have s1 : (w.alloc (.cells #[.slice A1 n1 c1, .int .i64 t1] 28)).heap.size = w.heap.size + 1 := by simp
  have HXB : Hid (Bl ((w.alloc (.cells #[.slice A1 n1 c1, .int .i64 t1] 28)).alloc (.cells #[.slice A2 n2 c2, .int .i64 t2] 28)) (w.heap.size + 1) 28 #[.slice A2 n2 c2, .int .i64 t2]) := by rw [← s1]; exact Bl.new _ _ _
  have s2 : ((w.alloc (.cells #[.slice A1 n1 c1, .int .i64 t1] 28)).alloc (.cells #[.slice A2 n2 c2, .int .i64 t2] 28)).heap.size = w.heap.size + 1 + 1 := by simp
  have HB0 := Lib.hid hb0
  clear h1 h2 k1 k2 hb0
  go_enter Tryz.func8, Tryz.ntmps8
  go_upto_region 1 with (fail)
  try rw [s1]
  generalize (w.alloc (.cells #[.slice A1 n1 c1, .int .i64 t1] 28)).alloc (.cells #[.slice A2 n2 c2, .int .i64 t2] 28) = W0 at *
  obtain ⟨gt, hgt⟩ : ∃ gt, W0.heap.size = gt := ⟨_, rfl⟩
  have HT0 : Hid (TlW W0 gt gt [] (W0.alloc (.cells #[.slice none 0 0, .map none] 80))) := by
    rw [← hgt]
    exact .inl ⟨rfl, (Below.refl _ _).alloc (Nat.le_refl _) _, Nat.le_refl _, Bl.new _ _ _⟩
  have hgt2 : w.heap.size + 1 + 1 = gt := by rw [← hgt, s2]
  go_upto_region 2 with (fail)
  try rw [hgt2]
  generalize W0.alloc (.cells #[.slice none 0 0, .map none] 80) = W1 at *
  have hgs : w.heap.size + 1 < gt := by omega
  have HY1 : Hid (Recs encDl 5 W0 A1 n1 la) := HX1.out.below HB0.out
  have HY2 : Hid (Recs encDl 5 W0 A2 n2 lb) := HX2.out.below HB0.out
  have x0 : W1.cell? ⟨w.heap.size, 0, none⟩ = some (.slice A1 n1 c1) := (HT0.out.below.cell (p := ⟨w.heap.size, 0, none⟩) (show w.heap.size < gt by omega)).trans (HXA.out.cell 0)
  clear HX1 HX2 s1 s2 hgt2
  go_wp2_with fail
  go_loopw [17] (fun v wx => ∃ i : Nat, v = .int .i64 (i : Int) ∧ i ≤ n1 ∧ Hid (TlW W0 gt gt ((la.take i).map negD) wx)) (fun v _ => n1 - (intOf v).toNat)
  case atStart => exact ⟨0, rfl, Nat.zero_le _, by show TlW _ _ _ _ _; simpa using HT0.out⟩
  case round =>
    clear HT0 x0
    obtain ⟨i, rfl, hi, HT⟩ := hrel
    by_cases hlt : i < n1
    case pos =>
      have di : decide ((i : Int) < (n1 : Int)) = true := by simp; omega
      obtain ⟨b1, o1, hA, hb1, ha⟩ := HY1.out.at_ hlt
      subst hA
      obtain ⟨y, hy⟩ : ∃ y, la[i]! = y := ⟨_, rfl⟩
      rw [hy] at ha
      have hyo : DlOk y := HK1.out y (by rw [← hy, getElem!_pos la i (by omega)]; exact List.getElem_mem _)
      have lb1 : b1 < gt := by omega
      have a0 : wr.cell? ⟨b1, o1 + i * 5, none⟩ = some (.int .i64 y.kind) := (HT.out.below.cell (p := ⟨b1, o1 + i * 5, none⟩) lb1).trans (ha 0 (by omega))
      have a1 : wr.cell? ⟨b1, o1 + i * 5 + 1, none⟩ = some (.int .i64 y.meas) := (HT.out.below.cell (p := ⟨b1, o1 + i * 5 + 1, none⟩) lb1).trans (ha 1 (by omega))
      have a2 : wr.cell? ⟨b1, o1 + i * 5 + 2, none⟩ = some (.int .i64 y.qty) := (HT.out.below.cell (p := ⟨b1, o1 + i * 5 + 2, none⟩) lb1).trans (ha 2 (by omega))
      have a3 : wr.cell? ⟨b1, o1 + i * 5 + 3, none⟩ = some (.int .i64 y.val) := (HT.out.below.cell (p := ⟨b1, o1 + i * 5 + 3, none⟩) lb1).trans (ha 3 (by omega))
      have a4 : wr.cell? ⟨b1, o1 + i * 5 + 4, none⟩ = some (.int .i64 y.amt) := (HT.out.below.cell (p := ⟨b1, o1 + i * 5 + 4, none⟩) lb1).trans (ha 4 (by omega))
      have HTK : Hid (la.take (i + 1) = la.take i ++ [y]) := by show _ = _; rw [take_snoc20 la (by omega), hy]
      have HADD : Hid (∀ wx, TlW W0 gt gt ((la.take i).map negD) wx → Calls Tryz.prog 27 #[.pointer (some ⟨gt, 0, none⟩), .agg #[.int .i64 y.kind, .int .i64 y.meas], .int .i64 (-y.amt)] wx fun en w' => en = .returned (.tuple #[]) ∧ TlW W0 gt gt ((la.take i).map negD ++ [negD y]) w') := fun wx hx => tadd_any W0 gt gt _ (negD y) wx hx (dl_in hyo).1 (dl_in hyo).2 (tot_in (fun e he => neg_ok HK1.out e (by rw [List.map_take] at he; exact List.mem_of_mem_take he)) (by simp; omega) (by have := hyo.1; simp only [negD]; omega) _ _) (by simp; omega)
      have un : IntKind.i64.wrap (-y.amt) = -y.amt := IntWalk.i64_in _ (by have := hyo.1; omega)
      have hii : (i : Int) < (n1 : Int) := by omega
      have hiz : (0 : Int) ≤ (i : Int) := by omega
      have ui : IntKind.i64.wrap ((i : Int) + 1) = ((i + 1 : Nat) : Int) := IntWalk.i64_in _ (by omega)
      have HTA := Lib.hid (HT.out.alloc (.cells #[.int .i64 y.kind, .int .i64 y.meas, .int .i64 y.qty, .int .i64 y.val, .int .i64 y.amt] 38))
      have HBA : Hid (Bl (wr.alloc (.cells #[.int .i64 y.kind, .int .i64 y.meas, .int .i64 y.qty, .int .i64 y.val, .int .i64 y.amt] 38)) wr.heap.size 38 #[.int .i64 y.kind, .int .i64 y.meas, .int .i64 y.qty, .int .i64 y.val, .int .i64 y.amt]) := Bl.new _ _ _
      clear ha hy hyo hb1
      go_upto_region 5 with (fail)
      clear a0 a1 a2 a3 a4 HT
      generalize wr.alloc (.cells #[.int .i64 y.kind, .int .i64 y.meas, .int .i64 y.qty, .int .i64 y.val, .int .i64 y.amt] 38) = W5 at *
      generalize wr.heap.size = gy at *
      have g0 : W5.cell? ⟨gy, 0, none⟩ = some (.int .i64 y.kind) := HBA.out.cell 0
      have g1 : W5.cell? ⟨gy, 1, none⟩ = some (.int .i64 y.meas) := HBA.out.cell 1
      have g4 : W5.cell? ⟨gy, 4, none⟩ = some (.int .i64 y.amt) := HBA.out.cell 4
      go_wp2_with fail
      refine (HADD.out _ HTA.out).mono ?_
      rintro e w6 ⟨rfl, hT6⟩
      have HT6 : Hid (TlW W0 gt gt ((la.take (i + 1)).map negD) w6) := by
        show TlW _ _ _ _ _
        rw [HTK.out]
        rw [List.map_append]
        exact hT6
      clear hT6
      go_wp2_with fail
      go_roundw
      case rel => exact ⟨i + 1, by go_num, by omega, HT6.out⟩
      case measure => simp [intOf]; omega
    case neg =>
    obtain rfl : i = n1 := by omega
    have di : decide ((i : Int) < (i : Int)) = false := by simp
    have HT1 : Hid (TlW W0 gt gt (la.map negD) wr) := by have := HT.out; rw [List.take_of_length_le (by omega)] at this; exact this
    have x1 : wr.cell? ⟨w.heap.size + 1, 0, none⟩ = some (.slice A2 n2 c2) := (HT1.out.below.cell (p := ⟨w.heap.size + 1, 0, none⟩) hgs).trans (HXB.out.cell 0)
    clear HT
    go_wp2_with fail
    go_loopw [34] (fun v wx => ∃ j : Nat, v = .int .i64 (j : Int) ∧ j ≤ n2 ∧ Hid (TlW W0 gt gt (la.map negD ++ lb.take j) wx)) (fun v _ => n2 - (intOf v).toNat)
    case atStart => exact ⟨0, rfl, Nat.zero_le _, by show TlW _ _ _ _ _; simpa using HT1.out⟩
    case round =>
      clear HT1 x1
      obtain ⟨j, rfl, hj, HT⟩ := hrel
      by_cases hlt : j < n2
      case pos =>
        have di : decide ((j : Int) < (n2 : Int)) = true := by simp; omega
        obtain ⟨b1, o1, hA, hb1, ha⟩ := HY2.out.at_ hlt
        subst hA
        obtain ⟨y, hy⟩ : ∃ y, lb[j]! = y := ⟨_, rfl⟩
        rw [hy] at ha
        have hyo : DlOk y := HK2.out y (by rw [← hy, getElem!_pos lb j (by omega)]; exact List.getElem_mem _)
        have lb1 : b1 < gt := by omega
        have a0 : wr.cell? ⟨b1, o1 + j * 5, none⟩ = some (.int .i64 y.kind) := (HT.out.below.cell (p := ⟨b1, o1 + j * 5, none⟩) lb1).trans (ha 0 (by omega))
        have a1 : wr.cell? ⟨b1, o1 + j * 5 + 1, none⟩ = some (.int .i64 y.meas) := (HT.out.below.cell (p := ⟨b1, o1 + j * 5 + 1, none⟩) lb1).trans (ha 1 (by omega))
        have a2 : wr.cell? ⟨b1, o1 + j * 5 + 2, none⟩ = some (.int .i64 y.qty) := (HT.out.below.cell (p := ⟨b1, o1 + j * 5 + 2, none⟩) lb1).trans (ha 2 (by omega))
        have a3 : wr.cell? ⟨b1, o1 + j * 5 + 3, none⟩ = some (.int .i64 y.val) := (HT.out.below.cell (p := ⟨b1, o1 + j * 5 + 3, none⟩) lb1).trans (ha 3 (by omega))
        have a4 : wr.cell? ⟨b1, o1 + j * 5 + 4, none⟩ = some (.int .i64 y.amt) := (HT.out.below.cell (p := ⟨b1, o1 + j * 5 + 4, none⟩) lb1).trans (ha 4 (by omega))
        have HTK : Hid (lb.take (j + 1) = lb.take j ++ [y]) := by show _ = _; rw [take_snoc20 lb (by omega), hy]
        have HADD : Hid (∀ wx, TlW W0 gt gt (la.map negD ++ lb.take j) wx → Calls Tryz.prog 27 #[.pointer (some ⟨gt, 0, none⟩), .agg #[.int .i64 y.kind, .int .i64 y.meas], .int .i64 (y.amt)] wx fun en w' => en = .returned (.tuple #[]) ∧ TlW W0 gt gt (la.map negD ++ lb.take j ++ [y]) w') := fun wx hx => tadd_any W0 gt gt _ (y) wx hx (dl_in hyo).1 (dl_in hyo).2 (tot_in (fun e he => by
          rcases List.mem_append.1 he with he | he
          · exact neg_ok HK1.out e he
          · have := (HK2.out e (List.mem_of_mem_take he)).1; omega) (by simp; omega) (by have := hyo.1; omega) _ _) (by simp; omega)
        have un : IntKind.i64.wrap (-y.amt) = -y.amt := IntWalk.i64_in _ (by have := hyo.1; omega)
        have hii : (j : Int) < (n2 : Int) := by omega
        have hiz : (0 : Int) ≤ (j : Int) := by omega
        have ui : IntKind.i64.wrap ((j : Int) + 1) = ((j + 1 : Nat) : Int) := IntWalk.i64_in _ (by omega)
        have HTA := Lib.hid (HT.out.alloc (.cells #[.int .i64 y.kind, .int .i64 y.meas, .int .i64 y.qty, .int .i64 y.val, .int .i64 y.amt] 38))
        have HBA : Hid (Bl (wr.alloc (.cells #[.int .i64 y.kind, .int .i64 y.meas, .int .i64 y.qty, .int .i64 y.val, .int .i64 y.amt] 38)) wr.heap.size 38 #[.int .i64 y.kind, .int .i64 y.meas, .int .i64 y.qty, .int .i64 y.val, .int .i64 y.amt]) := Bl.new _ _ _
        clear ha hy hyo hb1
        go_upto_region 10 with (fail)
        clear a0 a1 a2 a3 a4 HT
        generalize wr.alloc (.cells #[.int .i64 y.kind, .int .i64 y.meas, .int .i64 y.qty, .int .i64 y.val, .int .i64 y.amt] 38) = W5 at *
        generalize wr.heap.size = gy at *
        have g0 : W5.cell? ⟨gy, 0, none⟩ = some (.int .i64 y.kind) := HBA.out.cell 0
        have g1 : W5.cell? ⟨gy, 1, none⟩ = some (.int .i64 y.meas) := HBA.out.cell 1
        have g4 : W5.cell? ⟨gy, 4, none⟩ = some (.int .i64 y.amt) := HBA.out.cell 4
        go_wp2_with fail
        refine (HADD.out _ HTA.out).mono ?_
        rintro e w6 ⟨rfl, hT6⟩
        have HT6 : Hid (TlW W0 gt gt (la.map negD ++ lb.take (j + 1)) w6) := by
          show TlW _ _ _ _ _
          rw [HTK.out]
          rw [← List.append_assoc]
          exact hT6
        clear hT6
        go_wp2_with fail
        go_roundw
        case rel => exact ⟨j + 1, by go_num, by omega, HT6.out⟩
        case measure => simp [intOf]; omega
      case neg =>
      obtain rfl : j = n2 := by omega
      have di : decide ((j : Int) < (j : Int)) = false := by simp
      have hT2 : TlW W0 gt gt (la.map negD ++ lb) wr := by have := HT.out; rw [List.take_of_length_le (by omega)] at this; exact this
      obtain ⟨es, hes⟩ : ∃ es, la.map negD ++ lb = es := ⟨_, rfl⟩
      rw [hes] at hT2
      have hel : es.length = i + j := by rw [← hes, List.length_append, List.length_map, hl1, hl2]
      have hea : ∀ e ∈ es, -1000000000000 ≤ e.amt ∧ e.amt ≤ 1000000000000 := fun e he => by
        rw [← hes] at he
        rcases List.mem_append.1 he with he | he
        · exact neg_ok HK1.out e he
        · have := (HK2.out e he).1; omega
      obtain ⟨ks, R, m, c, mv, D, hC, hOk, hm⟩ := hT2.read
      have HC := Lib.hid hC
      have HOK := Lib.hid hOk
      have HES := Lib.hid hes
      have HEA := Lib.hid hea
      clear hT2 HT hC hOk hes hea
      have y0 : wr.cell? ⟨gt, 0, none⟩ = some (.slice R m c) := HC.out.t.cell 0
      have HSO := Lib.hid (sortA_any R m c gt ks wr HC.out.o HC.out.len (by omega) HC.out.size)
      go_wp2_with fail
      refine HSO.out.mono ?_
      rintro e w3 ⟨rfl, ks', hpm, _, ho3, hb3, hg3⟩
      have hkl : ks'.length = m := by rw [hpm.length_eq]; exact HC.out.len
      have HC3 := Lib.hid (HC.out.sorted hg3 ho3 hb3 hkl)
      have HPM := Lib.hid hpm
      clear hpm ho3 hb3 hg3 HSO HC y0
      have y0 : w3.cell? ⟨gt, 0, none⟩ = some (.slice R m c) := HC3.out.t.cell 0
      go_wp2_with fail
      go_loopw [10, 53] (fun s v wx => ∃ (q : Nat) (R2 : Option Addr) (m2 cc : Nat) (ls : List Dl), v = .int .i64 (q : Int) ∧ s = .slice R2 m2 cc ∧ q ≤ m ∧ m2 ≤ q ∧ Hid (ls = diffOf es (ks'.take q)) ∧ Hid (DfB W0 gt gt ks' R m c mv D R2 m2 cc ls wx)) (fun _ v _ => m - (intOf v).toNat)
      case atStart => exact ⟨0, none, 0, 0, [], rfl, rfl, Nat.zero_le _, Nat.le_refl _, (by show _ = _; simp [diffOf]), ⟨HC3.out, ⟨by simp [flat], .inl ⟨rfl, rfl⟩⟩, rfl⟩⟩
      case round =>
        clear HC3 y0
        obtain ⟨q, R2, m2, cc, ls, rfl, rfl, hq, hmq, HLS, HF⟩ := hrel
        by_cases hlt : q < m
        case neg =>
          obtain rfl : q = m := by omega
          have di : decide ((q : Int) < (q : Int)) = false := by simp
          have HRES : Hid (DfRes w la lb (.returned (.slice R2 m2 cc)) wr) := by
            have hls : ls = diffOf es ks' := by have := HLS.out; rw [List.take_of_length_le (by omega)] at this; exact this
            have hlm := HF.out.len
            subst hlm
            have hww : w.heap.size ≤ gt := by omega
            refine ⟨R2, cc, ls, rfl, own_mono HF.out.r hww, fun k mm => ?_, fun d hd => ?_, ?_, HB0.out.trans (HF.out.c.below.mono hww)⟩
            · rw [hls, diff_tot HOK.out HPM.out, ← HES.out, totA_append, totA_neg]
              omega
            · rw [hls] at hd
              obtain ⟨p, hp, rfl⟩ := diffOf_mem hd
              have h3 := tot_bound (B := 1000000000000) (by decide) HEA.out p.1 p.2
              have h4 := HOK.out.small p (HPM.out.mem_iff.1 hp)
              exact ⟨by simp only []; omega, h4⟩
            · omega
          go_wp2
          go_ret
          exact HRES.out
        case pos =>
        have di : decide ((q : Int) < (m : Int)) = true := by simp; omega
        have hrk := Recs.of_own encA_len HF.out.c.o HF.out.c.len
        obtain ⟨b1, o1, hA, hb1, ha⟩ := hrk.at_ hlt
        subst hA
        obtain ⟨y, hy⟩ : ∃ y, ks'[q]! = y := ⟨_, rfl⟩
        rw [hy] at ha
        have a0 : wr.cell? ⟨b1, o1 + q * 2, none⟩ = some (.int .i64 y.1) := ha 0 (by omega)
        have a1 : wr.cell? ⟨b1, o1 + q * 2 + 1, none⟩ = some (.int .i64 y.2) := ha 1 (by omega)
        have hyk : y ∈ ks := HPM.out.mem_iff.1 (by rw [← hy, getElem!_pos ks' q (by omega)]; exact List.getElem_mem _)
        obtain ⟨i1, i2⟩ := HOK.out.small y hyk
        have HTK : Hid (ks'.take (q + 1) = ks'.take q ++ [y]) := by show _ = _; rw [take_snoc20 ks' (by omega), hy]
        obtain ⟨b, k, rfl, hbn, hmap⟩ : ∃ b k, mv = .map (some b) ∧ gt ≤ b ∧ TlMap wr b k D := by
          rcases HF.out.c.map with h3 | h3
          · omega
          · exact h3
        have hmapA : TlMap (wr.alloc (.cells #[.int .i64 y.1, .int .i64 y.2] 83)) b k D := World.ownsMap.alloc hmap _
        have hlk := look20 hmapA (accKey i1 i2) (HOK.out.at_ y.1 y.2 i1 i2)
        have hqq : (q : Int) < (m : Int) := by omega
        have hqz : (0 : Int) ≤ (q : Int) := by omega
        have uq : IntKind.i64.wrap ((q : Int) + 1) = ((q + 1 : Nat) : Int) := IntWalk.i64_in _ (by omega)
        have HFA := Lib.hid (HF.out.alloc (.cells #[.int .i64 y.1, .int .i64 y.2] 83))
        have HBA : Hid (Bl (wr.alloc (.cells #[.int .i64 y.1, .int .i64 y.2] 83)) wr.heap.size 83 #[.int .i64 y.1, .int .i64 y.2]) := Bl.new _ _ _
        have HROW : Hid (∀ g, (Value.slice R2 m2 cc).ownBlock = some g → g ≠ wr.heap.size) := fun g hg e => by have := own_lt HF.out.r g hg; omega
        clear ha hy hyk hrk hmap hmapA hbn i1 i2
        go_upto_region 17 with (fail)
        clear a0 a1 HF hb1
        generalize wr.alloc (.cells #[.int .i64 y.1, .int .i64 y.2] 83) = W5 at *
        generalize wr.heap.size = gy at *
        have t1' : W5.cell? ⟨gt, 1, none⟩ = some (.map (some b)) := HFA.out.c.t.cell 1
        have g0 : W5.cell? ⟨gy, 0, none⟩ = some (.int .i64 y.1) := HBA.out.cell 0
        have g1 : W5.cell? ⟨gy, 1, none⟩ = some (.int .i64 y.2) := HBA.out.cell 1
        have HLN : Hid (lineOf es y = if totA es y.1 y.2 = 0 then [] else [⟨y.1, y.2, 0, 0, totA es y.1 y.2⟩]) := rfl
        generalize totA es y.1 y.2 = tv at *
        by_cases hz : tv = 0
        case pos =>
          have dz : (tv == 0) = true := by simpa using hz
          have dzn : (tv != 0) = false := by simpa using hz
          have HLS2 : Hid (ls = diffOf es (ks'.take (q + 1))) := by show _ = _; rw [HTK.out, diffOf_snoc, HLN.out, if_pos hz, List.append_nil]; exact HLS.out
          clear hz
          go_wp2_with fail
          go_roundw
          case rel => exact ⟨q + 1, R2, m2, cc, ls, by go_num, rfl, by omega, by omega, HLS2.out, HFA.out⟩
          case measure => simp [intOf]; omega
        case neg =>
        have dz : (tv == 0) = false := by simpa using hz
        have dzn : (tv != 0) = true := by simpa using hz
        have HLS2 : Hid (ls ++ [⟨y.1, y.2, 0, 0, tv⟩] = diffOf es (ks'.take (q + 1))) := by show _ = _; rw [HTK.out, diffOf_snoc, HLN.out, if_neg hz, HLS.out]
        have HFB := Lib.hid (HFA.out.alloc (.cells #[.int .i64 y.1, .int .i64 y.2, .int .i64 0, .int .i64 0, .int .i64 tv] 38))
        have HRD : Hid (Rd (W5.alloc (.cells #[.int .i64 y.1, .int .i64 y.2, .int .i64 0, .int .i64 0, .int .i64 tv] 38)) 5 (some ⟨W5.heap.size, 0, none⟩) 1 (encDl ⟨y.1, y.2, 0, 0, tv⟩)) := rd_bl (xs := encDl ⟨y.1, y.2, 0, 0, tv⟩) (Bl.new _ _ _) rfl
        have HON := Lib.hid (encDl_one ⟨y.1, y.2, 0, 0, tv⟩)
        have HM1 : Hid (m2 + 1 ≤ maxLen ∧ (m2 + 1) * 40 ≤ 140737488355328) := ⟨by unfold maxLen; omega, by omega⟩
        clear hz
        go_wp2_with (at_builtin; refine wpList_append_rd _ rfl (.tmp 63) (.tmp 70) 26 rfl gt 38 _ 5 40 Tryz.underlying26 infoDl rfl (by decide) (.slice R2 m2 cc) m2 _ rfl HFB.out.r (some ⟨W5.heap.size, 0, none⟩) 1 _ (encDl ⟨y.1, y.2, 0, 0, tv⟩) rfl HRD.out HON.out HM1.out.1 HM1.out.2 HFB.out.c.size ?_; intro v6 w6 ho6 hg6 hv6; obtain ⟨R6, d6, rfl⟩ := own_slice ho6)
        have HF6 := Lib.hid (HFA.out.app hg6 ho6)
        go_roundw
        case rel => exact ⟨q + 1, R6, m2 + 1, d6, _, by go_num, rfl, by omega, by omega, HLS2.out, HF6.out⟩
        case measure => simp [intOf]; omega
end Go.Proofs.YtbokkeooahodaaaGreatDoor

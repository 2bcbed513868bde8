/-
  The contract of the reference's Grants at valid books: the walk. No statement of the seat is proved here. Conditions: as typed.
  The contract of the reference's Granted. No statement of the seat is proved here.
  What operations of a drawn region hold: books with rows of their own. Rd of facts. No statement of the seat is proved here.
-/
import Derived.Test.YtemhiifgplaldaaGreatMAT
import Derived.Test.YtemhiifgplaldaaGreatMAA
import Derived.Test.YtemhiifgplaldaaGreatMAE
namespace Go.Proofs.YtemhiifgplaldaaGreat
open Go.RowKit
set_option linter.unusedVariables false

set_option maxRecDepth 100000 in
set_option maxHeartbeats 8000000 in
theorem rgrants_any (q : Qt) (A : Option Addr) (n c : Nat) (fs : List Fct) (w : World) (h : Recs encF 5 w A n fs) (hok : BOk q fs) :
    Calls Tryz.prog 12 #[.agg #[.int .i64 q.id, .int .i64 q.vol, .int .i64 q.fr, .int .i64 q.tod, .slice A n c]] w (GrRes w q fs) := by
  have hn : n ≤ 200 := by have := hok.len; have := h.1; omega
  have HL := Lib.hid h.1
  have HV := Lib.hid (fun w' (hb : RowKit.Below w.heap.size w w') => rvalidBook_any q A n c fs w' (h.below hb) (by omega))
  rw [hok.err] at HV
  have HD := Lib.hid (fun w' (hb : RowKit.Below w.heap.size w w') => rdays_any q A n c fs w' (h.below hb) hok)
  clear h hok
  obtain ⟨W0, hW0⟩ : ∃ W, W = w.alloc (.cells #[.int .i64 q.id, .int .i64 q.vol, .int .i64 q.fr, .int .i64 q.tod, .slice A n c] 27) := ⟨_, rfl⟩
  have hb0 : RowKit.Below w.heap.size w W0 := by rw [hW0]; exact (Below.refl _ _).alloc (Nat.le_refl _) _
  have hx0 : Bl W0 w.heap.size 27 #[.int .i64 q.id, .int .i64 q.vol, .int .i64 q.fr, .int .i64 q.tod, .slice A n c] := by rw [hW0]; exact Bl.new w _ _
  go_enter Tryz.func12, Tryz.ntmps12
  go_upto_region 1 with (fail)
  rw [← hW0]
  clear hW0
  have p0 : W0.cell? ⟨w.heap.size, 0, none⟩ = some (.int .i64 q.id) := hx0.c0
  have p1 : W0.cell? ⟨w.heap.size, 1, none⟩ = some (.int .i64 q.vol) := hx0.c1
  have p2 : W0.cell? ⟨w.heap.size, 2, none⟩ = some (.int .i64 q.fr) := hx0.c2
  have p3 : W0.cell? ⟨w.heap.size, 3, none⟩ = some (.int .i64 q.tod) := hx0.c3
  have p4 : W0.cell? ⟨w.heap.size, 4, none⟩ = some (.slice A n c) := hx0.c4
  go_wp2_with fail
  refine (HV.out _ hb0).mono ?_
  rintro e w1 ⟨rfl, hb1⟩
  have hB1 := hb0.trans (hb1.mono hb0.size)
  have hx1 := hx0.keep hb1
  clear p0 p1 p2 p3 p4 hx0 hb0 hb1 HV
  have p0 : w1.cell? ⟨w.heap.size, 0, none⟩ = some (.int .i64 q.id) := hx1.c0
  have p1 : w1.cell? ⟨w.heap.size, 1, none⟩ = some (.int .i64 q.vol) := hx1.c1
  have p2 : w1.cell? ⟨w.heap.size, 2, none⟩ = some (.int .i64 q.fr) := hx1.c2
  have p3 : w1.cell? ⟨w.heap.size, 3, none⟩ = some (.int .i64 q.tod) := hx1.c3
  have p4 : w1.cell? ⟨w.heap.size, 4, none⟩ = some (.slice A n c) := hx1.c4
  go_wp2_with fail
  refine (HD.out _ hB1).mono ?_
  rintro e w3 ⟨B, m, d, ds, left, gs, bal, rfl, hst, hdf, hdl, hm5, ho, hmd, hb3⟩
  have HB3 := Lib.hid (hB1.trans (hb3.mono hB1.size))
  have HDL := Lib.hid hdl
  have hrds : Recs encD 4 w3 B m ds := Recs.of_own encD_len ho hdl
  have HMD := Lib.hid hmd
  have HPE := Lib.hid hdf.perm
  have HST := Lib.hid hst
  have HGN : Hid (gs.length ≤ 200) := by have := settled_len hst; have h2 := HL.out; show gs.length ≤ 200; omega
  have HSL : Hid (∀ i j, i < m → (gone ds i j).length ≤ 200) := fun i j hi => by
    have h1 := (gone_sub (ds := ds) (i := i) (by omega) j).length_le
    have h2 := HPE.out.length_eq
    rw [List.length_map] at h2
    have := HGN.out
    omega
  have HND : Hid (∀ i j, i < m → j < ds[i]!.grants.length → ∀ p ∈ gone ds i j, p.1 ≠ (ds[i]!.grants[j]!).1) := fun i j hi hj p hp => by
    have h1 := (gone_sub (ds := ds) (i := i) (by omega) (j + 1)).map (fun p : Int × Int => p.1)
    have h2 : ((ds.flatMap (·.grants)).map (fun p : Int × Int => p.1)).Nodup := by
      rw [(HPE.out.map _).nodup_iff, List.map_map, List.Nodup, List.pairwise_map, List.pairwise_iff_getElem]
      intro a b ha hb hab
      have := settled_asc HST.out a b hab hb
      rw [getElem!_pos gs a ha, getElem!_pos gs b hb] at this
      show gs[a].id ≠ gs[b].id
      omega
    have h3 := h1.nodup h2
    rw [gone_succ hj, List.map_append, List.nodup_append] at h3
    exact h3.2.2 p.1 (List.mem_map.2 ⟨p, hp, rfl⟩) _ (by simp)
  clear p0 p1 p2 p3 p4 hx1 hB1 hb3 hst hdf hdl ho hmd HD
  go_wp2_with fail
  go_loopw [5, 6] (fun v i wx => ∃ (k mo : Nat) (Bo : Option Addr) (do_ : Nat) (o : List (Int × Int)), v = .slice Bo mo do_ ∧ i = .int .i64 k ∧ k ≤ m ∧ mo ≤ 200 ∧ Hid (GatP ((ds.take k).flatMap (·.grants)) o) ∧ Hid (o.length = mo) ∧ wx.ownsRow w3.heap.size 75 2 (.slice Bo mo do_) mo (flat enc2 o) ∧ RowKit.Below w3.heap.size w3 wx) (fun _ i _ => m - (intOf i).toNat)
  case atStart => exact ⟨0, 0, none, 0, [], rfl, rfl, Nat.zero_le _, Nat.zero_le _, ⟨.refl _, List.Pairwise.nil⟩, rfl, ⟨rfl, .inl ⟨rfl, rfl⟩⟩, Below.refl _ _⟩
  case round =>
    obtain ⟨k0, mo, Bo, do_, o, rfl, rfl, hk, hmo, HGA, HOL, ho, hb⟩ := hrel
    by_cases hlt : k0 < m
    · have hki : (k0 : Int) < m := by omega
      obtain ⟨b3, off3, x, hB3, hbl3, _, _, _, e3, HX⟩ := hrds.getD' hlt
      subst hB3
      have HXM : Hid (x ∈ ds) := by have := HX.out; rw [getElem!_pos ds k0 (by have := HDL.out; omega)] at this; show x ∈ ds; rw [← this]; exact List.getElem_mem _
      have hog := HMD.out x HXM.out
      have HGL := Lib.hid hog.2
      have hrg : Recs enc2 2 w3 x.A x.n x.grants := Recs.of_own enc2_len hog.1 hog.2
      have hnx := own_n63 hog.1
      clear hog
      rw [← gone_zero] at HGA
      go_wp2_with fail
      go_loopw [5, 7] (fun v i wx => ∃ (j mo : Nat) (Bo : Option Addr) (do_ : Nat) (o : List (Int × Int)), v = .slice Bo mo do_ ∧ i = .int .i64 j ∧ j ≤ x.n ∧ mo ≤ 200 ∧ Hid (GatP (gone ds k0 j) o) ∧ Hid (o.length = mo) ∧ wx.ownsRow w3.heap.size 75 2 (.slice Bo mo do_) mo (flat enc2 o) ∧ RowKit.Below w3.heap.size w3 wx) (fun _ i _ => x.n - (intOf i).toNat)
      case atStart => exact ⟨0, mo, Bo, do_, o, rfl, rfl, Nat.zero_le _, hmo, HGA, HOL, ho, hb⟩
      case round =>
        clear HGA HOL ho hb hmo
        obtain ⟨j, mo, Bo, do_, o, rfl, rfl, hj, hmo, HGA, HOL, ho, hb⟩ := hrel
        have e3w : wr.cell? ⟨b3, off3 + k0 * 4 + 3, none⟩ = some (.slice x.A x.n x.c) := (hb.cell (p := ⟨b3, off3 + k0 * 4 + 3, none⟩) hbl3).trans e3
        by_cases hlj : j < x.n
        · have hji : (j : Int) < x.n := by omega
          obtain ⟨b4, off4, gi, gv, hA4, hbl4, c1, c2, HP⟩ := (hrg.below hb).get2 hlj
          rw [hA4] at e3w
          have HGL2 : Hid (ds[k0]!.grants.length = x.n) := by show _ = _; rw [HX.out]; exact HGL.out
          have HPG : Hid (ds[k0]!.grants[j]! = (gi, gv)) := by show _ = _; rw [HX.out]; exact HP.out
          have HW5 := Lib.hid (Bl.new wr 75 #[.int .i64 gi, .int .i64 gv])
          have HWB : Hid (RowKit.Below w3.heap.size w3 (wr.alloc (.cells #[.int .i64 gi, .int .i64 gv] 75))) := hb.alloc hb.size _
          have HWO := Lib.hid (own_alloc ho (.cells #[.int .i64 gi, .int .i64 gv] 75))
          clear ho hb
          go_upto_region 12 with (fail)
          clear e3w c1 c2
          generalize wr.alloc (.cells #[.int .i64 gi, .int .i64 gv] 75) = W5 at *
          generalize wr.heap.size = g8 at *
          have HRO := Lib.hid (Recs.of_own enc2_len HWO.out HOL.out)
          go_wp2_with fail
          go_loopw [9] (fun i wx => ∃ (k p : Nat), k ≤ mo ∧ i = .int .i64 k ∧ Hid (∀ l, l < k → o[l]!.1 < gi) ∧ Hid (wx = W5.drewN p)) (fun i _ => mo - (intOf i).toNat)
          case atStart => exact ⟨0, 0, Nat.zero_le _, rfl, fun l hl => by omega, rfl⟩
          case round =>
            obtain ⟨k, p, hk9, rfl, HLO, HWQ⟩ := hrel
            have f0w : wr.cell? ⟨g8, 0, none⟩ = some (.int .i64 gi) := by rw [HWQ.out]; exact HW5.out.cell 0
            by_cases hlk : k < mo
            · have hros : Recs enc2 2 wr Bo mo o := by rw [HWQ.out]; exact HRO.out.drewN p
              obtain ⟨b2, off2, oi, ov, hB2, hbl2, d1, d2, HY⟩ := hros.get2 hlk
              subst hB2
              have hki9 : (k : Int) < mo := by omega
              by_cases g2 : oi < gi
              · have b2' : decide (oi < gi) = true := by simpa using g2
                have HLO2 : Hid (∀ l, l < k + 1 → o[l]!.1 < gi) := fun l hl => by
                  by_cases e : l = k
                  · subst e; rw [HY.out]; exact g2
                  · exact HLO.out l (by omega)
                clear g2
                go_upto_region 13 with (fail)
                go_quiet (fail)
                go_wp2_with fail
                go_roundw
                case rel => exact ⟨k + 1, _, by omega, by go_num, HLO2, drewN_add HWQ.out nq⟩
                case measure => simp [intOf]; omega
              · have b2' : decide (oi < gi) = false := by simpa using g2
                have HHI : Hid (k < o.length → ¬ o[k]!.1 < gi) := fun _ => by rw [HY.out]; exact g2
                clear g2
                go_upto_region 13 with (fail)
                go_quiet (fail)
                go_upto_region 15 with (fail)
                have HWQ3 := Lib.hid (drewN_add HWQ.out nq)
                clear d1 d2 hbl2 f0w b2'
                obtain ⟨W7, hW7⟩ : ∃ W, W = wr.drewN nq := ⟨_, rfl⟩
                rw [← hW7]
                have HB7 : Hid (RowKit.Below w3.heap.size w3 W7) := by show RowKit.Below _ _ _; rw [hW7, HWQ3.out]; exact below_drewN HWB.out _
                have ho7 : W7.ownsRow w3.heap.size 75 2 (.slice (some ⟨b2, off2, none⟩ : Option Addr) mo do_) mo (flat enc2 o) := by rw [hW7, HWQ3.out]; exact own_drewN HWO.out _
                have f0 : W7.cell? ⟨g8, 0, none⟩ = some (.int .i64 gi) := by rw [hW7, HWQ3.out]; exact HW5.out.cell 0
                have f1 : W7.cell? ⟨g8, 1, none⟩ = some (.int .i64 gv) := by rw [hW7, HWQ3.out]; exact HW5.out.cell 1
                have l8 : g8 < W7.heap.size := by rw [hW7, HWQ3.out]; exact HW5.out.lt
                have hdm := own_cap ho7
                have l0 : w3.heap.size ≤ W7.heap.size := HB7.out.size
                have HRDH : Hid (Rd W7 2 (some ⟨b2, off2, none⟩ : Option Addr) k (flat enc2 (o.take k))) := by have := (Rd.of_own ho7).take (k := k) (by omega); rwa [← flatG_take] at this
                have HRDL : Hid (Rd W7 2 (if do_ = k then (some ⟨b2, off2, none⟩ : Option Addr) else (some ⟨b2, off2, none⟩ : Option Addr).map (·.add (k * 2))) (mo - k) (flat enc2 (o.drop k))) := by have := (Rd.of_own ho7).drop (k := k) (c := do_) (by omega) hdm; rwa [← flatG_drop] at this
                have HONE : Hid ((∀ u ∈ flat enc2 (o.take k), u.oneCell' = true) ∧ (∀ u ∈ flat enc2 (o.drop k), u.oneCell' = true)) := ⟨flatG_one _, flatG_one _⟩
                have HINS : Hid (GatP (gone ds k0 (j + 1)) (o.take k ++ [(gi, gv)] ++ o.drop k)) := by
                  show GatP _ _
                  rw [gone_succ (by rw [HGL2.out]; exact hlj), HPG.out]
                  exact HGA.out.ins (fun p hp => by have := HND.out k0 j hlt (by rw [HGL2.out]; exact hlj) p hp; rw [HPG.out] at this; exact this) (by have := HOL.out; omega) HLO.out HHI.out
                have HLN : Hid ((o.take k ++ [(gi, gv)] ++ o.drop k).length = mo + 1) := by show _ = _; simp; have := HOL.out; omega
                have HMN : Hid (mo + 1 ≤ 200) := by have h1 := HINS.out.perm.length_eq; have h2 := HSL.out k0 (j + 1) hlt; have h3 := HLN.out; show mo + 1 ≤ 200; omega
                clear ho7 hW7
                refine wp_region_rows [
                    ⟨⟨some 58, [], []⟩, NoF, OwnR W7.heap.size 75 2 0 ([])⟩,
                    ⟨⟨some 59, [], []⟩, fun _ v => v = .slice (some ⟨b2, off2, none⟩ : Option Addr) mo do_, NoR⟩,
                    ⟨⟨some 60, [], []⟩, fun _ v => v = .int .i64 (k : Int), NoR⟩,
                    ⟨⟨some 61, [1, 2], []⟩, fun _ v => v = .slice (some ⟨b2, off2, none⟩ : Option Addr) k do_, NoR⟩,
                    ⟨⟨some 62, [0, 3], [0]⟩, NoF, OwnR W7.heap.size 75 2 (k) (flat enc2 (o.take k))⟩,
                    ⟨⟨some 63, [], []⟩, fun _ v => v = .agg #[.int .i64 gi, .int .i64 gv], NoR⟩,
                    ⟨⟨some 64, [5], []⟩, NoF, LitR 75 (enc2 (gi, gv)).toArray 1⟩,
                    ⟨⟨some 65, [4, 6], [4, 6]⟩, NoF, OwnR W7.heap.size 75 2 (k + 1) (flat enc2 (o.take k ++ [(gi, gv)]))⟩,
                    ⟨⟨some 66, [], []⟩, fun _ v => v = .slice (some ⟨b2, off2, none⟩ : Option Addr) mo do_, NoR⟩,
                    ⟨⟨some 67, [], []⟩, fun _ v => v = .int .i64 (k : Int), NoR⟩,
                    ⟨⟨some 68, [8, 9], []⟩, fun _ v => v = .slice (if do_ = k then (some ⟨b2, off2, none⟩ : Option Addr) else (some ⟨b2, off2, none⟩ : Option Addr).map (·.add (k * 2))) (mo - k) (do_ - k), NoR⟩,
                    ⟨⟨some 69, [7, 10], [7]⟩, NoF, OwnR W7.heap.size 75 2 (k + 1 + (mo - k)) (flat enc2 (o.take k ++ [(gi, gv)] ++ o.drop k))⟩,
                    ⟨⟨some 5, [11], [11]⟩, NoF, OwnR W7.heap.size 75 2 (k + 1 + (mo - k)) (flat enc2 (o.take k ++ [(gi, gv)] ++ o.drop k))⟩] (by kernel_rfl) (by kernel_rfl) (by kernel_rfl) ⟨OwnR.loc, NoR.loc, NoR.loc, NoR.loc, OwnR.loc, NoR.loc, LitR.loc, OwnR.loc, NoR.loc, NoR.loc, NoR.loc, OwnR.loc, OwnR.loc, trivial⟩ ⟨?r0, ?r1, ?r2, ?r3, ?r4, ?r5, ?r6, ?r7, ?r8, ?r9, ?r10, ?r11, ?r12, trivial⟩ ?fin
                case r0 =>
                  refine step_of rfl rfl ?_
                  intro a wx vs fp K hF hK
                  refine op_value (v := .slice (some ⟨wx.heap.size, 0, none⟩) 0 0) (w' := wx.alloc (.cells #[] 75)) ?_ (hK _ _ _ (hF.made _ trivial ⟨own_lit (Bl.new _ _ _) hF.below.size rfl (by decide), rfl⟩))
                  have ec : ∀ v, a.eval (.const v) = v := fun _ => rfl
                  clear hF hK
                  generalize a.eval = ρ at *
                  go_simp
                case r1 =>
                  refine step_of rfl rfl ?_
                  intro a wx vs fp K hF hK
                  exact op_move rfl (hF.at_ 5 rfl) (hK _ _ _ (hF.only rfl trivial))
                case r2 =>
                  refine step_of rfl rfl ?_
                  intro a wx vs fp K hF hK
                  exact op_move rfl (hF.at_ 9 rfl) (hK _ _ _ (hF.only rfl trivial))
                case r3 =>
                  refine step_of rfl rfl ?_
                  intro a wx vs fp K hF hK
                  exact op_hi (size := 2) rfl Tryz.underlying38 (by kernel_rfl) ((hF.ev 1 59 rfl rfl).trans (hF.va 1 rfl)) ((hF.ev 2 60 rfl rfl).trans (hF.va 2 rfl)) (by omega) (hK _ _ _ (hF.only rfl trivial))
                case r4 =>
                  refine step_of rfl rfl ?_
                  intro a wx vs fp K hF hK
                  have hm : OwnR W7.heap.size 75 2 (0) ([]) [] (vs 0) (fp 0) wx := hF.me 0 rfl
                  have hv : vs 3 = .slice (some ⟨b2, off2, none⟩ : Option Addr) k do_ := hF.va 3 rfl
                  have hrd := HRDH.out.keep hF.below
                  refine op_append (.tmp 58) (.tmp 61) 38 rfl W7.heap.size 75 _ 2 16 Tryz.underlying38 infoG rfl (by decide) (vs 0) (0) ([]) (hF.ev 0 58 rfl rfl) hm.1 (some ⟨b2, off2, none⟩ : Option Addr) k do_ (flat enc2 (o.take k)) ((hF.ev 3 61 rfl rfl).trans hv) hrd (HONE.out.1) (by unfold maxLen; omega) (by omega) hF.below.size ?_
                  intro v w' h1 h2 h3
                  exact hK _ _ _ (hF.grown 0 rfl hm.2 h2 h3 (fun g hg => own_lt h1 g hg) trivial ⟨by simpa using h1, rfl⟩)
                case r5 =>
                  refine step_of rfl rfl ?_
                  intro a wx vs fp K hF hK
                  have ea : a.eval (.tmp 8) = .pointer (some ⟨g8, 0, none⟩) := hF.at_ 8 rfl
                  have m0 := (hF.below.cell (p := ⟨g8, 0, none⟩) l8).trans f0
                  have m1 := (hF.below.cell (p := ⟨g8, 1, none⟩) l8).trans f1
                  refine op_value (v := .agg #[.int .i64 gi, .int .i64 gv]) ?_ (hK _ _ _ (hF.only rfl trivial))
                  have ec : ∀ v, a.eval (.const v) = v := fun _ => rfl
                  clear hF hK
                  generalize a.eval = ρ at *
                  go_simp
                case r6 =>
                  refine step_of rfl rfl ?_
                  intro a wx vs fp K hF hK
                  have e5 : a.eval (.tmp 63) = .agg #[.int .i64 gi, .int .i64 gv] := (hF.ev 5 63 rfl rfl).trans (hF.va 5 rfl)
                  refine op_value (v := .slice (some ⟨wx.heap.size, 0, none⟩) 1 1) (w' := wx.alloc (.cells #[.int .i64 gi, .int .i64 gv] 75)) ?_ (hK _ _ _ (hF.made _ trivial ⟨_, rfl, rfl, Bl.new _ _ _⟩))
                  have ec : ∀ v, a.eval (.const v) = v := fun _ => rfl
                  clear hF hK
                  generalize a.eval = ρ at *
                  go_simp
                case r7 =>
                  refine step_of rfl rfl ?_
                  intro a wx vs fp K hF hK
                  have hm : OwnR W7.heap.size 75 2 (k) (flat enc2 (o.take k)) [] (vs 4) (fp 4) wx := hF.me 4 rfl
                  have hv : LitR 75 (enc2 (gi, gv)).toArray (1) [] (vs 6) (fp 6) wx := hF.me 6 rfl
                  obtain ⟨gy, hv, hfy, hbl⟩ := hv
                  have hrd : Rd wx 2 (some ⟨gy, 0, none⟩) (1) (enc2 (gi, gv)) := rd_bl hbl rfl
                  refine op_append (.tmp 62) (.tmp 64) 38 rfl W7.heap.size 75 _ 2 16 Tryz.underlying38 infoG rfl (by decide) (vs 4) (k) (flat enc2 (o.take k)) (hF.ev 4 62 rfl rfl) hm.1 (some ⟨gy, 0, none⟩) (1) (1) (enc2 (gi, gv)) ((hF.ev 6 64 rfl rfl).trans hv) hrd (enc2_one _) (by unfold maxLen; omega) (by omega) hF.below.size ?_
                  intro v w' h1 h2 h3
                  exact hK _ _ _ (hF.grown 4 rfl hm.2 h2 h3 (fun g hg => own_lt h1 g hg) trivial ⟨by (rw [flat_append, flat_one]; exact h1), rfl⟩)
                case r8 =>
                  refine step_of rfl rfl ?_
                  intro a wx vs fp K hF hK
                  exact op_move rfl (hF.at_ 5 rfl) (hK _ _ _ (hF.only rfl trivial))
                case r9 =>
                  refine step_of rfl rfl ?_
                  intro a wx vs fp K hF hK
                  exact op_move rfl (hF.at_ 9 rfl) (hK _ _ _ (hF.only rfl trivial))
                case r10 =>
                  refine step_of rfl rfl ?_
                  intro a wx vs fp K hF hK
                  exact op_lo (size := 2) rfl Tryz.underlying38 (by kernel_rfl) ((hF.ev 8 66 rfl rfl).trans (hF.va 8 rfl)) ((hF.ev 9 67 rfl rfl).trans (hF.va 9 rfl)) (by omega) (hK _ _ _ (hF.only rfl trivial))
                case r11 =>
                  refine step_of rfl rfl ?_
                  intro a wx vs fp K hF hK
                  have hm : OwnR W7.heap.size 75 2 (k + 1) (flat enc2 (o.take k ++ [(gi, gv)])) [] (vs 7) (fp 7) wx := hF.me 7 rfl
                  have hv : vs 10 = .slice (if do_ = k then (some ⟨b2, off2, none⟩ : Option Addr) else (some ⟨b2, off2, none⟩ : Option Addr).map (·.add (k * 2))) (mo - k) (do_ - k) := hF.va 10 rfl
                  have hrd := HRDL.out.keep hF.below
                  refine op_append (.tmp 65) (.tmp 68) 38 rfl W7.heap.size 75 _ 2 16 Tryz.underlying38 infoG rfl (by decide) (vs 7) (k + 1) (flat enc2 (o.take k ++ [(gi, gv)])) (hF.ev 7 65 rfl rfl) hm.1 (if do_ = k then (some ⟨b2, off2, none⟩ : Option Addr) else (some ⟨b2, off2, none⟩ : Option Addr).map (·.add (k * 2))) (mo - k) (do_ - k) (flat enc2 (o.drop k)) ((hF.ev 10 68 rfl rfl).trans hv) hrd (HONE.out.2) (by unfold maxLen; omega) (by omega) hF.below.size ?_
                  intro v w' h1 h2 h3
                  exact hK _ _ _ (hF.grown 7 rfl hm.2 h2 h3 (fun g hg => own_lt h1 g hg) trivial ⟨by (rw [flat_append]; exact h1), rfl⟩)
                case r12 =>
                  refine step_of rfl rfl ?_
                  intro a wx vs fp K hF hK
                  have hm : OwnR W7.heap.size 75 2 (k + 1 + (mo - k)) (flat enc2 (o.take k ++ [(gi, gv)] ++ o.drop k)) [] (vs 11) (fp 11) wx := hF.me 11 rfl
                  exact op_assign rfl (hF.ev 11 69 rfl rfl) (hK _ _ _ (hF.hand 11 rfl trivial hm))
                case fin =>
                  intro wz vs fp hI
                  have hM : OwnR W7.heap.size 75 2 (k + 1 + (mo - k)) (flat enc2 (o.take k ++ [(gi, gv)] ++ o.drop k)) [vs 11] (vs 12) (fp 12) wz := (hI.finM 12 (by decide) rfl).1
                  have hbz := hI.below
                  have ho9 := own_mono hM.1 l0
                  obtain ⟨B9, d9, hv9⟩ := own_slice hM.1
                  rw [hv9] at ho9
                  clear hI hM
                  simp only [rj, number, putJ, List.map_cons, List.map_nil, if_true, Act.put, List.setIfInBounds_toArray, List.set_cons_zero, List.set_cons_succ, hv9]
                  rw [show k + 1 + (mo - k) = mo + 1 by omega] at ho9 ⊢
                  generalize vs 0 = zv0
                  generalize vs 1 = zv1
                  generalize vs 2 = zv2
                  generalize vs 3 = zv3
                  generalize vs 4 = zv4
                  generalize vs 5 = zv5
                  generalize vs 6 = zv6
                  generalize vs 7 = zv7
                  generalize vs 8 = zv8
                  generalize vs 9 = zv9
                  generalize vs 10 = zv10
                  generalize vs 11 = zv11
                  have hB9 := HB7.out.trans (hbz.mono HB7.out.size)
                  clear hv9 hbz HRDH HRDL HONE f0 f1 l8
                  go_wp2_with fail
                  go_roundw
                  case rel => exact ⟨j + 1, mo + 1, B9, d9, _, rfl, by go_num, by omega, HMN.out, HINS, HLN, ho9, hB9⟩
                  case measure => simp [intOf]; omega
            · have hmk : mo ≤ k := by omega
              have hd0 : decide ((k : Int) < (mo : Int)) = false := by simp; omega
              have hd1 : decide (k < mo) = false := by simp; omega
              have HHI : Hid (k < o.length → ¬ o[k]!.1 < gi) := fun h0 => by have := HOL.out; omega
              clear hlk
              go_upto_region 13 with (fail)
              go_quiet (fail)
              go_upto_region 15 with (fail)
              have HWQ3 := Lib.hid (drewN_add HWQ.out nq)
              clear f0w
              obtain ⟨W7, hW7⟩ : ∃ W, W = wr.drewN nq := ⟨_, rfl⟩
              rw [← hW7]
              have HB7 : Hid (RowKit.Below w3.heap.size w3 W7) := by show RowKit.Below _ _ _; rw [hW7, HWQ3.out]; exact below_drewN HWB.out _
              have ho7 : W7.ownsRow w3.heap.size 75 2 (.slice Bo mo do_) mo (flat enc2 o) := by rw [hW7, HWQ3.out]; exact own_drewN HWO.out _
              have f0 : W7.cell? ⟨g8, 0, none⟩ = some (.int .i64 gi) := by rw [hW7, HWQ3.out]; exact HW5.out.cell 0
              have f1 : W7.cell? ⟨g8, 1, none⟩ = some (.int .i64 gv) := by rw [hW7, HWQ3.out]; exact HW5.out.cell 1
              have l8 : g8 < W7.heap.size := by rw [hW7, HWQ3.out]; exact HW5.out.lt
              have hdm := own_cap ho7
              have l0 : w3.heap.size ≤ W7.heap.size := HB7.out.size
              have HRDH : Hid (Rd W7 2 Bo k (flat enc2 (o.take k))) := by have := (Rd.of_own ho7).take (k := k) (by omega); rwa [← flatG_take] at this
              have HRDL : Hid (Rd W7 2 (if do_ = k then Bo else Bo.map (·.add (k * 2))) (mo - k) (flat enc2 (o.drop k))) := by have := (Rd.of_own ho7).drop (k := k) (c := do_) (by omega) hdm; rwa [← flatG_drop] at this
              have HONE : Hid ((∀ u ∈ flat enc2 (o.take k), u.oneCell' = true) ∧ (∀ u ∈ flat enc2 (o.drop k), u.oneCell' = true)) := ⟨flatG_one _, flatG_one _⟩
              have HINS : Hid (GatP (gone ds k0 (j + 1)) (o.take k ++ [(gi, gv)] ++ o.drop k)) := by
                show GatP _ _
                rw [gone_succ (by rw [HGL2.out]; exact hlj), HPG.out]
                exact HGA.out.ins (fun p hp => by have := HND.out k0 j hlt (by rw [HGL2.out]; exact hlj) p hp; rw [HPG.out] at this; exact this) (by have := HOL.out; omega) HLO.out HHI.out
              have HLN : Hid ((o.take k ++ [(gi, gv)] ++ o.drop k).length = mo + 1) := by show _ = _; simp; have := HOL.out; omega
              have HMN : Hid (mo + 1 ≤ 200) := by have h1 := HINS.out.perm.length_eq; have h2 := HSL.out k0 (j + 1) hlt; have h3 := HLN.out; show mo + 1 ≤ 200; omega
              clear ho7 hW7
              refine wp_region_rows [
                  ⟨⟨some 58, [], []⟩, NoF, OwnR W7.heap.size 75 2 0 ([])⟩,
                  ⟨⟨some 59, [], []⟩, fun _ v => v = .slice Bo mo do_, NoR⟩,
                  ⟨⟨some 60, [], []⟩, fun _ v => v = .int .i64 (k : Int), NoR⟩,
                  ⟨⟨some 61, [1, 2], []⟩, fun _ v => v = .slice Bo k do_, NoR⟩,
                  ⟨⟨some 62, [0, 3], [0]⟩, NoF, OwnR W7.heap.size 75 2 (k) (flat enc2 (o.take k))⟩,
                  ⟨⟨some 63, [], []⟩, fun _ v => v = .agg #[.int .i64 gi, .int .i64 gv], NoR⟩,
                  ⟨⟨some 64, [5], []⟩, NoF, LitR 75 (enc2 (gi, gv)).toArray 1⟩,
                  ⟨⟨some 65, [4, 6], [4, 6]⟩, NoF, OwnR W7.heap.size 75 2 (k + 1) (flat enc2 (o.take k ++ [(gi, gv)]))⟩,
                  ⟨⟨some 66, [], []⟩, fun _ v => v = .slice Bo mo do_, NoR⟩,
                  ⟨⟨some 67, [], []⟩, fun _ v => v = .int .i64 (k : Int), NoR⟩,
                  ⟨⟨some 68, [8, 9], []⟩, fun _ v => v = .slice (if do_ = k then Bo else Bo.map (·.add (k * 2))) (mo - k) (do_ - k), NoR⟩,
                  ⟨⟨some 69, [7, 10], [7]⟩, NoF, OwnR W7.heap.size 75 2 (k + 1 + (mo - k)) (flat enc2 (o.take k ++ [(gi, gv)] ++ o.drop k))⟩,
                  ⟨⟨some 5, [11], [11]⟩, NoF, OwnR W7.heap.size 75 2 (k + 1 + (mo - k)) (flat enc2 (o.take k ++ [(gi, gv)] ++ o.drop k))⟩] (by kernel_rfl) (by kernel_rfl) (by kernel_rfl) ⟨OwnR.loc, NoR.loc, NoR.loc, NoR.loc, OwnR.loc, NoR.loc, LitR.loc, OwnR.loc, NoR.loc, NoR.loc, NoR.loc, OwnR.loc, OwnR.loc, trivial⟩ ⟨?r0, ?r1, ?r2, ?r3, ?r4, ?r5, ?r6, ?r7, ?r8, ?r9, ?r10, ?r11, ?r12, trivial⟩ ?fin
              case r0 =>
                refine step_of rfl rfl ?_
                intro a wx vs fp K hF hK
                refine op_value (v := .slice (some ⟨wx.heap.size, 0, none⟩) 0 0) (w' := wx.alloc (.cells #[] 75)) ?_ (hK _ _ _ (hF.made _ trivial ⟨own_lit (Bl.new _ _ _) hF.below.size rfl (by decide), rfl⟩))
                have ec : ∀ v, a.eval (.const v) = v := fun _ => rfl
                clear hF hK
                generalize a.eval = ρ at *
                go_simp
              case r1 =>
                refine step_of rfl rfl ?_
                intro a wx vs fp K hF hK
                exact op_move rfl (hF.at_ 5 rfl) (hK _ _ _ (hF.only rfl trivial))
              case r2 =>
                refine step_of rfl rfl ?_
                intro a wx vs fp K hF hK
                exact op_move rfl (hF.at_ 9 rfl) (hK _ _ _ (hF.only rfl trivial))
              case r3 =>
                refine step_of rfl rfl ?_
                intro a wx vs fp K hF hK
                exact op_hi (size := 2) rfl Tryz.underlying38 (by kernel_rfl) ((hF.ev 1 59 rfl rfl).trans (hF.va 1 rfl)) ((hF.ev 2 60 rfl rfl).trans (hF.va 2 rfl)) (by omega) (hK _ _ _ (hF.only rfl trivial))
              case r4 =>
                refine step_of rfl rfl ?_
                intro a wx vs fp K hF hK
                have hm : OwnR W7.heap.size 75 2 (0) ([]) [] (vs 0) (fp 0) wx := hF.me 0 rfl
                have hv : vs 3 = .slice Bo k do_ := hF.va 3 rfl
                have hrd := HRDH.out.keep hF.below
                refine op_append (.tmp 58) (.tmp 61) 38 rfl W7.heap.size 75 _ 2 16 Tryz.underlying38 infoG rfl (by decide) (vs 0) (0) ([]) (hF.ev 0 58 rfl rfl) hm.1 Bo k do_ (flat enc2 (o.take k)) ((hF.ev 3 61 rfl rfl).trans hv) hrd (HONE.out.1) (by unfold maxLen; omega) (by omega) hF.below.size ?_
                intro v w' h1 h2 h3
                exact hK _ _ _ (hF.grown 0 rfl hm.2 h2 h3 (fun g hg => own_lt h1 g hg) trivial ⟨by simpa using h1, rfl⟩)
              case r5 =>
                refine step_of rfl rfl ?_
                intro a wx vs fp K hF hK
                have ea : a.eval (.tmp 8) = .pointer (some ⟨g8, 0, none⟩) := hF.at_ 8 rfl
                have m0 := (hF.below.cell (p := ⟨g8, 0, none⟩) l8).trans f0
                have m1 := (hF.below.cell (p := ⟨g8, 1, none⟩) l8).trans f1
                refine op_value (v := .agg #[.int .i64 gi, .int .i64 gv]) ?_ (hK _ _ _ (hF.only rfl trivial))
                have ec : ∀ v, a.eval (.const v) = v := fun _ => rfl
                clear hF hK
                generalize a.eval = ρ at *
                go_simp
              case r6 =>
                refine step_of rfl rfl ?_
                intro a wx vs fp K hF hK
                have e5 : a.eval (.tmp 63) = .agg #[.int .i64 gi, .int .i64 gv] := (hF.ev 5 63 rfl rfl).trans (hF.va 5 rfl)
                refine op_value (v := .slice (some ⟨wx.heap.size, 0, none⟩) 1 1) (w' := wx.alloc (.cells #[.int .i64 gi, .int .i64 gv] 75)) ?_ (hK _ _ _ (hF.made _ trivial ⟨_, rfl, rfl, Bl.new _ _ _⟩))
                have ec : ∀ v, a.eval (.const v) = v := fun _ => rfl
                clear hF hK
                generalize a.eval = ρ at *
                go_simp
              case r7 =>
                refine step_of rfl rfl ?_
                intro a wx vs fp K hF hK
                have hm : OwnR W7.heap.size 75 2 (k) (flat enc2 (o.take k)) [] (vs 4) (fp 4) wx := hF.me 4 rfl
                have hv : LitR 75 (enc2 (gi, gv)).toArray (1) [] (vs 6) (fp 6) wx := hF.me 6 rfl
                obtain ⟨gy, hv, hfy, hbl⟩ := hv
                have hrd : Rd wx 2 (some ⟨gy, 0, none⟩) (1) (enc2 (gi, gv)) := rd_bl hbl rfl
                refine op_append (.tmp 62) (.tmp 64) 38 rfl W7.heap.size 75 _ 2 16 Tryz.underlying38 infoG rfl (by decide) (vs 4) (k) (flat enc2 (o.take k)) (hF.ev 4 62 rfl rfl) hm.1 (some ⟨gy, 0, none⟩) (1) (1) (enc2 (gi, gv)) ((hF.ev 6 64 rfl rfl).trans hv) hrd (enc2_one _) (by unfold maxLen; omega) (by omega) hF.below.size ?_
                intro v w' h1 h2 h3
                exact hK _ _ _ (hF.grown 4 rfl hm.2 h2 h3 (fun g hg => own_lt h1 g hg) trivial ⟨by (rw [flat_append, flat_one]; exact h1), rfl⟩)
              case r8 =>
                refine step_of rfl rfl ?_
                intro a wx vs fp K hF hK
                exact op_move rfl (hF.at_ 5 rfl) (hK _ _ _ (hF.only rfl trivial))
              case r9 =>
                refine step_of rfl rfl ?_
                intro a wx vs fp K hF hK
                exact op_move rfl (hF.at_ 9 rfl) (hK _ _ _ (hF.only rfl trivial))
              case r10 =>
                refine step_of rfl rfl ?_
                intro a wx vs fp K hF hK
                exact op_lo (size := 2) rfl Tryz.underlying38 (by kernel_rfl) ((hF.ev 8 66 rfl rfl).trans (hF.va 8 rfl)) ((hF.ev 9 67 rfl rfl).trans (hF.va 9 rfl)) (by omega) (hK _ _ _ (hF.only rfl trivial))
              case r11 =>
                refine step_of rfl rfl ?_
                intro a wx vs fp K hF hK
                have hm : OwnR W7.heap.size 75 2 (k + 1) (flat enc2 (o.take k ++ [(gi, gv)])) [] (vs 7) (fp 7) wx := hF.me 7 rfl
                have hv : vs 10 = .slice (if do_ = k then Bo else Bo.map (·.add (k * 2))) (mo - k) (do_ - k) := hF.va 10 rfl
                have hrd := HRDL.out.keep hF.below
                refine op_append (.tmp 65) (.tmp 68) 38 rfl W7.heap.size 75 _ 2 16 Tryz.underlying38 infoG rfl (by decide) (vs 7) (k + 1) (flat enc2 (o.take k ++ [(gi, gv)])) (hF.ev 7 65 rfl rfl) hm.1 (if do_ = k then Bo else Bo.map (·.add (k * 2))) (mo - k) (do_ - k) (flat enc2 (o.drop k)) ((hF.ev 10 68 rfl rfl).trans hv) hrd (HONE.out.2) (by unfold maxLen; omega) (by omega) hF.below.size ?_
                intro v w' h1 h2 h3
                exact hK _ _ _ (hF.grown 7 rfl hm.2 h2 h3 (fun g hg => own_lt h1 g hg) trivial ⟨by (rw [flat_append]; exact h1), rfl⟩)
              case r12 =>
                refine step_of rfl rfl ?_
                intro a wx vs fp K hF hK
                have hm : OwnR W7.heap.size 75 2 (k + 1 + (mo - k)) (flat enc2 (o.take k ++ [(gi, gv)] ++ o.drop k)) [] (vs 11) (fp 11) wx := hF.me 11 rfl
                exact op_assign rfl (hF.ev 11 69 rfl rfl) (hK _ _ _ (hF.hand 11 rfl trivial hm))
              case fin =>
                intro wz vs fp hI
                have hM : OwnR W7.heap.size 75 2 (k + 1 + (mo - k)) (flat enc2 (o.take k ++ [(gi, gv)] ++ o.drop k)) [vs 11] (vs 12) (fp 12) wz := (hI.finM 12 (by decide) rfl).1
                have hbz := hI.below
                have ho9 := own_mono hM.1 l0
                obtain ⟨B9, d9, hv9⟩ := own_slice hM.1
                rw [hv9] at ho9
                clear hI hM
                simp only [rj, number, putJ, List.map_cons, List.map_nil, if_true, Act.put, List.setIfInBounds_toArray, List.set_cons_zero, List.set_cons_succ, hv9]
                rw [show k + 1 + (mo - k) = mo + 1 by omega] at ho9 ⊢
                generalize vs 0 = zv0
                generalize vs 1 = zv1
                generalize vs 2 = zv2
                generalize vs 3 = zv3
                generalize vs 4 = zv4
                generalize vs 5 = zv5
                generalize vs 6 = zv6
                generalize vs 7 = zv7
                generalize vs 8 = zv8
                generalize vs 9 = zv9
                generalize vs 10 = zv10
                generalize vs 11 = zv11
                have hB9 := HB7.out.trans (hbz.mono HB7.out.size)
                clear hv9 hbz HRDH HRDL HONE f0 f1 l8
                go_wp2_with fail
                go_roundw
                case rel => exact ⟨j + 1, mo + 1, B9, d9, _, rfl, by go_num, by omega, HMN.out, HINS, HLN, ho9, hB9⟩
                case measure => simp [intOf]; omega
        · obtain rfl : x.n = j := by omega
          have hd0 : decide ((x.n : Int) < (x.n : Int)) = false := by simp
          have HG2 : Hid (GatP ((ds.take (k0 + 1)).flatMap (·.grants)) o) := by
            have h1 := gone_all (ds := ds) (i := k0) (by have := HDL.out; omega)
            rw [HX.out, HGL.out] at h1
            show GatP _ _
            rw [← h1]
            exact HGA.out
          clear hlj
          go_wp2_with fail
          go_roundw
          case rel => exact ⟨k0 + 1, mo, Bo, do_, o, rfl, by go_num, by omega, hmo, HG2, HOL, ho, hb⟩
          case measure => simp [intOf]; omega
    · obtain rfl : m = k0 := by omega
      rw [List.take_of_length_le (by have := HDL.out; omega)] at HGA
      have hd0 : decide ((m : Int) < m) = false := by simp
      have HOE : Hid (o = grs gs) := HGA.out.fin HPE.out (settled_asc HST.out)
      have HMO : Hid (gs.length = mo) := by have h1 := HOL.out; rw [HOE.out, grs_len] at h1; exact h1
      clear hlt
      go_wp2
      go_ret
      exact ⟨Bo, mo, do_, gs, bal, rfl, HST.out, HMO.out, hmo, by rw [← HOE.out]; exact own_mono ho HB3.out.size, HB3.out.trans (hb.mono HB3.out.size)⟩
end Go.Proofs.YtemhiifgplaldaaGreat

namespace Go.Proofs.YtemhiifgplaldaaGreat
open Go.RowKit
set_option linter.unusedVariables false

/-- The grant of an ID, or 0. -/
def grG (gs : List (Int × Int)) (id : Int) : Int := match gs.find? (fun g => g.1 == id) with | some x => x.2 | none => 0
theorem grG_first {gs : List (Int × Int)} {id : Int} {k : Nat} (hk : k < gs.length) (h : ∀ i, i < k → gs[i]!.1 ≠ id) (he : gs[k]!.1 = id) : grG gs id = gs[k]!.2 := by
  have : gs.find? (fun g => g.1 == id) = some gs[k]! := by
    rw [List.find?_eq_some_iff_getElem]
    refine ⟨by simpa using he, k, hk, (getElem!_pos gs k hk).symm, fun j hj => ?_⟩
    have := h j hj
    rw [getElem!_pos gs j (by omega)] at this
    simpa using this
  unfold grG
  rw [this]
theorem grG_none {gs : List (Int × Int)} {id : Int} (h : ∀ i, i < gs.length → gs[i]!.1 ≠ id) : grG gs id = 0 := by
  have : gs.find? (fun g => g.1 == id) = none := by
    rw [List.find?_eq_none]
    intro x hx
    obtain ⟨i, hi, rfl⟩ := List.getElem_of_mem hx
    have := h i hi
    rw [getElem!_pos gs i hi] at this
    simpa using this
  unfold grG
  rw [this]

set_option maxHeartbeats 1000000 in
theorem granted_any (A : Option Addr) (n c : Nat) (gs : List (Int × Int)) (id : Int) (w : World) (h : Recs enc2 2 w A n gs) (hn : n ≤ 1000000) :
    Calls Tryz.prog 29 #[.slice A n c, .int .i64 id] w fun e w' => e = .returned (.int .i64 (grG gs id)) ∧ ∃ q, w' = w.drewN q := by
  have HL := Lib.hid h.1
  go_enter Tryz.func29, Tryz.ntmps29
  go_wp2_with fail
  go_loopw [5] (fun i wx => ∃ (k p : Nat), k ≤ n ∧ i = .int .i64 k ∧ Hid (∀ i, i < k → gs[i]!.1 ≠ id) ∧ wx = w.drewN p) (fun i _ => n - (intOf i).toNat)
  case atStart => exact ⟨0, 0, Nat.zero_le _, rfl, fun i hi => by omega, rfl⟩
  case round =>
    obtain ⟨k, p, hk, rfl, HNE, rfl⟩ := hrel
    by_cases hlt : k < n
    · obtain ⟨b, off, x, y, hA, hbl, c1, c2, HX⟩ := (h.drewN p).get2 hlt
      subst hA
      have hki : (k : Int) < n := by omega
      by_cases e : x = id
      · have be : (x == id) = true := by simpa using e
        have HE : Hid (grG gs id = y) := by
          have h1 := grG_first (gs := gs) (id := id) (k := k) (by have := HL.out; omega) HNE.out (by rw [HX.out]; exact e)
          rwa [HX.out] at h1
        clear e
        go_wp2
        go_ret
        exact ⟨by rw [HE.out]; rfl, _, rfl⟩
      · have be : (x == id) = false := by simpa using e
        have HNE2 : Hid (∀ i, i < k + 1 → gs[i]!.1 ≠ id) := fun i hi => by
          by_cases q : i = k
          · subst q; rw [HX.out]; exact e
          · exact HNE.out i (by omega)
        clear e
        go_wp2_with fail
        go_roundw
        case rel => exact ⟨k + 1, _, by omega, by go_num, HNE2, rfl⟩
        case measure => simp [intOf]; omega
    · obtain rfl : n = k := by omega
      have hd0 : decide ((n : Int) < n) = false := by simp
      have HE : Hid (grG gs id = 0) := grG_none fun i hi => HNE.out i (by have := HL.out; omega)
      clear hlt
      go_wp2
      go_ret
      exact ⟨by rw [HE.out]; rfl, _, rfl⟩
end Go.Proofs.YtemhiifgplaldaaGreat

namespace Go.Proofs.YtemhiifgplaldaaGreat
open Go.RowKit
set_option linter.unusedVariables false

/-- A book whose facts lie in a row of the call's own. -/
def BkQ (N : Nat) (q : Qt) (n : Nat) (l : List Fct) : List Value → Value → List Nat → World → Prop := fun _ v f w => ∃ B d, v = .agg #[.int .i64 q.id, .int .i64 q.vol, .int .i64 q.fr, .int .i64 q.tod, .slice B n d] ∧ w.ownsRow N 47 5 (.slice B n d) n (flat encF l) ∧ f = (Value.slice B n d).ownBlock.toList
theorem BkQ.loc {w0 : World} {N : Nat} {q : Qt} {n : Nat} {l : List Fct} : Loc w0 (BkQ N q n l) := by
  rintro _ v f w w' h1 h2 h3 h4 ⟨B, d, rfl, h5, rfl⟩
  exact ⟨B, d, rfl, own_of_block h5 fun j hj => (h4 j (by simp [hj])).2.2, rfl⟩
/-- Such a book in a box: its address is the first value that was read. -/
def BoxQ (N : Nat) (q : Qt) (n : Nat) (l : List Fct) : List Value → Value → List Nat → World → Prop := fun vs _ f w => ∃ g B d, vs[0]? = some (.pointer (some ⟨g, 0, none⟩)) ∧ f = g :: (Value.slice B n d).ownBlock.toList ∧ Bl w g 27 #[.int .i64 q.id, .int .i64 q.vol, .int .i64 q.fr, .int .i64 q.tod, .slice B n d] ∧ w.ownsRow N 47 5 (.slice B n d) n (flat encF l)
theorem BoxQ.loc {w0 : World} {N : Nat} {q : Qt} {n : Nat} {l : List Fct} : Loc w0 (BoxQ N q n l) := by
  rintro _ v f w w' h1 h2 h3 h4 ⟨g, B, d, e1, rfl, h5, h6⟩
  exact ⟨g, B, d, e1, rfl, (h4 g (by simp)).2.2.trans h5, own_of_block h6 fun j hj => (h4 j (by simp [hj])).2.2⟩
theorem Finds.boxq {js : List Job} {a0 : Act} {w0 : World} {fact : Nat → List Value → Value → Prop} {res : Nat → List Value → Value → List Nat → World → Prop} {kb kv i : Nat} {a : Act} {w : World} {vs : Nat → Value} {fp : Nat → List Nat}
    (h : Finds js a0 w0 fact res i ⟨none, [kb, kv], [kb, kv]⟩ a w vs fp) (hne : kv ≠ kb) {N : Nat} {q : Qt} {n : Nat} {l : List Fct} {g : Nat} {B : Option Addr} {d : Nat} {z0 z1 z2 z3 z4 : Value} (hg : vs kb = .pointer (some ⟨g, 0, none⟩)) (hf : fp kb = [g])
    (hb : Bl w g 27 #[z0, z1, z2, z3, z4]) (hk : w.ownsRow N 47 5 (.slice B n d) n (flat encF l)) (hf2 : fp kv = (Value.slice B n d).ownBlock.toList) (h1 : fact i ([kb, kv].map vs) undef) (h2 : ∀ f w', BoxQ N q n l ([kb, kv].map vs) undef f w' → res i ([kb, kv].map vs) undef f w') :
    Leaves w0 fact res i ⟨none, [kb, kv], [kb, kv]⟩ w vs fp undef (g :: fp kv) (((((w.setCell ⟨g, 0, none⟩ (.int .i64 q.id)).setCell ⟨g, 1, none⟩ (.int .i64 q.vol)).setCell ⟨g, 2, none⟩ (.int .i64 q.fr)).setCell ⟨g, 3, none⟩ (.int .i64 q.tod)).setCell ⟨g, 4, none⟩ (.slice B n d)) := by
  have hgb : w0.heap.size ≤ g := (h.own kb (by simp) g (by rw [hf]; simp)).1
  have hap : ∀ b ∈ fp kv, b ≠ g := fun b hb e => h.apart kv (by simp) kb (by simp) hne b hb (by rw [hf, e]; simp)
  refine ⟨put5 h.below hgb _ _ _ _ _, by rw [size_set5]; exact Nat.le_refl _, fun k hk hn => heap_set5 w g _ _ _ _ _ k (fun e => hn kb (by simp) (by rw [hf, e]; simp)), h1, h2 _ _ ⟨g, B, d, by simp [hg], by rw [hf2], set5_bl hb _ _ _ _ _, own_of_block hk fun j hj => heap_set5 w g _ _ _ _ _ j (hap j (by rw [hf2]; simp [hj]))⟩, fun k hk => ?_⟩
  rw [size_set5]
  rcases List.mem_cons.1 hk with rfl | hk
  · exact ⟨hb.lt, .inl ⟨kb, by simp, by rw [hf]; simp⟩⟩
  · exact ⟨(h.own kv (by simp) k hk).2, .inl ⟨kv, by simp, hk⟩⟩
theorem flatF_take (o : List Fct) (j : Nat) : flat encF (o.take j) = (flat encF o).take (j * 5) := by
  induction o generalizing j with
  | nil => simp [flat]
  | cons x o ih =>
    cases j with
    | zero => simp [flat]
    | succ j =>
      show encF x ++ flat encF (o.take j) = (encF x ++ flat encF o).take ((j + 1) * 5)
      rw [ih, show (j + 1) * 5 = (encF x).length + j * 5 by rw [encF_len]; omega, List.take_length_add_append]
theorem flatF_drop (o : List Fct) (j : Nat) : flat encF (o.drop j) = (flat encF o).drop (j * 5) := by
  induction o generalizing j with
  | nil => simp [flat]
  | cons x o ih =>
    cases j with
    | zero => simp
    | succ j =>
      show flat encF (o.drop j) = (encF x ++ flat encF o).drop ((j + 1) * 5)
      rw [ih, show (j + 1) * 5 = (encF x).length + j * 5 by rw [encF_len]; omega, List.drop_length_add_append]
theorem flatF_one (o : List Fct) : ∀ u ∈ flat encF o, u.oneCell' = true := fun u hu => by
  obtain ⟨x, _, hx⟩ := List.mem_flatMap.1 hu
  exact encF_one x u hx
theorem rdF {w : World} {A : Option Addr} {n : Nat} {l : List Fct} (h : Recs encF 5 w A n l) : Rd w 5 A n (flat encF l) := ⟨by rw [flat_length encF_len, h.1], fun h0 => by
  obtain ⟨b, off, e, hb', _⟩ := h.2 h0
  subst e
  exact ⟨b, off, rfl, hb', Recs.cells encF_len (by omega) h⟩⟩
end Go.Proofs.YtemhiifgplaldaaGreat

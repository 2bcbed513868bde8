/-
  The law BookReasons: it returns true. Conditions: the list reads as integers, its length is at most its capacity.
-/
import Derived.Test.YtemhiifgplaldaaMT
import Derived.Test.YtemhiifgplaldaaMV
namespace Go.Proofs.Ytemhiifgplaldaa
open Go.RowKit
set_option linter.unusedVariables false

set_option maxRecDepth 100000 in
set_option maxHeartbeats 8000000 in
theorem bookReasons_any (A : Option Addr) (n c : Nat) (xs : List Int) (w : World) (h : Ints w A n xs) (hnc : n ≤ c) (hcm : c ≤ 9223372036854775807) :
    Calls Try.prog 9 #[.slice A n c] w (BRes w true) := by
  have HAW := Lib.hid awake22_any
  have HQF := Lib.hid (quotaFacts_any A n c xs w h hnc hcm)
  clear h hnc hcm
  go_enter Try.func9, Try.ntmps9
  go_wp2_with fail
  refine HQF.out.mono ?_
  rintro e w1 ⟨q, l, B1, n1, d1, rfl, hqf, hl1, ho1, hb1⟩
  have HF := Lib.hid hqf
  have HL := Lib.hid hl1
  have hn24 : n1 ≤ 24 := by have := hqf.len; omega
  have hx1 := Bl.new w1 23 #[.int .i64 q.id, .int .i64 q.vol, .int .i64 q.fr, .int .i64 q.tod]
  have hB1 : RowKit.Below w.heap.size w (w1.alloc (.cells #[.int .i64 q.id, .int .i64 q.vol, .int .i64 q.fr, .int .i64 q.tod] 23)) := hb1.alloc hb1.size _
  have hr1 := (Recs.of_own encF_len ho1 hl1).alloc (.cells #[.int .i64 q.id, .int .i64 q.vol, .int .i64 q.fr, .int .i64 q.tod] 23)
  have hqv := qOk_yes hqf.qok
  obtain ⟨qv1, qv2, qv3, qv4, qv5, qv6, qv7⟩ := hqv
  clear hqf hl1 ho1 hb1 HQF
  go_upto_region 2 with (fail)
  generalize w1.alloc (.cells #[.int .i64 q.id, .int .i64 q.vol, .int .i64 q.fr, .int .i64 q.tod] 23) = W1 at *
  generalize w1.heap.size = g3 at *
  have HR1 := Lib.hid hr1
  have HLA := Lib.hid (lapply_any q B1 n1 d1 l W1 hr1 (by omega) HF.out.qok (fun x hx => (HF.out.each x hx).1) HF.out.nodup)
  clear hr1
  have p0 : W1.cell? ⟨g3, 0, none⟩ = some (.int .i64 q.id) := hx1.cell 0
  have p1 : W1.cell? ⟨g3, 1, none⟩ = some (.int .i64 q.vol) := hx1.cell 1
  have p2 : W1.cell? ⟨g3, 2, none⟩ = some (.int .i64 q.fr) := hx1.cell 2
  have p3 : W1.cell? ⟨g3, 3, none⟩ = some (.int .i64 q.tod) := hx1.cell 3
  go_wp2_with fail
  refine HLA.out.mono ?_
  rintro e w2 ⟨fs, B2, d2, rfl, hbo, hpm, hfr, hb2⟩
  have HBO := Lib.hid hbo
  have HPM := Lib.hid hpm
  have hx2 := (hx1.keep hb2).alloc (.cells #[.int .i64 q.id, .int .i64 q.vol, .int .i64 q.fr, .int .i64 q.tod, .slice B2 n1 d2] 26)
  have hy2 := Bl.new w2 26 #[.int .i64 q.id, .int .i64 q.vol, .int .i64 q.fr, .int .i64 q.tod, .slice B2 n1 d2]
  have hB2 : RowKit.Below w.heap.size w (w2.alloc (.cells #[.int .i64 q.id, .int .i64 q.vol, .int .i64 q.fr, .int .i64 q.tod, .slice B2 n1 d2] 26)) := (hB1.trans (hb2.mono hB1.size)).alloc (Nat.le_trans hB1.size hb2.size) _
  have HFR := Lib.hid (hfr.below ((Below.refl _ _).alloc (Nat.le_refl _) (.cells #[.int .i64 q.id, .int .i64 q.vol, .int .i64 q.fr, .int .i64 q.tod, .slice B2 n1 d2] 26)))
  have HR2 := Lib.hid ((HR1.out.below hb2).alloc (.cells #[.int .i64 q.id, .int .i64 q.vol, .int .i64 q.fr, .int .i64 q.tod, .slice B2 n1 d2] 26))
  clear p0 p1 p2 p3 hx1 hB1 hb2 hbo hpm hfr HLA HR1
  go_upto_region 3 with (fail)
  generalize w2.alloc (.cells #[.int .i64 q.id, .int .i64 q.vol, .int .i64 q.fr, .int .i64 q.tod, .slice B2 n1 d2] 26) = W2 at *
  generalize w2.heap.size = g5 at *
  have HGR := Lib.hid (grants_any q B2 n1 d2 fs W2 HFR.out.recs HBO.out)
  have y0 : W2.cell? ⟨g5, 0, none⟩ = some (.int .i64 q.id) := hy2.c0
  have y1 : W2.cell? ⟨g5, 1, none⟩ = some (.int .i64 q.vol) := hy2.c1
  have y2 : W2.cell? ⟨g5, 2, none⟩ = some (.int .i64 q.fr) := hy2.c2
  have y3 : W2.cell? ⟨g5, 3, none⟩ = some (.int .i64 q.tod) := hy2.c3
  have y4 : W2.cell? ⟨g5, 4, none⟩ = some (.slice B2 n1 d2) := hy2.c4
  go_wp2_with fail
  refine HGR.out.mono ?_
  rintro e w3 ⟨C, m, dc, gs, bal, rfl, hst, hgl, hm200, hog, hb3⟩
  have HST := Lib.hid hst
  have HLW := Lib.hid (hst.law HBO.out.good.ok HBO.out.good.ids HBO.out.good.v0)
  have HRE := Lib.hid (hst.reasons HBO.out.good.ok HBO.out.good.ids HBO.out.good.v0)
  have HDY : Hid (∀ g ∈ gs, (dayN l g.id).1 = g.day) := fun g hg => hst.dayN HPM.out HBO.out.asc (fun y hy _ => by have := (fErr_zero (HF.out.each y hy).1).1; unfold FOk at this; omega) hg
  have HID : Hid (∀ g ∈ gs, g.id ≤ 8) := fun g hg => by
    obtain ⟨f, h1, h2⟩ := hst.asked hg
    obtain ⟨m1, m2, m3⟩ := ask_mem h1
    have := (HF.out.each f (HPM.out.mem_iff.1 m1)).2.2.1
    omega
  have HGL := Lib.hid hgl
  have hrg : Recs enc2 2 w3 C m (grs gs) := Recs.of_own enc2_len hog (by rw [grs_len, hgl])
  have hB3 := hB2.trans (hb3.mono hB2.size)
  have hy3 := hy2.keep hb3
  have HFR3 := Lib.hid (HFR.out.recs.below hb3)
  have HR3 := Lib.hid (HR2.out.below hb3)
  have HGB : Hid (∀ g ∈ gs, 0 ≤ g.grant ∧ g.grant ≤ 1000000000) := fun g hg => by have := HLW.out.each g hg; omega
  have HEX : Hid (∀ (id : Int) (wx : World), RowKit.Below w3.heap.size w3 wx → Calls Try.prog 23 #[.agg #[.int .i64 q.id, .int .i64 q.vol, .int .i64 q.fr, .int .i64 q.tod, .slice B2 n1 d2], .int .i64 id] wx fun e w' => e = .returned (.tuple #[(ExVal gs id).1, .bool (ExVal gs id).2]) ∧ RowKit.Below wx.heap.size wx w') := fun id wx hb => (explain_any q B2 n1 d2 fs id wx (HFR3.out.below hb) HBO.out).mono fun e w' ⟨gs2, bal2, h1, h2, h3⟩ => by
    obtain ⟨rfl, _⟩ := h1.unique HST.out
    exact ⟨h2, h3⟩
  clear y0 y1 y2 y3 y4 hst hgl hog hb3 hy2 hx2 hB2 HGR
  go_wp2_with fail
  go_loopw [8] (fun i wx => ∃ k : Nat, k ≤ m ∧ i = .int .i64 k ∧ RowKit.Below w3.heap.size w3 wx) (fun i _ => m - (intOf i).toNat)
  case atStart => exact ⟨0, Nat.zero_le _, rfl, Below.refl _ _⟩
  case round =>
    obtain ⟨k, hk, rfl, hb⟩ := hrel
    have hB4 := hB3.trans (hb.mono hB3.size)
    have hy4 := hy3.keep hb
    by_cases hlt : k < m
    · obtain ⟨b, off, xi, xg, hA, hbl, c0, c1, HX⟩ := (hrg.below hb).get2 hlt
      subst hA
      obtain ⟨x, hx⟩ : ∃ x, gs[k]! = x := ⟨_, rfl⟩
      obtain ⟨rfl, rfl⟩ : x.id = xi ∧ x.grant = xg := by
        have h1 := HX.out
        unfold grs at h1
        rw [getElem!_pos _ k (by simp; have := HGL.out; omega), List.getElem_map] at h1
        rw [getElem!_pos gs k (by have := HGL.out; omega)] at hx
        rw [hx] at h1
        injection h1 with a1 a2
        exact ⟨a1, a2⟩
      have hxm : x ∈ gs := by rw [← hx]; exact getB_mem (by have := HGL.out; omega)
      have hki : (k : Int) < m := by omega
      have HXV : Hid (ExVal gs x.id = (.agg #[.int .i64 x.day, .int .i64 x.avail, .int .i64 x.asked, .int .i64 x.req, .int .i64 x.grant], true)) := by
        show _ = _
        have := find_own HST.out.asc (k := k) (by have := HGL.out; omega)
        rw [hx] at this
        unfold ExVal
        rw [this]
      have HC := Lib.hid (fun (wx : World) (hbx : RowKit.Below wr.heap.size wr wx) => HEX.out x.id wx (hb.trans (hbx.mono hb.size)))
      rw [HXV.out] at HC
      have HDX := Lib.hid (HDY.out x hxm)
      have HRX := Lib.hid (HRE.out x hxm)
      have HCW : Hid (∀ wx, RowKit.Below wr.heap.size wr wx → Calls Try.prog 23 #[.agg #[.int .i64 q.id, .int .i64 q.vol, .int .i64 q.fr, .int .i64 q.tod, .slice B2 n1 d2], .int .i64 x.id] wx fun e w' => e = .returned (.tuple #[.agg #[.int .i64 x.day, .int .i64 x.avail, .int .i64 x.asked, .int .i64 x.req, .int .i64 x.grant], .bool true]) ∧ RowKit.Below wr.heap.size wr w' ∧ RowKit.Below wx.heap.size wx w') := fun wx hbx => (HC.out wx hbx).mono fun e w' ⟨h1, h2⟩ => ⟨h1, hbx.trans (h2.mono hbx.size), h2⟩
      have HBN : Hid (RowKit.Below wr.heap.size wr wr.drew) := (Below.refl _ _).drew
      have HBA : Hid (RowKit.Below wr.heap.size wr (wr.alloc (.cells #[.int .i64 0, .int .i64 0, .int .i64 0, .int .i64 0, .int .i64 0] 58)).drew) := ((Below.refl _ _).alloc (Nat.le_refl _) _).drew
      have HY4 := Lib.hid hy4
      have l1 := hy4.lt
      have HCX : Hid (∀ wx, RowKit.Below wr.heap.size wr wx → wx.cell? ⟨b, off + k * 2, none⟩ = some (.int .i64 x.id)) := fun wx hbx => (hbx.cell (p := ⟨b, off + k * 2, none⟩) hbl).trans c0
      have HCY : Hid (∀ wx, RowKit.Below wr.heap.size wr wx → wx.cell? ⟨b, off + k * 2 + 1, none⟩ = some (.int .i64 x.grant)) := fun wx hbx => (hbx.cell (p := ⟨b, off + k * 2 + 1, none⟩) hbl).trans c1
      clear HC hx
      have y0 : wr.cell? ⟨g5, 0, none⟩ = some (.int .i64 q.id) := hy4.c0
      have y1 : wr.cell? ⟨g5, 1, none⟩ = some (.int .i64 q.vol) := hy4.c1
      have y2 : wr.cell? ⟨g5, 2, none⟩ = some (.int .i64 q.fr) := hy4.c2
      have y3 : wr.cell? ⟨g5, 3, none⟩ = some (.int .i64 q.tod) := hy4.c3
      have y4 : wr.cell? ⟨g5, 4, none⟩ = some (.slice B2 n1 d2) := hy4.c4
      clear hy4
      go_upto_region 7 with (fail)
      go_cut [9, 10] (fun v f wx => ∃ g9, v = .pointer (some ⟨g9, 0, none⟩) ∧ f = .bool true ∧ Bl wx g9 58 #[.int .i64 x.day, .int .i64 x.avail, .int .i64 x.asked, .int .i64 x.req, .int .i64 x.grant] ∧ RowKit.Below wr.heap.size wr wx)
      case first =>
        go_region_held3 (fun w' => w'.cell? ⟨g5, 0, none⟩ = some (.int .i64 q.id) ∧ w'.cell? ⟨g5, 1, none⟩ = some (.int .i64 q.vol) ∧ w'.cell? ⟨g5, 2, none⟩ = some (.int .i64 q.fr) ∧ w'.cell? ⟨g5, 3, none⟩ = some (.int .i64 q.tod) ∧ w'.cell? ⟨g5, 4, none⟩ = some (.slice B2 n1 d2) ∧ w'.cell? ⟨b, off + k * 2, none⟩ = some (.int .i64 x.id))
          (first
            | with_reducible exact ⟨(HY4.out.keep hb5.out).c0, (HY4.out.keep hb5.out).c1, (HY4.out.keep hb5.out).c2, (HY4.out.keep hb5.out).c3, (HY4.out.keep hb5.out).c4, HCX.out _ hb5.out⟩
            | with_reducible exact ⟨((HY4.out.keep hb5.out).alloc _).c0, ((HY4.out.keep hb5.out).alloc _).c1, ((HY4.out.keep hb5.out).alloc _).c2, ((HY4.out.keep hb5.out).alloc _).c3, ((HY4.out.keep hb5.out).alloc _).c4, HCX.out _ (hb5.out.alloc hb5.out.size _)⟩
            | with_reducible exact ⟨((HY4.out.keep hb5.out).far5 ln3 _ _ _ _ _).c0, ((HY4.out.keep hb5.out).far5 ln3 _ _ _ _ _).c1, ((HY4.out.keep hb5.out).far5 ln3 _ _ _ _ _).c2, ((HY4.out.keep hb5.out).far5 ln3 _ _ _ _ _).c3, ((HY4.out.keep hb5.out).far5 ln3 _ _ _ _ _).c4, HCX.out _ (put5 hb5.out (Nat.le_refl _) _ _ _ _ _)⟩
            | go_keep)
          (first
            | (go_at_call 23; with_reducible (refine (HCW.out _ HBN.out).mono ?_); rintro e w5 ⟨rfl, hb5', _⟩; have hb5 := Lib.hid hb5'; clear hb5'; have l5 : g5 < w5.heap.size := Nat.lt_of_lt_of_le l1 hb5.out.size; have l6 : b < w5.heap.size := Nat.lt_of_lt_of_le hbl hb5.out.size)
            | (go_at_call 23; with_reducible (refine (HCW.out _ HBA.out).mono ?_); rintro e w5 ⟨rfl, hb5', hbx'⟩; have hb5 := Lib.hid hb5'; clear hb5'; have l5 : g5 < w5.heap.size := Nat.lt_of_lt_of_le l1 hb5.out.size; have l6 : b < w5.heap.size := Nat.lt_of_lt_of_le hbl hb5.out.size; have HZ5 := Lib.hid (((Bl.new wr 58 #[.int .i64 0, .int .i64 0, .int .i64 0, .int .i64 0, .int .i64 0]).drew).keep hbx'); clear hbx'; have z0 := HZ5.out.c0; have zf0 := HZ5.out.free 0; have z1 := HZ5.out.c1; have zf1 := HZ5.out.free 1; have z2 := HZ5.out.c2; have zf2 := HZ5.out.free 2; have z3 := HZ5.out.c3; have zf3 := HZ5.out.free 3; have z4 := HZ5.out.c4; have zf4 := HZ5.out.free 4; have ln3 := Nat.ne_of_lt l1; have ln4 := Nat.ne_of_lt hbl))
        · go_wp2_with fail
          go_meet
          exact ⟨_, rfl, rfl, Bl.new _ _ _, hb5.out.alloc hb5.out.size _⟩
        · go_wp2_with fail
          go_meet
          exact ⟨_, rfl, rfl, set5_bl HZ5.out _ _ _ _ _, put5 hb5.out (Nat.le_refl _) _ _ _ _ _⟩
      case rest =>
        obtain ⟨g9, rfl, rfl, hx9, hb9⟩ := hcut
        have hbT := hb.trans (hb9.mono hb.size)
        have hB9 := hB4.trans (hb9.mono hB4.size)
        have HR9 := Lib.hid (HR3.out.below hbT)
        have HG9 := Lib.hid (hrg.below hbT)
        have HDQ := Lib.hid (fun j => dayOf_quiet B1 n1 d1 l x.id wc j HR9.out (by omega))
        rw [HDX.out] at HDQ
        have c0' : wc.cell? ⟨b, off + k * 2, none⟩ = some (.int .i64 x.id) := HCX.out _ hb9
        have c1' : wc.cell? ⟨b, off + k * 2 + 1, none⟩ = some (.int .i64 x.grant) := HCY.out _ hb9
        have k0 : wc.cell? ⟨g9, 0, none⟩ = some (.int .i64 x.day) := hx9.c0
        have k1 : wc.cell? ⟨g9, 1, none⟩ = some (.int .i64 x.avail) := hx9.c1
        have k2 : wc.cell? ⟨g9, 2, none⟩ = some (.int .i64 x.asked) := hx9.c2
        have k3 : wc.cell? ⟨g9, 3, none⟩ = some (.int .i64 x.req) := hx9.c3
        have k4 : wc.cell? ⟨g9, 4, none⟩ = some (.int .i64 x.grant) := hx9.c4
        clear HCX HCY HCW HBN HBA HY4 y0 y1 y2 y3 y4 c0 c1
        go_upto_region 8 with (fail)
        go_quiet ((go_at_call 24; exact HDQ.out _))
        by_cases hle : x.asked ≤ x.avail
        · have dl : decide (x.asked ≤ x.avail) = true := by simpa using hle
          have dg : (x.grant != x.req) = false := by simpa using HRX.out.1 hle
          clear hle
          go_wp2_with fail
          go_roundw
          case rel => exact ⟨k + 1, by omega, by go_num, below_drewN hbT _⟩
          case measure => simp [intOf]; omega
        · have dl : decide (x.asked ≤ x.avail) = false := by simpa using hle
          have HSUM : Hid (dayGr gs x.day = x.avail) := HRX.out.2 (by omega)
          have hb10 : RowKit.Below w3.heap.size w3 (wc.drewN nq) := below_drewN hbT nq
          have HR10 : Hid (Recs encF 5 (wc.drewN nq) B1 n1 l) := HR9.out.drewN nq
          have HG10 : Hid (Recs enc2 2 (wc.drewN nq) (some ⟨b, off, none⟩) m (grs gs)) := HG9.out.drewN nq
          have hx10 := hx9.drewN nq
          have HX10 := Lib.hid hx10
          clear hle HDQ c0' c1' HR9 HG9
          go_upto_region 13 with (fail)
          clear k0 k1 k2 k3 k4
          generalize wc.drewN nq = W10 at *
          go_wp2_with fail
          go_loopw [11, 12] (fun t i wx => ∃ k2 : Nat, k2 ≤ m ∧ t = .int .i64 (dayGr (gs.take k2) x.day) ∧ i = .int .i64 k2 ∧ RowKit.Below W10.heap.size W10 wx) (fun _ i _ => m - (intOf i).toNat)
          case atStart => exact ⟨0, Nat.zero_le _, by simp [dayGr], rfl, Below.refl _ _⟩
          case round =>
            obtain ⟨k2, hk2, rfl, rfl, hbi⟩ := hrel
            have HSB := Lib.hid (dayGr_bounds HGB.out (by have := HGL.out; omega) x.day k2 (by have := HGL.out; omega))
            have hxi := HX10.out.keep hbi
            by_cases hlt2 : k2 < m
            · obtain ⟨b', off', zi, zg, hA', hbl', e0, e1, HZ⟩ := (HG10.out.below hbi).get2 hlt2
              injection hA' with hA'
              injection hA' with hA1 hA2
              subst hA1 hA2
              obtain ⟨z, hz⟩ : ∃ z, gs[k2]! = z := ⟨_, rfl⟩
              obtain ⟨rfl, rfl⟩ : z.id = zi ∧ z.grant = zg := by
                have h1 := HZ.out
                unfold grs at h1
                rw [getElem!_pos _ k2 (by simp; have := HGL.out; omega), List.getElem_map] at h1
                rw [getElem!_pos gs k2 (by have := HGL.out; omega)] at hz
                rw [hz] at h1
                injection h1 with a1 a2
                exact ⟨a1, a2⟩
              have hzm : z ∈ gs := by rw [← hz]; exact getB_mem (by have := HGL.out; omega)
              have hk2i : (k2 : Int) < m := by omega
              have HDQ := Lib.hid (fun j => dayOf_quiet B1 n1 d1 l z.id wr j (HR10.out.below hbi) (by omega))
              rw [HDY.out z hzm] at HDQ
              have HTK := Lib.hid (dayGr_take gs x.day k2 (by have := HGL.out; omega))
              rw [hz] at HTK
              have hg := HGB.out z hzm
              have s1 := HSB.out.1
              have s2 : dayGr (gs.take k2) x.day ≤ 200000000000 := by have := HSB.out.2; omega
              have k0 : wr.cell? ⟨g9, 0, none⟩ = some (.int .i64 x.day) := hxi.c0
              generalize dayGr (gs.take k2) x.day = s0 at *
              clear hz hzm
              go_upto_region 17 with (fail)
              go_quiet ((go_at_call 24; exact HDQ.out _))
              by_cases gd : z.day = x.day
              · have bd : (z.day == x.day) = true := by simpa using gd
                rw [if_pos gd] at HTK
                clear gd
                go_wp2_with fail
                go_roundw
                case rel => exact ⟨k2 + 1, by omega, by rw [HTK.out], by go_num, below_drewN hbi _⟩
                case measure => simp [intOf]; omega
              · have bd : (z.day == x.day) = false := by simpa using gd
                rw [if_neg gd, Int.add_zero] at HTK
                clear gd
                go_wp2_with fail
                go_roundw
                case rel => exact ⟨k2 + 1, by omega, by rw [HTK.out], by go_num, below_drewN hbi _⟩
                case measure => simp [intOf]; omega
            · obtain rfl : m = k2 := by omega
              rw [List.take_of_length_le (by have := HGL.out; omega), HSUM.out]
              have k1 : wr.cell? ⟨g9, 1, none⟩ = some (.int .i64 x.avail) := hxi.c1
              have HB11 := Lib.hid (hb10.trans (hbi.mono hb10.size))
              clear hlt2
              go_wp2_with fail
              go_roundw
              case rel => exact ⟨k + 1, by omega, by go_num, HB11.out⟩
              case measure => simp [intOf]; omega
    · obtain rfl : m = k := by omega
      have HC := Lib.hid (fun (wx : World) (hbx : RowKit.Below w3.heap.size w3 wx) => HEX.out 99 wx hbx)
      have HXV : Hid (ExVal gs 99 = (.agg #[.int .i64 0, .int .i64 0, .int .i64 0, .int .i64 0, .int .i64 0], false)) := by
        show _ = _
        unfold ExVal
        rw [find_noneF (gs := gs) (id := 99) (fun i hi e => by have := HID.out gs[i]! (getB_mem hi); omega)]
      rw [HXV.out] at HC
      have y0 : wr.cell? ⟨g5, 0, none⟩ = some (.int .i64 q.id) := hy4.c0
      have y1 : wr.cell? ⟨g5, 1, none⟩ = some (.int .i64 q.vol) := hy4.c1
      have y2 : wr.cell? ⟨g5, 2, none⟩ = some (.int .i64 q.fr) := hy4.c2
      have y3 : wr.cell? ⟨g5, 3, none⟩ = some (.int .i64 q.tod) := hy4.c3
      have y4 : wr.cell? ⟨g5, 4, none⟩ = some (.slice B2 n1 d2) := hy4.c4
      clear hlt
      go_wp2_with fail
      refine (HC.out _ hb).mono ?_
      rintro e w5 ⟨rfl, hb5⟩
      have hB5 : RowKit.Below w.heap.size w (w5.alloc (.cells #[.int .i64 0, .int .i64 0, .int .i64 0, .int .i64 0, .int .i64 0] 58)) := (hB4.trans (hb5.mono hB4.size)).alloc (Nat.le_trans hB4.size hb5.size) _
      go_wp2_with fail
      refine (HAW.out _).mono ?_
      rintro e w6 ⟨rfl, hb6⟩
      go_wp2
      go_ret
      exact ⟨rfl, hB5.trans (hb6.mono hB5.size)⟩
end Go.Proofs.Ytemhiifgplaldaa

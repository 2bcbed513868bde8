/-
  An estate's Act, case by case (group d). No statement of the seat is proved here. Conditions: as for Act.
  Contract of an estate's Act (customsmade): a sound estate stays sound. No statement of the seat is proved here. Conditions: the estate's box and the Source's lie in memory of the call that makes the estate.
  Contract of customsmade.Make: a sound estate. No statement of the seat is proved here. Conditions: the list reads as integers.
-/
import Derived.Test.YthnhgjhnkncmiaaGreatMAR
import Derived.Test.YthnhgjhnkncmiaaGreatMAS
namespace Go.Proofs.YthnhgjhnkncmiaaGreat
open Go.RowKit
set_option linter.unusedVariables false
set_option maxRecDepth 100000 in
set_option maxHeartbeats 64000000 in
theorem Act_v7 (w0 w : World) (gx gs : Nat) (LA : Option Addr) (m lc I : Nat) (xs : List Int) (A : Option Addr) (n c : Nat) (bs : List Lb) (B : Option Addr) (k d : Nat) (cs : List Ch) (free : Int) (h : EsM w0 w gx gs LA m lc I A n c bs B k d cs free) (hI : Ints w0 LA m xs) (hv8 : nextV xs m I 8 = 7) (hm : m ≤ 1000000) (hf : free ≤ 100000) (hk : k ≤ 1000) :
    Calls Tryz.prog 25 #[.pointer (some ⟨gx, 0, none⟩), .pointer (some ⟨gs, 0, none⟩)] w fun e w' => e = .returned (.tuple #[]) ∧ ActS w0 gx gs LA m lc I k free w' := by
  have HES := Lib.hid h
  have HN : Hid (NextC w0 gs LA m lc) := fun q J wx hS hb h1 h2 =>
    (next_any gs LA m lc J xs q w0 wx hS hI hb h.base.2 hm h1 h2).mono fun e w' ⟨h3, h4, h5⟩ => ⟨_, h3, (nextV_bounds xs m J q h1).1, (nextV_bounds xs m J q h1).2, h4, h5⟩
  have HSM : Hid (∀ (J : Nat) (wx : World), Src wx gs LA m lc J → RowKit.Below w0.heap.size w0 wx → Calls Tryz.prog 37 #[.pointer (some ⟨gs, 0, none⟩), .int .i64 30, .int .i64 100000] wx (SmlRes wx gs LA m lc J 100000)) := fun J wx hS hb => small29_any gs LA m lc J xs 30 100000 w0 wx hS hI hb h.base.2 hm (by decide) (by decide) (by decide)
  have hc0 : w.cell? ⟨gx, 0, none⟩ = some (.slice A n c) := h.bx.cell 0
  clear h
  go_enter Tryz.func25, Tryz.ntmps25
  go_upto_region 3 with (fail)
  go_wp2_with fail
  refine (next_any gs LA m lc I xs 8 w0 w HES.out.src hI HES.out.below HES.out.base.2 hm (by decide) (by decide)).mono ?_
  rintro e w1 ⟨rfl, ho1, hs1⟩
  rw [hv8]
  go_upto_block 0 with fail
  have HE1 : Hid (EsM w0 w1 gx gs LA m lc (nextI m I) A n c bs B k d cs free) := HES.out.only ho1 hs1
  clear ho1 hs1 hc0
  go_cut [4, 5, 6] (fun nx er us wx => ActM w0 w gx gs LA m lc I A n c bs B k d cs free nx er us wx)
  case rest =>
    obtain ⟨J, A', n', c', bs', ev, u, B', k', d', cs', rfl, rfl, rfl, hu0, hu1, hJ0, hJ1, hbx, hsr, hown, hkl, hbw, hok, hbad⟩ := hcut
    have HBX := Lib.hid hbx
    have HSR := Lib.hid hsr
    have HOW := Lib.hid hown
    have HBW := Lib.hid hbw
    have HOK := Lib.hid hok
    have HBAD := Lib.hid hbad
    have hgg : gx ≠ gs := HE1.out.ne
    clear hbx hsr hown hbw hok hbad
    cases de : (ev == 0)
    case false =>
      have hne : ev ≠ 0 := by simpa using de
      have HNE := Lib.hid hne
      clear hne
      go_wp2
      go_end0
      obtain ⟨h1, h2, h3⟩ := HBAD.out HNE.out
      subst h2 h3
      exact ⟨rfl, J, A, n, c, bs, B', _, d', _, free, ⟨HBX.out, HSR.out, hJ1, h1, HOW.out, hkl, HES.out.ok, HBW.out, HES.out.base⟩, hJ0, by omega, by omega, .inl rfl⟩
    case true =>
      obtain rfl : ev = 0 := by simpa using de
      clear de
      obtain ⟨h1, h2, h3⟩ := HOK.out rfl
      have H1 := Lib.hid h1
      have H2 := Lib.hid h2
      have H3 := Lib.hid h3
      clear h1 h2 h3
      have c0 : wc.cell? ⟨gx, 0, none⟩ = some (.slice A n c) := HBX.out.cell 0
      have c2 : wc.cell? ⟨gx, 2, none⟩ = some (.int .i64 free) := HBX.out.cell 2
      have f0 : wc.frozen? ⟨gx, 0, none⟩ = false := HBX.out.free 0
      have f2 : wc.frozen? ⟨gx, 2, none⟩ = false := HBX.out.free 2
      have hfp := HES.out.ok.pos
      have u1 : IntKind.i64.wrap (free + u) = free + u := IntWalk.i64_in _ (by omega)
      have HX2 : Hid (Bl ((wc.setCell ⟨gx, 0, none⟩ (.slice A' n' c')).setCell ⟨gx, 2, none⟩ (.int .i64 (free + u))) gx 26 #[.slice A' n' c', .slice B' k' d', .int .i64 (free + u)]) := by
        show Bl _ _ _ _
        have := (HBX.out.put 0 (.slice A' n' c')).put 2 (.int .i64 (free + u))
        simpa using this
      have HKP : Hid (Kp gx wc ((wc.setCell ⟨gx, 0, none⟩ (.slice A' n' c')).setCell ⟨gx, 2, none⟩ (.int .i64 (free + u)))) := ((Kp.refl gx wc).put 0 _).put 2 _
      go_wp2
      go_end0
      refine ⟨rfl, J, A', n', c', bs', B', k', d', cs', free + u, ⟨HX2.out, HKP.out.bl HSR.out (fun e => hgg e.symm), hJ1, H1.out.keeps (Keeps.kp HKP.out HBX.out (by decide) (by decide)), own_of_block HOW.out fun g hg => HKP.out.block g (own_lt HOW.out g hg) (fun e => own_far29 HOW.out HBX.out (by decide) (hg.trans (congrArg some e))), hkl, H2.out, HKP.out.under HBW.out HBW.out.size HES.out.base.1, HES.out.base⟩, hJ0, by omega, by omega, H3.out⟩
  case first =>
    · have hk00 : Hid (EsW w0 gx gs LA m lc (nextI m I) A n c bs B k d cs free w1) := ⟨nextI m I, Nat.le_refl _, HE1.out⟩
      have hgl : gs < w1.heap.size := HE1.out.src.lt
      go_wp2_with fail
      refine (Recipes_any w1).mono ?_
      rintro e wa ⟨g, rfl, hrc, hba⟩
      have HRC := Lib.hid hrc
      have hka := Lib.hid (EsW.under hk00.out hba)
      clear hrc hba
      go_wp2_with fail
      refine (EsW.nx HN.out (by decide) (by decide) hka.out).mono ?_
      rintro e wb ⟨vb, rfl, hvb, hob, hkb'⟩
      have hkb := Lib.hid hkb'
      have HAb : Hid (AgN w1.heap.size wa wb) := (AgN.refl _ _).only hob hgl
      obtain ⟨rid, IA, ni, ci, ins, OA, no, co, outs, SA, ns, cs2, sc, hfix, hrok⟩ := HRC.out vb (by omega)
      have HFX := Lib.hid hfix
      have HRK := Lib.hid hrok
      obtain ⟨r0, r1, r2, r3, hat⟩ := HFX.out wb HAb.out
      have hni : 1 ≤ ni ∧ ni ≤ 2 := by have := hrok.ni; rw [hat.ins.1] at this; exact this
      have hno : 1 ≤ no ∧ no ≤ 2 := by have := hrok.no; rw [hat.outs.1] at this; exact this
      have hvz : (0 : Int) ≤ (vb : Int) := by omega
      clear hfix hrok hat hob hkb' HRC hka
      have H12 : Hid (Bl (wb.alloc (.cells #[.int .i64 rid, .slice IA ni ci, .slice OA no co, .slice SA ns cs2] 100)) wb.heap.size 100 #[.int .i64 rid, .slice IA ni ci, .slice OA no co, .slice SA ns cs2]) := Bl.new _ _ _
      have hkc : Hid (EsW w0 gx gs LA m lc (nextI m I) A n c bs B k d cs free (wb.alloc (.cells #[.int .i64 rid, .slice IA ni ci, .slice OA no co, .slice SA ns cs2] 100))) := EsW.alloc hkb.out _
      have HAc : Hid (AgN w1.heap.size wa (wb.alloc (.cells #[.int .i64 rid, .slice IA ni ci, .slice OA no co, .slice SA ns cs2] 100))) := HAb.out.below ((Below.refl _ _).alloc (Nat.le_refl _) _)
      go_upto_region 5 with (fail)
      clear r0 r1 r2 r3 hkb HAb
      generalize wb.alloc (.cells #[.int .i64 rid, .slice IA ni ci, .slice OA no co, .slice SA ns cs2] 100) = wc at *
      generalize wb.heap.size = g12 at *
      have hne12 : g12 ≠ gs := by obtain ⟨J, hJ, h3⟩ := hkc.out; exact bl_inj H12.out h3.src (by decide)
      go_wp2_with fail
      refine (EsW.nx HN.out (by decide) (by decide) hkc.out).mono ?_
      rintro e wd ⟨vd, rfl, hvd, hod, hkd'⟩
      have hkd := Lib.hid hkd'
      have H12d : Hid (Bl wd g12 100 #[.int .i64 rid, .slice IA ni ci, .slice OA no co, .slice SA ns cs2]) := (hod.block g12 hne12).trans H12.out
      have HAd : Hid (AgN w1.heap.size wa wd) := HAc.out.only hod hgl
      clear hod hkd' H12 HAc hkc
      go_wp2_with fail
      refine (EsW.any hkd.out _).mono ?_
      rintro e we ⟨id1, rfl, ⟨z, rfl⟩, hke'⟩
      have hkf : Hid (EsW w0 gx gs LA m lc (nextI m I) A n c bs B k d cs free ((wd.drewN z).alloc (.cells #[.int .i64 id1] 3))) := EsW.alloc hke' _
      have H12f : Hid (Bl ((wd.drewN z).alloc (.cells #[.int .i64 id1] 3)) g12 100 #[.int .i64 rid, .slice IA ni ci, .slice OA no co, .slice SA ns cs2]) := Bl.alloc (w := wd.drewN z) H12d.out _
      have HAf : Hid (AgN w1.heap.size wa ((wd.drewN z).alloc (.cells #[.int .i64 id1] 3))) := HAd.out.below ((below_drewN (Below.refl _ _) z).alloc (Nat.le_refl _) _)
      have HBI : Hid (Bl ((wd.drewN z).alloc (.cells #[.int .i64 id1] 3)) wd.heap.size 3 #[.int .i64 id1]) := Bl.new _ _ _
      have hgi : w0.heap.size ≤ wd.heap.size := by obtain ⟨J, hJ, h3⟩ := hke'; exact h3.below.size
      have hga : wa.heap.size ≤ wd.heap.size := HAd.out.size
      go_upto_region 6 with (fail)
      clear hke' H12d HAd hkd
      generalize (wd.drewN z).alloc (.cells #[.int .i64 id1] 3) = wf at *
      generalize wd.heap.size = gi at *
      have c1 : wf.cell? ⟨g12, 1, none⟩ = some (.slice IA ni ci) := H12f.out.cell 1
      go_upto_if 36 with (fail)
      go_cut [13] (fun v wx => ∃ (P : Option Addr) (mm pc : Nat) (xs2 : List Int), v = .slice P mm pc ∧ Hid (Ints wx P mm xs2) ∧ 1 ≤ mm ∧ mm ≤ 2 ∧ mm ≤ pc ∧ pc ≤ 9223372036854775807 ∧ Hid (Bl wx g12 100 #[.int .i64 rid, .slice IA ni ci, .slice OA no co, .slice SA ns cs2]) ∧ Hid (AgN w1.heap.size wa wx) ∧ Hid (EsW w0 gx gs LA m lc (nextI m I) A n c bs B k d cs free wx))
      case first =>
        by_cases g1 : ni > 1
        case neg =>
          have d1 : decide ((ni : Int) > 1) = false := by simp; omega
          have d2 : decide (1 < ni) = false := by simp; omega
          go_wp2_with fail
          go_meet
          exact ⟨_, 1, 1, [id1], rfl, ints_lit (cs := [id1]) HBI.out, by decide, by decide, by decide, by decide, H12f.out, HAf.out, hkf.out⟩
        case pos =>
          have d1 : decide ((ni : Int) > 1) = true := by simp; omega
          have d2 : decide (1 < ni) = true := by simp; omega
          go_wp2_with fail
          clear c1
          refine (EsW.nx HN.out (by decide) (by decide) hkf.out).mono ?_
          rintro e wh ⟨vh, rfl, hvh, hoh, hkh'⟩
          have hkh := Lib.hid hkh'
          have hnei : gi ≠ gs := by obtain ⟨J, hJ, h3⟩ := hkf.out; exact bl_inj HBI.out h3.src (by decide)
          have H12h : Hid (Bl wh g12 100 #[.int .i64 rid, .slice IA ni ci, .slice OA no co, .slice SA ns cs2]) := (hoh.block g12 hne12).trans H12f.out
          have HBIh : Hid (Bl wh gi 3 #[.int .i64 id1]) := (hoh.block gi hnei).trans HBI.out
          have HAh : Hid (AgN w1.heap.size wa wh) := HAf.out.only hoh hgl
          clear hoh hkh'
          go_wp2_with fail
          refine (EsW.any hkh.out _).mono ?_
          rintro e wi ⟨id2, rfl, ⟨z2, rfl⟩, hki'⟩
          have HBJ : Hid (Bl ((wh.drewN z2).alloc (.cells #[.int .i64 id2] 3)) gi 3 #[.int .i64 id1]) := Bl.alloc (w := wh.drewN z2) HBIh.out _
          have HOJ : Hid (((wh.drewN z2).alloc (.cells #[.int .i64 id2] 3)).ownsRow gi 3 1 (.slice (some ⟨gi, 0, none⟩) 1 1) 1 [.int .i64 id1]) := own_lit29 HBJ.out (Nat.le_refl _) rfl (by decide)
          have H12j : Hid (Bl ((wh.drewN z2).alloc (.cells #[.int .i64 id2] 3)) g12 100 #[.int .i64 rid, .slice IA ni ci, .slice OA no co, .slice SA ns cs2]) := Bl.alloc (w := wh.drewN z2) H12h.out _
          have HAj : Hid (AgN w1.heap.size wa ((wh.drewN z2).alloc (.cells #[.int .i64 id2] 3))) := HAh.out.below ((below_drewN (Below.refl _ _) z2).alloc (Nat.le_refl _) _)
          have hkj : Hid (EsW w0 gx gs LA m lc (nextI m I) A n c bs B k d cs free ((wh.drewN z2).alloc (.cells #[.int .i64 id2] 3))) := EsW.alloc hki' _
          have HRD : Hid (Rd ((wh.drewN z2).alloc (.cells #[.int .i64 id2] 3)) 1 (some ⟨wh.heap.size, 0, none⟩) 1 [.int .i64 id2]) := rd_bl (xs := [.int .i64 id2]) (Bl.new _ _ _) rfl
          have HON : Hid (∀ u ∈ ([.int .i64 id2] : List Value), u.oneCell' = true) := fun u hu => by rw [List.mem_singleton] at hu; subst hu; rfl
          have HSZ : Hid (gi ≤ ((wh.drewN z2).alloc (.cells #[.int .i64 id2] 3)).heap.size) := Nat.le_of_lt HBJ.out.lt
          have HM1 : Hid ((1 + 1 : Nat) ≤ maxLen ∧ (1 + 1) * 8 ≤ 140737488355328) := ⟨by unfold maxLen; omega, by omega⟩
          go_wp2_with (at_builtin; refine wpList_append_rd _ rfl (.tmp 37) (.tmp 42) 22 rfl gi 3 _ 1 8 Tryz.underlying22 infoI rfl (by decide) (.slice (some ⟨gi, 0, none⟩) 1 1) 1 [.int .i64 id1] rfl HOJ.out (some ⟨wh.heap.size, 0, none⟩) 1 _ [.int .i64 id2] rfl HRD.out HON.out HM1.out.1 HM1.out.2 HSZ.out ?_; intro v9 w9 ho9 hg9 hv9; obtain ⟨B9, d9, rfl⟩ := own_slice ho9)
          go_meet
          have hi9 : Ints w9 B9 2 [id1, id2] := IntsK.of_own (xs := [id1, id2]) ho9
          have hcap := own_boundsF ho9
          refine ⟨B9, 2, d9, [id1, id2], rfl, hi9, by decide, by decide, hcap.1, hcap.2, (hg9.block g12 H12j.out.lt (fun e => own_far29 HOJ.out H12j.out (by decide) e.symm)).trans H12j.out, ⟨Nat.le_trans HAj.out.size hg9.size, fun kk h1 h2 => (hg9.block kk (Nat.lt_of_lt_of_le h2 HAj.out.size) (fun e => by simp [Value.ownBlock] at e; omega)).trans (HAj.out.block kk h1 h2)⟩, EsW.grown hkj.out HOJ.out hgi hg9⟩
      case rest =>
        obtain ⟨P, mm, pc, xs2, rfl, HI2, hm1, hm2, hpc, hpc2, H12g, HAg, hkg⟩ := hcut
        clear hkf H12f HAf HBI c1
        obtain ⟨wg, rfl⟩ : ∃ wg, wg = wc := ⟨_, rfl⟩
        obtain ⟨J, hJ, hP⟩ := hkg.out
        have HP := Lib.hid hP
        have hbl : bs.length = n := hP.st.len
        have hn64 : n ≤ 64 := by have := hP.ok.few; omega
        clear hP
        obtain ⟨b2, o2, id0, rfl, hb2, hc, HZI⟩ := HI2.out.get (show 0 < mm by omega)
        have hc0 : wg.cell? ⟨b2, o2, none⟩ = some (.int .i64 id0) := by simpa using hc
        obtain ⟨va, hva, hdet⟩ := At_det n bs id0 HP.out.ok.pair hbl (by omega)
        have HAT : Hid (∀ q, Calls Tryz.prog 51 #[.slice A n c, .int .i64 id0] (wg.drewN q) fun e w' => e = .returned (.int .i64 va) ∧ w' = wg.drewN q) := fun q => hdet A c (wg.drewN q) (HP.out.st.st.lots.recs.below (below_drewN (Below.refl _ _) q))
        have z0 := (EsW.s hkg.out).1
        have hmi : (0 : Int) < (mm : Int) := by omega
        clear hdet hc
        go_upto_region 8 with (fail)
        go_quiet ((go_at_call 51; exact Calls.quiet_of_same (HAT.out _)))
        have hkq : Hid (EsW w0 gx gs LA m lc (nextI m I) A n c bs B k d cs free (wg.drewN nq)) := hkg.out.under (below_drewN (Below.refl _ _) nq)
        have H12q : Hid (Bl (wg.drewN nq) g12 100 #[.int .i64 rid, .slice IA ni ci, .slice OA no co, .slice SA ns cs2]) := H12g.out
        have HAq : Hid (AgN w1.heap.size wa (wg.drewN nq)) := HAg.out.below (below_drewN (Below.refl _ _) nq)
        have HIq : Hid (Ints (wg.drewN nq) (some ⟨b2, o2, none⟩) mm xs2) := HI2.out.drewN nq
        clear z0 hc0 hkg H12g HAg HI2 HAT HP hmi hb2
        generalize wg.drewN nq = wq at *
        go_wp2_with fail
        have HOC : Hid (no ≤ 2) := hno.2
        go_loopw [15, 16] (fun ov v wx => ∃ (j : Nat) (O : Option Addr) (oc : Nat), v = .int .i64 (j : Int) ∧ ov = .slice O j oc ∧ j ≤ no ∧ Hid (wx.ownsRow wq.heap.size 3 1 (.slice O j oc) j ((outL free j).map (Value.int .i64))) ∧ Hid (RowKit.Below wq.heap.size wq wx)) (fun _ v _ => no - (intOf v).toNat)
        case atStart => exact ⟨0, none, 0, rfl, rfl, Nat.zero_le _, ⟨by simp [outL], .inl ⟨rfl, rfl⟩⟩, Below.refl _ _⟩
        case round =>
          obtain ⟨j, O, oc, rfl, rfl, hj, HO, HBq⟩ := hrel
          have c2 : wr.cell? ⟨g12, 2, none⟩ = some (.slice OA no co) := (show Bl wr g12 100 #[.int .i64 rid, .slice IA ni ci, .slice OA no co, .slice SA ns cs2] from (HBq.out.block g12 H12q.out.lt).trans H12q.out).cell 2
          by_cases hlt : j < no
          case pos =>
            have dk : decide ((j : Int) < (no : Int)) = true := by simp; omega
            have z2 := (EsW.s (hkq.out.under HBq.out)).2.1
            have hfp := HES.out.ok.pos
            have u1 : IntKind.i64.wrap (free + (j : Int)) = free + (j : Int) := IntWalk.i64_in _ (by omega)
            have HOA : Hid ((wr.alloc (.cells #[.int .i64 (free + (j : Int))] 3)).ownsRow wq.heap.size 3 1 (.slice O j oc) j ((outL free j).map (Value.int .i64))) := own_alloc HO.out _
            have HBA : Hid (RowKit.Below wq.heap.size wq (wr.alloc (.cells #[.int .i64 (free + (j : Int))] 3))) := HBq.out.alloc HBq.out.size _
            have HRD : Hid (Rd (wr.alloc (.cells #[.int .i64 (free + (j : Int))] 3)) 1 (some ⟨wr.heap.size, 0, none⟩) 1 [.int .i64 (free + (j : Int))]) := rd_bl (xs := [.int .i64 (free + (j : Int))]) (Bl.new _ _ _) rfl
            have HON : Hid (∀ u ∈ ([.int .i64 (free + (j : Int))] : List Value), u.oneCell' = true) := fun u hu => by rw [List.mem_singleton] at hu; subst hu; rfl
            have HM1 : Hid (j + 1 ≤ maxLen ∧ (j + 1) * 8 ≤ 140737488355328) := ⟨by unfold maxLen; omega, by omega⟩
            go_wp2_with (at_builtin; refine wpList_append_rd _ rfl (.tmp 59) (.tmp 66) 22 rfl wq.heap.size 3 _ 1 8 Tryz.underlying22 infoI rfl (by decide) (.slice O j oc) j _ rfl HOA.out (some ⟨wr.heap.size, 0, none⟩) 1 _ [.int .i64 (free + (j : Int))] rfl HRD.out HON.out HM1.out.1 HM1.out.2 HBA.out.size ?_; intro v9 w9 ho9 hg9 hv9; obtain ⟨B9, d9, rfl⟩ := own_slice ho9)
            have hb9 : RowKit.Below wq.heap.size wq w9 := HBA.out.grown hg9 HBA.out.size (fun j hj => own_base HOA.out j hj)
            have ho9' : w9.ownsRow wq.heap.size 3 1 (.slice B9 (j + 1) d9) (j + 1) ((outL free (j + 1)).map (Value.int .i64)) := by rw [outL_succ, List.map_append]; exact ho9
            go_roundw
            case rel => exact ⟨j + 1, B9, d9, by go_num, rfl, by omega, ho9', hb9⟩
            case measure => simp [intOf]; omega
          case neg =>
          have dk : decide ((j : Int) < (no : Int)) = false := by simp; omega
          obtain rfl : no = j := by omega
          have hkr : Hid (EsW w0 gx gs LA m lc (nextI m I) A n c bs B k d cs free wr) := hkq.out.under HBq.out
          have H12r : Hid (Bl wr g12 100 #[.int .i64 rid, .slice IA ni ci, .slice OA no co, .slice SA ns cs2]) := (HBq.out.block g12 H12q.out.lt).trans H12q.out
          have HFR : Hid (RcAt wr IA ni ci ins OA no co outs SA ns cs2 sc) := (HFX.out wr (HAq.out.below HBq.out)).2.2.2.2
          have HIr : Hid (Ints wr (some ⟨b2, o2, none⟩) mm xs2) := HIq.out.below HBq.out
          have HOR : Hid (Ints wr O no (outL free no)) := IntsK.of_own HO.out
          have hcap := own_boundsF HO.out
          clear HO HBq hkq H12q HAq HIq
          obtain ⟨J, hJ, hP⟩ := hkr.out
          have HP := Lib.hid hP
          clear hP
          rcases hva with rfl | ⟨ix, hi, rfl⟩
          · go_wp2_with fail
            go_meet
            exact ActM.no HP.out hJ (by decide) (by decide) (by decide)
          have dge : decide ((ix : Int) ≥ 0) = true := by simp
          obtain ⟨b1, o1, rfl, hb1, ha⟩ := recs_at HP.out.st.st.lots.recs hi
          have y2 : wr.cell? ⟨b1, o1 + ix * 5 + 2, none⟩ = some (.int .i64 bs[ix]!.x.qty) := ha.out 2 (by omega)
          generalize bs[ix]!.x.qty = qy at y2
          obtain ⟨b3, o3, rfl, hb3, hd⟩ := recs_at HFR.out.ins (show 0 < ni by omega)
          obtain ⟨x, hx⟩ : ∃ x, ins[0]! = x := ⟨_, rfl⟩
          rw [hx] at hd
          have q1 : wr.cell? ⟨b3, o3 + 1, none⟩ = some (.int .i64 x.qty) := by have := hd.out 1 (by omega); simpa [encNd] using this
          have hxq := (HRK.out.ins x (by rw [← hx, getElem!_pos ins 0 (by have := HFR.out.ins.1; omega)]; exact List.getElem_mem _)).2
          have dq : (x.qty == 0) = false := by simp; omega
          have hii : (ix : Int) < (n : Int) := by omega
          have hiz : (0 : Int) ≤ (ix : Int) := by omega
          have hin : (0 : Int) < (ni : Int) := by omega
          have hin2 : 0 < ni := by omega
          have z0 := (EsW.s hkr.out).1
          have e0 := H12r.out.cell 0
          have e1 := H12r.out.cell 1
          have e2 := H12r.out.cell 2
          have e3 := H12r.out.cell 3
          clear ha hd hx
          have lx : gx < wr.heap.size := HP.out.bx.lt
          have l12 : g12 < wr.heap.size := H12r.out.lt
          have HS : Hid (∀ wx, RowKit.Below wr.heap.size wr wx → wx.cell? ⟨gx, 0, none⟩ = some (.slice (some ⟨b1, o1, none⟩) n c) ∧ wx.cell? ⟨g12, 0, none⟩ = some (.int .i64 rid) ∧ wx.cell? ⟨g12, 1, none⟩ = some (.slice (some ⟨b3, o3, none⟩) ni ci) ∧ wx.cell? ⟨g12, 2, none⟩ = some (.slice OA no co) ∧ wx.cell? ⟨g12, 3, none⟩ = some (.slice SA ns cs2) ∧ wx.cell? ⟨b1, o1 + ix * 5 + 2, none⟩ = some (.int .i64 qy) ∧ wx.cell? ⟨b3, o3 + 1, none⟩ = some (.int .i64 x.qty)) := fun wx hx => ⟨(hx.cell (p := ⟨gx, 0, none⟩) lx).trans z0, (hx.cell (p := ⟨g12, 0, none⟩) l12).trans e0, (hx.cell (p := ⟨g12, 1, none⟩) l12).trans e1, (hx.cell (p := ⟨g12, 2, none⟩) l12).trans e2, (hx.cell (p := ⟨g12, 3, none⟩) l12).trans e3, (hx.cell (p := ⟨b1, o1 + ix * 5 + 2, none⟩) hb1).trans y2, (hx.cell (p := ⟨b3, o3 + 1, none⟩) hb3).trans q1⟩
          have hb0 : Hid (RowKit.Below wr.heap.size wr wr.drew) := (Below.refl _ _).drew
          have hb00 : Hid (RowKit.Below wr.heap.size wr wr) := Below.refl _ _
          have hkr0 := Lib.hid (hkr.out.under hb0.out)
          have HFR0 := Lib.hid (HFR.out.below hb0.out)
          have HIr0 := Lib.hid (HIr.out.below hb0.out)
          have HOR0 := Lib.hid (HOR.out.below hb0.out)
          have HMM : Hid (mm ≤ 2 ∧ mm ≤ pc ∧ pc ≤ 9223372036854775807) := ⟨hm2, hpc, hpc2⟩
          have HCP := Lib.hid hcap
          have dq2 : ¬ x.qty = 0 := by omega
          go_upto_region 15 with (fail)
          go_region_held3 (fun wx => wx.cell? ⟨gx, 0, none⟩ = some (.slice (some ⟨b1, o1, none⟩) n c) ∧ wx.cell? ⟨g12, 0, none⟩ = some (.int .i64 rid) ∧ wx.cell? ⟨g12, 1, none⟩ = some (.slice (some ⟨b3, o3, none⟩) ni ci) ∧ wx.cell? ⟨g12, 2, none⟩ = some (.slice OA no co) ∧ wx.cell? ⟨g12, 3, none⟩ = some (.slice SA ns cs2) ∧ wx.cell? ⟨b1, o1 + ix * 5 + 2, none⟩ = some (.int .i64 qy) ∧ wx.cell? ⟨b3, o3 + 1, none⟩ = some (.int .i64 x.qty))
            (first
              | with_reducible exact HS.out _ hbp.out
              | with_reducible exact HS.out _ hb0.out
              | with_reducible exact HS.out _ hb00.out)
            (first
              | (go_at_call 55; (refine (EsW.process hkr0.out HFR0.out HRK.out _ HIr0.out HMM.out HOR0.out HCP.out).mono ?_); rintro e wp ⟨B2, d2, er, bs2, rfl, hr, hbp'⟩; have HR := Lib.hid hr; have hbp : Hid (RowKit.Below wr.heap.size wr wp) := hb0.out.trans hbp'))
          all_goals
            have HP2 := Lib.hid (HP.out.under hbp.out)
            have HU : Hid ((no : Int) ≤ 2) := by show _ ≤ _; omega
            go_wp2_with fail
            go_meet
            exact ActM.yes HP2.out hJ (by omega) HU.out HR.out
end Go.Proofs.YthnhgjhnkncmiaaGreat

namespace Go.Proofs.YthnhgjhnkncmiaaGreat
open Go.RowKit
set_option linter.unusedVariables false

theorem Act_any (w0 w : World) (gx gs : Nat) (LA : Option Addr) (m lc I : Nat) (xs : List Int) (A : Option Addr) (n c : Nat) (bs : List Lb) (B : Option Addr) (k d : Nat) (cs : List Ch) (free : Int) (h : EsM w0 w gx gs LA m lc I A n c bs B k d cs free) (hI : Ints w0 LA m xs) (hm : m ≤ 1000000) (hf : free ≤ 100000) (hk : k ≤ 1000) :
    Calls Tryz.prog 25 #[.pointer (some ⟨gx, 0, none⟩), .pointer (some ⟨gs, 0, none⟩)] w fun e w' => e = .returned (.tuple #[]) ∧ ActS w0 gx gs LA m lc I k free w' := by
  have hb := nextV_bounds xs m I 8 (by decide)
  have hv : nextV xs m I 8 = 0 ∨ nextV xs m I 8 = 1 ∨ nextV xs m I 8 = 2 ∨ nextV xs m I 8 = 3 ∨ nextV xs m I 8 = 4 ∨ nextV xs m I 8 = 5 ∨ nextV xs m I 8 = 6 ∨ nextV xs m I 8 = 7 := by omega
  rcases hv with e | e | e | e | e | e | e | e
  · exact Act_v0 w0 w gx gs LA m lc I xs A n c bs B k d cs free h hI e hm hf hk
  · exact Act_v1 w0 w gx gs LA m lc I xs A n c bs B k d cs free h hI e hm hf hk
  · exact Act_v2 w0 w gx gs LA m lc I xs A n c bs B k d cs free h hI e hm hf hk
  · exact Act_v3 w0 w gx gs LA m lc I xs A n c bs B k d cs free h hI e hm hf hk
  · exact Act_v4 w0 w gx gs LA m lc I xs A n c bs B k d cs free h hI e hm hf hk
  · exact Act_v5 w0 w gx gs LA m lc I xs A n c bs B k d cs free h hI e hm hf hk
  · exact Act_v6 w0 w gx gs LA m lc I xs A n c bs B k d cs free h hI e hm hf hk
  · exact Act_v7 w0 w gx gs LA m lc I xs A n c bs B k d cs free h hI e hm hf hk
end Go.Proofs.YthnhgjhnkncmiaaGreat

namespace Go.Proofs.YthnhgjhnkncmiaaGreat
open Go.RowKit
set_option linter.unusedVariables false

/-- A sound estate that was made. -/
structure Made (w w' : World) (A : Option Addr) (n c : Nat) (bs : List Lb) (B : Option Addr) (k d : Nat) (cs : List Ch) (free : Int) : Prop where
  st : StM w' A n c bs
  own : w'.ownsRow w.heap.size 61 3 (.slice B k d) k (flat encCh cs)
  kl : cs.length = k
  few : k ≤ 64
  ok : EstOk (lotsOf bs) cs free
  free : free ≤ 1000001
def MakeRes (w : World) (e : Ending) (w' : World) : Prop := ∃ (A : Option Addr) (n c : Nat) (bs : List Lb) (B : Option Addr) (k d : Nat) (cs : List Ch) (free : Int), e = .returned (.agg #[.slice A n c, .slice B k d, .int .i64 free]) ∧ Made w w' A n c bs B k d cs free ∧ RowKit.Below w.heap.size w w'
theorem Made.of {w wz w2 : World} {gx gs : Nat} {LA : Option Addr} {m lc J : Nat} {A : Option Addr} {n c : Nat} {bs : List Lb} {B : Option Addr} {k d : Nat} {cs : List Ch} {free : Int} (h : EsM wz w2 gx gs LA m lc J A n c bs B k d cs free) (hb : RowKit.Below w.heap.size w wz) {ds : Array Value} (hr : Bl w2 w.heap.size 26 ds) (hk : k ≤ 64) (hf : free ≤ 1000001) :
    MakeRes w (.returned (.agg #[.slice A n c, .slice B k d, .int .i64 free])) (((w2.setCell ⟨w.heap.size, 0, none⟩ (.slice A n c)).setCell ⟨w.heap.size, 1, none⟩ (.slice B k d)).setCell ⟨w.heap.size, 2, none⟩ (.int .i64 free)) := by
  have hkp : Kp w.heap.size w2 (((w2.setCell ⟨w.heap.size, 0, none⟩ (.slice A n c)).setCell ⟨w.heap.size, 1, none⟩ (.slice B k d)).setCell ⟨w.heap.size, 2, none⟩ (.int .i64 free)) := (((Kp.refl _ w2).put 0 _).put 1 _).put 2 _
  have hbw : RowKit.Below w.heap.size w w2 := hb.trans (h.below.mono hb.size)
  exact ⟨A, n, c, bs, B, k, d, cs, free, rfl, ⟨h.st.keeps (Keeps.kp hkp hr (by decide) (by decide)), own_of_block (own_mono h.own hb.size) fun g hg => hkp.block g (own_lt h.own g hg) (fun e => own_far29 h.own hr (by decide) (hg.trans (congrArg some e))), h.kl, hk, h.ok, hf⟩, hkp.under hbw hbw.size (Nat.le_refl _)⟩
set_option maxRecDepth 100000 in
set_option maxHeartbeats 16000000 in
theorem Make_any (A : Option Addr) (n c : Nat) (xs : List Int) (w : World) (h : Ints w A n xs) (hnc : n ≤ c) (hcm : c ≤ 9223372036854775807) :
    Calls Tryz.prog 7 #[.slice A n c] w (MakeRes w) := by
  have hT := h.take (m := min n 120) (by omega)
  have HI := Lib.hid h
  obtain ⟨m, hm⟩ : ∃ m, m = min n 120 := ⟨_, rfl⟩
  have HC : Hid (∀ wx, RowKit.Below w.heap.size w wx → Calls Tryz.prog 8 #[.slice A n c, .int .i64 120] wx fun e w' => e = .returned (.slice A m c) ∧ wx = w') := fun wx hb => by
    rw [hm]
    exact cut_any A n c 120 xs wx (h.below hb) hnc hcm (by omega) (by omega)
  rw [← hm] at hT
  have HT := Lib.hid hT
  have hm1 : m ≤ 120 := by omega
  clear hm hT h
  have hbz : RowKit.Below w.heap.size w (w.alloc (.cells #[.slice none 0 0, .slice none 0 0, .int .i64 0] 26)) := (Below.refl _ _).alloc (Nat.le_refl _) _
  have hres : Bl (w.alloc (.cells #[.slice none 0 0, .slice none 0 0, .int .i64 0] 26)) w.heap.size 26 #[.slice none 0 0, .slice none 0 0, .int .i64 0] := Bl.new _ _ _
  have HBZ := Lib.hid hbz
  have HRS := Lib.hid hres
  clear hbz hres
  go_enter Tryz.func7, Tryz.ntmps7
  go_upto_region 1 with (fail)
  generalize w.alloc (.cells #[.slice none 0 0, .slice none 0 0, .int .i64 0] 26) = wz at *
  go_wp2_with fail
  refine (HC.out wz HBZ.out).mono ?_
  rintro e w1 ⟨rfl, rfl⟩
  go_upto_region 3 with (fail)
  have HW0 : Hid (RowKit.Below wz.heap.size wz ((wz.alloc (.cells #[.slice A m c, .int .i64 0] 31)).alloc (.cells #[.slice none 0 0, .slice none 0 0, .int .i64 1] 26))) := ((Below.refl _ _).alloc (Nat.le_refl _) _).alloc (by simp) _
  have HSR : Hid (Src ((wz.alloc (.cells #[.slice A m c, .int .i64 0] 31)).alloc (.cells #[.slice none 0 0, .slice none 0 0, .int .i64 1] 26)) wz.heap.size A m c 0) := Bl.alloc (Bl.new wz _ _) _
  have HBX : Hid (Bl ((wz.alloc (.cells #[.slice A m c, .int .i64 0] 31)).alloc (.cells #[.slice none 0 0, .slice none 0 0, .int .i64 1] 26)) (wz.heap.size + 1) 26 #[.slice none 0 0, .slice none 0 0, .int .i64 1]) := by
    have := Bl.new (wz.alloc (.cells #[.slice A m c, .int .i64 0] 31)) 26 #[.slice none 0 0, .slice none 0 0, .int .i64 1]
    have e : (wz.alloc (.cells #[.slice A m c, .int .i64 0] 31)).heap.size = wz.heap.size + 1 := by simp
    rw [e] at this
    exact this
  have hb1 : w.heap.size ≤ wz.heap.size := HBZ.out.size
  have HTZ : Hid (Ints wz A m (xs.take m)) := HT.out.below HBZ.out
  clear HC HT
  generalize (wz.alloc (.cells #[.slice A m c, .int .i64 0] 31)).alloc (.cells #[.slice none 0 0, .slice none 0 0, .int .i64 1] 26) = W0 at *
  have hs2 : wz.heap.size ≤ wz.heap.size + 1 := by omega
  obtain ⟨gx, hgx⟩ : ∃ gx, wz.heap.size + 1 = gx := ⟨_, rfl⟩
  obtain ⟨gs, hgs⟩ : ∃ gs, wz.heap.size = gs := ⟨_, rfl⟩
  rw [hgx] at HBX hs2 ⊢
  rw [hgs] at HSR ⊢
  have hs3 : wz.heap.size ≤ gs := Nat.le_of_eq hgs
  clear hgs hgx
  have HES0 : Hid (EsM wz W0 gx gs A m c 0 none 0 0 [] none 0 0 [] 1) := ⟨HBX.out, HSR.out, Nat.zero_le _, StM.empty _, ⟨by simp [flat], .inl ⟨rfl, rfl⟩⟩, rfl, estOk_start, HW0.out, hs2, hs3⟩
  go_loopw [10] (fun _ wx => ∃ (I : Nat) (SA : Option Addr) (sn sc : Nat) (bs : List Lb) (B : Option Addr) (k d : Nat) (cs : List Ch) (free : Int), Hid (EsM wz wx gx gs A m c I SA sn sc bs B k d cs free) ∧ free ≤ 1 + 2 * (I : Int) ∧ (2 * k ≤ I ∨ I = m ∧ 2 * k ≤ m + 1)) (fun _ wx => m - srcI wx gs)
  case atStart => exact ⟨0, none, 0, 0, [], none, 0, 0, [], 1, HES0.out, by omega, .inl (by omega)⟩
  case round =>
    obtain ⟨I, SA, sn, sc, bs, B, k, d, cs, free, HES, hf, hk⟩ := hrel
    have hI := HES.out.jm
    have hkm : k ≤ 60 := by omega
    have c0 : wr.cell? ⟨gx, 0, none⟩ = some (.slice SA sn sc) := HES.out.bx.cell 0
    have hL := left_any gs A m c I wr HES.out.src (by omega)
    have HL := Lib.hid hL
    have HSI : Hid (srcI wr gs = I) := Src.at_ HES.out.src
    clear hL
    by_cases hlt : I < m
    case pos =>
      have d1 : decide (I < m) = true := decide_eq_true hlt
      by_cases h24 : sn < 24
      case pos =>
        have d2 : decide ((sn : Int) < 24) = true := by simp; omega
        have d3 : decide (sn < 24) = true := decide_eq_true h24
        go_wp2_with fail
        refine HL.out.mono ?_
        rintro e w1 ⟨rfl, q, rfl⟩
        rw [d1]
        have HES1 : Hid (EsM wz (wr.drewN q) gx gs A m c I SA sn sc bs B k d cs free) := HES.out.under (below_drewN (Below.refl _ _) q)
        have c0 : (wr.drewN q).cell? ⟨gx, 0, none⟩ = some (.slice SA sn sc) := c0
        go_wp2_with fail
        refine (Act_any wz (wr.drewN q) gx gs A m c I (xs.take m) SA sn sc bs B k d cs free HES1.out HTZ.out (by omega) (by omega) (by omega)).mono ?_
        rintro e w2 ⟨rfl, J, SA2, sn2, sc2, bs2, B2, k2, d2', cs2, free2, hes2, hJ, hf1, hf2, hk2⟩
        have hn1 := nextI_lt m I hlt
        have hJm := hes2.jm
        have hsj : srcI w2 gs = J := Src.at_ hes2.src
        have hkk : 2 * k2 ≤ J ∨ J = m ∧ 2 * k2 ≤ m + 1 := by
          rcases hk2 with e | ⟨e, hJ2⟩
          · subst e; omega
          · subst e
            rw [hn1] at hJ2
            unfold nextI at hJ2
            split at hJ2 <;> omega
        go_wp2_with fail
        go_roundw
        case rel => exact ⟨J, SA2, sn2, sc2, bs2, B2, k2, d2', cs2, free2, hes2, by omega, hkk⟩
        case measure => rw [hsj, HSI.out]; omega
      case neg =>
      have d2 : decide ((sn : Int) < 24) = false := by simp; omega
      have d3 : decide (sn < 24) = false := decide_eq_false h24
      go_wp2_with fail
      refine HL.out.mono ?_
      rintro e w1 ⟨rfl, q, rfl⟩
      rw [d1]
      have HES2 : Hid (EsM wz (wr.drewN q) gx gs A m c I SA sn sc bs B k d cs free) := HES.out.under (below_drewN (Below.refl _ _) q)
      have c0 : (wr.drewN q).cell? ⟨gx, 0, none⟩ = some (.slice SA sn sc) := c0
      have c1 : (wr.drewN q).cell? ⟨gx, 1, none⟩ = some (.slice B k d) := HES2.out.bx.cell 1
      have c2 : (wr.drewN q).cell? ⟨gx, 2, none⟩ = some (.int .i64 free) := HES2.out.bx.cell 2
      have HR2 : Hid (Bl (wr.drewN q) w.heap.size 26 #[.slice none 0 0, .slice none 0 0, .int .i64 0]) := (HES2.out.below.block w.heap.size HRS.out.lt).trans HRS.out
      clear HES HSI HL
      generalize wr.drewN q = W2 at *
      have r0 : W2.cell? ⟨w.heap.size, 0, none⟩ = some (.slice none 0 0) := HR2.out.cell 0
      have r1 : W2.cell? ⟨w.heap.size, 1, none⟩ = some (.slice none 0 0) := HR2.out.cell 1
      have r2 : W2.cell? ⟨w.heap.size, 2, none⟩ = some (.int .i64 0) := HR2.out.cell 2
      have f0 : W2.frozen? ⟨w.heap.size, 0, none⟩ = false := HR2.out.free 0
      have f1 : W2.frozen? ⟨w.heap.size, 1, none⟩ = false := HR2.out.free 1
      have f2 : W2.frozen? ⟨w.heap.size, 2, none⟩ = false := HR2.out.free 2
      go_wp2
      refine bodyPost_ret (v := .agg #[.slice SA sn sc, .slice B k d, .int .i64 free]) (by simp [results, Tryz.results7, go_sem, r0, r1, r2]) rfl ?_
      exact Made.of HES2.out HBZ.out HR2.out (by omega) (by omega)
    case neg =>
    have d1 : decide (I < m) = false := decide_eq_false hlt
    go_wp2_with fail
    refine HL.out.mono ?_
    rintro e w1 ⟨rfl, q, rfl⟩
    rw [d1]
    have HES2 : Hid (EsM wz (wr.drewN q) gx gs A m c I SA sn sc bs B k d cs free) := HES.out.under (below_drewN (Below.refl _ _) q)
    have c0 : (wr.drewN q).cell? ⟨gx, 0, none⟩ = some (.slice SA sn sc) := c0
    have c1 : (wr.drewN q).cell? ⟨gx, 1, none⟩ = some (.slice B k d) := HES2.out.bx.cell 1
    have c2 : (wr.drewN q).cell? ⟨gx, 2, none⟩ = some (.int .i64 free) := HES2.out.bx.cell 2
    have HR2 : Hid (Bl (wr.drewN q) w.heap.size 26 #[.slice none 0 0, .slice none 0 0, .int .i64 0]) := (HES2.out.below.block w.heap.size HRS.out.lt).trans HRS.out
    clear HES HSI HL
    generalize wr.drewN q = W2 at *
    have r0 : W2.cell? ⟨w.heap.size, 0, none⟩ = some (.slice none 0 0) := HR2.out.cell 0
    have r1 : W2.cell? ⟨w.heap.size, 1, none⟩ = some (.slice none 0 0) := HR2.out.cell 1
    have r2 : W2.cell? ⟨w.heap.size, 2, none⟩ = some (.int .i64 0) := HR2.out.cell 2
    have f0 : W2.frozen? ⟨w.heap.size, 0, none⟩ = false := HR2.out.free 0
    have f1 : W2.frozen? ⟨w.heap.size, 1, none⟩ = false := HR2.out.free 1
    have f2 : W2.frozen? ⟨w.heap.size, 2, none⟩ = false := HR2.out.free 2
    go_wp2
    refine bodyPost_ret (v := .agg #[.slice SA sn sc, .slice B k d, .int .i64 free]) (by simp [results, Tryz.results7, go_sem, r0, r1, r2]) rfl ?_
    exact Made.of HES2.out HBZ.out HR2.out (by omega) (by omega)
end Go.Proofs.YthnhgjhnkncmiaaGreat

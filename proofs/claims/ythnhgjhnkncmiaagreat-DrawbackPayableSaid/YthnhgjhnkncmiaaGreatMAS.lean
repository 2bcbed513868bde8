/-
  An estate's Act, case by case (group b). No statement of the seat is proved here. Conditions: as for Act.
  An estate's Act, case by case (group c). No statement of the seat is proved here. Conditions: as for Act.
-/
import Derived.Test.YthnhgjhnkncmiaaGreatMAR
namespace Go.Proofs.YthnhgjhnkncmiaaGreat
open Go.RowKit
set_option linter.unusedVariables false
set_option maxRecDepth 100000 in
set_option maxHeartbeats 64000000 in
theorem Act_v2 (w0 w : World) (gx gs : Nat) (LA : Option Addr) (m lc I : Nat) (xs : List Int) (A : Option Addr) (n c : Nat) (bs : List Lb) (B : Option Addr) (k d : Nat) (cs : List Ch) (free : Int) (h : EsM w0 w gx gs LA m lc I A n c bs B k d cs free) (hI : Ints w0 LA m xs) (hv8 : nextV xs m I 8 = 2) (hm : m ≤ 1000000) (hf : free ≤ 100000) (hk : k ≤ 1000) :
    Calls Tryz.prog 25 #[.pointer (some ⟨gx, 0, none⟩), .pointer (some ⟨gs, 0, none⟩)] w fun e w' => e = .returned (.tuple #[]) ∧ ActS w0 gx gs LA m lc I k free w' := by
  have HES := Lib.hid h
  have HN : Hid (NextC w0 gs LA m lc) := fun q J wx hS hb h1 h2 =>
    (next_any gs LA m lc J xs q w0 wx hS hI hb h.base.2 hm h1 h2).mono fun e w' ⟨h3, h4, h5⟩ => ⟨_, h3, (nextV_bounds xs m J q h1).1, (nextV_bounds xs m J q h1).2, h4, h5⟩
  have HSM : Hid (∀ (J : Nat) (wx : World), Src wx gs LA m lc J → RowKit.Below w0.heap.size w0 wx → Calls Tryz.prog 37 #[.pointer (some ⟨gs, 0, none⟩), .int .i64 30, .int .i64 100000] wx (SmlRes wx gs LA m lc J 100000)) := fun J wx hS hb => small29_any gs LA m lc J xs 30 100000 w0 wx hS hI hb h.base.2 hm (by decide) (by decide) (by decide)
  have hc0 : w.cell? ⟨gx, 0, none⟩ = some (.slice A n c) := h.bx.cell 0
  clear h
  go_enter Tryz.func25, Tryz.ntmps25
  go_upto_region 3 with (fail)
  go_wp2_with fail
  refine (next_any gs LA m lc I xs 8 w0 w HES.out.src hI HES.out.below HES.out.base.2 hm (by decide) (by decide)).mono ?_
  rintro e w1 ⟨rfl, ho1, hs1⟩
  rw [hv8]
  go_upto_block 0 with fail
  have HE1 : Hid (EsM w0 w1 gx gs LA m lc (nextI m I) A n c bs B k d cs free) := HES.out.only ho1 hs1
  clear ho1 hs1 hc0
  go_cut [4, 5, 6] (fun nx er us wx => ActM w0 w gx gs LA m lc I A n c bs B k d cs free nx er us wx)
  case rest =>
    obtain ⟨J, A', n', c', bs', ev, u, B', k', d', cs', rfl, rfl, rfl, hu0, hu1, hJ0, hJ1, hbx, hsr, hown, hkl, hbw, hok, hbad⟩ := hcut
    have HBX := Lib.hid hbx
    have HSR := Lib.hid hsr
    have HOW := Lib.hid hown
    have HBW := Lib.hid hbw
    have HOK := Lib.hid hok
    have HBAD := Lib.hid hbad
    have hgg : gx ≠ gs := HE1.out.ne
    clear hbx hsr hown hbw hok hbad
    cases de : (ev == 0)
    case false =>
      have hne : ev ≠ 0 := by simpa using de
      have HNE := Lib.hid hne
      clear hne
      go_wp2
      go_end0
      obtain ⟨h1, h2, h3⟩ := HBAD.out HNE.out
      subst h2 h3
      exact ⟨rfl, J, A, n, c, bs, B', _, d', _, free, ⟨HBX.out, HSR.out, hJ1, h1, HOW.out, hkl, HES.out.ok, HBW.out, HES.out.base⟩, hJ0, by omega, by omega, .inl rfl⟩
    case true =>
      obtain rfl : ev = 0 := by simpa using de
      clear de
      obtain ⟨h1, h2, h3⟩ := HOK.out rfl
      have H1 := Lib.hid h1
      have H2 := Lib.hid h2
      have H3 := Lib.hid h3
      clear h1 h2 h3
      have c0 : wc.cell? ⟨gx, 0, none⟩ = some (.slice A n c) := HBX.out.cell 0
      have c2 : wc.cell? ⟨gx, 2, none⟩ = some (.int .i64 free) := HBX.out.cell 2
      have f0 : wc.frozen? ⟨gx, 0, none⟩ = false := HBX.out.free 0
      have f2 : wc.frozen? ⟨gx, 2, none⟩ = false := HBX.out.free 2
      have hfp := HES.out.ok.pos
      have u1 : IntKind.i64.wrap (free + u) = free + u := IntWalk.i64_in _ (by omega)
      have HX2 : Hid (Bl ((wc.setCell ⟨gx, 0, none⟩ (.slice A' n' c')).setCell ⟨gx, 2, none⟩ (.int .i64 (free + u))) gx 26 #[.slice A' n' c', .slice B' k' d', .int .i64 (free + u)]) := by
        show Bl _ _ _ _
        have := (HBX.out.put 0 (.slice A' n' c')).put 2 (.int .i64 (free + u))
        simpa using this
      have HKP : Hid (Kp gx wc ((wc.setCell ⟨gx, 0, none⟩ (.slice A' n' c')).setCell ⟨gx, 2, none⟩ (.int .i64 (free + u)))) := ((Kp.refl gx wc).put 0 _).put 2 _
      go_wp2
      go_end0
      refine ⟨rfl, J, A', n', c', bs', B', k', d', cs', free + u, ⟨HX2.out, HKP.out.bl HSR.out (fun e => hgg e.symm), hJ1, H1.out.keeps (Keeps.kp HKP.out HBX.out (by decide) (by decide)), own_of_block HOW.out fun g hg => HKP.out.block g (own_lt HOW.out g hg) (fun e => own_far29 HOW.out HBX.out (by decide) (hg.trans (congrArg some e))), hkl, H2.out, HKP.out.under HBW.out HBW.out.size HES.out.base.1, HES.out.base⟩, hJ0, by omega, by omega, H3.out⟩
  case first =>
    · go_upto_region 26 with (fail)
      have HEW : Hid (∀ wx, RelK gs (zEs LA m lc (nextI m I)) w1 wx → EsW w0 gx gs LA m lc (nextI m I) A n c bs B k d cs free wx) := fun wx hR => HE1.out.ofR hR
      have hst : RelK gs (zEs LA m lc (nextI m I)) w1 w1.drew := RelK.start HE1.out.src.lt ⟨_, Nat.le_refl _, HE1.out.jm, HE1.out.src⟩
      refine wp_region_rowsT (kt := Keeps) (gK := gs) (zz := zEs LA m lc (nextI m I)) [
        ⟨⟨some 142, [], []⟩, fun _ v => v = .pointer (some ⟨gx, 0, none⟩), NoRT⟩,
        ⟨⟨some 143, [0], []⟩, fun _ v => v = .pointer (some ⟨gx, 0, none⟩), NoRT⟩,
        ⟨⟨some 144, [1], []⟩, fun _ v => v = .pointer (some ⟨gx, 0, none⟩), NoRT⟩,
        ⟨⟨some 145, [2], []⟩, fun _ v => v = .slice A n c, NoRT⟩,
        ⟨⟨some 146, [], []⟩, fun _ v => v = .pointer (some ⟨gx, 0, none⟩), NoRT⟩,
        ⟨⟨some 147, [], []⟩, fun _ v => v = .pointer (some ⟨gs, 0, none⟩), NoRT⟩,
        ⟨⟨some 148, [5], []⟩, fun _ v => ∃ x : Nat, v = .int .i64 (x : Int) ∧ (x : Int) < 64, NoRT⟩,
        ⟨⟨some 149, [4, 6], []⟩, fun _ v => ∃ x : Int, v = .int .i64 x, NoRT⟩,
        ⟨⟨some 150, [], []⟩, NoFT, LitRT 3 #[.int .i64 6, .int .i64 8, .int .i64 5, .int .i64 7, .int .i64 11, .int .i64 12, .int .i64 9, .int .i64 10, .int .i64 14, .int .i64 2, .int .i64 3, .int .i64 13] 12⟩,
        ⟨⟨some 151, [], []⟩, fun _ v => v = .pointer (some ⟨gs, 0, none⟩), NoRT⟩,
        ⟨⟨some 152, [9], []⟩, fun _ v => ∃ x : Nat, v = .int .i64 (x : Int) ∧ (x : Int) < 12, NoRT⟩,
        ⟨⟨some 153, [8, 10], [8]⟩, NoFT, AdrRT 3 #[.int .i64 6, .int .i64 8, .int .i64 5, .int .i64 7, .int .i64 11, .int .i64 12, .int .i64 9, .int .i64 10, .int .i64 14, .int .i64 2, .int .i64 3, .int .i64 13] 12⟩,
        ⟨⟨some 154, [11], [11]⟩, fun _ v => ∃ x : Int, ActOk x ∧ v = .int .i64 x, NoRT⟩,
        ⟨⟨some 155, [3, 7, 12], []⟩, TupF, ActRT (fun s => EstOk s cs (free + 0))⟩,
        ⟨⟨some 141, [13], []⟩, MvTF, NoRT⟩,
        ⟨⟨some 156, [14], []⟩, Ex0F, NoRT⟩,
        ⟨⟨some 157, [14], []⟩, Ex1F, NoRT⟩,
        ⟨⟨some 4, [15], []⟩, SameF, NoRT⟩,
        ⟨⟨some 5, [16], []⟩, SameF, NoRT⟩] hst (by kernel_rfl) (by kernel_rfl) (by kernel_rfl) ⟨NoRT.loc, NoRT.loc, NoRT.loc, NoRT.loc, NoRT.loc, NoRT.loc, NoRT.loc, NoRT.loc, LitRT.loc, NoRT.loc, NoRT.loc, AdrRT.loc, NoRT.loc, ActRT.loc (R := fun s => EstOk s cs (free + 0)), NoRT.loc, NoRT.loc, NoRT.loc, NoRT.loc, NoRT.loc, trivial⟩ ⟨?r0, ?r1, ?r2, ?r3, ?r4, ?r5, ?r6, ?r7, ?r8, ?r9, ?r10, ?r11, ?r12, ?r13, ?r14, ?r15, ?r16, ?r17, ?r18, trivial⟩ ?fin
      case r0 =>
        refine step_ofT rfl rfl ?_
        intro a wx vs fp K hF hK
        exact op_move rfl (hF.at_ 0 rfl) (hK _ _ _ (hF.onlyT keepsOk rfl trivial))
      case r1 =>
        refine step_ofT rfl rfl ?_
        intro a wx vs fp K hF hK
        have e1 : a.eval (.tmp 142) = .pointer (some ⟨gx, 0, none⟩) := (hF.ev 0 142 rfl rfl).trans (hF.va 0 rfl)
        refine op_value (v := .pointer (some ⟨gx, 0, none⟩)) ?_ (hK _ _ _ (hF.onlyT keepsOk rfl trivial))
        clear hF hK
        generalize a.eval = ρ at *
        go_simp
      case r2 =>
        refine step_ofT rfl rfl ?_
        intro a wx vs fp K hF hK
        have e1 : a.eval (.tmp 143) = .pointer (some ⟨gx, 0, none⟩) := (hF.ev 1 143 rfl rfl).trans (hF.va 1 rfl)
        refine op_value (v := .pointer (some ⟨gx, 0, none⟩)) ?_ (hK _ _ _ (hF.onlyT keepsOk rfl trivial))
        clear hF hK
        generalize a.eval = ρ at *
        go_simp
      case r3 =>
        refine step_ofT rfl rfl ?_
        intro a wx vs fp K hF hK
        have e1 : a.eval (.tmp 144) = .pointer (some ⟨gx, 0, none⟩) := (hF.ev 2 144 rfl rfl).trans (hF.va 2 rfl)
        have mc := (EsW.s (HEW.out wx hF.below)).1
        refine op_value (v := .slice A n c) ?_ (hK _ _ _ (hF.onlyT keepsOk rfl trivial))
        clear hF hK
        generalize a.eval = ρ at *
        go_simp
      case r4 =>
        refine step_ofT rfl rfl ?_
        intro a wx vs fp K hF hK
        exact op_move rfl (hF.at_ 0 rfl) (hK _ _ _ (hF.onlyT keepsOk rfl trivial))
      case r5 =>
        refine step_ofT rfl rfl ?_
        intro a wx vs fp K hF hK
        exact op_move rfl (hF.at_ 1 rfl) (hK _ _ _ (hF.onlyT keepsOk rfl trivial))
      case r6 =>
        refine step_ofT rfl rfl ?_
        intro a wx vs fp K hF hK
        have hv : vs 5 = .pointer (some ⟨gs, 0, none⟩) := hF.va 5 rfl
        refine op_call (vals := #[.pointer (some ⟨gs, 0, none⟩), .int .i64 64]) rfl (by kernel_rfl) ?_ ?_
        · simp only [List.map_toArray, List.map_cons, List.map_nil, hF.ev 5 147 rfl rfl, hv]
          rfl
        · have hes := HEW.out wx hF.below
          exact (EsW.nx HN.out (q := 64) (by decide) (by decide) hes).mono fun e w' ⟨x, h1, h2, h3, h4⟩ => ⟨_, h1, hK _ _ _ (hF.callT h3 (EsW.zs h4) (EsW.keeps hes h3) ⟨x, rfl, h2⟩ trivial)⟩
      case r7 =>
        refine step_ofT rfl rfl ?_
        intro a wx vs fp K hF hK
        have h1 : vs 4 = .pointer (some ⟨gx, 0, none⟩) := hF.va 4 rfl
        obtain ⟨x, h2, _⟩ : ∃ x : Nat, vs 6 = .int .i64 (x : Int) ∧ (x : Int) < 64 := hF.va 6 rfl
        refine op_call (vals := #[.pointer (some ⟨gx, 0, none⟩), .int .i64 (x : Int)]) rfl (by kernel_rfl) ?_ ?_
        · simp only [List.map_toArray, List.map_cons, List.map_nil, hF.ev 4 146 rfl rfl, hF.ev 6 148 rfl rfl, h1, h2]
        · refine (EsW.any (HEW.out wx hF.below) (x : Int)).mono ?_
          rintro e w' ⟨v, k1, ⟨z, rfl⟩, k3⟩
          exact ⟨_, k1, hK _ _ [] (hF.underT (below_drewN (Below.refl _ _) z) keepsOk ⟨v, rfl⟩ trivial (fun g hg => by cases hg))⟩
      case r8 =>
        refine step_ofT rfl rfl ?_
        intro a wx vs fp K hF hK
        refine op_value (v := .slice (some ⟨wx.heap.size, 0, none⟩) 12 12) (w' := wx.alloc (.cells #[.int .i64 6, .int .i64 8, .int .i64 5, .int .i64 7, .int .i64 11, .int .i64 12, .int .i64 9, .int .i64 10, .int .i64 14, .int .i64 2, .int .i64 3, .int .i64 13] 3)) ?_ (hK _ _ _ (hF.madeT _ keepsOk trivial ⟨_, rfl, rfl, Bl.new _ _ _⟩))
        have ec : ∀ v, a.eval (.const v) = v := fun _ => rfl
        clear hF hK
        generalize a.eval = ρ at *
        go_simp
      case r9 =>
        refine step_ofT rfl rfl ?_
        intro a wx vs fp K hF hK
        exact op_move rfl (hF.at_ 1 rfl) (hK _ _ _ (hF.onlyT keepsOk rfl trivial))
      case r10 =>
        refine step_ofT rfl rfl ?_
        intro a wx vs fp K hF hK
        have hv : vs 9 = .pointer (some ⟨gs, 0, none⟩) := hF.va 9 rfl
        refine op_call (vals := #[.pointer (some ⟨gs, 0, none⟩), .int .i64 12]) rfl (by kernel_rfl) ?_ ?_
        · simp only [List.map_toArray, List.map_cons, List.map_nil, hF.ev 9 151 rfl rfl, hv]
          rfl
        · have hes := HEW.out wx hF.below
          exact (EsW.nx HN.out (q := 12) (by decide) (by decide) hes).mono fun e w' ⟨x, h1, h2, h3, h4⟩ => ⟨_, h1, hK _ _ _ (hF.callT h3 (EsW.zs h4) (EsW.keeps hes h3) ⟨x, rfl, h2⟩ trivial)⟩
      case r11 =>
        refine step_ofT rfl rfl ?_
        intro a wx vs fp K hF hK
        have hm : LitRT 3 #[.int .i64 6, .int .i64 8, .int .i64 5, .int .i64 7, .int .i64 11, .int .i64 12, .int .i64 9, .int .i64 10, .int .i64 14, .int .i64 2, .int .i64 3, .int .i64 13] 12 [] (vs 8) (fp 8) wx := hF.me 8 rfl
        obtain ⟨g, hg, hfg, hbl⟩ := hm
        obtain ⟨x, hx, hx1⟩ : ∃ x : Nat, vs 10 = .int .i64 (x : Int) ∧ (x : Int) < 12 := hF.va 10 rfl
        have e1 : a.eval (.tmp 150) = .slice (some ⟨g, 0, none⟩) 12 12 := (hF.ev 8 150 rfl rfl).trans hg
        have e2 : a.eval (.tmp 152) = .int .i64 (x : Int) := (hF.ev 10 152 rfl rfl).trans hx
        have hj : x < 12 := by omega
        have hj2 : (x : Int) < 12 := by omega
        have hj0 : (0 : Int) ≤ (x : Int) := by omega
        refine op_value (v := .pointer (some ⟨g, x, none⟩)) ?_ (hK _ _ _ (hF.handT 8 rfl keepsOk trivial ⟨g, x, rfl, by omega, hfg, hbl⟩))
        clear hF hK
        generalize a.eval = ρ at *
        go_simp
      case r12 =>
        refine step_ofT rfl rfl ?_
        intro a wx vs fp K hF hK
        have hm : AdrRT 3 #[.int .i64 6, .int .i64 8, .int .i64 5, .int .i64 7, .int .i64 11, .int .i64 12, .int .i64 9, .int .i64 10, .int .i64 14, .int .i64 2, .int .i64 3, .int .i64 13] 12 [vs 8, vs 10] (vs 11) (fp 11) wx := hF.me 11 rfl
        obtain ⟨g, j, hg, hj, hfg, hbl⟩ := hm
        obtain ⟨x, hs, mc⟩ := act_at hbl hj
        have e1 : a.eval (.tmp 153) = .pointer (some ⟨g, j, none⟩) := (hF.ev 11 153 rfl rfl).trans hg
        refine op_value (v := .int .i64 x) ?_ (hK _ _ _ (hF.onlyT keepsOk ⟨x, hs, rfl⟩ trivial))
        clear hF hK hbl
        generalize a.eval = ρ at *
        go_simp
      case r13 =>
        refine step_ofT rfl rfl ?_
        intro a wx vs fp K hF hK
        have h1 : vs 3 = .slice A n c := hF.va 3 rfl
        obtain ⟨id, h2⟩ : ∃ x : Int, vs 7 = .int .i64 x := hF.va 7 rfl
        obtain ⟨x, hs, h3⟩ : ∃ x : Int, ActOk x ∧ vs 12 = .int .i64 x := hF.va 12 rfl
        refine op_call (vals := #[.slice A n c, .int .i64 id, .int .i64 x]) rfl (by kernel_rfl) ?_ ?_
        · simp only [List.map_toArray, List.map_cons, List.map_nil, hF.ev 3 145 rfl rfl, hF.ev 7 149 rfl rfl, hF.ev 12 154 rfl rfl, h1, h2, h3]
        · obtain ⟨J, hJ, hes⟩ := HEW.out wx hF.below
          exact (Move_any A n c bs cs free id x wx hes.st hes.ok hs.1 hs.2.1 hs.2.2).mono fun e w' ⟨B2, d2, er, bs2, k1, k2, k3⟩ => ⟨_, k1, hK _ _ [] (hF.underT k3 keepsOk ⟨_, _, rfl⟩ ⟨B2, d2, er, bs2, rfl, by rw [Int.add_zero]; exact k2⟩ (fun g hg => by cases hg))⟩
      case r14 =>
        refine step_ofT rfl rfl ?_
        intro a wx vs fp K hF hK
        have hm : ∃ x y, vs 13 = .tuple #[x, y] := hF.va 13 rfl
        exact op_move rfl (hF.ev 13 155 rfl rfl) (hK _ _ _ (hF.onlyT keepsOk ⟨rfl, hm⟩ trivial))
      case r15 =>
        refine step_ofT rfl rfl ?_
        intro a wx vs fp K hF hK
        have hm : MvTF [vs 13] (vs 14) := hF.va 14 rfl
        obtain ⟨_, x, y, hv⟩ := hm
        exact op_extract rfl ((hF.ev 14 141 rfl rfl).trans hv) rfl (hK _ _ _ (hF.onlyT keepsOk ⟨x, y, congrArg some hv, rfl⟩ trivial))
      case r16 =>
        refine step_ofT rfl rfl ?_
        intro a wx vs fp K hF hK
        have hm : MvTF [vs 13] (vs 14) := hF.va 14 rfl
        obtain ⟨_, x, y, hv⟩ := hm
        exact op_extract rfl ((hF.ev 14 141 rfl rfl).trans hv) rfl (hK _ _ _ (hF.onlyT keepsOk ⟨x, y, congrArg some hv, rfl⟩ trivial))
      case r17 =>
        refine step_ofT rfl rfl ?_
        intro a wx vs fp K hF hK
        exact op_assign rfl (hF.ev 15 156 rfl rfl) (hK _ _ _ (hF.onlyT keepsOk rfl trivial))
      case r18 =>
        refine step_ofT rfl rfl ?_
        intro a wx vs fp K hF hK
        exact op_assign rfl (hF.ev 16 157 rfl rfl) (hK _ _ _ (hF.onlyT keepsOk rfl trivial))
      case fin =>
        intro wz vs fp hI
        have hM : ActRT (fun s => EstOk s cs (free + 0)) [vs 3, vs 7, vs 12] (vs 13) (fp 13) wz := (hI.finM 13 (by decide) rfl).1
        have f1 : MvTF [vs 13] (vs 14) := hI.fin 14 (by decide)
        have f2 : Ex0F [vs 14] (vs 15) := hI.fin 15 (by decide)
        have f3 : Ex1F [vs 14] (vs 16) := hI.fin 16 (by decide)
        have f4 : vs 15 = vs 17 := Option.some.inj (hI.fin 17 (by decide))
        have f5 : vs 16 = vs 18 := Option.some.inj (hI.fin 18 (by decide))
        have hkp := HEW.out wz hI.below
        obtain ⟨B2, d2, er, bs2, h14, hr⟩ := hM
        obtain ⟨x, y, g2, g3⟩ := f2
        obtain ⟨x', y', g4, g5⟩ := f3
        have g1 := f1.1
        simp only [List.getElem?_cons_zero, Option.some.injEq] at g1 g2 g4
        have h18 : vs 17 = .slice B2 bs2.length d2 := by
          have e := g1.trans g2
          rw [h14] at e
          injection e with e
          have e2 := congrArg (·[0]!) e
          rw [← f4, g3]
          exact e2.symm
        have h19 : vs 18 = .int .i64 er := by
          have e := g1.trans g4
          rw [h14] at e
          injection e with e
          have e2 := congrArg (·[1]!) e
          rw [← f5, g5]
          exact e2.symm
        have HR := Lib.hid hr
        have HKP := Lib.hid hkp
        clear hI f1 f4 f5 g1 g2 g3 g4 g5 h14 hr hkp hst
        simp only [rj, number, putJ, List.map_cons, List.map_nil, if_true, Act.put, List.setIfInBounds_toArray, List.set_cons_zero, List.set_cons_succ, h18, h19]
        generalize vs 0 = zv0
        generalize vs 1 = zv1
        generalize vs 2 = zv2
        generalize vs 3 = zv3
        generalize vs 4 = zv4
        generalize vs 5 = zv5
        generalize vs 6 = zv6
        generalize vs 7 = zv7
        generalize vs 8 = zv8
        generalize vs 9 = zv9
        generalize vs 10 = zv10
        generalize vs 11 = zv11
        generalize vs 12 = zv12
        generalize vs 13 = zv13
        generalize vs 14 = zv14
        generalize vs 15 = zv15
        generalize vs 16 = zv16
        obtain ⟨J, hJ, hP⟩ := HKP.out
        have HP := Lib.hid hP
        clear hP
        go_wp2_with fail
        go_meet
        exact ActM.yes HP.out hJ (by decide) (by decide) HR.out
set_option maxRecDepth 100000 in
set_option maxHeartbeats 64000000 in
theorem Act_v3 (w0 w : World) (gx gs : Nat) (LA : Option Addr) (m lc I : Nat) (xs : List Int) (A : Option Addr) (n c : Nat) (bs : List Lb) (B : Option Addr) (k d : Nat) (cs : List Ch) (free : Int) (h : EsM w0 w gx gs LA m lc I A n c bs B k d cs free) (hI : Ints w0 LA m xs) (hv8 : nextV xs m I 8 = 3) (hm : m ≤ 1000000) (hf : free ≤ 100000) (hk : k ≤ 1000) :
    Calls Tryz.prog 25 #[.pointer (some ⟨gx, 0, none⟩), .pointer (some ⟨gs, 0, none⟩)] w fun e w' => e = .returned (.tuple #[]) ∧ ActS w0 gx gs LA m lc I k free w' := by
  have HES := Lib.hid h
  have HN : Hid (NextC w0 gs LA m lc) := fun q J wx hS hb h1 h2 =>
    (next_any gs LA m lc J xs q w0 wx hS hI hb h.base.2 hm h1 h2).mono fun e w' ⟨h3, h4, h5⟩ => ⟨_, h3, (nextV_bounds xs m J q h1).1, (nextV_bounds xs m J q h1).2, h4, h5⟩
  have HSM : Hid (∀ (J : Nat) (wx : World), Src wx gs LA m lc J → RowKit.Below w0.heap.size w0 wx → Calls Tryz.prog 37 #[.pointer (some ⟨gs, 0, none⟩), .int .i64 30, .int .i64 100000] wx (SmlRes wx gs LA m lc J 100000)) := fun J wx hS hb => small29_any gs LA m lc J xs 30 100000 w0 wx hS hI hb h.base.2 hm (by decide) (by decide) (by decide)
  have hc0 : w.cell? ⟨gx, 0, none⟩ = some (.slice A n c) := h.bx.cell 0
  clear h
  go_enter Tryz.func25, Tryz.ntmps25
  go_upto_region 3 with (fail)
  go_wp2_with fail
  refine (next_any gs LA m lc I xs 8 w0 w HES.out.src hI HES.out.below HES.out.base.2 hm (by decide) (by decide)).mono ?_
  rintro e w1 ⟨rfl, ho1, hs1⟩
  rw [hv8]
  go_upto_block 0 with fail
  have HE1 : Hid (EsM w0 w1 gx gs LA m lc (nextI m I) A n c bs B k d cs free) := HES.out.only ho1 hs1
  clear ho1 hs1 hc0
  go_cut [4, 5, 6] (fun nx er us wx => ActM w0 w gx gs LA m lc I A n c bs B k d cs free nx er us wx)
  case rest =>
    obtain ⟨J, A', n', c', bs', ev, u, B', k', d', cs', rfl, rfl, rfl, hu0, hu1, hJ0, hJ1, hbx, hsr, hown, hkl, hbw, hok, hbad⟩ := hcut
    have HBX := Lib.hid hbx
    have HSR := Lib.hid hsr
    have HOW := Lib.hid hown
    have HBW := Lib.hid hbw
    have HOK := Lib.hid hok
    have HBAD := Lib.hid hbad
    have hgg : gx ≠ gs := HE1.out.ne
    clear hbx hsr hown hbw hok hbad
    cases de : (ev == 0)
    case false =>
      have hne : ev ≠ 0 := by simpa using de
      have HNE := Lib.hid hne
      clear hne
      go_wp2
      go_end0
      obtain ⟨h1, h2, h3⟩ := HBAD.out HNE.out
      subst h2 h3
      exact ⟨rfl, J, A, n, c, bs, B', _, d', _, free, ⟨HBX.out, HSR.out, hJ1, h1, HOW.out, hkl, HES.out.ok, HBW.out, HES.out.base⟩, hJ0, by omega, by omega, .inl rfl⟩
    case true =>
      obtain rfl : ev = 0 := by simpa using de
      clear de
      obtain ⟨h1, h2, h3⟩ := HOK.out rfl
      have H1 := Lib.hid h1
      have H2 := Lib.hid h2
      have H3 := Lib.hid h3
      clear h1 h2 h3
      have c0 : wc.cell? ⟨gx, 0, none⟩ = some (.slice A n c) := HBX.out.cell 0
      have c2 : wc.cell? ⟨gx, 2, none⟩ = some (.int .i64 free) := HBX.out.cell 2
      have f0 : wc.frozen? ⟨gx, 0, none⟩ = false := HBX.out.free 0
      have f2 : wc.frozen? ⟨gx, 2, none⟩ = false := HBX.out.free 2
      have hfp := HES.out.ok.pos
      have u1 : IntKind.i64.wrap (free + u) = free + u := IntWalk.i64_in _ (by omega)
      have HX2 : Hid (Bl ((wc.setCell ⟨gx, 0, none⟩ (.slice A' n' c')).setCell ⟨gx, 2, none⟩ (.int .i64 (free + u))) gx 26 #[.slice A' n' c', .slice B' k' d', .int .i64 (free + u)]) := by
        show Bl _ _ _ _
        have := (HBX.out.put 0 (.slice A' n' c')).put 2 (.int .i64 (free + u))
        simpa using this
      have HKP : Hid (Kp gx wc ((wc.setCell ⟨gx, 0, none⟩ (.slice A' n' c')).setCell ⟨gx, 2, none⟩ (.int .i64 (free + u)))) := ((Kp.refl gx wc).put 0 _).put 2 _
      go_wp2
      go_end0
      refine ⟨rfl, J, A', n', c', bs', B', k', d', cs', free + u, ⟨HX2.out, HKP.out.bl HSR.out (fun e => hgg e.symm), hJ1, H1.out.keeps (Keeps.kp HKP.out HBX.out (by decide) (by decide)), own_of_block HOW.out fun g hg => HKP.out.block g (own_lt HOW.out g hg) (fun e => own_far29 HOW.out HBX.out (by decide) (hg.trans (congrArg some e))), hkl, H2.out, HKP.out.under HBW.out HBW.out.size HES.out.base.1, HES.out.base⟩, hJ0, by omega, by omega, H3.out⟩
  case first =>
    · go_upto_region 26 with (fail)
      have HEW : Hid (∀ wx, RelK gs (zEs LA m lc (nextI m I)) w1 wx → EsW w0 gx gs LA m lc (nextI m I) A n c bs B k d cs free wx) := fun wx hR => HE1.out.ofR hR
      have hst : RelK gs (zEs LA m lc (nextI m I)) w1 w1.drew := RelK.start HE1.out.src.lt ⟨_, Nat.le_refl _, HE1.out.jm, HE1.out.src⟩
      refine wp_region_rowsT (kt := Keeps) (gK := gs) (zz := zEs LA m lc (nextI m I)) [
        ⟨⟨some 142, [], []⟩, fun _ v => v = .pointer (some ⟨gx, 0, none⟩), NoRT⟩,
        ⟨⟨some 143, [0], []⟩, fun _ v => v = .pointer (some ⟨gx, 0, none⟩), NoRT⟩,
        ⟨⟨some 144, [1], []⟩, fun _ v => v = .pointer (some ⟨gx, 0, none⟩), NoRT⟩,
        ⟨⟨some 145, [2], []⟩, fun _ v => v = .slice A n c, NoRT⟩,
        ⟨⟨some 146, [], []⟩, fun _ v => v = .pointer (some ⟨gx, 0, none⟩), NoRT⟩,
        ⟨⟨some 147, [], []⟩, fun _ v => v = .pointer (some ⟨gs, 0, none⟩), NoRT⟩,
        ⟨⟨some 148, [5], []⟩, fun _ v => ∃ x : Nat, v = .int .i64 (x : Int) ∧ (x : Int) < 64, NoRT⟩,
        ⟨⟨some 149, [4, 6], []⟩, fun _ v => ∃ x : Int, v = .int .i64 x, NoRT⟩,
        ⟨⟨some 150, [], []⟩, NoFT, LitRT 3 #[.int .i64 6, .int .i64 8, .int .i64 5, .int .i64 7, .int .i64 11, .int .i64 12, .int .i64 9, .int .i64 10, .int .i64 14, .int .i64 2, .int .i64 3, .int .i64 13] 12⟩,
        ⟨⟨some 151, [], []⟩, fun _ v => v = .pointer (some ⟨gs, 0, none⟩), NoRT⟩,
        ⟨⟨some 152, [9], []⟩, fun _ v => ∃ x : Nat, v = .int .i64 (x : Int) ∧ (x : Int) < 12, NoRT⟩,
        ⟨⟨some 153, [8, 10], [8]⟩, NoFT, AdrRT 3 #[.int .i64 6, .int .i64 8, .int .i64 5, .int .i64 7, .int .i64 11, .int .i64 12, .int .i64 9, .int .i64 10, .int .i64 14, .int .i64 2, .int .i64 3, .int .i64 13] 12⟩,
        ⟨⟨some 154, [11], [11]⟩, fun _ v => ∃ x : Int, ActOk x ∧ v = .int .i64 x, NoRT⟩,
        ⟨⟨some 155, [3, 7, 12], []⟩, TupF, ActRT (fun s => EstOk s cs (free + 0))⟩,
        ⟨⟨some 141, [13], []⟩, MvTF, NoRT⟩,
        ⟨⟨some 156, [14], []⟩, Ex0F, NoRT⟩,
        ⟨⟨some 157, [14], []⟩, Ex1F, NoRT⟩,
        ⟨⟨some 4, [15], []⟩, SameF, NoRT⟩,
        ⟨⟨some 5, [16], []⟩, SameF, NoRT⟩] hst (by kernel_rfl) (by kernel_rfl) (by kernel_rfl) ⟨NoRT.loc, NoRT.loc, NoRT.loc, NoRT.loc, NoRT.loc, NoRT.loc, NoRT.loc, NoRT.loc, LitRT.loc, NoRT.loc, NoRT.loc, AdrRT.loc, NoRT.loc, ActRT.loc (R := fun s => EstOk s cs (free + 0)), NoRT.loc, NoRT.loc, NoRT.loc, NoRT.loc, NoRT.loc, trivial⟩ ⟨?r0, ?r1, ?r2, ?r3, ?r4, ?r5, ?r6, ?r7, ?r8, ?r9, ?r10, ?r11, ?r12, ?r13, ?r14, ?r15, ?r16, ?r17, ?r18, trivial⟩ ?fin
      case r0 =>
        refine step_ofT rfl rfl ?_
        intro a wx vs fp K hF hK
        exact op_move rfl (hF.at_ 0 rfl) (hK _ _ _ (hF.onlyT keepsOk rfl trivial))
      case r1 =>
        refine step_ofT rfl rfl ?_
        intro a wx vs fp K hF hK
        have e1 : a.eval (.tmp 142) = .pointer (some ⟨gx, 0, none⟩) := (hF.ev 0 142 rfl rfl).trans (hF.va 0 rfl)
        refine op_value (v := .pointer (some ⟨gx, 0, none⟩)) ?_ (hK _ _ _ (hF.onlyT keepsOk rfl trivial))
        clear hF hK
        generalize a.eval = ρ at *
        go_simp
      case r2 =>
        refine step_ofT rfl rfl ?_
        intro a wx vs fp K hF hK
        have e1 : a.eval (.tmp 143) = .pointer (some ⟨gx, 0, none⟩) := (hF.ev 1 143 rfl rfl).trans (hF.va 1 rfl)
        refine op_value (v := .pointer (some ⟨gx, 0, none⟩)) ?_ (hK _ _ _ (hF.onlyT keepsOk rfl trivial))
        clear hF hK
        generalize a.eval = ρ at *
        go_simp
      case r3 =>
        refine step_ofT rfl rfl ?_
        intro a wx vs fp K hF hK
        have e1 : a.eval (.tmp 144) = .pointer (some ⟨gx, 0, none⟩) := (hF.ev 2 144 rfl rfl).trans (hF.va 2 rfl)
        have mc := (EsW.s (HEW.out wx hF.below)).1
        refine op_value (v := .slice A n c) ?_ (hK _ _ _ (hF.onlyT keepsOk rfl trivial))
        clear hF hK
        generalize a.eval = ρ at *
        go_simp
      case r4 =>
        refine step_ofT rfl rfl ?_
        intro a wx vs fp K hF hK
        exact op_move rfl (hF.at_ 0 rfl) (hK _ _ _ (hF.onlyT keepsOk rfl trivial))
      case r5 =>
        refine step_ofT rfl rfl ?_
        intro a wx vs fp K hF hK
        exact op_move rfl (hF.at_ 1 rfl) (hK _ _ _ (hF.onlyT keepsOk rfl trivial))
      case r6 =>
        refine step_ofT rfl rfl ?_
        intro a wx vs fp K hF hK
        have hv : vs 5 = .pointer (some ⟨gs, 0, none⟩) := hF.va 5 rfl
        refine op_call (vals := #[.pointer (some ⟨gs, 0, none⟩), .int .i64 64]) rfl (by kernel_rfl) ?_ ?_
        · simp only [List.map_toArray, List.map_cons, List.map_nil, hF.ev 5 147 rfl rfl, hv]
          rfl
        · have hes := HEW.out wx hF.below
          exact (EsW.nx HN.out (q := 64) (by decide) (by decide) hes).mono fun e w' ⟨x, h1, h2, h3, h4⟩ => ⟨_, h1, hK _ _ _ (hF.callT h3 (EsW.zs h4) (EsW.keeps hes h3) ⟨x, rfl, h2⟩ trivial)⟩
      case r7 =>
        refine step_ofT rfl rfl ?_
        intro a wx vs fp K hF hK
        have h1 : vs 4 = .pointer (some ⟨gx, 0, none⟩) := hF.va 4 rfl
        obtain ⟨x, h2, _⟩ : ∃ x : Nat, vs 6 = .int .i64 (x : Int) ∧ (x : Int) < 64 := hF.va 6 rfl
        refine op_call (vals := #[.pointer (some ⟨gx, 0, none⟩), .int .i64 (x : Int)]) rfl (by kernel_rfl) ?_ ?_
        · simp only [List.map_toArray, List.map_cons, List.map_nil, hF.ev 4 146 rfl rfl, hF.ev 6 148 rfl rfl, h1, h2]
        · refine (EsW.any (HEW.out wx hF.below) (x : Int)).mono ?_
          rintro e w' ⟨v, k1, ⟨z, rfl⟩, k3⟩
          exact ⟨_, k1, hK _ _ [] (hF.underT (below_drewN (Below.refl _ _) z) keepsOk ⟨v, rfl⟩ trivial (fun g hg => by cases hg))⟩
      case r8 =>
        refine step_ofT rfl rfl ?_
        intro a wx vs fp K hF hK
        refine op_value (v := .slice (some ⟨wx.heap.size, 0, none⟩) 12 12) (w' := wx.alloc (.cells #[.int .i64 6, .int .i64 8, .int .i64 5, .int .i64 7, .int .i64 11, .int .i64 12, .int .i64 9, .int .i64 10, .int .i64 14, .int .i64 2, .int .i64 3, .int .i64 13] 3)) ?_ (hK _ _ _ (hF.madeT _ keepsOk trivial ⟨_, rfl, rfl, Bl.new _ _ _⟩))
        have ec : ∀ v, a.eval (.const v) = v := fun _ => rfl
        clear hF hK
        generalize a.eval = ρ at *
        go_simp
      case r9 =>
        refine step_ofT rfl rfl ?_
        intro a wx vs fp K hF hK
        exact op_move rfl (hF.at_ 1 rfl) (hK _ _ _ (hF.onlyT keepsOk rfl trivial))
      case r10 =>
        refine step_ofT rfl rfl ?_
        intro a wx vs fp K hF hK
        have hv : vs 9 = .pointer (some ⟨gs, 0, none⟩) := hF.va 9 rfl
        refine op_call (vals := #[.pointer (some ⟨gs, 0, none⟩), .int .i64 12]) rfl (by kernel_rfl) ?_ ?_
        · simp only [List.map_toArray, List.map_cons, List.map_nil, hF.ev 9 151 rfl rfl, hv]
          rfl
        · have hes := HEW.out wx hF.below
          exact (EsW.nx HN.out (q := 12) (by decide) (by decide) hes).mono fun e w' ⟨x, h1, h2, h3, h4⟩ => ⟨_, h1, hK _ _ _ (hF.callT h3 (EsW.zs h4) (EsW.keeps hes h3) ⟨x, rfl, h2⟩ trivial)⟩
      case r11 =>
        refine step_ofT rfl rfl ?_
        intro a wx vs fp K hF hK
        have hm : LitRT 3 #[.int .i64 6, .int .i64 8, .int .i64 5, .int .i64 7, .int .i64 11, .int .i64 12, .int .i64 9, .int .i64 10, .int .i64 14, .int .i64 2, .int .i64 3, .int .i64 13] 12 [] (vs 8) (fp 8) wx := hF.me 8 rfl
        obtain ⟨g, hg, hfg, hbl⟩ := hm
        obtain ⟨x, hx, hx1⟩ : ∃ x : Nat, vs 10 = .int .i64 (x : Int) ∧ (x : Int) < 12 := hF.va 10 rfl
        have e1 : a.eval (.tmp 150) = .slice (some ⟨g, 0, none⟩) 12 12 := (hF.ev 8 150 rfl rfl).trans hg
        have e2 : a.eval (.tmp 152) = .int .i64 (x : Int) := (hF.ev 10 152 rfl rfl).trans hx
        have hj : x < 12 := by omega
        have hj2 : (x : Int) < 12 := by omega
        have hj0 : (0 : Int) ≤ (x : Int) := by omega
        refine op_value (v := .pointer (some ⟨g, x, none⟩)) ?_ (hK _ _ _ (hF.handT 8 rfl keepsOk trivial ⟨g, x, rfl, by omega, hfg, hbl⟩))
        clear hF hK
        generalize a.eval = ρ at *
        go_simp
      case r12 =>
        refine step_ofT rfl rfl ?_
        intro a wx vs fp K hF hK
        have hm : AdrRT 3 #[.int .i64 6, .int .i64 8, .int .i64 5, .int .i64 7, .int .i64 11, .int .i64 12, .int .i64 9, .int .i64 10, .int .i64 14, .int .i64 2, .int .i64 3, .int .i64 13] 12 [vs 8, vs 10] (vs 11) (fp 11) wx := hF.me 11 rfl
        obtain ⟨g, j, hg, hj, hfg, hbl⟩ := hm
        obtain ⟨x, hs, mc⟩ := act_at hbl hj
        have e1 : a.eval (.tmp 153) = .pointer (some ⟨g, j, none⟩) := (hF.ev 11 153 rfl rfl).trans hg
        refine op_value (v := .int .i64 x) ?_ (hK _ _ _ (hF.onlyT keepsOk ⟨x, hs, rfl⟩ trivial))
        clear hF hK hbl
        generalize a.eval = ρ at *
        go_simp
      case r13 =>
        refine step_ofT rfl rfl ?_
        intro a wx vs fp K hF hK
        have h1 : vs 3 = .slice A n c := hF.va 3 rfl
        obtain ⟨id, h2⟩ : ∃ x : Int, vs 7 = .int .i64 x := hF.va 7 rfl
        obtain ⟨x, hs, h3⟩ : ∃ x : Int, ActOk x ∧ vs 12 = .int .i64 x := hF.va 12 rfl
        refine op_call (vals := #[.slice A n c, .int .i64 id, .int .i64 x]) rfl (by kernel_rfl) ?_ ?_
        · simp only [List.map_toArray, List.map_cons, List.map_nil, hF.ev 3 145 rfl rfl, hF.ev 7 149 rfl rfl, hF.ev 12 154 rfl rfl, h1, h2, h3]
        · obtain ⟨J, hJ, hes⟩ := HEW.out wx hF.below
          exact (Move_any A n c bs cs free id x wx hes.st hes.ok hs.1 hs.2.1 hs.2.2).mono fun e w' ⟨B2, d2, er, bs2, k1, k2, k3⟩ => ⟨_, k1, hK _ _ [] (hF.underT k3 keepsOk ⟨_, _, rfl⟩ ⟨B2, d2, er, bs2, rfl, by rw [Int.add_zero]; exact k2⟩ (fun g hg => by cases hg))⟩
      case r14 =>
        refine step_ofT rfl rfl ?_
        intro a wx vs fp K hF hK
        have hm : ∃ x y, vs 13 = .tuple #[x, y] := hF.va 13 rfl
        exact op_move rfl (hF.ev 13 155 rfl rfl) (hK _ _ _ (hF.onlyT keepsOk ⟨rfl, hm⟩ trivial))
      case r15 =>
        refine step_ofT rfl rfl ?_
        intro a wx vs fp K hF hK
        have hm : MvTF [vs 13] (vs 14) := hF.va 14 rfl
        obtain ⟨_, x, y, hv⟩ := hm
        exact op_extract rfl ((hF.ev 14 141 rfl rfl).trans hv) rfl (hK _ _ _ (hF.onlyT keepsOk ⟨x, y, congrArg some hv, rfl⟩ trivial))
      case r16 =>
        refine step_ofT rfl rfl ?_
        intro a wx vs fp K hF hK
        have hm : MvTF [vs 13] (vs 14) := hF.va 14 rfl
        obtain ⟨_, x, y, hv⟩ := hm
        exact op_extract rfl ((hF.ev 14 141 rfl rfl).trans hv) rfl (hK _ _ _ (hF.onlyT keepsOk ⟨x, y, congrArg some hv, rfl⟩ trivial))
      case r17 =>
        refine step_ofT rfl rfl ?_
        intro a wx vs fp K hF hK
        exact op_assign rfl (hF.ev 15 156 rfl rfl) (hK _ _ _ (hF.onlyT keepsOk rfl trivial))
      case r18 =>
        refine step_ofT rfl rfl ?_
        intro a wx vs fp K hF hK
        exact op_assign rfl (hF.ev 16 157 rfl rfl) (hK _ _ _ (hF.onlyT keepsOk rfl trivial))
      case fin =>
        intro wz vs fp hI
        have hM : ActRT (fun s => EstOk s cs (free + 0)) [vs 3, vs 7, vs 12] (vs 13) (fp 13) wz := (hI.finM 13 (by decide) rfl).1
        have f1 : MvTF [vs 13] (vs 14) := hI.fin 14 (by decide)
        have f2 : Ex0F [vs 14] (vs 15) := hI.fin 15 (by decide)
        have f3 : Ex1F [vs 14] (vs 16) := hI.fin 16 (by decide)
        have f4 : vs 15 = vs 17 := Option.some.inj (hI.fin 17 (by decide))
        have f5 : vs 16 = vs 18 := Option.some.inj (hI.fin 18 (by decide))
        have hkp := HEW.out wz hI.below
        obtain ⟨B2, d2, er, bs2, h14, hr⟩ := hM
        obtain ⟨x, y, g2, g3⟩ := f2
        obtain ⟨x', y', g4, g5⟩ := f3
        have g1 := f1.1
        simp only [List.getElem?_cons_zero, Option.some.injEq] at g1 g2 g4
        have h18 : vs 17 = .slice B2 bs2.length d2 := by
          have e := g1.trans g2
          rw [h14] at e
          injection e with e
          have e2 := congrArg (·[0]!) e
          rw [← f4, g3]
          exact e2.symm
        have h19 : vs 18 = .int .i64 er := by
          have e := g1.trans g4
          rw [h14] at e
          injection e with e
          have e2 := congrArg (·[1]!) e
          rw [← f5, g5]
          exact e2.symm
        have HR := Lib.hid hr
        have HKP := Lib.hid hkp
        clear hI f1 f4 f5 g1 g2 g3 g4 g5 h14 hr hkp hst
        simp only [rj, number, putJ, List.map_cons, List.map_nil, if_true, Act.put, List.setIfInBounds_toArray, List.set_cons_zero, List.set_cons_succ, h18, h19]
        generalize vs 0 = zv0
        generalize vs 1 = zv1
        generalize vs 2 = zv2
        generalize vs 3 = zv3
        generalize vs 4 = zv4
        generalize vs 5 = zv5
        generalize vs 6 = zv6
        generalize vs 7 = zv7
        generalize vs 8 = zv8
        generalize vs 9 = zv9
        generalize vs 10 = zv10
        generalize vs 11 = zv11
        generalize vs 12 = zv12
        generalize vs 13 = zv13
        generalize vs 14 = zv14
        generalize vs 15 = zv15
        generalize vs 16 = zv16
        obtain ⟨J, hJ, hP⟩ := HKP.out
        have HP := Lib.hid hP
        clear hP
        go_wp2_with fail
        go_meet
        exact ActM.yes HP.out hJ (by decide) (by decide) HR.out
end Go.Proofs.YthnhgjhnkncmiaaGreat

namespace Go.Proofs.YthnhgjhnkncmiaaGreat
open Go.RowKit
set_option linter.unusedVariables false
set_option maxRecDepth 100000 in
set_option maxHeartbeats 64000000 in
theorem Act_v4 (w0 w : World) (gx gs : Nat) (LA : Option Addr) (m lc I : Nat) (xs : List Int) (A : Option Addr) (n c : Nat) (bs : List Lb) (B : Option Addr) (k d : Nat) (cs : List Ch) (free : Int) (h : EsM w0 w gx gs LA m lc I A n c bs B k d cs free) (hI : Ints w0 LA m xs) (hv8 : nextV xs m I 8 = 4) (hm : m ≤ 1000000) (hf : free ≤ 100000) (hk : k ≤ 1000) :
    Calls Tryz.prog 25 #[.pointer (some ⟨gx, 0, none⟩), .pointer (some ⟨gs, 0, none⟩)] w fun e w' => e = .returned (.tuple #[]) ∧ ActS w0 gx gs LA m lc I k free w' := by
  have HES := Lib.hid h
  have HN : Hid (NextC w0 gs LA m lc) := fun q J wx hS hb h1 h2 =>
    (next_any gs LA m lc J xs q w0 wx hS hI hb h.base.2 hm h1 h2).mono fun e w' ⟨h3, h4, h5⟩ => ⟨_, h3, (nextV_bounds xs m J q h1).1, (nextV_bounds xs m J q h1).2, h4, h5⟩
  have HSM : Hid (∀ (J : Nat) (wx : World), Src wx gs LA m lc J → RowKit.Below w0.heap.size w0 wx → Calls Tryz.prog 37 #[.pointer (some ⟨gs, 0, none⟩), .int .i64 30, .int .i64 100000] wx (SmlRes wx gs LA m lc J 100000)) := fun J wx hS hb => small29_any gs LA m lc J xs 30 100000 w0 wx hS hI hb h.base.2 hm (by decide) (by decide) (by decide)
  have hc0 : w.cell? ⟨gx, 0, none⟩ = some (.slice A n c) := h.bx.cell 0
  clear h
  go_enter Tryz.func25, Tryz.ntmps25
  go_upto_region 3 with (fail)
  go_wp2_with fail
  refine (next_any gs LA m lc I xs 8 w0 w HES.out.src hI HES.out.below HES.out.base.2 hm (by decide) (by decide)).mono ?_
  rintro e w1 ⟨rfl, ho1, hs1⟩
  rw [hv8]
  go_upto_block 0 with fail
  have HE1 : Hid (EsM w0 w1 gx gs LA m lc (nextI m I) A n c bs B k d cs free) := HES.out.only ho1 hs1
  clear ho1 hs1 hc0
  go_cut [4, 5, 6] (fun nx er us wx => ActM w0 w gx gs LA m lc I A n c bs B k d cs free nx er us wx)
  case rest =>
    obtain ⟨J, A', n', c', bs', ev, u, B', k', d', cs', rfl, rfl, rfl, hu0, hu1, hJ0, hJ1, hbx, hsr, hown, hkl, hbw, hok, hbad⟩ := hcut
    have HBX := Lib.hid hbx
    have HSR := Lib.hid hsr
    have HOW := Lib.hid hown
    have HBW := Lib.hid hbw
    have HOK := Lib.hid hok
    have HBAD := Lib.hid hbad
    have hgg : gx ≠ gs := HE1.out.ne
    clear hbx hsr hown hbw hok hbad
    cases de : (ev == 0)
    case false =>
      have hne : ev ≠ 0 := by simpa using de
      have HNE := Lib.hid hne
      clear hne
      go_wp2
      go_end0
      obtain ⟨h1, h2, h3⟩ := HBAD.out HNE.out
      subst h2 h3
      exact ⟨rfl, J, A, n, c, bs, B', _, d', _, free, ⟨HBX.out, HSR.out, hJ1, h1, HOW.out, hkl, HES.out.ok, HBW.out, HES.out.base⟩, hJ0, by omega, by omega, .inl rfl⟩
    case true =>
      obtain rfl : ev = 0 := by simpa using de
      clear de
      obtain ⟨h1, h2, h3⟩ := HOK.out rfl
      have H1 := Lib.hid h1
      have H2 := Lib.hid h2
      have H3 := Lib.hid h3
      clear h1 h2 h3
      have c0 : wc.cell? ⟨gx, 0, none⟩ = some (.slice A n c) := HBX.out.cell 0
      have c2 : wc.cell? ⟨gx, 2, none⟩ = some (.int .i64 free) := HBX.out.cell 2
      have f0 : wc.frozen? ⟨gx, 0, none⟩ = false := HBX.out.free 0
      have f2 : wc.frozen? ⟨gx, 2, none⟩ = false := HBX.out.free 2
      have hfp := HES.out.ok.pos
      have u1 : IntKind.i64.wrap (free + u) = free + u := IntWalk.i64_in _ (by omega)
      have HX2 : Hid (Bl ((wc.setCell ⟨gx, 0, none⟩ (.slice A' n' c')).setCell ⟨gx, 2, none⟩ (.int .i64 (free + u))) gx 26 #[.slice A' n' c', .slice B' k' d', .int .i64 (free + u)]) := by
        show Bl _ _ _ _
        have := (HBX.out.put 0 (.slice A' n' c')).put 2 (.int .i64 (free + u))
        simpa using this
      have HKP : Hid (Kp gx wc ((wc.setCell ⟨gx, 0, none⟩ (.slice A' n' c')).setCell ⟨gx, 2, none⟩ (.int .i64 (free + u)))) := ((Kp.refl gx wc).put 0 _).put 2 _
      go_wp2
      go_end0
      refine ⟨rfl, J, A', n', c', bs', B', k', d', cs', free + u, ⟨HX2.out, HKP.out.bl HSR.out (fun e => hgg e.symm), hJ1, H1.out.keeps (Keeps.kp HKP.out HBX.out (by decide) (by decide)), own_of_block HOW.out fun g hg => HKP.out.block g (own_lt HOW.out g hg) (fun e => own_far29 HOW.out HBX.out (by decide) (hg.trans (congrArg some e))), hkl, H2.out, HKP.out.under HBW.out HBW.out.size HES.out.base.1, HES.out.base⟩, hJ0, by omega, by omega, H3.out⟩
  case first =>
    · have hk00 : Hid (EsW w0 gx gs LA m lc (nextI m I) A n c bs B k d cs free w1) := ⟨nextI m I, Nat.le_refl _, HE1.out⟩
      go_wp2_with fail
      refine (EsW.nx HN.out (by decide) (by decide) hk00.out).mono ?_
      rintro e wa ⟨va, rfl, hva, hoa, hka'⟩
      have hka := Lib.hid hka'
      clear hoa hka'
      go_wp2_with fail
      refine (EsW.any hka.out _).mono ?_
      rintro e wb ⟨id, rfl, hzb, hkb'⟩
      have hkb := Lib.hid hkb'
      clear hzb hkb' hka
      obtain ⟨J, hJ, hP⟩ := hkb.out
      have HP := Lib.hid hP
      have hbl : bs.length = n := hP.st.len
      have hn64 : n ≤ 64 := by have := hP.ok.few; omega
      have z0 := (EsW.s hkb.out).1
      clear hP
      go_wp2_with fail
      refine (At_any A n c bs id wb HP.out.st.st.lots.recs (by omega)).mono ?_
      rintro e wc ⟨rfl, ⟨rfl, hno⟩ | ⟨ix, hi, rfl, hid⟩⟩
      · clear hno
        go_wp2_with fail
        go_meet
        exact ActM.no HP.out hJ (by decide) (by decide) (by decide)
      obtain ⟨b1, o1, rfl, hb1, ha⟩ := recs_at HP.out.st.st.lots.recs hi
      obtain ⟨x, hx⟩ : ∃ x, bs[ix]! = x := ⟨_, rfl⟩
      rw [hx] at ha
      have y2 : wc.cell? ⟨b1, o1 + ix * 5 + 2, none⟩ = some (.int .i64 x.x.qty) := ha.out 2 (by omega)
      have hxq := (HP.out.ok.ok x (by rw [← hx, getElem!_pos bs ix (by omega)]; exact List.getElem_mem _)).qty
      have HXI := Lib.hid hx
      obtain ⟨qy, hqy⟩ : ∃ qy, x.x.qty = qy := ⟨_, rfl⟩
      have HQY := Lib.hid hqy
      rw [hqy] at y2 hxq
      have hii : (ix : Int) < (n : Int) := by omega
      have hiz : (0 : Int) ≤ (ix : Int) := by omega
      have dge : decide ((ix : Int) ≥ 0) = true := by simp
      clear ha hx hid hqy
      by_cases g2 : qy ≥ 2
      case neg =>
        have d2 : decide (qy ≥ 2) = false := decide_eq_false g2
        have d3 : decide (2 ≤ qy) = false := decide_eq_false g2
        go_wp2_with fail
        go_meet
        exact ActM.no HP.out hJ (by decide) (by decide) (by decide)
      case pos =>
      have d2 : decide (qy ≥ 2) = true := decide_eq_true g2
      have d3 : decide (2 ≤ qy) = true := decide_eq_true g2
      have v1 : IntKind.i64.wrap (qy - 1) = qy - 1 := IntWalk.i64_in _ (by omega)
      go_wp2_with fail
      refine (EsW.nx HN.out (by omega) (by omega) hkb.out).mono ?_
      rintro e wd ⟨vd, rfl, hvd, hod, hkd'⟩
      have hkd := Lib.hid hkd'
      obtain ⟨J2, hJ2, hP2⟩ := hkd'
      have HP2 := Lib.hid hP2
      clear hod y2 hkb z0 HP hP2
      obtain ⟨b3, o3, e3, hb3, ha⟩ := recs_at HP2.out.st.st.lots.recs hi
      injection e3 with e3
      injection e3 with e4 e5
      subst e4 e5
      rw [HXI.out] at ha
      have y2 : wd.cell? ⟨b1, o1 + ix * 5 + 2, none⟩ = some (.int .i64 qy) := by rw [← HQY.out]; exact ha.out 2 (by omega)
      have z0 := (EsW.s hkd.out).1
      have z2 := (EsW.s hkd.out).2.1
      have hfp := HES.out.ok.pos
      have v2 : IntKind.i64.wrap (1 + (vd : Int)) = 1 + (vd : Int) := IntWalk.i64_in _ (by omega)
      obtain ⟨a, ha2⟩ : ∃ a, 1 + (vd : Int) = a := ⟨_, rfl⟩
      rw [ha2] at v2
      have v3 : IntKind.i64.wrap (free + 1) = free + 1 := IntWalk.i64_in _ (by omega)
      have v4 : IntKind.i64.wrap (qy - a) = qy - a := IntWalk.i64_in _ (by omega)
      clear ha
      go_upto_region 33 with (fail)
      go_region
      have hke : Hid (EsW w0 gx gs LA m lc (nextI m I) (some ⟨b1, o1, none⟩) n c bs B k d cs free (wd.alloc (.cells #[.int .i64 free, .int .i64 a, .int .i64 (free + 1), .int .i64 (qy - a)] 94)).drew) := EsW.drew (EsW.alloc hkd.out _)
      have hpe : Hid (Bl (wd.alloc (.cells #[.int .i64 free, .int .i64 a, .int .i64 (free + 1), .int .i64 (qy - a)] 94)).drew wd.heap.size 94 #[.int .i64 free, .int .i64 a, .int .i64 (free + 1), .int .i64 (qy - a)]) := Bl.new _ _ _
      go_upto_region 34 with (fail)
      clear y2 z0 z2 v1 v2 v3 v4 ha2
      generalize (wd.alloc (.cells #[.int .i64 free, .int .i64 a, .int .i64 (free + 1), .int .i64 (qy - a)] 94)).drew = we at *
      generalize wd.heap.size = gp at *
      have z0 := (EsW.s hke.out).1
      have hke0 : Hid (EsW w0 gx gs LA m lc (nextI m I) (some ⟨b1, o1, none⟩) n c bs B k d cs free we.drew) := EsW.drew hke.out
      have hpe0 : Hid (Bl we.drew gp 94 #[.int .i64 free, .int .i64 a, .int .i64 (free + 1), .int .i64 (qy - a)]) := hpe.out
      go_region_held3 (fun w' => w'.cell? ⟨gx, 0, none⟩ = some (.slice (some ⟨b1, o1, none⟩) n c) ∧ EsW w0 gx gs LA m lc (nextI m I) (some ⟨b1, o1, none⟩) n c bs B k d cs free w')
        (first
          | with_reducible exact ⟨(EsW.s hkp.out).1, hkp.out⟩
          | with_reducible exact ⟨(EsW.s hkf.out).1, hkf.out⟩
          | with_reducible exact ⟨(EsW.s hke0.out).1, hke0.out⟩
          | with_reducible exact ⟨(EsW.s hke.out).1, hke.out⟩)
        (first
          | (go_at_call 52; with_reducible (refine (EsW.split hkf.out hpf id _).mono ?_); rintro e wp ⟨B2, d2, er, bs2, rfl, hr, hkp'⟩; have hkp := Lib.hid hkp'; have HR := Lib.hid hr)
          | (go_at_call 10; (refine (EsW.nxt HN.out (by decide) (by decide) hke0.out hpe0.out (by decide)).mono ?_); rintro e wf ⟨vf, rfl, hvf, hpf, hkf'⟩; have hkf := Lib.hid hkf'; have vv : IntKind.i64.wrap (1 + (vf : Int)) = 1 + (vf : Int) := IntWalk.i64_in _ (by omega)))
      all_goals
        obtain ⟨J3, hJ3, hP⟩ := hkp.out
        have HP := Lib.hid hP
        clear hP vv
        go_wp2_with fail
        go_meet
        exact ActM.yes HP.out hJ3 (by decide) (by decide) HR.out
set_option maxRecDepth 100000 in
set_option maxHeartbeats 64000000 in
theorem Act_v5 (w0 w : World) (gx gs : Nat) (LA : Option Addr) (m lc I : Nat) (xs : List Int) (A : Option Addr) (n c : Nat) (bs : List Lb) (B : Option Addr) (k d : Nat) (cs : List Ch) (free : Int) (h : EsM w0 w gx gs LA m lc I A n c bs B k d cs free) (hI : Ints w0 LA m xs) (hv8 : nextV xs m I 8 = 5) (hm : m ≤ 1000000) (hf : free ≤ 100000) (hk : k ≤ 1000) :
    Calls Tryz.prog 25 #[.pointer (some ⟨gx, 0, none⟩), .pointer (some ⟨gs, 0, none⟩)] w fun e w' => e = .returned (.tuple #[]) ∧ ActS w0 gx gs LA m lc I k free w' := by
  have HES := Lib.hid h
  have HN : Hid (NextC w0 gs LA m lc) := fun q J wx hS hb h1 h2 =>
    (next_any gs LA m lc J xs q w0 wx hS hI hb h.base.2 hm h1 h2).mono fun e w' ⟨h3, h4, h5⟩ => ⟨_, h3, (nextV_bounds xs m J q h1).1, (nextV_bounds xs m J q h1).2, h4, h5⟩
  have HSM : Hid (∀ (J : Nat) (wx : World), Src wx gs LA m lc J → RowKit.Below w0.heap.size w0 wx → Calls Tryz.prog 37 #[.pointer (some ⟨gs, 0, none⟩), .int .i64 30, .int .i64 100000] wx (SmlRes wx gs LA m lc J 100000)) := fun J wx hS hb => small29_any gs LA m lc J xs 30 100000 w0 wx hS hI hb h.base.2 hm (by decide) (by decide) (by decide)
  have hc0 : w.cell? ⟨gx, 0, none⟩ = some (.slice A n c) := h.bx.cell 0
  clear h
  go_enter Tryz.func25, Tryz.ntmps25
  go_upto_region 3 with (fail)
  go_wp2_with fail
  refine (next_any gs LA m lc I xs 8 w0 w HES.out.src hI HES.out.below HES.out.base.2 hm (by decide) (by decide)).mono ?_
  rintro e w1 ⟨rfl, ho1, hs1⟩
  rw [hv8]
  go_upto_block 0 with fail
  have HE1 : Hid (EsM w0 w1 gx gs LA m lc (nextI m I) A n c bs B k d cs free) := HES.out.only ho1 hs1
  clear ho1 hs1 hc0
  go_cut [4, 5, 6] (fun nx er us wx => ActM w0 w gx gs LA m lc I A n c bs B k d cs free nx er us wx)
  case rest =>
    obtain ⟨J, A', n', c', bs', ev, u, B', k', d', cs', rfl, rfl, rfl, hu0, hu1, hJ0, hJ1, hbx, hsr, hown, hkl, hbw, hok, hbad⟩ := hcut
    have HBX := Lib.hid hbx
    have HSR := Lib.hid hsr
    have HOW := Lib.hid hown
    have HBW := Lib.hid hbw
    have HOK := Lib.hid hok
    have HBAD := Lib.hid hbad
    have hgg : gx ≠ gs := HE1.out.ne
    clear hbx hsr hown hbw hok hbad
    cases de : (ev == 0)
    case false =>
      have hne : ev ≠ 0 := by simpa using de
      have HNE := Lib.hid hne
      clear hne
      go_wp2
      go_end0
      obtain ⟨h1, h2, h3⟩ := HBAD.out HNE.out
      subst h2 h3
      exact ⟨rfl, J, A, n, c, bs, B', _, d', _, free, ⟨HBX.out, HSR.out, hJ1, h1, HOW.out, hkl, HES.out.ok, HBW.out, HES.out.base⟩, hJ0, by omega, by omega, .inl rfl⟩
    case true =>
      obtain rfl : ev = 0 := by simpa using de
      clear de
      obtain ⟨h1, h2, h3⟩ := HOK.out rfl
      have H1 := Lib.hid h1
      have H2 := Lib.hid h2
      have H3 := Lib.hid h3
      clear h1 h2 h3
      have c0 : wc.cell? ⟨gx, 0, none⟩ = some (.slice A n c) := HBX.out.cell 0
      have c2 : wc.cell? ⟨gx, 2, none⟩ = some (.int .i64 free) := HBX.out.cell 2
      have f0 : wc.frozen? ⟨gx, 0, none⟩ = false := HBX.out.free 0
      have f2 : wc.frozen? ⟨gx, 2, none⟩ = false := HBX.out.free 2
      have hfp := HES.out.ok.pos
      have u1 : IntKind.i64.wrap (free + u) = free + u := IntWalk.i64_in _ (by omega)
      have HX2 : Hid (Bl ((wc.setCell ⟨gx, 0, none⟩ (.slice A' n' c')).setCell ⟨gx, 2, none⟩ (.int .i64 (free + u))) gx 26 #[.slice A' n' c', .slice B' k' d', .int .i64 (free + u)]) := by
        show Bl _ _ _ _
        have := (HBX.out.put 0 (.slice A' n' c')).put 2 (.int .i64 (free + u))
        simpa using this
      have HKP : Hid (Kp gx wc ((wc.setCell ⟨gx, 0, none⟩ (.slice A' n' c')).setCell ⟨gx, 2, none⟩ (.int .i64 (free + u)))) := ((Kp.refl gx wc).put 0 _).put 2 _
      go_wp2
      go_end0
      refine ⟨rfl, J, A', n', c', bs', B', k', d', cs', free + u, ⟨HX2.out, HKP.out.bl HSR.out (fun e => hgg e.symm), hJ1, H1.out.keeps (Keeps.kp HKP.out HBX.out (by decide) (by decide)), own_of_block HOW.out fun g hg => HKP.out.block g (own_lt HOW.out g hg) (fun e => own_far29 HOW.out HBX.out (by decide) (hg.trans (congrArg some e))), hkl, H2.out, HKP.out.under HBW.out HBW.out.size HES.out.base.1, HES.out.base⟩, hJ0, by omega, by omega, H3.out⟩
  case first =>
    · have hk00 : Hid (EsW w0 gx gs LA m lc (nextI m I) A n c bs B k d cs free w1) := ⟨nextI m I, Nat.le_refl _, HE1.out⟩
      go_wp2_with fail
      refine (EsW.nx HN.out (by decide) (by decide) hk00.out).mono ?_
      rintro e wa ⟨va, rfl, hva, hoa, hka'⟩
      have hka := Lib.hid hka'
      clear hoa hka'
      go_wp2_with fail
      refine (EsW.any hka.out _).mono ?_
      rintro e wb ⟨id, rfl, hzb, hkb'⟩
      have hkb := Lib.hid hkb'
      clear hzb hkb' hka
      obtain ⟨J, hJ, hP⟩ := hkb.out
      have HP := Lib.hid hP
      have hbl : bs.length = n := hP.st.len
      have hn64 : n ≤ 64 := by have := hP.ok.few; omega
      have z0 := (EsW.s hkb.out).1
      clear hP
      go_wp2_with fail
      refine (At_any A n c bs id wb HP.out.st.st.lots.recs (by omega)).mono ?_
      rintro e wc ⟨rfl, ⟨rfl, hno⟩ | ⟨ix, hi, rfl, hid⟩⟩
      · clear hno
        go_wp2_with fail
        go_meet
        exact ActM.no HP.out hJ (by decide) (by decide) (by decide)
      obtain ⟨b1, o1, rfl, hb1, ha⟩ := recs_at HP.out.st.st.lots.recs hi
      obtain ⟨x, hx⟩ : ∃ x, bs[ix]! = x := ⟨_, rfl⟩
      rw [hx] at ha
      have y2 : wc.cell? ⟨b1, o1 + ix * 5 + 2, none⟩ = some (.int .i64 x.x.qty) := ha.out 2 (by omega)
      have hxq := (HP.out.ok.ok x (by rw [← hx, getElem!_pos bs ix (by omega)]; exact List.getElem_mem _)).qty
      have HXI := Lib.hid hx
      obtain ⟨qy, hqy⟩ : ∃ qy, x.x.qty = qy := ⟨_, rfl⟩
      have HQY := Lib.hid hqy
      rw [hqy] at y2 hxq
      have hii : (ix : Int) < (n : Int) := by omega
      have hiz : (0 : Int) ≤ (ix : Int) := by omega
      have dge : decide ((ix : Int) ≥ 0) = true := by simp
      clear ha hx hid hqy
      by_cases g2 : qy ≥ 2
      case neg =>
        have d2 : decide (qy ≥ 2) = false := decide_eq_false g2
        have d3 : decide (2 ≤ qy) = false := decide_eq_false g2
        go_wp2_with fail
        go_meet
        exact ActM.no HP.out hJ (by decide) (by decide) (by decide)
      case pos =>
      have d2 : decide (qy ≥ 2) = true := decide_eq_true g2
      have d3 : decide (2 ≤ qy) = true := decide_eq_true g2
      have v1 : IntKind.i64.wrap (qy - 1) = qy - 1 := IntWalk.i64_in _ (by omega)
      go_wp2_with fail
      refine (EsW.nx HN.out (by omega) (by omega) hkb.out).mono ?_
      rintro e wd ⟨vd, rfl, hvd, hod, hkd'⟩
      have hkd := Lib.hid hkd'
      obtain ⟨J2, hJ2, hP2⟩ := hkd'
      have HP2 := Lib.hid hP2
      clear hod y2 hkb z0 HP hP2
      obtain ⟨b3, o3, e3, hb3, ha⟩ := recs_at HP2.out.st.st.lots.recs hi
      injection e3 with e3
      injection e3 with e4 e5
      subst e4 e5
      rw [HXI.out] at ha
      have y2 : wd.cell? ⟨b1, o1 + ix * 5 + 2, none⟩ = some (.int .i64 qy) := by rw [← HQY.out]; exact ha.out 2 (by omega)
      have z0 := (EsW.s hkd.out).1
      have z2 := (EsW.s hkd.out).2.1
      have hfp := HES.out.ok.pos
      have v2 : IntKind.i64.wrap (1 + (vd : Int)) = 1 + (vd : Int) := IntWalk.i64_in _ (by omega)
      obtain ⟨a, ha2⟩ : ∃ a, 1 + (vd : Int) = a := ⟨_, rfl⟩
      rw [ha2] at v2
      have v3 : IntKind.i64.wrap (free + 1) = free + 1 := IntWalk.i64_in _ (by omega)
      have v4 : IntKind.i64.wrap (qy - a) = qy - a := IntWalk.i64_in _ (by omega)
      clear ha
      go_upto_region 33 with (fail)
      go_region
      have hke : Hid (EsW w0 gx gs LA m lc (nextI m I) (some ⟨b1, o1, none⟩) n c bs B k d cs free (wd.alloc (.cells #[.int .i64 free, .int .i64 a, .int .i64 (free + 1), .int .i64 (qy - a)] 94)).drew) := EsW.drew (EsW.alloc hkd.out _)
      have hpe : Hid (Bl (wd.alloc (.cells #[.int .i64 free, .int .i64 a, .int .i64 (free + 1), .int .i64 (qy - a)] 94)).drew wd.heap.size 94 #[.int .i64 free, .int .i64 a, .int .i64 (free + 1), .int .i64 (qy - a)]) := Bl.new _ _ _
      go_upto_region 34 with (fail)
      clear y2 z0 z2 v1 v2 v3 v4 ha2
      generalize (wd.alloc (.cells #[.int .i64 free, .int .i64 a, .int .i64 (free + 1), .int .i64 (qy - a)] 94)).drew = we at *
      generalize wd.heap.size = gp at *
      have z0 := (EsW.s hke.out).1
      have hke0 : Hid (EsW w0 gx gs LA m lc (nextI m I) (some ⟨b1, o1, none⟩) n c bs B k d cs free we.drew) := EsW.drew hke.out
      have hpe0 : Hid (Bl we.drew gp 94 #[.int .i64 free, .int .i64 a, .int .i64 (free + 1), .int .i64 (qy - a)]) := hpe.out
      go_region_held3 (fun w' => w'.cell? ⟨gx, 0, none⟩ = some (.slice (some ⟨b1, o1, none⟩) n c) ∧ EsW w0 gx gs LA m lc (nextI m I) (some ⟨b1, o1, none⟩) n c bs B k d cs free w')
        (first
          | with_reducible exact ⟨(EsW.s hkp.out).1, hkp.out⟩
          | with_reducible exact ⟨(EsW.s hkf.out).1, hkf.out⟩
          | with_reducible exact ⟨(EsW.s hke0.out).1, hke0.out⟩
          | with_reducible exact ⟨(EsW.s hke.out).1, hke.out⟩)
        (first
          | (go_at_call 52; with_reducible (refine (EsW.split hkf.out hpf id _).mono ?_); rintro e wp ⟨B2, d2, er, bs2, rfl, hr, hkp'⟩; have hkp := Lib.hid hkp'; have HR := Lib.hid hr)
          | (go_at_call 10; (refine (EsW.nxt HN.out (by decide) (by decide) hke0.out hpe0.out (by decide)).mono ?_); rintro e wf ⟨vf, rfl, hvf, hpf, hkf'⟩; have hkf := Lib.hid hkf'; have vv : IntKind.i64.wrap (1 + (vf : Int)) = 1 + (vf : Int) := IntWalk.i64_in _ (by omega)))
      all_goals
        obtain ⟨J3, hJ3, hP⟩ := hkp.out
        have HP := Lib.hid hP
        clear hP vv
        go_wp2_with fail
        go_meet
        exact ActM.yes HP.out hJ3 (by decide) (by decide) HR.out
set_option maxRecDepth 100000 in
set_option maxHeartbeats 64000000 in
theorem Act_v6 (w0 w : World) (gx gs : Nat) (LA : Option Addr) (m lc I : Nat) (xs : List Int) (A : Option Addr) (n c : Nat) (bs : List Lb) (B : Option Addr) (k d : Nat) (cs : List Ch) (free : Int) (h : EsM w0 w gx gs LA m lc I A n c bs B k d cs free) (hI : Ints w0 LA m xs) (hv8 : nextV xs m I 8 = 6) (hm : m ≤ 1000000) (hf : free ≤ 100000) (hk : k ≤ 1000) :
    Calls Tryz.prog 25 #[.pointer (some ⟨gx, 0, none⟩), .pointer (some ⟨gs, 0, none⟩)] w fun e w' => e = .returned (.tuple #[]) ∧ ActS w0 gx gs LA m lc I k free w' := by
  have HES := Lib.hid h
  have HN : Hid (NextC w0 gs LA m lc) := fun q J wx hS hb h1 h2 =>
    (next_any gs LA m lc J xs q w0 wx hS hI hb h.base.2 hm h1 h2).mono fun e w' ⟨h3, h4, h5⟩ => ⟨_, h3, (nextV_bounds xs m J q h1).1, (nextV_bounds xs m J q h1).2, h4, h5⟩
  have HSM : Hid (∀ (J : Nat) (wx : World), Src wx gs LA m lc J → RowKit.Below w0.heap.size w0 wx → Calls Tryz.prog 37 #[.pointer (some ⟨gs, 0, none⟩), .int .i64 30, .int .i64 100000] wx (SmlRes wx gs LA m lc J 100000)) := fun J wx hS hb => small29_any gs LA m lc J xs 30 100000 w0 wx hS hI hb h.base.2 hm (by decide) (by decide) (by decide)
  have hc0 : w.cell? ⟨gx, 0, none⟩ = some (.slice A n c) := h.bx.cell 0
  clear h
  go_enter Tryz.func25, Tryz.ntmps25
  go_upto_region 3 with (fail)
  go_wp2_with fail
  refine (next_any gs LA m lc I xs 8 w0 w HES.out.src hI HES.out.below HES.out.base.2 hm (by decide) (by decide)).mono ?_
  rintro e w1 ⟨rfl, ho1, hs1⟩
  rw [hv8]
  go_upto_block 0 with fail
  have HE1 : Hid (EsM w0 w1 gx gs LA m lc (nextI m I) A n c bs B k d cs free) := HES.out.only ho1 hs1
  clear ho1 hs1 hc0
  go_cut [4, 5, 6] (fun nx er us wx => ActM w0 w gx gs LA m lc I A n c bs B k d cs free nx er us wx)
  case rest =>
    obtain ⟨J, A', n', c', bs', ev, u, B', k', d', cs', rfl, rfl, rfl, hu0, hu1, hJ0, hJ1, hbx, hsr, hown, hkl, hbw, hok, hbad⟩ := hcut
    have HBX := Lib.hid hbx
    have HSR := Lib.hid hsr
    have HOW := Lib.hid hown
    have HBW := Lib.hid hbw
    have HOK := Lib.hid hok
    have HBAD := Lib.hid hbad
    have hgg : gx ≠ gs := HE1.out.ne
    clear hbx hsr hown hbw hok hbad
    cases de : (ev == 0)
    case false =>
      have hne : ev ≠ 0 := by simpa using de
      have HNE := Lib.hid hne
      clear hne
      go_wp2
      go_end0
      obtain ⟨h1, h2, h3⟩ := HBAD.out HNE.out
      subst h2 h3
      exact ⟨rfl, J, A, n, c, bs, B', _, d', _, free, ⟨HBX.out, HSR.out, hJ1, h1, HOW.out, hkl, HES.out.ok, HBW.out, HES.out.base⟩, hJ0, by omega, by omega, .inl rfl⟩
    case true =>
      obtain rfl : ev = 0 := by simpa using de
      clear de
      obtain ⟨h1, h2, h3⟩ := HOK.out rfl
      have H1 := Lib.hid h1
      have H2 := Lib.hid h2
      have H3 := Lib.hid h3
      clear h1 h2 h3
      have c0 : wc.cell? ⟨gx, 0, none⟩ = some (.slice A n c) := HBX.out.cell 0
      have c2 : wc.cell? ⟨gx, 2, none⟩ = some (.int .i64 free) := HBX.out.cell 2
      have f0 : wc.frozen? ⟨gx, 0, none⟩ = false := HBX.out.free 0
      have f2 : wc.frozen? ⟨gx, 2, none⟩ = false := HBX.out.free 2
      have hfp := HES.out.ok.pos
      have u1 : IntKind.i64.wrap (free + u) = free + u := IntWalk.i64_in _ (by omega)
      have HX2 : Hid (Bl ((wc.setCell ⟨gx, 0, none⟩ (.slice A' n' c')).setCell ⟨gx, 2, none⟩ (.int .i64 (free + u))) gx 26 #[.slice A' n' c', .slice B' k' d', .int .i64 (free + u)]) := by
        show Bl _ _ _ _
        have := (HBX.out.put 0 (.slice A' n' c')).put 2 (.int .i64 (free + u))
        simpa using this
      have HKP : Hid (Kp gx wc ((wc.setCell ⟨gx, 0, none⟩ (.slice A' n' c')).setCell ⟨gx, 2, none⟩ (.int .i64 (free + u)))) := ((Kp.refl gx wc).put 0 _).put 2 _
      go_wp2
      go_end0
      refine ⟨rfl, J, A', n', c', bs', B', k', d', cs', free + u, ⟨HX2.out, HKP.out.bl HSR.out (fun e => hgg e.symm), hJ1, H1.out.keeps (Keeps.kp HKP.out HBX.out (by decide) (by decide)), own_of_block HOW.out fun g hg => HKP.out.block g (own_lt HOW.out g hg) (fun e => own_far29 HOW.out HBX.out (by decide) (hg.trans (congrArg some e))), hkl, H2.out, HKP.out.under HBW.out HBW.out.size HES.out.base.1, HES.out.base⟩, hJ0, by omega, by omega, H3.out⟩
  case first =>
    · go_upto_region 37 with (fail)
      have hk0 : Hid (EsW w0 gx gs LA m lc (nextI m I) A n c bs B k d cs free w1.drew) := EsW.drew ⟨nextI m I, Nat.le_refl _, HE1.out⟩
      have hk00 : Hid (EsW w0 gx gs LA m lc (nextI m I) A n c bs B k d cs free w1) := ⟨nextI m I, Nat.le_refl _, HE1.out⟩
      have z0 := (EsW.s hk00.out).1
      have z2 := (EsW.s hk00.out).2.1
      go_region_held3 (fun w' => w'.cell? ⟨gx, 0, none⟩ = some (.slice A n c) ∧ w'.cell? ⟨gx, 2, none⟩ = some (.int .i64 free) ∧ EsW w0 gx gs LA m lc (nextI m I) A n c bs B k d cs free w')
        (first
          | with_reducible exact EsW.s hkp.out
          | with_reducible exact EsW.s hkd.out
          | with_reducible exact EsW.s (EsW.alloc hkd.out _)
          | with_reducible exact EsW.s hkc.out
          | with_reducible exact EsW.s hkb.out
          | with_reducible exact EsW.s hka.out
          | with_reducible exact EsW.s hk0.out
          | with_reducible exact EsW.s hk00.out)
        (first
          | (go_at_call 53; (refine (EsW.merge (EsW.alloc hkd.out _) (Bl.new _ _ _)).mono ?_); rintro e wp ⟨B2, d2, er, bs2, rfl, hr, hkp'⟩; have hkp := Lib.hid hkp'; have HR := Lib.hid hr)
          | (go_at_call 50; with_reducible (refine (EsW.any hkc.out _).mono ?_); rintro e wd ⟨id, rfl, hzd, hkd'⟩; have hkd := Lib.hid hkd')
          | (go_at_call 10; with_reducible (refine (EsW.nx HN.out (by decide) (by decide) hkb.out).mono ?_); rintro e wc ⟨vc, rfl, hvc, hoc, hkc'⟩; have hkc := Lib.hid hkc')
          | (go_at_call 50; with_reducible (refine (EsW.any hka.out _).mono ?_); rintro e wb ⟨ib, rfl, hzb, hkb'⟩; have hkb := Lib.hid hkb')
          | (go_at_call 10; with_reducible (refine (EsW.nx HN.out (by decide) (by decide) hk0.out).mono ?_); rintro e wa ⟨va, rfl, hva, hoa, hka'⟩; have hka := Lib.hid hka'))
      all_goals
        obtain ⟨J, hJ, hP⟩ := hkp.out
        have HP := Lib.hid hP
        clear hP
        go_wp2_with fail
        go_meet
        exact ActM.yes HP.out hJ (by decide) (by decide) HR.out
end Go.Proofs.YthnhgjhnkncmiaaGreat

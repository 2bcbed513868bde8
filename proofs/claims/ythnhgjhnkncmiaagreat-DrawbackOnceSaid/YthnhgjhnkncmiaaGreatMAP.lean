/-
  Contract of the reference's Process (customsref27) at an estate. No statement of the seat is proved here. Conditions: the estate is sound, the recipe is one of the estate's; the outputs' numbers ascend from the estate's next one on.
-/
import Derived.Test.YthnhgjhnkncmiaaGreatMAO
import Derived.BigQuiet
import Derived.StillTailTactics
namespace Go.Proofs.YthnhgjhnkncmiaaGreat
open Go.RowKit
set_option linter.unusedVariables false

theorem infoNd : (Tryz.prog.info? 105).map (fun i => (i.zero, i.size, i.bytes)) = some (some (.agg #[.string ⟨#[]⟩, .int .i64 0]), 2, 24) := by kernel_rfl
theorem isum_take {l : List Int} {i : Nat} (h : i < l.length) : (l.take (i + 1)).sum = (l.take i).sum + l.getD i 0 := by
  rw [List.take_add_one, List.getElem?_eq_getElem h, Option.toList_some, List.sum_append, List.getD_eq_getElem?_getD, List.getElem?_eq_getElem h]
  simp
theorem isum_mono {l : List Int} (h : ∀ q ∈ l, 0 ≤ q) (i : Nat) : 0 ≤ (l.take i).sum ∧ (l.take i).sum ≤ l.sum := by
  have key : ∀ l : List Int, (∀ q ∈ l, 0 ≤ q) → 0 ≤ l.sum := fun l => by
    induction l with
    | nil => intro _; simp
    | cons y ys ih =>
      intro hl
      have h1 := ih fun q hq => hl q (by simp [hq])
      have h2 := hl y (by simp)
      simp only [List.sum_cons]
      omega
  have h1 := key (l.take i) fun q hq => h q (List.mem_of_mem_take hq)
  have h2 := key (l.drop i) fun q hq => h q (List.mem_of_mem_drop hq)
  have h3 : l.sum = (l.take i).sum + (l.drop i).sum := by
    conv => lhs; rw [← List.take_append_drop i l, List.sum_append]
  omega
theorem mul_bd {a b : Int} (h1 : 1 ≤ a) (h2 : a ≤ 1000) (h3 : 1 ≤ b) (h4 : b ≤ 1000) : 1 ≤ a * b ∧ a * b ≤ 1000000 := by
  have e1 : 1 * 1 ≤ a * b := Int.mul_le_mul h1 h3 (by omega) (by omega)
  have e2 : a * b ≤ 1000 * 1000 := Int.mul_le_mul h2 h4 (by omega) (by omega)
  omega
set_option maxRecDepth 100000 in
set_option maxHeartbeats 64000000 in
theorem Process_any (A : Option Addr) (n c : Nat) (bs : List Lb) (cs : List Ch) (free free' rid : Int) (IA : Option Addr) (ni ci : Nat) (ins : List Nd) (OA : Option Addr) (no co : Nat) (outs : List Nd) (SA : Option Addr) (ns cs2 : Nat) (sc : List Int) (bt : Int) (P : Option Addr) (m pc : Nat) (xs : List Int) (O : Option Addr) (oc : Nat) (os : List Int) (w : World)
    (h : StM w A n c bs) (he : EstOk (lotsOf bs) cs free) (hrc : RcAt w IA ni ci ins OA no co outs SA ns cs2 sc) (hrk : RcOk rid ins outs sc) (hps : Ints w P m xs) (hm : m ≤ 2) (hmc : m ≤ pc) (hpm : pc ≤ 9223372036854775807) (hos : Ints w O no os) (hoc : no ≤ oc) (hom : oc ≤ 9223372036854775807) (hasc : os.Pairwise (· < ·)) (hfr : ∀ o ∈ os, free ≤ o ∧ o < free') (hff : free ≤ free') :
    Calls Tryz.prog 55 #[.slice A n c, .agg #[.int .i64 rid, .slice IA ni ci, .slice OA no co, .slice SA ns cs2], .int .i64 bt, .slice P m pc, .slice O no oc] w (ActR w fun s => EstOk s cs free') := by
  have HX := Lib.hid h
  have HE := Lib.hid he
  have HI := Lib.hid hps
  have HOS := Lib.hid hos
  have HASC := Lib.hid hasc
  have HFR := Lib.hid hfr
  have HFF := Lib.hid hff
  have HRC := Lib.hid hrc
  have HRK := Lib.hid hrk
  have hpl : xs.length = m := hps.1
  have hol : os.length = no := hos.1
  have h1l : ins.length = ni := hrc.ins.1
  have h2l : outs.length = no := hrc.outs.1
  have h3l : sc.length = ns := hrc.sc.1
  have hni := hrk.ni
  have hno := hrk.no
  have hns := hrk.ns
  have hbl : bs.length = n := h.len
  have hn : n ≤ 64 := by have := he.few; omega
  have HEO := Lib.hid he.ok
  have HSK := Lib.hid Stock_any
  have HAT := Lib.hid At_any
  have HHA := Lib.hid Has_any
  have HRP := Lib.hid Recipe_any
  have HQT := Lib.hid quantity_any
  have HMD := Lib.hid rmuldivG_any
  have HBT := Lib.hid Between_any
  have HTK : Hid (∀ o ∈ os, ∀ wx, StAt wx A n bs → Calls Tryz.prog 74 #[.slice A n c, .int .i64 o] wx fun e w' => e = .returned (.bool false) ∧ w' = wx) := fun o ho wx hx => Taken_no A n c bs o wx hx (by omega) fun b hb => by
    have h1 := (hfr o ho).1
    have h2 := he.idb b hb
    refine ⟨by omega, fun y hy => ?_⟩
    have := he.srcs b.x (List.mem_map.2 ⟨b, hb, rfl⟩) y hy
    omega
  have HWO := Lib.hid Without_any
  have HPU := Lib.hid Put_any
  have hpos : 1 ≤ free := he.pos
  have HRX : Hid (Bl (w.alloc (.cells #[.int .i64 rid, .slice IA ni ci, .slice OA no co, .slice SA ns cs2] 100)) w.heap.size 100 #[.int .i64 rid, .slice IA ni ci, .slice OA no co, .slice SA ns cs2]) := Bl.new _ _ _
  have HB0 : Hid (RowKit.Below w.heap.size w (w.alloc (.cells #[.int .i64 rid, .slice IA ni ci, .slice OA no co, .slice SA ns cs2] 100))) := (Below.refl _ _).alloc (Nat.le_refl _) _
  clear h he hps hos hasc hfr hff hrc hrk
  go_enter Tryz.func55, Tryz.ntmps55
  go_upto_region 1 with (fail)
  generalize w.alloc (.cells #[.int .i64 rid, .slice IA ni ci, .slice OA no co, .slice SA ns cs2] 100) = w0 at *
  obtain ⟨gr, hgr⟩ : ∃ gr, w.heap.size = gr := ⟨_, rfl⟩
  rw [hgr] at HRX ⊢
  have HGR := Lib.hid hgr
  clear hgr
  go_wp2_with fail
  refine (HSK.out A n c bs w0 (HX.out.st.below HB0.out) hn HEO.out).mono ?_
  rintro e w1 ⟨er, rfl, hb1⟩
  have HB1 : Hid (RowKit.Below w.heap.size w w1) := HB0.out.trans (hb1.mono HB0.out.size)
  have HRX1 : Hid (Bl w1 gr 100 #[.int .i64 rid, .slice IA ni ci, .slice OA no co, .slice SA ns cs2]) := (hb1.block gr HRX.out.lt).trans HRX.out
  clear hb1 HSK HB0 HRX HEO
  have c0 : w1.cell? ⟨gr, 0, none⟩ = some (.int .i64 rid) := HRX1.out.cell 0
  have c1 : w1.cell? ⟨gr, 1, none⟩ = some (.slice IA ni ci) := HRX1.out.cell 1
  have c2 : w1.cell? ⟨gr, 2, none⟩ = some (.slice OA no co) := HRX1.out.cell 2
  have c3 : w1.cell? ⟨gr, 3, none⟩ = some (.slice SA ns cs2) := HRX1.out.cell 3
  cases de : (er == 0)
  case false =>
    have hne : er ≠ 0 := by simpa using de
    have HNE := Lib.hid hne
    clear hne
    go_wp2
    go_ret2
    exact ActR.bad HNE.out HB1.out
  case true =>
  obtain rfl : er = 0 := by simpa using de
  clear de
  have HRC1 : Hid (RcAt w1 IA ni ci ins OA no co outs SA ns cs2 sc) := HRC.out.below HB1.out
  go_wp2_with fail
  refine (HRP.out rid IA ni ci ins OA no co outs SA ns cs2 sc w1 HRC1.out HRK.out).mono ?_
  rintro e w2 ⟨er, rfl, hb2⟩
  have HB2 : Hid (RowKit.Below w.heap.size w w2) := HB1.out.trans (hb2.mono HB1.out.size)
  have HRX2 : Hid (Bl w2 gr 100 #[.int .i64 rid, .slice IA ni ci, .slice OA no co, .slice SA ns cs2]) := (hb2.block gr HRX1.out.lt).trans HRX1.out
  clear hb2 HRP HB1 HRX1 HRC1 c0 c1 c2 c3
  cases de : (er == 0)
  case false =>
    have hne : er ≠ 0 := by simpa using de
    have HNE := Lib.hid hne
    clear hne
    go_wp2
    go_ret2
    exact ActR.bad HNE.out HB2.out
  case true =>
  obtain rfl : er = 0 := by simpa using de
  clear de
  have c2 : w2.cell? ⟨gr, 2, none⟩ = some (.slice OA no co) := HRX2.out.cell 2
  by_cases g1 : bt < 1
  case pos =>
    have d1 : decide (bt < 1) = true := decide_eq_true g1
    go_wp2
    go_ret2
    exact ActR.bad (by decide) HB2.out
  case neg =>
  have d1 : decide (bt < 1) = false := decide_eq_false g1
  by_cases g2 : bt > 1000
  case pos =>
    have d2 : decide (bt > 1000) = true := decide_eq_true g2
    go_wp2
    go_ret2
    exact ActR.bad (by decide) HB2.out
  case neg =>
  have d2 : decide (bt > 1000) = false := decide_eq_false g2
  by_cases g3 : m < 1
  case pos =>
    have d3 : decide ((m : Int) < 1) = true := by simp; omega
    go_wp2
    go_ret2
    exact ActR.bad (by decide) HB2.out
  case neg =>
  have d3 : decide ((m : Int) < 1) = false := by simp; omega
  have d4 : decide ((m : Int) > 16) = false := by simp; omega
  have d5 : decide (16 < m) = false := by simp; omega
  have d6 : decide (m < 1) = false := by simp; omega
  have d7 : ((no : Int) == (no : Int)) = true := by simp
  go_wp2_with fail
  clear c2 d1 d2 d3 d4 d5 d6 d7
  go_loopw [13] (fun v wx => ∃ i : Nat, v = .int .i64 (i : Int) ∧ i ≤ no ∧ wx = w2 ∧ Hid (∀ j, j < i → os.getD j 0 ≤ 1000000)) (fun v _ => no - (intOf v).toNat)
  case atStart => exact ⟨0, rfl, Nat.zero_le _, rfl, (fun j hj => by omega)⟩
  case round =>
    obtain ⟨i, rfl, hi2, hwr, HN⟩ := hrel
    subst hwr
    by_cases hlt : i < no
    case pos =>
      have dk : decide ((i : Int) < (no : Int)) = true := by simp; omega
      obtain ⟨b2, o2, z, rfl, hb2, hc, HZI⟩ := (HOS.out.below HB2.out).get hlt
      have hz : free ≤ z := (HFR.out z (by
        rw [← HZI.out, List.getD_eq_getElem?_getD, List.getElem?_eq_getElem (show i < os.length by omega)]
        exact List.getElem_mem _)).1
      have hii : (i : Int) < (no : Int) := by omega
      have hiz : (0 : Int) ≤ (i : Int) := by omega
      have d1 : decide (z < 1) = false := by simp; omega
      by_cases g4 : z > 1000000
      case pos =>
        have d2 : decide (z > 1000000) = true := decide_eq_true g4
        go_wp2
        go_ret2
        exact ActR.bad (by decide) HB2.out
      case neg =>
        have d2 : decide (z > 1000000) = false := decide_eq_false g4
        have HN2 : Hid (∀ j, j < i + 1 → os.getD j 0 ≤ 1000000) := fun j hj => by
          by_cases e : j = i
          · subst e; rw [HZI.out]; omega
          · exact HN.out j (by omega)
        clear g4
        go_wp2_with fail
        go_roundw
        case rel => exact ⟨i + 1, by go_num, by omega, trivial, HN2⟩
        case measure => simp [intOf]; omega
    case neg =>
    have dk : decide ((i : Int) < (no : Int)) = false := by simp; omega
    have HO6 : Hid (∀ o ∈ os, o ≤ 1000000) := fun o ho => by
      obtain ⟨j, hj, rfl⟩ := List.getElem_of_mem ho
      have := HN.out j (by omega)
      rwa [List.getD_eq_getElem?_getD, List.getElem?_eq_getElem hj] at this
    clear HN
    go_wp2_with fail
    go_loopw [14] (fun v wx => ∃ i : Nat, v = .int .i64 (i : Int) ∧ i ≤ m ∧ wx = wr ∧ Hid (∀ j, j < i → ∃ x ∈ bs, x.x.id = xs.getD j 0)) (fun v _ => m - (intOf v).toNat)
    case atStart => exact ⟨0, rfl, Nat.zero_le _, rfl, (fun j hj => by omega)⟩
    case round =>
      clear dk hi2
      obtain ⟨i, rfl, hi2, hwr, HN⟩ := hrel
      subst hwr
      by_cases hlt : i < m
      case pos =>
        have dk : decide ((i : Int) < (m : Int)) = true := by simp; omega
        obtain ⟨b2, o2, z, rfl, hb2, hc, HZI⟩ := (HI.out.below HB2.out).get hlt
        have hii : (i : Int) < (m : Int) := by omega
        have hiz : (0 : Int) ≤ (i : Int) := by omega
        have HRW : Hid (Recs encL 5 wr A n bs) := HX.out.st.lots.recs.below HB2.out
        go_wp2_with fail
        refine (HAT.out A n c bs z wr HRW.out (by omega)).mono ?_
        rintro e w8 ⟨rfl, ⟨rfl, hno⟩ | ⟨ix, hi, rfl, hid⟩⟩
        · clear hno
          go_wp2
          go_ret2
          exact ActR.bad (by decide) HB2.out
        have di : decide ((ix : Int) < 0) = false := decide_eq_false (by omega)
        have HN2 : Hid (∀ j, j < i + 1 → ∃ x ∈ bs, x.x.id = xs.getD j 0) := fun j hj => by
          by_cases e : j = i
          · subst e
            exact ⟨bs[ix]!, by rw [getElem!_pos bs ix (by omega)]; exact List.getElem_mem _, by rw [hid, HZI.out]⟩
          · exact HN.out j (by omega)
        clear hid hi
        go_wp2_with fail
        go_roundw
        case rel => exact ⟨i + 1, by go_num, by omega, trivial, HN2⟩
        case measure => simp [intOf]; omega
      case neg =>
      have dk : decide ((i : Int) < (m : Int)) = false := by simp; omega
      have HAL : Hid (∀ j, j < m → ∃ x ∈ bs, x.x.id = xs.getD j 0) := fun j hj => HN.out j (by omega)
      clear HN
      go_wp2_with fail
      go_loopw [15] (fun v wx => ∃ i : Nat, v = .int .i64 (i : Int) ∧ i ≤ m ∧ Hid (∀ j, j < i → xs.getD j 0 ∉ xs.take j) ∧ Hid (RowKit.Below wr.heap.size wr wx)) (fun v _ => m - (intOf v).toNat)
      case atStart => exact ⟨0, rfl, Nat.zero_le _, (fun j hj => by omega), Below.refl _ _⟩
      case round =>
        clear dk hi2
        obtain ⟨i, rfl, hi2, HN, HBR⟩ := hrel
        obtain ⟨wz, hwz⟩ : ∃ wz, wz = wr := ⟨_, rfl⟩
        by_cases hlt : i < m
        case pos =>
          have dk : decide ((i : Int) < (m : Int)) = true := by simp; omega
          have HBR7 := Lib.hid HBR.out.drew
          have HB7 : Hid (RowKit.Below w.heap.size w wr.drew) := HB2.out.trans (HBR7.out.mono HB2.out.size)
          obtain ⟨b2, o2, z, rfl, hb2, hc, HZI⟩ := (HI.out.below HB7.out).get hlt
          have HP7 : Hid (Ints wr.drew (some ⟨b2, o2, none⟩) i (xs.take i)) := (HI.out.below HB7.out).take (by omega)
          have hii : (i : Int) < (m : Int) := by omega
          have hiz : (0 : Int) ≤ (i : Int) := by omega
          have hik : i ≤ pc := by omega
          have hikk : (i : Int) ≤ (pc : Int) := by omega
          clear hwz
          go_upto_region 21 with (fail)
          go_still_tail 7, (by kernel_rfl)
          change wpList _ _ _ _ _ wr.drew
          clear HBR
          generalize wr.drew = W7 at *
          go_wp2_with fail
          refine (HHA.out (some ⟨b2, o2, none⟩) i pc (xs.take i) z W7 HP7.out (by omega)).mono ?_
          rintro e w8 ⟨rfl, ⟨rfl, hin⟩ | ⟨rfl, hin⟩⟩
          · clear hin
            go_wp2
            go_ret2
            exact ActR.bad (by decide) HB7.out
          have HN2 : Hid (∀ j, j < i + 1 → xs.getD j 0 ∉ xs.take j) := fun j hj => by
            by_cases e : j = i
            · subst e; rw [HZI.out]; exact hin
            · exact HN.out j (by omega)
          clear hin
          go_wp2_with fail
          go_roundw
          case rel => exact ⟨i + 1, by go_num, by omega, HN2, HBR7⟩
          case measure => simp [intOf]; omega
        case neg =>
        have dk : decide ((i : Int) < (m : Int)) = false := by simp; omega
        have HND : Hid (xs.Nodup) := nodup_take29 fun j hj => HN.out j (by omega)
        have HRX3 : Hid (Bl wr gr 100 #[.int .i64 rid, .slice IA ni ci, .slice OA no co, .slice SA ns cs2]) := (HBR.out.block gr HRX2.out.lt).trans HRX2.out
        have HB3 : Hid (RowKit.Below w.heap.size w wr) := HB2.out.trans (HBR.out.mono HB2.out.size)
        clear HN HRX2 HB2 HBR hwz
        go_wp2_with fail
        go_loopw [16] (fun v wx => ∃ i : Nat, v = .int .i64 (i : Int) ∧ i ≤ no ∧ Hid (RowKit.Below w.heap.size w wx) ∧ Hid (Bl wx gr 100 #[.int .i64 rid, .slice IA ni ci, .slice OA no co, .slice SA ns cs2])) (fun v _ => no - (intOf v).toNat)
        case atStart => exact ⟨0, rfl, Nat.zero_le _, HB3.out, HRX3.out⟩
        case round =>
          clear dk hi2 HB3 HRX3
          obtain ⟨i, rfl, hi2, HB3, HRX3⟩ := hrel
          by_cases hlt : i < no
          case pos =>
            have dk : decide ((i : Int) < (no : Int)) = true := by simp; omega
            obtain ⟨b2, o2, z, rfl, hb2, hc, HZI⟩ := (HOS.out.below HB3.out).get hlt
            have HZM : Hid (z ∈ os) := by
              show _ ∈ _
              rw [← HZI.out, List.getD_eq_getElem?_getD, List.getElem?_eq_getElem (show i < os.length by omega)]
              exact List.getElem_mem _
            have HNI : Hid (z ∉ os.take i) := fun hm => by
              obtain ⟨j, hj, e⟩ := List.getElem_of_mem hm
              rw [List.length_take] at hj
              rw [List.getElem_take] at e
              have h1 := List.pairwise_iff_getElem.1 HASC.out j i (by omega) (by omega) (by omega)
              have h2 := HZI.out
              rw [List.getD_eq_getElem?_getD, List.getElem?_eq_getElem (show i < os.length by omega)] at h2
              have h3 : os[i] = z := h2
              omega
            have HPZ : Hid (∀ q, Ints (wr.drewN q) (some ⟨b2, o2, none⟩) i (os.take i)) := fun q => ((HOS.out.below HB3.out).take (by omega)).drewN q
            have HHZ : Hid (∀ q, Calls Tryz.prog 81 #[.slice (some ⟨b2, o2, none⟩) i oc, .int .i64 z] (wr.drewN q) fun e w' => e = .returned (.bool false) ∧ w' = wr.drewN q) := fun q => (HHA.out (some ⟨b2, o2, none⟩) i oc (os.take i) z (wr.drewN q) (HPZ.out q) (by omega)).mono fun e w' ⟨h1, h2⟩ => by
              rcases h2 with ⟨_, h2⟩ | ⟨h2, _⟩
              · exact absurd h2 HNI.out
              · exact ⟨h2, h1⟩
            have HSZ : Hid (∀ q, Calls Tryz.prog 74 #[.slice A n c, .int .i64 z] (wr.drewN q) fun e w' => e = .returned (.bool false) ∧ w' = wr.drewN q) := fun q => HTK.out z HZM.out _ (HX.out.st.below (below_drewN HB3.out q))
            have hii : (i : Int) < (no : Int) := by omega
            have hiz : (0 : Int) ≤ (i : Int) := by omega
            have hik : i ≤ oc := by omega
            have hikk : (i : Int) ≤ (oc : Int) := by omega
            go_upto_region 26 with (fail)
            go_quiet (first | (go_at_call 81; exact Calls.quiet_of_same (HHZ.out _)) | (go_at_call 74; exact Calls.quiet_of_same (HSZ.out _)))
            go_wp2_with fail
            go_roundw
            case rel => exact ⟨i + 1, by go_num, by omega, below_drewN HB3.out _, HRX3.out⟩
            case measure => simp [intOf]; omega
          case neg =>
          have dk : decide ((i : Int) < (no : Int)) = false := by simp; omega
          clear HTK
          obtain ⟨b2, o2, z, rfl, hb2, hc, HZI⟩ := (HI.out.below HB3.out).get (show 0 < m by omega)
          have hii : (0 : Int) < (m : Int) := by omega
          have HRW : Hid (Recs encL 5 wr A n bs) := HX.out.st.lots.recs.below HB3.out
          have hc0 : wr.cell? ⟨b2, o2, none⟩ = some (.int .i64 z) := by simpa using hc
          go_wp2_with fail
          refine (HAT.out A n c bs z wr HRW.out (by omega)).mono ?_
          rintro e w8 ⟨rfl, ⟨rfl, hno⟩ | ⟨ix, hi, rfl, hid⟩⟩
          · obtain ⟨y, hy, hyi⟩ := HAL.out 0 (by omega)
            obtain ⟨k, hk, rfl⟩ := List.getElem_of_mem hy
            exact absurd (by rw [getElem!_pos bs k hk, hyi, HZI.out]) (hno k (by omega))
          clear hid hc hc0 HZI dk
          obtain ⟨b1, o1, rfl, hb1, ha⟩ := recs_at HRW.out hi
          have a3 : w8.cell? ⟨b1, o1 + ix * 5 + 3, none⟩ = some (.int .i64 bs[ix]!.x.proc) := ha.out 3 (by omega)
          have HPR : Hid (1 ≤ bs[ix]!.x.proc ∧ bs[ix]!.x.proc ≤ 12) := (HE.out.ok _ (by rw [getElem!_pos bs ix (by omega)]; exact List.getElem_mem _)).proc
          generalize bs[ix]!.x.proc = pr at *
          have hxi : (ix : Int) < (n : Int) := by omega
          have hxz : (0 : Int) ≤ (ix : Int) := by omega
          clear ha
          go_wp2_with fail
          clear a3 HRW
          go_loopw [18] (fun v wx => ∃ i : Nat, v = .int .i64 (i : Int) ∧ i ≤ m ∧ wx = w8) (fun v _ => m - (intOf v).toNat)
          case atStart => exact ⟨0, rfl, Nat.zero_le _, rfl⟩
          case round =>
            clear hi2 hii
            obtain ⟨i, rfl, hi2, hwr⟩ := hrel
            subst hwr
            by_cases hlt : i < m
            case pos =>
              have dk : decide ((i : Int) < (m : Int)) = true := by simp; omega
              obtain ⟨b3, o3, z, e3, hb3, hc, HZI⟩ := (HI.out.below HB3.out).get hlt
              injection e3 with e3
              injection e3 with e4 e5
              subst e4 e5
              have hii : (i : Int) < (m : Int) := by omega
              have hiz : (0 : Int) ≤ (i : Int) := by omega
              have HRW : Hid (Recs encL 5 wr (some ⟨b1, o1, none⟩) n bs) := HX.out.st.lots.recs.below HB3.out
              go_wp2_with fail
              refine (HAT.out (some ⟨b1, o1, none⟩) n c bs z wr HRW.out (by omega)).mono ?_
              rintro e w9 ⟨rfl, ⟨rfl, hno⟩ | ⟨iy, hi, rfl, hid⟩⟩
              · obtain ⟨y, hy, hyi⟩ := HAL.out i hlt
                obtain ⟨k, hk, rfl⟩ := List.getElem_of_mem hy
                exact absurd (by rw [getElem!_pos bs k hk, hyi, HZI.out]) (hno k (by omega))
              clear hid
              obtain ⟨b3, o3, e3, hb3, ha⟩ := recs_at HRW.out hi
              injection e3 with e3
              injection e3 with e4 e5
              subst e4 e5
              have a3 : w9.cell? ⟨b1, o1 + iy * 5 + 3, none⟩ = some (.int .i64 bs[iy]!.x.proc) := ha.out 3 (by omega)
              generalize bs[iy]!.x.proc = pr2 at *
              have hyi : (iy : Int) < (n : Int) := by omega
              have hyz : (0 : Int) ≤ (iy : Int) := by omega
              clear ha hc HRW
              by_cases e1 : pr2 = 4
              case pos =>
                subst e1
                go_wp2_with fail
                go_roundw
                case rel => exact ⟨i + 1, by go_num, by omega, trivial⟩
                case measure => simp [intOf]; omega
              case neg =>
              by_cases e2 : pr2 = 6
              case pos =>
                subst e2
                go_wp2_with fail
                go_roundw
                case rel => exact ⟨i + 1, by go_num, by omega, trivial⟩
                case measure => simp [intOf]; omega
              case neg =>
                have f1 : (pr2 != 4) = true := by simpa using e1
                have f2 : (pr2 != 6) = true := by simpa using e2
                clear e1 e2
                go_wp2
                go_ret2
                exact ActR.bad (by decide) HB3.out
            case neg =>
            have dk : decide ((i : Int) < (m : Int)) = false := by simp; omega
            go_wp2_with fail
            go_loopw [20, 21, 22] (fun hv al v wx => ∃ (i : Nat) (C : Option Addr) (k d : Nat) (hs : List Nd) (C2 : Option Addr) (k2 d2 : Nat) (ys : List Sl), v = .int .i64 (i : Int) ∧ hv = .slice C k d ∧ al = .slice C2 k2 d2 ∧ i ≤ m ∧ k ≤ i ∧ Hid (hs.length = k) ∧ Hid (CollI (lotsOf bs) xs i ys) ∧ Hid (ys.length = k2) ∧ Hid (wx.ownsRow w.heap.size 105 2 (.slice C k d) k (flat encNd hs)) ∧ Hid (wx.ownsRow w.heap.size 68 3 (.slice C2 k2 d2) k2 (flat encSl ys)) ∧ Hid (Bl wx gr 100 #[.int .i64 rid, .slice IA ni ci, .slice OA no co, .slice SA ns cs2]) ∧ Hid (RowKit.Below w.heap.size w wx)) (fun _ _ v _ => m - (intOf v).toNat)
            case atStart => exact ⟨0, none, 0, 0, [], none, 0, 0, [], rfl, rfl, rfl, Nat.zero_le _, Nat.le_refl _, rfl, CollI.start _ _, rfl, ⟨by simp [flat], .inl ⟨rfl, rfl⟩⟩, ⟨by simp [flat], .inl ⟨rfl, rfl⟩⟩, HRX3.out, HB3.out⟩
            case round =>
              clear dk hi2 HRX3 HB3
              obtain ⟨i, C, k, d, hs, C2, k2, d2, ys, rfl, rfl, rfl, hi2, hki, HHL, HC, HK, HOH, HO, HRX, HB⟩ := hrel
              by_cases hlt : i < m
              case pos =>
                have dk : decide ((i : Int) < (m : Int)) = true := by simp; omega
                obtain ⟨b3, o3, z, e3, hb3, hc, HZI⟩ := (HI.out.below HB.out).get hlt
                injection e3 with e3
                injection e3 with e4 e5
                subst e4 e5
                have hii : (i : Int) < (m : Int) := by omega
                have hiz : (0 : Int) ≤ (i : Int) := by omega
                have HRW : Hid (Recs encL 5 wr (some ⟨b1, o1, none⟩) n bs) := HX.out.st.lots.recs.below HB.out
                go_wp2_with fail
                refine (HAT.out (some ⟨b1, o1, none⟩) n c bs z wr HRW.out (by omega)).mono ?_
                rintro e w9 ⟨rfl, ⟨rfl, hno⟩ | ⟨iy, hi, rfl, hid⟩⟩
                · obtain ⟨y, hy, hyi⟩ := HAL.out i hlt
                  obtain ⟨k, hk, rfl⟩ := List.getElem_of_mem hy
                  exact absurd (by rw [getElem!_pos bs k hk, hyi, HZI.out]) (hno k (by omega))
                obtain ⟨b3, o3, e3, hb3, ha⟩ := recs_at HRW.out hi
                injection e3 with e3
                injection e3 with e4 e5
                subst e4 e5
                obtain ⟨y, hy⟩ : ∃ y, bs[iy]! = y := ⟨_, rfl⟩
                rw [hy] at ha hid
                have a0 : w9.cell? ⟨b1, o1 + iy * 5, none⟩ = some (.int .i64 y.x.id) := ha.out 0 (by omega)
                have a1 : w9.cell? ⟨b1, o1 + iy * 5 + 1, none⟩ = some (.string y.x.code) := ha.out 1 (by omega)
                have a2 : w9.cell? ⟨b1, o1 + iy * 5 + 2, none⟩ = some (.int .i64 y.x.qty) := ha.out 2 (by omega)
                have a3 : w9.cell? ⟨b1, o1 + iy * 5 + 3, none⟩ = some (.int .i64 y.x.proc) := ha.out 3 (by omega)
                have a4 : w9.cell? ⟨b1, o1 + iy * 5 + 4, none⟩ = some (.slice y.A y.n y.c) := ha.out 4 (by omega)
                have hym : y ∈ bs := by rw [← hy, getElem!_pos bs iy (by omega)]; exact List.getElem_mem _
                have HYM := Lib.hid hym
                have HLY : Hid (LtOk y.x) := HE.out.ok y hym
                have HYI : Hid (y.x.id = xs.getD i 0) := by show _ = _; rw [hid, HZI.out]
                have hyi : (iy : Int) < (n : Int) := by omega
                have hyz : (0 : Int) ≤ (iy : Int) := by omega
                have HBY : Hid (Bl (w9.alloc (.cells #[.int .i64 y.x.id, .string y.x.code, .int .i64 y.x.qty, .int .i64 y.x.proc, .slice y.A y.n y.c] 36)) w9.heap.size 36 #[.int .i64 y.x.id, .string y.x.code, .int .i64 y.x.qty, .int .i64 y.x.proc, .slice y.A y.n y.c]) := Bl.new _ _ _
                have HBA : Hid (RowKit.Below w.heap.size w (w9.alloc (.cells #[.int .i64 y.x.id, .string y.x.code, .int .i64 y.x.qty, .int .i64 y.x.proc, .slice y.A y.n y.c] 36))) := HB.out.alloc HB.out.size _
                have HOA : Hid ((w9.alloc (.cells #[.int .i64 y.x.id, .string y.x.code, .int .i64 y.x.qty, .int .i64 y.x.proc, .slice y.A y.n y.c] 36)).ownsRow w.heap.size 68 3 (.slice C2 k2 d2) k2 (flat encSl ys)) := own_alloc HO.out _
                have HOHA : Hid ((w9.alloc (.cells #[.int .i64 y.x.id, .string y.x.code, .int .i64 y.x.qty, .int .i64 y.x.proc, .slice y.A y.n y.c] 36)).ownsRow w.heap.size 105 2 (.slice C k d) k (flat encNd hs)) := own_alloc HOH.out _
                have HGA : Hid (Bl (w9.alloc (.cells #[.int .i64 y.x.id, .string y.x.code, .int .i64 y.x.qty, .int .i64 y.x.proc, .slice y.A y.n y.c] 36)) gr 100 #[.int .i64 rid, .slice IA ni ci, .slice OA no co, .slice SA ns cs2]) := HRX.out.alloc _
                clear ha hym hy hid
                go_upto_region 41 with (fail)
                clear a0 a1 a2 a3 a4 HRW HB HO HOH HRX hc HZI dk
                generalize w9.alloc (.cells #[.int .i64 y.x.id, .string y.x.code, .int .i64 y.x.qty, .int .i64 y.x.proc, .slice y.A y.n y.c] 36) = W8 at *
                generalize w9.heap.size = gz at *
                have y1 := HBY.out.c1
                have y3 := HBY.out.c3
                have g1 : W8.cell? ⟨gr, 1, none⟩ = some (.slice IA ni ci) := HGA.out.cell 1
                have HI8 : Hid (Recs encNd 2 W8 IA ni ins) := HRC.out.ins.below HBA.out
                by_cases e1 : y.x.proc = pr
                case neg =>
                  go_wp2
                  go_ret2
                  exact ActR.bad (by decide) HBA.out
                case pos =>
                go_wp2_with fail
                refine (HQT.out IA ni ci ins y.x.code W8 HI8.out (by omega)).mono ?_
                rintro e w9 ⟨rfl, rfl⟩
                generalize qtyF ins y.x.code = qv
                cases e2 : (qv == 0)
                case true =>
                  go_wp2
                  go_ret2
                  exact ActR.bad (by decide) HBA.out
                case false =>
                clear HI8
                have HRD : Hid (Rd (w9.alloc (.cells #[.string y.x.code, .int .i64 y.x.qty] 105)) 2 (some ⟨w9.heap.size, 0, none⟩) 1 (encNd ⟨y.x.code, y.x.qty⟩)) := rd_bl (xs := encNd ⟨y.x.code, y.x.qty⟩) (Bl.new _ _ _) rfl
                have HON := Lib.hid (encNd_one ⟨y.x.code, y.x.qty⟩)
                have HBB : Hid (RowKit.Below w.heap.size w (w9.alloc (.cells #[.string y.x.code, .int .i64 y.x.qty] 105))) := HBA.out.alloc HBA.out.size _
                have HOB : Hid ((w9.alloc (.cells #[.string y.x.code, .int .i64 y.x.qty] 105)).ownsRow w.heap.size 68 3 (.slice C2 k2 d2) k2 (flat encSl ys)) := own_alloc HOA.out _
                have HOHB : Hid ((w9.alloc (.cells #[.string y.x.code, .int .i64 y.x.qty] 105)).ownsRow w.heap.size 105 2 (.slice C k d) k (flat encNd hs)) := own_alloc HOHA.out _
                have HGB : Hid (Bl (w9.alloc (.cells #[.string y.x.code, .int .i64 y.x.qty] 105)) gr 100 #[.int .i64 rid, .slice IA ni ci, .slice OA no co, .slice SA ns cs2]) := HGA.out.alloc _
                have HYB : Hid (Bl (w9.alloc (.cells #[.string y.x.code, .int .i64 y.x.qty] 105)) gz 36 #[.int .i64 y.x.id, .string y.x.code, .int .i64 y.x.qty, .int .i64 y.x.proc, .slice y.A y.n y.c]) := HBY.out.alloc _
                have HM1 : Hid (k + 1 ≤ maxLen ∧ (k + 1) * 24 ≤ 140737488355328) := ⟨by unfold maxLen; omega, by omega⟩
                have y2 := HBY.out.c2
                go_upto_region 44 with (at_builtin; refine wpList_append_rd _ rfl (.tmp 194) (.tmp 200) 98 rfl w.heap.size 105 _ 2 24 Tryz.underlying98 infoNd rfl (by decide) (.slice C k d) k (flat encNd hs) rfl HOHB.out (some ⟨w9.heap.size, 0, none⟩) 1 _ (encNd ⟨y.x.code, y.x.qty⟩) rfl HRD.out HON.out HM1.out.1 HM1.out.2 HBB.out.size ?_; intro v10 w10 ho10 hg10 hv10; obtain ⟨B10, d10, rfl⟩ := own_slice ho10)
                have HOH1 : Hid (w10.ownsRow w.heap.size 105 2 (.slice B10 (k + 1) d10) (k + 1) (flat encNd (hs ++ [Nd.mk y.x.code y.x.qty]))) := by show World.ownsRow _ _ _ _ _ _ _; rw [flat_append, flat_one]; exact ho10
                have HO1 : Hid (w10.ownsRow w.heap.size 68 3 (.slice C2 k2 d2) k2 (flat encSl ys)) := own_other HOB.out HOHB.out (by decide) hg10
                have HG1 : Hid (Bl w10 gr 100 #[.int .i64 rid, .slice IA ni ci, .slice OA no co, .slice SA ns cs2]) := (hg10.block gr HGB.out.lt (fun e => own_far29 HOHB.out HGB.out (by decide) e.symm)).trans HGB.out
                have HY1 : Hid (Bl w10 gz 36 #[.int .i64 y.x.id, .string y.x.code, .int .i64 y.x.qty, .int .i64 y.x.proc, .slice y.A y.n y.c]) := (hg10.block gz HYB.out.lt (fun e => own_far29 HOHB.out HYB.out (by decide) e.symm)).trans HYB.out
                have HB1 : Hid (RowKit.Below w.heap.size w w10) := HBB.out.grown hg10 HBB.out.size (fun j hj => own_base HOHB.out j hj)
                clear ho10 hg10 hv10 HRD HON HBB HOB HOHB HGB HYB HM1 e1 y1 y2 y3 g1 HBY HBA HOA HOHA HGA
                have y4 := HY1.out.c4
                have hyl : y.x.sl.length = y.n := (HX.out.sl y HYM.out).1.1.recs.1
                have hy64 : y.n ≤ 64 := by have := HLY.out.few; omega
                have hk64 : k2 ≤ i * 64 := by have := HC.out.len; have := HK.out; omega
                have HCN : Hid (CollI (lotsOf bs) xs (i + 1) (ys ++ y.x.sl)) := HC.out.next HE.out.st (by omega) HND.out (List.mem_map.2 ⟨y, HYM.out, rfl⟩) HYI.out
                have HRD : Hid (Rd w10 3 y.A y.n (flat encSl y.x.sl)) := (rd_of_recs encSl_len (by decide) (HX.out.sl y HYM.out).1.1.recs).keep HB1.out
                have HON : Hid (∀ v ∈ flat encSl y.x.sl, v.oneCell' = true) := flat_oneK encSl_one _
                have HM1 : Hid (k2 + y.n ≤ maxLen ∧ (k2 + y.n) * 24 ≤ 140737488355328) := ⟨by unfold maxLen; omega, by omega⟩
                go_wp2_with (at_builtin; refine wpList_append_rd _ rfl (.tmp 202) (.tmp 204) 34 rfl w.heap.size 68 _ 3 24 Tryz.underlying34 infoSl rfl (by decide) (.slice C2 k2 d2) k2 (flat encSl ys) rfl HO1.out y.A y.n y.c (flat encSl y.x.sl) rfl HRD.out HON.out HM1.out.1 HM1.out.2 HB1.out.size ?_; intro v11 w11 ho11 hg11 hv11; obtain ⟨B11, d11, rfl⟩ := own_slice ho11)
                have hoh2 : w11.ownsRow w.heap.size 105 2 (.slice B10 (k + 1) d10) (k + 1) (flat encNd (hs ++ [Nd.mk y.x.code y.x.qty])) := own_other HOH1.out HO1.out (by decide) hg11
                have hgr2 : Bl w11 gr 100 #[.int .i64 rid, .slice IA ni ci, .slice OA no co, .slice SA ns cs2] := (hg11.block gr HG1.out.lt (fun e => own_far29 HO1.out HG1.out (by decide) e.symm)).trans HG1.out
                have hb11 : RowKit.Below w.heap.size w w11 := HB1.out.grown hg11 HB1.out.size (fun j hj => own_base HO1.out j hj)
                go_roundw
                case rel => exact ⟨i + 1, B10, k + 1, d10, hs ++ [Nd.mk y.x.code y.x.qty], B11, k2 + y.n, d11, ys ++ y.x.sl, by go_num, rfl, rfl, by omega, by omega, (by show _ = _; rw [List.length_append, HHL.out]; rfl), HCN.out, (by show _ = _; rw [List.length_append, HK.out, hyl]), hoh2, (by show World.ownsRow _ _ _ _ _ _ _; rw [flat_append]; exact ho11), hgr2, hb11⟩
                case measure => simp [intOf]; omega
              case neg =>
              have dk : decide ((i : Int) < (m : Int)) = false := by simp; omega
              obtain rfl : m = i := by omega
              obtain ⟨W6, rfl⟩ : ∃ W6, W6 = wr := ⟨_, rfl⟩
              have HHN : Hid (Recs encNd 2 W6 C k hs) := Recs.of_own encNd_len HOH.out HHL.out
              have HYS : Hid (Recs encSl 3 W6 C2 k2 ys) := Recs.of_own encSl_len HO.out HK.out
              have hk128 : k2 ≤ m * 64 := by have := HC.out.len; have := HK.out; omega
              clear HOH HO
              go_wp2_with fail
              go_loopw [24] (fun v wx => ∃ j : Nat, v = .int .i64 (j : Int) ∧ j ≤ ni ∧ Hid (RowKit.Below W6.heap.size W6 wx)) (fun v _ => ni - (intOf v).toNat)
              case atStart => exact ⟨0, rfl, Nat.zero_le _, Below.refl _ _⟩
              case round =>
                clear dk
                obtain ⟨j, rfl, hj2, HBR⟩ := hrel
                have HRXR : Hid (Bl wr gr 100 #[.int .i64 rid, .slice IA ni ci, .slice OA no co, .slice SA ns cs2]) := (HBR.out.block gr HRX.out.lt).trans HRX.out
                have HBW : Hid (RowKit.Below w.heap.size w wr) := HB.out.trans (HBR.out.mono HB.out.size)
                by_cases hlj : j < ni
                case pos =>
                  have dk : decide ((j : Int) < (ni : Int)) = true := by simp; omega
                  have g1 : wr.cell? ⟨gr, 1, none⟩ = some (.slice IA ni ci) := HRXR.out.cell 1
                  obtain ⟨b4, o4, rfl, hb4, hd⟩ := recs_at (HRC.out.ins.below HBW.out) hlj
                  obtain ⟨x, hx⟩ : ∃ x, ins[j]! = x := ⟨_, rfl⟩
                  rw [hx] at hd
                  have a0 : wr.cell? ⟨b4, o4 + j * 2, none⟩ = some (.string x.code) := hd.out 0 (by omega)
                  have a1 : wr.cell? ⟨b4, o4 + j * 2 + 1, none⟩ = some (.int .i64 x.qty) := hd.out 1 (by omega)
                  have hxq := (HRK.out.ins x (by rw [← hx, getElem!_pos ins j (by omega)]; exact List.getElem_mem _)).2
                  have hbq := mul_bd (a := bt) (b := x.qty) (by omega) (by omega) hxq.1 hxq.2
                  obtain ⟨bq, hbq2⟩ : ∃ bq, bt * x.qty = bq := ⟨_, rfl⟩
                  rw [hbq2] at hbq
                  have u1 : IntKind.i64.wrap (bt * x.qty) = bq := by rw [hbq2]; exact IntWalk.i64_in _ (by omega)
                  obtain ⟨qv, hqv⟩ : ∃ qv, qtyF hs x.code = qv := ⟨_, rfl⟩
                  have HQ : Hid (∀ q, Calls Tryz.prog 84 #[.slice C k d, .string x.code] (wr.drewN q) fun e w' => e = .returned (.int .i64 qv) ∧ w' = wr.drewN q) := fun q => by
                    rw [← hqv]
                    exact HQT.out C k d hs x.code (wr.drewN q) (HHN.out.below (below_drewN HBR.out q)) (by omega)
                  have hjj : (j : Int) < (ni : Int) := by omega
                  have hjz : (0 : Int) ≤ (j : Int) := by omega
                  clear hd hx hqv hbq2
                  by_cases e1 : qv = bq
                  case neg =>
                    have f1 : (qv != bq) = true := by simpa using e1
                    go_upto_region 48 with (fail)
                    go_quiet ((go_at_call 84; exact Calls.quiet_of_same (HQ.out _)))
                    go_wp2
                    go_ret2
                    exact ActR.bad (by decide) (below_drewN HBW.out _)
                  case pos =>
                  subst e1
                  go_upto_region 48 with (fail)
                  go_quiet ((go_at_call 84; exact Calls.quiet_of_same (HQ.out _)))
                  go_wp2_with fail
                  go_roundw
                  case rel => exact ⟨j + 1, by go_num, by omega, below_drewN HBR.out _⟩
                  case measure => simp [intOf]; omega
                case neg =>
                have dk : decide ((j : Int) < (ni : Int)) = false := by simp; omega
                have g1 : wr.cell? ⟨gr, 1, none⟩ = some (.slice IA ni ci) := HRXR.out.cell 1
                have g2 : wr.cell? ⟨gr, 2, none⟩ = some (.slice OA no co) := HRXR.out.cell 2
                go_wp2_with fail
                go_loop [25] (fun v => ∃ j : Nat, v = .int .i64 (j : Int) ∧ j ≤ no) (fun v => no - (intOf v).toNat)
                case atStart => exact ⟨0, rfl, Nat.zero_le _⟩
                case round =>
                  clear dk hj2 hlj
                  obtain ⟨j, rfl, hj2⟩ := hrel
                  by_cases hlj : j < no
                  case pos =>
                    have dk : decide ((j : Int) < (no : Int)) = true := by simp; omega
                    obtain ⟨b4, o4, rfl, hb4, hd⟩ := recs_at (HRC.out.outs.below HBW.out) hlj
                    obtain ⟨x, hx⟩ : ∃ x, outs[j]! = x := ⟨_, rfl⟩
                    rw [hx] at hd
                    have a1 : wr.cell? ⟨b4, o4 + j * 2 + 1, none⟩ = some (.int .i64 x.qty) := hd.out 1 (by omega)
                    have hxq := (HRK.out.outs x (by rw [← hx, getElem!_pos outs j (by omega)]; exact List.getElem_mem _)).2
                    have hbq := mul_bd (a := bt) (b := x.qty) (by omega) (by omega) hxq.1 hxq.2
                    obtain ⟨bq, hbq2⟩ : ∃ bq, bt * x.qty = bq := ⟨_, rfl⟩
                    rw [hbq2] at hbq
                    have u1 : IntKind.i64.wrap (bt * x.qty) = bq := by rw [hbq2]; exact IntWalk.i64_in _ (by omega)
                    have d2 : decide (bq > 1000000000) = false := by simp; omega
                    have hjj : (j : Int) < (no : Int) := by omega
                    have hjz : (0 : Int) ≤ (j : Int) := by omega
                    clear hd hx hbq2
                    go_wp2_with fail
                    go_round
                    case rel => exact ⟨j + 1, by go_num, by omega⟩
                    case measure => simp [intOf]; omega
                  case neg =>
                  have dk : decide ((j : Int) < (no : Int)) = false := by simp; omega
                  have un1 : IntKind.i64.wrap ((n : Int) - (m : Int)) = (n : Int) - (m : Int) := IntWalk.i64_in _ (by omega)
                  have un2 : IntKind.i64.wrap ((n : Int) - (m : Int) + (no : Int)) = (n : Int) - (m : Int) + (no : Int) := IntWalk.i64_in _ (by omega)
                  by_cases gl : 64 < (n : Int) - (m : Int) + (no : Int)
                  case pos =>
                    have dl : decide (64 < (n : Int) - (m : Int) + (no : Int)) = true := decide_eq_true gl
                    have dl2 : decide ((n : Int) - (m : Int) + (no : Int) > 64) = true := decide_eq_true gl
                    go_wp2
                    go_ret2
                    exact ActR.bad (by decide) HBW.out
                  case neg =>
                  have dl : decide (64 < (n : Int) - (m : Int) + (no : Int)) = false := decide_eq_false gl
                  have HGL : Hid ((n : Int) - (m : Int) + (no : Int) ≤ 64) := by show _ ≤ _; omega
                  go_wp2_with fail
                  clear dl gl un1 un2
                  go_loopw [26, 27] (fun s v wx => ∃ (j : Nat) (N : Int), v = .int .i64 (j : Int) ∧ s = .int .i64 N ∧ j ≤ k2 ∧ 0 ≤ N ∧ N ≤ (j : Int) * 1000000000 ∧ Hid (N = cnt29 (ys.take j)) ∧ Hid (RowKit.Below W6.heap.size W6 wx)) (fun _ v _ => k2 - (intOf v).toNat)
                  case atStart => exact ⟨0, 0, rfl, rfl, Nat.zero_le _, by omega, by omega, (by show _ = _; simp [cnt29]), HBR.out⟩
                  case round =>
                    clear dk hj2 hlj HBR HBW HRXR g1 g2
                    obtain ⟨j, N, rfl, rfl, hj2, hN0, hN1, HN, HBR⟩ := hrel
                    by_cases hlj : j < k2
                    case pos =>
                      have dk : decide ((j : Int) < (k2 : Int)) = true := by simp; omega
                      obtain ⟨b4, o4, rfl, hb4, hd⟩ := recs_at (HYS.out.below HBR.out) hlj
                      obtain ⟨x, hx⟩ : ∃ x, ys[j]! = x := ⟨_, rfl⟩
                      rw [hx] at hd
                      have a1 : wr.cell? ⟨b4, o4 + j * 3 + 1, none⟩ = some (.int .i64 x.fr) := hd.out 1 (by omega)
                      have a2 : wr.cell? ⟨b4, o4 + j * 3 + 2, none⟩ = some (.int .i64 x.to) := hd.out 2 (by omega)
                      have hyl : ys.length = k2 := HK.out
                      have hxo := slOk_yes (HC.out.ok x (by rw [← hx, getElem!_pos ys j (by omega)]; exact List.getElem_mem _))
                      have HN2 : Hid (N + x.to - x.fr = cnt29 (ys.take (j + 1))) := by show _ = _; rw [cnt29_take (by omega), hx, HN.out]; omega
                      have u1 : IntKind.i64.wrap (N + x.to) = N + x.to := IntWalk.i64_in _ (by omega)
                      have u2 : IntKind.i64.wrap (N + x.to - x.fr) = N + x.to - x.fr := IntWalk.i64_in _ (by omega)
                      have hjj : (j : Int) < (k2 : Int) := by omega
                      have hjz : (0 : Int) ≤ (j : Int) := by omega
                      clear hd hx
                      go_upto_region 61 with (fail)
                      go_quiet (fail)
                      go_wp2_with fail
                      go_roundw
                      case rel => exact ⟨j + 1, N + x.to - x.fr, by go_num, rfl, by omega, by omega, by omega, HN2.out, below_drewN HBR.out _⟩
                      case measure => simp [intOf]; omega
                    case neg =>
                    have dk : decide ((j : Int) < (k2 : Int)) = false := by simp; omega
                    obtain rfl : k2 = j := by omega
                    have HNN : Hid (N = cnt29 ys) := by show _ = _; rw [HN.out, List.take_of_length_le (by rw [HK.out]; exact Nat.le_refl _)]
                    have HRXR : Hid (Bl wr gr 100 #[.int .i64 rid, .slice IA ni ci, .slice OA no co, .slice SA ns cs2]) := (HBR.out.block gr HRX.out.lt).trans HRX.out
                    have HBW : Hid (RowKit.Below w.heap.size w wr) := HB.out.trans (HBR.out.mono HB.out.size)
                    have g3 : wr.cell? ⟨gr, 3, none⟩ = some (.slice SA ns cs2) := HRXR.out.cell 3
                    have HSS : Hid (Ints wr SA ns sc) := HRC.out.sc.below HBW.out
                    clear HN
                    go_wp2_with fail
                    go_loop [28, 31] (fun s v => ∃ (j : Nat) (S : Int), v = .int .i64 (j : Int) ∧ s = .int .i64 S ∧ j ≤ ns ∧ 0 ≤ S ∧ S ≤ (j : Int) * 1000 ∧ Hid (S = (sc.take j).sum)) (fun _ v => ns - (intOf v).toNat)
                    case atStart => exact ⟨0, 0, rfl, rfl, Nat.zero_le _, by omega, by omega, (by show _ = _; simp)⟩
                    case round =>
                      clear dk
                      obtain ⟨j, S, rfl, rfl, hj2, hS0, hS1, HS⟩ := hrel
                      by_cases hlj : j < ns
                      case pos =>
                        have dk : decide ((j : Int) < (ns : Int)) = true := by simp; omega
                        obtain ⟨b4, o4, z, rfl, hb4, hc, HZI⟩ := HSS.out.get hlj
                        have hz := HRK.out.scs z (by
                          rw [← HZI.out, List.getD_eq_getElem?_getD, List.getElem?_eq_getElem (show j < sc.length by omega)]
                          exact List.getElem_mem _)
                        have HS2 : Hid (S + z = (sc.take (j + 1)).sum) := by show _ = _; rw [isum_take (by omega), HZI.out, HS.out]
                        have u1 : IntKind.i64.wrap (S + z) = S + z := IntWalk.i64_in _ (by omega)
                        have hjj : (j : Int) < (ns : Int) := by omega
                        have hjz : (0 : Int) ≤ (j : Int) := by omega
                        go_wp2_with fail
                        go_round
                        case rel => exact ⟨j + 1, S + z, by go_num, rfl, by omega, by omega, by omega, HS2.out⟩
                        case measure => simp [intOf]; omega
                      case neg =>
                      have dk : decide ((j : Int) < (ns : Int)) = false := by simp; omega
                      have HSW : Hid (S = sc.sum) := by show _ = _; rw [HS.out, List.take_of_length_le (by omega)]
                      have hSp : 1 ≤ S := by rw [HSW.out]; exact HRK.out.sum
                      have hSb : S ≤ 2000 := by omega
                      have hNb : N ≤ 128000000000 := by omega
                      clear HS HSS
                      obtain ⟨W9, rfl⟩ : ∃ W9, W9 = wr := ⟨_, rfl⟩
                      have HYS9 : Hid (Recs encSl 3 W9 C2 k2 ys) := HYS.out.below HBR.out
                      clear HYS HHN HBR HRX HB
                      go_wp2_with fail
                      clear g3
                      go_loopw [29, 30, 32, 33] (fun cc dn l v wx => ∃ (i : Nat) (d1 c1 : Int) (L : Option Addr) (lc : Nat) (ls : List Lb), v = .int .i64 (i : Int) ∧ cc = .int .i64 c1 ∧ dn = .int .i64 d1 ∧ l = .slice L i lc ∧ i ≤ no ∧ 0 ≤ c1 ∧ 0 ≤ d1 ∧ d1 ≤ N ∧ Hid (c1 = (sc.take i).sum) ∧ Hid (d1 = N * c1 / S) ∧ Hid (PrI W9 ys os i d1 L lc ls wx)) (fun _ _ _ v _ => no - (intOf v).toNat)
                      case atStart => exact ⟨0, 0, 0, none, 0, [], rfl, rfl, rfl, rfl, Nat.zero_le _, by omega, by omega, hN0, (by show _ = _; simp), (by show _ = _; simp), PrI.start _ _ _⟩
                      case round =>
                        clear dk hj2 hlj
                        obtain ⟨i, d1, c1, L, lc, ls, rfl, rfl, rfl, rfl, hi2, hc0, hd0, hd1, HC1, HD1, HPI⟩ := hrel
                        have HBX := Lib.hid HPI.out.below
                        have HBW2 : Hid (RowKit.Below w.heap.size w wr) := HBW.out.trans (HBX.out.mono HBW.out.size)
                        have HRX2 : Hid (Bl wr gr 100 #[.int .i64 rid, .slice IA ni ci, .slice OA no co, .slice SA ns cs2]) := (HBX.out.block gr HRXR.out.lt).trans HRXR.out
                        by_cases hlt : i < no
                        case pos =>
                          have dk : decide ((i : Int) < (no : Int)) = true := by simp; omega
                          obtain ⟨b3, o3, rfl, hb3, hd⟩ := recs_at HRC.out.outs (show i < no by omega)
                          obtain ⟨x, hx⟩ : ∃ x, outs[i]! = x := ⟨_, rfl⟩
                          rw [hx] at hd
                          obtain ⟨b4, o4, s1, rfl, hb4, hc4, HS1⟩ := HRC.out.sc.get (show i < ns by omega)
                          obtain ⟨b5, o5, z, rfl, hb5, hc5, HZI⟩ := HOS.out.get hlt
                          have HF0 : Hid (w.cell? ⟨b3, o3 + i * 2, none⟩ = some (.string x.code)) := hd.out 0 (by omega)
                          have HF1 : Hid (w.cell? ⟨b3, o3 + i * 2 + 1, none⟩ = some (.int .i64 x.qty)) := hd.out 1 (by omega)
                          have HF4 := Lib.hid hc4
                          have HF5 := Lib.hid hc5
                          have hxm : x ∈ outs := by rw [← hx, getElem!_pos outs i (by omega)]; exact List.getElem_mem _
                          have HXO := Lib.hid (HRK.out.outs x hxm)
                          have hs1 := HRK.out.scs s1 (by
                            rw [← HS1.out, List.getD_eq_getElem?_getD, List.getElem?_eq_getElem (show i < sc.length by omega)]
                            exact List.getElem_mem _)
                          have hzm : z ∈ os := by
                            rw [← HZI.out, List.getD_eq_getElem?_getD, List.getElem?_eq_getElem (show i < os.length by omega)]
                            exact List.getElem_mem _
                          have HZB : Hid (free ≤ z ∧ z ≤ 1000000) := ⟨(HFR.out z hzm).1, HO6.out z hzm⟩
                          have hbq := mul_bd (a := bt) (b := x.qty) (by omega) (by omega) HXO.out.2.1 HXO.out.2.2
                          obtain ⟨bq, hbq2⟩ : ∃ bq, bt * x.qty = bq := ⟨_, rfl⟩
                          rw [hbq2] at hbq
                          have u1 : IntKind.i64.wrap (bt * x.qty) = bq := by rw [hbq2]; exact IntWalk.i64_in _ (by omega)
                          have HC2 : Hid (c1 + s1 = (sc.take (i + 1)).sum) := by show _ = _; rw [isum_take (by omega), HS1.out, HC1.out]
                          have hcs : c1 + s1 ≤ S := by rw [HC2.out, HSW.out]; exact (isum_mono (fun q hq => (HRK.out.scs q hq).1) (i + 1)).2
                          have u2 : IntKind.i64.wrap (c1 + s1) = c1 + s1 := IntWalk.i64_in _ (by omega)
                          obtain ⟨bd, hbd⟩ : ∃ bd, N * (c1 + s1) / S = bd := ⟨_, rfl⟩
                          have hbd0 : 0 ≤ bd := by rw [← hbd]; exact Int.ediv_nonneg (Int.mul_nonneg hN0 (by omega)) (by omega)
                          have hbd1 : bd ≤ N := by
                            rw [← hbd]
                            refine Int.ediv_le_of_le_mul (by omega) ?_
                            exact Int.mul_le_mul_of_nonneg_left hcs hN0
                          have hdb : d1 ≤ bd := by
                            rw [← hbd, HD1.out]
                            exact Int.ediv_le_ediv (by omega) (Int.mul_le_mul_of_nonneg_left (by omega) hN0)
                          have g4 : wr.cell? ⟨b4, o4 + i, none⟩ = some (.int .i64 s1) := (HBW2.out.cell (p := ⟨b4, o4 + i, none⟩) hb4).trans HF4.out
                          have g3 : wr.cell? ⟨gr, 3, none⟩ = some (.slice (some ⟨b4, o4, none⟩) ns cs2) := HRX2.out.cell 3
                          have hjj : (i : Int) < (ns : Int) := by omega
                          have hkk : (i : Int) < (no : Int) := by omega
                          have hjz : (0 : Int) ≤ (i : Int) := by omega
                          have HBD := Lib.hid hbd
                          clear hd hx hc4 hc5 hbq2 hxm hzm
                          go_wp2_with fail
                          refine (HMD.out N (c1 + s1) S wr hN0 (by omega) (by omega) (by omega) (by omega) (by omega) (by rw [hbd]; omega)).mono ?_
                          rintro e w6 ⟨rfl, q6, rfl⟩
                          rw [hbd]
                          have HPI7 : Hid (PrI W9 ys os i d1 L lc ls (wr.drewN q6)) := HPI.out.under (below_drewN (Below.refl _ _) q6)
                          have HRX7 : Hid (Bl (wr.drewN q6) gr 100 #[.int .i64 rid, .slice IA ni ci, .slice (some ⟨b3, o3, none⟩) no co, .slice (some ⟨b4, o4, none⟩) ns cs2]) := HRX2.out
                          have HBW7 : Hid (RowKit.Below w.heap.size w (wr.drewN q6)) := below_drewN HBW2.out q6
                          clear HPI HBX HBW2 HRX2 g3 g4 hbd u2
                          generalize wr.drewN q6 = W7 at *
                          go_upto_region 73 with (fail)
                          have HY7 : Hid (Recs encSl 3 W7 C2 k2 ys) := HYS9.out.below HPI7.out.below
                          obtain ⟨zs, hzs⟩ : ∃ zs, betweenS ys d1 bd = zs := ⟨_, rfl⟩
                          have HBT2 : Hid (∀ wx, RowKit.Below W7.heap.size W7 wx → Calls Tryz.prog 85 #[.slice C2 k2 d2, .int .i64 d1, .int .i64 bd] wx (SlRes29 wx zs)) := fun wx hb => by
                            rw [← hzs]
                            exact HBT.out C2 k2 d2 ys d1 bd wx (HY7.out.below hb) HC.out.ok (by omega) hd0 (by omega) (by omega) (by omega)
                          have HZS := Lib.hid hzs
                          clear hzs HY7
                          have e3 : W7.cell? ⟨b3, o3 + i * 2, none⟩ = some (.string x.code) := (HBW7.out.cell (p := ⟨b3, o3 + i * 2, none⟩) hb3).trans HF0.out
                          have e4 : W7.cell? ⟨b3, o3 + i * 2 + 1, none⟩ = some (.int .i64 x.qty) := (HBW7.out.cell (p := ⟨b3, o3 + i * 2 + 1, none⟩) hb3).trans HF1.out
                          have e5 : W7.cell? ⟨b5, o5 + i, none⟩ = some (.int .i64 z) := (HBW7.out.cell (p := ⟨b5, o5 + i, none⟩) hb5).trans HF5.out
                          have e2 : W7.cell? ⟨gr, 2, none⟩ = some (.slice (some ⟨b3, o3, none⟩) no co) := HRX7.out.cell 2
                          have l3 : b3 < W7.heap.size := Nat.lt_of_lt_of_le hb3 HBW7.out.size
                          have l5 : b5 < W7.heap.size := Nat.lt_of_lt_of_le hb5 HBW7.out.size
                          have lr : gr < W7.heap.size := HRX7.out.lt
                          clear hb3 hb4 hb5
                          refine wp_region_rows [
                              ⟨⟨some 305, [], []⟩, fun _ v => v = .slice (some ⟨b5, o5, none⟩) no oc, NoR⟩,
                              ⟨⟨some 306, [], []⟩, fun _ v => v = .int .i64 (i : Int), NoR⟩,
                              ⟨⟨some 307, [0, 1], []⟩, fun _ v => v = .pointer (some ⟨b5, o5 + i, none⟩), NoR⟩,
                              ⟨⟨some 308, [2], []⟩, fun _ v => v = .int .i64 z, NoR⟩,
                              ⟨⟨some 309, [], []⟩, fun _ v => v = .pointer (some ⟨gr, 2, none⟩), NoR⟩,
                              ⟨⟨some 310, [4], []⟩, fun _ v => v = .slice (some ⟨b3, o3, none⟩) no co, NoR⟩,
                              ⟨⟨some 311, [], []⟩, fun _ v => v = .int .i64 (i : Int), NoR⟩,
                              ⟨⟨some 312, [5, 6], []⟩, fun _ v => v = .pointer (some ⟨b3, o3 + i * 2, none⟩), NoR⟩,
                              ⟨⟨some 313, [7], []⟩, fun _ v => v = .pointer (some ⟨b3, o3 + i * 2, none⟩), NoR⟩,
                              ⟨⟨some 314, [8], []⟩, fun _ v => v = .string x.code, NoR⟩,
                              ⟨⟨some 315, [], []⟩, fun _ v => v = .int .i64 bt, NoR⟩,
                              ⟨⟨some 316, [], []⟩, fun _ v => v = .pointer (some ⟨gr, 2, none⟩), NoR⟩,
                              ⟨⟨some 317, [11], []⟩, fun _ v => v = .slice (some ⟨b3, o3, none⟩) no co, NoR⟩,
                              ⟨⟨some 318, [], []⟩, fun _ v => v = .int .i64 (i : Int), NoR⟩,
                              ⟨⟨some 319, [12, 13], []⟩, fun _ v => v = .pointer (some ⟨b3, o3 + i * 2, none⟩), NoR⟩,
                              ⟨⟨some 320, [14], []⟩, fun _ v => v = .pointer (some ⟨b3, o3 + i * 2 + 1, none⟩), NoR⟩,
                              ⟨⟨some 321, [15], []⟩, fun _ v => v = .int .i64 x.qty, NoR⟩,
                              ⟨⟨some 322, [10, 16], []⟩, fun _ v => v = .int .i64 bq, NoR⟩,
                              ⟨⟨some 323, [], []⟩, fun _ v => v = .int .i64 pr, NoR⟩,
                              ⟨⟨some 324, [], []⟩, fun _ v => v = .slice C2 k2 d2, NoR⟩,
                              ⟨⟨some 325, [], []⟩, fun _ v => v = .int .i64 d1, NoR⟩,
                              ⟨⟨some 326, [], []⟩, fun _ v => v = .int .i64 bd, NoR⟩,
                              ⟨⟨some 327, [19, 20, 21], []⟩, NoF, OwnR W7.heap.size 68 3 (zs.length) (flat encSl zs)⟩,
                              ⟨⟨some 328, [3, 9, 17, 18, 22], [22]⟩, NoF, BkL W7.heap.size z x.code bq pr zs⟩,
                              ⟨⟨some 35, [], []⟩, NoF, PtrR 36 #[.int .i64 0, .string ⟨#[]⟩, .int .i64 0, .int .i64 0, .slice none 0 0]⟩,
                              ⟨⟨none, [24, 23], [24, 23]⟩, NoF, BoxL W7.heap.size z x.code bq pr zs⟩] (by kernel_rfl) (by kernel_rfl) (by kernel_rfl) ⟨NoR.loc, NoR.loc, NoR.loc, NoR.loc, NoR.loc, NoR.loc, NoR.loc, NoR.loc, NoR.loc, NoR.loc, NoR.loc, NoR.loc, NoR.loc, NoR.loc, NoR.loc, NoR.loc, NoR.loc, NoR.loc, NoR.loc, NoR.loc, NoR.loc, NoR.loc, OwnR.loc, BkL.loc, PtrR.loc, BoxL.loc, trivial⟩ ⟨?r0, ?r1, ?r2, ?r3, ?r4, ?r5, ?r6, ?r7, ?r8, ?r9, ?r10, ?r11, ?r12, ?r13, ?r14, ?r15, ?r16, ?r17, ?r18, ?r19, ?r20, ?r21, ?r22, ?r23, ?r24, ?r25, trivial⟩ ?fin
                          case r0 =>
                            refine step_of rfl rfl ?_
                            intro a wx vs fp K hF hK
                            exact op_move rfl (hF.at_ 4 rfl) (hK _ _ _ (hF.only rfl trivial))
                          case r1 =>
                            refine step_of rfl rfl ?_
                            intro a wx vs fp K hF hK
                            exact op_move rfl (hF.at_ 33 rfl) (hK _ _ _ (hF.only rfl trivial))
                          case r2 =>
                            refine step_of rfl rfl ?_
                            intro a wx vs fp K hF hK
                            have ev0 : a.eval (.tmp 305) = .slice (some ⟨b5, o5, none⟩) no oc := (hF.ev 0 305 rfl rfl).trans (hF.va 0 rfl)
                            have ev1 : a.eval (.tmp 306) = .int .i64 (i : Int) := (hF.ev 1 306 rfl rfl).trans (hF.va 1 rfl)
                            refine op_value (v := .pointer (some ⟨b5, o5 + i, none⟩)) ?_ (hK _ _ _ (hF.only rfl trivial))
                            have ec : ∀ v, a.eval (.const v) = v := fun _ => rfl
                            clear hF hK
                            generalize a.eval = ρ at *
                            go_simp
                          case r3 =>
                            refine step_of rfl rfl ?_
                            intro a wx vs fp K hF hK
                            have ev2 : a.eval (.tmp 307) = .pointer (some ⟨b5, o5 + i, none⟩) := (hF.ev 2 307 rfl rfl).trans (hF.va 2 rfl)
                            have m0 := (hF.below.cell (p := ⟨b5, o5 + i, none⟩) l5).trans e5
                            refine op_value (v := .int .i64 z) ?_ (hK _ _ _ (hF.only rfl trivial))
                            have ec : ∀ v, a.eval (.const v) = v := fun _ => rfl
                            clear hF hK
                            generalize a.eval = ρ at *
                            go_simp
                          case r4 =>
                            refine step_of rfl rfl ?_
                            intro a wx vs fp K hF hK
                            have o6 : a.eval (.tmp 6) = .pointer (some ⟨gr, 0, none⟩) := hF.at_ 6 rfl
                            refine op_value (v := .pointer (some ⟨gr, 2, none⟩)) ?_ (hK _ _ _ (hF.only rfl trivial))
                            have ec : ∀ v, a.eval (.const v) = v := fun _ => rfl
                            clear hF hK
                            generalize a.eval = ρ at *
                            go_simp
                          case r5 =>
                            refine step_of rfl rfl ?_
                            intro a wx vs fp K hF hK
                            have ev4 : a.eval (.tmp 309) = .pointer (some ⟨gr, 2, none⟩) := (hF.ev 4 309 rfl rfl).trans (hF.va 4 rfl)
                            have m0 := (hF.below.cell (p := ⟨gr, 2, none⟩) lr).trans e2
                            refine op_value (v := .slice (some ⟨b3, o3, none⟩) no co) ?_ (hK _ _ _ (hF.only rfl trivial))
                            have ec : ∀ v, a.eval (.const v) = v := fun _ => rfl
                            clear hF hK
                            generalize a.eval = ρ at *
                            go_simp
                          case r6 =>
                            refine step_of rfl rfl ?_
                            intro a wx vs fp K hF hK
                            exact op_move rfl (hF.at_ 33 rfl) (hK _ _ _ (hF.only rfl trivial))
                          case r7 =>
                            refine step_of rfl rfl ?_
                            intro a wx vs fp K hF hK
                            have ev5 : a.eval (.tmp 310) = .slice (some ⟨b3, o3, none⟩) no co := (hF.ev 5 310 rfl rfl).trans (hF.va 5 rfl)
                            have ev6 : a.eval (.tmp 311) = .int .i64 (i : Int) := (hF.ev 6 311 rfl rfl).trans (hF.va 6 rfl)
                            refine op_value (v := .pointer (some ⟨b3, o3 + i * 2, none⟩)) ?_ (hK _ _ _ (hF.only rfl trivial))
                            have ec : ∀ v, a.eval (.const v) = v := fun _ => rfl
                            clear hF hK
                            generalize a.eval = ρ at *
                            go_simp
                          case r8 =>
                            refine step_of rfl rfl ?_
                            intro a wx vs fp K hF hK
                            have ev7 : a.eval (.tmp 312) = .pointer (some ⟨b3, o3 + i * 2, none⟩) := (hF.ev 7 312 rfl rfl).trans (hF.va 7 rfl)
                            refine op_value (v := .pointer (some ⟨b3, o3 + i * 2, none⟩)) ?_ (hK _ _ _ (hF.only rfl trivial))
                            have ec : ∀ v, a.eval (.const v) = v := fun _ => rfl
                            clear hF hK
                            generalize a.eval = ρ at *
                            go_simp
                          case r9 =>
                            refine step_of rfl rfl ?_
                            intro a wx vs fp K hF hK
                            have ev8 : a.eval (.tmp 313) = .pointer (some ⟨b3, o3 + i * 2, none⟩) := (hF.ev 8 313 rfl rfl).trans (hF.va 8 rfl)
                            have m0 := (hF.below.cell (p := ⟨b3, o3 + i * 2, none⟩) l3).trans e3
                            refine op_value (v := .string x.code) ?_ (hK _ _ _ (hF.only rfl trivial))
                            have ec : ∀ v, a.eval (.const v) = v := fun _ => rfl
                            clear hF hK
                            generalize a.eval = ρ at *
                            go_simp
                          case r10 =>
                            refine step_of rfl rfl ?_
                            intro a wx vs fp K hF hK
                            exact op_move rfl (hF.at_ 2 rfl) (hK _ _ _ (hF.only rfl trivial))
                          case r11 =>
                            refine step_of rfl rfl ?_
                            intro a wx vs fp K hF hK
                            have o6 : a.eval (.tmp 6) = .pointer (some ⟨gr, 0, none⟩) := hF.at_ 6 rfl
                            refine op_value (v := .pointer (some ⟨gr, 2, none⟩)) ?_ (hK _ _ _ (hF.only rfl trivial))
                            have ec : ∀ v, a.eval (.const v) = v := fun _ => rfl
                            clear hF hK
                            generalize a.eval = ρ at *
                            go_simp
                          case r12 =>
                            refine step_of rfl rfl ?_
                            intro a wx vs fp K hF hK
                            have ev11 : a.eval (.tmp 316) = .pointer (some ⟨gr, 2, none⟩) := (hF.ev 11 316 rfl rfl).trans (hF.va 11 rfl)
                            have m0 := (hF.below.cell (p := ⟨gr, 2, none⟩) lr).trans e2
                            refine op_value (v := .slice (some ⟨b3, o3, none⟩) no co) ?_ (hK _ _ _ (hF.only rfl trivial))
                            have ec : ∀ v, a.eval (.const v) = v := fun _ => rfl
                            clear hF hK
                            generalize a.eval = ρ at *
                            go_simp
                          case r13 =>
                            refine step_of rfl rfl ?_
                            intro a wx vs fp K hF hK
                            exact op_move rfl (hF.at_ 33 rfl) (hK _ _ _ (hF.only rfl trivial))
                          case r14 =>
                            refine step_of rfl rfl ?_
                            intro a wx vs fp K hF hK
                            have ev12 : a.eval (.tmp 317) = .slice (some ⟨b3, o3, none⟩) no co := (hF.ev 12 317 rfl rfl).trans (hF.va 12 rfl)
                            have ev13 : a.eval (.tmp 318) = .int .i64 (i : Int) := (hF.ev 13 318 rfl rfl).trans (hF.va 13 rfl)
                            refine op_value (v := .pointer (some ⟨b3, o3 + i * 2, none⟩)) ?_ (hK _ _ _ (hF.only rfl trivial))
                            have ec : ∀ v, a.eval (.const v) = v := fun _ => rfl
                            clear hF hK
                            generalize a.eval = ρ at *
                            go_simp
                          case r15 =>
                            refine step_of rfl rfl ?_
                            intro a wx vs fp K hF hK
                            have ev14 : a.eval (.tmp 319) = .pointer (some ⟨b3, o3 + i * 2, none⟩) := (hF.ev 14 319 rfl rfl).trans (hF.va 14 rfl)
                            refine op_value (v := .pointer (some ⟨b3, o3 + i * 2 + 1, none⟩)) ?_ (hK _ _ _ (hF.only rfl trivial))
                            have ec : ∀ v, a.eval (.const v) = v := fun _ => rfl
                            clear hF hK
                            generalize a.eval = ρ at *
                            go_simp
                          case r16 =>
                            refine step_of rfl rfl ?_
                            intro a wx vs fp K hF hK
                            have ev15 : a.eval (.tmp 320) = .pointer (some ⟨b3, o3 + i * 2 + 1, none⟩) := (hF.ev 15 320 rfl rfl).trans (hF.va 15 rfl)
                            have m0 := (hF.below.cell (p := ⟨b3, o3 + i * 2 + 1, none⟩) l3).trans e4
                            refine op_value (v := .int .i64 x.qty) ?_ (hK _ _ _ (hF.only rfl trivial))
                            have ec : ∀ v, a.eval (.const v) = v := fun _ => rfl
                            clear hF hK
                            generalize a.eval = ρ at *
                            go_simp
                          case r17 =>
                            refine step_of rfl rfl ?_
                            intro a wx vs fp K hF hK
                            have ev10 : a.eval (.tmp 315) = .int .i64 bt := (hF.ev 10 315 rfl rfl).trans (hF.va 10 rfl)
                            have ev16 : a.eval (.tmp 321) = .int .i64 x.qty := (hF.ev 16 321 rfl rfl).trans (hF.va 16 rfl)
                            refine op_value (v := .int .i64 bq) ?_ (hK _ _ _ (hF.only rfl trivial))
                            have ec : ∀ v, a.eval (.const v) = v := fun _ => rfl
                            clear hF hK
                            generalize a.eval = ρ at *
                            go_simp
                          case r18 =>
                            refine step_of rfl rfl ?_
                            intro a wx vs fp K hF hK
                            exact op_move rfl (hF.at_ 17 rfl) (hK _ _ _ (hF.only rfl trivial))
                          case r19 =>
                            refine step_of rfl rfl ?_
                            intro a wx vs fp K hF hK
                            exact op_move rfl (hF.at_ 21 rfl) (hK _ _ _ (hF.only rfl trivial))
                          case r20 =>
                            refine step_of rfl rfl ?_
                            intro a wx vs fp K hF hK
                            exact op_move rfl (hF.at_ 30 rfl) (hK _ _ _ (hF.only rfl trivial))
                          case r21 =>
                            refine step_of rfl rfl ?_
                            intro a wx vs fp K hF hK
                            exact op_move rfl (hF.at_ 34 rfl) (hK _ _ _ (hF.only rfl trivial))
                          case r22 =>
                            refine step_of rfl rfl ?_
                            intro a wx vs fp K hF hK
                            have ea : a.eval (.tmp 324) = .slice C2 k2 d2 := (hF.ev 19 324 rfl rfl).trans (hF.va 19 rfl)
                            have eb : a.eval (.tmp 325) = .int .i64 d1 := (hF.ev 20 325 rfl rfl).trans (hF.va 20 rfl)
                            have ec2 : a.eval (.tmp 326) = .int .i64 bd := (hF.ev 21 326 rfl rfl).trans (hF.va 21 rfl)
                            refine op_call (vals := #[.slice C2 k2 d2, .int .i64 d1, .int .i64 bd]) rfl (by kernel_rfl) ?_ ((HBT2.out wx hF.below).mono ?_)
                            · simp only [List.map_toArray, List.map_cons, List.map_nil, ea, eb, ec2]
                            rintro e w' ⟨B, d, rfl, ho, hb⟩
                            exact ⟨_, rfl, hK _ _ _ (hF.under hb trivial ⟨own_mono ho hF.below.size, rfl⟩ (fun g hg => ⟨own_base ho g (by simpa using hg), own_lt ho g (by simpa using hg)⟩))⟩
                          case r23 =>
                            refine step_of rfl rfl ?_
                            intro a wx vs fp K hF hK
                            have hm : OwnR W7.heap.size 68 3 (zs.length) (flat encSl zs) [] (vs 22) (fp 22) wx := hF.me 22 rfl
                            obtain ⟨B, d, hB⟩ := own_slice hm.1
                            have ho := hm.1
                            rw [hB] at ho
                            have e1 : a.eval (.tmp 308) = .int .i64 z := (hF.ev 3 308 rfl rfl).trans (hF.va 3 rfl)
                            have e2 : a.eval (.tmp 314) = .string x.code := (hF.ev 9 314 rfl rfl).trans (hF.va 9 rfl)
                            have e3 : a.eval (.tmp 322) = .int .i64 bq := (hF.ev 17 322 rfl rfl).trans (hF.va 17 rfl)
                            have e4 : a.eval (.tmp 323) = .int .i64 pr := (hF.ev 18 323 rfl rfl).trans (hF.va 18 rfl)
                            have e5 : a.eval (.tmp 327) = .slice B zs.length d := (hF.ev 22 327 rfl rfl).trans hB
                            refine op_value (v := .agg #[.int .i64 z, .string x.code, .int .i64 bq, .int .i64 pr, .slice B zs.length d]) ?_ (hK _ _ _ (hF.hand 22 rfl trivial ⟨B, d, rfl, ho, by rw [hm.2, hB]⟩))
                            clear hF hK hm ho hB
                            generalize a.eval = ρ at *
                            go_simp
                          case r24 =>
                            refine step_of rfl rfl ?_
                            intro a wx vs fp K hF hK
                            refine op_value (v := .pointer (some ⟨wx.heap.size, 0, none⟩)) (w' := wx.alloc (.cells #[.int .i64 0, .string ⟨#[]⟩, .int .i64 0, .int .i64 0, .slice none 0 0] 36)) ?_ (hK _ _ _ (hF.made _ trivial ⟨_, rfl, rfl, Bl.new _ _ _⟩))
                            have ec : ∀ v, a.eval (.const v) = v := fun _ => rfl
                            clear hF hK
                            generalize a.eval = ρ at *
                            go_simp
                          case r25 =>
                            refine step_of rfl rfl ?_
                            intro a wx vs fp K hF hK
                            have hm : PtrR 36 #[.int .i64 0, .string ⟨#[]⟩, .int .i64 0, .int .i64 0, .slice none 0 0] [] (vs 24) (fp 24) wx := hF.me 24 rfl
                            have hb : BkL W7.heap.size z x.code bq pr zs [] (vs 23) (fp 23) wx := hF.me 23 rfl
                            obtain ⟨g, hg, hfg, hbl⟩ := hm
                            obtain ⟨B, d, hv, hbk, hfb⟩ := hb
                            have e1 : a.eval (.tmp 35) = .pointer (some ⟨g, 0, none⟩) := (hF.ev 24 35 rfl rfl).trans hg
                            have e2 : a.eval (.tmp 328) = .agg #[.int .i64 z, .string x.code, .int .i64 bq, .int .i64 pr, .slice B zs.length d] := (hF.ev 23 328 rfl rfl).trans hv
                            have y0 := hbl.c0
                            have y1 := hbl.c1
                            have y2 := hbl.c2
                            have y3 := hbl.c3
                            have y4 := hbl.c4
                            have f0 := hbl.free 0
                            have f1 := hbl.free 1
                            have f2 := hbl.free 2
                            have f3 := hbl.free 3
                            have f4 := hbl.free 4
                            refine op_skip (w' := ((((wx.setCell ⟨g, 0, none⟩ (.int .i64 z)).setCell ⟨g, 1, none⟩ (.string x.code)).setCell ⟨g, 2, none⟩ (.int .i64 bq)).setCell ⟨g, 3, none⟩ (.int .i64 pr)).setCell ⟨g, 4, none⟩ (.slice B zs.length d)) ?_ (hK undef _ _ (hF.boxl (by decide) hg hfg hbl hbk hfb trivial fun _ _ h => h))
                            clear hF hK hbk
                            generalize a.eval = ρ at *
                            go_simp
                          case fin =>
                            intro wz vs fp hI
                            have hM : BoxL W7.heap.size z x.code bq pr zs [vs 24, vs 23] (vs 25) (fp 25) wz := (hI.finM 25 (by decide) rfl).1
                            obtain ⟨g, B, d, hg, hf, hbl, hown⟩ := hM
                            have h24 : vs 24 = .pointer (some ⟨g, 0, none⟩) := by simpa using hg
                            have hbz := hI.below
                            clear hI hg hf
                            simp only [rj, number, putJ, List.map_cons, List.map_nil, if_true, Act.put, List.setIfInBounds_toArray, List.set_cons_zero, List.set_cons_succ, h24]
                            generalize vs 0 = zv0
                            generalize vs 1 = zv1
                            generalize vs 2 = zv2
                            generalize vs 3 = zv3
                            generalize vs 4 = zv4
                            generalize vs 5 = zv5
                            generalize vs 6 = zv6
                            generalize vs 7 = zv7
                            generalize vs 8 = zv8
                            generalize vs 9 = zv9
                            generalize vs 10 = zv10
                            generalize vs 11 = zv11
                            generalize vs 12 = zv12
                            generalize vs 13 = zv13
                            generalize vs 14 = zv14
                            generalize vs 15 = zv15
                            generalize vs 16 = zv16
                            generalize vs 17 = zv17
                            generalize vs 18 = zv18
                            generalize vs 19 = zv19
                            generalize vs 20 = zv20
                            generalize vs 21 = zv21
                            generalize vs 22 = zv22
                            generalize vs 23 = zv23
                            have HPI8 := Lib.hid (HPI7.out.under hbz)
                            have HSZ : Hid (SlP wz B zs.length d zs) := SlP.own hown
                            have c0 := hbl.c0
                            have c1' := hbl.c1
                            have c2' := hbl.c2
                            have c3' := hbl.c3
                            have c4 := hbl.c4
                            have HB8 : Hid (RowKit.Below w.heap.size w wz) := HBW7.out.trans (hbz.mono HBW7.out.size)
                            obtain ⟨kz, hkz⟩ : ∃ kz, zs.length = kz := ⟨_, rfl⟩
                            have HKZ := Lib.hid hkz
                            rw [hkz] at c4
                            clear hbl hown hbz h24 hkz e2 e3 e4 e5 l3 l5 lr
                            by_cases gl : kz > 64
                            case pos =>
                              have dl : decide ((kz : Int) > 64) = true := by simp; omega
                              have dl2 : decide (64 < kz) = true := by simp; omega
                              go_wp2
                              go_ret2
                              exact ActR.bad (by decide) HB8.out
                            case neg =>
                            have dl : decide ((kz : Int) > 64) = false := by simp; omega
                            have dl2 : decide (64 < kz) = false := by simp; omega
                            obtain ⟨nb, hnb⟩ : ∃ nb : Lb, nb = ⟨⟨z, x.code, bq, pr, zs⟩, B, kz, d⟩ := ⟨_, rfl⟩
                            have HNB := Lib.hid hnb
                            have HNE : Hid (encL nb = [.int .i64 z, .string x.code, .int .i64 bq, .int .i64 pr, .slice B kz d]) := by show _ = _; rw [hnb]; rfl
                            clear hnb
                            have HSN : Hid (SlP wz nb.A nb.n nb.c nb.x.sl) := by show _ ∧ _; rw [HNB.out]; have := HSZ.out; rw [HKZ.out] at this; exact this
                            have HLN : Hid (LtOk nb.x) := by
                              show LtOk _
                              rw [HNB.out]
                              have h6 := HZB.out
                              refine ⟨⟨by show 1 ≤ z; omega, h6.2⟩, HXO.out.1, ⟨hbq.1, by show bq ≤ _; omega⟩, HPR.out, by show zs.length ≤ 64; rw [HKZ.out]; omega, ?_, ?_⟩
                              · show SlsOk zs; rw [← HZS.out]; exact between_ok HC.out.ok _ _
                              · show Compact zs; rw [← HZS.out]; exact between_compact HC.out.ok _ _
                            have HRD : Hid (Rd (wz.alloc (.cells #[.int .i64 z, .string x.code, .int .i64 bq, .int .i64 pr, .slice B kz d] 36)) 5 (some ⟨wz.heap.size, 0, none⟩) 1 (encL nb)) := by
                              show Rd _ _ _ _ _
                              rw [HNE.out]
                              exact rd_bl (Bl.new _ _ _) rfl
                            have HPIA : Hid (PrI W9 ys os i d1 L lc ls (wz.alloc (.cells #[.int .i64 z, .string x.code, .int .i64 bq, .int .i64 pr, .slice B kz d] 36))) := HPI8.out.under ((Below.refl _ _).alloc (Nat.le_refl _) _)
                            have HSA : Hid (SlP (wz.alloc (.cells #[.int .i64 z, .string x.code, .int .i64 bq, .int .i64 pr, .slice B kz d] 36)) nb.A nb.n nb.c nb.x.sl) := HSN.out.below ((Below.refl _ _).alloc (Nat.le_refl _) _)
                            have HM1 : Hid (i + 1 ≤ maxLen ∧ (i + 1) * 64 ≤ 140737488355328) := ⟨by unfold maxLen; omega, by omega⟩
                            have HON := Lib.hid (encL_one nb)
                            go_wp2_with (at_builtin; refine wpList_append_rd _ rfl (.tmp 334) (.tmp 336) 23 rfl W9.heap.size 36 _ 5 64 Tryz.underlying23 infoLt rfl (by decide) (.slice L i lc) i (flat encL ls) rfl HPIA.out.own (some ⟨wz.heap.size, 0, none⟩) 1 _ (encL nb) rfl HRD.out HON.out HM1.out.1 HM1.out.2 HPIA.out.below.size ?_; intro v9 w9 ho9 hg9 hv9; obtain ⟨L9, e9, rfl⟩ := own_slice ho9)
                            have hpi9 : PrI W9 ys os (i + 1) bd L9 e9 (ls ++ [nb]) w9 := HPIA.out.next (by omega) (by rw [HNB.out, HZI.out]) HSA.out HLN.out HC.out.ok (by rw [HNB.out, HZS.out]) hdb ho9 hg9
                            have hbd3 : bd = N * (c1 + s1) / S := HBD.out.symm
                            go_roundw
                            case rel => exact ⟨i + 1, bd, c1 + s1, L9, e9, ls ++ [nb], by go_num, rfl, rfl, rfl, by omega, by omega, hbd0, hbd1, HC2.out, hbd3, hpi9⟩
                            case measure => simp [intOf]; omega
                        case neg =>
                        have dk : decide ((i : Int) < (no : Int)) = false := by simp; omega
                        have hio : i = no := by omega
                        subst hio
                        have hlsl : ls.length = i := HPI.out.ll
                        have hids : ls.map (fun b => b.x.id) = os := by rw [HPI.out.ids, List.take_of_length_le (by omega)]
                        have HLI : Hid (∀ b ∈ ls, b.x.id ∈ os) := fun b hb => by rw [← hids]; exact List.mem_map.2 ⟨b, hb, rfl⟩
                        have HLA : Hid (ls.Pairwise (fun a b => a.x.id < b.x.id)) := by
                          have h1 := HASC.out
                          rw [← hids] at h1
                          exact List.pairwise_map.1 h1
                        clear hids
                        have HIW : Hid (Ints wr (some ⟨b2, o2, none⟩) m xs) := HI.out.below HBW2.out
                        have HRW : Hid (Recs encL 5 wr (some ⟨b1, o1, none⟩) n bs) := HX.out.st.lots.recs.below HBW2.out
                        have HN1 : Hid ((unitsOf ys).Nodup ∧ ∀ u ∈ unitsOf ys, ∃ x ∈ lotsOf bs, x.id ∈ xs ∧ u ∈ unitsOf x.sl) := ⟨HC.out.nd, fun u hu => by
                          obtain ⟨x, hx, h1, h2⟩ := HC.out.sub u hu
                          exact ⟨x, hx, List.mem_of_mem_take h1, h2⟩⟩
                        clear HC HC1 HD1 HRX2 HBX HRXR
                        go_wp2_with fail
                        refine (HWO.out (some ⟨b1, o1, none⟩) n c bs (some ⟨b2, o2, none⟩) m pc xs wr HRW.out HIW.out (by omega) (by omega)).mono ?_
                        rintro e w8 ⟨B8, d8, rfl, ho8, hb8⟩
                        have HO8 := Lib.hid ho8
                        have HI8 := Lib.hid (HPI.out.under hb8)
                        have hsl8 := List.length_filter_le (fun b : Lb => decide (b.x.id ∉ xs)) bs
                        have HB8 : Hid (RowKit.Below w.heap.size w w8) := HBW2.out.trans (hb8.mono HBW2.out.size)
                        have HORD : Hid (((bs.filter fun b => decide (b.x.id ∉ xs)) ++ ls).Pairwise (fun a b => a.x.id < b.x.id)) := by
                          show List.Pairwise _ _
                          rw [List.pairwise_append]
                          refine ⟨HE.out.pair.sublist List.filter_sublist, HLA.out, fun a ha b hb => ?_⟩
                          have h1 := HE.out.idb a (List.filter_sublist.subset ha)
                          have h2 := (HFR.out _ (HLI.out b hb)).1
                          omega
                        have hcnt : (bs.filter fun b => decide (b.x.id ∉ xs)).length + m = n := by
                          have h4 := filter_out29 HE.out.st.asc HND.out fun j hj => by
                            obtain ⟨q, hq, rfl⟩ := List.getElem_of_mem hj
                            obtain ⟨y, hy, e⟩ := HAL.out q (by omega)
                            exact ⟨y.x, List.mem_map.2 ⟨y, hy, rfl⟩, by rw [e, List.getD_eq_getElem?_getD, List.getElem?_eq_getElem hq]; rfl⟩
                          rw [← lots_out] at h4
                          unfold lotsOf at h4
                          rw [List.length_map, List.length_map] at h4
                          omega
                        clear ho8 hb8 HIW HRW HPI
                        generalize hss : (bs.filter fun b => decide (b.x.id ∉ xs)) = ss at *
                        go_wp2_with fail
                        refine (HPU.out B8 ss.length d8 ss L i lc ls w8 (Recs.of_own encL_len HO8.out rfl) (Recs.of_own encL_len HI8.out.own hlsl) (by omega) (by omega) HORD.out).mono ?_
                        rintro e w9 ⟨B9, d9, rfl, ho9, hb9⟩
                        have HB9 : Hid (RowKit.Below w.heap.size w w9) := HB8.out.trans (hb9.mono HB8.out.size)
                        have HM9 : Hid (StM w9 B9 (ss ++ ls).length d9 (ss ++ ls)) := StM.own ho9 fun b hb => by
                          rcases List.mem_append.1 hb with hb | hb
                          · rw [← hss] at hb
                            exact sl_below (HX.out.sl b (List.filter_sublist.subset hb)) HB9.out
                          · exact (HI8.out.sls b hb).below hb9
                        have HR9 : Hid (EstOk (lotsOf (ss ++ ls)) cs free') := by
                          show EstOk _ _ _
                          have e1 : lotsOf (ss ++ ls) = ((lotsOf bs).filter fun x => decide (x.id ∉ xs)) ++ lotsOf ls := by
                            rw [← lots_out, hss]; unfold lotsOf; rw [List.map_append]
                          have hu := HI8.out.units
                          rw [e1]
                          refine HE.out.over (fun y hy => ?_) ?_ (fun y hy => ?_) HFF.out ?_ ?_ fun u hu2 => ?_
                          · obtain ⟨b, hb, rfl⟩ := List.mem_map.1 hy
                            exact HI8.out.lok b hb
                          · exact List.pairwise_map.2 HLA.out
                          · obtain ⟨b, hb, rfl⟩ := List.mem_map.1 hy
                            exact HFR.out _ (HLI.out b hb)
                          · rw [← lots_out, hss]
                            unfold lotsOf
                            rw [List.length_map, List.length_map]
                            have := HGL.out
                            omega
                          · rw [hu]; exact HN1.out.1.sublist (List.take_sublist _ _)
                          · rw [hu] at hu2
                            exact HN1.out.2 u ((List.take_sublist _ _).subset hu2)
                        clear ho9 hb9 HORD HO8 HI8
                        generalize ss ++ ls = bs6 at *
                        go_wp2
                        go_ret2
                        exact ⟨B9, d9, 0, bs6, rfl, fun _ => ⟨HM9.out, HR9.out⟩, HB9.out⟩
end Go.Proofs.YthnhgjhnkncmiaaGreat

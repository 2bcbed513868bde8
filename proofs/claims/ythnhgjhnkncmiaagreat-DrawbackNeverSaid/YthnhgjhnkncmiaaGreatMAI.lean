/-
  What is used of the reference's Take (customsref24). No statement of the seat is proved here. Conditions: the list reads as valid slices, at most 64 of them; the number is within 10^13.
  Words for rows of lots. No statement of the seat is proved here. No conditions.
  The comparison of slices of sources, and the sort of a row of them. No statement of the seat is proved here. Conditions: at most 10000 slices.
  Contracts of lot.Valid and of what it calls. No statement of the seat is proved here. Conditions: the list reads as slices, at most 2^63 - 1 of them.
-/
import Derived.Test.YthnhgjhnkncmiaaGreatMAH
import Derived.Test.YthnhgjhnkncmiaaGreatMAD
import Derived.Shelf.SlSortCmp.NoneTotal
import Derived.Test.YthnhgjhnkncmiaaGreatMAB
import Derived.Lib.AppendZerosOnto
import Derived.BigQuiet
namespace Go.Proofs.YthnhgjhnkncmiaaGreat
open Go.RowKit
set_option linter.unusedVariables false

def lensOf (l : List Sl) : List Int := l.map fun x => x.to - x.fr
theorem lensOf_sum (l : List Sl) : (lensOf l).sum = cnt29 l := rfl
theorem lensOf_in {l : List Sl} (h : SlsOk l) : AllIn (lensOf l) := fun i => by
  unfold lensOf
  by_cases hi : i < l.length
  · have hx := slOk_yes (h l[i] (List.getElem_mem hi))
    rw [List.getD_eq_getElem?_getD, List.getElem?_map, List.getElem?_eq_getElem hi]
    simp only [Option.map_some, Option.getD_some]
    omega
  · rw [List.getD_eq_getElem?_getD, List.getElem?_eq_none (by simpa using hi)]
    simp
theorem cnt29_pos {l : List Sl} (h : SlsOk l) : l.length = 0 ∨ 0 < cnt29 l := by
  cases l with
  | nil => exact .inl rfl
  | cons x xs =>
    right
    have hx := slOk_yes (h x (by simp))
    have := (cnt29_bounds (l := xs) (fun y hy => h y (by simp [hy]))).1
    have e : cnt29 (x :: xs) = x.to - x.fr + cnt29 xs := by simp [cnt29]
    omega
theorem cnt29_units {l : List Sl} (h : SlsOk l) : cnt29 l = ((unitsOf l).length : Int) := by
  induction l with
  | nil => rfl
  | cons x xs ih =>
    have hx := slOk_yes (h x (by simp))
    have e : cnt29 (x :: xs) = x.to - x.fr + cnt29 xs := by simp [cnt29]
    rw [e, ih (fun y hy => h y (by simp [hy])), unitsOf_cons, List.length_append, slUnits_len]
    omega
theorem flatSl_one (l : List Sl) : ∀ v ∈ flat encSl l, v.oneCell' = true := by
  induction l with
  | nil => intro v hv; simp [flat] at hv
  | cons x xs ih =>
    intro v hv
    have e : flat encSl (x :: xs) = encSl x ++ flat encSl xs := rfl
    rw [e] at hv
    rcases List.mem_append.1 hv with h | h
    · exact encSl_one x v h
    · exact ih v h
theorem one_sub {l : List Sl} {q : Nat} (h : q < l.length) : (l.drop q).take 1 = [l[q]!] := by
  rw [List.drop_eq_getElem_cons h, List.take_succ_cons, List.take_zero, getElem!_pos l q h]
theorem cnt29_join {l : List Sl} (h : SlsOk l) : cnt29 (joinS l) = cnt29 l := by
  rw [cnt29_units h, cnt29_units (join_ok h), join_units h]
set_option maxRecDepth 100000 in
set_option maxHeartbeats 16000000 in
theorem Take_any (A : Option Addr) (n c : Nat) (xs : List Sl) (u me : Int) (w : World) (h : Recs encSl 3 w A n xs) (hv : SlsOk xs) (hn : n ≤ 64) (hnc : n ≤ c) (hcm : c ≤ 9223372036854775807) :
    Calls Tryz.prog 79 #[.slice A n c, .int .i64 u, .int .i64 me] w (TakeRes w xs) := by
  have HX := Lib.hid h
  have HV := Lib.hid hv
  have HVA := Lib.hid (Valid_any A n c xs w h hnc hcm)
  have HCO := Lib.hid count29_any
  have HJ := Lib.hid join29_any
  have HF := Lib.hid front29_any
  have HSH := Lib.hid share29_any
  have hxl : xs.length = n := h.1
  have HPN := Lib.hid (PartR.none xs)
  have hcb := cnt29_bounds hv
  clear h hv
  go_enter Tryz.func79, Tryz.ntmps79
  go_wp2_with fail
  refine HVA.out.mono ?_
  rintro e w1 ⟨rfl, hb1⟩
  have HB1 := Lib.hid hb1
  clear hb1 HVA
  by_cases he : slErr xs = 0
  case neg =>
    have de : (slErr xs == 0) = false := by simpa using he
    generalize slErr xs = er at *
    clear he
    go_wp2
    go_ret3
    exact ⟨none, 0, none, 0, [], [], er, rfl, Two.none HB1.out, HPN.out⟩
  case pos =>
  rw [he]
  clear he
  have HX1 : Hid (Recs encSl 3 w1 A n xs) := HX.out.below HB1.out
  go_wp2_with fail
  refine (HCO.out A n c xs w1 HX1.out HV.out (by omega)).mono ?_
  rintro e w2 ⟨rfl, q2, rfl⟩
  have HB2 : Hid (RowKit.Below w.heap.size w (w1.drewN q2)) := below_drewN HB1.out q2
  clear HB1 HX1
  generalize w1.drewN q2 = w2 at *
  obtain ⟨N, hN⟩ : ∃ N, cnt29 xs = N := ⟨_, rfl⟩
  have HN := Lib.hid hN
  rw [hN] at hcb ⊢
  clear hN
  by_cases g0 : u < 0
  case pos =>
    have d0 : decide (u < 0) = true := decide_eq_true g0
    go_wp2
    go_ret3
    exact ⟨none, 0, none, 0, [], [], 2, rfl, Two.none HB2.out, HPN.out⟩
  case neg =>
  have d0 : decide (u < 0) = false := decide_eq_false g0
  by_cases g1 : u > N
  case pos =>
    have d1 : decide (u > N) = true := decide_eq_true g1
    go_wp2
    go_ret3
    exact ⟨none, 0, none, 0, [], [], 2, rfl, Two.none HB2.out, HPN.out⟩
  case neg =>
  have d1 : decide (u > N) = false := decide_eq_false g1
  by_cases g2 : me < 1
  case pos =>
    have d2 : decide (me < 1) = true := decide_eq_true g2
    go_wp2
    go_ret3
    exact ⟨none, 0, none, 0, [], [], 2, rfl, Two.none HB2.out, HPN.out⟩
  case neg =>
  have d2 : decide (me < 1) = false := decide_eq_false g2
  by_cases g3 : me > 3
  case pos =>
    have d3 : decide (me > 3) = true := decide_eq_true g3
    go_wp2
    go_ret3
    exact ⟨none, 0, none, 0, [], [], 2, rfl, Two.none HB2.out, HPN.out⟩
  case neg =>
  have d3 : decide (me > 3) = false := decide_eq_false g3
  have HX2 : Hid (Recs encSl 3 w2 A n xs) := HX.out.below HB2.out
  go_wp2_with fail
  refine (HJ.out A n c xs w2 HX2.out (by omega)).mono ?_
  rintro e w3 ⟨C, d, rfl, ho3, hb3⟩
  have HB3 : Hid (RowKit.Below w.heap.size w w3) := HB2.out.trans (hb3.mono HB2.out.size)
  have HR3 : Hid (Recs encSl 3 w3 C (joinS xs).length (joinS xs)) := Recs.of_own encSl_len ho3 rfl
  have hcap := own_boundsF ho3
  have hk64 : (joinS xs).length ≤ n := by have := join_len xs; omega
  have HJO : Hid (SlsOk (joinS xs)) := join_ok HV.out
  have HJC : Hid (cnt29 (joinS xs) = N) := by show _ = _; rw [cnt29_join HV.out, HN.out]
  have HPJ : Hid (∀ a b, Parted (joinS xs) a b → PartR xs a b) := fun a b hp => (Parted.of_join HV.out hp).r
  clear ho3 hb3 HB2 HX2 HN
  generalize joinS xs = js at *
  obtain ⟨k, hk⟩ : ∃ k, js.length = k := ⟨_, rfl⟩
  have HK := Lib.hid hk
  rw [hk] at hk64 hcap ⊢
  rw [hk] at HR3
  clear hk
  have hmm : me = 1 ∨ me = 2 ∨ me = 3 := by omega
  have hu0 : 0 ≤ u := by omega
  have huN : u ≤ N := by omega
  clear g0 g1 g2 g3 d0 d1 d2 d3
  rcases hmm with rfl | rfl | rfl
  · go_wp2_with fail
    refine (HF.out C k d js u w3 HR3.out HJO.out (by omega) (by omega) (by omega)).mono ?_
    rintro e w4 ⟨B4, d4, C4, e4, rfl, h4⟩
    have H4 : Hid (Two w 68 3 w4 _ _ _ _ _ _) := ⟨own_mono h4.l HB3.out.size, own_mono h4.r HB3.out.size, h4.ne, HB3.out.trans (h4.below.mono HB3.out.size)⟩
    clear h4
    have HP4 := Lib.hid (HPJ.out _ _ (parted_front HJO.out u))
    generalize joinS (frontA js u) = fs at *
    generalize joinS (frontB js u) = bs at *
    go_wp2
    go_ret3
    exact ⟨B4, d4, C4, e4, fs, bs, 0, rfl, H4.out, HP4.out⟩
  · have u1 : IntKind.i64.wrap (N - u) = N - u := IntWalk.i64_in _ (by omega)
    go_wp2_with fail
    refine (HF.out C k d js (N - u) w3 HR3.out HJO.out (by omega) (by omega) (by omega)).mono ?_
    rintro e w4 ⟨B4, d4, C4, e4, rfl, h4⟩
    have H4 : Hid (Two w 68 3 w4 _ _ _ _ _ _) := ⟨own_mono h4.l HB3.out.size, own_mono h4.r HB3.out.size, h4.ne, HB3.out.trans (h4.below.mono HB3.out.size)⟩
    clear h4
    have HP4 := Lib.hid (HPJ.out _ _ (parted_front HJO.out (N - u)).flip)
    generalize joinS (frontA js (N - u)) = fs at *
    generalize joinS (frontB js (N - u)) = bs at *
    go_wp2
    go_ret3
    exact ⟨C4, e4, B4, d4, bs, fs, 0, rfl, H4.out.swap, HP4.out⟩
  · go_wp2_with fail
    go_loopw [16, 17] (fun s v wx => ∃ (i : Nat) (B : Option Addr) (e : Nat), v = .int .i64 (i : Int) ∧ s = .slice B i e ∧ i ≤ k ∧ Hid (wx.ownsRow w3.heap.size 3 1 (.slice B i e) i ((lensOf (js.take i)).map (Value.int .i64))) ∧ Hid (RowKit.Below w3.heap.size w3 wx) ∧ Hid (RowKit.Below w.heap.size w wx)) (fun _ v _ => k - (intOf v).toNat)
    case atStart => exact ⟨0, none, 0, rfl, rfl, Nat.zero_le _, ⟨by simp [lensOf], .inl ⟨rfl, rfl⟩⟩, Below.refl _ _, HB3.out⟩
    case round =>
      obtain ⟨i, B, e, rfl, rfl, hi, HO, HB, HBW⟩ := hrel
      by_cases hlt : i < k
      case pos =>
        have dk : decide ((i : Int) < (k : Int)) = true := by simp; omega
        obtain ⟨b1, o1, hC, hb1, ha⟩ := recs_at (HR3.out.below HB.out) hlt
        obtain ⟨x, hx⟩ : ∃ x, js[i]! = x := ⟨_, rfl⟩
        rw [hx] at ha
        have hjl : i < js.length := by rw [HK.out]; exact hlt
        have hxo := slOk_yes (HJO.out x (by rw [← hx, getElem!_pos js i hjl]; exact List.getElem_mem _))
        have HLS : Hid ((lensOf (js.take (i + 1))).map (Value.int .i64) = (lensOf (js.take i)).map (Value.int .i64) ++ [.int .i64 (x.to - x.fr)]) := by
          show _ = _
          rw [take_snoc29 js i hjl, hx]; simp [lensOf]
        have a1 : wr.cell? ⟨b1, o1 + i * 3 + 1, none⟩ = some (.int .i64 x.fr) := ha.out 1 (by omega)
        have a2 : wr.cell? ⟨b1, o1 + i * 3 + 2, none⟩ = some (.int .i64 x.to) := ha.out 2 (by omega)
        have u1 : IntKind.i64.wrap (x.to - x.fr) = x.to - x.fr := IntWalk.i64_in _ (by omega)
        have hii : (i : Int) < (k : Int) := by omega
        have hiz : (0 : Int) ≤ (i : Int) := by omega
        clear ha hx
        have HRD : Hid (Rd (wr.drew.alloc (.cells #[.int .i64 (x.to - x.fr)] 3)) 1 (some ⟨wr.drew.heap.size, 0, none⟩) 1 [.int .i64 (x.to - x.fr)]) := ⟨rfl, fun _ => ⟨wr.drew.heap.size, 0, rfl, by simp, fun j u hu => by rw [Nat.zero_add, (show Bl (wr.drew.alloc (.cells #[.int .i64 (x.to - x.fr)] 3)) wr.drew.heap.size 3 _ from Bl.new _ _ _).cell]; simpa using hu⟩⟩
        have HOA : Hid ((wr.drew.alloc (.cells #[.int .i64 (x.to - x.fr)] 3)).ownsRow w3.heap.size 3 1 (.slice B i e) i ((lensOf (js.take i)).map (Value.int .i64))) := own_alloc (w := wr.drew) HO.out _
        have HBA : Hid (RowKit.Below w.heap.size w (wr.drew.alloc (.cells #[.int .i64 (x.to - x.fr)] 3))) := HBW.out.drew.alloc HBW.out.size _
        have HBB : Hid (RowKit.Below w3.heap.size w3 (wr.drew.alloc (.cells #[.int .i64 (x.to - x.fr)] 3))) := HB.out.drew.alloc HB.out.size _
        subst hC
        have HM1 : Hid (i + 1 ≤ maxLen ∧ (i + 1) * 8 ≤ 140737488355328) := ⟨by unfold maxLen; omega, by omega⟩
        have HOV : Hid (∀ u ∈ ([.int .i64 (x.to - x.fr)] : List Value), u.oneCell' = true) := fun u hu => by rw [List.mem_singleton] at hu; subst hu; rfl
        go_upto_region 19 with (fail)
        go_region_law (refine step_append_rd _ rfl (.tmp 77) (.tmp 89) 22 rfl w3.heap.size 3 _ 1 8 Tryz.underlying22 infoI rfl (by decide) (.slice B i e) i _ rfl HOA.out (some ⟨wr.drew.heap.size, 0, none⟩) 1 _ [.int .i64 (x.to - x.fr)] rfl HRD.out HOV.out HM1.out.1 HM1.out.2 HBB.out.size ?_; intro v8 w8 ho8 hg8; obtain ⟨B8, d8, rfl⟩ := own_slice ho8)
        all_goals
          have hb8 : RowKit.Below w.heap.size w w8 := HBA.out.grown hg8 HBA.out.size (fun j hj => Nat.le_trans HB3.out.size (own_base HOA.out j hj))
          have hb9 : RowKit.Below w3.heap.size w3 w8 := HBB.out.grown hg8 HBB.out.size (fun j hj => own_base HOA.out j hj)
          have hno : w8.ownsRow w3.heap.size 3 1 (.slice B8 (i + 1) d8) (i + 1) ((lensOf (js.take (i + 1))).map (Value.int .i64)) := by rw [HLS.out]; exact ho8
          try go_wp2_with fail
          try go_roundw
          all_goals first
          | exact ⟨⟨i + 1, B8, d8, by go_num, rfl, by omega, hno, hb9, hb8⟩, by simp [intOf]; omega⟩
          | exact ⟨i + 1, B8, d8, by go_num, rfl, by omega, hno, hb9, hb8⟩
          | (simp [intOf]; omega)
      case neg =>
        obtain rfl : i = k := by omega
        have dk : decide ((i : Int) < (i : Int)) = false := by simp
        have hlj : lensOf (js.take i) = lensOf js := by rw [List.take_of_length_le (by rw [HK.out]; exact Nat.le_refl _)]
        have HI : Hid (Ints wr B i (lensOf js)) := by have := HO.out; rw [hlj] at this; exact IntsK.of_own this
        clear HO hlj
        go_wp2_with fail
        refine (HSH.out u B i e (lensOf js) wr HI.out (by omega) hu0 (by rw [lensOf_sum, HJC.out]; exact huN) (by omega) (lensOf_in HJO.out) (by have := cnt29_pos HJO.out; rw [HK.out] at this; exact this)).mono ?_
        rintro e2 w4 ⟨S, cs, ys, rfl, ho4, hyl, hyb, hb4⟩
        have HIS : Hid (Ints w4 S i ys) := IntsK.of_own ho4
        have hcs := own_boundsF ho4
        have HYB := Lib.hid hyb
        have HB4 : Hid (RowKit.Below w.heap.size w w4) := HBW.out.trans (hb4.mono HBW.out.size)
        have HR4 : Hid (Recs encSl 3 w4 C i js) := HR3.out.below (HB.out.trans (hb4.mono HB.out.size))
        clear ho4 hb4 hyb HB HBW HI HR3 HB3 HSH
        go_wp2_with fail
        go_loopw [19, 20, 21] (fun a b v wx => ∃ (q : Nat) (F : Option Addr) (f d5 : Nat) (G : Option Addr) (g d6 : Nat) (os ps : List Sl), v = .int .i64 (q : Int) ∧ a = .slice F f d5 ∧ b = .slice G g d6 ∧ q ≤ i ∧ f ≤ q ∧ g ≤ q ∧ Hid (os = propA (js.take q) ys) ∧ Hid (ps = propB (js.take q) ys) ∧ Hid (os.length = f) ∧ Hid (ps.length = g) ∧ Hid (Two w4 68 3 wx (.slice F f d5) f (flat encSl os) (.slice G g d6) g (flat encSl ps))) (fun _ _ v _ => i - (intOf v).toNat)
        case atStart => exact ⟨0, none, 0, 0, none, 0, 0, [], [], rfl, rfl, rfl, Nat.zero_le _, Nat.le_refl _, Nat.le_refl _, (by show _ = _; simp [propA]), (by show _ = _; simp [propB]), rfl, rfl, Two.start w4 _ 3⟩
        case round =>
          obtain ⟨q, F, f, d5, G, g, d6, os, ps, rfl, rfl, rfl, hq, hf, hg, HOS, HPS, HK2, HL2, HT⟩ := hrel
          by_cases hlt2 : q < i
          case neg =>
            have dk2 : decide ((q : Int) < (i : Int)) = false := by simp; omega
            have HA : Hid (os = propA js ys) := by show _ = _; rw [HOS.out, List.take_of_length_le (by rw [HK.out]; omega)]
            have HB : Hid (ps = propB js ys) := by show _ = _; rw [HPS.out, List.take_of_length_le (by rw [HK.out]; omega)]
            have HR1 : Hid (Recs encSl 3 wr F f os) := Recs.of_own encSl_len HT.out.l HK2.out
            clear HOS HPS
            go_wp2_with fail
            refine (HJ.out F f d5 os wr HR1.out (by omega)).mono ?_
            rintro e w8 ⟨B8, d8, rfl, ho8, hb8⟩
            have HT8 := Lib.hid (HT.out.under hb8)
            have HO8 := Lib.hid ho8
            have HR2 : Hid (Recs encSl 3 w8 G g ps) := Recs.of_own encSl_len HT8.out.r HL2.out
            have HSZ := Lib.hid (Nat.le_trans HB4.out.size HT.out.below.size)
            have HSZ8 := Lib.hid hb8.size
            clear ho8 hb8 HR1
            go_wp2_with fail
            refine (HJ.out G g d6 ps w8 HR2.out (by omega)).mono ?_
            rintro e w9 ⟨B9, d9, rfl, ho9, hb9⟩
            have HO9 := Lib.hid ho9
            have HB9 := Lib.hid hb9
            have hA := HA.out
            have hB := HB.out
            subst hA hB
            have HP9 := Lib.hid (HPJ.out _ _ (parted_prop HJO.out ys))
            have HTT : Hid (Two w 68 3 w9 _ _ _ _ _ _) := ⟨own_mono (own_below HO8.out HB9.out) HSZ.out, own_mono HO9.out (Nat.le_trans HSZ.out HSZ8.out), fun g h1 h2 => by
              have e1 := own_lt HO8.out g h1
              have e2 := own_base HO9.out g h2
              omega, HB4.out.trans ((HT8.out.below.trans (HB9.out.mono HT8.out.below.size)).mono HB4.out.size)⟩
            clear ho9 hb9
            go_wp2
            go_ret3
            exact ⟨B8, d8, B9, d9, joinS (propA js ys), joinS (propB js ys), 0, rfl, HTT.out, HP9.out⟩
          case pos =>
          have dk2 : decide ((q : Int) < (i : Int)) = true := by simp; omega
          obtain ⟨b1, o1, rfl, hb1, ha⟩ := recs_at (HR4.out.below HT.out.below) hlt2
          obtain ⟨b2, o2, y, rfl, hb2, hy, HY⟩ := (HIS.out.below HT.out.below).get hlt2
          obtain ⟨x, hx⟩ : ∃ x, js[q]! = x := ⟨_, rfl⟩
          have hjl : q < js.length := by rw [HK.out]; exact hlt2
          have hyb := HYB.out q
          rw [HY.out] at hyb
          have HB7 : Hid (RowKit.Below w4.heap.size w4 wr.drew) := HT.out.below.drew
          have HT7 : Hid (Two w4 68 3 wr.drew (.slice F f d5) f (flat encSl os) (.slice G g d6) g (flat encSl ps)) := HT.out.under (Below.refl _ _).drew
          have HS1 : Hid (Recs encSl 3 wr.drew (some ⟨b1, o1 + q * 3, none⟩) 1 [x]) := by have := recs_sub (i := q) (m := 1) (HR4.out.below HB7.out) (by omega); rwa [one_sub hjl, hx] at this
          have HXK : Hid (SlsOk [x]) := fun z hz => by rw [List.mem_singleton] at hz; subst hz; exact HJO.out z (by rw [← hx, getElem!_pos js q hjl]; exact List.getElem_mem _)
          have HOS2 : Hid (propA (js.take (q + 1)) ys = os ++ frontA [x] y) := by
            show _ = _
            rw [take_snoc29 js q hjl, propA_snoc, ← HOS.out, hx, List.length_take_of_le (show q ≤ js.length by omega), HY.out]
          have HPS2 : Hid (propB (js.take (q + 1)) ys = ps ++ frontB [x] y) := by
            show _ = _
            rw [take_snoc29 js q hjl, propB_snoc, ← HPS.out, hx, List.length_take_of_le (show q ≤ js.length by omega), HY.out]
          have hw1 : IntKind.i64.wrap ((q : Int) + 1) = (q : Int) + 1 := IntWalk.i64_in _ (by omega)
          have htn : ((q : Int) + 1).toNat = q + 1 := by omega
          have hc2 : (0 : Int) ≤ (q : Int) + 1 := by omega
          have hc3 : (q : Int) ≤ (q : Int) + 1 := by omega
          have hc4 : (q : Int) + 1 ≤ (i : Int) := by omega
          have hc5 : (q : Int) + 1 ≤ (d : Int) := by omega
          have hqq : q ≤ i := by omega
          have hqc : ¬ (d = q) := by omega
          have hk1 : q + 1 - q = 1 := by omega
          have hii : (q : Int) < (i : Int) := by omega
          have hiz : (0 : Int) ≤ (q : Int) := by omega
          clear ha hx HOS HPS HT HY
          go_upto_region 25 with (fail)
          have HHH : Hid (∀ W7, W7 = wr.drew → Calls Tryz.prog 92 #[.slice (some ⟨b1, o1 + q * 3, none⟩) 1 (d - q), .int .i64 y] W7 (SlRes2 W7 (joinS (frontA [x] y)) (joinS (frontB [x] y)))) := fun W7 e => by subst e; exact HF.out (some ⟨b1, o1 + q * 3, none⟩) 1 (d - q) [x] y wr.drew HS1.out HXK.out (by omega) (by omega) (by omega)
          go_region_with (go_at_call 92; refine (HHH.out _ rfl).mono ?_; rintro e w8 ⟨B8, d8, C8, e8, rfl, h8⟩)
          all_goals
            have hfl := frontA_len [x] y
            have hgl := frontB_len [x] y
            rw [List.length_singleton] at hfl hgl
            rw [joinA_one, joinB_one] at h8 ⊢
            have H8 := Lib.hid h8
            clear h8
            have HT8 := Lib.hid (HT7.out.under H8.out.below)
            generalize frontA [x] y = fa at *
            generalize frontB [x] y = fb at *
            have HRA : Hid (Rd w8 3 B8 fa.length (flat encSl fa)) := Rd.of_own H8.out.l
            have HFA := Lib.hid (flatSl_one fa)
            have HFB := Lib.hid (flatSl_one fb)
            have HMA : Hid (f + fa.length ≤ maxLen ∧ (f + fa.length) * 24 ≤ 140737488355328) := ⟨by unfold maxLen; omega, by omega⟩
            have HMB : Hid (g + fb.length ≤ maxLen ∧ (g + fb.length) * 24 ≤ 140737488355328) := ⟨by unfold maxLen; omega, by omega⟩
            have HRB : Hid (∀ w9, w8.grownBy w9 (.slice F f d5 : Value).ownBlock → Rd w9 3 C8 fb.length (flat encSl fb)) := fun w9 hg9 => Rd.of_own (own_of_block H8.out.r fun g1 h1 => hg9.block g1 (own_lt H8.out.r g1 h1) (fun e => by have e1 := own_lt HT7.out.l g1 e.symm; have e2 := own_base H8.out.r g1 h1; omega))
            clear HS1 HXK HT7
            go_wp2_with (first
              | (at_builtin; refine wpList_append_rd _ rfl (.tmp 113) (.tmp 114) 34 rfl w4.heap.size 68 _ 3 24 Tryz.underlying34 infoSl rfl (by decide) (.slice F f d5) f (flat encSl os) rfl HT8.out.l B8 fa.length d8 (flat encSl fa) rfl HRA.out HFA.out HMA.out.1 HMA.out.2 HT8.out.below.size ?_; intro v9 w9 ho9 hg9 hv9; have HT9 := Lib.hid (HT8.out.left ho9 hg9 hv9); have HRB9 := Lib.hid (HRB.out w9 hg9); obtain ⟨B9, d9, rfl⟩ := own_slice ho9; clear ho9 hg9 hv9)
              | (at_builtin; refine wpList_append_rd _ rfl (.tmp 116) (.tmp 117) 34 rfl w4.heap.size 68 _ 3 24 Tryz.underlying34 infoSl rfl (by decide) (.slice G g d6) g (flat encSl ps) rfl HT9.out.r C8 fb.length e8 (flat encSl fb) rfl HRB9.out HFB.out HMB.out.1 HMB.out.2 HT9.out.below.size ?_; intro v10 w10 ho10 hg10 hv10; have HT10 := Lib.hid (HT9.out.right ho10 hg10 hv10); obtain ⟨B10, d10, rfl⟩ := own_slice ho10; clear ho10 hg10 hv10))
            go_roundw
            case rel => exact ⟨q + 1, B9, f + fa.length, d9, B10, g + fb.length, d10, os ++ fa, ps ++ fb, by go_num, rfl, rfl, by omega, by omega, by omega, (by show _ = _; rw [HOS2.out]), (by show _ = _; rw [HPS2.out]), (by show _ = _; rw [List.length_append, HK2.out]), (by show _ = _; rw [List.length_append, HL2.out]), (by show Two _ _ _ _ _ _ _ _ _ _; rw [flat_append os, flat_append ps]; exact HT10.out)⟩
            case measure => simp [intOf]; omega
end Go.Proofs.YthnhgjhnkncmiaaGreat

namespace Go.Proofs.YthnhgjhnkncmiaaGreat
open Go.RowKit
set_option linter.unusedVariables false

theorem infoLt : (Tryz.prog.info? 36).map (fun i => (i.zero, i.size, i.bytes)) = some (some (.agg #[.int .i64 0, .string ⟨#[]⟩, .int .i64 0, .int .i64 0, .slice none 0 0]), 5, 64) := by kernel_rfl
theorem flat_takeK {α : Type} {enc : α → List Value} {k : Nat} (hk : ∀ x, (enc x).length = k) (os : List α) (j : Nat) : flat enc (os.take j) = (flat enc os).take (j * k) := by
  induction os generalizing j with
  | nil => simp [flat]
  | cons o os ih =>
    cases j with
    | zero => simp [flat]
    | succ j =>
      show enc o ++ flat enc (os.take j) = (enc o ++ flat enc os).take ((j + 1) * k)
      rw [ih, show (j + 1) * k = (enc o).length + j * k by rw [hk, Nat.add_mul, Nat.one_mul]; omega, List.take_length_add_append]
theorem flat_dropK {α : Type} {enc : α → List Value} {k : Nat} (hk : ∀ x, (enc x).length = k) (os : List α) (j : Nat) : flat enc (os.drop j) = (flat enc os).drop (j * k) := by
  induction os generalizing j with
  | nil => simp [flat]
  | cons o os ih =>
    cases j with
    | zero => simp [flat]
    | succ j =>
      show flat enc (os.drop j) = (enc o ++ flat enc os).drop ((j + 1) * k)
      rw [ih, show (j + 1) * k = (enc o).length + j * k by rw [hk, Nat.add_mul, Nat.one_mul]; omega, List.drop_length_add_append]
theorem flat_oneK {α : Type} {enc : α → List Value} (h1 : ∀ x, ∀ v ∈ enc x, v.oneCell' = true) (os : List α) : ∀ v ∈ flat enc os, v.oneCell' = true := fun u hu => by
  obtain ⟨x, _, hx⟩ := List.mem_flatMap.1 hu
  exact h1 x u hx
theorem rd_bl {w : World} {g n : Nat} {t : TypeId} {size : Nat} {xs : List Value} (h : Bl w g t xs.toArray) (hl : xs.length = n * size) : Rd w size (some ⟨g, 0, none⟩) n xs :=
  ⟨hl, fun _ => ⟨g, 0, rfl, h.lt, fun j u hu => by rw [Nat.zero_add, h.cell]; simpa using hu⟩⟩
/-- A row of lots of the call's own. -/
def LtRes (w : World) (bs : List Lb) (e : Ending) (w' : World) : Prop := ∃ (B : Option Addr) (d : Nat), e = .returned (.slice B bs.length d) ∧ w'.ownsRow w.heap.size 36 5 (.slice B bs.length d) bs.length (flat encL bs) ∧ RowKit.Below w.heap.size w w'
end Go.Proofs.YthnhgjhnkncmiaaGreat

namespace Go.Proofs.YthnhgjhnkncmiaaGreat
open Go.RowKit Go.Shelf Go.Lib Go.Sort
set_option linter.unusedVariables false

set_option maxHeartbeats 1000000 in
theorem cmpOr_any (g : Nat) (a b : Int) (w : World) (h0 : w.cell? ⟨g, 0, none⟩ = some (.int .i64 a)) (h1 : w.cell? ⟨g, 1, none⟩ = some (.int .i64 b)) :
    Calls Tryz.prog 63 #[.slice (some ⟨g, 0, none⟩) 2 2] w fun e w' => e = .returned (.int .i64 (if a = 0 then b else a)) ∧ w = w' := by
  by_cases ha : a = 0
  · subst ha
    rw [if_pos rfl]
    by_cases hb : b = 0
    · subst hb
      go_enter Tryz.func63, Tryz.ntmps63
      go_wp2
      refine wp_loop_rounds 3 ?_
      rw [rounds_succ]
      go_wp2
      rw [rounds_succ]
      go_wp2
      rw [rounds_succ]
      go_wp2
      go_ret
      exact ⟨rfl, rfl⟩
    · have b1 : (b != 0) = true := by simpa using hb
      clear hb
      go_enter Tryz.func63, Tryz.ntmps63
      go_wp2
      refine wp_loop_rounds 2 ?_
      rw [rounds_succ]
      go_wp2
      rw [rounds_succ]
      go_wp2
      go_ret
      exact ⟨rfl, rfl⟩
  · have b1 : (a != 0) = true := by simpa using ha
    rw [if_neg ha]
    clear ha
    go_enter Tryz.func63, Tryz.ntmps63
    go_wp2
    refine wp_loop_rounds 1 ?_
    rw [rounds_succ]
    go_wp2
    go_ret
    exact ⟨rfl, rfl⟩

/-- The comparison by source and beginning. -/
def cmpS (x y : Sl) : Int := if Lib.compareInt x.src y.src = 0 then Lib.compareInt x.fr y.fr else Lib.compareInt x.src y.src

set_option maxRecDepth 100000 in
set_option maxHeartbeats 4000000 in
theorem cmpSl_any (x y : Sl) (W : World) :
    Calls Tryz.prog 90 #[.agg #[.int .i64 x.src, .int .i64 x.fr, .int .i64 x.to], .agg #[.int .i64 y.src, .int .i64 y.fr, .int .i64 y.to]] W
    fun e w' => e = .returned (.int .i64 (cmpS x y)) ∧ ∃ q os', w' = grow (W.drewN q) os' := by
  unfold cmpS
  have H1 := Lib.hid (fun w => Tryz.cmp_Compare_int x.src y.src w)
  have H2 := Lib.hid (fun w => Tryz.cmp_Compare_int x.fr y.fr w)
  generalize Lib.compareInt x.src y.src = r1 at *
  generalize Lib.compareInt x.fr y.fr = r2 at *
  have HOR : Hid (∀ (w' : World) (g : Nat), w'.heap.size = g → Calls Tryz.prog 63 #[.slice (some ⟨g, 0, none⟩) 2 2] (w'.alloc (.cells #[.int .i64 r1, .int .i64 r2] 3)).drew (fun e w9 => e = .returned (.int .i64 (if r1 = 0 then r2 else r1)) ∧ (w'.alloc (.cells #[.int .i64 r1, .int .i64 r2] 3)).drew = w9)) := fun w' g hg => by
    subst hg
    exact cmpOr_any _ r1 r2 _ ((Bl.new w' _ _).cell 0) ((Bl.new w' _ _).cell 1)
  generalize (if r1 = 0 then r2 else r1) = r at *
  have HB1 := (Bl.new W 68 #[.int .i64 x.src, .int .i64 x.fr, .int .i64 x.to]).alloc (.cells #[.int .i64 y.src, .int .i64 y.fr, .int .i64 y.to] 68)
  have HB2 := Bl.new (W.alloc (.cells #[.int .i64 x.src, .int .i64 x.fr, .int .i64 x.to] 68)) 68 #[.int .i64 y.src, .int .i64 y.fr, .int .i64 y.to]
  have HG : Hid ((W.alloc (.cells #[.int .i64 x.src, .int .i64 x.fr, .int .i64 x.to] 68)).alloc (.cells #[.int .i64 y.src, .int .i64 y.fr, .int .i64 y.to] 68) = grow W #[.cells #[.int .i64 x.src, .int .i64 x.fr, .int .i64 x.to] 68, .cells #[.int .i64 y.src, .int .i64 y.fr, .int .i64 y.to] 68]) := by
    show _ = _
    rw [alloc_eq_grow, alloc_eq_grow, grow_grow]; rfl
  have hz : (W.alloc (.cells #[.int .i64 x.src, .int .i64 x.fr, .int .i64 x.to] 68)).heap.size = W.heap.size + 1 := by simp
  rw [hz] at HB2
  clear hz
  go_enter Tryz.func90, Tryz.ntmps90
  go_upto_region 1 with (fail)
  generalize (W.alloc (.cells #[.int .i64 x.src, .int .i64 x.fr, .int .i64 x.to] 68)).alloc (.cells #[.int .i64 y.src, .int .i64 y.fr, .int .i64 y.to] 68) = W2 at *
  have g1 : W.heap.size < W2.heap.size := HB1.lt
  have g2 : W.heap.size + 1 < W2.heap.size := HB2.lt
  have p0 : W2.cell? ⟨W.heap.size, 0, none⟩ = some (.int .i64 x.src) := HB1.cell 0
  have p1 : W2.cell? ⟨W.heap.size, 1, none⟩ = some (.int .i64 x.fr) := HB1.cell 1
  have r0 : W2.cell? ⟨W.heap.size + 1, 0, none⟩ = some (.int .i64 y.src) := HB2.cell 0
  have r1' : W2.cell? ⟨W.heap.size + 1, 1, none⟩ = some (.int .i64 y.fr) := HB2.cell 1
  clear HB1 HB2
  generalize W.heap.size + 1 = k2 at *
  generalize W.heap.size = k1 at *
  go_region_held3 (fun w' => w'.cell? ⟨k1, 0, none⟩ = some (.int .i64 x.src) ∧ w'.cell? ⟨k1, 1, none⟩ = some (.int .i64 x.fr) ∧ w'.cell? ⟨k2, 0, none⟩ = some (.int .i64 y.src) ∧ w'.cell? ⟨k2, 1, none⟩ = some (.int .i64 y.fr))
    (first
      | go_keep)
    (first
      | (go_at_call 30; (first | (with_reducible refine (H1.out _).mono ?_) | (with_reducible refine (H2.out _).mono ?_)); rintro e w' ⟨rfl, rfl⟩)
      | (go_at_call 63; refine (HOR.out _ _ ?_).mono ?_; (rfl); rintro e w' ⟨rfl, rfl⟩))
  all_goals
    go_wp2
    go_ret
    exact ⟨rfl, 1, _, by rw [HG.out, alloc_eq_grow, grow_grow]; rfl⟩

set_option maxRecDepth 100000 in
set_option maxHeartbeats 4000000 in
theorem cmpSd_any (x y : Sl) (W : World) :
    Calls Tryz.prog 62 #[.agg #[.int .i64 x.src, .int .i64 x.fr, .int .i64 x.to], .agg #[.int .i64 y.src, .int .i64 y.fr, .int .i64 y.to]] W
    fun e w' => e = .returned (.int .i64 (cmpS x y)) ∧ ∃ q os', w' = grow (W.drewN q) os' := by
  unfold cmpS
  have H1 := Lib.hid (fun w => Tryz.cmp_Compare_int x.src y.src w)
  have H2 := Lib.hid (fun w => Tryz.cmp_Compare_int x.fr y.fr w)
  generalize Lib.compareInt x.src y.src = r1 at *
  generalize Lib.compareInt x.fr y.fr = r2 at *
  have HOR : Hid (∀ (w' : World) (g : Nat), w'.heap.size = g → Calls Tryz.prog 63 #[.slice (some ⟨g, 0, none⟩) 2 2] (w'.alloc (.cells #[.int .i64 r1, .int .i64 r2] 3)).drew (fun e w9 => e = .returned (.int .i64 (if r1 = 0 then r2 else r1)) ∧ (w'.alloc (.cells #[.int .i64 r1, .int .i64 r2] 3)).drew = w9)) := fun w' g hg => by
    subst hg
    exact cmpOr_any _ r1 r2 _ ((Bl.new w' _ _).cell 0) ((Bl.new w' _ _).cell 1)
  generalize (if r1 = 0 then r2 else r1) = r at *
  have HB1 := (Bl.new W 68 #[.int .i64 x.src, .int .i64 x.fr, .int .i64 x.to]).alloc (.cells #[.int .i64 y.src, .int .i64 y.fr, .int .i64 y.to] 68)
  have HB2 := Bl.new (W.alloc (.cells #[.int .i64 x.src, .int .i64 x.fr, .int .i64 x.to] 68)) 68 #[.int .i64 y.src, .int .i64 y.fr, .int .i64 y.to]
  have HG : Hid ((W.alloc (.cells #[.int .i64 x.src, .int .i64 x.fr, .int .i64 x.to] 68)).alloc (.cells #[.int .i64 y.src, .int .i64 y.fr, .int .i64 y.to] 68) = grow W #[.cells #[.int .i64 x.src, .int .i64 x.fr, .int .i64 x.to] 68, .cells #[.int .i64 y.src, .int .i64 y.fr, .int .i64 y.to] 68]) := by
    show _ = _
    rw [alloc_eq_grow, alloc_eq_grow, grow_grow]; rfl
  have hz : (W.alloc (.cells #[.int .i64 x.src, .int .i64 x.fr, .int .i64 x.to] 68)).heap.size = W.heap.size + 1 := by simp
  rw [hz] at HB2
  clear hz
  go_enter Tryz.func62, Tryz.ntmps62
  go_upto_region 1 with (fail)
  generalize (W.alloc (.cells #[.int .i64 x.src, .int .i64 x.fr, .int .i64 x.to] 68)).alloc (.cells #[.int .i64 y.src, .int .i64 y.fr, .int .i64 y.to] 68) = W2 at *
  have g1 : W.heap.size < W2.heap.size := HB1.lt
  have g2 : W.heap.size + 1 < W2.heap.size := HB2.lt
  have p0 : W2.cell? ⟨W.heap.size, 0, none⟩ = some (.int .i64 x.src) := HB1.cell 0
  have p1 : W2.cell? ⟨W.heap.size, 1, none⟩ = some (.int .i64 x.fr) := HB1.cell 1
  have r0 : W2.cell? ⟨W.heap.size + 1, 0, none⟩ = some (.int .i64 y.src) := HB2.cell 0
  have r1' : W2.cell? ⟨W.heap.size + 1, 1, none⟩ = some (.int .i64 y.fr) := HB2.cell 1
  clear HB1 HB2
  generalize W.heap.size + 1 = k2 at *
  generalize W.heap.size = k1 at *
  go_region_held3 (fun w' => w'.cell? ⟨k1, 0, none⟩ = some (.int .i64 x.src) ∧ w'.cell? ⟨k1, 1, none⟩ = some (.int .i64 x.fr) ∧ w'.cell? ⟨k2, 0, none⟩ = some (.int .i64 y.src) ∧ w'.cell? ⟨k2, 1, none⟩ = some (.int .i64 y.fr))
    (first
      | go_keep)
    (first
      | (go_at_call 30; (first | (with_reducible refine (H1.out _).mono ?_) | (with_reducible refine (H2.out _).mono ?_)); rintro e w' ⟨rfl, rfl⟩)
      | (go_at_call 63; refine (HOR.out _ _ ?_).mono ?_; (rfl); rintro e w' ⟨rfl, rfl⟩))
  all_goals
    go_wp2
    go_ret
    exact ⟨rfl, 1, _, by rw [HG.out, alloc_eq_grow, grow_grow]; rfl⟩

theorem ltS (x y : Sl) : ltOf cmpS x y = decide (x.src < y.src ∨ (x.src = y.src ∧ x.fr < y.fr)) := by
  unfold ltOf cmpS Lib.compareInt
  by_cases h1 : x.src < y.src
  · simp [h1]
  · by_cases h2 : y.src < x.src
    · have : ¬ x.src = y.src := by omega
      simp [h1, h2, this]
    · have : x.src = y.src := by omega
      simp [this]
      by_cases h3 : x.fr < y.fr
      · simp [h3]
      · by_cases h4 : y.fr < x.fr <;> simp [h3, h4]
theorem swoS : SWO (ltOf cmpS) where
  irrefl x := by rw [ltS]; simp
  trans x y z h1 h2 := by rw [ltS] at *; simp at *; omega
  ntrans x y z h1 h2 := by rw [ltS] at *; simp at *; omega

/-! ### A row of records with its room -/
/-- The first n records of a block. -/
def RowK {α : Type} (enc : α → List Value) (k : Nat) (arr : Array Value) (n : Nat) (f : Nat → α) : Prop := ∀ j, j < n → ∀ c, c < k → arr[j * k + c]? = some ((enc (f j))[c]!)
theorem own_rowK {α : Type} [Inhabited α] {enc : α → List Value} {k : Nat} (hk : ∀ x, (enc x).length = k) {w : World} {base n c : Nat} {t : TypeId} {A : Option Addr} {xs : List α} (h : w.ownsRow base t k (.slice A n c) n (flat enc xs)) (hl : xs.length = n) (hn : 0 < n) :
    ∃ g arr, A = some ⟨g, 0, none⟩ ∧ base ≤ g ∧ Bl w g t arr ∧ RowK enc k arr n (fun i => xs[i]!) ∧ Hid (arr.size = c * k) ∧ n ≤ c ∧ Hid (c ≤ maxLen) := by
  rcases h.2 with ⟨_, h0⟩ | ⟨g, cap, cur, hv, hb, hh, h1, h2, h3, h4⟩
  · omega
  · injection hv with e1 e2 e3
    subst e3
    refine ⟨g, cur, e1, hb, hh, fun j hj q hq => ?_, h3, h1, h2⟩
    have := flat_get hk xs j q (by omega) hq
    have hlt : j * k + q < n * k := by
      have := Nat.mul_le_mul_right k (show j + 1 ≤ n from hj)
      rw [Nat.add_mul, Nat.one_mul] at this
      omega
    rw [← h4, List.getElem?_take, if_pos hlt, Array.getElem?_toList] at this
    exact this
theorem own_of_rowK {α : Type} [Inhabited α] {enc : α → List Value} {k : Nat} (hk : ∀ x, (enc x).length = k) (hk0 : 0 < k) {w : World} {base g n c : Nat} {t : TypeId} {arr : Array Value} {f : Nat → α} (hb : Bl w g t arr) (h : RowK enc k arr n f) (hg : base ≤ g) (hs : arr.size = c * k) (hn : n ≤ c) (hc : c ≤ maxLen) : w.ownsRow base t k (.slice (some ⟨g, 0, none⟩) n c) n (flat enc ((List.range n).map f)) := by
  have hfl := flat_length hk ((List.range n).map f)
  rw [List.length_map, List.length_range] at hfl
  refine ⟨hfl, .inr ⟨g, c, arr, rfl, hg, hb, hn, hc, hs, ?_⟩⟩
  apply List.ext_getElem?
  intro i
  rw [List.getElem?_take]
  by_cases hi : i < n * k
  · have e1 : i / k * k + i % k = i := by have := Nat.div_add_mod i k; rw [Nat.mul_comm] at this; exact this
    have hj : i / k < n := (Nat.div_lt_iff_lt_mul hk0).2 hi
    have hc : i % k < k := Nat.mod_lt _ hk0
    have h1 := h (i / k) hj (i % k) hc
    have h2 := flat_get hk ((List.range n).map f) (i / k) (i % k) (by simpa using hj) hc
    rw [e1] at h1 h2
    rw [if_pos hi, Array.getElem?_toList, h1, h2]
    congr 2
    simp [hj]
  · rw [if_neg hi, List.getElem?_eq_none (by omega)]
/-- What the sort leaves of the blocks. -/
theorem sortWorld_block {α : Type} [Inhabited α] (enc : α → List Value) (k : Nat) (w : World) (g q : Nat) (d : Array α) (os : Array Obj) {t : TypeId} {arr : Array Value} (h : Bl w g t arr) :
    Bl (sortWorldK enc k w g 0 q d os) g t (putCells id 0 (flatK enc k d) arr) ∧ (∀ j, j < w.heap.size → j ≠ g → (sortWorldK enc k w g 0 q d os).heap[j]? = w.heap[j]?) ∧ w.heap.size ≤ (sortWorldK enc k w g 0 q d os).heap.size ∧ (sortWorldK enc k w g 0 q d os).os = w.os ∧ (sortWorldK enc k w g 0 q d os).tape = w.tape ∧ (sortWorldK enc k w g 0 q d os).output = w.output := by
  have hlt := h.lt
  unfold Bl at h
  refine ⟨?_, fun j hj hne => ?_, ?_, rfl, rfl, rfl⟩
  · unfold Bl sortWorldK grow putRowK putRow mapBlock Sort.ahead
    rw [Array.getElem?_append_left (by simpa using hlt), Array.getElem?_modify, if_pos rfl, h]
    rfl
  · unfold sortWorldK grow putRowK putRow mapBlock Sort.ahead
    rw [Array.getElem?_append_left (by simpa using hj), Array.getElem?_modify, if_neg (fun e => hne e.symm)]
  · unfold sortWorldK grow putRowK putRow mapBlock Sort.ahead
    simp
theorem putCells_row {α : Type} [Inhabited α] {enc : α → List Value} {k n : Nat} (hk0 : 0 < k) (d : Array α) (arr : Array Value) (hd : d.size = n) (hs : n * k ≤ arr.size) : RowK enc k (putCells id 0 (flatK enc k d) arr) n (fun i => d[i]!) ∧ (putCells id 0 (flatK enc k d) arr).size = arr.size := by
  refine ⟨fun j hj c hc => ?_, by simp [putCells]⟩
  have hlt : j * k + c < n * k := by
    have := Nat.mul_le_mul_right k (show j + 1 ≤ n from hj)
    rw [Nat.add_mul, Nat.one_mul] at this
    omega
  have e1 : (j * k + c) / k = j := by
    rw [Nat.mul_comm, Nat.mul_add_div hk0, Nat.div_eq_of_lt hc, Nat.add_zero]
  have e2 : (j * k + c) % k = c := by
    rw [Nat.mul_comm, Nat.mul_add_mod, Nat.mod_eq_of_lt hc]
  unfold putCells
  rw [Array.getElem?_mapIdx, Array.getElem?_eq_getElem (by omega), Option.map_some]
  rw [if_pos (by rw [size_flatK, hd]; omega), Nat.sub_zero, get_flatK _ _ _ _ (by rw [hd]; exact hlt), e1, e2]
  rfl
theorem holds_rowK {α : Type} [Inhabited α] {enc : α → List Value} {k n : Nat} (hk0 : 0 < k) {w : World} {g : Nat} {t : TypeId} {arr : Array Value} {d : Array α} (hb : Bl w g t arr) (h : RowK enc k arr n (fun i => d[i]!)) (hd : d.size = n) : HoldsK enc k w g 0 d := by
  intro i hi
  rw [size_flatK, hd] at hi
  rw [get_flatK _ _ _ _ (by rw [hd]; exact hi), Nat.zero_add]
  refine ⟨?_, hb.free _⟩
  rw [hb.cell]
  have hj : i / k < n := (Nat.div_lt_iff_lt_mul hk0).2 hi
  have := h (i / k) hj (i % k) (Nat.mod_lt _ hk0)
  rw [show i / k * k + i % k = i by have := Nat.div_add_mod i k; rw [Nat.mul_comm] at this; exact this] at this
  rw [this]
  rfl

/-- What a sort of a row of the call's own leaves. -/
def SrtRes (w : World) (base : Nat) (lt : Sl → Sl → Bool) (v : Value) (n : Nat) (rs : List Sl) (e : Ending) (w' : World) : Prop := e = .returned (.tuple #[]) ∧ ∃ rs', rs'.Perm rs ∧ (∀ i j, i < j → j < n → lt rs'[j]! rs'[i]! = false) ∧ w'.ownsRow base 68 3 v n (flat encSl rs') ∧ RowKit.Below base w w'

theorem sortSl_any (A : Option Addr) (n c base : Nat) (rs : List Sl) (w : World) (h : w.ownsRow base 68 3 (.slice A n c) n (flat encSl rs)) (hl : rs.length = n) (hn : n ≤ 10000) (hb : base ≤ w.heap.size) :
    Calls Tryz.prog 61 #[.slice A n c, .func (.func 90) #[] #[]] w (SrtRes w base (ltOf cmpS) (.slice A n c) n rs) := by
  by_cases h0 : n = 0
  · subst h0
    obtain rfl : rs = [] := List.eq_nil_of_length_eq_zero hl
    refine (AnyF.slices_SortFunc_none Tryz.sortS A c (.func (.func 90) #[] #[]) w).mono ?_
    rintro e w1 ⟨rfl, rfl⟩
    exact ⟨rfl, [], List.Perm.refl _, fun i j h1 h2 => by omega, h, RowKit.Below.refl _ _⟩
  · obtain ⟨g, arr, rfl, hg, hB, hR, hs, hnc, hm⟩ := own_rowK encSl_len h hl (by omega)
    have eg : ∀ args w, (callFunc 90 args).run Tryz.prog w = .ok (.enter 90 args) w := enters_of Tryz.func90 (by kernel_rfl) rfl
    have hd : rs.toArray.size = n := by simpa using hl
    have hH : HoldsK encSl 3 w g 0 rs.toArray := holds_rowK (by omega) hB (fun j hj c hc => by have := hR j hj c hc; simpa using this) hd
    have hcon := AnyQ.slices_SortFunc Tryz.sortS 3 Tryz.isAgg68 Tryz.sizeOf68 encSl encSl_len encSl_one cmpS swoS 90 #[] g 0 c rs.toArray w eg (fun m os dk _ x y => cmpSl_any x y _) hH hB.lt (by rw [hd]; omega)
    rw [hd] at hcon
    refine hcon.mono ?_
    rintro e w1 ⟨rfl, d', q, os, hp, hs2, rfl⟩
    obtain ⟨hp1, _, hp3⟩ := hp
    rw [hd] at hp1
    obtain ⟨k1, k2, k3, k4, k5, k6⟩ := sortWorld_block encSl 3 w g q d' os hB
    have hsz : n * 3 ≤ arr.size := by rw [hs.out]; exact Nat.mul_le_mul_right 3 hnc
    obtain ⟨r1, r2⟩ := putCells_row (enc := encSl) (k := 3) (by omega) d' arr hp1 hsz
    have ho := own_of_rowK (base := base) encSl_len (by omega) k1 r1 hg (by rw [r2]; exact hs.out) hnc hm.out
    have hlist : (List.range n).map (fun i => d'[i]!) = d'.toList := by
      apply List.ext_getElem
      · simp [hp1]
      · intro i h1 h2
        rw [List.getElem_map, List.getElem_range, getElem!_pos d' i (by simpa using h2), Array.getElem_toList]
    rw [hlist] at ho
    refine ⟨rfl, d'.toList, ?_, fun i j h1 h2 => ?_, ho, ⟨k4, k5, k6, k3, fun j hj => k2 j (by omega) (by omega)⟩⟩
    · have e1 : (d'.extract 0 n).toList = d'.toList := by rw [← hp1]; simp
      have e2 : (rs.toArray.extract 0 n).toList = rs := by rw [← hd]; simp
      rw [e1, e2] at hp3
      exact hp3
    · have := hs2 i j (Nat.zero_le _) h1 h2
      rw [getElem!_pos d' j (by omega), getElem!_pos d' i (by omega)] at this
      rw [getElem!_pos d'.toList j (by simpa [hp1] using h2), getElem!_pos d'.toList i (by simp [hp1]; omega), Array.getElem_toList, Array.getElem_toList]
      exact this

theorem sortSd_any (A : Option Addr) (n c base : Nat) (rs : List Sl) (w : World) (h : w.ownsRow base 68 3 (.slice A n c) n (flat encSl rs)) (hl : rs.length = n) (hn : n ≤ 10000) (hb : base ≤ w.heap.size) :
    Calls Tryz.prog 61 #[.slice A n c, .func (.func 62) #[] #[]] w (SrtRes w base (ltOf cmpS) (.slice A n c) n rs) := by
  by_cases h0 : n = 0
  · subst h0
    obtain rfl : rs = [] := List.eq_nil_of_length_eq_zero hl
    refine (AnyF.slices_SortFunc_none Tryz.sortS A c (.func (.func 62) #[] #[]) w).mono ?_
    rintro e w1 ⟨rfl, rfl⟩
    exact ⟨rfl, [], List.Perm.refl _, fun i j h1 h2 => by omega, h, RowKit.Below.refl _ _⟩
  · obtain ⟨g, arr, rfl, hg, hB, hR, hs, hnc, hm⟩ := own_rowK encSl_len h hl (by omega)
    have eg : ∀ args w, (callFunc 62 args).run Tryz.prog w = .ok (.enter 62 args) w := enters_of Tryz.func62 (by kernel_rfl) rfl
    have hd : rs.toArray.size = n := by simpa using hl
    have hH : HoldsK encSl 3 w g 0 rs.toArray := holds_rowK (by omega) hB (fun j hj c hc => by have := hR j hj c hc; simpa using this) hd
    have hcon := AnyQ.slices_SortFunc Tryz.sortS 3 Tryz.isAgg68 Tryz.sizeOf68 encSl encSl_len encSl_one cmpS swoS 62 #[] g 0 c rs.toArray w eg (fun m os dk _ x y => cmpSd_any x y _) hH hB.lt (by rw [hd]; omega)
    rw [hd] at hcon
    refine hcon.mono ?_
    rintro e w1 ⟨rfl, d', q, os, hp, hs2, rfl⟩
    obtain ⟨hp1, _, hp3⟩ := hp
    rw [hd] at hp1
    obtain ⟨k1, k2, k3, k4, k5, k6⟩ := sortWorld_block encSl 3 w g q d' os hB
    have hsz : n * 3 ≤ arr.size := by rw [hs.out]; exact Nat.mul_le_mul_right 3 hnc
    obtain ⟨r1, r2⟩ := putCells_row (enc := encSl) (k := 3) (by omega) d' arr hp1 hsz
    have ho := own_of_rowK (base := base) encSl_len (by omega) k1 r1 hg (by rw [r2]; exact hs.out) hnc hm.out
    have hlist : (List.range n).map (fun i => d'[i]!) = d'.toList := by
      apply List.ext_getElem
      · simp [hp1]
      · intro i h1 h2
        rw [List.getElem_map, List.getElem_range, getElem!_pos d' i (by simpa using h2), Array.getElem_toList]
    rw [hlist] at ho
    refine ⟨rfl, d'.toList, ?_, fun i j h1 h2 => ?_, ho, ⟨k4, k5, k6, k3, fun j hj => k2 j (by omega) (by omega)⟩⟩
    · have e1 : (d'.extract 0 n).toList = d'.toList := by rw [← hp1]; simp
      have e2 : (rs.toArray.extract 0 n).toList = rs := by rw [← hd]; simp
      rw [e1, e2] at hp3
      exact hp3
    · have := hs2 i j (Nat.zero_le _) h1 h2
      rw [getElem!_pos d' j (by omega), getElem!_pos d' i (by omega)] at this
      rw [getElem!_pos d'.toList j (by simpa [hp1] using h2), getElem!_pos d'.toList i (by simp [hp1]; omega), Array.getElem_toList, Array.getElem_toList]
      exact this

theorem srt_le {rs : List Sl} (h : ∀ i j, i < j → j < rs.length → ltOf cmpS rs[j]! rs[i]! = false) : ∀ i k, i < k → k < rs.length → SlLe rs[i]! rs[k]! := fun i k h1 h2 => by
  have := h i k h1 h2
  rw [ltS] at this
  have h3 := of_decide_eq_false this
  unfold SlLe
  omega
end Go.Proofs.YthnhgjhnkncmiaaGreat

namespace Go.Proofs.YthnhgjhnkncmiaaGreat
open Go.RowKit
set_option linter.unusedVariables false

set_option maxRecDepth 100000 in
set_option maxHeartbeats 4000000 in
theorem Grow_any (n : Nat) (w : World) (hn : n ≤ 100000) :
    Calls Tryz.prog 106 #[.slice none 0 0, .int .i64 (n : Int)] w fun e w' => ∃ (B : Option Addr) (d : Nat), e = .returned (.slice B 0 d) ∧ w'.ownsRow w.heap.size 68 3 (.slice B 0 d) 0 [] ∧ RowKit.Below w.heap.size w w' := by
  have d0 : decide ((n : Int) < 0) = false := by simp
  by_cases h0 : n = 0
  · subst h0
    go_enter Tryz.func106, Tryz.ntmps106
    go_wp2
    go_ret
    exact ⟨none, 0, rfl, ⟨by simp, .inl ⟨rfl, rfl⟩⟩, Below.refl _ _⟩
  obtain ⟨i0, hi0, hz0, hz1, hz2⟩ := info_parts infoSl
  have hold : (Builtin.firstCells i0.size 0 (.slice none 0 0)).run Tryz.prog w.drew = .ok (([] : List Value).toArray) w.drew := by
    simp [Builtin.firstCells]
  have hfit : Builtin.nextslicecap (0 + n) 0 * i0.bytes ≤ 281474976710656 := by
    rw [hz2]
    have e : Builtin.nextslicecap (0 + n) 0 = 0 + n := by unfold Builtin.nextslicecap; rw [if_pos (by omega)]
    rw [e]
    omega
  have h := fun ty => Lib.run_append_grow_zeros w 34 3 ty 68 i0 _ .i64 .i64 Tryz.underlying34 Tryz.underlying3 hi0 hz0 none 0 0 [] hold n (by omega) (by omega) (by omega) (by omega) (by rw [hz2]; omega) hfit
  obtain ⟨G, hG⟩ : ∃ G, grownCap w (0 + n) 0 68 = G := ⟨_, rfl⟩
  have hG1 : 0 + n ≤ G := by rw [← hG]; exact grownCap_ge w _ _ _
  have hG2 : G ≤ maxLen := by rw [← hG]; exact grownCap_le_maxLen w (0 + n) 0 68 (by unfold maxLen; omega)
  rw [hG] at h
  obtain ⟨X, hX⟩ : ∃ X : Array Value, (([] : List Value).toArray ++ Builtin.zeroCells (Value.agg #[.int .i64 0, .int .i64 0, .int .i64 0]).cells n ++ Builtin.zeroCells (Value.agg #[.int .i64 0, .int .i64 0, .int .i64 0]).cells (G - (0 + n))) = X := ⟨_, rfl⟩
  have hXl : X.size = G * 3 := by
    rw [← hX]
    simp [Builtin.zeroCells, Value.cells]
    omega
  rw [hX] at h
  have hgr : ∀ ty, (Builtin.append_ #[34, 3] ty #[.slice none 0 0, .int .i64 (n : Int)]).run Tryz.prog w = .ok (.slice (some ⟨w.heap.size, 0, none⟩) n G) (w.drew.alloc (.cells X 68)) := fun ty => by have := h ty; rwa [Nat.zero_add] at this
  have d1 : decide ((n : Int) > 0) = true := by simp; omega
  have d2 : decide (0 < n) = true := by simp; omega
  have u1 : IntKind.i64.wrap ((n : Int) - 0) = (n : Int) := by rw [Int.sub_zero]; exact IntWalk.i64_in _ (by omega)
  have u2 : IntKind.i64.wrap (n : Int) = (n : Int) := IntWalk.i64_in _ (by omega)
  clear h hold hfit hX hi0 hz0 hz1 hz2
  go_enter Tryz.func106, Tryz.ntmps106
  go_wp2_with (first | (at_builtin; refine Lib.wpList_append_run _ rfl _ _ _ _ rfl _ _ rfl rfl _ _ (hgr _) ?_))
  go_ret
  refine ⟨some ⟨w.heap.size, 0, none⟩, G, rfl, ⟨by simp, .inr ⟨w.heap.size, G, X, rfl, Nat.le_refl _, Bl.new w.drew _ _, Nat.zero_le _, hG2, hXl, by simp⟩⟩, (Below.refl _ _).drew.alloc (Nat.le_refl _) _⟩
set_option maxRecDepth 100000 in
set_option maxHeartbeats 8000000 in
theorem Concat1_any (g : Nat) (A : Option Addr) (n c : Nat) (xs : List Sl) (w : World) (hg : w.cell? ⟨g, 0, none⟩ = some (.slice A n c)) (h : Recs encSl 3 w A n xs) (hn : n ≤ 100000) :
    Calls Tryz.prog 89 #[.slice (some ⟨g, 0, none⟩) 1 1] w (SlRes29 w xs) := by
  have HX := Lib.hid h
  have hxl : xs.length = n := h.1
  have d0 : decide ((n : Int) < 0) = false := by simp
  have u1 : IntKind.i64.wrap (0 + (n : Int)) = (n : Int) := by rw [Int.zero_add]; exact IntWalk.i64_in _ (by omega)
  have u2 : IntKind.i64.wrap (n : Int) = (n : Int) := IntWalk.i64_in _ (by omega)
  have HGR := Lib.hid (Grow_any n w hn)
  have HGI : Hid (g < w.heap.size) := by
    show _ < _
    rcases Nat.lt_or_ge g w.heap.size with h1 | h1
    · exact h1
    · exfalso
      have hn2 : w.heap[g]? = none := Array.getElem?_eq_none h1
      simp [World.cell?, hn2] at hg
  clear h
  go_enter Tryz.func89, Tryz.ntmps89
  go_wp2_with fail
  refine wp_loop_rounds 2 ?_
  rw [rounds_succ]
  go_wp2_with fail
  rw [rounds_succ]
  go_wp2_with fail
  refine HGR.out.mono ?_
  rintro e w1 ⟨B, d, rfl, ho1, hb1⟩
  have hg1 : w1.cell? ⟨g, 0, none⟩ = some (.slice A n c) := (hb1.cell (p := ⟨g, 0, none⟩) HGI.out).trans hg
  have HO1 := Lib.hid ho1
  have HB1 := Lib.hid hb1
  have HRD : Hid (Rd w1 3 A n (flat encSl xs)) := (rd_of_recs encSl_len (by decide) HX.out).keep hb1
  have HON : Hid (∀ v ∈ flat encSl xs, v.oneCell' = true) := flat_oneK encSl_one _
  have HM1 : Hid (0 + n ≤ maxLen ∧ (0 + n) * 24 ≤ 140737488355328) := ⟨by unfold maxLen; omega, by omega⟩
  clear ho1 hb1 hg HGR
  go_wp2_with fail
  refine wp_loop_rounds 2 ?_
  rw [rounds_succ]
  go_wp2_with (at_builtin; refine wpList_append_rd _ rfl (.tmp 31) (.tmp 32) 34 rfl w.heap.size 68 _ 3 24 Tryz.underlying34 infoSl rfl (by decide) (.slice B 0 d) 0 [] rfl HO1.out A n c (flat encSl xs) rfl HRD.out HON.out HM1.out.1 HM1.out.2 HB1.out.size ?_; intro v9 w9 ho9 hg9 hv9; obtain ⟨B9, d9, rfl⟩ := own_slice ho9)
  rw [rounds_succ]
  go_wp2
  go_ret
  have ho : w9.ownsRow w.heap.size 68 3 (.slice B9 n d9) n (flat encSl xs) := by have := ho9; rwa [Nat.zero_add, List.nil_append] at this
  subst hxl
  exact ⟨B9, d9, rfl, ho, HB1.out.grown hg9 HB1.out.size (fun j hj => own_base HO1.out j hj)⟩
set_option maxHeartbeats 2000000 in
theorem validSlice_any (x : Sl) (w : World) : Calls Tryz.prog 64 #[.agg #[.int .i64 x.src, .int .i64 x.fr, .int .i64 x.to]] w (BRes w (slOk x)) := by
  have HB : Hid (RowKit.Below w.heap.size w (w.alloc (.cells #[.int .i64 x.src, .int .i64 x.fr, .int .i64 x.to] 68))) := (Below.refl _ _).alloc (Nat.le_refl _) _
  have hx := Bl.new w 68 #[.int .i64 x.src, .int .i64 x.fr, .int .i64 x.to]
  have x0 : (w.alloc (.cells #[.int .i64 x.src, .int .i64 x.fr, .int .i64 x.to] 68)).cell? ⟨w.heap.size, 0, none⟩ = some (.int .i64 x.src) := hx.cell 0
  have x1 : (w.alloc (.cells #[.int .i64 x.src, .int .i64 x.fr, .int .i64 x.to] 68)).cell? ⟨w.heap.size, 1, none⟩ = some (.int .i64 x.fr) := hx.cell 1
  have x2 : (w.alloc (.cells #[.int .i64 x.src, .int .i64 x.fr, .int .i64 x.to] 68)).cell? ⟨w.heap.size, 2, none⟩ = some (.int .i64 x.to) := hx.cell 2
  clear hx
  by_cases c0 : 1 ≤ x.src
  case neg =>
    have d0 : decide (1 ≤ x.src) = false := by simpa using c0
    have hr : slOk x = false := by simp [slOk]; omega
    rw [hr]
    clear hr c0
    go_enter Tryz.func64, Tryz.ntmps64
    go_upto_region 1 with (fail)
    go_wp2
    go_ret
    exact ⟨rfl, HB.out⟩
  case pos =>
  have d0 : decide (1 ≤ x.src) = true := by simpa using c0
  by_cases c1 : x.src ≤ 1000000
  case neg =>
    have d1 : decide (x.src ≤ 1000000) = false := by simpa using c1
    have hr : slOk x = false := by simp [slOk]; omega
    rw [hr]
    clear hr c0 c1
    go_enter Tryz.func64, Tryz.ntmps64
    go_upto_region 1 with (fail)
    go_wp2
    go_ret
    exact ⟨rfl, HB.out⟩
  case pos =>
  have d1 : decide (x.src ≤ 1000000) = true := by simpa using c1
  by_cases c2 : 0 ≤ x.fr
  case neg =>
    have d2 : decide (0 ≤ x.fr) = false := by simpa using c2
    have hr : slOk x = false := by simp [slOk]; omega
    rw [hr]
    clear hr c0 c1 c2
    go_enter Tryz.func64, Tryz.ntmps64
    go_upto_region 1 with (fail)
    go_wp2
    go_ret
    exact ⟨rfl, HB.out⟩
  case pos =>
  have d2 : decide (0 ≤ x.fr) = true := by simpa using c2
  by_cases c3 : x.fr < x.to
  case neg =>
    have d3 : decide (x.fr < x.to) = false := by simpa using c3
    have hr : slOk x = false := by simp [slOk]; omega
    rw [hr]
    clear hr c0 c1 c2 c3
    go_enter Tryz.func64, Tryz.ntmps64
    go_upto_region 1 with (fail)
    go_wp2
    go_ret
    exact ⟨rfl, HB.out⟩
  case pos =>
  have d3 : decide (x.fr < x.to) = true := by simpa using c3
  by_cases c4 : x.to ≤ 1000000000
  case neg =>
    have d4 : decide (x.to ≤ 1000000000) = false := by simpa using c4
    have hr : slOk x = false := by simp [slOk]; omega
    rw [hr]
    clear hr c0 c1 c2 c3 c4
    go_enter Tryz.func64, Tryz.ntmps64
    go_upto_region 1 with (fail)
    go_wp2
    go_ret
    exact ⟨rfl, HB.out⟩
  case pos =>
  have d4 : decide (x.to ≤ 1000000000) = true := by simpa using c4
  have hr : slOk x = true := by simp [slOk]; omega
  rw [hr]
  clear hr c0 c1 c2 c3 c4
  go_enter Tryz.func64, Tryz.ntmps64
  go_upto_region 1 with (fail)
  go_wp2
  go_ret
  exact ⟨rfl, HB.out⟩
set_option maxRecDepth 100000 in
set_option maxHeartbeats 8000000 in
theorem lotOverlap_any (g : Nat) (A : Option Addr) (n c : Nat) (xs : List Sl) (w : World) (hg : w.cell? ⟨g, 0, none⟩ = some (.slice A n c)) (h : Recs encSl 3 w A n xs) (hv : SlsOk xs) (hn : n ≤ 10000) :
    Calls Tryz.prog 65 #[.slice (some ⟨g, 0, none⟩) 1 1] w (BRes w (!decide (Apart xs))) := by
  have HV := Lib.hid hv
  have hxl : xs.length = n := h.1
  have HC := Lib.hid (Concat1_any g A n c xs w hg h (by omega))
  clear hg h hv
  go_enter Tryz.func65, Tryz.ntmps65
  go_wp2_with fail
  refine HC.out.mono ?_
  rintro e w1 ⟨B, d, rfl, ho1, hb1⟩
  have HB1 := Lib.hid hb1
  have HO1 : Hid (w1.ownsRow w.heap.size 68 3 (.slice B n d) n (flat encSl xs)) := by have := ho1; rw [hxl] at this; exact this
  rw [hxl]
  clear ho1 hb1 HC
  go_wp2_with fail
  refine (sortSl_any B n d w.heap.size xs w1 HO1.out hxl (by omega) HB1.out.size).mono ?_
  rintro e w2 ⟨rfl, rs, hp, hs, ho2, hb2⟩
  have hrl : rs.length = n := by rw [hp.length_eq, hxl]
  have HNA := Lib.hid (sorted_apart hp HV.out.lt (srt_le (fun i j h1 h2 => hs i j h1 (by omega))))
  have HR : Hid (Recs encSl 3 w2 B n rs) := Recs.of_own encSl_len ho2 hrl
  have HB2 : Hid (RowKit.Below w.heap.size w w2) := HB1.out.trans hb2
  clear hp hs ho2 hb2 HO1 HB1
  go_wp2_with fail
  go_loopw [4] (fun v wx => ∃ i : Nat, v = .int .i64 (i : Int) ∧ 1 ≤ i ∧ i ≤ n + 1 ∧ (i ≤ n ∨ n = 0) ∧ Hid (∀ j, j + 1 < i → ¬ (rs[j + 1]!.src = rs[j]!.src ∧ rs[j + 1]!.fr < rs[j]!.to)) ∧ Hid (RowKit.Below w2.heap.size w2 wx)) (fun v _ => n + 1 - (intOf v).toNat)
  case atStart => exact ⟨1, rfl, by omega, by omega, by omega, (fun j hj => by omega), Below.refl _ _⟩
  case round =>
    obtain ⟨i, rfl, hi1, hi2, hi3, HN, HB⟩ := hrel
    by_cases hlt : i < n
    case neg =>
      have dk : decide ((i : Int) < (n : Int)) = false := by simp; omega
      have hap : Apart xs := HNA.out.1 fun j hj => HN.out j (by omega)
      have HBW : Hid (RowKit.Below w.heap.size w wr) := HB2.out.trans (HB.out.mono HB2.out.size)
      have hda : (!decide (Apart xs)) = false := by simp [hap]
      have HDA := Lib.hid hda
      clear hap hda
      go_wp2
      go_ret
      exact ⟨by rw [HDA.out]; rfl, HBW.out⟩
    case pos =>
    have dk : decide ((i : Int) < (n : Int)) = true := by simp; omega
    obtain ⟨b1, o1, rfl, hb1, ha⟩ := recs_at (HR.out.below HB.out) hlt
    obtain ⟨b3, o3, e3, hb3, hd⟩ := recs_at (HR.out.below HB.out) (show i - 1 < n by omega)
    injection e3 with e3
    injection e3 with e4 e5
    subst e4 e5
    obtain ⟨x, hx⟩ : ∃ x, rs[i]! = x := ⟨_, rfl⟩
    obtain ⟨y, hy⟩ : ∃ y, rs[i - 1]! = y := ⟨_, rfl⟩
    rw [hx] at ha
    rw [hy] at hd
    have a0 : wr.cell? ⟨b1, o1 + i * 3, none⟩ = some (.int .i64 x.src) := ha.out 0 (by omega)
    have a1 : wr.cell? ⟨b1, o1 + i * 3 + 1, none⟩ = some (.int .i64 x.fr) := ha.out 1 (by omega)
    have c0 : wr.cell? ⟨b1, o1 + (i - 1) * 3, none⟩ = some (.int .i64 y.src) := hd.out 0 (by omega)
    have c2 : wr.cell? ⟨b1, o1 + (i - 1) * 3 + 2, none⟩ = some (.int .i64 y.to) := hd.out 2 (by omega)
    have HXI := Lib.hid hx
    have HYI := Lib.hid hy
    have hk1 : (i : Int) - 1 = ((i - 1 : Nat) : Int) := by omega
    have u1 : IntKind.i64.wrap ((i : Int) - 1) = ((i - 1 : Nat) : Int) := by rw [hk1]; exact IntWalk.i64_in _ (by omega)
    have hkk : ((i - 1 : Nat) : Int) < (n : Int) := by omega
    have hkz : (0 : Int) ≤ ((i - 1 : Nat) : Int) := by omega
    have hii : (i : Int) < (n : Int) := by omega
    have hiz : (0 : Int) ≤ (i : Int) := by omega
    clear ha hd hx hy hk1
    by_cases hadj : x.src = y.src ∧ x.fr < y.to
    case pos =>
      have d1 : (x.src == y.src) = true := by simpa using hadj.1
      have d2 : decide (x.fr < y.to) = true := decide_eq_true hadj.2
      have hnap : ¬ Apart xs := fun h => by
        have := HNA.out.2 h (i - 1) (by omega)
        rw [show i - 1 + 1 = i by omega, HXI.out, HYI.out] at this
        exact this hadj
      have hda : (!decide (Apart xs)) = true := by simp [hnap]
      have HDA := Lib.hid hda
      have HBW : Hid (RowKit.Below w.heap.size w wr) := HB2.out.trans (HB.out.mono HB2.out.size)
      clear hadj hnap hda
      go_upto_region 6 with (fail)
      go_quiet (fail)
      go_wp2
      go_ret
      exact ⟨by rw [HDA.out]; rfl, below_drewN HBW.out _⟩
    case neg =>
    have HN2 : Hid (∀ j, j + 1 < i + 1 → ¬ (rs[j + 1]!.src = rs[j]!.src ∧ rs[j + 1]!.fr < rs[j]!.to)) := fun j hj => by
      by_cases e : j + 1 = i
      · have e2 : j = i - 1 := by omega
        rw [e, e2, HXI.out, HYI.out]
        exact hadj
      · exact HN.out j (by omega)
    by_cases hs1 : x.src = y.src
    case neg =>
      have d1 : (x.src == y.src) = false := by simpa using hs1
      clear hadj hs1
      go_upto_region 6 with (fail)
      go_quiet (fail)
      go_wp2_with fail
      go_roundw
      case rel => exact ⟨i + 1, by go_num, by omega, by omega, by omega, HN2, below_drewN HB.out _⟩
      case measure => simp [intOf]; omega
    case pos =>
      have d1 : (x.src == y.src) = true := by simpa using hs1
      have d2 : decide (x.fr < y.to) = false := decide_eq_false fun h => hadj ⟨hs1, h⟩
      clear hadj hs1
      go_upto_region 6 with (fail)
      go_quiet (fail)
      go_wp2_with fail
      go_roundw
      case rel => exact ⟨i + 1, by go_num, by omega, by omega, by omega, HN2, below_drewN HB.out _⟩
      case measure => simp [intOf]; omega
/-- lot.Valid is slErr. -/
def EInt (w : World) (v : Int) (e : Ending) (w' : World) : Prop := e = .returned (.int .i64 v) ∧ RowKit.Below w.heap.size w w'
set_option maxRecDepth 100000 in
set_option maxHeartbeats 8000000 in
theorem lotValid_any (A : Option Addr) (n c : Nat) (xs : List Sl) (w : World) (h : Recs encSl 3 w A n xs) :
    Calls Tryz.prog 38 #[.slice A n c] w (EInt w (slErr xs)) := by
  have HX := Lib.hid h
  have hxl : xs.length = n := h.1
  have HVS := Lib.hid validSlice_any
  have HOV := Lib.hid lotOverlap_any
  clear h
  by_cases h64 : 64 < n
  case pos =>
    have d0 : decide ((n : Int) > 64) = true := by simp; omega
    have d1 : decide (64 < n) = true := by simp; omega
    have hr : slErr xs = 8 := by unfold slErr; rw [if_pos (by omega)]
    rw [hr]
    go_enter Tryz.func38, Tryz.ntmps38
    go_wp2
    go_ret
    exact ⟨rfl, Below.refl _ _⟩
  case neg =>
  have d0 : decide ((n : Int) > 64) = false := by simp; omega
  have d1 : decide (64 < n) = false := by simp; omega
  go_enter Tryz.func38, Tryz.ntmps38
  go_wp2_with fail
  clear d0 d1
  go_loopw [10] (fun v wx => ∃ i : Nat, v = .int .i64 (i : Int) ∧ i ≤ n ∧ Hid (∀ j, j < i → slOk xs[j]! = true) ∧ Hid (RowKit.Below w.heap.size w wx)) (fun v _ => n - (intOf v).toNat)
  case atStart => exact ⟨0, rfl, Nat.zero_le _, (fun j hj => by omega), Below.refl _ _⟩
  case round =>
    obtain ⟨i, rfl, hi, HN, HB⟩ := hrel
    by_cases hlt : i < n
    case pos =>
      have dk : decide ((i : Int) < (n : Int)) = true := by simp; omega
      obtain ⟨b1, o1, rfl, hb1, ha⟩ := recs_at (HX.out.below HB.out) hlt
      obtain ⟨x, hx⟩ : ∃ x, xs[i]! = x := ⟨_, rfl⟩
      rw [hx] at ha
      have a0 : wr.cell? ⟨b1, o1 + i * 3, none⟩ = some (.int .i64 x.src) := ha.out 0 (by omega)
      have a1 : wr.cell? ⟨b1, o1 + i * 3 + 1, none⟩ = some (.int .i64 x.fr) := ha.out 1 (by omega)
      have a2 : wr.cell? ⟨b1, o1 + i * 3 + 2, none⟩ = some (.int .i64 x.to) := ha.out 2 (by omega)
      have HXI := Lib.hid hx
      have hii : (i : Int) < (n : Int) := by omega
      have hiz : (0 : Int) ≤ (i : Int) := by omega
      clear ha hx
      have HBA : Hid (RowKit.Below w.heap.size w (wr.alloc (.cells #[.int .i64 x.src, .int .i64 x.fr, .int .i64 x.to] 68))) := HB.out.alloc HB.out.size _
      go_wp2_with fail
      refine (HVS.out x _).mono ?_
      rintro e w8 ⟨rfl, hb8⟩
      have HB8 : Hid (RowKit.Below w.heap.size w w8) := HBA.out.trans (hb8.mono HBA.out.size)
      clear hb8 HB HBA a0 a1 a2
      cases hs : slOk x
      case false =>
        have HR := Lib.hid (slErr_bad (l := xs) (by omega) (i := i) (by omega) (by rw [HXI.out]; exact hs))
        go_wp2
        go_ret
        exact ⟨by rw [HR.out]; rfl, HB8.out⟩
      case true =>
        have HN2 : Hid (∀ j, j < i + 1 → slOk xs[j]! = true) := fun j hj => by
          by_cases e : j = i
          · subst e; rw [HXI.out]; exact hs
          · exact HN.out j (by omega)
        go_wp2_with fail
        go_roundw
        case rel => exact ⟨i + 1, by go_num, by omega, HN2, HB8⟩
        case measure => simp [intOf]; omega
    case neg =>
    have dk : decide ((i : Int) < (n : Int)) = false := by simp; omega
    have HV : Hid (∀ x ∈ xs, slOk x = true) := all_of_get29 fun j hj => HN.out j (by omega)
    have HRA : Hid (Recs encSl 3 (wr.alloc (.cells #[.slice A n c] 34)) A n xs) := HX.out.below (HB.out.alloc HB.out.size _)
    have HGA : Hid ((wr.alloc (.cells #[.slice A n c] 34)).cell? ⟨wr.heap.size, 0, none⟩ = some (.slice A n c)) := (Bl.new wr 34 #[.slice A n c]).cell 0
    have HBA : Hid (RowKit.Below w.heap.size w (wr.alloc (.cells #[.slice A n c] 34))) := HB.out.alloc HB.out.size _
    clear HN HB
    go_wp2_with fail
    refine (HOV.out wr.heap.size A n c xs _ HGA.out HRA.out HV.out (by omega)).mono ?_
    rintro e w8 ⟨rfl, hb8⟩
    have HB8 : Hid (RowKit.Below w.heap.size w w8) := HBA.out.trans (hb8.mono HBA.out.size)
    clear hb8
    by_cases hap : Apart xs
    case pos =>
      have hda : (!decide (Apart xs)) = false := by simp [hap]
      have HR : Hid (slErr xs = 0) := slErr_of (by omega) HV.out hap
      rw [hda]
      clear hap
      go_wp2
      go_ret
      exact ⟨by rw [HR.out]; rfl, HB8.out⟩
    case neg =>
      have hda : (!decide (Apart xs)) = true := by simp [hap]
      have HR : Hid (slErr xs = 13) := slErr_meet (by omega) HV.out hap
      rw [hda]
      clear hap
      go_wp2
      go_ret
      exact ⟨by rw [HR.out]; rfl, HB8.out⟩
end Go.Proofs.YthnhgjhnkncmiaaGreat

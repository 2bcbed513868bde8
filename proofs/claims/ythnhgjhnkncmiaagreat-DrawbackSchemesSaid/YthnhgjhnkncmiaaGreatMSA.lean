/-
  The law DrawbackSchemes returns true. No conditions beyond the row's own.
-/
import Derived.Test.YthnhgjhnkncmiaaGreatMAN
import Derived.Test.YthnhgjhnkncmiaaGreatMAT
namespace Go.Proofs.YthnhgjhnkncmiaaGreat
open Go.RowKit
set_option linter.unusedVariables false

/-- A claim for a lot of an estate is payable. -/
theorem clOk_lot {x : Lt} (h : LtOk x) (ha : Apart x.sl) {s r q : Int} (hs : s = 1 ∨ s = 2) (h0 : 0 ≤ r) (h1 : r ≤ 10000000) (hq : 1 ≤ q) (hq2 : q ≤ 1000000000) : clOk ⟨q, x.id, s, x.qty, r, x.sl⟩ = true := by
  have h2 := slErr_of h.few h.sls ha
  have h3 := h.id
  have h4 := h.qty
  simp [clOk, h2]
  omega
theorem payE_lot {x : Lt} {s : List Lt} {cs d p : List Ch} {free : Int} {j : Nat} (he : EstOk s cs free) (hd : Charged cs d) (hp : Charged cs p) (hf : free ≤ 1000001) (hl : cs.length ≤ 64) (hx : x ∈ s) {sc r q : Int} (hs : sc = 1 ∨ sc = 2) (h0 : 0 ≤ r) (h1 : r ≤ 10000000) (hq : 1 ≤ q) (hq2 : q ≤ 1000000000) :
    payE ⟨q, x.id, sc, x.qty, r, x.sl⟩ d (p.drop j) = (if sc = 2 then min (uSumG (gU d (p.drop j)) (unitsOf x.sl)) (x.qty * r / 1000) else uSumG (gU d (p.drop j)) (unitsOf x.sl), 0) := by
  have h2 := clOk_lot (he.st.lots x hx) (he.st.apart hx) hs h0 h1 hq hq2 (r := r)
  have h3 := borneE_est (k := j) he hd hp hf hl hx
  unfold payE
  rw [if_pos h2]
  simp only [h3]
  rw [if_pos trivial]
set_option maxRecDepth 100000 in
set_option maxHeartbeats 16000000 in
theorem drawbackSchemes_any (A0 : Option Addr) (n0 c0 : Nat) (xs0 : List Int) (A1 : Option Addr) (n1 c1 : Nat) (xs1 : List Int) (A2 : Option Addr) (n2 c2 : Nat) (xs2 : List Int) (pick rate : Int) (w : World) (h0 : Ints w A0 n0 xs0) (hnc0 : n0 ≤ c0) (hcm0 : c0 ≤ 9223372036854775807) (h1 : Ints w A1 n1 xs1) (hnc1 : n1 ≤ c1) (hcm1 : c1 ≤ 9223372036854775807) (h2 : Ints w A2 n2 xs2) (hnc2 : n2 ≤ c2) (hcm2 : c2 ≤ 9223372036854775807) :
    Calls Tryz.prog 4 #[.slice A0 n0 c0, .slice A1 n1 c1, .slice A2 n2 c2, .int .i64 pick, .int .i64 rate] w (BRes w true) := by
  have HAW := Lib.hid awake29_any
  have HMK := Lib.hid (Make_any A0 n0 c0 xs0 w h0 hnc0 hcm0)
  have HI1 := Lib.hid h1
  have HI2 := Lib.hid h2
  have hn1 : n1 ≤ 9223372036854775807 := by omega
  have hn2 : n2 ≤ 9223372036854775807 := by omega
  clear h0 h1 h2 hnc0 hcm0 hnc1 hcm1 hnc2 hcm2
  go_enter Tryz.func4, Tryz.ntmps4
  go_wp2_with fail
  refine HMK.out.mono ?_
  rintro e w1 ⟨SA, sn, sc, bs, B, k, d0, cs, free, rfl, hM, hb1⟩
  have HM : Hid (Made w (w1.alloc (.cells #[.slice SA sn sc, .slice B k d0, .int .i64 free] 26)) SA sn sc bs B k d0 cs free) := ⟨hM.st.below ((Below.refl _ _).alloc (Nat.le_refl _) _), own_alloc hM.own _, hM.kl, hM.few, hM.ok, hM.free⟩
  have HB1 : Hid (RowKit.Below w.heap.size w (w1.alloc (.cells #[.slice SA sn sc, .slice B k d0, .int .i64 free] 26))) := hb1.alloc hb1.size _
  have HX1 : Hid (Bl (w1.alloc (.cells #[.slice SA sn sc, .slice B k d0, .int .i64 free] 26)) w1.heap.size 26 #[.slice SA sn sc, .slice B k d0, .int .i64 free]) := Bl.new _ _ _
  clear hM hb1 HMK
  go_upto_region 2 with (fail)
  generalize w1.alloc (.cells #[.slice SA sn sc, .slice B k d0, .int .i64 free] 26) = W1 at *
  generalize w1.heap.size = gx at *
  have z0 : W1.cell? ⟨gx, 0, none⟩ = some (.slice SA sn sc) := HX1.out.cell 0
  have hsl : bs.length = sn := HM.out.st.len
  have hs64 : sn ≤ 64 := by rw [← hsl]; exact HM.out.ok.few
  by_cases hsn : sn = 0
  case pos =>
    have d1 : ((sn : Int) == 0) = true := by simp [hsn]
    have d2 : (sn == 0) = true := by simp [hsn]
    have HAC := Lib.hid (HAW.out W1)
    clear hsn
    go_wp2_with fail
    refine HAC.out.mono ?_
    rintro e w8 ⟨rfl, hb8⟩
    have HB8 : Hid (RowKit.Below w.heap.size w w8) := HB1.out.trans (hb8.mono HB1.out.size)
    clear hb8
    go_wp2
    go_ret
    exact ⟨rfl, HB8.out⟩
  case neg =>
  have d1 : ((sn : Int) == 0) = false := by simp; omega
  have d2 : (sn == 0) = false := by simp; omega
  have HCH := Lib.hid (charges_any SA sn sc B k d0 free cs A1 n1 c1 xs1 A2 n2 c2 xs2 W1 (Recs.of_own encCh_len HM.out.own HM.out.kl) HM.out.few (HI1.out.below HB1.out) hn1 (HI2.out.below HB1.out) hn2)
  have z1 : W1.cell? ⟨gx, 1, none⟩ = some (.slice B k d0) := HX1.out.cell 1
  have z2 : W1.cell? ⟨gx, 2, none⟩ = some (.int .i64 free) := HX1.out.cell 2
  go_wp2_with fail
  refine HCH.out.mono ?_
  rintro e W2 ⟨DA, dn, dc, PA, pn, pc, d, p, j, rfl, HDA, HPA, hcd, hcp, hj, hb2⟩
  have HB2 : Hid (RowKit.Below w.heap.size w W2) := HB1.out.trans (hb2.mono HB1.out.size)
  have HST : Hid (StM W2 SA sn sc bs) := HM.out.st.below hb2
  have HX2 : Hid (Bl W2 gx 26 #[.slice SA sn sc, .slice B k d0, .int .i64 free]) := (hb2.block gx HX1.out.lt).trans HX1.out
  have HCD := Lib.hid hcd
  have HCP := Lib.hid hcp
  have HOK : Hid (EstOk (lotsOf bs) cs free ∧ free ≤ 1000001 ∧ cs.length ≤ 64) := ⟨HM.out.ok, HM.out.free, by rw [HM.out.kl]; exact HM.out.few⟩
  clear hb2 hcd hcp HM HB1 HX1 HCH z0 z1 z2 HI1 HI2 d1 d2
  have hk0' := Int.emod_nonneg pick (show (sn : Int) ≠ 0 by omega)
  have hk1' := Int.emod_lt_of_pos pick (show (0 : Int) < sn by omega)
  have HWI : Hid (∀ wx, Calls Tryz.prog 16 #[.int .i64 pick, .int .i64 (sn : Int)] wx fun e w' => e = .returned (.int .i64 (pick % (sn : Int))) ∧ w' = wx) := fun wx => (within_any pick (sn : Int) wx (by omega) (by omega)).mono fun e w' ⟨h1, h2⟩ => ⟨h1, h2.symm⟩
  obtain ⟨i, hi⟩ : ∃ i : Nat, pick % (sn : Int) = (i : Int) := ⟨(pick % (sn : Int)).toNat, by omega⟩
  have hin : i < sn := by omega
  rw [hi] at HWI
  clear hk0' hk1' hi
  obtain ⟨b1, o1, rfl, hb1, ha⟩ := recs_at HST.out.st.lots.recs hin
  obtain ⟨y, hy⟩ : ∃ y, bs[i]! = y := ⟨_, rfl⟩
  rw [hy] at ha
  have hmem : y ∈ bs := by rw [← hy]; exact get_memK (by omega)
  have HSY : Hid (SlAt W2 y.A y.n y.x.sl ∧ y.n ≤ y.c ∧ y.c ≤ 9223372036854775807) := HST.out.st.sls y hmem
  have HYM : Hid (y.x ∈ lotsOf bs) := List.mem_map.2 ⟨y, hmem, rfl⟩
  have hii : (i : Int) < (sn : Int) := by omega
  have hiz : (0 : Int) ≤ (i : Int) := by omega
  have HHA : Hid (∀ c, c < 5 → W2.cell? ⟨b1, o1 + i * 5 + c, none⟩ = some ((encL y)[c]!)) := ha.out
  have HS : Hid (∀ wx, RowKit.Below W2.heap.size W2 wx → (wx.cell? ⟨gx, 0, none⟩ = some (.slice (some ⟨b1, o1, none⟩) sn sc) ∧ wx.cell? ⟨b1, o1 + i * 5, none⟩ = some (.int .i64 y.x.id) ∧ wx.cell? ⟨b1, o1 + i * 5 + 1, none⟩ = some (.string y.x.code) ∧ wx.cell? ⟨b1, o1 + i * 5 + 2, none⟩ = some (.int .i64 y.x.qty) ∧ wx.cell? ⟨b1, o1 + i * 5 + 3, none⟩ = some (.int .i64 y.x.proc) ∧ wx.cell? ⟨b1, o1 + i * 5 + 4, none⟩ = some (.slice y.A y.n y.c) ∧ RowKit.Below W2.heap.size W2 wx)) := fun wx hb => by
    have hk : Bl wx gx 26 #[.slice (some ⟨b1, o1, none⟩) sn sc, .slice B k d0, .int .i64 free] := (hb.block gx HX2.out.lt).trans HX2.out
    have hc : ∀ c, c < 5 → wx.cell? ⟨b1, o1 + i * 5 + c, none⟩ = some ((encL y)[c]!) := fun c hc => (hb.cell (p := ⟨b1, o1 + i * 5 + c, none⟩) hb1).trans (HHA.out c hc)
    exact ⟨hk.cell 0, hc 0 (by omega), hc 1 (by omega), hc 2 (by omega), hc 3 (by omega), hc 4 (by omega), hb⟩
  have hk0 : Hid (RowKit.Below W2.heap.size W2 W2.drew) := (Below.refl _ _).drew
  have hk00 : Hid (RowKit.Below W2.heap.size W2 W2) := Below.refl _ _
  have y0 := (HS.out _ hk00.out).1
  have y1 := (HS.out _ hk00.out).2.1
  have y2 := (HS.out _ hk00.out).2.2.1
  have y3 := (HS.out _ hk00.out).2.2.2.1
  have y4 := (HS.out _ hk00.out).2.2.2.2.1
  have y5 := (HS.out _ hk00.out).2.2.2.2.2.1
  clear ha hy hmem HHA hsl hsn HST
  go_upto_region 5 with (fail)
  go_cut [14] from 34 (fun v wx => v = .pointer (some ⟨W2.heap.size, 0, none⟩) ∧ Bl wx W2.heap.size 36 #[.int .i64 y.x.id, .string y.x.code, .int .i64 y.x.qty, .int .i64 y.x.proc, .slice y.A y.n y.c] ∧ RowKit.Below W2.heap.size W2 wx)
  case first =>
    go_region_held3 (fun wx => wx.cell? ⟨gx, 0, none⟩ = some (.slice (some ⟨b1, o1, none⟩) sn sc) ∧ wx.cell? ⟨b1, o1 + i * 5, none⟩ = some (.int .i64 y.x.id) ∧ wx.cell? ⟨b1, o1 + i * 5 + 1, none⟩ = some (.string y.x.code) ∧ wx.cell? ⟨b1, o1 + i * 5 + 2, none⟩ = some (.int .i64 y.x.qty) ∧ wx.cell? ⟨b1, o1 + i * 5 + 3, none⟩ = some (.int .i64 y.x.proc) ∧ wx.cell? ⟨b1, o1 + i * 5 + 4, none⟩ = some (.slice y.A y.n y.c) ∧ RowKit.Below W2.heap.size W2 wx)
      (first
        | with_reducible exact HS.out _ hk0.out
        | with_reducible exact HS.out _ hk00.out
        | with_reducible exact HS.out _ (hk0.out.alloc hk0.out.size _)
        | exact HS.out _ ((hk00.out.alloc hk00.out.size _).drew))
      (first
        | (go_at_call 16; with_reducible (refine (HWI.out _).mono ?_); rintro e wa ⟨rfl, rfl⟩))
    all_goals
      (go_wp2_with fail
       go_meet
       exact ⟨rfl, (Bl.new _ _ _).drew, ((Below.refl _ _).alloc (Nat.le_refl _) _).drew⟩)
  case rest =>
  obtain ⟨rfl, hbl, hbc⟩ := hcut
  have HB3 : Hid (RowKit.Below w.heap.size w wc) := HB2.out.trans (hbc.mono HB2.out.size)
  have HL3 := Lib.hid hbl
  have HBC := Lib.hid hbc
  have HDA3 : Hid (ChAt wc DA dn d) := HDA.out.1.below hbc
  have HPA3 : Hid (ChAt wc PA pn (p.drop j)) := HPA.out.1.below hbc
  have HSY3 : Hid (SlAt wc y.A y.n y.x.sl) := HSY.out.1.below hbc
  have HG3 : Hid (W2.heap.size < wc.heap.size) := hbl.lt
  clear hbl hbc HS HWI hk0 hk00 y0 y1 y2 y3 y4 y5 HX2 HDA HPA hii hiz hin HB2
  generalize wc = W at *
  generalize W2.heap.size = g4 at *
  have hr0 := Int.emod_nonneg rate (show (10000001 : Int) ≠ 0 by decide)
  have hr1 := Int.emod_lt_of_pos rate (show (0 : Int) < 10000001 by decide)
  have HWI : Hid (∀ wx, Calls Tryz.prog 16 #[.int .i64 rate, .int .i64 10000001] wx fun e w' => e = .returned (.int .i64 (rate % 10000001)) ∧ w' = wx) := fun wx => (within_any rate 10000001 wx (by decide) (by decide)).mono fun e w' ⟨h1, h2⟩ => ⟨h1, h2.symm⟩
  obtain ⟨r, hr⟩ : ∃ r, rate % 10000001 = r := ⟨_, rfl⟩
  rw [hr] at HWI hr0 hr1
  clear hr
  have y0 : W.cell? ⟨g4, 0, none⟩ = some (.int .i64 y.x.id) := HL3.out.cell 0
  have y2 : W.cell? ⟨g4, 2, none⟩ = some (.int .i64 y.x.qty) := HL3.out.cell 2
  have y4 : W.cell? ⟨g4, 4, none⟩ = some (.slice y.A y.n y.c) := HL3.out.cell 4
  have HS : Hid (∀ wx, RowKit.Below W.heap.size W wx → (wx.cell? ⟨g4, 0, none⟩ = some (.int .i64 y.x.id) ∧ wx.cell? ⟨g4, 2, none⟩ = some (.int .i64 y.x.qty) ∧ wx.cell? ⟨g4, 4, none⟩ = some (.slice y.A y.n y.c) ∧ RowKit.Below W.heap.size W wx)) := fun wx hb => by
    have hk : Bl wx g4 36 #[.int .i64 y.x.id, .string y.x.code, .int .i64 y.x.qty, .int .i64 y.x.proc, .slice y.A y.n y.c] := (hb.block g4 HL3.out.lt).trans HL3.out
    exact ⟨hk.cell 0, hk.cell 2, hk.cell 4, hb⟩
  have hk0 : Hid (RowKit.Below W.heap.size W W.drew) := (Below.refl _ _).drew
  have hk00 : Hid (RowKit.Below W.heap.size W W) := Below.refl _ _
  go_upto_region 6 with (fail)
  go_cut [15] from 43 (fun v wx => v = .pointer (some ⟨W.heap.size, 0, none⟩) ∧ Bl wx W.heap.size 39 #[.int .i64 1, .int .i64 y.x.id, .int .i64 1, .int .i64 y.x.qty, .int .i64 r, .slice y.A y.n y.c] ∧ RowKit.Below W.heap.size W wx)
  case first =>
    go_region_held3 (fun wx => wx.cell? ⟨g4, 0, none⟩ = some (.int .i64 y.x.id) ∧ wx.cell? ⟨g4, 2, none⟩ = some (.int .i64 y.x.qty) ∧ wx.cell? ⟨g4, 4, none⟩ = some (.slice y.A y.n y.c) ∧ RowKit.Below W.heap.size W wx)
      (first
        | with_reducible exact HS.out _ hk0.out
        | with_reducible exact HS.out _ hk00.out
        | with_reducible exact HS.out _ (hk0.out.alloc hk0.out.size _)
        | exact HS.out _ ((hk00.out.alloc hk00.out.size _).drew))
      (first
        | (go_at_call 16; with_reducible (refine (HWI.out _).mono ?_); rintro e wa ⟨rfl, rfl⟩))
    all_goals
      (go_wp2_with fail
       go_meet
       exact ⟨rfl, (Bl.new _ _ _).drew, ((Below.refl _ _).alloc (Nat.le_refl _) _).drew⟩)
  case rest =>
  obtain ⟨rfl, hbl, hbc⟩ := hcut
  have HB4 : Hid (RowKit.Below w.heap.size w wc) := HB3.out.trans (hbc.mono HB3.out.size)
  have HC4 := Lib.hid hbl
  have HL4 : Hid (Bl wc g4 36 #[.int .i64 y.x.id, .string y.x.code, .int .i64 y.x.qty, .int .i64 y.x.proc, .slice y.A y.n y.c]) := (hbc.block g4 HL3.out.lt).trans HL3.out
  have HDA4 : Hid (ChAt wc DA dn d) := HDA3.out.below hbc
  have HPA4 : Hid (ChAt wc PA pn (p.drop j)) := HPA3.out.below hbc
  have HSY4 : Hid (SlAt wc y.A y.n y.x.sl) := HSY3.out.below hbc
  have HG4 : Hid (w.heap.size ≤ W.heap.size ∧ g4 ≠ W.heap.size) := ⟨HB3.out.size, Nat.ne_of_lt HL3.out.lt⟩
  have HBW := Lib.hid hbc
  clear hbl hbc HS HWI hk0 hk00 y0 y2 y4 HL3 HB3 HG3
  generalize wc = W5 at *
  obtain ⟨g5, hg5⟩ : ∃ g5, W.heap.size = g5 := ⟨_, rfl⟩
  rw [hg5] at HC4 HG4 HBW ⊢
  have HG5 := Lib.hid hg5
  clear hg5
  have HKW : Hid (∀ wx, RowKit.Below g5 W wx → ChAt wx DA dn d ∧ ChAt wx PA pn (p.drop j) ∧ SlAt wx y.A y.n y.x.sl) := fun wx hb => by
    rw [← HG5.out] at hb
    exact ⟨HDA3.out.below hb, HPA3.out.below hb, HSY3.out.below hb⟩
  clear HDA3 HPA3 HSY3
  have hq := (HOK.out.1.st.lots y.x HYM.out).qty
  obtain ⟨S, hS⟩ : ∃ S, uSumG (gU d (p.drop j)) (unitsOf y.x.sl) = S := ⟨_, rfl⟩
  have hp1 := payE_lot (j := j) HOK.out.1 HCD.out HCP.out HOK.out.2.1 HOK.out.2.2 HYM.out (sc := 1) (r := r) (q := 1) (.inl rfl) hr0 (by omega) (by omega) (by omega)
  have hp2 := payE_lot (j := j) HOK.out.1 HCD.out HCP.out HOK.out.2.1 HOK.out.2.2 HYM.out (sc := 2) (r := r) (q := 1) (.inr rfl) hr0 (by omega) (by omega) (by omega)
  rw [hS] at hp1 hp2
  rw [if_neg (by decide)] at hp1
  rw [if_pos rfl] at hp2
  obtain ⟨T, hT⟩ : ∃ T, min S (y.x.qty * r / 1000) = T := ⟨_, rfl⟩
  rw [hT] at hp2
  have HP1 : Hid (Calls Tryz.prog 17 #[.agg #[.int .i64 1, .int .i64 y.x.id, .int .i64 1, .int .i64 y.x.qty, .int .i64 r, .slice y.A y.n y.c], .slice DA dn dc, .slice PA pn pc] W5 fun e w' => e = .returned (.tuple #[.int .i64 S, .int .i64 0]) ∧ RowKit.Below W5.heap.size W5 w') := by
    have := Payable_any ⟨1, y.x.id, 1, y.x.qty, r, y.x.sl⟩ y.A y.n y.c DA PA dn dc pn pc d (p.drop j) W5 HSY4.out.recs HDA4.out.recs HPA4.out.recs
    rw [hp1] at this
    exact this
  have HP2 : Hid (∀ wx, RowKit.Below g5 W wx → Calls Tryz.prog 17 #[.agg #[.int .i64 1, .int .i64 y.x.id, .int .i64 2, .int .i64 y.x.qty, .int .i64 r, .slice y.A y.n y.c], .slice DA dn dc, .slice PA pn pc] wx fun e w' => e = .returned (.tuple #[.int .i64 T, .int .i64 0]) ∧ RowKit.Below wx.heap.size wx w') := fun wx hb => by
    obtain ⟨k1, k2, k3⟩ := HKW.out wx hb
    have := Payable_any ⟨1, y.x.id, 2, y.x.qty, r, y.x.sl⟩ y.A y.n y.c DA PA dn dc pn pc d (p.drop j) wx k3.recs k1.recs k2.recs
    rw [hp2] at this
    exact this
  clear hp1 hp2 hS HOK HCD HCP HYM
  have x0 := HC4.out.cell 0
  have x1 := HC4.out.cell 1
  have x2 := HC4.out.cell 2
  have x3 := HC4.out.cell 3
  have x4 := HC4.out.cell 4
  have x5 := HC4.out.cell 5
  go_wp2_with fail
  refine HP1.out.mono ?_
  rintro e w6 ⟨rfl, hb6⟩
  have HB6 : Hid (RowKit.Below w.heap.size w (w6.setCell ⟨g5, 2, none⟩ (.int .i64 2))) := (HB4.out.trans (hb6.mono HB4.out.size)).setCell (p := ⟨g5, 2, none⟩) HG4.out.1 _
  have HW6 : Hid (RowKit.Below g5 W (w6.setCell ⟨g5, 2, none⟩ (.int .i64 2))) := (HBW.out.trans (hb6.mono (Nat.le_of_lt HC4.out.lt))).setCell (p := ⟨g5, 2, none⟩) (Nat.le_refl _) _
  have HC6' : Hid (Bl w6 g5 39 #[.int .i64 1, .int .i64 y.x.id, .int .i64 1, .int .i64 y.x.qty, .int .i64 r, .slice y.A y.n y.c]) := (hb6.block g5 HC4.out.lt).trans HC4.out
  have HL6 : Hid (Bl (w6.setCell ⟨g5, 2, none⟩ (.int .i64 2)) g4 36 #[.int .i64 y.x.id, .string y.x.code, .int .i64 y.x.qty, .int .i64 y.x.proc, .slice y.A y.n y.c]) := Bl.far (p := ⟨g5, 2, none⟩) ((hb6.block g4 HL4.out.lt).trans HL4.out) HG4.out.2 _
  have HC6 : Hid (Bl (w6.setCell ⟨g5, 2, none⟩ (.int .i64 2)) g5 39 #[.int .i64 1, .int .i64 y.x.id, .int .i64 2, .int .i64 y.x.qty, .int .i64 r, .slice y.A y.n y.c]) := by show Bl _ _ _ _; have := HC6'.out.put 2 (.int .i64 2); simpa using this
  have x2 : w6.cell? ⟨g5, 2, none⟩ = some (.int .i64 1) := HC6'.out.cell 2
  have f2 : w6.frozen? ⟨g5, 2, none⟩ = false := HC6'.out.free 2
  clear hb6 HP1 HC6' HL4 HC4 HB4 HBW HDA4 HPA4 HSY4 x0 x1 x3 x4 x5 HG4
  go_upto_region 9 with (fail)
  clear x2 f2
  generalize w6.setCell ⟨g5, 2, none⟩ (.int .i64 2) = W6 at *
  have HPC := Lib.hid (HP2.out W6 HW6.out)
  have x0 := HC6.out.cell 0
  have x1 := HC6.out.cell 1
  have x2 := HC6.out.cell 2
  have x3 := HC6.out.cell 3
  have x4 := HC6.out.cell 4
  have x5 := HC6.out.cell 5
  go_wp2_with fail
  refine HPC.out.mono ?_
  rintro e w7 ⟨rfl, hb7⟩
  have HB7 : Hid (RowKit.Below w.heap.size w w7) := HB6.out.trans (hb7.mono HB6.out.size)
  have HL7 : Hid (Bl w7 g4 36 #[.int .i64 y.x.id, .string y.x.code, .int .i64 y.x.qty, .int .i64 y.x.proc, .slice y.A y.n y.c]) := (hb7.block g4 HL6.out.lt).trans HL6.out
  have HC7 : Hid (Bl w7 g5 39 #[.int .i64 1, .int .i64 y.x.id, .int .i64 2, .int .i64 y.x.qty, .int .i64 r, .slice y.A y.n y.c]) := (hb7.block g5 HC6.out.lt).trans HC6.out
  clear hb7 HPC HP2 HB6 HW6 HL6 HC6 x0 x1 x2 x3 x4 x5 HKW
  have y2 : w7.cell? ⟨g4, 2, none⟩ = some (.int .i64 y.x.qty) := HL7.out.cell 2
  have x4 : w7.cell? ⟨g5, 4, none⟩ = some (.int .i64 r) := HC7.out.cell 4
  have HAC := Lib.hid (HAW.out w7)
  have hm0 := Int.mul_nonneg (show 0 ≤ y.x.qty by omega) hr0
  have hm1 := Int.mul_le_mul (show y.x.qty ≤ 1000000000 by omega) (show r ≤ 10000000 by omega) hr0 (by omega)
  obtain ⟨m, hm⟩ : ∃ m, y.x.qty * r = m := ⟨_, rfl⟩
  rw [hm] at hT hm0 hm1
  have u1 : IntKind.i64.wrap (y.x.qty * r) = m := by rw [hm]; exact IntWalk.i64_in _ (by omega)
  have u2 : IntKind.i64.wrap (m.tdiv 1000) = m / 1000 := IntWalk.i64_quo m 1000 ⟨by omega, by omega, by omega⟩
  have hTS : T ≤ S := by omega
  have d1 : decide (T ≤ S) = true := decide_eq_true hTS
  clear hm hm0 hm1 hq hr0 hr1 HL7 HC7 HAW
  by_cases hts : T = S
  case pos =>
    have d2 : (T == S) = true := by simpa using hts
    clear hts hT hTS
    go_wp2_with fail
    refine HAC.out.mono ?_
    rintro e w8 ⟨rfl, hb8⟩
    have HB8 : Hid (RowKit.Below w.heap.size w w8) := HB7.out.trans (hb8.mono HB7.out.size)
    clear hb8
    go_wp2
    go_ret
    exact ⟨rfl, HB8.out⟩
  case neg =>
    have d2 : (T == S) = false := by simpa using hts
    have e3 : T = m / 1000 := by omega
    have d3 : (T == m / 1000) = true := by simpa using e3
    clear hts hT hTS e3
    go_wp2_with fail
    refine HAC.out.mono ?_
    rintro e w8 ⟨rfl, hb8⟩
    have HB8 : Hid (RowKit.Below w.heap.size w w8) := HB7.out.trans (hb8.mono HB7.out.size)
    clear hb8
    go_wp2
    go_ret
    exact ⟨rfl, HB8.out⟩
end Go.Proofs.YthnhgjhnkncmiaaGreat

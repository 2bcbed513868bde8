/-
  The law DrawbackOnce returns true. No conditions beyond the row's own.
-/
import Derived.Test.YthnhgjhnkncmiaaGreatMAN
import Derived.Test.YthnhgjhnkncmiaaGreatMAW
namespace Go.Proofs.YthnhgjhnkncmiaaGreat
open Go.RowKit
set_option linter.unusedVariables false

/-- Claims lodged so far, the Source, what lies behind. -/
structure LpW (W1 wx : World) (gs : Nat) (LA : Option Addr) (m lc J : Nat) (CA : Option Addr) (cn cd : Nat) (xs : List Cb) : Prop where
  src : Src wx gs LA m lc J
  cl : ClOwn W1.heap.size wx CA cn cd xs
  below : RowKit.Below W1.heap.size W1 wx
  base : W1.heap.size ≤ gs
section
variable {W1 wx w' : World} {gs : Nat} {LA : Option Addr} {m lc J J' : Nat} {CA : Option Addr} {cn cd : Nat} {xs : List Cb}
theorem ClOwn.kp {N : Nat} (h : ClOwn N wx CA cn cd xs) (hk : Kp gs wx w') (hs : Src wx gs LA m lc J) : ClOwn N w' CA cn cd xs :=
  ⟨own_of_block h.row fun g hg => hk.block g (own_lt h.row g hg) (fun e => own_far29 h.row hs (by decide) (hg.trans (congrArg some e))), h.len, fun b hb => own_of_block (h.sls b hb) fun g hg => hk.block g (own_lt (h.sls b hb) g hg) (fun e => own_far29 (h.sls b hb) hs (by decide) (hg.trans (congrArg some e)))⟩
theorem LpW.tr (h : LpW W1 wx gs LA m lc J CA cn cd xs) (ht : TrS gs LA m lc J' wx w') : LpW W1 w' gs LA m lc J' CA cn cd xs :=
  ⟨ht.src, h.cl.kp ht.kp h.src, ht.under h.below h.below.size h.base, h.base⟩
theorem LpW.under (h : LpW W1 wx gs LA m lc J CA cn cd xs) (hb : RowKit.Below wx.heap.size wx w') : LpW W1 w' gs LA m lc J CA cn cd xs :=
  ⟨(hb.block gs h.src.lt).trans h.src, h.cl.below hb, h.below.trans (hb.mono h.below.size), h.base⟩
end
/-- One of the first claims has a unit of the list. -/
def metB (cs : List Clm) (ys : List Sl) (i : Nat) : Bool := (cs.take i).any fun b => decide (MeetsL b.sl ys)
theorem metB_succ {cs : List Clm} {ys : List Sl} {i : Nat} (h : i < cs.length) : metB cs ys (i + 1) = (metB cs ys i || decide (MeetsL cs[i]!.sl ys)) := by
  unfold metB
  rw [List.take_succ_eq_append_getElem h, List.any_append, getElem!_pos cs i h]
  simp
theorem metB_zero (cs : List Clm) (ys : List Sl) : metB cs ys 0 = false := rfl
theorem metB_all {cs : List Clm} {ys : List Sl} {i : Nat} (h : cs.length ≤ i) : (metB cs ys i = true) ↔ ∃ x ∈ cs, MeetsL x.sl ys := by
  unfold metB
  rw [List.take_of_length_le h, List.any_eq_true]
  simp
set_option maxRecDepth 100000 in
set_option maxHeartbeats 32000000 in
theorem drawbackOnce_any (A0 : Option Addr) (n0 c0 : Nat) (xs0 : List Int) (A1 : Option Addr) (n1 c1 : Nat) (xs1 : List Int) (w : World) (h0 : Ints w A0 n0 xs0) (hnc0 : n0 ≤ c0) (hcm0 : c0 ≤ 9223372036854775807) (h1 : Ints w A1 n1 xs1) (hnc1 : n1 ≤ c1) (hcm1 : c1 ≤ 9223372036854775807) :
    Calls Tryz.prog 3 #[.slice A0 n0 c0, .slice A1 n1 c1] w (BRes w true) := by
  have HAW := Lib.hid awake29_any
  have HMK := Lib.hid (Make_any A0 n0 c0 xs0 w h0 hnc0 hcm0)
  have hT := h1.take (m := min n1 60) (by omega)
  obtain ⟨m, hm⟩ : ∃ m, m = min n1 60 := ⟨_, rfl⟩
  have HC : Hid (∀ wx, RowKit.Below w.heap.size w wx → Calls Tryz.prog 8 #[.slice A1 n1 c1, .int .i64 60] wx fun e w' => e = .returned (.slice A1 m c1) ∧ wx = w') := fun wx hb => by
    rw [hm]
    exact cut_any A1 n1 c1 60 xs1 wx (h1.below hb) hnc1 hcm1 (by omega) (by omega)
  rw [← hm] at hT
  have HT := Lib.hid hT
  have hm1 : m ≤ 60 := by omega
  clear hm hT h0 h1 hnc0 hcm0 hnc1 hcm1
  go_enter Tryz.func3, Tryz.ntmps3
  go_wp2_with fail
  refine HMK.out.mono ?_
  rintro e w1 ⟨SA, sn, sc, bs, B, k, d0, cs, free, rfl, hM, hb1⟩
  have HST : Hid (StM (w1.alloc (.cells #[.slice SA sn sc, .slice B k d0, .int .i64 free] 26)) SA sn sc bs) := hM.st.below ((Below.refl _ _).alloc (Nat.le_refl _) _)
  have HOK : Hid (EstOk (lotsOf bs) cs free) := hM.ok
  have HB1 : Hid (RowKit.Below w.heap.size w (w1.alloc (.cells #[.slice SA sn sc, .slice B k d0, .int .i64 free] 26))) := hb1.alloc hb1.size _
  have HX1 : Hid (Bl (w1.alloc (.cells #[.slice SA sn sc, .slice B k d0, .int .i64 free] 26)) w1.heap.size 26 #[.slice SA sn sc, .slice B k d0, .int .i64 free]) := Bl.new _ _ _
  clear hM hb1 HMK
  go_upto_region 2 with (fail)
  generalize w1.alloc (.cells #[.slice SA sn sc, .slice B k d0, .int .i64 free] 26) = W1 at *
  generalize w1.heap.size = gx at *
  have hsl : bs.length = sn := HST.out.len
  have hs64 : sn ≤ 64 := by rw [← hsl]; exact HOK.out.few
  have HI1 : Hid (Ints W1 A1 m (xs1.take m)) := HT.out.below HB1.out
  go_wp2_with fail
  refine (HC.out W1 HB1.out).mono ?_
  rintro e wz ⟨rfl, rfl⟩
  have HL0 : Hid (LpW W1 (W1.alloc (.cells #[.slice A1 m c1, .int .i64 0] 31)) W1.heap.size A1 m c1 0 none 0 0 []) := ⟨Bl.new W1 _ _, ⟨⟨by simp [flat], .inl ⟨rfl, rfl⟩⟩, rfl, fun b hb => (by cases hb)⟩, (Below.refl _ _).alloc (Nat.le_refl _) _, Nat.le_refl _⟩
  clear HC HT
  go_upto_region 4 with (fail)
  generalize W1.alloc (.cells #[.slice A1 m c1, .int .i64 0] 31) = W0 at *
  obtain ⟨gs, hgs⟩ : ∃ gs, W1.heap.size = gs := ⟨_, rfl⟩
  rw [hgs] at HL0 ⊢
  have HGS := Lib.hid hgs
  clear hgs
  go_wp2_with fail
  go_loopw [7, 8] (fun v s wx => ∃ (q : Nat) (CA : Option Addr) (cn cd : Nat) (xs : List Cb) (J : Nat), v = .slice CA cn cd ∧ s = .int .i64 (q : Int) ∧ 1 ≤ q ∧ q ≤ 15 ∧ cn + 1 ≤ q ∧ Hid (LpW W1 wx gs A1 m c1 J CA cn cd xs) ∧ Hid (ClsOk (clms xs)) ∧ Hid (∀ b ∈ xs, b.x.num < (q : Int))) (fun _ s _ => 15 - (intOf s).toNat)
  case atStart => exact ⟨1, none, 0, 0, [], 0, rfl, rfl, by omega, by omega, by omega, HL0, ClsOk.nil, fun b hb => by cases hb⟩
  case round =>
    clear HL0
    obtain ⟨q, CA, cn, cd, xs, J, rfl, rfl, hq1, hq2, hcq, HL, HCO, HNU⟩ := hrel
    have HLF := Lib.hid (left_any gs A1 m c1 J wr HL.out.src (by omega))
    by_cases hlt : J < m
    case neg =>
      have d1 : decide (J < m) = false := decide_eq_false hlt
      go_wp2_with fail
      refine HLF.out.mono ?_
      rintro e w2 ⟨rfl, z, rfl⟩
      rw [d1]
      have HB2 : Hid (RowKit.Below w.heap.size w (wr.drewN z)) := below_drewN (HB1.out.trans (HL.out.below.mono HB1.out.size)) z
      have c0 : (wr.drewN z).cell? ⟨gx, 0, none⟩ = some (.slice SA sn sc) := (HX1.out.keep HL.out.below).cell 0
      clear HLF HL
      generalize wr.drewN z = W2 at *
      have HAC := Lib.hid (HAW.out W2)
      go_wp2_with fail
      refine HAC.out.mono ?_
      rintro e w8 ⟨rfl, hb8⟩
      have HB8 : Hid (RowKit.Below w.heap.size w w8) := HB2.out.trans (hb8.mono HB2.out.size)
      clear hb8
      go_wp2
      go_ret
      exact ⟨rfl, HB8.out⟩
    case pos =>
    have d1 : decide (J < m) = true := decide_eq_true hlt
    by_cases hsn : 0 < sn
    case neg =>
      have d2 : decide ((0 : Int) < (sn : Int)) = false := by simp; omega
      have d2b : decide (0 < sn) = false := decide_eq_false hsn
      go_wp2_with fail
      refine HLF.out.mono ?_
      rintro e w2 ⟨rfl, z, rfl⟩
      rw [d1]
      have HB2 : Hid (RowKit.Below w.heap.size w (wr.drewN z)) := below_drewN (HB1.out.trans (HL.out.below.mono HB1.out.size)) z
      have c0 : (wr.drewN z).cell? ⟨gx, 0, none⟩ = some (.slice SA sn sc) := (HX1.out.keep HL.out.below).cell 0
      clear HLF HL
      generalize wr.drewN z = W2 at *
      have HAC := Lib.hid (HAW.out W2)
      go_wp2_with fail
      refine HAC.out.mono ?_
      rintro e w8 ⟨rfl, hb8⟩
      have HB8 : Hid (RowKit.Below w.heap.size w w8) := HB2.out.trans (hb8.mono HB2.out.size)
      clear hb8
      go_wp2
      go_ret
      exact ⟨rfl, HB8.out⟩
    case pos =>
    have d2 : decide ((0 : Int) < (sn : Int)) = true := by simp; omega
    have d2b : decide (0 < sn) = true := decide_eq_true hsn
    by_cases hq15 : q < 15
    case neg =>
      have d3 : decide ((q : Int) < 15) = false := by simp; omega
      have d3b : decide (q < 15) = false := decide_eq_false hq15
      go_wp2_with fail
      refine HLF.out.mono ?_
      rintro e w2 ⟨rfl, z, rfl⟩
      rw [d1]
      have HB2 : Hid (RowKit.Below w.heap.size w (wr.drewN z)) := below_drewN (HB1.out.trans (HL.out.below.mono HB1.out.size)) z
      have c0 : (wr.drewN z).cell? ⟨gx, 0, none⟩ = some (.slice SA sn sc) := (HX1.out.keep HL.out.below).cell 0
      clear HLF HL
      generalize wr.drewN z = W2 at *
      have HAC := Lib.hid (HAW.out W2)
      go_wp2_with fail
      refine HAC.out.mono ?_
      rintro e w8 ⟨rfl, hb8⟩
      have HB8 : Hid (RowKit.Below w.heap.size w w8) := HB2.out.trans (hb8.mono HB2.out.size)
      clear hb8
      go_wp2
      go_ret
      exact ⟨rfl, HB8.out⟩
    case pos =>
    have d3 : decide ((q : Int) < 15) = true := by simp; omega
    have d3b : decide (q < 15) = true := decide_eq_true hq15
    go_wp2_with fail
    refine HLF.out.mono ?_
    rintro e w2 ⟨rfl, z, rfl⟩
    rw [d1]
    have HL7 : Hid (LpW W1 (wr.drewN z) gs A1 m c1 J CA cn cd xs) := HL.out.under (below_drewN (Below.refl _ _) z)
    have c0 : (wr.drewN z).cell? ⟨gx, 0, none⟩ = some (.slice SA sn sc) := (HX1.out.keep HL.out.below).cell 0
    clear HLF HL
    go_upto_region 7 with (fail)
    generalize wr.drewN z = W7 at *
    clear d1 d2 d2b d3 d3b c0
    -- the lot that is drawn
    obtain ⟨i, hi⟩ : ∃ i : Nat, nextV (xs1.take m) m J (sn : Int) = (i : Int) := ⟨(nextV (xs1.take m) m J (sn : Int)).toNat, by have := (nextV_bounds (xs1.take m) m J (sn : Int) (by omega)).1; omega⟩
    have hin : i < sn := by have := (nextV_bounds (xs1.take m) m J (sn : Int) (by omega)).2; omega
    have HNX : Hid (∀ wx, TrS gs A1 m c1 J W7 wx → Calls Tryz.prog 10 #[.pointer (some ⟨gs, 0, none⟩), .int .i64 (sn : Int)] wx fun e w' => e = .returned (.int .i64 (i : Int)) ∧ Only gs wx w' ∧ TrS gs A1 m c1 (nextI m J) W7 w') := fun wx ht => by
      have := next_any gs A1 m c1 J (xs1.take m) (sn : Int) W1 wx ht.src HI1.out (ht.under HL7.out.below HL7.out.below.size HL7.out.base) HL7.out.base (by omega) (by omega) (by omega)
      rw [hi] at this
      exact this.mono fun e w' ⟨h1, h2, h3⟩ => ⟨h1, h2, ht.only h2 h3⟩
    have HBW : Hid (∀ J' wx, TrS gs A1 m c1 J' W7 wx → RowKit.Below W1.heap.size W1 wx) := fun J' wx ht => ht.under HL7.out.below HL7.out.below.size HL7.out.base
    obtain ⟨b1, o1, rfl, hb1, ha⟩ := recs_at HST.out.st.lots.recs hin
    obtain ⟨y, hy⟩ : ∃ y, bs[i]! = y := ⟨_, rfl⟩
    rw [hy] at ha
    have hmem : y ∈ bs := by rw [← hy]; exact get_memK (by omega)
    have HSY : Hid (SlAt W1 y.A y.n y.x.sl ∧ y.n ≤ y.c ∧ y.c ≤ 9223372036854775807) := HST.out.st.sls y hmem
    have HYM : Hid (y.x ∈ lotsOf bs) := List.mem_map.2 ⟨y, hmem, rfl⟩
    have hii : (i : Int) < (sn : Int) := by omega
    have hiz : (0 : Int) ≤ (i : Int) := by omega
    have HHA : Hid (∀ c, c < 5 → W1.cell? ⟨b1, o1 + i * 5 + c, none⟩ = some ((encL y)[c]!)) := ha.out
    have HS : Hid (∀ wx, RowKit.Below W1.heap.size W1 wx → (wx.cell? ⟨gx, 0, none⟩ = some (.slice (some ⟨b1, o1, none⟩) sn sc) ∧ wx.cell? ⟨b1, o1 + i * 5, none⟩ = some (.int .i64 y.x.id) ∧ wx.cell? ⟨b1, o1 + i * 5 + 1, none⟩ = some (.string y.x.code) ∧ wx.cell? ⟨b1, o1 + i * 5 + 2, none⟩ = some (.int .i64 y.x.qty) ∧ wx.cell? ⟨b1, o1 + i * 5 + 3, none⟩ = some (.int .i64 y.x.proc) ∧ wx.cell? ⟨b1, o1 + i * 5 + 4, none⟩ = some (.slice y.A y.n y.c) ∧ RowKit.Below W1.heap.size W1 wx)) := fun wx hb => by
      have hk : Bl wx gx 26 #[.slice (some ⟨b1, o1, none⟩) sn sc, .slice B k d0, .int .i64 free] := (hb.block gx HX1.out.lt).trans HX1.out
      have hc : ∀ c, c < 5 → wx.cell? ⟨b1, o1 + i * 5 + c, none⟩ = some ((encL y)[c]!) := fun c hc => (hb.cell (p := ⟨b1, o1 + i * 5 + c, none⟩) hb1).trans (HHA.out c hc)
      exact ⟨hk.cell 0, hc 0 (by omega), hc 1 (by omega), hc 2 (by omega), hc 3 (by omega), hc 4 (by omega), hb⟩
    have HT0 : Hid (TrS gs A1 m c1 J W7 W7.drew) := (TrS.start HL7.out.src).drew
    have hgl : gs < W7.heap.size := HL7.out.src.lt
    have hk0 : Hid (RowKit.Below W1.heap.size W1 W7.drew) := HL7.out.below.drew
    have hk00 : Hid (RowKit.Below W1.heap.size W1 W7) := HL7.out.below
    have y0 := (HS.out _ hk00.out).1
    have y1 := (HS.out _ hk00.out).2.1
    have y2 := (HS.out _ hk00.out).2.2.1
    have y3 := (HS.out _ hk00.out).2.2.2.1
    have y4 := (HS.out _ hk00.out).2.2.2.2.1
    have y5 := (HS.out _ hk00.out).2.2.2.2.2.1
    clear ha hy hmem hi hsl hlt
    go_cut [9] from 44 to 105 (fun v wx => ∃ g, v = .pointer (some ⟨g, 0, none⟩) ∧ Bl wx g 36 #[.int .i64 y.x.id, .string y.x.code, .int .i64 y.x.qty, .int .i64 y.x.proc, .slice y.A y.n y.c] ∧ TrS gs A1 m c1 (nextI m J) W7 wx)
    case first =>
      go_region_held3 (fun wx => wx.cell? ⟨gx, 0, none⟩ = some (.slice (some ⟨b1, o1, none⟩) sn sc) ∧ wx.cell? ⟨b1, o1 + i * 5, none⟩ = some (.int .i64 y.x.id) ∧ wx.cell? ⟨b1, o1 + i * 5 + 1, none⟩ = some (.string y.x.code) ∧ wx.cell? ⟨b1, o1 + i * 5 + 2, none⟩ = some (.int .i64 y.x.qty) ∧ wx.cell? ⟨b1, o1 + i * 5 + 3, none⟩ = some (.int .i64 y.x.proc) ∧ wx.cell? ⟨b1, o1 + i * 5 + 4, none⟩ = some (.slice y.A y.n y.c) ∧ RowKit.Below W1.heap.size W1 wx)
        (first
          | with_reducible exact HS.out _ hka.out
          | with_reducible exact HS.out _ (hka.out.alloc hka.out.size _)
          | with_reducible exact HS.out _ hk0.out
          | with_reducible exact HS.out _ hk00.out
          | with_reducible exact HS.out _ ((hk00.out.alloc hk00.out.size _).drew)
          | with_reducible exact HS.out _ (put5 hka.out hk00.out.size _ _ _ _ _))
        (first
          | (go_at_call 10; with_reducible (refine (HNX.out _ HT0.out).mono ?_); rintro e wa ⟨rfl, hoa, hta⟩; have HTA := Lib.hid hta; have hka := Lib.hid (HBW.out _ _ hta))
          | (go_at_call 10; with_reducible (refine (HNX.out _ (TrS.drew (TrS.alloc (TrS.start HL7.out.src) _))).mono ?_); rintro e wa ⟨rfl, hoa, hta⟩; have HTA := Lib.hid hta; have hka := Lib.hid (HBW.out _ _ hta); have hba := Lib.hid (Only.freshd hoa hgl); have xa0 := Bl.c0 hba.out; have xa1 := Bl.c1 hba.out; have xa2 := Bl.c2 hba.out; have xa3 := Bl.c3 hba.out; have xa4 := Bl.c4 hba.out; have fa0 := Bl.free hba.out 0; have fa1 := Bl.free hba.out 1; have fa2 := Bl.free hba.out 2; have fa3 := Bl.free hba.out 3; have fa4 := Bl.free hba.out 4))
      all_goals
        (go_wp2_with fail
         go_meet
         first
          | exact ⟨_, rfl, set5_bl hba.out _ _ _ _ _, HTA.out.set5 (Nat.le_refl _) (Nat.ne_of_lt hgl) _ _ _ _ _⟩
          | exact ⟨_, rfl, Bl.new _ _ _, HTA.out.alloc _⟩)
    case rest =>
    obtain ⟨gy, rfl, hbl, htr⟩ := hcut
    have HL8 : Hid (LpW W1 wc gs A1 m c1 (nextI m J) CA cn cd xs) := HL7.out.tr htr
    have HY8 := Lib.hid hbl
    clear hbl htr HNX HBW HS HT0 hgl hk0 hk00 y0 y1 y2 y3 y4 y5 HL7 hii hiz hin hb1
    generalize nextI m J = J8 at *
    generalize wc = W8 at *
    have HNE : Hid (gy ≠ gs) := bl_inj HY8.out HL8.out.src (by decide)
    have HNX : Hid (∀ (k : Int) wx, TrE gs A1 m c1 W8 wx → 0 < k → k ≤ 5000 → Calls Tryz.prog 10 #[.pointer (some ⟨gs, 0, none⟩), .int .i64 k] wx fun e w' => ∃ v : Int, e = .returned (.int .i64 v) ∧ (0 ≤ v ∧ v < k) ∧ Only gs wx w' ∧ TrE gs A1 m c1 W8 w') := fun k wx ht h1 h2 => by
      obtain ⟨J', ht⟩ := ht
      exact (next_any gs A1 m c1 J' (xs1.take m) k W1 wx ht.src HI1.out (ht.under HL8.out.below HL8.out.below.size HL8.out.base) HL8.out.base (by omega) h1 (by omega)).mono fun e w' ⟨h3, h4, h5⟩ => ⟨_, h3, nextV_bounds (xs1.take m) m J' k h1, h4, _, ht.only h4 h5⟩
    have HN2 : Hid (∀ wx, TrE gs A1 m c1 W8 wx → Calls Tryz.prog 10 #[.pointer (some ⟨gs, 0, none⟩), .int .i64 2] wx fun e w' => ∃ v : Int, e = .returned (.int .i64 v) ∧ (0 ≤ v ∧ v < 2) ∧ Only gs wx w' ∧ TrE gs A1 m c1 W8 w') := fun wx ht => HNX.out 2 wx ht (by decide) (by decide)
    have HN5 : Hid (∀ wx, TrE gs A1 m c1 W8 wx → Calls Tryz.prog 10 #[.pointer (some ⟨gs, 0, none⟩), .int .i64 5000] wx fun e w' => ∃ v : Int, e = .returned (.int .i64 v) ∧ (0 ≤ v ∧ v < 5000) ∧ Only gs wx w' ∧ TrE gs A1 m c1 W8 w') := fun wx ht => HNX.out 5000 wx ht (by decide) (by decide)
    have HS : Hid (∀ wx, TrE gs A1 m c1 W8 wx → (wx.cell? ⟨gy, 0, none⟩ = some (.int .i64 y.x.id) ∧ wx.cell? ⟨gy, 2, none⟩ = some (.int .i64 y.x.qty) ∧ wx.cell? ⟨gy, 4, none⟩ = some (.slice y.A y.n y.c) ∧ TrE gs A1 m c1 W8 wx)) := fun wx ht => by
      obtain ⟨J', ht'⟩ := ht
      have hk := ht'.kp.bl HY8.out HNE.out
      exact ⟨hk.cell 0, hk.cell 2, hk.cell 4, J', ht'⟩
    have hk00 : Hid (TrE gs A1 m c1 W8 W8) := ⟨_, TrS.start HL8.out.src⟩
    have hk0 : Hid (TrE gs A1 m c1 W8 W8.drew) := TrE.drew hk00.out
    have hgl : gs < W8.heap.size := HL8.out.src.lt
    have y0 := (HS.out _ hk00.out).1
    have y2 := (HS.out _ hk00.out).2.1
    have y4 := (HS.out _ hk00.out).2.2.1
    clear HNX
    go_upto_region 8 with (fail)
    go_cut [10] from 57 to 105 (fun v wx => ∃ (g : Nat) (v2 v5 : Int), v = .pointer (some ⟨g, 0, none⟩) ∧ (0 ≤ v2 ∧ v2 < 2) ∧ (0 ≤ v5 ∧ v5 < 5000) ∧ Bl wx g 39 #[.int .i64 (q : Int), .int .i64 y.x.id, .int .i64 (1 + v2), .int .i64 y.x.qty, .int .i64 v5, .slice y.A y.n y.c] ∧ TrE gs A1 m c1 W8 wx)
    case first =>
      go_region_held3 (fun wx => wx.cell? ⟨gy, 0, none⟩ = some (.int .i64 y.x.id) ∧ wx.cell? ⟨gy, 2, none⟩ = some (.int .i64 y.x.qty) ∧ wx.cell? ⟨gy, 4, none⟩ = some (.slice y.A y.n y.c) ∧ TrE gs A1 m c1 W8 wx)
        (first
          | with_reducible exact HS.out _ hkb.out
          | with_reducible exact HS.out _ (TrE.alloc hkb.out _)
          | with_reducible exact HS.out _ hka.out
          | with_reducible exact HS.out _ (TrE.alloc hka.out _)
          | with_reducible exact HS.out _ hk0.out
          | with_reducible exact HS.out _ hk00.out
          | with_reducible exact HS.out _ (TrE.drew (TrE.alloc hk00.out _))
          | with_reducible exact HS.out _ (TrE.set6 hkb.out hgg.out.1 hgg.out.2 _ _ _ _ _ _))
        (first
          | (go_at_call 10; with_reducible (refine (HN2.out _ hka.out).mono ?_); rintro e wb ⟨v2, rfl, hv2, hob, htb⟩; have hkb := Lib.hid htb; have u2 : IntKind.i64.wrap (1 + v2) = 1 + v2 := IntWalk.i64_in _ (by omega); have hbb := Lib.hid (Only.bl hob hba.out (Ne.symm hga.out.2)); have hgg := hga; obtain ⟨⟨xb0, xb1, xb2, xb3, xb4, xb5⟩, ⟨fb0, fb1, fb2, fb3, fb4, fb5⟩⟩ := bl6 hbb.out)
          | (go_at_call 10; with_reducible (refine (HN2.out _ hka.out).mono ?_); rintro e wb ⟨v2, rfl, hv2, hob, htb⟩; have hkb := Lib.hid htb; have u2 : IntKind.i64.wrap (1 + v2) = 1 + v2 := IntWalk.i64_in _ (by omega))
          | (go_at_call 10; with_reducible (refine (HN2.out _ (TrE.alloc hka.out _)).mono ?_); rintro e wb ⟨v2, rfl, hv2, hob, htb⟩; have hkb := Lib.hid htb; have u2 : IntKind.i64.wrap (1 + v2) = 1 + v2 := IntWalk.i64_in _ (by omega); have hbb := Lib.hid (Only.fresh hob (Nat.lt_of_lt_of_le hgl (TrE.size hka.out))); have hgg := Lib.hid (And.intro (TrE.size hka.out) (Nat.ne_of_lt (Nat.lt_of_lt_of_le hgl (TrE.size hka.out)))); obtain ⟨⟨xb0, xb1, xb2, xb3, xb4, xb5⟩, ⟨fb0, fb1, fb2, fb3, fb4, fb5⟩⟩ := bl6 hbb.out)
          | (go_at_call 10; with_reducible (refine (HN5.out _ hka.out).mono ?_); rintro e wb ⟨v5, rfl, hv5, hob, htb⟩; have hkb := Lib.hid htb; have hbb := Lib.hid (Only.bl hob hba.out (Ne.symm hga.out.2)); have hgg := hga; obtain ⟨⟨xb0, xb1, xb2, xb3, xb4, xb5⟩, ⟨fb0, fb1, fb2, fb3, fb4, fb5⟩⟩ := bl6 hbb.out)
          | (go_at_call 10; with_reducible (refine (HN5.out _ hka.out).mono ?_); rintro e wb ⟨v5, rfl, hv5, hob, htb⟩; have hkb := Lib.hid htb)
          | (go_at_call 10; with_reducible (refine (HN5.out _ (TrE.alloc hka.out _)).mono ?_); rintro e wb ⟨v5, rfl, hv5, hob, htb⟩; have hkb := Lib.hid htb; have hbb := Lib.hid (Only.fresh hob (Nat.lt_of_lt_of_le hgl (TrE.size hka.out))); have hgg := Lib.hid (And.intro (TrE.size hka.out) (Nat.ne_of_lt (Nat.lt_of_lt_of_le hgl (TrE.size hka.out)))); obtain ⟨⟨xb0, xb1, xb2, xb3, xb4, xb5⟩, ⟨fb0, fb1, fb2, fb3, fb4, fb5⟩⟩ := bl6 hbb.out)
          | (go_at_call 10; with_reducible (refine (HN2.out _ hk0.out).mono ?_); rintro e wa ⟨v2, rfl, hv2, hoa, hta⟩; have hka := Lib.hid hta; have u2 : IntKind.i64.wrap (1 + v2) = 1 + v2 := IntWalk.i64_in _ (by omega))
          | (go_at_call 10; (refine (HN2.out _ (TrE.drew (TrE.alloc hk00.out _))).mono ?_); rintro e wa ⟨v2, rfl, hv2, hoa, hta⟩; have hka := Lib.hid hta; have u2 : IntKind.i64.wrap (1 + v2) = 1 + v2 := IntWalk.i64_in _ (by omega); have hba := Lib.hid (Only.freshd hoa hgl); have hga := Lib.hid (And.intro (Nat.le_refl W8.heap.size) (Nat.ne_of_lt hgl)))
          | (go_at_call 10; with_reducible (refine (HN5.out _ hk0.out).mono ?_); rintro e wa ⟨v5, rfl, hv5, hoa, hta⟩; have hka := Lib.hid hta)
          | (go_at_call 10; (refine (HN5.out _ (TrE.drew (TrE.alloc hk00.out _))).mono ?_); rintro e wa ⟨v5, rfl, hv5, hoa, hta⟩; have hka := Lib.hid hta; have hba := Lib.hid (Only.freshd hoa hgl); have hga := Lib.hid (And.intro (Nat.le_refl W8.heap.size) (Nat.ne_of_lt hgl))))
      all_goals
        (go_wp2_with fail
         go_meet
         first
          | exact ⟨_, _, _, rfl, hv2, hv5, set6_bl hbb.out _ _ _ _ _ _, TrE.set6 hkb.out hgg.out.1 hgg.out.2 _ _ _ _ _ _⟩
          | exact ⟨_, _, _, rfl, hv2, hv5, Bl.new _ _ _, TrE.alloc hkb.out _⟩)
    case rest =>
    obtain ⟨gc, v2, v5, rfl, hv2, hv5, hbl, J9, htr⟩ := hcut
    have HL9 : Hid (LpW W1 wc gs A1 m c1 J9 CA cn cd xs) := HL8.out.tr htr
    have HC9 := Lib.hid hbl
    have HSY9 : Hid (SlAt wc y.A y.n y.x.sl) := HSY.out.1.below HL9.out.below
    have hyc := HSY.out.2
    have HCK : Hid (clOk ⟨(q : Int), y.x.id, 1 + v2, y.x.qty, v5, y.x.sl⟩ = true) := clOk_lot (HOK.out.st.lots y.x HYM.out) (HOK.out.st.apart HYM.out) (by omega) (by omega) (by omega) (by omega) (by omega)
    clear hbl htr HN2 HN5 HS hk00 hk0 hgl y0 y2 y4 HY8 HL8 HNE
    generalize wc = W9 at *
    obtain ⟨X, hX⟩ : ∃ X : Clm, X = ⟨(q : Int), y.x.id, 1 + v2, y.x.qty, v5, y.x.sl⟩ := ⟨_, rfl⟩
    have HX : Hid (X = ⟨(q : Int), y.x.id, 1 + v2, y.x.qty, v5, y.x.sl⟩) := hX
    rw [← hX] at HCK
    clear hX
    have HYS : Hid (X.sl = y.x.sl) := by show _ = _; rw [HX.out]
    go_wp2_with fail
    go_loopw [11, 12] (fun b v wx => ∃ i : Nat, v = .int .i64 (i : Int) ∧ b = .bool (metB (clms xs) X.sl i) ∧ i ≤ cn ∧ Hid (RowKit.Below W9.heap.size W9 wx)) (fun _ v _ => cn - (intOf v).toNat)
    case atStart => exact ⟨0, rfl, rfl, Nat.zero_le _, Below.refl _ _⟩
    case round =>
      obtain ⟨i, rfl, rfl, hi, HB⟩ := hrel
      have hcl : xs.length = cn := HL9.out.cl.len
      by_cases hlt : i < cn
      case pos =>
        have dk : decide ((i : Int) < (cn : Int)) = true := by simp; omega
        have HSU : Hid (metB (clms xs) X.sl (i + 1) = (metB (clms xs) X.sl i || decide (MeetsL (clms xs)[i]!.sl X.sl))) := metB_succ (by rw [clms_len]; omega)
        obtain ⟨b1, o1, rfl, hb1, ha⟩ := recs_at (HL9.out.cl.at_.below HB.out).cls.recs hlt
        obtain ⟨z, hz⟩ : ∃ z, xs[i]! = z := ⟨_, rfl⟩
        rw [hz] at ha
        rw [clms_get (by omega), hz] at HSU
        have hmem : z ∈ xs := by rw [← hz]; exact get_memK (by omega)
        have HSZ : Hid (SlAt W9 z.A z.n z.x.sl ∧ z.n ≤ z.c ∧ z.c ≤ 9223372036854775807) := HL9.out.cl.at_.sls z hmem
        have a5 : wr.cell? ⟨b1, o1 + i * 6 + 5, none⟩ = some (.slice z.A z.n z.c) := ha.out 5 (by omega)
        have c5 : wr.cell? ⟨gc, 5, none⟩ = some (.slice y.A y.n y.c) := (HC9.out.keep HB.out).cell 5
        have HMT : Hid (∀ wx, RowKit.Below W9.heap.size W9 wx → Calls Tryz.prog 11 #[.slice z.A z.n z.c, .slice y.A y.n y.c] wx fun e w' => e = .returned (.bool (decide (MeetsL z.x.sl X.sl))) ∧ RowKit.Below wx.heap.size wx w') := fun wx hb => by
          rw [HYS.out]
          exact Meet_any z.A z.n z.c z.x.sl y.A y.n y.c y.x.sl wx (HSZ.out.1.recs.below hb) (HSY9.out.recs.below hb) (by have := HSZ.out.2; omega) (by omega)
        have hii : (i : Int) < (cn : Int) := by omega
        have hiz : (0 : Int) ≤ (i : Int) := by omega
        clear ha hz hmem
        go_upto_region 13 with (fail)
        generalize metB (clms xs) X.sl i = mb at *
        generalize decide (MeetsL z.x.sl X.sl) = mm at *
        cases mb
        case true =>
          clear HMT a5 c5
          have HE : Hid (metB (clms xs) X.sl (i + 1) = true) := by show _ = _; rw [HSU.out]; rfl
          go_quiet (fail)
          have HB2 : Hid (RowKit.Below W9.heap.size W9 (wr.drewN nq)) := below_drewN HB.out nq
          go_wp2_with fail
          go_roundw
          case rel => exact ⟨i + 1, by go_num, by rw [HE.out], by omega, HB2⟩
          case measure => simp [intOf]; omega
        case false =>
          have HE : Hid (metB (clms xs) X.sl (i + 1) = mm) := by show _ = _; rw [HSU.out]; rfl
          have HS : Hid (∀ wx, RowKit.Below wr.heap.size wr wx → (wx.cell? ⟨b1, o1 + i * 6 + 5, none⟩ = some (.slice z.A z.n z.c) ∧ wx.cell? ⟨gc, 5, none⟩ = some (.slice y.A y.n y.c) ∧ RowKit.Below wr.heap.size wr wx)) := fun wx hb => ⟨(hb.cell (p := ⟨b1, o1 + i * 6 + 5, none⟩) (Nat.lt_of_lt_of_le hb1 (Nat.le_refl _))).trans a5, (hb.cell (p := ⟨gc, 5, none⟩) (Nat.lt_of_lt_of_le HC9.out.lt HB.out.size)).trans c5, hb⟩
          have hk0 : Hid (RowKit.Below wr.heap.size wr wr.drew) := (Below.refl _ _).drew
          have hk00 : Hid (RowKit.Below wr.heap.size wr wr) := Below.refl _ _
          go_region_held3 (fun wx => wx.cell? ⟨b1, o1 + i * 6 + 5, none⟩ = some (.slice z.A z.n z.c) ∧ wx.cell? ⟨gc, 5, none⟩ = some (.slice y.A y.n y.c) ∧ RowKit.Below wr.heap.size wr wx)
            (first
              | with_reducible exact HS.out _ hka.out
              | with_reducible exact HS.out _ hk0.out
              | with_reducible exact HS.out _ hk00.out)
            (first
              | (go_at_call 11; with_reducible (refine (HMT.out _ (HB.out.trans (hk0.out.mono HB.out.size))).mono ?_); rintro e wa ⟨rfl, hba⟩; have hka := Lib.hid (hk0.out.trans (hba.mono hk0.out.size))))
          all_goals
            have HB2 : Hid (RowKit.Below W9.heap.size W9 wa) := HB.out.trans (hka.out.mono HB.out.size)
            go_wp2_with fail
            go_roundw
            case rel => exact ⟨i + 1, by go_num, by rw [HE.out], by omega, HB2⟩
            case measure => simp [intOf]; omega
      case neg =>
      have dk : decide ((i : Int) < (cn : Int)) = false := by simp; omega
      have HM := Lib.hid (metB_all (cs := clms xs) (ys := X.sl) (i := i) (by rw [clms_len]; omega))
      have HLr : Hid (LpW W1 wr gs A1 m c1 J9 CA cn cd xs) := HL9.out.under HB.out
      have HCr : Hid (Bl wr gc 39 #[.int .i64 (q : Int), .int .i64 y.x.id, .int .i64 (1 + v2), .int .i64 y.x.qty, .int .i64 v5, .slice y.A y.n y.c]) := (HB.out.block gc HC9.out.lt).trans HC9.out
      have HLO : Hid (Calls Tryz.prog 12 #[.slice CA cn cd, .agg #[.int .i64 (q : Int), .int .i64 y.x.id, .int .i64 (1 + v2), .int .i64 y.x.qty, .int .i64 v5, .slice y.A y.n y.c]] wr (LdgRes wr cn (clms xs) X)) := by
        have := Lodge_any CA cn cd xs X y.A y.n y.c wr HLr.out.cl.at_ HCO.out (by omega) HCK.out (by rw [HYS.out]; exact HSY9.out.below HB.out) hyc (fun b hb => by rw [HX.out]; exact HNU.out b hb)
        rw [HX.out] at this ⊢
        exact this
      have x0 : wr.cell? ⟨gc, 0, none⟩ = some (.int .i64 (q : Int)) := HCr.out.cell 0
      have x1 : wr.cell? ⟨gc, 1, none⟩ = some (.int .i64 y.x.id) := HCr.out.cell 1
      have x2 : wr.cell? ⟨gc, 2, none⟩ = some (.int .i64 (1 + v2)) := HCr.out.cell 2
      have x3 : wr.cell? ⟨gc, 3, none⟩ = some (.int .i64 y.x.qty) := HCr.out.cell 3
      have x4 : wr.cell? ⟨gc, 4, none⟩ = some (.int .i64 v5) := HCr.out.cell 4
      have x5 : wr.cell? ⟨gc, 5, none⟩ = some (.slice y.A y.n y.c) := HCr.out.cell 5
      clear HL9 HC9 HSY9 HB HSY
      generalize metB (clms xs) X.sl i = mb at *
      have u1 : IntKind.i64.wrap ((cn : Int) + 1) = (cn : Int) + 1 := IntWalk.i64_in _ (by omega)
      have u2 : IntKind.i64.wrap ((q : Int) + 1) = (q : Int) + 1 := IntWalk.i64_in _ (by omega)
      go_wp2_with fail
      refine HLO.out.mono ?_
      rintro e w2 ⟨hno, hyes, hb2⟩
      have HL2 : Hid (LpW W1 w2 gs A1 m c1 J9 CA cn cd xs) := HLr.out.under hb2
      have HMO := Lib.hid (HCO.out.more HCK.out)
      clear x0 x1 x2 x3 x4 x5 HLO HCr
      by_cases hap : Apart (clSl (clms xs ++ [X]))
      case pos =>
        have hmb : mb = false := by
          cases mb
          · rfl
          · exact absurd (HM.out.1 rfl) (HMO.out.1 hap)
        subst hmb
        obtain ⟨B2, d2, xs2, rfl, ho2, hm2⟩ := hyes hap
        have HO2 : Hid (LpW W1 w2 gs A1 m c1 J9 B2 (cn + 1) d2 xs2) := ⟨HL2.out.src, ClOwn.mono ho2 HLr.out.below.size, HL2.out.below, HL2.out.base⟩
        have HC2 : Hid (ClsOk (clms xs2)) := by
          rw [hm2]
          exact HCO.out.add HCK.out (by rw [clms_len]; have := HLr.out.cl.len; omega) (fun x hx => by
            obtain ⟨b, hb, rfl⟩ := List.mem_map.1 hx
            rw [HX.out]
            exact HNU.out b hb) hap
        have HN2 : Hid (∀ b ∈ xs2, b.x.num < ((q + 1 : Nat) : Int)) := fun b hb => by
          have h3 : b.x ∈ clms xs2 := List.mem_map.2 ⟨b, hb, rfl⟩
          rw [hm2] at h3
          rcases List.mem_append.1 h3 with h3 | h3
          · obtain ⟨b', hb', e⟩ := List.mem_map.1 h3
            have := HNU.out b' hb'
            rw [← e]
            omega
          · rw [List.mem_singleton] at h3
            rw [h3, HX.out]
            show (q : Int) < _
            omega
        have HVD := Lib.hid (Validate29_ok B2 (cn + 1) d2 xs2 w2 HO2.out.cl.at_ HC2.out)
        clear hno hyes hb2 ho2 hm2 hap HL2 HMO HM HLr
        go_wp2_with fail
        refine HVD.out.mono ?_
        rintro e w3 ⟨rfl, hb3⟩
        have HO3 : Hid (LpW W1 w3 gs A1 m c1 J9 B2 (cn + 1) d2 xs2) := HO2.out.under hb3
        clear hb3 HVD
        go_wp2_with fail
        go_roundw
        case rel => exact ⟨q + 1, B2, cn + 1, d2, xs2, J9, rfl, by go_num, by omega, by omega, by omega, HO3, HC2, HN2⟩
        case measure => simp [intOf]; omega
      case neg =>
        have hmb : mb = true := by
          cases mb
          · exact absurd (HMO.out.2 (fun h => by have := HM.out.2 h; cases this)) hap
          · rfl
        subst hmb
        obtain rfl := hno hap
        have HN2 : Hid (∀ b ∈ xs, b.x.num < ((q + 1 : Nat) : Int)) := fun b hb => by
          have := HNU.out b hb
          omega
        have HVD := Lib.hid (Validate29_ok CA cn cd xs w2 HL2.out.cl.at_ HCO.out)
        clear hno hyes hb2 hap HMO HM HLr
        go_wp2_with fail
        refine HVD.out.mono ?_
        rintro e w3 ⟨rfl, hb3⟩
        have HO3 : Hid (LpW W1 w3 gs A1 m c1 J9 CA cn cd xs) := HL2.out.under hb3
        clear hb3 HVD
        go_wp2_with fail
        go_roundw
        case rel => exact ⟨q + 1, CA, cn, cd, xs, J9, rfl, by go_num, by omega, by omega, by omega, HO3, HCO, HN2⟩
        case measure => simp [intOf]; omega
end Go.Proofs.YthnhgjhnkncmiaaGreat

/-
  The law DrawbackNever returns true. No conditions beyond the row's own.
-/
import Derived.Test.YthnhgjhnkncmiaaGreatMAN
import Derived.Test.YthnhgjhnkncmiaaGreatMAW
namespace Go.Proofs.YthnhgjhnkncmiaaGreat
open Go.RowKit
set_option linter.unusedVariables false

/-- A claim for a lot of an estate is payable; what is paid is at most what its units have borne. -/
theorem payE_clm {s : List Lt} {cs d p : List Ch} {free : Int} {i j : Nat} {c : Clm} (he : EstOk s cs free) (hd : Charged cs d) (hp : Charged cs p) (hf : free ≤ 1000001) (hl : cs.length ≤ 64) (h : ClmOf s i c) (hc : clOk c = true) :
    (payE c d (p.drop j)).2 = 0 ∧ 0 ≤ (payE c d (p.drop j)).1 ∧ (payE c d (p.drop j)).1 ≤ uSumG (gU d (p.drop j)) (unitsOf c.sl) := by
  obtain ⟨k, _, hk, e1, e2, e3⟩ := h.lot
  have hx : s[k]! ∈ s := get_memK hk
  have h3 := borneE_est (k := j) he hd hp hf hl hx
  rw [← e3] at h3
  have h4 : 0 ≤ uSumG (gU d (p.drop j)) (unitsOf c.sl) := uSumG_nonneg fun u _ => gU_nonneg (hd.ok he hf hl).ok ((hp.ok he hf hl).drop j).ok u
  have h5 := clOk_yes hc
  have h6 : 0 ≤ c.qty * c.rate := Int.mul_nonneg (by omega) (by omega)
  have h7 : payE c d (p.drop j) = (if c.sch = 2 then min (uSumG (gU d (p.drop j)) (unitsOf c.sl)) (c.qty * c.rate / 1000) else uSumG (gU d (p.drop j)) (unitsOf c.sl), 0) := by
    unfold payE
    rw [if_pos hc]
    simp only [h3]
    rw [if_pos trivial]
  rw [h7]
  refine ⟨rfl, ?_⟩
  generalize uSumG (gU d (p.drop j)) (unitsOf c.sl) = S at *
  generalize c.qty * c.rate = r at *
  show 0 ≤ (if c.sch = 2 then min S (r / 1000) else S) ∧ (if c.sch = 2 then min S (r / 1000) else S) ≤ S
  split <;> omega
/-- What has been paid for the first claims. -/
def psum (d p : List Ch) (cs : List Clm) (i : Nat) : Int := ((cs.take i).map fun c => (payE c d p).1).sum
theorem psum_succ {d p : List Ch} {cs : List Clm} {i : Nat} (h : i < cs.length) : psum d p cs (i + 1) = psum d p cs i + (payE cs[i]! d p).1 := by
  unfold psum
  rw [List.take_succ_eq_append_getElem h, List.map_append, List.sum_append, getElem!_pos cs i h]
  simp
theorem psum_le {d p : List Ch} (cs : List Clm) (h : ∀ c ∈ cs, 0 ≤ (payE c d p).1 ∧ (payE c d p).1 ≤ uSumG (gU d p) (unitsOf c.sl)) : 0 ≤ (cs.map fun c => (payE c d p).1).sum ∧ (cs.map fun c => (payE c d p).1).sum ≤ uSumG (gU d p) (unitsOf (clSl cs)) := by
  induction cs with
  | nil => simp [clSl, unitsOf, uSumG]
  | cons c r ih =>
    have h1 := h c (by simp)
    have h2 := ih fun x hx => h x (by simp [hx])
    have e : unitsOf (clSl (c :: r)) = unitsOf c.sl ++ unitsOf (clSl r) := by simp [clSl, unitsOf]
    rw [e, uSumG_append, List.map_cons, List.sum_cons]
    omega
/-- What the first sources have borne. -/
def bsum (d p : List Ch) (i : Nat) : Int := ((d.take i).map fun c => amtC c (findC p c.src)).sum
theorem bsum_succ {d p : List Ch} {i : Nat} (h : i < d.length) : bsum d p (i + 1) = bsum d p i + amtC d[i]! (findC p d[i]!.src) := by
  unfold bsum
  rw [List.take_succ_eq_append_getElem h, List.map_append, List.sum_append, getElem!_pos d i h]
  simp
theorem bsum_all {d p : List Ch} {i : Nat} (h : d.length ≤ i) : bsum d p i = totC d p := by
  unfold bsum totC
  rw [List.take_of_length_le h]
theorem bsum_bounds {d p : List Ch} (hd : ChsOk d) (hp : ChsOk p) (i : Nat) : 0 ≤ bsum d p i ∧ bsum d p i ≤ (i : Int) * 1000000000000 := by
  have key : ∀ l : List Ch, (∀ c ∈ l, c ∈ d) → 0 ≤ (l.map fun c => amtC c (findC p c.src)).sum ∧ (l.map fun c => amtC c (findC p c.src)).sum ≤ (l.length : Int) * 1000000000000 := by
    intro l
    induction l with
    | nil => intro _; simp
    | cons c r ih =>
      intro hl
      have h1 := chOk_yes (hd.ok c (hl c (by simp)))
      have h2 := amtC_nonneg (c := c) (s := c.src) h1.2.2.2.2.1 hp.ok
      have h3 : amtC c (findC p c.src) ≤ c.am := by unfold amtC; omega
      have h4 := ih fun x hx => hl x (by simp [hx])
      rw [List.map_cons, List.sum_cons, List.length_cons]
      omega
  have h := key (d.take i) fun c hc => List.mem_of_mem_take hc
  have hl : (d.take i).length ≤ i := by rw [List.length_take]; omega
  unfold bsum
  refine ⟨h.1, ?_⟩
  have : ((d.take i).length : Int) ≤ (i : Int) := by omega
  omega
theorem slOk_clSl {cs : List Clm} (h : ClsOk cs) : SlsOk (clSl cs) := clSl_ok h.ok
set_option maxRecDepth 100000 in
set_option maxHeartbeats 32000000 in
theorem drawbackNever_any (A0 : Option Addr) (n0 c0 : Nat) (xs0 : List Int) (A1 : Option Addr) (n1 c1 : Nat) (xs1 : List Int) (A2 : Option Addr) (n2 c2 : Nat) (xs2 : List Int) (A3 : Option Addr) (n3 c3 : Nat) (xs3 : List Int) (w : World) (h0 : Ints w A0 n0 xs0) (hnc0 : n0 ≤ c0) (hcm0 : c0 ≤ 9223372036854775807) (h1 : Ints w A1 n1 xs1) (hnc1 : n1 ≤ c1) (hcm1 : c1 ≤ 9223372036854775807) (h2 : Ints w A2 n2 xs2) (hnc2 : n2 ≤ c2) (hcm2 : c2 ≤ 9223372036854775807) (h3 : Ints w A3 n3 xs3) (hnc3 : n3 ≤ c3) (hcm3 : c3 ≤ 9223372036854775807) :
    Calls Tryz.prog 6 #[.slice A0 n0 c0, .slice A1 n1 c1, .slice A2 n2 c2, .slice A3 n3 c3] w (BRes w true) := by
  have HAW := Lib.hid awake29_any
  have HMK := Lib.hid (Make_any A0 n0 c0 xs0 w h0 hnc0 hcm0)
  have HI1 := Lib.hid h1
  have HI2 := Lib.hid h2
  have HI3 := Lib.hid h3
  have hn1 : n1 ≤ 9223372036854775807 := by omega
  have hn2 : n2 ≤ 9223372036854775807 := by omega
  clear h0 h1 h2 h3 hnc0 hcm0 hnc1 hcm1 hnc2 hcm2
  go_enter Tryz.func6, Tryz.ntmps6
  go_wp2_with fail
  refine HMK.out.mono ?_
  rintro e w1 ⟨SA, sn, sc, bs, B, k, d0, cs, free, rfl, hM, hb1⟩
  have HM : Hid (Made w (w1.alloc (.cells #[.slice SA sn sc, .slice B k d0, .int .i64 free] 26)) SA sn sc bs B k d0 cs free) := ⟨hM.st.below ((Below.refl _ _).alloc (Nat.le_refl _) _), own_alloc hM.own _, hM.kl, hM.few, hM.ok, hM.free⟩
  have HB1 : Hid (RowKit.Below w.heap.size w (w1.alloc (.cells #[.slice SA sn sc, .slice B k d0, .int .i64 free] 26))) := hb1.alloc hb1.size _
  have HX1 : Hid (Bl (w1.alloc (.cells #[.slice SA sn sc, .slice B k d0, .int .i64 free] 26)) w1.heap.size 26 #[.slice SA sn sc, .slice B k d0, .int .i64 free]) := Bl.new _ _ _
  clear hM hb1 HMK
  go_upto_region 2 with (fail)
  generalize w1.alloc (.cells #[.slice SA sn sc, .slice B k d0, .int .i64 free] 26) = W1 at *
  generalize w1.heap.size = gx at *
  have z0 : W1.cell? ⟨gx, 0, none⟩ = some (.slice SA sn sc) := HX1.out.cell 0
  have z1 : W1.cell? ⟨gx, 1, none⟩ = some (.slice B k d0) := HX1.out.cell 1
  have z2 : W1.cell? ⟨gx, 2, none⟩ = some (.int .i64 free) := HX1.out.cell 2
  have HCH := Lib.hid (charges_any SA sn sc B k d0 free cs A1 n1 c1 xs1 A2 n2 c2 xs2 W1 (Recs.of_own encCh_len HM.out.own HM.out.kl) HM.out.few (HI1.out.below HB1.out) hn1 (HI2.out.below HB1.out) hn2)
  go_wp2_with fail
  refine HCH.out.mono ?_
  rintro e W2 ⟨DA, dn, dc, PA, pn, pc, d, p, j, rfl, HDA, HPA, hcd, hcp, hj, hb2⟩
  have HB2 : Hid (RowKit.Below w.heap.size w W2) := HB1.out.trans (hb2.mono HB1.out.size)
  have HST : Hid (StM W2 SA sn sc bs) := HM.out.st.below hb2
  have HX2 : Hid (Bl W2 gx 26 #[.slice SA sn sc, .slice B k d0, .int .i64 free]) := (hb2.block gx HX1.out.lt).trans HX1.out
  have HCD := Lib.hid hcd
  have HCP := Lib.hid hcp
  have HOK : Hid (EstOk (lotsOf bs) cs free ∧ free ≤ 1000001 ∧ cs.length ≤ 64) := ⟨HM.out.ok, HM.out.free, by rw [HM.out.kl]; exact HM.out.few⟩
  clear hb2 hcd hcp HM HB1 HX1 HCH z0 z1 z2 HI1 HI2
  have z0 : W2.cell? ⟨gx, 0, none⟩ = some (.slice SA sn sc) := HX2.out.cell 0
  have z1 : W2.cell? ⟨gx, 1, none⟩ = some (.slice B k d0) := HX2.out.cell 1
  have z2 : W2.cell? ⟨gx, 2, none⟩ = some (.int .i64 free) := HX2.out.cell 2
  have HDC := Lib.hid (DrawbackClaims_any SA sn sc bs B k d0 cs free A3 n3 c3 xs3 W2 HST.out HOK.out.1 (HI3.out.below HB2.out) hnc3 hcm3)
  go_wp2_with fail
  refine HDC.out.mono ?_
  rintro e W3 ⟨CA, cn, cd, xs, rfl, hcd, hcl, hco, hcf, hb3, _⟩
  have HB3 : Hid (RowKit.Below w.heap.size w W3) := HB2.out.trans (hb3.mono HB2.out.size)
  have HDA3 : Hid (ChAt W3 DA dn d) := HDA.out.1.below hb3
  have HPA3 : Hid (ChAt W3 PA pn (p.drop j)) := HPA.out.1.below hb3
  have HCL := Lib.hid hcl
  have HCO := Lib.hid hco
  obtain ⟨pd, hpd⟩ : ∃ pd, p.drop j = pd := ⟨_, rfl⟩
  have HDK : Hid (ChsOk d) := HCD.out.ok HOK.out.1 HOK.out.2.1 HOK.out.2.2
  have HPK : Hid (ChsOk pd) := by show ChsOk _; rw [← hpd]; exact (HCP.out.ok HOK.out.1 HOK.out.2.1 HOK.out.2.2).drop j
  have HPE : Hid (∀ c ∈ clms xs, (payE c d pd).2 = 0 ∧ 0 ≤ (payE c d pd).1 ∧ (payE c d pd).1 ≤ uSumG (gU d pd) (unitsOf c.sl)) := fun c hc => by
    obtain ⟨b, hb, rfl⟩ := List.mem_map.1 hc
    rw [← hpd]
    exact payE_clm HOK.out.1 HCD.out HCP.out HOK.out.2.1 HOK.out.2.2 (hcf b hb) (hco.ok _ hc)
  have HTOT : Hid (uSumG (gU d pd) (unitsOf (clSl (clms xs))) ≤ totC d pd) := by
    refine borne_le HDK.out HPK.out (slOk_clSl hco) ((apart_units (fun x hx => by have := slOk_yes (slOk_clSl hco x hx); omega)).1 hco.apart) (fun x hx => ?_)
    unfold clSl at hx
    rw [List.mem_flatten] at hx
    obtain ⟨l, hl, hx⟩ := hx
    obtain ⟨c, hc, rfl⟩ := List.mem_map.1 hl
    obtain ⟨b, hb, rfl⟩ := List.mem_map.1 hc
    obtain ⟨q, _, hq, _, _, e3⟩ := (hcf b hb).lot
    rw [e3] at hx
    rw [← hpd]
    exact porE_est HOK.out.1 HCD.out HCP.out HOK.out.2.1 HOK.out.2.2 (get_memK hq) hx
  have HLN : Hid (xs.length = cn ∧ d.length = dn ∧ cn ≤ 64 ∧ dn ≤ 64 ∧ pd.length = pn ∧ pn ≤ 64) := ⟨hcl.cls.recs.1, HDA3.out.recs.1, by have := hco.few; rw [clms_len] at this; have := hcl.cls.recs.1; omega, by have := HDK.out.few; have := HDA3.out.recs.1; omega, by rw [← hpd]; exact HPA3.out.recs.1, by have h1 := HPK.out.few; have h2 := HPA3.out.recs.1; rw [hpd] at h2; omega⟩
  rw [hpd] at HPA3
  clear hb3 hcl hco hcf HDA HPA HCD HCP HOK HST HX2 HDC HB2 z0 z1 z2 HI3 hpd hcd
  have HPO := Lib.hid (Payouts_ok CA cn cd xs DA PA dn dc pn pc d pd W3 HCL.out HCO.out HDA3.out.recs HPA3.out.recs)
  go_wp2_with fail
  refine HPO.out.mono ?_
  rintro e W4 ⟨hpz, _, hb4⟩
  obtain ⟨QB, qk, rfl, hq⟩ := hpz (poErr_zero fun c hc => (HPE.out c hc).1)
  have HB4 : Hid (RowKit.Below w.heap.size w W4) := HB3.out.trans (hb4.mono HB3.out.size)
  have HQ := Lib.hid hq
  have HCL4 : Hid (ClAt W4 CA cn xs) := HCL.out.below hb4
  have HDA4 : Hid (Recs encCh 3 W4 DA dn d) := HDA3.out.recs.below hb4
  have HPA4 : Hid (Recs encCh 3 W4 PA pn pd) := HPA3.out.recs.below hb4
  clear hpz hb4 hq HPO HB3 HCL HDA3 HPA3
  -- sums
  have HPS : Hid (∀ i, 0 ≤ psum d pd (clms xs) i ∧ psum d pd (clms xs) i ≤ 64000000000000000 ∧ (cn ≤ i → psum d pd (clms xs) i ≤ totC d pd)) := fun i => by
    have h1 := psum_le (d := d) (p := pd) ((clms xs).take i) fun c hc => (HPE.out c (List.mem_of_mem_take hc)).2
    have h2 : ∀ l : List Clm, (∀ c ∈ l, c ∈ clms xs) → (l.map fun c => (payE c d pd).1).sum ≤ (l.length : Int) * 1000000000000000 := by
      intro l
      induction l with
      | nil => intro _; simp
      | cons c r ih =>
        intro hl
        have h3 := ih fun x hx => hl x (by simp [hx])
        have h4 := HPE.out c (hl c (by simp))
        have h5 : uSumG (gU d pd) (unitsOf c.sl) ≤ totC d pd := by
          refine Int.le_trans ?_ HTOT.out
          have hcm := hl c (by simp)
          refine uSumG_sub ?_ (fun u hu => ?_) (fun u _ => gU_nonneg HDK.out.ok HPK.out.ok u)
          · exact (apart_units (fun x hx => by have := slOk_yes ((clOk_sl (HCO.out.ok c hcm)).2.1 x hx); omega)).1 (clOk_sl (HCO.out.ok c hcm)).2.2
          · obtain ⟨x, hx, hux⟩ := List.mem_flatMap.1 hu
            exact List.mem_flatMap.2 ⟨x, by unfold clSl; rw [List.mem_flatten]; exact ⟨c.sl, List.mem_map.2 ⟨c, hcm, rfl⟩, hx⟩, hux⟩
        have h6 := bsum_bounds HDK.out HPK.out dn
        rw [bsum_all (by have := HLN.out; omega)] at h6
        have := HLN.out
        rw [List.map_cons, List.sum_cons, List.length_cons]
        omega
    have h3 := h2 ((clms xs).take i) fun c hc => List.mem_of_mem_take hc
    have h4 : ((clms xs).take i).length ≤ 64 := by rw [List.length_take, clms_len]; have := HLN.out; omega
    unfold psum
    refine ⟨h1.1, by omega, fun hi => ?_⟩
    have h5 : (clms xs).take i = clms xs := List.take_of_length_le (by rw [clms_len]; have := HLN.out; omega)
    rw [h5] at h1 ⊢
    exact Int.le_trans h1.2 HTOT.out
  have HBS : Hid (∀ i, i ≤ dn → 0 ≤ bsum d pd i ∧ bsum d pd i ≤ 64000000000000) := fun i hi => by
    have := bsum_bounds HDK.out HPK.out i
    have := HLN.out
    omega
  have HPI : Hid (∀ i, i < cn → psum d pd (clms xs) (i + 1) = psum d pd (clms xs) i + (payE (xs[i]!).x d pd).1 ∧ 0 ≤ (payE (xs[i]!).x d pd).1 ∧ ((clms xs).map (poOf d pd))[i]! = poOf d pd (xs[i]!).x) := fun i hi => by
    have hl := HLN.out.1
    have h1 : i < (clms xs).length := by rw [clms_len]; omega
    have h2 := psum_succ (d := d) (p := pd) h1
    rw [clms_get (by omega)] at h2
    have h4 : (xs[i]!).x ∈ clms xs := by rw [← clms_get (bs := xs) (i := i) (by omega)]; exact get_memK h1
    refine ⟨h2, (HPE.out _ h4).2.1, ?_⟩
    rw [getElem!_pos ((clms xs).map (poOf d pd)) i (by rw [List.length_map]; exact h1), List.getElem_map, ← getElem!_pos (clms xs) i h1, clms_get (by omega)]
  have HBI : Hid (∀ i, i < dn → bsum d pd (i + 1) = bsum d pd i + amtC d[i]! (findC pd d[i]!.src)) := fun i hi => bsum_succ (by have := HLN.out; omega)
  have HFB : Hid (bsum d pd dn = totC d pd) := bsum_all (by have := HLN.out; omega)
  have HAM : Hid (∀ i, i < dn → amtC d[i]! (findC pd d[i]!.src) = min d[i]!.am ((findC pd d[i]!.src).getD ⟨0, 0, 0⟩).am) := fun i hi => amtC_get _ _
  have hcn : cn ≤ 64 := HLN.out.2.2.1
  have hdn : dn ≤ 64 := HLN.out.2.2.2.1
  have hpn : pn ≤ 64 := HLN.out.2.2.2.2.2
  have dq : ((cn : Int) != (cn : Int)) = false := by simp
  clear HPE HTOT HDK HPK
  go_wp2_with fail
  clear dq
  go_loopw [15, 16] (fun s v wx => ∃ i : Nat, v = .int .i64 (i : Int) ∧ s = .int .i64 (psum d pd (clms xs) i) ∧ i ≤ cn ∧ Hid (RowKit.Below W4.heap.size W4 wx)) (fun _ v _ => cn - (intOf v).toNat)
  case atStart => exact ⟨0, rfl, rfl, Nat.zero_le _, Below.refl _ _⟩
  case round =>
    obtain ⟨i, rfl, rfl, hi, HB⟩ := hrel
    by_cases hlt : i < cn
    case pos =>
      have dk : decide ((i : Int) < (cn : Int)) = true := by simp; omega
      obtain ⟨b1, o1, rfl, hb1, ha⟩ := recs_at (HQ.out.below HB.out) hlt
      obtain ⟨b2, o2, rfl, hb2, hc⟩ := recs_at (HCL4.out.below HB.out).cls.recs hlt
      obtain ⟨x, hx⟩ : ∃ x, xs[i]! = x := ⟨_, rfl⟩
      have hpi := HPI.out i hlt
      have hps := HPS.out i
      rw [hx] at hc hpi
      rw [hpi.2.2] at ha
      obtain ⟨am, ham⟩ : ∃ am, (payE x.x d pd).1 = am := ⟨_, rfl⟩
      rw [ham] at hpi
      have hps2 := HPS.out (i + 1)
      have HPI1 : Hid (psum d pd (clms xs) (i + 1) = psum d pd (clms xs) i + am) := hpi.1
      have ham0 : 0 ≤ am := hpi.2.1
      rw [HPI1.out] at hps2
      have q1 : wr.cell? ⟨b1, o1 + i * 3 + 1, none⟩ = some (.int .i64 x.x.lot) := ha.out 1 (by omega)
      have q2 : wr.cell? ⟨b1, o1 + i * 3 + 2, none⟩ = some (.int .i64 am) := by rw [← ham]; exact ha.out 2 (by omega)
      have e1 : wr.cell? ⟨b2, o2 + i * 6 + 1, none⟩ = some (.int .i64 x.x.lot) := hc.out 1 (by omega)
      have hii : (i : Int) < (cn : Int) := by omega
      have hiz : (0 : Int) ≤ (i : Int) := by omega
      have dn0 : decide (am < 0) = false := by simp; omega
      obtain ⟨S, hS⟩ : ∃ S, psum d pd (clms xs) i = S := ⟨_, rfl⟩
      rw [hS] at HPI1 hps hps2
      rw [hS]
      have u1 : IntKind.i64.wrap (S + am) = S + am := IntWalk.i64_in _ (by omega)
      have hb1' := hb1
      clear ha hc hx hpi ham hS
      go_upto_region 11 with (fail)
      go_quiet (fail)
      have HB2 : Hid (RowKit.Below W4.heap.size W4 (wr.drewN nq)) := below_drewN HB.out nq
      have q2 : (wr.drewN nq).cell? ⟨b1, o1 + i * 3 + 2, none⟩ = some (.int .i64 am) := q2
      clear e1 q1 HB dn0
      generalize wr.drewN nq = W5 at *
      go_wp2_with fail
      go_roundw
      case rel => exact ⟨i + 1, by go_num, by rw [HPI1.out], by omega, HB2⟩
      case measure => simp [intOf]; omega
    case neg =>
    have dk : decide ((i : Int) < (cn : Int)) = false := by simp; omega
    have hps := HPS.out i
    have hple := hps.2.2 (by omega)
    obtain ⟨S, hS⟩ : ∃ S, psum d pd (clms xs) i = S := ⟨_, rfl⟩
    rw [hS] at hps hple
    rw [hS]
    rw [← HFB.out] at hple
    have HB5 : Hid (RowKit.Below w.heap.size w wr) := HB4.out.trans (HB.out.mono HB4.out.size)
    have HDA5 : Hid (Recs encCh 3 wr DA dn d) := HDA4.out.below HB.out
    have HPA5 : Hid (Recs encCh 3 wr PA pn pd) := HPA4.out.below HB.out
    have HPL := Lib.hid hple
    clear hS hps hple HPI HPS HQ HCL4 HDA4 HPA4 HB HB4 HFB
    generalize wr = W5 at *
    go_wp2_with fail
    clear dk
    go_loopw [17, 18] (fun s v wx => ∃ i : Nat, v = .int .i64 (i : Int) ∧ s = .int .i64 (bsum d pd i) ∧ i ≤ dn ∧ Hid (RowKit.Below W5.heap.size W5 wx)) (fun _ v _ => dn - (intOf v).toNat)
    case atStart => exact ⟨0, rfl, rfl, Nat.zero_le _, Below.refl _ _⟩
    case round =>
      obtain ⟨q, rfl, rfl, hq, HB⟩ := hrel
      by_cases hlt : q < dn
      case pos =>
        have dk : decide ((q : Int) < (dn : Int)) = true := by simp; omega
        obtain ⟨b1, o1, rfl, hb1, ha⟩ := recs_at (HDA5.out.below HB.out) hlt
        have hbi := HBI.out q hlt
        have hbs := HBS.out q (by omega)
        have hbs2 := HBS.out (q + 1) (by omega)
        have hamq := HAM.out q hlt
        obtain ⟨x, hx⟩ : ∃ x, d[q]! = x := ⟨_, rfl⟩
        rw [hx] at ha hbi hamq
        obtain ⟨v, hv⟩ : ∃ v, amtC x (findC pd x.src) = v := ⟨_, rfl⟩
        rw [hv] at hbi hamq
        have HBI1 : Hid (bsum d pd (q + 1) = bsum d pd q + v) := hbi
        rw [hbi] at hbs2
        have HCF : Hid (∀ wx, RowKit.Below W5.heap.size W5 wx → Calls Tryz.prog 24 #[.slice PA pn pc, .int .i64 x.src] wx (FindRes wx (findC pd x.src))) := fun wx hb => ChargeOf_any PA pn pc pd x.src wx (HPA5.out.below hb) (by omega)
        obtain ⟨f, hf⟩ : ∃ f, (findC pd x.src).getD ⟨0, 0, 0⟩ = f := ⟨_, rfl⟩
        unfold FindRes at HCF
        rw [hf] at HCF hamq
        have hmin : min x.am f.am = v := hamq.symm
        have a0 : wr.cell? ⟨b1, o1 + q * 3, none⟩ = some (.int .i64 x.src) := ha.out 0 (by omega)
        have a2 : wr.cell? ⟨b1, o1 + q * 3 + 2, none⟩ = some (.int .i64 x.am) := ha.out 2 (by omega)
        obtain ⟨T, hT⟩ : ∃ T, bsum d pd q = T := ⟨_, rfl⟩
        rw [hT] at HBI1 hbs hbs2
        rw [hT]
        have u1 : IntKind.i64.wrap (T + v) = T + v := IntWalk.i64_in _ (by omega)
        have hii : (q : Int) < (dn : Int) := by omega
        have hiz : (0 : Int) ≤ (q : Int) := by omega
        clear ha hbi hamq hx hv hf hT
        go_wp2_with fail
        refine (HCF.out wr HB.out).mono ?_
        rintro e w6 ⟨rfl, hb6⟩
        have HB6 : Hid (RowKit.Below W5.heap.size W5 (w6.alloc (.cells #[.int .i64 f.src, .int .i64 f.un, .int .i64 f.am] 61))) := (HB.out.trans (hb6.mono HB.out.size)).alloc (Nat.le_trans HB.out.size hb6.size) _
        have HF6 : Hid (Bl (w6.alloc (.cells #[.int .i64 f.src, .int .i64 f.un, .int .i64 f.am] 61)) w6.heap.size 61 #[.int .i64 f.src, .int .i64 f.un, .int .i64 f.am]) := Bl.new _ _ _
        have HA2 : Hid ((w6.alloc (.cells #[.int .i64 f.src, .int .i64 f.un, .int .i64 f.am] 61)).cell? ⟨b1, o1 + q * 3 + 2, none⟩ = some (.int .i64 x.am)) := ((hb6.alloc hb6.size _).cell (p := ⟨b1, o1 + q * 3 + 2, none⟩) hb1).trans a2
        clear hb6 HB HCF
        go_upto_region 19 with (fail)
        clear a0 a2
        generalize w6.alloc (.cells #[.int .i64 f.src, .int .i64 f.un, .int .i64 f.am] 61) = W6 at *
        generalize w6.heap.size = g6 at *
        have f2 : W6.cell? ⟨g6, 2, none⟩ = some (.int .i64 f.am) := HF6.out.cell 2
        have a2 := HA2.out
        go_region
        go_wp2_with fail
        go_roundw
        case rel => exact ⟨q + 1, by go_num, by rw [HBI1.out], by omega, HB6.out.drew⟩
        case measure => simp [intOf]; omega
      case neg =>
      have dk : decide ((q : Int) < (dn : Int)) = false := by simp; omega
      obtain rfl : q = dn := by omega
      obtain ⟨T, hT⟩ : ∃ T, bsum d pd q = T := ⟨_, rfl⟩
      rw [hT] at HPL ⊢
      have hle := HPL.out
      have d1 : decide (S ≤ T) = true := decide_eq_true hle
      have HB6 : Hid (RowKit.Below w.heap.size w wr) := HB5.out.trans (HB.out.mono HB5.out.size)
      have HAC := Lib.hid (HAW.out wr)
      clear hT hle
      go_wp2_with fail
      refine HAC.out.mono ?_
      rintro e w8 ⟨rfl, hb8⟩
      have HB8 : Hid (RowKit.Below w.heap.size w w8) := HB6.out.trans (hb8.mono HB6.out.size)
      clear hb8
      go_wp2
      go_ret
      exact ⟨rfl, HB8.out⟩
end Go.Proofs.YthnhgjhnkncmiaaGreat

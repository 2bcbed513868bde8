/-
  The contract of drawback.Lodge at a claim whose number lies above all others. No statement of the seat is proved here. Conditions: valid claims, at most 63 of them.
  The law's awake returns true. No statement of the seat is proved here. No conditions.
  Contracts of customsref27's quantity, needs and Recipe, weak (which number or error comes back is not said). No statement of the seat is proved here. Conditions: the recipe's codes are eight digits, its numbers are small.
  The contract of the reference's Between (customsref27). No statement of the seat is proved here. Conditions: the list reads as valid slices, at most 1000 of them; the numbers are within 10^13.
-/
import Derived.Test.YthnhgjhnkncmiaaGreatMAL
import Derived.Test.YthnhgjhnkncmiaaGreatMAM
import Derived.Test.YthnhgjhnkncmiaaGreatMAI
import Derived.BigQuiet
import Derived.BigRegion
namespace Go.Proofs.YthnhgjhnkncmiaaGreat
open Go.RowKit Go.Shelf
set_option linter.unusedVariables false

/-- Claims in rows of the call's own. -/
structure ClOwn (N : Nat) (w : World) (B : Option Addr) (n d : Nat) (xs : List Cb) : Prop where
  row : w.ownsRow N 39 6 (.slice B n d) n (flat encCl xs)
  len : xs.length = n
  sls : ∀ b ∈ xs, w.ownsRow N 68 3 (.slice b.A b.n b.c) b.n (flat encSl b.x.sl)
theorem ClOwn.at_ {N : Nat} {w : World} {B : Option Addr} {n d : Nat} {xs : List Cb} (h : ClOwn N w B n d xs) : ClAt w B n xs :=
  ⟨RRd.own encCl_len h.row h.len, fun b hb => ⟨RRd.own encSl_len (h.sls b hb) (own_lenK encSl_len (by decide) (h.sls b hb)), own_boundsF (h.sls b hb)⟩⟩
theorem ClOwn.below {N : Nat} {w w' : World} {B : Option Addr} {n d : Nat} {xs : List Cb} (h : ClOwn N w B n d xs) (hb : RowKit.Below w.heap.size w w') : ClOwn N w' B n d xs := ⟨own_below h.row hb, h.len, fun b k => own_below (h.sls b k) hb⟩
theorem ClOwn.mono {N M : Nat} {w : World} {B : Option Addr} {n d : Nat} {xs : List Cb} (h : ClOwn N w B n d xs) (hm : M ≤ N) : ClOwn M w B n d xs := ⟨own_mono h.row hm, h.len, fun b k => own_mono (h.sls b k) hm⟩
/-- What Lodge returns: the clash, or one claim more. -/
def LdgRes (w : World) (n : Nat) (cs : List Clm) (x : Clm) (e : Ending) (w' : World) : Prop :=
  (¬ Apart (clSl (cs ++ [x])) → e = .returned (.tuple #[.slice none 0 0, .int .i64 13])) ∧
  (Apart (clSl (cs ++ [x])) → ∃ (B : Option Addr) (d : Nat) (xs : List Cb), e = .returned (.tuple #[.slice B (n + 1) d, .int .i64 0]) ∧ ClOwn w.heap.size w' B (n + 1) d xs ∧ clms xs = cs ++ [x]) ∧
  RowKit.Below w.heap.size w w'
set_option maxRecDepth 100000 in
set_option maxHeartbeats 16000000 in
theorem Lodge_any (A : Option Addr) (n c : Nat) (bs : List Cb) (x : Clm) (SA : Option Addr) (sn sc : Nat) (w : World) (h : ClAt w A n bs) (hok : ClsOk (clms bs)) (hn : n ≤ 63) (hx : clOk x = true) (hs : SlAt w SA sn x.sl) (hcap : sn ≤ sc ∧ sc ≤ 9223372036854775807) (hlt : ∀ b ∈ bs, b.x.num < x.num) :
    Calls Tryz.prog 12 #[.slice A n c, .agg #[.int .i64 x.num, .int .i64 x.lot, .int .i64 x.sch, .int .i64 x.qty, .int .i64 x.rate, .slice SA sn sc]] w (LdgRes w n (clms bs) x) := by
  have hxl : bs.length = n := h.cls.recs.1
  have HB0 : Hid (RowKit.Below w.heap.size w (w.alloc (.cells #[.int .i64 x.num, .int .i64 x.lot, .int .i64 x.sch, .int .i64 x.qty, .int .i64 x.rate, .slice SA sn sc] 39))) := (Below.refl _ _).alloc (Nat.le_refl _) _
  have HBX : Hid (Bl (w.alloc (.cells #[.int .i64 x.num, .int .i64 x.lot, .int .i64 x.sch, .int .i64 x.qty, .int .i64 x.rate, .slice SA sn sc] 39)) w.heap.size 39 #[.int .i64 x.num, .int .i64 x.lot, .int .i64 x.sch, .int .i64 x.qty, .int .i64 x.rate, .slice SA sn sc]) := Bl.new _ _ _
  have hbok : ∀ b ∈ bs, clOk b.x = true := fun b hb => hok.ok b.x (List.mem_map.2 ⟨b, hb, rfl⟩)
  have hbn : ∀ b ∈ bs, b.n ≤ 64 := fun b hb => by rw [← (h.sls b hb).1.recs.1]; exact (clOk_sl (hbok b hb)).1
  have hsn : sn ≤ 64 := by rw [← hs.recs.1]; exact (clOk_sl hx).1
  have HVD : Hid (∀ wx, RowKit.Below w.heap.size w wx → Calls Tryz.prog 13 #[.slice A n c] wx (EInt wx 0)) := fun wx hb => Validate29_ok A n c bs wx (h.below hb) hok
  have HV : Hid (∀ wx, RowKit.Below w.heap.size w wx → Calls Tryz.prog 27 #[.agg #[.int .i64 x.num, .int .i64 x.lot, .int .i64 x.sch, .int .i64 x.qty, .int .i64 x.rate, .slice SA sn sc]] wx (BRes wx true)) := fun wx hb => by
    have := valid29_any x SA sn sc wx (hs.recs.below hb)
    rwa [hx] at this
  have HBS : Hid (∀ wx, RowKit.Below w.heap.size w wx → Calls Tryz.prog 28 #[.slice A n c, .int .i64 x.num, .func (.func 29) #[] #[]] wx fun e w' => e = .returned (.tuple #[.int .i64 (n : Int), .bool false]) ∧ RowKit.Below wx.heap.size wx w') := fun wx hb => bsearch29_any A n c bs x.num wx (h.below hb) (by omega) hlt
  have HCL : Hid (∀ wx, RowKit.Below w.heap.size w wx → Calls Tryz.prog 34 #[.slice A n c] wx fun e w' => ∃ (B : Option Addr) (d : Nat), e = .returned (.slice B n d) ∧ w'.ownsRow wx.heap.size 39 6 (.slice B n d) n (flat encCl bs) ∧ RowKit.Below wx.heap.size wx w') := fun wx hb => cloneC_any A n c bs wx (h.below hb).cls (by omega)
  have HIN : Hid (∀ (N : Nat) (wx : World) (B : Option Addr) (d vb : Nat), N ≤ wx.heap.size → wx.ownsRow N 39 6 (.slice B n d) n (flat encCl bs) → Bl wx vb 39 #[.int .i64 x.num, .int .i64 x.lot, .int .i64 x.sch, .int .i64 x.qty, .int .i64 x.rate, .slice SA sn sc] → Calls Tryz.prog 33 #[.slice B n d, .int .i64 n, .slice (some ⟨vb, 0, none⟩) 1 1] wx fun e w' => ∃ (B : Option Addr) (d : Nat), e = .returned (.slice B (n + 1) d) ∧ w'.ownsRow N 39 6 (.slice B (n + 1) d) (n + 1) (flat encCl (bs ++ [⟨x, SA, sn, sc⟩])) ∧ RowKit.Below N wx w') := fun N wx B d vb hN ho hv => insert_end29 N B n d bs ⟨x, SA, sn, sc⟩ vb wx ho hv (by omega) hN
  have HCP : Hid (∀ (N : Nat) (wx : World) (B : Option Addr) (d : Nat), w.heap.size ≤ N → N ≤ wx.heap.size → RowKit.Below w.heap.size w wx → wx.ownsRow N 39 6 (.slice B (n + 1) d) (n + 1) (flat encCl (bs ++ [⟨x, SA, sn, sc⟩])) → Calls Tryz.prog 32 #[.slice B (n + 1) d] wx fun e w' => ∃ (B : Option Addr) (d : Nat) (xs : List Cb), e = .returned (.slice B (n + 1) d) ∧ w'.ownsRow wx.heap.size 39 6 (.slice B (n + 1) d) (n + 1) (flat encCl xs) ∧ xs.length = n + 1 ∧ clms xs = clms (bs ++ [⟨x, SA, sn, sc⟩]) ∧ (∀ b ∈ xs, w'.ownsRow wx.heap.size 68 3 (.slice b.A b.n b.c) b.n (flat encSl b.x.sl)) ∧ RowKit.Below wx.heap.size wx w') := fun N wx B d hN0 hN hb ho => by
    refine copied_any B (n + 1) d _ wx ⟨RRd.own encCl_len ho (by simp [hxl]), fun b hm => ?_⟩ (by omega) (fun b hm => ?_)
    · rcases List.mem_append.1 hm with hm | hm
      · exact (h.below hb).sls b hm
      · rw [List.mem_singleton] at hm
        subst hm
        exact ⟨hs.below hb, hcap⟩
    · rcases List.mem_append.1 hm with hm | hm
      · have := hbn b hm; omega
      · rw [List.mem_singleton] at hm
        subst hm
        show sn ≤ _
        omega
  have HCE : Hid (clms (bs ++ [⟨x, SA, sn, sc⟩]) = clms bs ++ [x]) := by show _ = _; simp [clms]
  have HAO : Hid (∀ b ∈ clms bs ++ [x], clOk b = true) := fun b hm => by
    rcases List.mem_append.1 hm with hm | hm
    · exact hok.ok b hm
    · rw [List.mem_singleton] at hm
      subst hm
      exact hx
  have d64 : decide (((n + 1 : Nat) : Int) > 64) = false := by simp; omega
  have d64b : decide (64 < n + 1) = false := by simp; omega
  generalize clms bs = cs at *
  clear h hok hx hs hcap hlt hbok hbn hsn
  go_enter Tryz.func12, Tryz.ntmps12
  go_upto_region 1 with (fail)
  generalize w.alloc (.cells #[.int .i64 x.num, .int .i64 x.lot, .int .i64 x.sch, .int .i64 x.qty, .int .i64 x.rate, .slice SA sn sc] 39) = W0 at *
  obtain ⟨gx, hgx⟩ : ∃ gx, w.heap.size = gx := ⟨_, rfl⟩
  rw [hgx] at HBX ⊢
  have HGX := Lib.hid hgx
  clear hgx
  go_wp2_with fail
  refine (HVD.out W0 HB0.out).mono ?_
  rintro e w1 ⟨rfl, hb1⟩
  have HB1 : Hid (RowKit.Below w.heap.size w w1) := HB0.out.trans (hb1.mono HB0.out.size)
  have HBX1 : Hid (Bl w1 gx 39 #[.int .i64 x.num, .int .i64 x.lot, .int .i64 x.sch, .int .i64 x.qty, .int .i64 x.rate, .slice SA sn sc]) := (hb1.block gx HBX.out.lt).trans HBX.out
  clear hb1 HB0 HBX HVD
  have x0 := HBX1.out.cell 0
  have x1 := HBX1.out.cell 1
  have x2 := HBX1.out.cell 2
  have x3 := HBX1.out.cell 3
  have x4 := HBX1.out.cell 4
  have x5 := HBX1.out.cell 5
  go_wp2_with fail
  refine (HV.out w1 HB1.out).mono ?_
  rintro e w2 ⟨rfl, hb2⟩
  have HB2 : Hid (RowKit.Below w.heap.size w w2) := HB1.out.trans (hb2.mono HB1.out.size)
  have HBX2 : Hid (Bl w2 gx 39 #[.int .i64 x.num, .int .i64 x.lot, .int .i64 x.sch, .int .i64 x.qty, .int .i64 x.rate, .slice SA sn sc]) := (hb2.block gx HBX1.out.lt).trans HBX1.out
  clear hb2 HB1 HBX1 HV x0 x1 x2 x3 x4 x5
  have x0 := HBX2.out.cell 0
  go_wp2_with fail
  refine (HBS.out w2 HB2.out).mono ?_
  rintro e w3 ⟨rfl, hb3⟩
  have HB3 : Hid (RowKit.Below w.heap.size w w3) := HB2.out.trans (hb3.mono HB2.out.size)
  have HBX3 : Hid (Bl w3 gx 39 #[.int .i64 x.num, .int .i64 x.lot, .int .i64 x.sch, .int .i64 x.qty, .int .i64 x.rate, .slice SA sn sc]) := (hb3.block gx HBX2.out.lt).trans HBX2.out
  clear hb3 HB2 HBX2 HBS x0
  go_upto_region 7 with (fail)
  go_quiet (fail)
  have HBX4 : Hid (Bl (w3.drewN nq) gx 39 #[.int .i64 x.num, .int .i64 x.lot, .int .i64 x.sch, .int .i64 x.qty, .int .i64 x.rate, .slice SA sn sc]) := HBX3.out
  have HB4 : Hid (RowKit.Below w.heap.size w (w3.drewN nq)) := below_drewN HB3.out nq
  clear HB3 HBX3
  go_upto_region 11 with (fail)
  generalize w3.drewN nq = W at *
  have HS : Hid (∀ wx, RowKit.Below W.heap.size W wx → (wx.cell? ⟨gx, 0, none⟩ = some (.int .i64 x.num) ∧ wx.cell? ⟨gx, 1, none⟩ = some (.int .i64 x.lot) ∧ wx.cell? ⟨gx, 2, none⟩ = some (.int .i64 x.sch) ∧ wx.cell? ⟨gx, 3, none⟩ = some (.int .i64 x.qty) ∧ wx.cell? ⟨gx, 4, none⟩ = some (.int .i64 x.rate) ∧ wx.cell? ⟨gx, 5, none⟩ = some (.slice SA sn sc) ∧ RowKit.Below W.heap.size W wx)) := fun wx hb => by
    have hk : Bl wx gx 39 #[.int .i64 x.num, .int .i64 x.lot, .int .i64 x.sch, .int .i64 x.qty, .int .i64 x.rate, .slice SA sn sc] := (hb.block gx HBX4.out.lt).trans HBX4.out
    exact ⟨hk.cell 0, hk.cell 1, hk.cell 2, hk.cell 3, hk.cell 4, hk.cell 5, hb⟩
  have HW : Hid (∀ wx, RowKit.Below W.heap.size W wx → RowKit.Below w.heap.size w wx) := fun wx hb => HB4.out.trans (hb.mono HB4.out.size)
  have hk0 : Hid (RowKit.Below W.heap.size W W.drew) := (Below.refl _ _).drew
  have hk00 : Hid (RowKit.Below W.heap.size W W) := Below.refl _ _
  have hkl : Hid (RowKit.Below W.heap.size W (W.alloc (.cells #[.int .i64 x.num, .int .i64 x.lot, .int .i64 x.sch, .int .i64 x.qty, .int .i64 x.rate, .slice SA sn sc] 39)).drew) := ((Below.refl _ _).alloc (Nat.le_refl _) _).drew
  have hbl : Hid (Bl (W.alloc (.cells #[.int .i64 x.num, .int .i64 x.lot, .int .i64 x.sch, .int .i64 x.qty, .int .i64 x.rate, .slice SA sn sc] 39)).drew W.heap.size 39 #[.int .i64 x.num, .int .i64 x.lot, .int .i64 x.sch, .int .i64 x.qty, .int .i64 x.rate, .slice SA sn sc]) := Bl.new _ _ _
  have z0 := (HS.out _ hk00.out).1
  have z1 := (HS.out _ hk00.out).2.1
  have z2 := (HS.out _ hk00.out).2.2.1
  have z3 := (HS.out _ hk00.out).2.2.2.1
  have z4 := (HS.out _ hk00.out).2.2.2.2.1
  have z5 := (HS.out _ hk00.out).2.2.2.2.2.1
  clear HB4
  go_region_held3 (fun wx => wx.cell? ⟨gx, 0, none⟩ = some (.int .i64 x.num) ∧ wx.cell? ⟨gx, 1, none⟩ = some (.int .i64 x.lot) ∧ wx.cell? ⟨gx, 2, none⟩ = some (.int .i64 x.sch) ∧ wx.cell? ⟨gx, 3, none⟩ = some (.int .i64 x.qty) ∧ wx.cell? ⟨gx, 4, none⟩ = some (.int .i64 x.rate) ∧ wx.cell? ⟨gx, 5, none⟩ = some (.slice SA sn sc) ∧ RowKit.Below W.heap.size W wx)
    (first
      | with_reducible exact HS.out _ hkp.out
      | with_reducible exact HS.out _ hki.out
      | with_reducible exact HS.out _ hka.out
      | with_reducible exact HS.out _ (hka.out.alloc hka.out.size _)
      | with_reducible exact HS.out _ hk0.out
      | with_reducible exact HS.out _ hk00.out
      | exact HS.out _ hkl.out)
    (first
      | (go_at_call 32; with_reducible (refine (HCP.out W.heap.size _ B2 d2 (HW.out _ hk00.out).size hki.out.size (HW.out _ hki.out) hoi.out).mono ?_); rintro e wp ⟨B3, d3, xs, rfl, ho3, hl3, hm3, hs3, hb3⟩; have hkp := Lib.hid (hki.out.trans (hb3.mono hki.out.size)); have HO3 := Lib.hid (ClOwn.mono ⟨ho3, hl3, hs3⟩ ((HW.out _ hki.out).size)); have HM3 := Lib.hid hm3)
      | (go_at_call 33; with_reducible (refine (HIN.out W.heap.size _ B1 d1 _ hka.out.size hoa.out hba.out).mono ?_); rintro e wi ⟨B2, d2, rfl, ho2, hb2⟩; have hki := Lib.hid (hka.out.trans hb2); have hoi := Lib.hid ho2)
      | (go_at_call 33; with_reducible (refine (HIN.out W.heap.size _ B1 d1 _ (hka.out.alloc hka.out.size _).size (own_alloc hoa.out _) (Bl.new _ _ _)).mono ?_); rintro e wi ⟨B2, d2, rfl, ho2, hb2⟩; have hki := Lib.hid ((hka.out.alloc hka.out.size _).trans hb2); have hoi := Lib.hid ho2)
      | (go_at_call 34; with_reducible (refine (HCL.out _ (HW.out _ hk0.out)).mono ?_); rintro e wa ⟨B1, d1, rfl, ho1, hb1⟩; have hka := Lib.hid (hk0.out.trans (hb1.mono hk0.out.size)); have hoa := Lib.hid (own_mono ho1 hk0.out.size))
      | (go_at_call 34; (refine (HCL.out _ (HW.out _ hkl.out)).mono ?_); rintro e wa ⟨B1, d1, rfl, ho1, hb1⟩; have hka := Lib.hid (hkl.out.trans (hb1.mono hkl.out.size)); have hoa := Lib.hid (own_mono ho1 hkl.out.size); have hba := Lib.hid (hbl.out.keep hb1)))
  all_goals
    have HOK3 : Hid (∀ b ∈ xs, clOk b.x = true) := fun b hb => HAO.out b.x (by rw [← HCE.out, ← HM3.out]; exact List.mem_map.2 ⟨b, hb, rfl⟩)
    have HB3 : Hid (RowKit.Below w.heap.size w wp) := HW.out _ hkp.out
    have HOV := Lib.hid (overlap29_any B3 (n + 1) d3 xs wp HO3.out.at_ HOK3.out (by omega))
    have HME : Hid (clms xs = cs ++ [x]) := HM3.out.trans HCE.out
    clear ho3 hl3 hm3 hs3 hb3 ho2 hb2 hb1 ho1
    go_wp2_with fail
    refine HOV.out.mono ?_
    rintro e w9 ⟨rfl, hb9⟩
    have HB9 : Hid (RowKit.Below w.heap.size w w9) := HB3.out.trans (hb9.mono HB3.out.size)
    have HO9 : Hid (ClOwn w.heap.size w9 B3 (n + 1) d3 xs) := HO3.out.below hb9
    rw [HME.out]
    clear hb9
    by_cases hap : Apart (clSl (cs ++ [x]))
    case pos =>
      have hda : (!decide (Apart (clSl (cs ++ [x])))) = false := by simp [hap]
      rw [hda]
      have HR : Hid (LdgRes w n cs x (.returned (.tuple #[.slice B3 (n + 1) d3, .int .i64 0])) w9) := ⟨fun k => absurd hap k, fun _ => ⟨B3, d3, xs, rfl, HO9.out, HME.out⟩, HB9.out⟩
      clear hap hda
      go_wp2
      go_ret2
      exact HR.out
    case neg =>
      have hda : (!decide (Apart (clSl (cs ++ [x])))) = true := by simp [hap]
      rw [hda]
      have HR : Hid (LdgRes w n cs x (.returned (.tuple #[.slice none 0 0, .int .i64 13])) w9) := ⟨fun _ => rfl, fun k => absurd k hap, HB9.out⟩
      clear hap hda
      go_wp2
      go_ret2
      exact HR.out
end Go.Proofs.YthnhgjhnkncmiaaGreat

namespace Go.Proofs.YthnhgjhnkncmiaaGreat
open Go.RowKit
set_option linter.unusedVariables false

def clA (s : Int) : Clm := ⟨1, 7, s, 3, 5000, [⟨1, 0, 4⟩]⟩
theorem payA1 : payE (clA 1) [⟨1, 10, 100⟩] [⟨1, 10, 50⟩] = (20, 0) := by decide
theorem payA2 : payE (clA 2) [⟨1, 10, 100⟩] [⟨1, 10, 50⟩] = (15, 0) := by decide
theorem apA : Apart (clSl ([] ++ [clA 2])) := by decide
theorem okA : clOk (clA 2) = true := by decide
set_option maxRecDepth 100000 in
set_option maxHeartbeats 8000000 in
theorem awake29_any (w : World) : Calls Tryz.prog 14 #[] w (BRes w true) := by
  go_enter Tryz.func14, Tryz.ntmps14
  have HB1 : Hid (RowKit.Below w.heap.size w (w.alloc (.cells #[.int .i64 1, .int .i64 10, .int .i64 100] 61))) := (Below.refl _ _).alloc (Nat.le_refl _) _
  have HD : Hid (Bl (w.alloc (.cells #[.int .i64 1, .int .i64 10, .int .i64 100] 61)) w.heap.size 61 #[.int .i64 1, .int .i64 10, .int .i64 100]) := Bl.new _ _ _
  go_upto_region 2 with (fail)
  generalize w.alloc (.cells #[.int .i64 1, .int .i64 10, .int .i64 100] 61) = W1 at *
  obtain ⟨g1, hg1⟩ : ∃ g1, w.heap.size = g1 := ⟨_, rfl⟩
  have HG1 : Hid (w.heap.size ≤ g1) := by show _ ≤ _; omega
  rw [hg1] at HD ⊢
  clear hg1
  have HB2 : Hid (RowKit.Below w.heap.size w (W1.alloc (.cells #[.int .i64 1, .int .i64 10, .int .i64 50] 61))) := HB1.out.alloc HB1.out.size _
  have HD2 : Hid (Bl (W1.alloc (.cells #[.int .i64 1, .int .i64 10, .int .i64 50] 61)) g1 61 #[.int .i64 1, .int .i64 10, .int .i64 100]) := Bl.alloc HD.out _
  have HP : Hid (Bl (W1.alloc (.cells #[.int .i64 1, .int .i64 10, .int .i64 50] 61)) W1.heap.size 61 #[.int .i64 1, .int .i64 10, .int .i64 50]) := Bl.new _ _ _
  go_upto_region 3 with (fail)
  clear HD HB1
  generalize W1.alloc (.cells #[.int .i64 1, .int .i64 10, .int .i64 50] 61) = W2 at *
  generalize W1.heap.size = g2 at *
  have HB3 : Hid (RowKit.Below w.heap.size w (W2.alloc (.cells #[.int .i64 1, .int .i64 0, .int .i64 4] 68))) := HB2.out.alloc HB2.out.size _
  have HD3 : Hid (Bl (W2.alloc (.cells #[.int .i64 1, .int .i64 0, .int .i64 4] 68)) g1 61 #[.int .i64 1, .int .i64 10, .int .i64 100]) := Bl.alloc HD2.out _
  have HP3 : Hid (Bl (W2.alloc (.cells #[.int .i64 1, .int .i64 0, .int .i64 4] 68)) g2 61 #[.int .i64 1, .int .i64 10, .int .i64 50]) := Bl.alloc HP.out _
  have HS3 : Hid (Bl (W2.alloc (.cells #[.int .i64 1, .int .i64 0, .int .i64 4] 68)) W2.heap.size 68 #[.int .i64 1, .int .i64 0, .int .i64 4]) := Bl.new _ _ _
  have HG3 : Hid ((W2.alloc (.cells #[.int .i64 1, .int .i64 0, .int .i64 4] 68)).heap.size = W2.heap.size + 1) := by show _ = _; simp
  clear HD2 HP HB2
  go_upto_region 4 with (fail)
  generalize W2.alloc (.cells #[.int .i64 1, .int .i64 0, .int .i64 4] 68) = W3 at *
  rw [← HG3.out]
  generalize W2.heap.size = g3 at *
  have HB : Hid (RowKit.Below w.heap.size w (W3.alloc (.cells #[.int .i64 1, .int .i64 7, .int .i64 1, .int .i64 3, .int .i64 5000, .slice (some ⟨g3, 0, none⟩) 1 1] 39))) := HB3.out.alloc HB3.out.size _
  have HDD : Hid (Bl (W3.alloc (.cells #[.int .i64 1, .int .i64 7, .int .i64 1, .int .i64 3, .int .i64 5000, .slice (some ⟨g3, 0, none⟩) 1 1] 39)) g1 61 #[.int .i64 1, .int .i64 10, .int .i64 100]) := Bl.alloc HD3.out _
  have HPP : Hid (Bl (W3.alloc (.cells #[.int .i64 1, .int .i64 7, .int .i64 1, .int .i64 3, .int .i64 5000, .slice (some ⟨g3, 0, none⟩) 1 1] 39)) g2 61 #[.int .i64 1, .int .i64 10, .int .i64 50]) := Bl.alloc HP3.out _
  have HSS : Hid (Bl (W3.alloc (.cells #[.int .i64 1, .int .i64 7, .int .i64 1, .int .i64 3, .int .i64 5000, .slice (some ⟨g3, 0, none⟩) 1 1] 39)) g3 68 #[.int .i64 1, .int .i64 0, .int .i64 4]) := Bl.alloc HS3.out _
  have HC : Hid (Bl (W3.alloc (.cells #[.int .i64 1, .int .i64 7, .int .i64 1, .int .i64 3, .int .i64 5000, .slice (some ⟨g3, 0, none⟩) 1 1] 39)) W3.heap.size 39 #[.int .i64 1, .int .i64 7, .int .i64 1, .int .i64 3, .int .i64 5000, .slice (some ⟨g3, 0, none⟩) 1 1]) := Bl.new _ _ _
  have HNE : Hid (w.heap.size ≤ W3.heap.size ∧ g1 ≠ W3.heap.size ∧ g2 ≠ W3.heap.size ∧ g3 ≠ W3.heap.size) := ⟨HB3.out.size, Nat.ne_of_lt HD3.out.lt, Nat.ne_of_lt HP3.out.lt, Nat.ne_of_lt HS3.out.lt⟩
  clear HD3 HP3 HS3 HG3 HB3
  generalize W3.alloc (.cells #[.int .i64 1, .int .i64 7, .int .i64 1, .int .i64 3, .int .i64 5000, .slice (some ⟨g3, 0, none⟩) 1 1] 39) = W4 at *
  generalize W3.heap.size = g4 at *
  have HPA : Hid (Calls Tryz.prog 17 #[.agg #[.int .i64 1, .int .i64 7, .int .i64 1, .int .i64 3, .int .i64 5000, .slice (some ⟨g3, 0, none⟩) 1 1], .slice (some ⟨g1, 0, none⟩) 1 1, .slice (some ⟨g2, 0, none⟩) 1 1] W4 fun e w' => e = .returned (.tuple #[.int .i64 20, .int .i64 0]) ∧ RowKit.Below W4.heap.size W4 w') := by
    have := Payable_any (clA 1) (some ⟨g3, 0, none⟩) 1 1 (some ⟨g1, 0, none⟩) (some ⟨g2, 0, none⟩) 1 1 1 1 [⟨1, 10, 100⟩] [⟨1, 10, 50⟩] W4 (recs_lit (xs := (clA 1).sl) encSl_len HSS.out) (recs_lit (xs := [⟨1, 10, 100⟩]) encCh_len HDD.out) (recs_lit (xs := [⟨1, 10, 50⟩]) encCh_len HPP.out)
    rw [payA1] at this
    exact this
  have x0 := HC.out.cell 0
  have x1 := HC.out.cell 1
  have x2 := HC.out.cell 2
  have x3 := HC.out.cell 3
  have x4 := HC.out.cell 4
  have x5 := HC.out.cell 5
  go_wp2_with fail
  refine HPA.out.mono ?_
  rintro e w5 ⟨rfl, hb5⟩
  have HB5 : Hid (RowKit.Below w.heap.size w (w5.setCell ⟨g4, 2, none⟩ (.int .i64 2))) := (HB.out.trans (hb5.mono HB.out.size)).setCell (p := ⟨g4, 2, none⟩) HNE.out.1 _
  have HD5 : Hid (Bl (w5.setCell ⟨g4, 2, none⟩ (.int .i64 2)) g1 61 #[.int .i64 1, .int .i64 10, .int .i64 100]) := Bl.far (p := ⟨g4, 2, none⟩) ((hb5.block g1 HDD.out.lt).trans HDD.out) HNE.out.2.1 _
  have HP5 : Hid (Bl (w5.setCell ⟨g4, 2, none⟩ (.int .i64 2)) g2 61 #[.int .i64 1, .int .i64 10, .int .i64 50]) := Bl.far (p := ⟨g4, 2, none⟩) ((hb5.block g2 HPP.out.lt).trans HPP.out) HNE.out.2.2.1 _
  have HS5 : Hid (Bl (w5.setCell ⟨g4, 2, none⟩ (.int .i64 2)) g3 68 #[.int .i64 1, .int .i64 0, .int .i64 4]) := Bl.far (p := ⟨g4, 2, none⟩) ((hb5.block g3 HSS.out.lt).trans HSS.out) HNE.out.2.2.2 _
  have HC5 : Hid (Bl w5 g4 39 #[.int .i64 1, .int .i64 7, .int .i64 1, .int .i64 3, .int .i64 5000, .slice (some ⟨g3, 0, none⟩) 1 1]) := (hb5.block g4 HC.out.lt).trans HC.out
  have HC6 : Hid (Bl (w5.setCell ⟨g4, 2, none⟩ (.int .i64 2)) g4 39 #[.int .i64 1, .int .i64 7, .int .i64 2, .int .i64 3, .int .i64 5000, .slice (some ⟨g3, 0, none⟩) 1 1]) := by show Bl _ _ _ _; have := HC5.out.put 2 (.int .i64 2); simpa using this
  have x2 : w5.cell? ⟨g4, 2, none⟩ = some (.int .i64 1) := HC5.out.cell 2
  have f2 : w5.frozen? ⟨g4, 2, none⟩ = false := HC5.out.free 2
  clear hb5 HPA HDD HPP HSS HC HB x0 x1 x3 x4 x5
  go_upto_region 6 with (fail)
  clear x2 f2
  generalize w5.setCell ⟨g4, 2, none⟩ (.int .i64 2) = W6 at *
  have HPA : Hid (Calls Tryz.prog 17 #[.agg #[.int .i64 1, .int .i64 7, .int .i64 2, .int .i64 3, .int .i64 5000, .slice (some ⟨g3, 0, none⟩) 1 1], .slice (some ⟨g1, 0, none⟩) 1 1, .slice (some ⟨g2, 0, none⟩) 1 1] W6 fun e w' => e = .returned (.tuple #[.int .i64 15, .int .i64 0]) ∧ RowKit.Below W6.heap.size W6 w') := by
    have := Payable_any (clA 2) (some ⟨g3, 0, none⟩) 1 1 (some ⟨g1, 0, none⟩) (some ⟨g2, 0, none⟩) 1 1 1 1 [⟨1, 10, 100⟩] [⟨1, 10, 50⟩] W6 (recs_lit (xs := (clA 2).sl) encSl_len HS5.out) (recs_lit (xs := [⟨1, 10, 100⟩]) encCh_len HD5.out) (recs_lit (xs := [⟨1, 10, 50⟩]) encCh_len HP5.out)
    rw [payA2] at this
    exact this
  have x0 := HC6.out.cell 0
  have x1 := HC6.out.cell 1
  have x2 := HC6.out.cell 2
  have x3 := HC6.out.cell 3
  have x4 := HC6.out.cell 4
  have x5 := HC6.out.cell 5
  go_wp2_with fail
  refine HPA.out.mono ?_
  rintro e w7 ⟨rfl, hb7⟩
  have HB7 : Hid (RowKit.Below w.heap.size w w7) := HB5.out.trans (hb7.mono HB5.out.size)
  have HS7 : Hid (Bl w7 g3 68 #[.int .i64 1, .int .i64 0, .int .i64 4]) := (hb7.block g3 HS5.out.lt).trans HS5.out
  have HC7 : Hid (Bl w7 g4 39 #[.int .i64 1, .int .i64 7, .int .i64 2, .int .i64 3, .int .i64 5000, .slice (some ⟨g3, 0, none⟩) 1 1]) := (hb7.block g4 HC6.out.lt).trans HC6.out
  clear hb7 HPA HD5 HP5 HS5 HC5 HC6 HB5 x0 x1 x2 x3 x4 x5
  have HLO : Hid (Calls Tryz.prog 12 #[.slice none 0 0, .agg #[.int .i64 1, .int .i64 7, .int .i64 2, .int .i64 3, .int .i64 5000, .slice (some ⟨g3, 0, none⟩) 1 1]] w7 fun e w' => ∃ (B : Option Addr) (d : Nat), e = .returned (.tuple #[.slice B 1 d, .int .i64 0]) ∧ RowKit.Below w7.heap.size w7 w') := (Lodge_any none 0 0 [] (clA 2) (some ⟨g3, 0, none⟩) 1 1 w7 ⟨RRd.empty _ _ _, fun b k => (by cases k)⟩ ClsOk.nil (by omega) okA (rrd_of (recs_lit (xs := (clA 2).sl) encSl_len HS7.out) (by decide)) (by decide) (fun b k => (by cases k))).mono fun e w' ⟨_, h2, h3⟩ => by
    obtain ⟨B, d, xs, rfl, _, _⟩ := h2 apA
    exact ⟨B, d, rfl, h3⟩
  have x0 := HC7.out.cell 0
  have x1 := HC7.out.cell 1
  have x2 := HC7.out.cell 2
  have x3 := HC7.out.cell 3
  have x4 := HC7.out.cell 4
  have x5 := HC7.out.cell 5
  go_wp2_with fail
  refine HLO.out.mono ?_
  rintro e w8 ⟨B, d, rfl, hb8⟩
  have HB8 : Hid (RowKit.Below w.heap.size w w8) := HB7.out.trans (hb8.mono HB7.out.size)
  clear hb8 x0 x1 x2 x3 x4 x5
  go_wp2
  go_ret
  exact ⟨rfl, HB8.out⟩
end Go.Proofs.YthnhgjhnkncmiaaGreat

namespace Go.Proofs.YthnhgjhnkncmiaaGreat
open Go.RowKit
set_option linter.unusedVariables false

/-- A part of a recipe. -/
structure Nd where
  code : ByteArray
  qty : Int
deriving Inhabited
def encNd (x : Nd) : List Value := [.string x.code, .int .i64 x.qty]
theorem encNd_len (x : Nd) : (encNd x).length = 2 := rfl
theorem encNd_one (x : Nd) : ∀ v ∈ encNd x, v.oneCell' = true := fun v hv => by
  simp [encNd] at hv; rcases hv with rfl | rfl <;> rfl
def NdOk (x : Nd) : Prop := code8 x.code ∧ 1 ≤ x.qty ∧ x.qty ≤ 1000
/-- Some number, nothing touched. -/
def IS (w : World) (e : Ending) (w' : World) : Prop := w' = w ∧ ∃ v : Int, e = .returned (.int .i64 v)
set_option maxRecDepth 100000 in
set_option maxHeartbeats 4000000 in
theorem Code8_ok (s : ByteArray) (w : World) (h : code8 s) : Calls Tryz.prog 73 #[.string s] w fun e w' => e = .returned (.bool true) ∧ w' = w := by
  have h8 : s.size = 8 := h.1
  have hd : ∀ i (hi : i < s.size), 48 ≤ (s[i].toNat : Int) ∧ (s[i].toNat : Int) ≤ 57 := fun i hi => by
    have h1 := h.2 i hi
    have e : s.data[i]! = s[i] := by rw [getElem!_pos s.data i hi]; rfl
    rw [e] at h1
    omega
  go_enter Tryz.func73, Tryz.ntmps73
  go_wp2
  go_loop [3] (fun i => ∃ k : Nat, k ≤ s.size ∧ i = .int .i64 k) (fun i => s.size - (intOf i).toNat)
  case atStart => exact ⟨0, Nat.zero_le _, rfl⟩
  case round =>
    obtain ⟨k, hk, rfl⟩ := hrel
    by_cases hks : k < s.size
    · have h1 := hd k hks
      have g1 : ¬ (s[k].toNat : Int) < 48 := by omega
      have g2 : ¬ 57 < (s[k].toNat : Int) := by omega
      go_wp2
      go_round
      case rel => exact ⟨k + 1, by omega, by go_num⟩
      case measure => simp [intOf]; omega
    · have hd : decide (k < s.size) = false := by simpa using hks
      have h9 : ((s.size : Int) == 8) = true := by rw [h8]; rfl
      go_wp2
      go_ret
      exact ⟨by simp, rfl⟩
/-- How much of a code a list holds. -/
def qtyF (xs : List Nd) (s : ByteArray) : Int := xs.foldl (fun a x => if x.code.toList == s.toList then wrap64 (a + x.qty) else a) 0
theorem qtyF_take {xs : List Nd} {i : Nat} (h : i < xs.length) (s : ByteArray) : qtyF (xs.take (i + 1)) s = if xs[i]!.code.toList == s.toList then wrap64 (qtyF (xs.take i) s + xs[i]!.qty) else qtyF (xs.take i) s := by
  unfold qtyF
  rw [List.take_add_one, List.getElem?_eq_getElem h, Option.toList_some, List.foldl_append, getElem!_pos xs i h]
  rfl
set_option maxRecDepth 100000 in
set_option maxHeartbeats 4000000 in
theorem quantity_any (A : Option Addr) (n c : Nat) (xs : List Nd) (s : ByteArray) (w : World) (h : Recs encNd 2 w A n xs) (hn : n ≤ 1000000) :
    Calls Tryz.prog 84 #[.slice A n c, .string s] w fun e w' => e = .returned (.int .i64 (qtyF xs s)) ∧ w' = w := by
  have HX := Lib.hid h
  have hxl : xs.length = n := h.1
  clear h
  go_enter Tryz.func84, Tryz.ntmps84
  go_wp2_with fail
  go_loop [5, 6] (fun q v => ∃ (i : Nat) (u : Int), v = .int .i64 (i : Int) ∧ q = .int .i64 u ∧ i ≤ n ∧ Hid (u = qtyF (xs.take i) s)) (fun _ v => n - (intOf v).toNat)
  case atStart => exact ⟨0, 0, rfl, rfl, Nat.zero_le _, rfl⟩
  case round =>
    obtain ⟨i, u, rfl, rfl, hi, HU⟩ := hrel
    by_cases hlt : i < n
    case neg =>
      have dk : decide ((i : Int) < (n : Int)) = false := by simp; omega
      have hu := HU.out
      rw [List.take_of_length_le (by omega)] at hu
      have HU2 := Lib.hid hu
      clear hu
      go_wp2
      go_ret
      exact ⟨by rw [← HU2.out]; rfl, rfl⟩
    case pos =>
    have dk : decide ((i : Int) < (n : Int)) = true := by simp; omega
    obtain ⟨b1, o1, rfl, hb1, ha⟩ := recs_at HX.out hlt
    have HQ := Lib.hid (qtyF_take (xs := xs) (i := i) (by omega) s)
    obtain ⟨x, hx⟩ : ∃ x, xs[i]! = x := ⟨_, rfl⟩
    rw [hx] at ha
    have HQ2 : Hid (qtyF (xs.take (i + 1)) s = if x.code.toList == s.toList then wrap64 (u + x.qty) else u) := by show _ = _; rw [HQ.out, hx, HU.out]
    have a0 : w.cell? ⟨b1, o1 + i * 2, none⟩ = some (.string x.code) := ha.out 0 (by omega)
    have a1 : w.cell? ⟨b1, o1 + i * 2 + 1, none⟩ = some (.int .i64 x.qty) := ha.out 1 (by omega)
    have hii : (i : Int) < (n : Int) := by omega
    have hiz : (0 : Int) ≤ (i : Int) := by omega
    clear ha hx HQ
    cases e1 : (x.code.toList == s.toList)
    case false =>
      have HQ3 : Hid (qtyF (xs.take (i + 1)) s = u) := by show _ = _; rw [HQ2.out, e1]; rfl
      clear HQ2
      go_wp2_with fail
      go_round
      case rel => exact ⟨i + 1, u, by go_num, rfl, by omega, HQ3.out.symm⟩
      case measure => simp [intOf]; omega
    case true =>
      have HQ3 : Hid (qtyF (xs.take (i + 1)) s = wrap64 (u + x.qty)) := by show _ = _; rw [HQ2.out, e1]; rfl
      clear HQ2
      go_wp2_with fail
      go_round
      case rel => exact ⟨i + 1, _, by go_num, rfl, by omega, HQ3.out.symm⟩
      case measure => simp [intOf]; omega
set_option maxRecDepth 100000 in
set_option maxHeartbeats 8000000 in
theorem needs_any (A : Option Addr) (n c : Nat) (xs : List Nd) (w : World) (h : Recs encNd 2 w A n xs) (hx : ∀ x ∈ xs, NdOk x) (hn : n ≤ 8) :
    Calls Tryz.prog 94 #[.slice A n c] w (BW w) := by
  have HX := Lib.hid h
  have HO := Lib.hid hx
  have HC := Lib.hid Code8_ok
  have hxl : xs.length = n := h.1
  clear h hx
  go_enter Tryz.func94, Tryz.ntmps94
  go_wp2_with fail
  go_loopw [3] (fun v wx => ∃ i : Nat, v = .int .i64 (i : Int) ∧ i ≤ n ∧ Hid (RowKit.Below w.heap.size w wx)) (fun v _ => n - (intOf v).toNat)
  case atStart => exact ⟨0, rfl, Nat.zero_le _, Below.refl _ _⟩
  case round =>
    obtain ⟨i, rfl, hi, HB⟩ := hrel
    by_cases hlt : i < n
    case neg =>
      have dk : decide ((i : Int) < (n : Int)) = false := by simp; omega
      by_cases h1 : 1 ≤ n
      case pos =>
        have d1 : decide ((n : Int) ≥ 1) = true := by simp; omega
        have d2 : decide ((n : Int) ≤ 8) = true := by simp; omega
        go_wp2
        go_ret
        exact ⟨_, rfl, HB.out⟩
      case neg =>
        have d1 : decide ((n : Int) ≥ 1) = false := by simp; omega
        go_wp2
        go_ret
        exact ⟨_, rfl, HB.out⟩
    case pos =>
    have dk : decide ((i : Int) < (n : Int)) = true := by simp; omega
    obtain ⟨b1, o1, rfl, hb1, ha⟩ := recs_at (HX.out.below HB.out) hlt
    obtain ⟨x, hx⟩ : ∃ x, xs[i]! = x := ⟨_, rfl⟩
    rw [hx] at ha
    have a0 : wr.cell? ⟨b1, o1 + i * 2, none⟩ = some (.string x.code) := ha.out 0 (by omega)
    have a1 : wr.cell? ⟨b1, o1 + i * 2 + 1, none⟩ = some (.int .i64 x.qty) := ha.out 1 (by omega)
    have HXO : Hid (NdOk x) := HO.out x (by rw [← hx, getElem!_pos xs i (by omega)]; exact List.getElem_mem _)
    have hq := HXO.out.2
    have d3 : decide (x.qty < 1) = false := by simp; omega
    have d4 : decide (x.qty > 1000000000) = false := by simp; omega
    have hii : (i : Int) < (n : Int) := by omega
    have hiz : (0 : Int) ≤ (i : Int) := by omega
    clear ha hx
    by_cases h0 : i = 0
    case pos =>
      subst h0
      have a0' : wr.cell? ⟨b1, o1, none⟩ = some (.string x.code) := by simpa using a0
      have a1' : wr.cell? ⟨b1, o1 + 1, none⟩ = some (.int .i64 x.qty) := by simpa using a1
      clear a0 a1
      go_upto_region 4 with (fail)
      go_quiet ((go_at_call 73; exact Calls.quiet_of_same (HC.out x.code _ HXO.out.1)))
      go_wp2_with fail
      go_roundw
      case rel => exact ⟨1, by go_num, by omega, below_drewN HB.out _⟩
      case measure => simp [intOf]; omega
    case neg =>
      have d5 : decide (0 < i) = true := by simp; omega
      obtain ⟨b2, o2, e2, hb2, ha⟩ := recs_at (HX.out.below HB.out) (show i - 1 < n by omega)
      injection e2 with e2
      injection e2 with e3 e4
      subst e3 e4
      obtain ⟨y, hy⟩ : ∃ y, xs[i - 1]! = y := ⟨_, rfl⟩
      rw [hy] at ha
      have a2 : wr.cell? ⟨b1, o1 + (i - 1) * 2, none⟩ = some (.string y.code) := ha.out 0 (by omega)
      have hk1 : (i : Int) - 1 = ((i - 1 : Nat) : Int) := by omega
      have u1 : IntKind.i64.wrap ((i : Int) - 1) = ((i - 1 : Nat) : Int) := by rw [hk1]; exact IntWalk.i64_in _ (by omega)
      have hkk : ((i - 1 : Nat) : Int) < (n : Int) := by omega
      have hkz : (0 : Int) ≤ ((i - 1 : Nat) : Int) := by omega
      clear ha hy hk1
      cases e1 : (Op.bytesLess x.code.toList y.code.toList) <;> cases e2 : (x.code.toList == y.code.toList)
      · go_upto_region 4 with (fail)
        go_quiet ((go_at_call 73; exact Calls.quiet_of_same (HC.out x.code _ HXO.out.1)))
        go_wp2_with fail
        go_roundw
        case rel => exact ⟨i + 1, by go_num, by omega, below_drewN HB.out _⟩
        case measure => simp [intOf]; omega
      all_goals
        go_upto_region 4 with (fail)
        go_quiet ((go_at_call 73; exact Calls.quiet_of_same (HC.out x.code _ HXO.out.1)))
        go_wp2
        go_ret
        exact ⟨_, rfl, below_drewN HB.out _⟩
/-- A recipe in memory. -/
structure RcAt (w : World) (IA : Option Addr) (ni ci : Nat) (ins : List Nd) (OA : Option Addr) (no co : Nat) (outs : List Nd) (SA : Option Addr) (ns cs : Nat) (sc : List Int) : Prop where
  ins : Recs encNd 2 w IA ni ins
  outs : Recs encNd 2 w OA no outs
  sc : Ints w SA ns sc
theorem RcAt.below {w w' : World} {IA : Option Addr} {ni ci : Nat} {ins : List Nd} {OA : Option Addr} {no co : Nat} {outs : List Nd} {SA : Option Addr} {ns cs : Nat} {sc : List Int} (h : RcAt w IA ni ci ins OA no co outs SA ns cs sc) (hb : RowKit.Below w.heap.size w w') : RcAt w' IA ni ci ins OA no co outs SA ns cs sc := ⟨h.ins.below hb, h.outs.below hb, h.sc.below hb⟩
/-- A recipe of the estate's. -/
structure RcOk (rid : Int) (ins outs : List Nd) (sc : List Int) : Prop where
  id : 1 ≤ rid ∧ rid ≤ 1000000
  ni : 1 ≤ ins.length ∧ ins.length ≤ 2
  no : 1 ≤ outs.length ∧ outs.length ≤ 2
  ns : sc.length = outs.length
  ins : ∀ x ∈ ins, NdOk x
  outs : ∀ x ∈ outs, NdOk x
  sum : 1 ≤ sc.sum
  scs : ∀ s ∈ sc, 0 ≤ s ∧ s ≤ 1000
set_option maxRecDepth 100000 in
set_option maxHeartbeats 8000000 in
theorem Recipe_any (rid : Int) (IA : Option Addr) (ni ci : Nat) (ins : List Nd) (OA : Option Addr) (no co : Nat) (outs : List Nd) (SA : Option Addr) (ns cs : Nat) (sc : List Int) (w : World) (h : RcAt w IA ni ci ins OA no co outs SA ns cs sc) (hr : RcOk rid ins outs sc) :
    Calls Tryz.prog 83 #[.agg #[.int .i64 rid, .slice IA ni ci, .slice OA no co, .slice SA ns cs]] w (EW w) := by
  have HX := Lib.hid h
  have HR := Lib.hid hr
  have HN := Lib.hid needs_any
  have h1 : ins.length = ni := h.ins.1
  have h2 : outs.length = no := h.outs.1
  have h3 : sc.length = ns := h.sc.1
  have hni := hr.ni
  have hno := hr.no
  have hns := hr.ns
  have d1 : decide (rid < 1) = false := by have := hr.id; simp; omega
  have d2 : decide (rid > 1000000) = false := by have := hr.id; simp; omega
  have HBX : Hid (Bl (w.alloc (.cells #[.int .i64 rid, .slice IA ni ci, .slice OA no co, .slice SA ns cs] 100)) w.heap.size 100 #[.int .i64 rid, .slice IA ni ci, .slice OA no co, .slice SA ns cs]) := Bl.new _ _ _
  have HB0 : Hid (RowKit.Below w.heap.size w (w.alloc (.cells #[.int .i64 rid, .slice IA ni ci, .slice OA no co, .slice SA ns cs] 100))) := (Below.refl _ _).alloc (Nat.le_refl _) _
  clear h hr
  go_enter Tryz.func83, Tryz.ntmps83
  go_upto_region 1 with (fail)
  generalize w.alloc (.cells #[.int .i64 rid, .slice IA ni ci, .slice OA no co, .slice SA ns cs] 100) = w1 at *
  generalize hgx : w.heap.size = gx at *
  have c0 : w1.cell? ⟨gx, 0, none⟩ = some (.int .i64 rid) := HBX.out.cell 0
  have c1 : w1.cell? ⟨gx, 1, none⟩ = some (.slice IA ni ci) := HBX.out.cell 1
  have c2 : w1.cell? ⟨gx, 2, none⟩ = some (.slice OA no co) := HBX.out.cell 2
  have HI1 : Hid (Recs encNd 2 w1 IA ni ins) := HX.out.ins.below (by subst hgx; exact HB0.out)
  clear c2
  go_wp2_with fail
  refine (HN.out IA ni ci ins w1 HI1.out HR.out.ins (by omega)).mono ?_
  rintro e w2 ⟨b, rfl, hb2⟩
  have HB2 : Hid (RowKit.Below gx w w2) := HB0.out.trans (hb2.mono (by have := HB0.out.size; omega))
  have HBX2 : Hid (Bl w2 gx 100 #[.int .i64 rid, .slice IA ni ci, .slice OA no co, .slice SA ns cs]) := (hb2.block gx HBX.out.lt).trans HBX.out
  clear hb2 HI1 HBX HB0 c0 c1
  have c2 : w2.cell? ⟨gx, 2, none⟩ = some (.slice OA no co) := HBX2.out.cell 2
  have HO2 : Hid (Recs encNd 2 w2 OA no outs) := HX.out.outs.below (by rw [hgx]; exact HB2.out)
  cases b
  case false =>
    have c3 : w2.cell? ⟨gx, 3, none⟩ = some (.slice SA ns cs) := HBX2.out.cell 3
    go_wp2
    go_ret
    exact ⟨_, rfl, by rw [hgx]; exact HB2.out⟩
  case true =>
  go_wp2_with fail
  refine (HN.out OA no co outs w2 HO2.out HR.out.outs (by omega)).mono ?_
  rintro e w3 ⟨b, rfl, hb3⟩
  have HB3 : Hid (RowKit.Below gx w w3) := HB2.out.trans (hb3.mono (by have := HB2.out.size; omega))
  have HBX3 : Hid (Bl w3 gx 100 #[.int .i64 rid, .slice IA ni ci, .slice OA no co, .slice SA ns cs]) := (hb3.block gx HBX2.out.lt).trans HBX2.out
  clear hb3 HO2 HBX2 HB2 c2
  have c2 : w3.cell? ⟨gx, 2, none⟩ = some (.slice OA no co) := HBX3.out.cell 2
  have c3 : w3.cell? ⟨gx, 3, none⟩ = some (.slice SA ns cs) := HBX3.out.cell 3
  cases b
  case false =>
    go_wp2
    go_ret
    exact ⟨_, rfl, by rw [hgx]; exact HB3.out⟩
  case true =>
  have hnn : ((ns : Int) == (no : Int)) = true := by simp; omega
  have hnn2 : (ns == no) = true := by simp; omega
  go_wp2_with fail
  have HS3 : Hid (Ints w3 SA ns sc) := HX.out.sc.below (by rw [hgx]; exact HB3.out)
  go_loop [3, 4] (fun q v => ∃ (i : Nat) (u : Int), v = .int .i64 (i : Int) ∧ q = .int .i64 u ∧ i ≤ ns ∧ 0 ≤ u ∧ u ≤ (i : Int) * 1000) (fun _ v => ns - (intOf v).toNat)
  case atStart => exact ⟨0, 0, rfl, rfl, Nat.zero_le _, by omega, by omega⟩
  case round =>
    obtain ⟨i, u, rfl, rfl, hi, hu0, hu1⟩ := hrel
    by_cases hlt : i < ns
    case neg =>
      have dk : decide ((i : Int) < (ns : Int)) = false := by simp; omega
      cases e1 : (u == 0)
      case false =>
        go_wp2
        go_ret
        exact ⟨_, rfl, by rw [hgx]; exact HB3.out⟩
      case true =>
        go_wp2
        go_ret
        exact ⟨_, rfl, by rw [hgx]; exact HB3.out⟩
    case pos =>
    have dk : decide ((i : Int) < (ns : Int)) = true := by simp; omega
    obtain ⟨b, off, z, e, _, hc, HZI⟩ := HS3.out.get hlt
    have hz : 0 ≤ z ∧ z ≤ 1000 := HR.out.scs z (by
      rw [← HZI.out, List.getD_eq_getElem?_getD, List.getElem?_eq_getElem (show i < sc.length by omega)]
      exact List.getElem_mem _)
    subst e
    have d5 : decide (z < 0) = false := by simp; omega
    have d6 : decide (z > 1000000) = false := by simp; omega
    have hii : (i : Int) < (ns : Int) := by omega
    have hiz : (0 : Int) ≤ (i : Int) := by omega
    have u1 : IntKind.i64.wrap (u + z) = u + z := IntWalk.i64_in _ (by omega)
    go_wp2_with fail
    go_round
    case rel => exact ⟨i + 1, u + z, by go_num, rfl, by omega, by omega, by omega⟩
    case measure => simp [intOf]; omega
end Go.Proofs.YthnhgjhnkncmiaaGreat

namespace Go.Proofs.YthnhgjhnkncmiaaGreat
open Go.RowKit
set_option linter.unusedVariables false

theorem btwP_snoc (l : List Sl) (x : Sl) (p f t : Int) : btwP (l ++ [x]) p f t = btwP l p f t ++ btwP [x] (p + cnt29 l) f t := by
  induction l generalizing p with
  | nil => simp [btwP, cnt29]
  | cons y ys ih =>
    rw [List.cons_append, btwP, ih, show cnt29 (y :: ys) = y.to - y.fr + cnt29 ys by simp [cnt29], show btwP (y :: ys) p f t = (if max (f - p) 0 < min (t - p) (y.to - y.fr) then [⟨y.src, y.fr + max (f - p) 0, y.fr + min (t - p) (y.to - y.fr)⟩] else []) ++ btwP ys (p + (y.to - y.fr)) f t from rfl, List.append_assoc, Int.add_assoc]
theorem btw_step {xs : List Sl} {i : Nat} (h : i < xs.length) (f t : Int) : (btwP (xs.take (i + 1)) 0 f t).foldl jstep [] = (btwP [xs[i]!] (cnt29 (xs.take i)) f t).foldl jstep ((btwP (xs.take i) 0 f t).foldl jstep []) := by
  rw [take_snoc29 _ _ h, btwP_snoc, List.foldl_append, Int.zero_add]
set_option maxRecDepth 100000 in
set_option maxHeartbeats 16000000 in
theorem Between_any (A : Option Addr) (n c : Nat) (xs : List Sl) (f t : Int) (w : World) (h : Recs encSl 3 w A n xs) (hv : SlsOk xs) (hn : n ≤ 10000) (hf0 : 0 ≤ f) (hf1 : f ≤ 10000000000000) (ht0 : 0 ≤ t) (ht1 : t ≤ 10000000000000) :
    Calls Tryz.prog 85 #[.slice A n c, .int .i64 f, .int .i64 t] w (SlRes29 w (betweenS xs f t)) := by
  have HX := Lib.hid h
  have HV := Lib.hid hv
  have hxl : xs.length = n := h.1
  clear h hv
  go_enter Tryz.func85, Tryz.ntmps85
  go_wp2_with fail
  go_loopw [7, 8, 9] (fun s q v wx => ∃ (i : Nat) (at_ : Int) (B : Option Addr) (k d : Nat) (os : List Sl), v = .int .i64 (i : Int) ∧ s = .slice B k d ∧ q = .int .i64 at_ ∧ i ≤ n ∧ k ≤ i ∧ 0 ≤ at_ ∧ at_ ≤ (i : Int) * 1000000000 ∧ Hid (at_ = cnt29 (xs.take i)) ∧ Hid (os = (btwP (xs.take i) 0 f t).foldl jstep []) ∧ Hid (os.length = k) ∧ Hid (wx.ownsRow w.heap.size 68 3 (.slice B k d) k (flat encSl os)) ∧ Hid (RowKit.Below w.heap.size w wx)) (fun _ _ v _ => n - (intOf v).toNat)
  case atStart => exact ⟨0, 0, none, 0, 0, [], rfl, rfl, rfl, Nat.zero_le _, Nat.le_refl _, by omega, by omega, (by show _ = _; simp [cnt29]), rfl, rfl, ⟨by simp [flat], .inl ⟨rfl, rfl⟩⟩, Below.refl _ _⟩
  case round =>
    obtain ⟨i, at_, B, k, d, os, rfl, rfl, rfl, hi, hki, hat0, hat1, HAT, HOS, HK, HO, HB⟩ := hrel
    by_cases hlt : i < n
    case neg =>
      have dk : decide ((i : Int) < (n : Int)) = false := by simp; omega
      have HJ : Hid (os = betweenS xs f t) := by show _ = _; rw [HOS.out, List.take_of_length_le (by omega)]; rfl
      go_wp2
      go_ret
      refine ⟨B, d, ?_, ?_, HB.out⟩
      · rw [← HJ.out, HK.out]; rfl
      · rw [← HJ.out, HK.out]; exact HO.out
    case pos =>
    have dk : decide ((i : Int) < (n : Int)) = true := by simp; omega
    obtain ⟨b1, o1, rfl, hb1, ha⟩ := recs_at (HX.out.below HB.out) hlt
    obtain ⟨x, hx⟩ : ∃ x, xs[i]! = x := ⟨_, rfl⟩
    rw [hx] at ha
    have a0 : wr.cell? ⟨b1, o1 + i * 3, none⟩ = some (.int .i64 x.src) := ha.out 0 (by omega)
    have a1 : wr.cell? ⟨b1, o1 + i * 3 + 1, none⟩ = some (.int .i64 x.fr) := ha.out 1 (by omega)
    have a2 : wr.cell? ⟨b1, o1 + i * 3 + 2, none⟩ = some (.int .i64 x.to) := ha.out 2 (by omega)
    have hxo := slOk_yes (HV.out x (by rw [← hx, getElem!_pos xs i (by omega)]; exact List.getElem_mem _))
    have HAT2 : Hid (at_ + (x.to - x.fr) = cnt29 (xs.take (i + 1))) := by show _ = _; rw [cnt29_take (by omega), hx, HAT.out]
    have HST : Hid ((btwP (xs.take (i + 1)) 0 f t).foldl jstep [] = (if max (f - at_) 0 < min (t - at_) (x.to - x.fr) then [(⟨x.src, x.fr + max (f - at_) 0, x.fr + min (t - at_) (x.to - x.fr)⟩ : Sl)] else []).foldl jstep os) := by
      show _ = _
      rw [btw_step (by omega), ← HOS.out, hx, ← HAT.out]
      simp [btwP]
    have hii : (i : Int) < (n : Int) := by omega
    have hiz : (0 : Int) ≤ (i : Int) := by omega
    obtain ⟨a, hA⟩ : ∃ a, max (f - at_) 0 = a := ⟨_, rfl⟩
    obtain ⟨b, hB⟩ : ∃ b, min (t - at_) (x.to - x.fr) = b := ⟨_, rfl⟩
    rw [hA, hB] at HST
    have u1 : IntKind.i64.wrap (x.to - x.fr) = x.to - x.fr := IntWalk.i64_in _ (by omega)
    have u2 : IntKind.i64.wrap (f - at_) = f - at_ := IntWalk.i64_in _ (by omega)
    have u3 : IntKind.i64.wrap (t - at_) = t - at_ := IntWalk.i64_in _ (by omega)
    have u4 : IntKind.i64.wrap (at_ + (x.to - x.fr)) = at_ + (x.to - x.fr) := IntWalk.i64_in _ (by omega)
    have ha0 : 0 ≤ a := by omega
    clear ha hx HOS HAT
    go_upto_region 6 with (fail)
    go_quiet (fail)
    have a0 : (wr.drewN nq).cell? ⟨b1, o1 + i * 3, none⟩ = some (.int .i64 x.src) := a0
    have a1 : (wr.drewN nq).cell? ⟨b1, o1 + i * 3 + 1, none⟩ = some (.int .i64 x.fr) := a1
    have a2 : (wr.drewN nq).cell? ⟨b1, o1 + i * 3 + 2, none⟩ = some (.int .i64 x.to) := a2
    have HO4 : Hid ((wr.drewN nq).ownsRow w.heap.size 68 3 (.slice B k d) k (flat encSl os)) := own_drewN HO.out nq
    have HB4 : Hid (RowKit.Below w.heap.size w (wr.drewN nq)) := below_drewN HB.out nq
    have hb4 : b1 < (wr.drewN nq).heap.size := hb1
    clear HO HB
    generalize wr.drewN nq = W4 at *
    by_cases hab : a ≥ b
    case pos =>
      have dab : decide (a ≥ b) = true := decide_eq_true hab
      have HST2 : Hid ((btwP (xs.take (i + 1)) 0 f t).foldl jstep [] = os) := by show _ = _; rw [HST.out, if_neg (by omega)]; rfl
      go_wp2_with fail
      go_roundw
      case rel => exact ⟨i + 1, at_ + (x.to - x.fr), B, k, d, os, by go_num, rfl, rfl, by omega, by omega, by omega, by omega, HAT2.out, (by show _ = _; rw [HST2.out]), HK.out, HO4.out, HB4.out⟩
      case measure => simp [intOf]; omega
    case neg =>
    have dab : decide (a ≥ b) = false := decide_eq_false hab
    have hab2 : a < b := by omega
    have HST2 : Hid ((btwP (xs.take (i + 1)) 0 f t).foldl jstep [] = jstep os ⟨x.src, x.fr + a, x.fr + b⟩) := by show _ = _; rw [HST.out, if_pos hab2]; rfl
    have u5 : IntKind.i64.wrap (x.fr + a) = x.fr + a := IntWalk.i64_in _ (by omega)
    have u6 : IntKind.i64.wrap (x.fr + b) = x.fr + b := IntWalk.i64_in _ (by omega)
    clear hab HST
    go_upto_region 10 with (fail)
    clear u1 u2 u3 hA hB dab dk
    have HBA : Hid (RowKit.Below W4.heap.size W4 (W4.alloc (Obj.cells #[.int .i64 0, .int .i64 0, .int .i64 0] 68))) := (Below.refl _ _).alloc (Nat.le_refl _) _
    have e0 := (HBA.out.cell (p := ⟨b1, o1 + i * 3, none⟩) hb4).trans a0
    have e1 := (HBA.out.cell (p := ⟨b1, o1 + i * 3 + 1, none⟩) hb4).trans a1
    have e2 := (HBA.out.cell (p := ⟨b1, o1 + i * 3 + 2, none⟩) hb4).trans a2
    go_region
    have HXB : Hid (Bl (W4.alloc (Obj.cells #[.int .i64 x.src, .int .i64 (x.fr + a), .int .i64 (x.fr + b)] 68)).drew W4.heap.size 68 #[.int .i64 x.src, .int .i64 (x.fr + a), .int .i64 (x.fr + b)]) := Bl.new _ _ _
    have HO : Hid ((W4.alloc (Obj.cells #[.int .i64 x.src, .int .i64 (x.fr + a), .int .i64 (x.fr + b)] 68)).drew.ownsRow w.heap.size 68 3 (.slice B k d) k (flat encSl os)) := own_drewN (own_alloc HO4.out _) 1
    have HB : Hid (RowKit.Below w.heap.size w (W4.alloc (Obj.cells #[.int .i64 x.src, .int .i64 (x.fr + a), .int .i64 (x.fr + b)] 68)).drew) := (HB4.out.alloc HB4.out.size _).drew
    have hkb : ∀ g, (Value.slice B k d).ownBlock = some g → g ≠ W4.heap.size := fun g hg e => by have := own_lt HO4.out g hg; omega
    clear a0 a1 a2 e0 e1 e2 HBA hb4 HB4 HO4 u5 u6
    generalize (W4.alloc (Obj.cells #[.int .i64 x.src, .int .i64 (x.fr + a), .int .i64 (x.fr + b)] 68)).drew = W5 at *
    generalize W4.heap.size = gx at *
    have a0 : W5.cell? ⟨gx, 0, none⟩ = some (.int .i64 x.src) := HXB.out.cell 0
    have a1 : W5.cell? ⟨gx, 1, none⟩ = some (.int .i64 (x.fr + a)) := HXB.out.cell 1
    have a2 : W5.cell? ⟨gx, 2, none⟩ = some (.int .i64 (x.fr + b)) := HXB.out.cell 2
    obtain ⟨x2, hx2⟩ : ∃ x2 : Sl, x2 = ⟨x.src, x.fr + a, x.fr + b⟩ := ⟨_, rfl⟩
    rw [show x.src = x2.src by rw [hx2]] at a0
    rw [show x.fr + a = x2.fr by rw [hx2]] at a1
    rw [show x.fr + b = x2.to by rw [hx2]] at a2
    rw [← hx2] at HST2
    clear hx2 HXB
    by_cases hk0 : k = 0
    case pos =>
      subst hk0
      have HJS : Hid (jstep os x2 = os ++ [x2]) := jstep_keep (y := default) (fun h0 => by have := HK.out; omega)
      go_upto_region 12 with (fail)
      go_quiet (fail)
      have HO6 : Hid ((W5.drewN nq).ownsRow w.heap.size 68 3 (.slice B 0 d) 0 (flat encSl os)) := own_drewN HO.out nq
      have HB6 : Hid (RowKit.Below w.heap.size w (W5.drewN nq)) := below_drewN HB.out nq
      have a0 : (W5.drewN nq).cell? ⟨gx, 0, none⟩ = some (.int .i64 x2.src) := a0
      have a1 : (W5.drewN nq).cell? ⟨gx, 1, none⟩ = some (.int .i64 x2.fr) := a1
      have a2 : (W5.drewN nq).cell? ⟨gx, 2, none⟩ = some (.int .i64 x2.to) := a2
      clear HO HB
      generalize W5.drewN nq = W6 at *
      have b0 : RowKit.Below w.heap.size w (W6.alloc (.cells #[.int .i64 x2.src, .int .i64 x2.fr, .int .i64 x2.to] 68)) := HB6.out.alloc HB6.out.size _
      have HOA : Hid ((W6.alloc (.cells #[.int .i64 x2.src, .int .i64 x2.fr, .int .i64 x2.to] 68)).ownsRow w.heap.size 68 3 (.slice B 0 d) 0 (flat encSl os)) := own_alloc HO6.out _
      have HBA := Lib.hid b0
      have HRD : Hid (Rd (W6.alloc (.cells #[.int .i64 x2.src, .int .i64 x2.fr, .int .i64 x2.to] 68)) 3 (some ⟨W6.heap.size, 0, none⟩) 1 (encSl x2)) := rd_bl (xs := encSl x2) (Bl.new _ _ _) rfl
      have HON := Lib.hid (encSl_one x2)
      have HM1 : Hid (0 + 1 ≤ maxLen ∧ (0 + 1) * 24 ≤ 140737488355328) := ⟨by unfold maxLen; omega, by omega⟩
      clear b0
      go_wp2_with (at_builtin; refine wpList_append_rd _ rfl (.tmp 100) (.tmp 102) 34 rfl w.heap.size 68 _ 3 24 Tryz.underlying34 infoSl rfl (by decide) (.slice B 0 d) 0 (flat encSl os) rfl HOA.out (some ⟨W6.heap.size, 0, none⟩) 1 _ (encSl x2) rfl HRD.out HON.out HM1.out.1 HM1.out.2 HBA.out.size ?_; intro v8 w8 ho8 hg8 hv8; obtain ⟨B8, d8, rfl⟩ := own_slice ho8)
      have hb8 : RowKit.Below w.heap.size w w8 := HBA.out.grown hg8 HBA.out.size (fun j hj => own_base HOA.out j hj)
      go_roundw
      case rel => exact ⟨i + 1, at_ + (x.to - x.fr), B8, 0 + 1, d8, os ++ [x2], by go_num, rfl, rfl, by omega, by omega, by omega, by omega, HAT2.out, (by show _ = _; rw [HST2.out]; exact HJS.out.symm), (by show _ = _; rw [List.length_append, HK.out]; rfl), (by show World.ownsRow _ _ _ _ _ _ _; rw [flat_append, flat_one]; exact ho8), hb8⟩
      case measure => simp [intOf]; omega
    case neg =>
    have dz : decide (0 < k) = true := by simp; omega
    have dz2 : decide ((k : Int) > 0) = true := by simp; omega
    obtain ⟨g, hA⟩ := own_addr HO.out (by omega)
    subst hA
    have hgx : g ≠ gx := hkb g rfl
    obtain ⟨y, hy⟩ : ∃ y, os[k - 1]! = y := ⟨_, rfl⟩
    have hc : ∀ c, c < 3 → W5.cell? ⟨g, (k - 1) * 3 + c, none⟩ = some ((encSl y)[c]!) := fun c hc => by rw [← hy]; exact own_cellK encSl_len HO.out (by rw [HK.out]; omega) hc HK.out
    have c0 : W5.cell? ⟨g, (k - 1) * 3, none⟩ = some (.int .i64 y.src) := hc 0 (by omega)
    have c2 : W5.cell? ⟨g, (k - 1) * 3 + 2, none⟩ = some (.int .i64 y.to) := hc 2 (by omega)
    have cf2 : W5.frozen? ⟨g, (k - 1) * 3 + 2, none⟩ = false := HO.out.frozenAt _
    have hk1 : (k : Int) - 1 = ((k - 1 : Nat) : Int) := by omega
    have w1 : IntKind.i64.wrap ((k : Int) - 1) = ((k - 1 : Nat) : Int) := by rw [hk1]; exact IntWalk.i64_in _ (by omega)
    have hkk : ((k - 1 : Nat) : Int) < (k : Int) := by omega
    have hkz : (0 : Int) ≤ ((k - 1 : Nat) : Int) := by omega
    have HLY : Hid (os[os.length - 1]! = y) := by show _ = _; rw [HK.out]; exact hy
    clear hc hk1 hy hkb
    by_cases e1 : y.src = x2.src
    case neg =>
      have d1 : (y.src == x2.src) = false := by simpa using e1
      have HJS : Hid (jstep os x2 = os ++ [x2]) := jstep_keep (y := y) (fun h0 => ⟨HLY.out, fun h => e1 h.1⟩)
      clear e1
      go_upto_region 12 with (fail)
      go_quiet (fail)
      have HO6 : Hid ((W5.drewN nq).ownsRow w.heap.size 68 3 (.slice (some ⟨g, 0, none⟩) k d) k (flat encSl os)) := own_drewN HO.out nq
      have HB6 : Hid (RowKit.Below w.heap.size w (W5.drewN nq)) := below_drewN HB.out nq
      have a0 : (W5.drewN nq).cell? ⟨gx, 0, none⟩ = some (.int .i64 x2.src) := a0
      have a1 : (W5.drewN nq).cell? ⟨gx, 1, none⟩ = some (.int .i64 x2.fr) := a1
      have a2 : (W5.drewN nq).cell? ⟨gx, 2, none⟩ = some (.int .i64 x2.to) := a2
      clear HO HB
      clear c0 c2 cf2
      generalize W5.drewN nq = W6 at *
      have b0 : RowKit.Below w.heap.size w (W6.alloc (.cells #[.int .i64 x2.src, .int .i64 x2.fr, .int .i64 x2.to] 68)) := HB6.out.alloc HB6.out.size _
      have HOA : Hid ((W6.alloc (.cells #[.int .i64 x2.src, .int .i64 x2.fr, .int .i64 x2.to] 68)).ownsRow w.heap.size 68 3 (.slice (some ⟨g, 0, none⟩) k d) k (flat encSl os)) := own_alloc HO6.out _
      have HBA := Lib.hid b0
      have HRD : Hid (Rd (W6.alloc (.cells #[.int .i64 x2.src, .int .i64 x2.fr, .int .i64 x2.to] 68)) 3 (some ⟨W6.heap.size, 0, none⟩) 1 (encSl x2)) := rd_bl (xs := encSl x2) (Bl.new _ _ _) rfl
      have HON := Lib.hid (encSl_one x2)
      have HM1 : Hid (k + 1 ≤ maxLen ∧ (k + 1) * 24 ≤ 140737488355328) := ⟨by unfold maxLen; omega, by omega⟩
      clear b0
      go_wp2_with (at_builtin; refine wpList_append_rd _ rfl (.tmp 100) (.tmp 102) 34 rfl w.heap.size 68 _ 3 24 Tryz.underlying34 infoSl rfl (by decide) (.slice (some ⟨g, 0, none⟩) k d) k (flat encSl os) rfl HOA.out (some ⟨W6.heap.size, 0, none⟩) 1 _ (encSl x2) rfl HRD.out HON.out HM1.out.1 HM1.out.2 HBA.out.size ?_; intro v8 w8 ho8 hg8 hv8; obtain ⟨B8, d8, rfl⟩ := own_slice ho8)
      have hb8 : RowKit.Below w.heap.size w w8 := HBA.out.grown hg8 HBA.out.size (fun j hj => own_base HOA.out j hj)
      go_roundw
      case rel => exact ⟨i + 1, at_ + (x.to - x.fr), B8, k + 1, d8, os ++ [x2], by go_num, rfl, rfl, by omega, by omega, by omega, by omega, HAT2.out, (by show _ = _; rw [HST2.out]; exact HJS.out.symm), (by show _ = _; rw [List.length_append, HK.out]; rfl), (by show World.ownsRow _ _ _ _ _ _ _; rw [flat_append, flat_one]; exact ho8), hb8⟩
      case measure => simp [intOf]; omega
    case pos =>
    have d1 : (y.src == x2.src) = true := by simpa using e1
    by_cases e2 : y.to = x2.fr
    case neg =>
      have d2 : (y.to == x2.fr) = false := by simpa using e2
      have HJS : Hid (jstep os x2 = os ++ [x2]) := jstep_keep (y := y) (fun h0 => ⟨HLY.out, fun h => e2 h.2⟩)
      clear e1 e2
      go_upto_region 12 with (fail)
      go_quiet (fail)
      have HO6 : Hid ((W5.drewN nq).ownsRow w.heap.size 68 3 (.slice (some ⟨g, 0, none⟩) k d) k (flat encSl os)) := own_drewN HO.out nq
      have HB6 : Hid (RowKit.Below w.heap.size w (W5.drewN nq)) := below_drewN HB.out nq
      have a0 : (W5.drewN nq).cell? ⟨gx, 0, none⟩ = some (.int .i64 x2.src) := a0
      have a1 : (W5.drewN nq).cell? ⟨gx, 1, none⟩ = some (.int .i64 x2.fr) := a1
      have a2 : (W5.drewN nq).cell? ⟨gx, 2, none⟩ = some (.int .i64 x2.to) := a2
      clear HO HB
      clear c0 c2 cf2
      generalize W5.drewN nq = W6 at *
      have b0 : RowKit.Below w.heap.size w (W6.alloc (.cells #[.int .i64 x2.src, .int .i64 x2.fr, .int .i64 x2.to] 68)) := HB6.out.alloc HB6.out.size _
      have HOA : Hid ((W6.alloc (.cells #[.int .i64 x2.src, .int .i64 x2.fr, .int .i64 x2.to] 68)).ownsRow w.heap.size 68 3 (.slice (some ⟨g, 0, none⟩) k d) k (flat encSl os)) := own_alloc HO6.out _
      have HBA := Lib.hid b0
      have HRD : Hid (Rd (W6.alloc (.cells #[.int .i64 x2.src, .int .i64 x2.fr, .int .i64 x2.to] 68)) 3 (some ⟨W6.heap.size, 0, none⟩) 1 (encSl x2)) := rd_bl (xs := encSl x2) (Bl.new _ _ _) rfl
      have HON := Lib.hid (encSl_one x2)
      have HM1 : Hid (k + 1 ≤ maxLen ∧ (k + 1) * 24 ≤ 140737488355328) := ⟨by unfold maxLen; omega, by omega⟩
      clear b0
      go_wp2_with (at_builtin; refine wpList_append_rd _ rfl (.tmp 100) (.tmp 102) 34 rfl w.heap.size 68 _ 3 24 Tryz.underlying34 infoSl rfl (by decide) (.slice (some ⟨g, 0, none⟩) k d) k (flat encSl os) rfl HOA.out (some ⟨W6.heap.size, 0, none⟩) 1 _ (encSl x2) rfl HRD.out HON.out HM1.out.1 HM1.out.2 HBA.out.size ?_; intro v8 w8 ho8 hg8 hv8; obtain ⟨B8, d8, rfl⟩ := own_slice ho8)
      have hb8 : RowKit.Below w.heap.size w w8 := HBA.out.grown hg8 HBA.out.size (fun j hj => own_base HOA.out j hj)
      go_roundw
      case rel => exact ⟨i + 1, at_ + (x.to - x.fr), B8, k + 1, d8, os ++ [x2], by go_num, rfl, rfl, by omega, by omega, by omega, by omega, HAT2.out, (by show _ = _; rw [HST2.out]; exact HJS.out.symm), (by show _ = _; rw [List.length_append, HK.out]; rfl), (by show World.ownsRow _ _ _ _ _ _ _; rw [flat_append, flat_one]; exact ho8), hb8⟩
      case measure => simp [intOf]; omega
    case pos =>
      have d2 : (y.to == x2.fr) = true := by simpa using e2
      have HJS : Hid (jstep os x2 = os.set (k - 1) ⟨y.src, y.fr, x2.to⟩) := by
        have := jstep_join (out := os) (x := x2) (by rw [HK.out]; omega) HLY.out e1 e2
        rwa [HK.out] at this
      have hkl : k - 1 < os.length := by rw [HK.out]; omega
      have HLY2 : Hid (os[k - 1]! = y) := by have := HLY.out; rwa [HK.out] at this
      clear e1 e2
      go_upto_region 12 with (fail)
      go_quiet (fail)
      have HO6 : Hid ((W5.drewN nq).ownsRow w.heap.size 68 3 (.slice (some ⟨g, 0, none⟩) k d) k (flat encSl os)) := own_drewN HO.out nq
      have HB6 : Hid (RowKit.Below w.heap.size w (W5.drewN nq)) := below_drewN HB.out nq
      have a0 : (W5.drewN nq).cell? ⟨gx, 0, none⟩ = some (.int .i64 x2.src) := a0
      have a1 : (W5.drewN nq).cell? ⟨gx, 1, none⟩ = some (.int .i64 x2.fr) := a1
      have a2 : (W5.drewN nq).cell? ⟨gx, 2, none⟩ = some (.int .i64 x2.to) := a2
      clear HO HB
      have c2 : (W5.drewN nq).cell? ⟨g, (k - 1) * 3 + 2, none⟩ = some (.int .i64 y.to) := c2
      have cf2 : (W5.drewN nq).frozen? ⟨g, (k - 1) * 3 + 2, none⟩ = false := cf2
      generalize W5.drewN nq = W6 at *
      have HO7 : Hid ((W6.setCell ⟨g, (k - 1) * 3 + 2, none⟩ (.int .i64 x2.to)).ownsRow w.heap.size 68 3 (.slice (some ⟨g, 0, none⟩) k d) k (flat encSl (os.set (k - 1) ⟨y.src, y.fr, x2.to⟩))) := own_setK (c := 2) encSl_len HO6.out (by omega) hkl (by rw [HLY2.out]; rfl)
      have HB7 : Hid (RowKit.Below w.heap.size w (W6.setCell ⟨g, (k - 1) * 3 + 2, none⟩ (.int .i64 x2.to))) := HB6.out.setCell (p := ⟨g, (k - 1) * 3 + 2, none⟩) (own_base HO6.out g rfl) _
      go_wp2_with fail
      go_roundw
      case rel => exact ⟨i + 1, at_ + (x.to - x.fr), some ⟨g, 0, none⟩, k, d, os.set (k - 1) ⟨y.src, y.fr, x2.to⟩, by go_num, rfl, rfl, by omega, by omega, by omega, by omega, HAT2.out, (by show _ = _; rw [HST2.out]; exact HJS.out.symm), (by show _ = _; rw [List.length_set]; exact HK.out), HO7, HB7⟩
      case measure => simp [intOf]; omega
end Go.Proofs.YthnhgjhnkncmiaaGreat

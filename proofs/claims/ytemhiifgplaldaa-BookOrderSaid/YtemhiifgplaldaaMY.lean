/-
  The law BookOrder: it returns true. Conditions: the lists read as integers, their lengths are at most their capacities.
-/
import Derived.Test.YtemhiifgplaldaaMT
import Derived.Test.YtemhiifgplaldaaMX
namespace Go.Proofs.Ytemhiifgplaldaa
open Go.RowKit
set_option linter.unusedVariables false

/-- The facts in another order. -/
def pickF (l : List Fct) (O : List Nat) : List Fct := O.map fun i => l[i]!
theorem pickF_perm {l : List Fct} {O : List Nat} (h : O.Perm (List.range l.length)) : (pickF l O).Perm l := by
  refine (h.map _).trans ?_
  have : (List.range l.length).map (fun i => l[i]!) = l := by
    apply List.ext_getElem
    · simp
    · intro i h1 h2
      rw [List.getElem_map, List.getElem_range, getElem!_pos l i h2]
  rw [this]

set_option maxRecDepth 100000 in
set_option maxHeartbeats 8000000 in
theorem bookOrder_any (A : Option Addr) (n c : Nat) (xs : List Int) (A' : Option Addr) (n' c' : Nat) (ys : List Int) (w : World) (h : Ints w A n xs) (hnc : n ≤ c) (hcm : c ≤ 9223372036854775807) (h' : Ints w A' n' ys) (hnc' : n' ≤ c') (hcm' : c' ≤ 9223372036854775807) :
    Calls Try.prog 5 #[.slice A n c, .slice A' n' c'] w (BRes w true) := by
  have HAW := Lib.hid awake22_any
  have HQF := Lib.hid (quotaFacts_any A n c xs w h hnc hcm)
  have HOR := Lib.hid (fun (k : Nat) (wx : World) (hb : RowKit.Below w.heap.size w wx) (hk : k ≤ 1000) => order_any k A' n' c' ys wx (h'.below hb) hnc' hcm' hk)
  clear h hnc hcm h' hnc' hcm'
  go_enter Try.func5, Try.ntmps5
  go_wp2_with fail
  refine HQF.out.mono ?_
  rintro e w1 ⟨q, l, B1, n1, d1, rfl, hqf, hl1, ho1, hb1⟩
  have HF := Lib.hid hqf
  have HL := Lib.hid hl1
  have hn24 : n1 ≤ 24 := by have := hqf.len; omega
  have hx1 := Bl.new w1 23 #[.int .i64 q.id, .int .i64 q.vol, .int .i64 q.fr, .int .i64 q.tod]
  have hB1 : RowKit.Below w.heap.size w (w1.alloc (.cells #[.int .i64 q.id, .int .i64 q.vol, .int .i64 q.fr, .int .i64 q.tod] 23)) := hb1.alloc hb1.size _
  have hr1 := (Recs.of_own encF_len ho1 hl1).alloc (.cells #[.int .i64 q.id, .int .i64 q.vol, .int .i64 q.fr, .int .i64 q.tod] 23)
  clear hqf hl1 ho1 hb1 HQF
  go_upto_region 2 with (fail)
  generalize w1.alloc (.cells #[.int .i64 q.id, .int .i64 q.vol, .int .i64 q.fr, .int .i64 q.tod] 23) = W1 at *
  generalize w1.heap.size = g3 at *
  go_wp2_with fail
  refine (HOR.out n1 _ hB1 (by omega)).mono ?_
  rintro e w2 ⟨C, dc, O, rfl, hop, hoo, hb2⟩
  have hB2 := hB1.trans (hb2.mono hB1.size)
  have hx2 := hx1.keep hb2
  have hr2 := hr1.below hb2
  have HOP := Lib.hid hop
  have HOL : Hid (O.length = n1) := by show _ = _; rw [hop.length_eq, List.length_range]
  have HOO := Lib.hid hoo
  clear hx1 hr1 hB1 hb2 hop hoo HOR
  go_wp2_with fail
  go_loopw [7, 9] (fun v i wx => ∃ (k : Nat) (B : Option Addr) (d : Nat), k ≤ n1 ∧ v = .slice B k d ∧ i = .int .i64 k ∧ wx.ownsRow w2.heap.size 39 5 (.slice B k d) k (flat encF (pickF l (O.take k))) ∧ RowKit.Below w2.heap.size w2 wx) (fun _ i _ => n1 - (intOf i).toNat)
  case atStart => exact ⟨0, none, 0, Nat.zero_le _, rfl, rfl, ⟨rfl, .inl ⟨rfl, rfl⟩⟩, Below.refl _ _⟩
  case round =>
    obtain ⟨k, B, d, hk, rfl, rfl, ho, hb⟩ := hrel
    by_cases hlt : k < n1
    · obtain ⟨g, hC, hgl, hOl, _, _, hcell⟩ := own_cellsI HOO.out (by omega)
      subst hC
      obtain ⟨y, hy⟩ : ∃ y, O[k]! = y := ⟨_, rfl⟩
      have hyl : y < n1 := by
        have : O[k]! ∈ O := by rw [getElem!_pos O k (by omega)]; exact List.getElem_mem _
        rw [hy] at this
        exact List.mem_range.1 (HOP.out.mem_iff.1 this)
      have ck : wr.cell? ⟨g, k, none⟩ = some (.int .i64 (y : Int)) := by
        rw [hb.cell (p := ⟨g, k, none⟩) hgl, hcell k hlt, hy]
      obtain ⟨b, off, x, hA, hbl, e0, e1, e2, e3, e4, HX⟩ := (hr2.below hb).getF hyl
      subst hA
      have HTK : Hid (pickF l (O.take (k + 1)) = pickF l (O.take k) ++ [x]) := by
        show _ = _
        unfold pickF
        rw [List.take_succ_eq_append_getElem (by omega), List.map_append]
        rw [getElem!_pos O k (by omega)] at hy
        simp [hy]
        have := HX.out
        simpa using this
      have hki : (k : Int) < n1 := by omega
      have hyi : (y : Int) < n1 := by omega
      have HOE := Lib.hid (own_alloc ho (.cells #[.int .i64 x.num, .int .i64 x.kind, .int .i64 x.day, .int .i64 x.id, .int .i64 x.qty] 39))
      have HRD : Hid (Rd (wr.alloc (.cells #[.int .i64 x.num, .int .i64 x.kind, .int .i64 x.day, .int .i64 x.id, .int .i64 x.qty] 39)) 5 (some ⟨wr.heap.size, 0, none⟩) 1 (encF x)) := rd_new wr 39 (encF x)
      have HON := Lib.hid (encF_one x)
      have HM1 : Hid (k + 1 ≤ maxLen ∧ (k + 1) * 40 ≤ 140737488355328) := ⟨by unfold maxLen; omega, by omega⟩
      have HBA : Hid (RowKit.Below w2.heap.size w2 (wr.alloc (.cells #[.int .i64 x.num, .int .i64 x.kind, .int .i64 x.day, .int .i64 x.id, .int .i64 x.qty] 39))) := hb.alloc hb.size _
      have HOB := Lib.hid (fun j hj => own_base ho j hj)
      clear ho hb hcell hy
      go_wp2_with (first
        | (at_builtin; refine wpList_append_rd _ rfl (.tmp 29) (.tmp 37) 24 rfl w2.heap.size 39 _ 5 40 Try.underlying24 infoF rfl (by decide) (.slice B k d) k _ rfl HOE.out (some ⟨wr.heap.size, 0, none⟩) 1 _ (encF x) rfl HRD.out HON.out HM1.out.1 HM1.out.2 HBA.out.size ?_; intro v6 w6 ho6 hg6 _; obtain ⟨B6, d6, rfl⟩ := own_slice ho6)
        | fail)
      have HB6 : Hid (RowKit.Below w2.heap.size w2 w6) := HBA.out.grown hg6 HBA.out.size (fun j hj => HOB.out j hj)
      have HO6 : Hid (w6.ownsRow w2.heap.size 39 5 (.slice B6 (k + 1) d6) (k + 1) (flat encF (pickF l (O.take (k + 1))))) := by
        show World.ownsRow _ _ _ _ _ _ _
        rw [HTK.out, flat_append, flat_one]
        exact ho6
      clear ho6 hg6
      go_roundw
      case rel => exact ⟨k + 1, B6, d6, by omega, rfl, by go_num, HO6.out, HB6.out⟩
      case measure => simp [intOf]; omega
    · obtain rfl : n1 = k := by omega
      rw [List.take_of_length_le (by have := HOL.out; omega)] at ho
      have HPP : Hid ((pickF l O).Perm l) := pickF_perm (by rw [HL.out]; exact HOP.out)
      have hx3 := hx2.keep hb
      have hr3 := hr2.below hb
      have hB3 := hB2.trans (hb.mono hB2.size)
      have hr3' : Recs encF 5 wr B n1 (pickF l O) := Recs.of_own encF_len ho (by rw [HPP.out.length_eq]; exact HL.out)
      have HLA := Lib.hid (lapply_any q B1 n1 d1 l wr hr3 (by omega) HF.out.qok (fun x hx => (HF.out.each x hx).1) HF.out.nodup)
      have hd0 : decide ((n1 : Int) < n1) = false := by simp
      clear hlt hx2 hr2 hB2 ho hb
      have p0 : wr.cell? ⟨g3, 0, none⟩ = some (.int .i64 q.id) := hx3.cell 0
      have p1 : wr.cell? ⟨g3, 1, none⟩ = some (.int .i64 q.vol) := hx3.cell 1
      have p2 : wr.cell? ⟨g3, 2, none⟩ = some (.int .i64 q.fr) := hx3.cell 2
      have p3 : wr.cell? ⟨g3, 3, none⟩ = some (.int .i64 q.tod) := hx3.cell 3
      go_wp2_with fail
      refine HLA.out.mono ?_
      rintro e wa ⟨fa, BA, da, rfl, hboa, hpma, hfra, hba⟩
      have hx4 := (hx3.keep hba).alloc (.cells #[.int .i64 q.id, .int .i64 q.vol, .int .i64 q.fr, .int .i64 q.tod, .slice BA n1 da] 26)
      have hy4 := Bl.new wa 26 #[.int .i64 q.id, .int .i64 q.vol, .int .i64 q.fr, .int .i64 q.tod, .slice BA n1 da]
      have hB4 : RowKit.Below w.heap.size w (wa.alloc (.cells #[.int .i64 q.id, .int .i64 q.vol, .int .i64 q.fr, .int .i64 q.tod, .slice BA n1 da] 26)) := (hB3.trans (hba.mono hB3.size)).alloc (Nat.le_trans hB3.size hba.size) _
      have hfr4 := hfra.below ((Below.refl _ _).alloc (Nat.le_refl _) (.cells #[.int .i64 q.id, .int .i64 q.vol, .int .i64 q.fr, .int .i64 q.tod, .slice BA n1 da] 26))
      have hr4' := (hr3'.below hba).alloc (.cells #[.int .i64 q.id, .int .i64 q.vol, .int .i64 q.fr, .int .i64 q.tod, .slice BA n1 da] 26)
      have HBOA := Lib.hid hboa
      have HPMA := Lib.hid hpma
      clear p0 p1 p2 p3 hx3 hB3 hba hfra hr3' hr3 hboa hpma HLA
      go_upto_region 9 with (fail)
      generalize wa.alloc (.cells #[.int .i64 q.id, .int .i64 q.vol, .int .i64 q.fr, .int .i64 q.tod, .slice BA n1 da] 26) = W4 at *
      generalize wa.heap.size = ga at *
      have HLB := Lib.hid (lapply_any q B n1 d (pickF l O) W4 hr4' (by omega) HF.out.qok (fun x hx => (HF.out.each x (HPP.out.mem_iff.1 hx)).1) ((HPP.out.map (·.num)).nodup_iff.2 HF.out.nodup))
      have p0 : W4.cell? ⟨g3, 0, none⟩ = some (.int .i64 q.id) := hx4.cell 0
      have p1 : W4.cell? ⟨g3, 1, none⟩ = some (.int .i64 q.vol) := hx4.cell 1
      have p2 : W4.cell? ⟨g3, 2, none⟩ = some (.int .i64 q.fr) := hx4.cell 2
      have p3 : W4.cell? ⟨g3, 3, none⟩ = some (.int .i64 q.tod) := hx4.cell 3
      go_wp2_with fail
      refine HLB.out.mono ?_
      rintro e wb ⟨fb, BB, db, rfl, hbob, hpmb, hfrb, hbb⟩
      obtain rfl : fa = fb := numAsc_ext HBOA.out.asc hbob.asc fun x => HPMA.out.mem_iff.trans ((hpmb.trans HPP.out).mem_iff).symm
      have hy5 := (hy4.keep hbb).alloc (.cells #[.int .i64 q.id, .int .i64 q.vol, .int .i64 q.fr, .int .i64 q.tod, .slice BB n1 db] 26)
      have hz5 := Bl.new wb 26 #[.int .i64 q.id, .int .i64 q.vol, .int .i64 q.fr, .int .i64 q.tod, .slice BB n1 db]
      have hB5 : RowKit.Below w.heap.size w (wb.alloc (.cells #[.int .i64 q.id, .int .i64 q.vol, .int .i64 q.fr, .int .i64 q.tod, .slice BB n1 db] 26)) := (hB4.trans (hbb.mono hB4.size)).alloc (Nat.le_trans hB4.size hbb.size) _
      have HFA := Lib.hid ((hfr4.below hbb).below ((Below.refl _ _).alloc (Nat.le_refl _) (.cells #[.int .i64 q.id, .int .i64 q.vol, .int .i64 q.fr, .int .i64 q.tod, .slice BB n1 db] 26)))
      have HFB := Lib.hid (hfrb.below ((Below.refl _ _).alloc (Nat.le_refl _) (.cells #[.int .i64 q.id, .int .i64 q.vol, .int .i64 q.fr, .int .i64 q.tod, .slice BB n1 db] 26)))
      clear p0 p1 p2 p3 hx4 hy4 hB4 hfr4 hr4' hbb hbob hpmb hfrb HLB
      go_upto_region 10 with (fail)
      generalize wb.alloc (.cells #[.int .i64 q.id, .int .i64 q.vol, .int .i64 q.fr, .int .i64 q.tod, .slice BB n1 db] 26) = W5 at *
      generalize wb.heap.size = gb at *
      have y0 : W5.cell? ⟨ga, 0, none⟩ = some (.int .i64 q.id) := hy5.c0
      have y1 : W5.cell? ⟨ga, 1, none⟩ = some (.int .i64 q.vol) := hy5.c1
      have y2 : W5.cell? ⟨ga, 2, none⟩ = some (.int .i64 q.fr) := hy5.c2
      have y3 : W5.cell? ⟨ga, 3, none⟩ = some (.int .i64 q.tod) := hy5.c3
      have y4 : W5.cell? ⟨ga, 4, none⟩ = some (.slice BA n1 da) := hy5.c4
      have z0 : W5.cell? ⟨gb, 0, none⟩ = some (.int .i64 q.id) := hz5.c0
      have z1 : W5.cell? ⟨gb, 1, none⟩ = some (.int .i64 q.vol) := hz5.c1
      have z2 : W5.cell? ⟨gb, 2, none⟩ = some (.int .i64 q.fr) := hz5.c2
      have z3 : W5.cell? ⟨gb, 3, none⟩ = some (.int .i64 q.tod) := hz5.c3
      have z4 : W5.cell? ⟨gb, 4, none⟩ = some (.slice BB n1 db) := hz5.c4
      have HY := Lib.hid hy5
      have HZ := Lib.hid hz5
      have HSB : Hid (∀ wx, RowKit.Below W5.heap.size W5 wx → Calls Try.prog 12 #[.agg #[.int .i64 q.id, .int .i64 q.vol, .int .i64 q.fr, .int .i64 q.tod, .slice BA n1 da], .agg #[.int .i64 q.id, .int .i64 q.vol, .int .i64 q.fr, .int .i64 q.tod, .slice BB n1 db]] wx fun e w' => e = .returned (.bool true) ∧ RowKit.Below W5.heap.size W5 w') := fun wx hb => (sameBook_true q BA BB n1 da db fa wx (HFA.out.recs.below hb) (HFB.out.recs.below hb) (by omega)).mono fun e w' ⟨h1, h2⟩ => ⟨h1, hb.trans (h2.mono hb.size)⟩
      have HGA : Hid (∀ wx, RowKit.Below W5.heap.size W5 wx → Calls Try.prog 20 #[.agg #[.int .i64 q.id, .int .i64 q.vol, .int .i64 q.fr, .int .i64 q.tod, .slice BA n1 da]] wx fun e w' => ∃ (C : Option Addr) (mm dd : Nat) (gs : List Rq) (bal : Int), e = .returned (.slice C mm dd) ∧ Hid (Settled fa q.vol gs bal) ∧ mm ≤ 200 ∧ Hid (Recs enc2 2 w' C mm (grs gs)) ∧ Hid (RowKit.Below W5.heap.size W5 w')) := fun wx hb => (grants_any q BA n1 da fa wx (HFA.out.recs.below hb) HBOA.out).mono fun e w' ⟨C, mm, dd, gs, bal, h1, h2, h3, h4, h5, h6⟩ => ⟨C, mm, dd, gs, bal, h1, h2, h4, Recs.of_own enc2_len h5 (by rw [grs_len, h3]), hb.trans (h6.mono hb.size)⟩
      have HGB : Hid (∀ wx, RowKit.Below W5.heap.size W5 wx → Calls Try.prog 20 #[.agg #[.int .i64 q.id, .int .i64 q.vol, .int .i64 q.fr, .int .i64 q.tod, .slice BB n1 db]] wx fun e w' => ∃ (C : Option Addr) (mm dd : Nat) (gs : List Rq) (bal : Int), e = .returned (.slice C mm dd) ∧ Hid (Settled fa q.vol gs bal) ∧ mm ≤ 200 ∧ Hid (Recs enc2 2 w' C mm (grs gs)) ∧ Hid (RowKit.Below W5.heap.size W5 w') ∧ Hid (RowKit.Below wx.heap.size wx w')) := fun wx hb => (grants_any q BB n1 db fa wx (HFB.out.recs.below hb) HBOA.out).mono fun e w' ⟨C, mm, dd, gs, bal, h1, h2, h3, h4, h5, h6⟩ => ⟨C, mm, dd, gs, bal, h1, h2, h4, Recs.of_own enc2_len h5 (by rw [grs_len, h3]), hb.trans (h6.mono hb.size), h6⟩
      have HB0 : Hid (RowKit.Below W5.heap.size W5 W5.drew) := (Below.refl _ _).drew
      have HSG : Hid (∀ (C1 : Option Addr) (m1 d1 : Nat) (g1 : List Rq) (b1 : Int) (C2 : Option Addr) (m2 d2 : Nat) (g2 : List Rq) (b2 : Int) (w2 w3 : World), Settled fa q.vol g1 b1 → Recs enc2 2 w2 C1 m1 (grs g1) → m1 ≤ 200 → Settled fa q.vol g2 b2 → Recs enc2 2 w3 C2 m2 (grs g2) → RowKit.Below w2.heap.size w2 w3 → RowKit.Below W5.heap.size W5 w3 → Calls Try.prog 19 #[.slice C1 m1 d1, .slice C2 m2 d2] w3 fun e w' => e = .returned (.bool true) ∧ Hid (RowKit.Below W5.heap.size W5 w')) := fun C1 m1 d1 g1 b1 C2 m2 d2 g2 b2 w2 w3 s1 r1 hm s2 r2 hb hbW => by
        obtain ⟨rfl, _⟩ := s1.unique s2
        obtain rfl : m1 = m2 := r1.1.symm.trans r2.1
        exact (sameGrants_true C1 C2 m1 d1 d2 _ w3 (r1.below hb) r2 (by omega)).mono fun e w' ⟨h1, h2⟩ => ⟨h1, hbW.trans (h2.mono hbW.size)⟩
      have HAW2 : Hid (∀ wx, RowKit.Below W5.heap.size W5 wx → Calls Try.prog 13 #[] wx fun e w' => e = .returned (.bool true) ∧ Hid (RowKit.Below W5.heap.size W5 w')) := fun wx hb => (HAW.out wx).mono fun e w' ⟨h1, h2⟩ => ⟨h1, hb.trans (h2.mono hb.size)⟩
      clear hy5 hz5
      go_region_held3 (fun w' => w'.cell? ⟨ga, 0, none⟩ = some (.int .i64 q.id) ∧ w'.cell? ⟨ga, 1, none⟩ = some (.int .i64 q.vol) ∧ w'.cell? ⟨ga, 2, none⟩ = some (.int .i64 q.fr) ∧ w'.cell? ⟨ga, 3, none⟩ = some (.int .i64 q.tod) ∧ w'.cell? ⟨ga, 4, none⟩ = some (.slice BA n1 da) ∧ w'.cell? ⟨gb, 0, none⟩ = some (.int .i64 q.id) ∧ w'.cell? ⟨gb, 1, none⟩ = some (.int .i64 q.vol) ∧ w'.cell? ⟨gb, 2, none⟩ = some (.int .i64 q.fr) ∧ w'.cell? ⟨gb, 3, none⟩ = some (.int .i64 q.tod) ∧ w'.cell? ⟨gb, 4, none⟩ = some (.slice BB n1 db))
        (first
          | with_reducible exact ⟨(HY.out.keep hv5.out).c0, (HY.out.keep hv5.out).c1, (HY.out.keep hv5.out).c2, (HY.out.keep hv5.out).c3, (HY.out.keep hv5.out).c4, (HZ.out.keep hv5.out).c0, (HZ.out.keep hv5.out).c1, (HZ.out.keep hv5.out).c2, (HZ.out.keep hv5.out).c3, (HZ.out.keep hv5.out).c4⟩
          | with_reducible exact ⟨(HY.out.keep hv4.out).c0, (HY.out.keep hv4.out).c1, (HY.out.keep hv4.out).c2, (HY.out.keep hv4.out).c3, (HY.out.keep hv4.out).c4, (HZ.out.keep hv4.out).c0, (HZ.out.keep hv4.out).c1, (HZ.out.keep hv4.out).c2, (HZ.out.keep hv4.out).c3, (HZ.out.keep hv4.out).c4⟩
          | with_reducible exact ⟨(HY.out.keep hv3.out).c0, (HY.out.keep hv3.out).c1, (HY.out.keep hv3.out).c2, (HY.out.keep hv3.out).c3, (HY.out.keep hv3.out).c4, (HZ.out.keep hv3.out).c0, (HZ.out.keep hv3.out).c1, (HZ.out.keep hv3.out).c2, (HZ.out.keep hv3.out).c3, (HZ.out.keep hv3.out).c4⟩
          | with_reducible exact ⟨(HY.out.keep hv2.out).c0, (HY.out.keep hv2.out).c1, (HY.out.keep hv2.out).c2, (HY.out.keep hv2.out).c3, (HY.out.keep hv2.out).c4, (HZ.out.keep hv2.out).c0, (HZ.out.keep hv2.out).c1, (HZ.out.keep hv2.out).c2, (HZ.out.keep hv2.out).c3, (HZ.out.keep hv2.out).c4⟩
          | with_reducible exact ⟨(HY.out.keep hv1.out).c0, (HY.out.keep hv1.out).c1, (HY.out.keep hv1.out).c2, (HY.out.keep hv1.out).c3, (HY.out.keep hv1.out).c4, (HZ.out.keep hv1.out).c0, (HZ.out.keep hv1.out).c1, (HZ.out.keep hv1.out).c2, (HZ.out.keep hv1.out).c3, (HZ.out.keep hv1.out).c4⟩
          | go_keep)
        (first
          | (go_at_call 12; with_reducible (refine (HSB.out _ HB0.out).mono ?_); rintro e v1 ⟨rfl, hv1'⟩; have hv1 := Lib.hid hv1'; clear hv1')
          | (go_at_call 20; with_reducible (refine (HGA.out _ hv1.out).mono ?_); rintro e v2 ⟨C2, m2, e2, s2, b2, rfl, hs2, hm2, hr2, hv2⟩)
          | (go_at_call 20; with_reducible (refine (HGB.out _ hv2.out).mono ?_); rintro e v3 ⟨C3, m3, e3, s3, b3, rfl, hs3, hm3, hr3, hv3, hvv3⟩)
          | (go_at_call 19; with_reducible (refine (HSG.out _ _ _ _ _ _ _ _ _ _ _ _ hs2.out hr2.out hm2 hs3.out hr3.out hvv3.out hv3.out).mono ?_); rintro e v4 ⟨rfl, hv4⟩)
          | (go_at_call 13; with_reducible (refine (HAW2.out _ hv4.out).mono ?_); rintro e v5 ⟨rfl, hv5⟩))
      go_wp2
      go_ret
      exact ⟨rfl, hB5.trans (hv5.out.mono hB5.size)⟩
end Go.Proofs.Ytemhiifgplaldaa

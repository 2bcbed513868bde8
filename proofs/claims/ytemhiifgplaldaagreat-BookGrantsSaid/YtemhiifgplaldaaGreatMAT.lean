/-
  The contract of the reference's Explain at valid books. No statement of the seat is proved here. Conditions: as typed.
  The contract of the reference's Grants at valid books. No statement of the seat is proved here. Conditions: as typed.
-/
import Derived.Test.YtemhiifgplaldaaGreatMAS
namespace Go.Proofs.YtemhiifgplaldaaGreat
open Go.RowKit
set_option linter.unusedVariables false

theorem Recs.getD' {w : World} {A : Option Addr} {n : Nat} {xs : List DayR} (h : Recs encD 4 w A n xs) {i : Nat} (hi : i < n) :
    ∃ b off x, A = some ⟨b, off, none⟩ ∧ b < w.heap.size ∧ w.cell? ⟨b, off + i * 4, none⟩ = some (.int .i64 x.day) ∧ w.cell? ⟨b, off + i * 4 + 1, none⟩ = some (.int .i64 x.avail) ∧ w.cell? ⟨b, off + i * 4 + 2, none⟩ = some (.int .i64 x.asked) ∧ w.cell? ⟨b, off + i * 4 + 3, none⟩ = some (.slice x.A x.n x.c) ∧ Hid (xs[i]! = x) := by
  obtain ⟨b, off, e, hlt, hc⟩ := h.at_ hi
  exact ⟨b, off, xs[i]!, e, hlt, hc 0 (by omega), hc 1 (by omega), hc 2 (by omega), hc 3 (by omega), rfl⟩
theorem own_n63 {w : World} {base size n : Nat} {e : TypeId} {v : Value} {xs : List Value} (h : w.ownsRow base e size v n xs) : n ≤ 9223372036854775807 := by
  rcases h.2 with ⟨h1, h2⟩ | ⟨g, cap, cur, h1, h2, h3, h4, h5, _⟩
  · omega
  · unfold maxLen at h5; omega
theorem cell_set5 (w : World) (g : Nat) (v0 v1 v2 v3 v4 : Value) (a : Addr) (h : a.block ≠ g) {u : Value} (hc : w.cell? a = some u) : (((((w.setCell ⟨g, 0, none⟩ v0).setCell ⟨g, 1, none⟩ v1).setCell ⟨g, 2, none⟩ v2).setCell ⟨g, 3, none⟩ v3).setCell ⟨g, 4, none⟩ v4).drew.cell? a = some u := by
  have e1 := heap_set5 w g v0 v1 v2 v3 v4 a.block h
  generalize ((((w.setCell ⟨g, 0, none⟩ v0).setCell ⟨g, 1, none⟩ v1).setCell ⟨g, 2, none⟩ v2).setCell ⟨g, 3, none⟩ v3).setCell ⟨g, 4, none⟩ v4 = w2 at *
  have e2 : w2.drew.cell? a = w2.cell? a := rfl
  rw [e2, World.cell?_of_block e1]
  exact hc
theorem gs_inj {gs : List Rq} (ha : ∀ i j, i < j → j < gs.length → gs[i]!.id < gs[j]!.id) {g g' : Rq} (h : g ∈ gs) (h' : g' ∈ gs) (e : g.id = g'.id) : g = g' := by
  obtain ⟨i, hi, rfl⟩ := List.getElem_of_mem h
  obtain ⟨j, hj, rfl⟩ := List.getElem_of_mem h'
  rcases Nat.lt_trichotomy i j with hij | hij | hij
  · have := ha i j hij hj; rw [getElem!_pos gs i hi, getElem!_pos gs j hj] at this; omega
  · subst hij; rfl
  · have := ha j i hij hi; rw [getElem!_pos gs i hi, getElem!_pos gs j hj] at this; omega
theorem settled_asc {fs : List Fct} {vol : Int} {gs : List Rq} {bal : Int} (h : Settled fs vol gs bal) : ∀ i j, i < j → j < gs.length → gs[i]!.id < gs[j]!.id := by
  obtain ⟨rs, h1, h2, h3, h4⟩ := settled_list.1 h
  exact h3
theorem settled_ids {fs : List Fct} {vol : Int} {gs : List Rq} {bal : Int} (h : Settled fs vol gs bal) (id : Int) : (∃ g ∈ gs, g.id = id) ↔ (askOf fs id).isSome = true := by
  obtain ⟨rs, h1, h2, h3, h4⟩ := settled_list.1 h
  have e : (gs.map (·.id)).Perm (rs.map (·.id)) := by rw [← runD_ids (trSum (trOf fs)) rs.length rs vol (Nat.le_refl _)]; exact h2.map _
  rw [← h1.mem id]
  constructor
  · rintro ⟨g, hg, rfl⟩
    obtain ⟨r, hr, e2⟩ := List.mem_map.1 (e.mem_iff.1 (List.mem_map.2 ⟨g, hg, rfl⟩))
    exact ⟨r, hr, e2⟩
  · rintro ⟨r, hr, rfl⟩
    obtain ⟨g, hg, e2⟩ := List.mem_map.1 (e.mem_iff.2 (List.mem_map.2 ⟨r, hr, rfl⟩))
    exact ⟨g, hg, e2⟩
theorem find_mem {gs : List Rq} (ha : ∀ i j, i < j → j < gs.length → gs[i]!.id < gs[j]!.id) {g : Rq} (h : g ∈ gs) : gs.find? (fun x => x.id == g.id) = some g := by
  cases hf : gs.find? (fun x => x.id == g.id) with
  | none => rw [List.find?_eq_none] at hf; exact absurd (hf g h) (by simp)
  | some y =>
    have h1 := List.mem_of_find?_eq_some hf
    have h2 := List.find?_some hf
    simp only [beq_iff_eq] at h2
    rw [gs_inj ha h1 h h2]
theorem DaysF.has {gs : List Rq} {bal left : Int} {ds : List DayR} (h : DaysF gs bal ds left) {g : Rq} (hg : g ∈ gs) {d : DayR} (hd : d ∈ ds) (e1 : d.day = g.day) : (g.id, g.grant) ∈ d.grants := by
  obtain ⟨d', hd', k1, k2, k3, k4⟩ := h.each g hg
  have hdd : d' = d := by
    obtain ⟨i, hi, rfl⟩ := List.getElem_of_mem hd
    obtain ⟨j, hj, rfl⟩ := List.getElem_of_mem hd'
    rcases Nat.lt_trichotomy i j with hij | hij | hij
    · have := List.pairwise_iff_getElem.1 h.asc i j hi hj hij; omega
    · subst hij; rfl
    · have := List.pairwise_iff_getElem.1 h.asc j i hj hi hij; omega
  subst hdd
  exact k4
/-- What the reference finds is what the settlement says. -/
theorem DaysF.found {fs : List Fct} {vol : Int} {gs : List Rq} {bal left : Int} {ds : List DayR} (h : DaysF gs bal ds left) (hs : Settled fs vol gs bal) {g : Rq} (hg : g ∈ gs) {d : DayR} (hd : d ∈ ds) (e1 : d.day = g.day) {p : Int × Int} (hp : p ∈ d.grants) (e2 : p.1 = g.id) : d.avail = g.avail ∧ d.asked = g.asked ∧ p.2 = g.grant := by
  obtain ⟨d', hd', k1, k2, k3, _⟩ := h.each g hg
  have hdd : d' = d := by
    obtain ⟨i, hi, rfl⟩ := List.getElem_of_mem hd
    obtain ⟨j, hj, rfl⟩ := List.getElem_of_mem hd'
    rcases Nat.lt_trichotomy i j with hij | hij | hij
    · have := List.pairwise_iff_getElem.1 h.asc i j hi hj hij; omega
    · subst hij; rfl
    · have := List.pairwise_iff_getElem.1 h.asc j i hj hi hij; omega
  subst hdd
  have hm : p ∈ ds.flatMap (·.grants) := List.mem_flatMap.2 ⟨_, hd, hp⟩
  obtain ⟨g', hg', rfl⟩ := List.mem_map.1 (h.perm.mem_iff.1 hm)
  rw [gs_inj (settled_asc hs) hg' hg e2]
  exact ⟨k2, k3, rfl⟩
theorem eff_find {fs : List Fct} {os : List Ak} (h : EffP fs fs os) {vol : Int} {gs : List Rq} {bal : Int} (hs : Settled fs vol gs bal) (hf : ∀ x ∈ fs, FOk x) (hi1 : ∀ x ∈ fs, x.kind = 1 → 1 ≤ x.id) (hv : 0 ≤ vol) {o : Ak} (ho : o ∈ os) : ∃ g ∈ gs, g.id = o.id ∧ g.day = o.day ∧ g.req = o.qty := by
  obtain ⟨g, hg, e⟩ := (settled_ids hs o.id).2 ((h.mem o.id).1 ⟨o, ho, rfl⟩)
  have hl := (hs.law hf hi1 hv).each g hg
  obtain ⟨f, hfo⟩ := Option.isSome_iff_exists.1 ((h.mem o.id).1 ⟨o, ho, rfl⟩)
  have h1 := h.val o ho f hfo
  refine ⟨g, hg, e, ?_, ?_⟩
  · rw [hl.2.2.2.2.2.1, e]; unfold rqOf; rw [hfo]; exact h1.1.symm
  · rw [hl.2.2.2.2.2.2, e]; unfold rqOf; rw [hfo]; exact h1.2.symm

set_option maxRecDepth 100000 in
set_option maxHeartbeats 8000000 in
theorem rexplain_any (q : Qt) (A : Option Addr) (n c : Nat) (fs : List Fct) (id : Int) (w : World) (h : Recs encF 5 w A n fs) (hok : BOk q fs) :
    Calls Tryz.prog 9 #[.agg #[.int .i64 q.id, .int .i64 q.vol, .int .i64 q.fr, .int .i64 q.tod, .slice A n c], .int .i64 id] w (ExRes w q fs id) := by
  have hn : n ≤ 200 := by have := hok.len; have := h.1; omega
  have HL := Lib.hid h.1
  have HV := Lib.hid (fun w' (hb : RowKit.Below w.heap.size w w') => rvalidBook_any q A n c fs w' (h.below hb) (by omega))
  rw [hok.err] at HV
  have HD := Lib.hid (fun w' (hb : RowKit.Below w.heap.size w w') => rdays_any q A n c fs w' (h.below hb) hok)
  have HRQ := Lib.hid (fun wx (hb : RowKit.Below w.heap.size w wx) => rrequests_any q A n c fs wx (h.below hb) hn (fun x hx => by have := (fErr_zero (hok.ok x hx)).1; unfold FOk at this; omega))
  have HG := Lib.hid hok.good
  clear h hok
  obtain ⟨W0, hW0⟩ : ∃ W, W = (w.alloc (.cells #[.int .i64 q.id, .int .i64 q.vol, .int .i64 q.fr, .int .i64 q.tod, .slice A n c] 27)).alloc (.cells #[.int .i64 0, .int .i64 0, .int .i64 0, .int .i64 0, .int .i64 0] 34) := ⟨_, rfl⟩
  have hb0 : RowKit.Below w.heap.size w W0 := by rw [hW0]; exact ((Below.refl _ _).alloc (Nat.le_refl _) _).alloc (by simp) _
  have hx0 : Bl W0 w.heap.size 27 #[.int .i64 q.id, .int .i64 q.vol, .int .i64 q.fr, .int .i64 q.tod, .slice A n c] := by rw [hW0]; exact (Bl.new w _ _).alloc _
  have hr0 : Bl W0 (w.heap.size + 1) 34 #[.int .i64 0, .int .i64 0, .int .i64 0, .int .i64 0, .int .i64 0] := by rw [hW0]; have := Bl.new (w.alloc (.cells #[.int .i64 q.id, .int .i64 q.vol, .int .i64 q.fr, .int .i64 q.tod, .slice A n c] 27)) 34 #[.int .i64 0, .int .i64 0, .int .i64 0, .int .i64 0, .int .i64 0]; simpa using this
  go_enter Tryz.func9, Tryz.ntmps9
  go_upto_region 1 with (fail)
  rw [← hW0]
  clear hW0
  have p0 : W0.cell? ⟨w.heap.size, 0, none⟩ = some (.int .i64 q.id) := hx0.c0
  have p1 : W0.cell? ⟨w.heap.size, 1, none⟩ = some (.int .i64 q.vol) := hx0.c1
  have p2 : W0.cell? ⟨w.heap.size, 2, none⟩ = some (.int .i64 q.fr) := hx0.c2
  have p3 : W0.cell? ⟨w.heap.size, 3, none⟩ = some (.int .i64 q.tod) := hx0.c3
  have p4 : W0.cell? ⟨w.heap.size, 4, none⟩ = some (.slice A n c) := hx0.c4
  go_wp2_with fail
  refine (HV.out _ hb0).mono ?_
  rintro e w1 ⟨rfl, hb1⟩
  have hB1 := hb0.trans (hb1.mono hb0.size)
  have hx1 := hx0.keep hb1
  have hr1 := hr0.keep hb1
  clear p0 p1 p2 p3 p4 hx0 hr0 hb0 hb1 HV
  have p0 : w1.cell? ⟨w.heap.size, 0, none⟩ = some (.int .i64 q.id) := hx1.c0
  have p1 : w1.cell? ⟨w.heap.size, 1, none⟩ = some (.int .i64 q.vol) := hx1.c1
  have p2 : w1.cell? ⟨w.heap.size, 2, none⟩ = some (.int .i64 q.fr) := hx1.c2
  have p3 : w1.cell? ⟨w.heap.size, 3, none⟩ = some (.int .i64 q.tod) := hx1.c3
  have p4 : w1.cell? ⟨w.heap.size, 4, none⟩ = some (.slice A n c) := hx1.c4
  go_wp2_with fail
  refine (HRQ.out _ hB1).mono ?_
  rintro e w2 ⟨Ba, ma, da, os, rfl, hef, hol, hml, hoa, hb2⟩
  have hB2 := hB1.trans (hb2.mono hB1.size)
  have hx2 := hx1.keep hb2
  have hr2 := hr1.keep hb2
  have HBA : Hid (∀ b, (Value.slice Ba ma da).ownBlock = some b → w.heap.size + 1 < b) := fun b e => by have := own_base hoa b e; have := hr1.lt; omega
  have HLT0 : Hid (w.heap.size + 1 < w2.heap.size) := hr2.lt
  have HEF := Lib.hid hef
  have HOL := Lib.hid hol
  have hma : ma ≤ 200 := by have := HL.out; omega
  have hros2 : Recs encA 3 w2 Ba ma os := Recs.of_own encA_len hoa hol
  clear p0 p1 p2 p3 p4 hx1 hr1 hB1 hb2 hef hol hml hoa HRQ
  have p0 : w2.cell? ⟨w.heap.size, 0, none⟩ = some (.int .i64 q.id) := hx2.c0
  have p1 : w2.cell? ⟨w.heap.size, 1, none⟩ = some (.int .i64 q.vol) := hx2.c1
  have p2 : w2.cell? ⟨w.heap.size, 2, none⟩ = some (.int .i64 q.fr) := hx2.c2
  have p3 : w2.cell? ⟨w.heap.size, 3, none⟩ = some (.int .i64 q.tod) := hx2.c3
  have p4 : w2.cell? ⟨w.heap.size, 4, none⟩ = some (.slice A n c) := hx2.c4
  go_wp2_with fail
  refine (HD.out _ hB2).mono ?_
  rintro e w3 ⟨B, m, d, ds, left, gs, bal, rfl, hst, hdf, hdl, hm5, ho, hmd, hb3⟩
  have HB3 := Lib.hid (hB2.trans (hb3.mono hB2.size))
  have HR3 := Lib.hid (hr2.keep hb3)
  have HST := Lib.hid hst
  have HDF := Lib.hid hdf
  have HDL := Lib.hid hdl
  have hros : Recs encA 3 w3 Ba ma os := hros2.below hb3
  have hrds : Recs encD 4 w3 B m ds := Recs.of_own encD_len ho hdl
  have HMD := Lib.hid hmd
  have HNB : Hid ((∀ b off, Ba = some ⟨b, off, none⟩ → b ≠ w.heap.size + 1) ∧ (∀ b off, B = some ⟨b, off, none⟩ → b ≠ w.heap.size + 1)) := ⟨fun b off e => by have := HBA.out b (by rw [e]; rfl); omega, fun b off e => by have := own_base ho b (by rw [e]; rfl); have := HLT0.out; omega⟩
  have HEX := Lib.hid (fun o (ho : o ∈ os) => eff_find HEF.out hst HG.out.ok HG.out.ids HG.out.v0 ho)
  clear p0 p1 p2 p3 p4 hx2 hr2 hB2 hb3 hst hdf hdl ho hmd hros2 HD
  go_wp2_with fail
  have HLT2 : Hid (w.heap.size + 1 < w2.heap.size) := HLT0.out
  go_loopw [9] (fun i wx => ∃ (k : Nat), k ≤ ma ∧ i = .int .i64 k ∧ Hid (∀ j, j < k → os[j]!.id ≠ id) ∧ w3 = wx) (fun i _ => ma - (intOf i).toNat)
  case atStart => exact ⟨0, Nat.zero_le _, rfl, fun j hj => by omega, rfl⟩
  case round =>
    obtain ⟨k, hk, rfl, HN, rfl⟩ := hrel
    by_cases hlt : k < ma
    · obtain ⟨b2, off2, y, hB, hbl, d0, d1, d2, HY⟩ := hros.getA hlt
      subst hB
      have hki : (k : Int) < ma := by omega
      by_cases g1 : y.id = id
      · have b1 : (y.id != id) = false := by simpa using g1
        obtain ⟨g, hgm, HGE⟩ : ∃ g ∈ gs, Hid (g.id = id ∧ g.day = y.day ∧ g.req = y.qty) := by
          obtain ⟨g, hg, e1, e2, e3⟩ := HEX.out os[k]! (by rw [getElem!_pos os k (by have := HOL.out; omega)]; exact List.getElem_mem _)
          rw [HY.out] at e1 e2 e3
          exact ⟨g, hg, by rw [e1]; exact g1, e2, e3⟩
        have HGM := Lib.hid hgm
        clear g1 hgm
        go_wp2_with fail
        go_loopw [10] (fun i wx => ∃ (k2 p : Nat), k2 ≤ m ∧ i = .int .i64 k2 ∧ Hid (∀ j, j < k2 → ds[j]!.day ≠ y.day) ∧ Hid (wx = w3.drewN p)) (fun i _ => m - (intOf i).toNat)
        case atStart => exact ⟨0, 0, Nat.zero_le _, rfl, fun j hj => by omega, rfl⟩
        case round =>
          obtain ⟨k2, p, hk2, rfl, HN2, HWQ⟩ := hrel
          have hrdw : Recs encD 4 wr B m ds := by rw [HWQ.out]; exact hrds.drewN p
          have d0w : wr.cell? ⟨b2, off2 + k * 3, none⟩ = some (.int .i64 y.day) := by rw [HWQ.out]; exact d0
          by_cases hlt2 : k2 < m
          · obtain ⟨b3, off3, x, hB3, hbl3, e0, e1, e2, e3, HX⟩ := hrdw.getD' hlt2
            subst hB3
            have hk2i : (k2 : Int) < m := by omega
            have HXM : Hid (x ∈ ds) := by have := HX.out; rw [getElem!_pos ds k2 (by have := HDL.out; omega)] at this; show x ∈ ds; rw [← this]; exact List.getElem_mem _
            by_cases g2 : x.day = y.day
            · have b2' : (x.day != y.day) = false := by simpa using g2
              have HHAS := Lib.hid (HDF.out.has HGM.out HXM.out (by rw [g2, HGE.out.2.1]))
              have HFND := Lib.hid (fun (pr : Int × Int) (hp : pr ∈ x.grants) (he : pr.1 = g.id) => HDF.out.found HST.out HGM.out HXM.out (by rw [g2, HGE.out.2.1]) hp he)
              have hog := HMD.out x HXM.out
              have HGL := Lib.hid hog.2
              have hrg : Recs enc2 2 w3 x.A x.n x.grants := Recs.of_own enc2_len hog.1 hog.2
              have hnx := own_n63 hog.1
              have HNEB : Hid (b2 ≠ w.heap.size + 1 ∧ b3 ≠ w.heap.size + 1 ∧ ∀ b4 off4, x.A = some ⟨b4, off4, none⟩ → b4 ≠ w.heap.size + 1) := ⟨HNB.out.1 _ _ rfl, HNB.out.2 _ _ rfl, fun b4 off4 e => by have := own_base hog.1 b4 (by rw [e]; rfl); have := HLT2.out; omega⟩
              clear hog
              have HE0 : Hid (w3.cell? ⟨b3, off3 + k2 * 4, none⟩ = some (.int .i64 x.day) ∧ w3.cell? ⟨b3, off3 + k2 * 4 + 1, none⟩ = some (.int .i64 x.avail) ∧ w3.cell? ⟨b3, off3 + k2 * 4 + 2, none⟩ = some (.int .i64 x.asked) ∧ w3.cell? ⟨b3, off3 + k2 * 4 + 3, none⟩ = some (.slice x.A x.n x.c)) := by
                rw [HWQ.out] at e0 e1 e2 e3
                exact ⟨e0, e1, e2, e3⟩
              clear g2
              go_upto_region 12 with (fail)
              go_quiet (fail)
              have HWQ2 := Lib.hid (drewN_add HWQ.out nq)
              clear e0 e1 e2 e3 d0w
              generalize wr.drewN nq = W4 at *
              go_wp2_with fail
              go_loopw [11] (fun i wx => ∃ (k3 : Nat), k3 ≤ x.n ∧ i = .int .i64 k3 ∧ Hid (∀ j, j < k3 → x.grants[j]!.1 ≠ id) ∧ W4 = wx) (fun i _ => x.n - (intOf i).toNat)
              case atStart => exact ⟨0, Nat.zero_le _, rfl, fun j hj => by omega, rfl⟩
              case round =>
                obtain ⟨k3, hk3, rfl, HN3, rfl⟩ := hrel
                have e0 : W4.cell? ⟨b3, off3 + k2 * 4, none⟩ = some (.int .i64 x.day) := by rw [HWQ2.out]; exact HE0.out.1
                have e1 : W4.cell? ⟨b3, off3 + k2 * 4 + 1, none⟩ = some (.int .i64 x.avail) := by rw [HWQ2.out]; exact HE0.out.2.1
                have e2 : W4.cell? ⟨b3, off3 + k2 * 4 + 2, none⟩ = some (.int .i64 x.asked) := by rw [HWQ2.out]; exact HE0.out.2.2.1
                have e3 : W4.cell? ⟨b3, off3 + k2 * 4 + 3, none⟩ = some (.slice x.A x.n x.c) := by rw [HWQ2.out]; exact HE0.out.2.2.2
                by_cases hlt3 : k3 < x.n
                · have hrgw : Recs enc2 2 W4 x.A x.n x.grants := by rw [HWQ2.out]; exact hrg.drewN _
                  obtain ⟨b4, off4, pi, pv, hA4, hbl4, c1, c2, HP⟩ := hrgw.get2 hlt3
                  rw [hA4] at e3
                  have hk3i : (k3 : Int) < x.n := by omega
                  by_cases g3 : pi = id
                  · have b3' : (pi == id) = true := by simpa using g3
                    have HRES : Hid (ExVal gs id = (.agg #[.int .i64 y.day, .int .i64 x.avail, .int .i64 x.asked, .int .i64 y.qty, .int .i64 pv], true)) := by
                      have hm : (pi, pv) ∈ x.grants := by rw [← HP.out, getElem!_pos x.grants k3 (by have := HGL.out; omega)]; exact List.getElem_mem _
                      have h1 := HFND.out (pi, pv) hm (by rw [HGE.out.1]; exact g3)
                      have h2 := find_mem (settled_asc HST.out) HGM.out
                      rw [HGE.out.1] at h2
                      show _ = _
                      unfold ExVal
                      rw [h2]
                      dsimp only
                      rw [HGE.out.2.1, h1.1, h1.2.1, HGE.out.2.2]
                      have h3 : pv = g.grant := h1.2.2
                      rw [h3]
                    have d0w : W4.cell? ⟨b2, off2 + k * 3, none⟩ = some (.int .i64 y.day) := by rw [HWQ2.out]; exact d0
                    have d2w : W4.cell? ⟨b2, off2 + k * 3 + 2, none⟩ = some (.int .i64 y.qty) := by rw [HWQ2.out]; exact d2
                    have HR4 : Hid (Bl W4 (w.heap.size + 1) 34 #[.int .i64 0, .int .i64 0, .int .i64 0, .int .i64 0, .int .i64 0]) := by show Bl _ _ _ _; rw [HWQ2.out]; exact HR3.out
                    have HB4 : Hid (RowKit.Below w.heap.size w W4) := by show RowKit.Below _ _ _; rw [HWQ2.out]; exact below_drewN HB3.out _
                    have r0 := HR4.out.c0
                    have r1 := HR4.out.c1
                    have r2 := HR4.out.c2
                    have r3 := HR4.out.c3
                    have r4 := HR4.out.c4
                    have f0 := HR4.out.free 0
                    have f1 := HR4.out.free 1
                    have f2 := HR4.out.free 2
                    have f3 := HR4.out.free 3
                    have f4 := HR4.out.free 4
                    clear g3 HWQ HWQ2 HE0
                    have neb2 : b2 ≠ w.heap.size + 1 := HNEB.out.1
                    have neb3 : b3 ≠ w.heap.size + 1 := HNEB.out.2.1
                    have neb4 : b4 ≠ w.heap.size + 1 := HNEB.out.2.2 b4 off4 hA4
                    have HKV : Hid (∀ w' : World, (∀ a u, a.block ≠ w.heap.size + 1 → W4.cell? a = some u → w'.cell? a = some u) → w'.cell? ⟨b2, off2 + k * 3, none⟩ = some (.int .i64 y.day) ∧ w'.cell? ⟨b2, off2 + k * 3 + 2, none⟩ = some (.int .i64 y.qty) ∧ w'.cell? ⟨b3, off3 + k2 * 4 + 1, none⟩ = some (.int .i64 x.avail) ∧ w'.cell? ⟨b3, off3 + k2 * 4 + 2, none⟩ = some (.int .i64 x.asked) ∧ w'.cell? ⟨b3, off3 + k2 * 4 + 3, none⟩ = some (.slice (some ⟨b4, off4, none⟩) x.n x.c) ∧ w'.cell? ⟨b4, off4 + k3 * 2 + 1, none⟩ = some (.int .i64 pv)) := fun w' hw => ⟨hw ⟨b2, off2 + k * 3, none⟩ _ neb2 d0w, hw ⟨b2, off2 + k * 3 + 2, none⟩ _ neb2 d2w, hw ⟨b3, off3 + k2 * 4 + 1, none⟩ _ neb3 e1, hw ⟨b3, off3 + k2 * 4 + 2, none⟩ _ neb3 e2, hw ⟨b3, off3 + k2 * 4 + 3, none⟩ _ neb3 e3, hw ⟨b4, off4 + k3 * 2 + 1, none⟩ _ neb4 c2⟩
                    have HKS := Lib.hid (HKV.out (((((W4.setCell ⟨w.heap.size + 1, 0, none⟩ (.int .i64 y.day)).setCell ⟨w.heap.size + 1, 1, none⟩ (.int .i64 x.avail)).setCell ⟨w.heap.size + 1, 2, none⟩ (.int .i64 x.asked)).setCell ⟨w.heap.size + 1, 3, none⟩ (.int .i64 y.qty)).setCell ⟨w.heap.size + 1, 4, none⟩ (.int .i64 pv)).drew (fun a u hn hc => cell_set5 _ _ _ _ _ _ _ a hn hc))
                    go_upto_region 17 with (fail)
                    go_region_held3 (fun w' => w'.cell? ⟨b2, off2 + k * 3, none⟩ = some (.int .i64 y.day) ∧ w'.cell? ⟨b2, off2 + k * 3 + 2, none⟩ = some (.int .i64 y.qty) ∧ w'.cell? ⟨b3, off3 + k2 * 4 + 1, none⟩ = some (.int .i64 x.avail) ∧ w'.cell? ⟨b3, off3 + k2 * 4 + 2, none⟩ = some (.int .i64 x.asked) ∧ w'.cell? ⟨b3, off3 + k2 * 4 + 3, none⟩ = some (.slice (some ⟨b4, off4, none⟩) x.n x.c) ∧ w'.cell? ⟨b4, off4 + k3 * 2 + 1, none⟩ = some (.int .i64 pv))
                      (first
                        | with_reducible exact HKS.out
                        | go_keep)
                      (fail)
                    go_wp2
                    have HRF := Lib.hid (set5_bl HR4.out (.int .i64 y.day) (.int .i64 x.avail) (.int .i64 x.asked) (.int .i64 y.qty) (.int .i64 pv)).drew
                    have k0 := HRF.out.c0
                    have k1 := HRF.out.c1
                    have k2' := HRF.out.c2
                    have k3' := HRF.out.c3
                    have k4 := HRF.out.c4
                    refine bodyPost_ret (v := .tuple #[.agg #[.int .i64 y.day, .int .i64 x.avail, .int .i64 x.asked, .int .i64 y.qty, .int .i64 pv], .bool true]) (by simp [results, Tryz.results9, go_sem, k0, k1, k2', k3', k4]) rfl ⟨gs, bal, HST.out, by rw [HRES.out], ?_⟩
                    exact (put5 HB4.out (by omega) _ _ _ _ _).drew
                  · have b3' : (pi == id) = false := by simpa using g3
                    have HN4 : Hid (∀ j, j < k3 + 1 → x.grants[j]!.1 ≠ id) := fun j hj => by
                      by_cases e : j = k3
                      · subst e; rw [HP.out]; exact g3
                      · exact HN3.out j (by omega)
                    clear g3
                    go_wp2_with fail
                    go_roundw
                    case rel => exact ⟨k3 + 1, by omega, by go_num, HN4, by first | rfl | trivial⟩
                    case measure => simp [intOf]; omega
                · exfalso
                  obtain ⟨j, hj, hj2⟩ := List.getElem_of_mem HHAS.out
                  have := HN3.out j (by have := HGL.out; omega)
                  rw [getElem!_pos x.grants j hj, hj2] at this
                  exact this HGE.out.1
            · have b2' : (x.day != y.day) = true := by simpa using g2
              have HN4 : Hid (∀ j, j < k2 + 1 → ds[j]!.day ≠ y.day) := fun j hj => by
                by_cases e : j = k2
                · subst e; rw [HX.out]; exact g2
                · exact HN2.out j (by omega)
              clear g2
              go_upto_region 12 with (fail)
              go_quiet (fail)
              go_wp2_with fail
              go_roundw
              case rel => exact ⟨k2 + 1, _, by omega, by go_num, HN4, drewN_add HWQ.out nq⟩
              case measure => simp [intOf]; omega
          · exfalso
            obtain ⟨d', hd', k1, _⟩ := HDF.out.each g HGM.out
            obtain ⟨j, hj, rfl⟩ := List.getElem_of_mem hd'
            have := HN2.out j (by have := HDL.out; omega)
            rw [getElem!_pos ds j hj] at this
            exact this (by rw [k1, HGE.out.2.1])
      · have b1 : (y.id != id) = true := by simpa using g1
        have HN2 : Hid (∀ j, j < k + 1 → os[j]!.id ≠ id) := fun j hj => by
          by_cases e : j = k
          · subst e; rw [HY.out]; exact g1
          · exact HN.out j (by omega)
        clear g1
        go_wp2_with fail
        go_roundw
        case rel => exact ⟨k + 1, by omega, by go_num, HN2, by first | rfl | trivial⟩
        case measure => simp [intOf]; omega
    · obtain rfl : ma = k := by omega
      have hd0 : decide ((ma : Int) < ma) = false := by simp
      have HNO : Hid (gs.find? (fun g => g.id == id) = none) := by
        show _ = _
        rw [List.find?_eq_none]
        intro g hg hgi
        simp only [beq_iff_eq] at hgi
        obtain ⟨o, ho, e⟩ := (HEF.out.mem id).2 ((settled_ids HST.out id).1 ⟨g, hg, hgi⟩)
        obtain ⟨j, hj, rfl⟩ := List.getElem_of_mem ho
        have := HN.out j (by have := HOL.out; omega)
        rw [getElem!_pos os j hj] at this
        exact this e
      clear hlt
      have r0 := HR3.out.c0
      have r1 := HR3.out.c1
      have r2 := HR3.out.c2
      have r3 := HR3.out.c3
      have r4 := HR3.out.c4
      have f0 := HR3.out.free 0
      have f1 := HR3.out.free 1
      have f2 := HR3.out.free 2
      have f3 := HR3.out.free 3
      have f4 := HR3.out.free 4
      go_wp2
      refine bodyPost_ret (v := .tuple #[.agg #[.int .i64 0, .int .i64 0, .int .i64 0, .int .i64 0, .int .i64 0], .bool false]) (by simp [results, Tryz.results9, go_sem, r0, r1, r2, r3, r4]) rfl ⟨gs, bal, HST.out, by unfold ExVal; rw [HNO.out], ?_⟩
      exact put5 HB3.out (by omega) _ _ _ _ _
end Go.Proofs.YtemhiifgplaldaaGreat

namespace Go.Proofs.YtemhiifgplaldaaGreat
open Go.RowKit
set_option linter.unusedVariables false

theorem nodup_len : ∀ (xs ys : List Int), xs.Nodup → (∀ x ∈ xs, x ∈ ys) → xs.length ≤ ys.length := by
  intro xs
  induction xs with
  | nil => intro ys _ _; simp
  | cons x xs ih =>
    intro ys hn hs
    rw [List.nodup_cons] at hn
    have hx := hs x (List.mem_cons_self ..)
    have h1 := ih (ys.erase x) hn.2 fun z hz => (List.mem_erase_of_ne (fun e => hn.1 (by rw [← e]; exact hz))).2 (hs z (List.mem_cons_of_mem _ hz))
    have h2 := List.length_erase_of_mem hx
    have h3 : 0 < ys.length := List.length_pos_of_mem hx
    simp only [List.length_cons]
    omega
theorem settled_len {fs : List Fct} {vol : Int} {gs : List Rq} {bal : Int} (h : Settled fs vol gs bal) : gs.length ≤ fs.length := by
  have h1 : (gs.map (·.id)).Nodup := by
    rw [List.Nodup, List.pairwise_map, List.pairwise_iff_getElem]
    intro i j hi hj hij e
    have := settled_asc h i j hij hj
    rw [getElem!_pos gs i hi, getElem!_pos gs j hj] at this
    omega
  have := nodup_len (gs.map (·.id)) (fs.map (·.id)) h1 fun x hx => by
    obtain ⟨g, hg, rfl⟩ := List.mem_map.1 hx
    obtain ⟨f, hf⟩ := Option.isSome_iff_exists.1 ((settled_ids h g.id).1 ⟨g, hg, rfl⟩)
    have h2 := List.find?_some hf
    simp only [Bool.and_eq_true, beq_iff_eq] at h2
    exact List.mem_map.2 ⟨f, List.mem_of_find?_eq_some hf, h2.2⟩
  simpa using this
/-- What has been gathered, in order of the IDs. -/
structure GatP (P o : List (Int × Int)) : Prop where
  perm : o.Perm P
  asc : o.Pairwise (fun a b => a.1 < b.1)
theorem GatP.ins {P o : List (Int × Int)} (h : GatP P o) {g : Int × Int} (hn : ∀ p ∈ P, p.1 ≠ g.1) {k : Nat} (hk : k ≤ o.length) (h1 : ∀ j, j < k → o[j]!.1 < g.1) (h2 : k < o.length → ¬ o[k]!.1 < g.1) : GatP (P ++ [g]) (o.take k ++ [g] ++ o.drop k) := by
  have hno : ∀ p ∈ o, p.1 ≠ g.1 := fun p hp => hn p (h.perm.mem_iff.1 hp)
  have ht : ∀ p ∈ o.take k, p.1 < g.1 := fun p hp => by
    obtain ⟨j, hj, hl, e⟩ := mem_take_get hp
    rw [← e]; exact h1 j hj
  have hd : ∀ p ∈ o.drop k, g.1 < p.1 := fun p hp => by
    obtain ⟨j, hj, hl, e⟩ := mem_drop_get hp
    have h3 := h2 (by omega)
    have h4 := hno p (List.mem_of_mem_drop hp)
    rw [← e] at h4 ⊢
    rcases Nat.eq_or_lt_of_le hj with rfl | hlt
    · omega
    · have := List.pairwise_iff_getElem.1 h.asc k j (by omega) hl hlt
      rw [getElem!_pos o k (by omega)] at h3
      rw [getElem!_pos o j hl] at h4 ⊢
      omega
  refine ⟨?_, ?_⟩
  · have e : (o.take k ++ [g] ++ o.drop k).Perm (o ++ [g]) := by
      have h3 := List.perm_append_comm (l₁ := [g]) (l₂ := o.drop k)
      have h4 := h3.append_left (o.take k)
      rw [← List.append_assoc, ← List.append_assoc, List.take_append_drop] at h4
      exact h4
    exact e.trans (h.perm.append_right [g])
  · rw [List.append_assoc, List.pairwise_append]
    refine ⟨h.asc.sublist (List.take_sublist _ _), ?_, fun a ha b hb => ?_⟩
    · rw [List.singleton_append, List.pairwise_cons]
      exact ⟨fun b hb => hd b hb, h.asc.sublist (List.drop_sublist _ _)⟩
    · rcases List.mem_append.1 hb with hb | hb
      · rw [List.mem_singleton] at hb; subst hb; exact ht a ha
      · exact Int.lt_trans (ht a ha) (hd b hb)
theorem GatP.fin {gs : List Rq} {P o : List (Int × Int)} (h : GatP P o) (hp : P.Perm (gs.map fun g => (g.id, g.grant))) (ha : ∀ i j, i < j → j < gs.length → gs[i]!.id < gs[j]!.id) : o = grs gs := by
  refine asc_ext (key := fun p : Int × Int => p.1) h.asc ?_ fun p => (h.perm.trans hp).mem_iff
  show (gs.map _).Pairwise _
  rw [List.pairwise_map, List.pairwise_iff_getElem]
  intro i j hi hj hij
  have := ha i j hij hj
  rw [getElem!_pos gs i hi, getElem!_pos gs j hj] at this
  exact this
/-- What the loops have gone through. -/
def gone (ds : List DayR) (i j : Nat) : List (Int × Int) := (ds.take i).flatMap (·.grants) ++ (ds[i]!.grants).take j
theorem gone_sub {ds : List DayR} {i : Nat} (hi : i < ds.length) (j : Nat) : (gone ds i j).Sublist (ds.flatMap (·.grants)) := by
  have e : ds.flatMap (·.grants) = (ds.take i).flatMap (·.grants) ++ (ds[i]!.grants ++ (ds.drop (i + 1)).flatMap (·.grants)) := by
    rw [getElem!_pos ds i hi]
    conv => lhs; rw [← List.take_append_drop i ds, List.drop_eq_getElem_cons hi]
    rw [List.flatMap_append, List.flatMap_cons]
  rw [e]
  exact List.Sublist.append (List.Sublist.refl _) ((List.take_sublist _ _).trans (List.sublist_append_left _ _))
theorem gone_zero (ds : List DayR) (i : Nat) : gone ds i 0 = (ds.take i).flatMap (·.grants) := by simp [gone]
theorem gone_succ {ds : List DayR} {i j : Nat} (hj : j < ds[i]!.grants.length) : gone ds i (j + 1) = gone ds i j ++ [ds[i]!.grants[j]!] := by
  unfold gone
  rw [List.take_succ_eq_append_getElem hj, List.append_assoc, getElem!_pos ds[i]!.grants j hj]
theorem gone_all {ds : List DayR} {i : Nat} (hi : i < ds.length) : gone ds i ds[i]!.grants.length = (ds.take (i + 1)).flatMap (·.grants) := by
  unfold gone
  rw [List.take_length, List.take_succ_eq_append_getElem hi, List.flatMap_append, getElem!_pos ds i hi]
  simp
theorem flatG_take (o : List (Int × Int)) (j : Nat) : flat enc2 (o.take j) = (flat enc2 o).take (j * 2) := by
  induction o generalizing j with
  | nil => simp [flat]
  | cons x o ih =>
    cases j with
    | zero => simp [flat]
    | succ j =>
      show enc2 x ++ flat enc2 (o.take j) = (enc2 x ++ flat enc2 o).take ((j + 1) * 2)
      rw [ih, show (j + 1) * 2 = (enc2 x).length + j * 2 by rw [enc2_len]; omega, List.take_length_add_append]
theorem flatG_drop (o : List (Int × Int)) (j : Nat) : flat enc2 (o.drop j) = (flat enc2 o).drop (j * 2) := by
  induction o generalizing j with
  | nil => simp [flat]
  | cons x o ih =>
    cases j with
    | zero => simp
    | succ j =>
      show flat enc2 (o.drop j) = (enc2 x ++ flat enc2 o).drop ((j + 1) * 2)
      rw [ih, show (j + 1) * 2 = (enc2 x).length + j * 2 by rw [enc2_len]; omega, List.drop_length_add_append]
theorem flatG_one (o : List (Int × Int)) : ∀ u ∈ flat enc2 o, u.oneCell' = true := fun u hu => by
  obtain ⟨x, _, hx⟩ := List.mem_flatMap.1 hu
  exact enc2_one x u hx
end Go.Proofs.YtemhiifgplaldaaGreat

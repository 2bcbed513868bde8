/-
  Contracts of quotabook's Balance, Grants and Explain at valid books, and of the reference's SameChanges and SameGrants at equal lists. No statement of the seat is proved here.
  Balance of the reference; Balance, Grants and Explain of books that are not valid. No statement of the seat is proved here. Conditions: as typed.
-/
import Derived.Test.YtemhiifgplaldaaGreatMAK
import Derived.Test.YtemhiifgplaldaaGreatMAR
namespace Go.Proofs.YtemhiifgplaldaaGreat
open Go.RowKit
set_option linter.unusedVariables false

theorem Recs.getG {w : World} {A : Option Addr} {n : Nat} {xs : List Cg} (h : Recs encG 3 w A n xs) {i : Nat} (hi : i < n) :
    ∃ b off x, A = some ⟨b, off, none⟩ ∧ b < w.heap.size ∧ w.cell? ⟨b, off + i * 3, none⟩ = some (.int .i64 x.id) ∧ w.cell? ⟨b, off + i * 3 + 1, none⟩ = some (.int .i64 x.before) ∧ w.cell? ⟨b, off + i * 3 + 2, none⟩ = some (.int .i64 x.after) ∧ Hid (xs[i]! = x) := by
  obtain ⟨b, off, e, hb, hc⟩ := h.at_ hi
  exact ⟨b, off, xs[i]!, e, hb, hc 0 (by omega), hc 1 (by omega), hc 2 (by omega), rfl⟩

set_option maxRecDepth 100000 in
set_option maxHeartbeats 2000000 in
theorem sameChanges_true (A B : Option Addr) (n c d : Nat) (fs : List Cg) (w : World) (hA : Recs encG 3 w A n fs) (hB : Recs encG 3 w B n fs) (hm : n ≤ 9223372036854775807) :
    Calls Tryz.prog 22 #[.slice A n c, .slice B n d] w (BRes w true) := by
  go_enter Tryz.func22, Tryz.ntmps22
  go_wp2
  go_loopw [5] (fun i wx => ∃ k : Nat, k ≤ n ∧ i = .int .i64 k ∧ RowKit.Below w.heap.size w wx) (fun i _ => n - (intOf i).toNat)
  case atStart => exact ⟨0, Nat.zero_le _, rfl, Below.refl _ _⟩
  case round =>
    obtain ⟨k, hk, rfl, hb⟩ := hrel
    by_cases hlt : k < n
    · obtain ⟨b, off, x, hA1, hbl, c0, c1, c2, HX⟩ := (hA.below hb).getG hlt
      obtain ⟨b', off', y, hB1, hbl', e0, e1, e2, HY⟩ := (hB.below hb).getG hlt
      obtain rfl : x = y := HX.out.symm.trans HY.out
      subst hA1 hB1
      have hki : (k : Int) < n := by omega
      go_upto_region 6 with (fail)
      go_quiet (fail)
      go_wp2_with fail
      go_roundw
      case rel => exact ⟨k + 1, by omega, by go_num, below_drewN hb _⟩
      case measure => simp [intOf]; omega
    · go_wp2
      go_ret
      exact ⟨rfl, hb⟩

set_option maxRecDepth 100000 in
set_option maxHeartbeats 2000000 in
theorem sameGrants_true (A B : Option Addr) (n c d : Nat) (fs : List (Int × Int)) (w : World) (hA : Recs enc2 2 w A n fs) (hB : Recs enc2 2 w B n fs) (hm : n ≤ 9223372036854775807) :
    Calls Tryz.prog 10 #[.slice A n c, .slice B n d] w (BRes w true) := by
  go_enter Tryz.func10, Tryz.ntmps10
  go_wp2
  go_loopw [5] (fun i wx => ∃ k : Nat, k ≤ n ∧ i = .int .i64 k ∧ RowKit.Below w.heap.size w wx) (fun i _ => n - (intOf i).toNat)
  case atStart => exact ⟨0, Nat.zero_le _, rfl, Below.refl _ _⟩
  case round =>
    obtain ⟨k, hk, rfl, hb⟩ := hrel
    by_cases hlt : k < n
    · obtain ⟨b, off, x, x2, hA1, hbl, c0, c1, HX⟩ := (hA.below hb).get2 hlt
      obtain ⟨b', off', y, y2, hB1, hbl', e0, e1, HY⟩ := (hB.below hb).get2 hlt
      obtain ⟨rfl, rfl⟩ : x = y ∧ x2 = y2 := by have := HX.out.symm.trans HY.out; injection this with a1 a2; exact ⟨a1, a2⟩
      subst hA1 hB1
      have hki : (k : Int) < n := by omega
      go_upto_region 6 with (fail)
      go_quiet (fail)
      go_wp2_with fail
      go_roundw
      case rel => exact ⟨k + 1, by omega, by go_num, below_drewN hb _⟩
      case measure => simp [intOf]; omega
    · go_wp2
      go_ret
      exact ⟨rfl, hb⟩

/-- What Balance returns. -/
def BalRes (w : World) (q : Qt) (fs : List Fct) (e : Ending) (w' : World) : Prop := ∃ (gs : List Rq) (bal : Int), e = .returned (.int .i64 bal) ∧ Settled fs q.vol gs bal ∧ RowKit.Below w.heap.size w w'

set_option maxRecDepth 100000 in
set_option maxHeartbeats 4000000 in
theorem balance_any (q : Qt) (A : Option Addr) (n c : Nat) (fs : List Fct) (w : World) (h : Recs encF 5 w A n fs) (hok : BOk q fs) :
    Calls Tryz.prog 13 #[.agg #[.int .i64 q.id, .int .i64 q.vol, .int .i64 q.fr, .int .i64 q.tod, .slice A n c]] w (BalRes w q fs) := by
  have hn200 : n ≤ 200 := by have := hok.len; have := h.1; omega
  have HG := Lib.hid hok.good
  have HV := Lib.hid (fun w' (hb : RowKit.Below w.heap.size w w') => bvalidate_any q A n c fs w' (h.below hb) (by omega))
  rw [hok.err] at HV
  have HS := Lib.hid (fun w' (hb : RowKit.Below w.heap.size w w') => settle_any q.id q.vol q.fr q.tod A n c fs w' (h.below hb) (by omega) HG.out.ok HG.out.ids HG.out.v0 HG.out.v1)
  clear h hok
  obtain ⟨W0, hW0⟩ : ∃ W, W = w.alloc (.cells #[.int .i64 q.id, .int .i64 q.vol, .int .i64 q.fr, .int .i64 q.tod, .slice A n c] 27) := ⟨_, rfl⟩
  have hb0 : RowKit.Below w.heap.size w W0 := by rw [hW0]; exact (Below.refl _ _).alloc (Nat.le_refl _) _
  have hx0 : Bl W0 w.heap.size 27 #[.int .i64 q.id, .int .i64 q.vol, .int .i64 q.fr, .int .i64 q.tod, .slice A n c] := by rw [hW0]; exact Bl.new w _ _
  go_enter Tryz.func13, Tryz.ntmps13
  go_upto_region 1 with (fail)
  rw [← hW0]
  clear hW0
  have p0 : W0.cell? ⟨w.heap.size, 0, none⟩ = some (.int .i64 q.id) := hx0.cell 0
  have p1 : W0.cell? ⟨w.heap.size, 1, none⟩ = some (.int .i64 q.vol) := hx0.cell 1
  have p2 : W0.cell? ⟨w.heap.size, 2, none⟩ = some (.int .i64 q.fr) := hx0.cell 2
  have p3 : W0.cell? ⟨w.heap.size, 3, none⟩ = some (.int .i64 q.tod) := hx0.cell 3
  have p4 : W0.cell? ⟨w.heap.size, 4, none⟩ = some (.slice A n c) := hx0.cell 4
  go_wp2_with fail
  refine (HV.out _ hb0).mono ?_
  rintro e w1 ⟨rfl, hb1⟩
  have hB1 := hb0.trans (hb1.mono hb0.size)
  have hx1 := hx0.keep hb1
  clear p0 p1 p2 p3 p4 hx0 hb0 hb1 HV
  have p0 : w1.cell? ⟨w.heap.size, 0, none⟩ = some (.int .i64 q.id) := hx1.cell 0
  have p1 : w1.cell? ⟨w.heap.size, 1, none⟩ = some (.int .i64 q.vol) := hx1.cell 1
  have p2 : w1.cell? ⟨w.heap.size, 2, none⟩ = some (.int .i64 q.fr) := hx1.cell 2
  have p3 : w1.cell? ⟨w.heap.size, 3, none⟩ = some (.int .i64 q.tod) := hx1.cell 3
  have p4 : w1.cell? ⟨w.heap.size, 4, none⟩ = some (.slice A n c) := hx1.cell 4
  go_wp2_with fail
  refine (HS.out _ hB1).mono ?_
  intro e w2 hres
  obtain ⟨B2, m2, d2, gs, bal, rfl, hst, hgl, hm2, ho2, hb2⟩ := hres.settled
  have hB2 := hB1.trans (hb2.mono hB1.size)
  have HST := Lib.hid hst
  have HGL := Lib.hid hgl
  have hm200 : m2 ≤ 200 := by have := HG.out.len; omega
  have hr : Recs encR 6 w2 B2 m2 gs := Recs.of_own encR_len ho2 hgl
  clear HS hres p0 p1 p2 p3 p4 hx1 ho2 hst hb2 hB1 hm2 hgl
  go_wp2
  go_ret
  exact ⟨gs, bal, rfl, HST.out, hB2⟩
/-- IDs and grants. -/
def grs (gs : List Rq) : List (Int × Int) := gs.map fun g => (g.id, g.grant)
theorem grs_len (gs : List Rq) : (grs gs).length = gs.length := by simp [grs]
theorem grs_snoc (gs : List Rq) (x : Rq) : grs (gs ++ [x]) = grs gs ++ [(x.id, x.grant)] := by simp [grs]
/-- What Grants returns. -/
def GrRes (w : World) (q : Qt) (fs : List Fct) (e : Ending) (w' : World) : Prop := ∃ (B : Option Addr) (m d : Nat) (gs : List Rq) (bal : Int), e = .returned (.slice B m d) ∧ Settled fs q.vol gs bal ∧ gs.length = m ∧ m ≤ 200 ∧ w'.ownsRow w.heap.size 75 2 (.slice B m d) m (flat enc2 (grs gs)) ∧ RowKit.Below w.heap.size w w'

set_option maxRecDepth 100000 in
set_option maxHeartbeats 4000000 in
theorem grants_any (q : Qt) (A : Option Addr) (n c : Nat) (fs : List Fct) (w : World) (h : Recs encF 5 w A n fs) (hok : BOk q fs) :
    Calls Tryz.prog 11 #[.agg #[.int .i64 q.id, .int .i64 q.vol, .int .i64 q.fr, .int .i64 q.tod, .slice A n c]] w (GrRes w q fs) := by
  have hn200 : n ≤ 200 := by have := hok.len; have := h.1; omega
  have HG := Lib.hid hok.good
  have HV := Lib.hid (fun w' (hb : RowKit.Below w.heap.size w w') => bvalidate_any q A n c fs w' (h.below hb) (by omega))
  rw [hok.err] at HV
  have HS := Lib.hid (fun w' (hb : RowKit.Below w.heap.size w w') => settle_any q.id q.vol q.fr q.tod A n c fs w' (h.below hb) (by omega) HG.out.ok HG.out.ids HG.out.v0 HG.out.v1)
  clear h hok
  obtain ⟨W0, hW0⟩ : ∃ W, W = w.alloc (.cells #[.int .i64 q.id, .int .i64 q.vol, .int .i64 q.fr, .int .i64 q.tod, .slice A n c] 27) := ⟨_, rfl⟩
  have hb0 : RowKit.Below w.heap.size w W0 := by rw [hW0]; exact (Below.refl _ _).alloc (Nat.le_refl _) _
  have hx0 : Bl W0 w.heap.size 27 #[.int .i64 q.id, .int .i64 q.vol, .int .i64 q.fr, .int .i64 q.tod, .slice A n c] := by rw [hW0]; exact Bl.new w _ _
  go_enter Tryz.func11, Tryz.ntmps11
  go_upto_region 1 with (fail)
  rw [← hW0]
  clear hW0
  have p0 : W0.cell? ⟨w.heap.size, 0, none⟩ = some (.int .i64 q.id) := hx0.cell 0
  have p1 : W0.cell? ⟨w.heap.size, 1, none⟩ = some (.int .i64 q.vol) := hx0.cell 1
  have p2 : W0.cell? ⟨w.heap.size, 2, none⟩ = some (.int .i64 q.fr) := hx0.cell 2
  have p3 : W0.cell? ⟨w.heap.size, 3, none⟩ = some (.int .i64 q.tod) := hx0.cell 3
  have p4 : W0.cell? ⟨w.heap.size, 4, none⟩ = some (.slice A n c) := hx0.cell 4
  go_wp2_with fail
  refine (HV.out _ hb0).mono ?_
  rintro e w1 ⟨rfl, hb1⟩
  have hB1 := hb0.trans (hb1.mono hb0.size)
  have hx1 := hx0.keep hb1
  clear p0 p1 p2 p3 p4 hx0 hb0 hb1 HV
  have p0 : w1.cell? ⟨w.heap.size, 0, none⟩ = some (.int .i64 q.id) := hx1.cell 0
  have p1 : w1.cell? ⟨w.heap.size, 1, none⟩ = some (.int .i64 q.vol) := hx1.cell 1
  have p2 : w1.cell? ⟨w.heap.size, 2, none⟩ = some (.int .i64 q.fr) := hx1.cell 2
  have p3 : w1.cell? ⟨w.heap.size, 3, none⟩ = some (.int .i64 q.tod) := hx1.cell 3
  have p4 : w1.cell? ⟨w.heap.size, 4, none⟩ = some (.slice A n c) := hx1.cell 4
  go_wp2_with fail
  refine (HS.out _ hB1).mono ?_
  intro e w2 hres
  obtain ⟨B2, m2, d2, gs, bal, rfl, hst, hgl, hm2, ho2, hb2⟩ := hres.settled
  have hB2 := hB1.trans (hb2.mono hB1.size)
  have HST := Lib.hid hst
  have HGL := Lib.hid hgl
  have hm200 : m2 ≤ 200 := by have := HG.out.len; omega
  have hr : Recs encR 6 w2 B2 m2 gs := Recs.of_own encR_len ho2 hgl
  clear HS hres p0 p1 p2 p3 p4 hx1 ho2 hst hb2 hB1 hm2 hgl
  have hww := hB2.size
  go_wp2_with fail
  go_loopw [3, 18] (fun v i wx => ∃ (k : Nat) (B : Option Addr) (d : Nat), k ≤ m2 ∧ i = .int .i64 k ∧ v = .slice B k d ∧ wx.ownsRow w2.heap.size 75 2 (.slice B k d) k (flat enc2 (grs (gs.take k))) ∧ RowKit.Below w2.heap.size w2 wx) (fun _ i _ => m2 - (intOf i).toNat)
  case atStart => exact ⟨0, none, 0, Nat.zero_le _, rfl, rfl, ⟨rfl, .inl ⟨rfl, rfl⟩⟩, Below.refl _ _⟩
  case round =>
    obtain ⟨k, B, d, hk, rfl, rfl, ho, hb⟩ := hrel
    by_cases hlt : k < m2
    · obtain ⟨b, off, x, hB, hbl, c0, c1, c2, c3, c4, c5, HX⟩ := (hr.below hb).getR hlt
      subst hB
      have HTK : Hid (grs (gs.take (k + 1)) = grs (gs.take k) ++ [(x.id, x.grant)]) := by
        have hx := HX.out
        rw [getElem!_pos gs k (by have := HGL.out; omega)] at hx
        show _ = _
        rw [List.take_succ_eq_append_getElem (by have := HGL.out; omega), hx, grs_snoc]
      have hb4 : RowKit.Below w2.heap.size w2 (wr.alloc (.cells #[.int .i64 x.id, .int .i64 x.day, .int .i64 x.avail, .int .i64 x.asked, .int .i64 x.req, .int .i64 x.grant] 64)) := hb.alloc hb.size _
      have hx4 := Bl.new wr 64 #[.int .i64 x.id, .int .i64 x.day, .int .i64 x.avail, .int .i64 x.asked, .int .i64 x.req, .int .i64 x.grant]
      have HR4 := Lib.hid (own_alloc ho (.cells #[.int .i64 x.id, .int .i64 x.day, .int .i64 x.avail, .int .i64 x.asked, .int .i64 x.req, .int .i64 x.grant] 64))
      clear ho
      go_upto_region 8 with (fail)
      clear c0 c1 c2 c3 c4 c5
      generalize wr.alloc (.cells #[.int .i64 x.id, .int .i64 x.day, .int .i64 x.avail, .int .i64 x.asked, .int .i64 x.req, .int .i64 x.grant] 64) = W4 at *
      generalize wr.heap.size = g4 at *
      have q0 : W4.cell? ⟨g4, 0, none⟩ = some (.int .i64 x.id) := hx4.cell 0
      have q5 : W4.cell? ⟨g4, 5, none⟩ = some (.int .i64 x.grant) := hx4.cell 5
      have l4 := hx4.lt
      clear hb hbl hx4
      have HOE := Lib.hid (own_alloc HR4.out (.cells #[.int .i64 x.id, .int .i64 x.grant] 75))
      have HRD : Hid (Rd (W4.alloc (.cells #[.int .i64 x.id, .int .i64 x.grant] 75)) 2 (some ⟨W4.heap.size, 0, none⟩) 1 (enc2 (x.id, x.grant))) := rd_new W4 75 (enc2 (x.id, x.grant))
      have HON : Hid (∀ u ∈ enc2 (x.id, x.grant), u.oneCell' = true) := enc2_one _
      have HM1 : Hid (k + 1 ≤ maxLen ∧ (k + 1) * 16 ≤ 140737488355328) := ⟨by unfold maxLen; omega, by omega⟩
      have HBA : Hid (RowKit.Below w2.heap.size w2 (W4.alloc (.cells #[.int .i64 x.id, .int .i64 x.grant] 75))) := hb4.alloc hb4.size _
      have HOB := Lib.hid (fun j hj => own_base HR4.out j hj)
      go_wp2_with (first
        | (at_builtin; refine wpList_append_rd _ rfl (.tmp 22) (.tmp 29) 38 rfl w2.heap.size 75 _ 2 16 Tryz.underlying38 infoG rfl (by decide) (.slice B k d) k _ rfl HOE.out (some ⟨W4.heap.size, 0, none⟩) 1 _ (enc2 (x.id, x.grant)) rfl HRD.out HON.out HM1.out.1 HM1.out.2 HBA.out.size ?_; intro v6 w6 ho6 hg6 _; obtain ⟨B6, d6, rfl⟩ := own_slice ho6))
      have HB6 : Hid (RowKit.Below w2.heap.size w2 w6) := HBA.out.grown hg6 HBA.out.size (fun j hj => HOB.out j hj)
      have HO6 : Hid (w6.ownsRow w2.heap.size 75 2 (.slice B6 (k + 1) d6) (k + 1) (flat enc2 (grs (gs.take (k + 1))))) := by
        show World.ownsRow _ _ _ _ _ _ _
        rw [HTK.out, flat_append, flat_one]
        exact ho6
      clear ho6 hg6
      go_roundw
      case rel => exact ⟨k + 1, B6, d6, by omega, by go_num, rfl, HO6.out, HB6.out⟩
      case measure => simp [intOf]; omega
    · obtain rfl : m2 = k := by omega
      rw [List.take_of_length_le (by have := HGL.out; omega)] at ho
      clear hlt
      go_wp2
      go_ret
      exact ⟨B, m2, d, gs, bal, rfl, HST.out, HGL.out, hm200, own_mono ho hww, hB2.trans (hb.mono hww)⟩

/-- What Explain returns. -/
def ExVal (gs : List Rq) (id : Int) : Value × Bool := match gs.find? (fun g => g.id == id) with
  | some x => (.agg #[.int .i64 x.day, .int .i64 x.avail, .int .i64 x.asked, .int .i64 x.req, .int .i64 x.grant], true)
  | none => (.agg #[.int .i64 0, .int .i64 0, .int .i64 0, .int .i64 0, .int .i64 0], false)
def ExRes (w : World) (q : Qt) (fs : List Fct) (id : Int) (e : Ending) (w' : World) : Prop := ∃ (gs : List Rq) (bal : Int), Settled fs q.vol gs bal ∧ e = .returned (.tuple #[(ExVal gs id).1, .bool (ExVal gs id).2]) ∧ RowKit.Below w.heap.size w w'
theorem find_first {gs : List Rq} {id : Int} {k : Nat} (hk : k < gs.length) (h : ∀ i, i < k → gs[i]!.id ≠ id) (he : gs[k]!.id = id) : gs.find? (fun g => g.id == id) = some gs[k]! := by
  rw [List.find?_eq_some_iff_getElem]
  refine ⟨by simpa using he, k, hk, (getElem!_pos gs k hk).symm, fun j hj => ?_⟩
  have := h j hj
  rw [getElem!_pos gs j (by omega)] at this
  simpa using this
theorem find_noneF {gs : List Rq} {id : Int} (h : ∀ i, i < gs.length → gs[i]!.id ≠ id) : gs.find? (fun g => g.id == id) = none := by
  rw [List.find?_eq_none]
  intro x hx
  obtain ⟨i, hi, rfl⟩ := List.getElem_of_mem hx
  have := h i hi
  rw [getElem!_pos gs i hi] at this
  simpa using this

set_option maxRecDepth 100000 in
set_option maxHeartbeats 4000000 in
theorem explain_any (q : Qt) (A : Option Addr) (n c : Nat) (fs : List Fct) (id : Int) (w : World) (h : Recs encF 5 w A n fs) (hok : BOk q fs) :
    Calls Tryz.prog 8 #[.agg #[.int .i64 q.id, .int .i64 q.vol, .int .i64 q.fr, .int .i64 q.tod, .slice A n c], .int .i64 id] w (ExRes w q fs id) := by
  have hn200 : n ≤ 200 := by have := hok.len; have := h.1; omega
  have HG := Lib.hid hok.good
  have HV := Lib.hid (fun w' (hb : RowKit.Below w.heap.size w w') => bvalidate_any q A n c fs w' (h.below hb) (by omega))
  rw [hok.err] at HV
  have HS := Lib.hid (fun w' (hb : RowKit.Below w.heap.size w w') => settle_any q.id q.vol q.fr q.tod A n c fs w' (h.below hb) (by omega) HG.out.ok HG.out.ids HG.out.v0 HG.out.v1)
  clear h hok
  obtain ⟨W0, hW0⟩ : ∃ W, W = (w.alloc (.cells #[.int .i64 q.id, .int .i64 q.vol, .int .i64 q.fr, .int .i64 q.tod, .slice A n c] 27)).alloc (.cells #[.int .i64 0, .int .i64 0, .int .i64 0, .int .i64 0, .int .i64 0] 34) := ⟨_, rfl⟩
  have hb0 : RowKit.Below w.heap.size w W0 := by rw [hW0]; exact ((Below.refl _ _).alloc (Nat.le_refl _) _).alloc (by simp) _
  have hx0 : Bl W0 w.heap.size 27 #[.int .i64 q.id, .int .i64 q.vol, .int .i64 q.fr, .int .i64 q.tod, .slice A n c] := by rw [hW0]; exact (Bl.new w _ _).alloc _
  have hr0 : Bl W0 (w.heap.size + 1) 34 #[.int .i64 0, .int .i64 0, .int .i64 0, .int .i64 0, .int .i64 0] := by rw [hW0]; have := Bl.new (w.alloc (.cells #[.int .i64 q.id, .int .i64 q.vol, .int .i64 q.fr, .int .i64 q.tod, .slice A n c] 27)) 34 #[.int .i64 0, .int .i64 0, .int .i64 0, .int .i64 0, .int .i64 0]; simpa using this
  go_enter Tryz.func8, Tryz.ntmps8
  go_upto_region 1 with (fail)
  rw [← hW0]
  clear hW0
  have p0 : W0.cell? ⟨w.heap.size, 0, none⟩ = some (.int .i64 q.id) := hx0.cell 0
  have p1 : W0.cell? ⟨w.heap.size, 1, none⟩ = some (.int .i64 q.vol) := hx0.cell 1
  have p2 : W0.cell? ⟨w.heap.size, 2, none⟩ = some (.int .i64 q.fr) := hx0.cell 2
  have p3 : W0.cell? ⟨w.heap.size, 3, none⟩ = some (.int .i64 q.tod) := hx0.cell 3
  have p4 : W0.cell? ⟨w.heap.size, 4, none⟩ = some (.slice A n c) := hx0.cell 4
  go_wp2_with fail
  refine (HV.out _ hb0).mono ?_
  rintro e w1 ⟨rfl, hb1⟩
  have hB1 := hb0.trans (hb1.mono hb0.size)
  have hx1 := hx0.keep hb1
  have hr1 := hr0.keep hb1
  clear p0 p1 p2 p3 p4 hx0 hb0 hb1 HV hr0
  have p0 : w1.cell? ⟨w.heap.size, 0, none⟩ = some (.int .i64 q.id) := hx1.cell 0
  have p1 : w1.cell? ⟨w.heap.size, 1, none⟩ = some (.int .i64 q.vol) := hx1.cell 1
  have p2 : w1.cell? ⟨w.heap.size, 2, none⟩ = some (.int .i64 q.fr) := hx1.cell 2
  have p3 : w1.cell? ⟨w.heap.size, 3, none⟩ = some (.int .i64 q.tod) := hx1.cell 3
  have p4 : w1.cell? ⟨w.heap.size, 4, none⟩ = some (.slice A n c) := hx1.cell 4
  go_wp2_with fail
  refine (HS.out _ hB1).mono ?_
  intro e w2 hres
  obtain ⟨B2, m2, d2, gs, bal, rfl, hst, hgl, hm2, ho2, hb2⟩ := hres.settled
  have hB2 := hB1.trans (hb2.mono hB1.size)
  have hr2 := hr1.keep hb2
  have HST := Lib.hid hst
  have HGL := Lib.hid hgl
  have hm200 : m2 ≤ 200 := by have := HG.out.len; omega
  have hr : Recs encR 6 w2 B2 m2 gs := Recs.of_own encR_len ho2 hgl
  clear HS hres p0 p1 p2 p3 p4 hx1 ho2 hst hb2 hB1 hm2 hgl hr1
  have hww := hB2.size
  go_wp2_with fail
  go_loopw [21] (fun i wx => ∃ (k : Nat), k ≤ m2 ∧ i = .int .i64 k ∧ Hid (∀ i, i < k → gs[i]!.id ≠ id) ∧ RowKit.Below w2.heap.size w2 wx) (fun i _ => m2 - (intOf i).toNat)
  case atStart => exact ⟨0, Nat.zero_le _, rfl, fun i hi => by omega, Below.refl _ _⟩
  case round =>
    obtain ⟨k, hk, rfl, HNE, hb⟩ := hrel
    by_cases hlt : k < m2
    · obtain ⟨b, off, x, hB, hbl, c0, c1, c2, c3, c4, c5, HX⟩ := (hr.below hb).getR hlt
      subst hB
      have hb4 : RowKit.Below w2.heap.size w2 (wr.alloc (.cells #[.int .i64 x.id, .int .i64 x.day, .int .i64 x.avail, .int .i64 x.asked, .int .i64 x.req, .int .i64 x.grant] 64)) := hb.alloc hb.size _
      have hx4 := Bl.new wr 64 #[.int .i64 x.id, .int .i64 x.day, .int .i64 x.avail, .int .i64 x.asked, .int .i64 x.req, .int .i64 x.grant]
      have hr4 := (hr2.keep hb).alloc (.cells #[.int .i64 x.id, .int .i64 x.day, .int .i64 x.avail, .int .i64 x.asked, .int .i64 x.req, .int .i64 x.grant] 64)
      go_upto_region 7 with (fail)
      clear c0 c1 c2 c3 c4 c5
      have hg4 := hr2.lt
      have hg5 := hb.size
      have n4 : w.heap.size + 1 ≠ wr.heap.size := by omega
      generalize wr.alloc (.cells #[.int .i64 x.id, .int .i64 x.day, .int .i64 x.avail, .int .i64 x.asked, .int .i64 x.req, .int .i64 x.grant] 64) = W4 at *
      generalize wr.heap.size = g4 at *
      have q0 : W4.cell? ⟨g4, 0, none⟩ = some (.int .i64 x.id) := hx4.cell 0
      have q1 : W4.cell? ⟨g4, 1, none⟩ = some (.int .i64 x.day) := hx4.cell 1
      have q2 : W4.cell? ⟨g4, 2, none⟩ = some (.int .i64 x.avail) := hx4.cell 2
      have q3 : W4.cell? ⟨g4, 3, none⟩ = some (.int .i64 x.asked) := hx4.cell 3
      have q4 : W4.cell? ⟨g4, 4, none⟩ = some (.int .i64 x.req) := hx4.cell 4
      have q5 : W4.cell? ⟨g4, 5, none⟩ = some (.int .i64 x.grant) := hx4.cell 5
      by_cases e : x.id = id
      · have be : (x.id == id) = true := by simpa using e
        have HE : Hid (gs.find? (fun g => g.id == id) = some x) := by
          have h1 := find_first (gs := gs) (id := id) (k := k) (by have := HGL.out; omega) HNE.out (by rw [HX.out]; exact e)
          rwa [HX.out] at h1
        have r0 : W4.cell? ⟨w.heap.size + 1, 0, none⟩ = some (.int .i64 0) := hr4.cell 0
        have f0 : W4.frozen? ⟨w.heap.size + 1, 0, none⟩ = false := hr4.free 0
        have r1 : W4.cell? ⟨w.heap.size + 1, 1, none⟩ = some (.int .i64 0) := hr4.cell 1
        have f1 : W4.frozen? ⟨w.heap.size + 1, 1, none⟩ = false := hr4.free 1
        have r2 : W4.cell? ⟨w.heap.size + 1, 2, none⟩ = some (.int .i64 0) := hr4.cell 2
        have f2 : W4.frozen? ⟨w.heap.size + 1, 2, none⟩ = false := hr4.free 2
        have r3 : W4.cell? ⟨w.heap.size + 1, 3, none⟩ = some (.int .i64 0) := hr4.cell 3
        have f3 : W4.frozen? ⟨w.heap.size + 1, 3, none⟩ = false := hr4.free 3
        have r4 : W4.cell? ⟨w.heap.size + 1, 4, none⟩ = some (.int .i64 0) := hr4.cell 4
        have f4 : W4.frozen? ⟨w.heap.size + 1, 4, none⟩ = false := hr4.free 4
        have HB4 := Lib.hid (hB2.trans (hb4.mono hww))
        clear e hx4 hr4 hb hbl
        go_wp2
        refine bodyPost_ret (v := .tuple #[.agg #[.int .i64 x.day, .int .i64 x.avail, .int .i64 x.asked, .int .i64 x.req, .int .i64 x.grant], .bool true]) (by simp [results, Tryz.results8, go_sem, r0, r1, r2, r3, r4]) rfl ⟨gs, bal, HST.out, by unfold ExVal; rw [HE.out], ?_⟩
        exact put5 HB4.out (by omega) _ _ _ _ _
      · have be : (x.id == id) = false := by simpa using e
        have HNE2 : Hid (∀ i, i < k + 1 → gs[i]!.id ≠ id) := fun i hi => by
          by_cases q : i = k
          · subst q; rw [HX.out]; exact e
          · exact HNE.out i (by omega)
        clear e hx4 hr4 hb hbl
        go_wp2_with fail
        go_roundw
        case rel => exact ⟨k + 1, by omega, by go_num, HNE2, hb4⟩
        case measure => simp [intOf]; omega
    · obtain rfl : m2 = k := by omega
      have HE : Hid (gs.find? (fun g => g.id == id) = none) := find_noneF (fun i hi => HNE.out i (by have := HGL.out; omega))
      have hr4 := hr2.keep hb
      have r0 : wr.cell? ⟨w.heap.size + 1, 0, none⟩ = some (.int .i64 0) := hr4.cell 0
      have f0 : wr.frozen? ⟨w.heap.size + 1, 0, none⟩ = false := hr4.free 0
      have r1 : wr.cell? ⟨w.heap.size + 1, 1, none⟩ = some (.int .i64 0) := hr4.cell 1
      have f1 : wr.frozen? ⟨w.heap.size + 1, 1, none⟩ = false := hr4.free 1
      have r2 : wr.cell? ⟨w.heap.size + 1, 2, none⟩ = some (.int .i64 0) := hr4.cell 2
      have f2 : wr.frozen? ⟨w.heap.size + 1, 2, none⟩ = false := hr4.free 2
      have r3 : wr.cell? ⟨w.heap.size + 1, 3, none⟩ = some (.int .i64 0) := hr4.cell 3
      have f3 : wr.frozen? ⟨w.heap.size + 1, 3, none⟩ = false := hr4.free 3
      have r4 : wr.cell? ⟨w.heap.size + 1, 4, none⟩ = some (.int .i64 0) := hr4.cell 4
      have f4 : wr.frozen? ⟨w.heap.size + 1, 4, none⟩ = false := hr4.free 4
      clear hlt hr4
      go_wp2
      refine bodyPost_ret (v := .tuple #[.agg #[.int .i64 0, .int .i64 0, .int .i64 0, .int .i64 0, .int .i64 0], .bool false]) (by simp [results, Tryz.results8, go_sem, r0, r1, r2, r3, r4]) rfl ⟨gs, bal, HST.out, by unfold ExVal; rw [HE.out], ?_⟩
      exact put5 (hB2.trans (hb.mono hww)) (by omega) _ _ _ _ _
end Go.Proofs.YtemhiifgplaldaaGreat

namespace Go.Proofs.YtemhiifgplaldaaGreat
open Go.RowKit
set_option linter.unusedVariables false

set_option maxRecDepth 100000 in
set_option maxHeartbeats 2000000 in
theorem balance_bad (q : Qt) (A : Option Addr) (n c : Nat) (fs : List Fct) (w : World) (h : Recs encF 5 w A n fs) (hn : n ≤ 1000000) (he : bErr q fs ≠ 0) :
    Calls Tryz.prog 13 #[.agg #[.int .i64 q.id, .int .i64 q.vol, .int .i64 q.fr, .int .i64 q.tod, .slice A n c]] w fun e w' => e = .returned (.int .i64 0) ∧ RowKit.Below w.heap.size w w' := by
  have HV := Lib.hid (fun w' (hb : RowKit.Below w.heap.size w w') => bvalidate_any q A n c fs w' (h.below hb) (by omega))
  obtain ⟨er, her⟩ : ∃ er, bErr q fs = er := ⟨_, rfl⟩
  rw [her] at he HV
  have be : (er != 0) = true := by simpa using he
  clear h her he
  obtain ⟨W0, hW0⟩ : ∃ W, W = w.alloc (.cells #[.int .i64 q.id, .int .i64 q.vol, .int .i64 q.fr, .int .i64 q.tod, .slice A n c] 27) := ⟨_, rfl⟩
  have hb0 : RowKit.Below w.heap.size w W0 := by rw [hW0]; exact (Below.refl _ _).alloc (Nat.le_refl _) _
  have hx0 : Bl W0 w.heap.size 27 #[.int .i64 q.id, .int .i64 q.vol, .int .i64 q.fr, .int .i64 q.tod, .slice A n c] := by rw [hW0]; exact Bl.new w _ _
  go_enter Tryz.func13, Tryz.ntmps13
  go_upto_region 1 with (fail)
  rw [← hW0]
  clear hW0
  have p0 : W0.cell? ⟨w.heap.size, 0, none⟩ = some (.int .i64 q.id) := hx0.c0
  have p1 : W0.cell? ⟨w.heap.size, 1, none⟩ = some (.int .i64 q.vol) := hx0.c1
  have p2 : W0.cell? ⟨w.heap.size, 2, none⟩ = some (.int .i64 q.fr) := hx0.c2
  have p3 : W0.cell? ⟨w.heap.size, 3, none⟩ = some (.int .i64 q.tod) := hx0.c3
  have p4 : W0.cell? ⟨w.heap.size, 4, none⟩ = some (.slice A n c) := hx0.c4
  go_wp2_with fail
  refine (HV.out _ hb0).mono ?_
  rintro e w1 ⟨rfl, hb1⟩
  go_wp2
  go_ret
  exact ⟨rfl, hb0.trans (hb1.mono hb0.size)⟩

set_option maxRecDepth 100000 in
set_option maxHeartbeats 2000000 in
theorem rbalance_bad (q : Qt) (A : Option Addr) (n c : Nat) (fs : List Fct) (w : World) (h : Recs encF 5 w A n fs) (hn : n ≤ 1000000) (he : bErr q fs ≠ 0) :
    Calls Tryz.prog 14 #[.agg #[.int .i64 q.id, .int .i64 q.vol, .int .i64 q.fr, .int .i64 q.tod, .slice A n c]] w fun e w' => e = .returned (.int .i64 0) ∧ RowKit.Below w.heap.size w w' := by
  have HV := Lib.hid (fun w' (hb : RowKit.Below w.heap.size w w') => rvalidBook_any q A n c fs w' (h.below hb) (by omega))
  obtain ⟨er, her⟩ : ∃ er, bErr q fs = er := ⟨_, rfl⟩
  rw [her] at he HV
  have be : (er != 0) = true := by simpa using he
  clear h her he
  obtain ⟨W0, hW0⟩ : ∃ W, W = w.alloc (.cells #[.int .i64 q.id, .int .i64 q.vol, .int .i64 q.fr, .int .i64 q.tod, .slice A n c] 27) := ⟨_, rfl⟩
  have hb0 : RowKit.Below w.heap.size w W0 := by rw [hW0]; exact (Below.refl _ _).alloc (Nat.le_refl _) _
  have hx0 : Bl W0 w.heap.size 27 #[.int .i64 q.id, .int .i64 q.vol, .int .i64 q.fr, .int .i64 q.tod, .slice A n c] := by rw [hW0]; exact Bl.new w _ _
  go_enter Tryz.func14, Tryz.ntmps14
  go_upto_region 1 with (fail)
  rw [← hW0]
  clear hW0
  have p0 : W0.cell? ⟨w.heap.size, 0, none⟩ = some (.int .i64 q.id) := hx0.c0
  have p1 : W0.cell? ⟨w.heap.size, 1, none⟩ = some (.int .i64 q.vol) := hx0.c1
  have p2 : W0.cell? ⟨w.heap.size, 2, none⟩ = some (.int .i64 q.fr) := hx0.c2
  have p3 : W0.cell? ⟨w.heap.size, 3, none⟩ = some (.int .i64 q.tod) := hx0.c3
  have p4 : W0.cell? ⟨w.heap.size, 4, none⟩ = some (.slice A n c) := hx0.c4
  go_wp2_with fail
  refine (HV.out _ hb0).mono ?_
  rintro e w1 ⟨rfl, hb1⟩
  go_wp2
  go_ret
  exact ⟨rfl, hb0.trans (hb1.mono hb0.size)⟩

set_option maxRecDepth 100000 in
set_option maxHeartbeats 2000000 in
theorem grants_bad (q : Qt) (A : Option Addr) (n c : Nat) (fs : List Fct) (w : World) (h : Recs encF 5 w A n fs) (hn : n ≤ 1000000) (he : bErr q fs ≠ 0) :
    Calls Tryz.prog 11 #[.agg #[.int .i64 q.id, .int .i64 q.vol, .int .i64 q.fr, .int .i64 q.tod, .slice A n c]] w fun e w' => e = .returned (.slice none 0 0) ∧ RowKit.Below w.heap.size w w' := by
  have HV := Lib.hid (fun w' (hb : RowKit.Below w.heap.size w w') => bvalidate_any q A n c fs w' (h.below hb) (by omega))
  obtain ⟨er, her⟩ : ∃ er, bErr q fs = er := ⟨_, rfl⟩
  rw [her] at he HV
  have be : (er != 0) = true := by simpa using he
  clear h her he
  obtain ⟨W0, hW0⟩ : ∃ W, W = w.alloc (.cells #[.int .i64 q.id, .int .i64 q.vol, .int .i64 q.fr, .int .i64 q.tod, .slice A n c] 27) := ⟨_, rfl⟩
  have hb0 : RowKit.Below w.heap.size w W0 := by rw [hW0]; exact (Below.refl _ _).alloc (Nat.le_refl _) _
  have hx0 : Bl W0 w.heap.size 27 #[.int .i64 q.id, .int .i64 q.vol, .int .i64 q.fr, .int .i64 q.tod, .slice A n c] := by rw [hW0]; exact Bl.new w _ _
  go_enter Tryz.func11, Tryz.ntmps11
  go_upto_region 1 with (fail)
  rw [← hW0]
  clear hW0
  have p0 : W0.cell? ⟨w.heap.size, 0, none⟩ = some (.int .i64 q.id) := hx0.c0
  have p1 : W0.cell? ⟨w.heap.size, 1, none⟩ = some (.int .i64 q.vol) := hx0.c1
  have p2 : W0.cell? ⟨w.heap.size, 2, none⟩ = some (.int .i64 q.fr) := hx0.c2
  have p3 : W0.cell? ⟨w.heap.size, 3, none⟩ = some (.int .i64 q.tod) := hx0.c3
  have p4 : W0.cell? ⟨w.heap.size, 4, none⟩ = some (.slice A n c) := hx0.c4
  go_wp2_with fail
  refine (HV.out _ hb0).mono ?_
  rintro e w1 ⟨rfl, hb1⟩
  go_wp2
  go_ret
  exact ⟨rfl, hb0.trans (hb1.mono hb0.size)⟩

set_option maxRecDepth 100000 in
set_option maxHeartbeats 2000000 in
theorem rgrants_bad (q : Qt) (A : Option Addr) (n c : Nat) (fs : List Fct) (w : World) (h : Recs encF 5 w A n fs) (hn : n ≤ 1000000) (he : bErr q fs ≠ 0) :
    Calls Tryz.prog 12 #[.agg #[.int .i64 q.id, .int .i64 q.vol, .int .i64 q.fr, .int .i64 q.tod, .slice A n c]] w fun e w' => e = .returned (.slice none 0 0) ∧ RowKit.Below w.heap.size w w' := by
  have HV := Lib.hid (fun w' (hb : RowKit.Below w.heap.size w w') => rvalidBook_any q A n c fs w' (h.below hb) (by omega))
  obtain ⟨er, her⟩ : ∃ er, bErr q fs = er := ⟨_, rfl⟩
  rw [her] at he HV
  have be : (er != 0) = true := by simpa using he
  clear h her he
  obtain ⟨W0, hW0⟩ : ∃ W, W = w.alloc (.cells #[.int .i64 q.id, .int .i64 q.vol, .int .i64 q.fr, .int .i64 q.tod, .slice A n c] 27) := ⟨_, rfl⟩
  have hb0 : RowKit.Below w.heap.size w W0 := by rw [hW0]; exact (Below.refl _ _).alloc (Nat.le_refl _) _
  have hx0 : Bl W0 w.heap.size 27 #[.int .i64 q.id, .int .i64 q.vol, .int .i64 q.fr, .int .i64 q.tod, .slice A n c] := by rw [hW0]; exact Bl.new w _ _
  go_enter Tryz.func12, Tryz.ntmps12
  go_upto_region 1 with (fail)
  rw [← hW0]
  clear hW0
  have p0 : W0.cell? ⟨w.heap.size, 0, none⟩ = some (.int .i64 q.id) := hx0.c0
  have p1 : W0.cell? ⟨w.heap.size, 1, none⟩ = some (.int .i64 q.vol) := hx0.c1
  have p2 : W0.cell? ⟨w.heap.size, 2, none⟩ = some (.int .i64 q.fr) := hx0.c2
  have p3 : W0.cell? ⟨w.heap.size, 3, none⟩ = some (.int .i64 q.tod) := hx0.c3
  have p4 : W0.cell? ⟨w.heap.size, 4, none⟩ = some (.slice A n c) := hx0.c4
  go_wp2_with fail
  refine (HV.out _ hb0).mono ?_
  rintro e w1 ⟨rfl, hb1⟩
  go_wp2
  go_ret
  exact ⟨rfl, hb0.trans (hb1.mono hb0.size)⟩

set_option maxRecDepth 100000 in
set_option maxHeartbeats 2000000 in
theorem explain_bad (q : Qt) (A : Option Addr) (n c : Nat) (fs : List Fct) (id : Int) (w : World) (h : Recs encF 5 w A n fs) (hn : n ≤ 1000000) (he : bErr q fs ≠ 0) :
    Calls Tryz.prog 8 #[.agg #[.int .i64 q.id, .int .i64 q.vol, .int .i64 q.fr, .int .i64 q.tod, .slice A n c], .int .i64 id] w fun e w' => e = .returned (.tuple #[.agg #[.int .i64 0, .int .i64 0, .int .i64 0, .int .i64 0, .int .i64 0], .bool false]) ∧ RowKit.Below w.heap.size w w' := by
  have HV := Lib.hid (fun w' (hb : RowKit.Below w.heap.size w w') => bvalidate_any q A n c fs w' (h.below hb) (by omega))
  obtain ⟨er, her⟩ : ∃ er, bErr q fs = er := ⟨_, rfl⟩
  rw [her] at he HV
  have be : (er != 0) = true := by simpa using he
  clear h her he
  obtain ⟨W0, hW0⟩ : ∃ W, W = (w.alloc (.cells #[.int .i64 q.id, .int .i64 q.vol, .int .i64 q.fr, .int .i64 q.tod, .slice A n c] 27)).alloc (.cells #[.int .i64 0, .int .i64 0, .int .i64 0, .int .i64 0, .int .i64 0] 34) := ⟨_, rfl⟩
  have hb0 : RowKit.Below w.heap.size w W0 := by rw [hW0]; exact ((Below.refl _ _).alloc (Nat.le_refl _) _).alloc (by simp) _
  have hx0 : Bl W0 w.heap.size 27 #[.int .i64 q.id, .int .i64 q.vol, .int .i64 q.fr, .int .i64 q.tod, .slice A n c] := by rw [hW0]; exact (Bl.new w _ _).alloc _
  have hr0 : Bl W0 (w.heap.size + 1) 34 #[.int .i64 0, .int .i64 0, .int .i64 0, .int .i64 0, .int .i64 0] := by rw [hW0]; have := Bl.new (w.alloc (.cells #[.int .i64 q.id, .int .i64 q.vol, .int .i64 q.fr, .int .i64 q.tod, .slice A n c] 27)) 34 #[.int .i64 0, .int .i64 0, .int .i64 0, .int .i64 0, .int .i64 0]; simpa using this
  go_enter Tryz.func8, Tryz.ntmps8
  go_upto_region 1 with (fail)
  rw [← hW0]
  clear hW0
  have p0 : W0.cell? ⟨w.heap.size, 0, none⟩ = some (.int .i64 q.id) := hx0.c0
  have p1 : W0.cell? ⟨w.heap.size, 1, none⟩ = some (.int .i64 q.vol) := hx0.c1
  have p2 : W0.cell? ⟨w.heap.size, 2, none⟩ = some (.int .i64 q.fr) := hx0.c2
  have p3 : W0.cell? ⟨w.heap.size, 3, none⟩ = some (.int .i64 q.tod) := hx0.c3
  have p4 : W0.cell? ⟨w.heap.size, 4, none⟩ = some (.slice A n c) := hx0.c4
  go_wp2_with fail
  refine (HV.out _ hb0).mono ?_
  rintro e w1 ⟨rfl, hb1⟩
  have hr1 := hr0.keep hb1
  have HB1 := Lib.hid (hb0.trans (hb1.mono hb0.size))
  clear p0 p1 p2 p3 p4 hx0 hr0 hb0 hb1
  have r0 := hr1.c0
  have r1 := hr1.c1
  have r2 := hr1.c2
  have r3 := hr1.c3
  have r4 := hr1.c4
  have f0 := hr1.free 0
  have f1 := hr1.free 1
  have f2 := hr1.free 2
  have f3 := hr1.free 3
  have f4 := hr1.free 4
  go_wp2
  refine bodyPost_ret (v := .tuple #[.agg #[.int .i64 0, .int .i64 0, .int .i64 0, .int .i64 0, .int .i64 0], .bool false]) (by simp [results, Tryz.results8, go_sem, r0, r1, r2, r3, r4]) rfl ⟨rfl, ?_⟩
  exact put5 HB1.out (by omega) _ _ _ _ _

set_option maxRecDepth 100000 in
set_option maxHeartbeats 2000000 in
theorem rexplain_bad (q : Qt) (A : Option Addr) (n c : Nat) (fs : List Fct) (id : Int) (w : World) (h : Recs encF 5 w A n fs) (hn : n ≤ 1000000) (he : bErr q fs ≠ 0) :
    Calls Tryz.prog 9 #[.agg #[.int .i64 q.id, .int .i64 q.vol, .int .i64 q.fr, .int .i64 q.tod, .slice A n c], .int .i64 id] w fun e w' => e = .returned (.tuple #[.agg #[.int .i64 0, .int .i64 0, .int .i64 0, .int .i64 0, .int .i64 0], .bool false]) ∧ RowKit.Below w.heap.size w w' := by
  have HV := Lib.hid (fun w' (hb : RowKit.Below w.heap.size w w') => rvalidBook_any q A n c fs w' (h.below hb) (by omega))
  obtain ⟨er, her⟩ : ∃ er, bErr q fs = er := ⟨_, rfl⟩
  rw [her] at he HV
  have be : (er != 0) = true := by simpa using he
  clear h her he
  obtain ⟨W0, hW0⟩ : ∃ W, W = (w.alloc (.cells #[.int .i64 q.id, .int .i64 q.vol, .int .i64 q.fr, .int .i64 q.tod, .slice A n c] 27)).alloc (.cells #[.int .i64 0, .int .i64 0, .int .i64 0, .int .i64 0, .int .i64 0] 34) := ⟨_, rfl⟩
  have hb0 : RowKit.Below w.heap.size w W0 := by rw [hW0]; exact ((Below.refl _ _).alloc (Nat.le_refl _) _).alloc (by simp) _
  have hx0 : Bl W0 w.heap.size 27 #[.int .i64 q.id, .int .i64 q.vol, .int .i64 q.fr, .int .i64 q.tod, .slice A n c] := by rw [hW0]; exact (Bl.new w _ _).alloc _
  have hr0 : Bl W0 (w.heap.size + 1) 34 #[.int .i64 0, .int .i64 0, .int .i64 0, .int .i64 0, .int .i64 0] := by rw [hW0]; have := Bl.new (w.alloc (.cells #[.int .i64 q.id, .int .i64 q.vol, .int .i64 q.fr, .int .i64 q.tod, .slice A n c] 27)) 34 #[.int .i64 0, .int .i64 0, .int .i64 0, .int .i64 0, .int .i64 0]; simpa using this
  go_enter Tryz.func9, Tryz.ntmps9
  go_upto_region 1 with (fail)
  rw [← hW0]
  clear hW0
  have p0 : W0.cell? ⟨w.heap.size, 0, none⟩ = some (.int .i64 q.id) := hx0.c0
  have p1 : W0.cell? ⟨w.heap.size, 1, none⟩ = some (.int .i64 q.vol) := hx0.c1
  have p2 : W0.cell? ⟨w.heap.size, 2, none⟩ = some (.int .i64 q.fr) := hx0.c2
  have p3 : W0.cell? ⟨w.heap.size, 3, none⟩ = some (.int .i64 q.tod) := hx0.c3
  have p4 : W0.cell? ⟨w.heap.size, 4, none⟩ = some (.slice A n c) := hx0.c4
  go_wp2_with fail
  refine (HV.out _ hb0).mono ?_
  rintro e w1 ⟨rfl, hb1⟩
  have hr1 := hr0.keep hb1
  have HB1 := Lib.hid (hb0.trans (hb1.mono hb0.size))
  clear p0 p1 p2 p3 p4 hx0 hr0 hb0 hb1
  have r0 := hr1.c0
  have r1 := hr1.c1
  have r2 := hr1.c2
  have r3 := hr1.c3
  have r4 := hr1.c4
  have f0 := hr1.free 0
  have f1 := hr1.free 1
  have f2 := hr1.free 2
  have f3 := hr1.free 3
  have f4 := hr1.free 4
  go_wp2
  refine bodyPost_ret (v := .tuple #[.agg #[.int .i64 0, .int .i64 0, .int .i64 0, .int .i64 0, .int .i64 0], .bool false]) (by simp [results, Tryz.results9, go_sem, r0, r1, r2, r3, r4]) rfl ⟨rfl, ?_⟩
  exact put5 HB1.out (by omega) _ _ _ _ _

set_option maxRecDepth 100000 in
set_option maxHeartbeats 2000000 in
theorem rbalance_any (q : Qt) (A : Option Addr) (n c : Nat) (fs : List Fct) (w : World) (h : Recs encF 5 w A n fs) (hok : BOk q fs) :
    Calls Tryz.prog 14 #[.agg #[.int .i64 q.id, .int .i64 q.vol, .int .i64 q.fr, .int .i64 q.tod, .slice A n c]] w (BalRes w q fs) := by
  have hn : n ≤ 200 := by have := hok.len; have := h.1; omega
  have HV := Lib.hid (fun w' (hb : RowKit.Below w.heap.size w w') => rvalidBook_any q A n c fs w' (h.below hb) (by omega))
  rw [hok.err] at HV
  have HD := Lib.hid (fun w' (hb : RowKit.Below w.heap.size w w') => rdays_any q A n c fs w' (h.below hb) hok)
  clear h hok
  obtain ⟨W0, hW0⟩ : ∃ W, W = w.alloc (.cells #[.int .i64 q.id, .int .i64 q.vol, .int .i64 q.fr, .int .i64 q.tod, .slice A n c] 27) := ⟨_, rfl⟩
  have hb0 : RowKit.Below w.heap.size w W0 := by rw [hW0]; exact (Below.refl _ _).alloc (Nat.le_refl _) _
  have hx0 : Bl W0 w.heap.size 27 #[.int .i64 q.id, .int .i64 q.vol, .int .i64 q.fr, .int .i64 q.tod, .slice A n c] := by rw [hW0]; exact Bl.new w _ _
  go_enter Tryz.func14, Tryz.ntmps14
  go_upto_region 1 with (fail)
  rw [← hW0]
  clear hW0
  have p0 : W0.cell? ⟨w.heap.size, 0, none⟩ = some (.int .i64 q.id) := hx0.c0
  have p1 : W0.cell? ⟨w.heap.size, 1, none⟩ = some (.int .i64 q.vol) := hx0.c1
  have p2 : W0.cell? ⟨w.heap.size, 2, none⟩ = some (.int .i64 q.fr) := hx0.c2
  have p3 : W0.cell? ⟨w.heap.size, 3, none⟩ = some (.int .i64 q.tod) := hx0.c3
  have p4 : W0.cell? ⟨w.heap.size, 4, none⟩ = some (.slice A n c) := hx0.c4
  go_wp2_with fail
  refine (HV.out _ hb0).mono ?_
  rintro e w1 ⟨rfl, hb1⟩
  have hB1 := hb0.trans (hb1.mono hb0.size)
  have hx1 := hx0.keep hb1
  clear p0 p1 p2 p3 p4 hx0 hb0 hb1
  have p0 : w1.cell? ⟨w.heap.size, 0, none⟩ = some (.int .i64 q.id) := hx1.c0
  have p1 : w1.cell? ⟨w.heap.size, 1, none⟩ = some (.int .i64 q.vol) := hx1.c1
  have p2 : w1.cell? ⟨w.heap.size, 2, none⟩ = some (.int .i64 q.fr) := hx1.c2
  have p3 : w1.cell? ⟨w.heap.size, 3, none⟩ = some (.int .i64 q.tod) := hx1.c3
  have p4 : w1.cell? ⟨w.heap.size, 4, none⟩ = some (.slice A n c) := hx1.c4
  go_wp2_with fail
  refine (HD.out _ hB1).mono ?_
  rintro e w2 ⟨B, m, d, ds, left, gs, bal, rfl, hst, hdf, hdl, hm5, ho, hmd, hb2⟩
  have hle := hdf.left_
  subst hle
  go_wp2
  go_ret
  exact ⟨gs, _, rfl, hst, hB1.trans (hb2.mono hB1.size)⟩
end Go.Proofs.YtemhiifgplaldaaGreat

/-
  Contracts of quotabook's Balance, Grants and Explain at valid books, and of the reference's SameChanges and SameGrants at equal lists. No statement of the seat is proved here.
  The contract of customslaw22.awake: it returns true. No statement of the seat is proved here. No conditions.
-/
import Derived.Test.YtemhiifgplaldaaMN
import Derived.Test.YtemhiifgplaldaaMO
namespace Go.Proofs.Ytemhiifgplaldaa
open Go.RowKit
set_option linter.unusedVariables false

theorem Recs.getG {w : World} {A : Option Addr} {n : Nat} {xs : List Cg} (h : Recs encG 3 w A n xs) {i : Nat} (hi : i < n) :
    ∃ b off x, A = some ⟨b, off, none⟩ ∧ b < w.heap.size ∧ w.cell? ⟨b, off + i * 3, none⟩ = some (.int .i64 x.id) ∧ w.cell? ⟨b, off + i * 3 + 1, none⟩ = some (.int .i64 x.before) ∧ w.cell? ⟨b, off + i * 3 + 2, none⟩ = some (.int .i64 x.after) ∧ Hid (xs[i]! = x) := by
  obtain ⟨b, off, e, hb, hc⟩ := h.at_ hi
  exact ⟨b, off, xs[i]!, e, hb, hc 0 (by omega), hc 1 (by omega), hc 2 (by omega), rfl⟩

set_option maxRecDepth 100000 in
set_option maxHeartbeats 2000000 in
theorem sameChanges_true (A B : Option Addr) (n c d : Nat) (fs : List Cg) (w : World) (hA : Recs encG 3 w A n fs) (hB : Recs encG 3 w B n fs) (hm : n ≤ 9223372036854775807) :
    Calls Try.prog 27 #[.slice A n c, .slice B n d] w (BRes w true) := by
  go_enter Try.func27, Try.ntmps27
  go_wp2
  go_loopw [5] (fun i wx => ∃ k : Nat, k ≤ n ∧ i = .int .i64 k ∧ RowKit.Below w.heap.size w wx) (fun i _ => n - (intOf i).toNat)
  case atStart => exact ⟨0, Nat.zero_le _, rfl, Below.refl _ _⟩
  case round =>
    obtain ⟨k, hk, rfl, hb⟩ := hrel
    by_cases hlt : k < n
    · obtain ⟨b, off, x, hA1, hbl, c0, c1, c2, HX⟩ := (hA.below hb).getG hlt
      obtain ⟨b', off', y, hB1, hbl', e0, e1, e2, HY⟩ := (hB.below hb).getG hlt
      obtain rfl : x = y := HX.out.symm.trans HY.out
      subst hA1 hB1
      have hki : (k : Int) < n := by omega
      go_upto_region 6 with (fail)
      go_quiet (fail)
      go_wp2_with fail
      go_roundw
      case rel => exact ⟨k + 1, by omega, by go_num, below_drewN hb _⟩
      case measure => simp [intOf]; omega
    · go_wp2
      go_ret
      exact ⟨rfl, hb⟩

set_option maxRecDepth 100000 in
set_option maxHeartbeats 2000000 in
theorem sameGrants_true (A B : Option Addr) (n c d : Nat) (fs : List (Int × Int)) (w : World) (hA : Recs enc2 2 w A n fs) (hB : Recs enc2 2 w B n fs) (hm : n ≤ 9223372036854775807) :
    Calls Try.prog 19 #[.slice A n c, .slice B n d] w (BRes w true) := by
  go_enter Try.func19, Try.ntmps19
  go_wp2
  go_loopw [5] (fun i wx => ∃ k : Nat, k ≤ n ∧ i = .int .i64 k ∧ RowKit.Below w.heap.size w wx) (fun i _ => n - (intOf i).toNat)
  case atStart => exact ⟨0, Nat.zero_le _, rfl, Below.refl _ _⟩
  case round =>
    obtain ⟨k, hk, rfl, hb⟩ := hrel
    by_cases hlt : k < n
    · obtain ⟨b, off, x, x2, hA1, hbl, c0, c1, HX⟩ := (hA.below hb).get2 hlt
      obtain ⟨b', off', y, y2, hB1, hbl', e0, e1, HY⟩ := (hB.below hb).get2 hlt
      obtain ⟨rfl, rfl⟩ : x = y ∧ x2 = y2 := by have := HX.out.symm.trans HY.out; injection this with a1 a2; exact ⟨a1, a2⟩
      subst hA1 hB1
      have hki : (k : Int) < n := by omega
      go_upto_region 6 with (fail)
      go_quiet (fail)
      go_wp2_with fail
      go_roundw
      case rel => exact ⟨k + 1, by omega, by go_num, below_drewN hb _⟩
      case measure => simp [intOf]; omega
    · go_wp2
      go_ret
      exact ⟨rfl, hb⟩

/-- What Balance returns. -/
def BalRes (w : World) (q : Qt) (fs : List Fct) (e : Ending) (w' : World) : Prop := ∃ (gs : List Rq) (bal : Int), e = .returned (.int .i64 bal) ∧ Settled fs q.vol gs bal ∧ RowKit.Below w.heap.size w w'

set_option maxRecDepth 100000 in
set_option maxHeartbeats 4000000 in
theorem balance_any (q : Qt) (A : Option Addr) (n c : Nat) (fs : List Fct) (w : World) (h : Recs encF 5 w A n fs) (hok : BOk q fs) :
    Calls Try.prog 21 #[.agg #[.int .i64 q.id, .int .i64 q.vol, .int .i64 q.fr, .int .i64 q.tod, .slice A n c]] w (BalRes w q fs) := by
  have hn200 : n ≤ 200 := by have := hok.len; have := h.1; omega
  have HG := Lib.hid hok.good
  have HV := Lib.hid (fun w' (hb : RowKit.Below w.heap.size w w') => bvalidate_any q A n c fs w' (h.below hb) (by omega))
  rw [hok.err] at HV
  have HS := Lib.hid (fun w' (hb : RowKit.Below w.heap.size w w') => settle_any q.id q.vol q.fr q.tod A n c fs w' (h.below hb) (by omega) HG.out.ok HG.out.ids HG.out.v0 HG.out.v1)
  clear h hok
  obtain ⟨W0, hW0⟩ : ∃ W, W = w.alloc (.cells #[.int .i64 q.id, .int .i64 q.vol, .int .i64 q.fr, .int .i64 q.tod, .slice A n c] 26) := ⟨_, rfl⟩
  have hb0 : RowKit.Below w.heap.size w W0 := by rw [hW0]; exact (Below.refl _ _).alloc (Nat.le_refl _) _
  have hx0 : Bl W0 w.heap.size 26 #[.int .i64 q.id, .int .i64 q.vol, .int .i64 q.fr, .int .i64 q.tod, .slice A n c] := by rw [hW0]; exact Bl.new w _ _
  go_enter Try.func21, Try.ntmps21
  go_upto_region 1 with (fail)
  rw [← hW0]
  clear hW0
  have p0 : W0.cell? ⟨w.heap.size, 0, none⟩ = some (.int .i64 q.id) := hx0.cell 0
  have p1 : W0.cell? ⟨w.heap.size, 1, none⟩ = some (.int .i64 q.vol) := hx0.cell 1
  have p2 : W0.cell? ⟨w.heap.size, 2, none⟩ = some (.int .i64 q.fr) := hx0.cell 2
  have p3 : W0.cell? ⟨w.heap.size, 3, none⟩ = some (.int .i64 q.tod) := hx0.cell 3
  have p4 : W0.cell? ⟨w.heap.size, 4, none⟩ = some (.slice A n c) := hx0.cell 4
  go_wp2_with fail
  refine (HV.out _ hb0).mono ?_
  rintro e w1 ⟨rfl, hb1⟩
  have hB1 := hb0.trans (hb1.mono hb0.size)
  have hx1 := hx0.keep hb1
  clear p0 p1 p2 p3 p4 hx0 hb0 hb1 HV
  have p0 : w1.cell? ⟨w.heap.size, 0, none⟩ = some (.int .i64 q.id) := hx1.cell 0
  have p1 : w1.cell? ⟨w.heap.size, 1, none⟩ = some (.int .i64 q.vol) := hx1.cell 1
  have p2 : w1.cell? ⟨w.heap.size, 2, none⟩ = some (.int .i64 q.fr) := hx1.cell 2
  have p3 : w1.cell? ⟨w.heap.size, 3, none⟩ = some (.int .i64 q.tod) := hx1.cell 3
  have p4 : w1.cell? ⟨w.heap.size, 4, none⟩ = some (.slice A n c) := hx1.cell 4
  go_wp2_with fail
  refine (HS.out _ hB1).mono ?_
  intro e w2 hres
  obtain ⟨B2, m2, d2, gs, bal, rfl, hst, hgl, hm2, ho2, hb2⟩ := hres.settled
  have hB2 := hB1.trans (hb2.mono hB1.size)
  have HST := Lib.hid hst
  have HGL := Lib.hid hgl
  have hm200 : m2 ≤ 200 := by have := HG.out.len; omega
  have hr : Recs encR 6 w2 B2 m2 gs := Recs.of_own encR_len ho2 hgl
  clear HS hres p0 p1 p2 p3 p4 hx1 ho2 hst hb2 hB1 hm2 hgl
  go_wp2
  go_ret
  exact ⟨gs, bal, rfl, HST.out, hB2⟩
/-- IDs and grants. -/
def grs (gs : List Rq) : List (Int × Int) := gs.map fun g => (g.id, g.grant)
theorem grs_len (gs : List Rq) : (grs gs).length = gs.length := by simp [grs]
theorem grs_snoc (gs : List Rq) (x : Rq) : grs (gs ++ [x]) = grs gs ++ [(x.id, x.grant)] := by simp [grs]
/-- What Grants returns. -/
def GrRes (w : World) (q : Qt) (fs : List Fct) (e : Ending) (w' : World) : Prop := ∃ (B : Option Addr) (m d : Nat) (gs : List Rq) (bal : Int), e = .returned (.slice B m d) ∧ Settled fs q.vol gs bal ∧ gs.length = m ∧ m ≤ 200 ∧ w'.ownsRow w.heap.size 51 2 (.slice B m d) m (flat enc2 (grs gs)) ∧ RowKit.Below w.heap.size w w'

set_option maxRecDepth 100000 in
set_option maxHeartbeats 4000000 in
theorem grants_any (q : Qt) (A : Option Addr) (n c : Nat) (fs : List Fct) (w : World) (h : Recs encF 5 w A n fs) (hok : BOk q fs) :
    Calls Try.prog 20 #[.agg #[.int .i64 q.id, .int .i64 q.vol, .int .i64 q.fr, .int .i64 q.tod, .slice A n c]] w (GrRes w q fs) := by
  have hn200 : n ≤ 200 := by have := hok.len; have := h.1; omega
  have HG := Lib.hid hok.good
  have HV := Lib.hid (fun w' (hb : RowKit.Below w.heap.size w w') => bvalidate_any q A n c fs w' (h.below hb) (by omega))
  rw [hok.err] at HV
  have HS := Lib.hid (fun w' (hb : RowKit.Below w.heap.size w w') => settle_any q.id q.vol q.fr q.tod A n c fs w' (h.below hb) (by omega) HG.out.ok HG.out.ids HG.out.v0 HG.out.v1)
  clear h hok
  obtain ⟨W0, hW0⟩ : ∃ W, W = w.alloc (.cells #[.int .i64 q.id, .int .i64 q.vol, .int .i64 q.fr, .int .i64 q.tod, .slice A n c] 26) := ⟨_, rfl⟩
  have hb0 : RowKit.Below w.heap.size w W0 := by rw [hW0]; exact (Below.refl _ _).alloc (Nat.le_refl _) _
  have hx0 : Bl W0 w.heap.size 26 #[.int .i64 q.id, .int .i64 q.vol, .int .i64 q.fr, .int .i64 q.tod, .slice A n c] := by rw [hW0]; exact Bl.new w _ _
  go_enter Try.func20, Try.ntmps20
  go_upto_region 1 with (fail)
  rw [← hW0]
  clear hW0
  have p0 : W0.cell? ⟨w.heap.size, 0, none⟩ = some (.int .i64 q.id) := hx0.cell 0
  have p1 : W0.cell? ⟨w.heap.size, 1, none⟩ = some (.int .i64 q.vol) := hx0.cell 1
  have p2 : W0.cell? ⟨w.heap.size, 2, none⟩ = some (.int .i64 q.fr) := hx0.cell 2
  have p3 : W0.cell? ⟨w.heap.size, 3, none⟩ = some (.int .i64 q.tod) := hx0.cell 3
  have p4 : W0.cell? ⟨w.heap.size, 4, none⟩ = some (.slice A n c) := hx0.cell 4
  go_wp2_with fail
  refine (HV.out _ hb0).mono ?_
  rintro e w1 ⟨rfl, hb1⟩
  have hB1 := hb0.trans (hb1.mono hb0.size)
  have hx1 := hx0.keep hb1
  clear p0 p1 p2 p3 p4 hx0 hb0 hb1 HV
  have p0 : w1.cell? ⟨w.heap.size, 0, none⟩ = some (.int .i64 q.id) := hx1.cell 0
  have p1 : w1.cell? ⟨w.heap.size, 1, none⟩ = some (.int .i64 q.vol) := hx1.cell 1
  have p2 : w1.cell? ⟨w.heap.size, 2, none⟩ = some (.int .i64 q.fr) := hx1.cell 2
  have p3 : w1.cell? ⟨w.heap.size, 3, none⟩ = some (.int .i64 q.tod) := hx1.cell 3
  have p4 : w1.cell? ⟨w.heap.size, 4, none⟩ = some (.slice A n c) := hx1.cell 4
  go_wp2_with fail
  refine (HS.out _ hB1).mono ?_
  intro e w2 hres
  obtain ⟨B2, m2, d2, gs, bal, rfl, hst, hgl, hm2, ho2, hb2⟩ := hres.settled
  have hB2 := hB1.trans (hb2.mono hB1.size)
  have HST := Lib.hid hst
  have HGL := Lib.hid hgl
  have hm200 : m2 ≤ 200 := by have := HG.out.len; omega
  have hr : Recs encR 6 w2 B2 m2 gs := Recs.of_own encR_len ho2 hgl
  clear HS hres p0 p1 p2 p3 p4 hx1 ho2 hst hb2 hB1 hm2 hgl
  have hww := hB2.size
  go_wp2_with fail
  go_loopw [3, 18] (fun v i wx => ∃ (k : Nat) (B : Option Addr) (d : Nat), k ≤ m2 ∧ i = .int .i64 k ∧ v = .slice B k d ∧ wx.ownsRow w2.heap.size 51 2 (.slice B k d) k (flat enc2 (grs (gs.take k))) ∧ RowKit.Below w2.heap.size w2 wx) (fun _ i _ => m2 - (intOf i).toNat)
  case atStart => exact ⟨0, none, 0, Nat.zero_le _, rfl, rfl, ⟨rfl, .inl ⟨rfl, rfl⟩⟩, Below.refl _ _⟩
  case round =>
    obtain ⟨k, B, d, hk, rfl, rfl, ho, hb⟩ := hrel
    by_cases hlt : k < m2
    · obtain ⟨b, off, x, hB, hbl, c0, c1, c2, c3, c4, c5, HX⟩ := (hr.below hb).getR hlt
      subst hB
      have HTK : Hid (grs (gs.take (k + 1)) = grs (gs.take k) ++ [(x.id, x.grant)]) := by
        have hx := HX.out
        rw [getElem!_pos gs k (by have := HGL.out; omega)] at hx
        show _ = _
        rw [List.take_succ_eq_append_getElem (by have := HGL.out; omega), hx, grs_snoc]
      have hb4 : RowKit.Below w2.heap.size w2 (wr.alloc (.cells #[.int .i64 x.id, .int .i64 x.day, .int .i64 x.avail, .int .i64 x.asked, .int .i64 x.req, .int .i64 x.grant] 84)) := hb.alloc hb.size _
      have hx4 := Bl.new wr 84 #[.int .i64 x.id, .int .i64 x.day, .int .i64 x.avail, .int .i64 x.asked, .int .i64 x.req, .int .i64 x.grant]
      have HR4 := Lib.hid (own_alloc ho (.cells #[.int .i64 x.id, .int .i64 x.day, .int .i64 x.avail, .int .i64 x.asked, .int .i64 x.req, .int .i64 x.grant] 84))
      clear ho
      go_upto_region 8 with (fail)
      clear c0 c1 c2 c3 c4 c5
      generalize wr.alloc (.cells #[.int .i64 x.id, .int .i64 x.day, .int .i64 x.avail, .int .i64 x.asked, .int .i64 x.req, .int .i64 x.grant] 84) = W4 at *
      generalize wr.heap.size = g4 at *
      have q0 : W4.cell? ⟨g4, 0, none⟩ = some (.int .i64 x.id) := hx4.cell 0
      have q5 : W4.cell? ⟨g4, 5, none⟩ = some (.int .i64 x.grant) := hx4.cell 5
      have l4 := hx4.lt
      clear hb hbl hx4
      have HOE := Lib.hid (own_alloc HR4.out (.cells #[.int .i64 x.id, .int .i64 x.grant] 51))
      have HRD : Hid (Rd (W4.alloc (.cells #[.int .i64 x.id, .int .i64 x.grant] 51)) 2 (some ⟨W4.heap.size, 0, none⟩) 1 (enc2 (x.id, x.grant))) := rd_new W4 51 (enc2 (x.id, x.grant))
      have HON : Hid (∀ u ∈ enc2 (x.id, x.grant), u.oneCell' = true) := enc2_one _
      have HM1 : Hid (k + 1 ≤ maxLen ∧ (k + 1) * 16 ≤ 140737488355328) := ⟨by unfold maxLen; omega, by omega⟩
      have HBA : Hid (RowKit.Below w2.heap.size w2 (W4.alloc (.cells #[.int .i64 x.id, .int .i64 x.grant] 51))) := hb4.alloc hb4.size _
      have HOB := Lib.hid (fun j hj => own_base HR4.out j hj)
      go_wp2_with (first
        | (at_builtin; refine wpList_append_rd _ rfl (.tmp 22) (.tmp 29) 47 rfl w2.heap.size 51 _ 2 16 Try.underlying47 infoG rfl (by decide) (.slice B k d) k _ rfl HOE.out (some ⟨W4.heap.size, 0, none⟩) 1 _ (enc2 (x.id, x.grant)) rfl HRD.out HON.out HM1.out.1 HM1.out.2 HBA.out.size ?_; intro v6 w6 ho6 hg6 _; obtain ⟨B6, d6, rfl⟩ := own_slice ho6))
      have HB6 : Hid (RowKit.Below w2.heap.size w2 w6) := HBA.out.grown hg6 HBA.out.size (fun j hj => HOB.out j hj)
      have HO6 : Hid (w6.ownsRow w2.heap.size 51 2 (.slice B6 (k + 1) d6) (k + 1) (flat enc2 (grs (gs.take (k + 1))))) := by
        show World.ownsRow _ _ _ _ _ _ _
        rw [HTK.out, flat_append, flat_one]
        exact ho6
      clear ho6 hg6
      go_roundw
      case rel => exact ⟨k + 1, B6, d6, by omega, by go_num, rfl, HO6.out, HB6.out⟩
      case measure => simp [intOf]; omega
    · obtain rfl : m2 = k := by omega
      rw [List.take_of_length_le (by have := HGL.out; omega)] at ho
      clear hlt
      go_wp2
      go_ret
      exact ⟨B, m2, d, gs, bal, rfl, HST.out, HGL.out, hm200, own_mono ho hww, hB2.trans (hb.mono hww)⟩

/-- What Explain returns. -/
def ExVal (gs : List Rq) (id : Int) : Value × Bool := match gs.find? (fun g => g.id == id) with
  | some x => (.agg #[.int .i64 x.day, .int .i64 x.avail, .int .i64 x.asked, .int .i64 x.req, .int .i64 x.grant], true)
  | none => (.agg #[.int .i64 0, .int .i64 0, .int .i64 0, .int .i64 0, .int .i64 0], false)
def ExRes (w : World) (q : Qt) (fs : List Fct) (id : Int) (e : Ending) (w' : World) : Prop := ∃ (gs : List Rq) (bal : Int), Settled fs q.vol gs bal ∧ e = .returned (.tuple #[(ExVal gs id).1, .bool (ExVal gs id).2]) ∧ RowKit.Below w.heap.size w w'
theorem find_first {gs : List Rq} {id : Int} {k : Nat} (hk : k < gs.length) (h : ∀ i, i < k → gs[i]!.id ≠ id) (he : gs[k]!.id = id) : gs.find? (fun g => g.id == id) = some gs[k]! := by
  rw [List.find?_eq_some_iff_getElem]
  refine ⟨by simpa using he, k, hk, (getElem!_pos gs k hk).symm, fun j hj => ?_⟩
  have := h j hj
  rw [getElem!_pos gs j (by omega)] at this
  simpa using this
theorem find_noneF {gs : List Rq} {id : Int} (h : ∀ i, i < gs.length → gs[i]!.id ≠ id) : gs.find? (fun g => g.id == id) = none := by
  rw [List.find?_eq_none]
  intro x hx
  obtain ⟨i, hi, rfl⟩ := List.getElem_of_mem hx
  have := h i hi
  rw [getElem!_pos gs i hi] at this
  simpa using this

set_option maxRecDepth 100000 in
set_option maxHeartbeats 4000000 in
theorem explain_any (q : Qt) (A : Option Addr) (n c : Nat) (fs : List Fct) (id : Int) (w : World) (h : Recs encF 5 w A n fs) (hok : BOk q fs) :
    Calls Try.prog 23 #[.agg #[.int .i64 q.id, .int .i64 q.vol, .int .i64 q.fr, .int .i64 q.tod, .slice A n c], .int .i64 id] w (ExRes w q fs id) := by
  have hn200 : n ≤ 200 := by have := hok.len; have := h.1; omega
  have HG := Lib.hid hok.good
  have HV := Lib.hid (fun w' (hb : RowKit.Below w.heap.size w w') => bvalidate_any q A n c fs w' (h.below hb) (by omega))
  rw [hok.err] at HV
  have HS := Lib.hid (fun w' (hb : RowKit.Below w.heap.size w w') => settle_any q.id q.vol q.fr q.tod A n c fs w' (h.below hb) (by omega) HG.out.ok HG.out.ids HG.out.v0 HG.out.v1)
  clear h hok
  obtain ⟨W0, hW0⟩ : ∃ W, W = (w.alloc (.cells #[.int .i64 q.id, .int .i64 q.vol, .int .i64 q.fr, .int .i64 q.tod, .slice A n c] 26)).alloc (.cells #[.int .i64 0, .int .i64 0, .int .i64 0, .int .i64 0, .int .i64 0] 58) := ⟨_, rfl⟩
  have hb0 : RowKit.Below w.heap.size w W0 := by rw [hW0]; exact ((Below.refl _ _).alloc (Nat.le_refl _) _).alloc (by simp) _
  have hx0 : Bl W0 w.heap.size 26 #[.int .i64 q.id, .int .i64 q.vol, .int .i64 q.fr, .int .i64 q.tod, .slice A n c] := by rw [hW0]; exact (Bl.new w _ _).alloc _
  have hr0 : Bl W0 (w.heap.size + 1) 58 #[.int .i64 0, .int .i64 0, .int .i64 0, .int .i64 0, .int .i64 0] := by rw [hW0]; have := Bl.new (w.alloc (.cells #[.int .i64 q.id, .int .i64 q.vol, .int .i64 q.fr, .int .i64 q.tod, .slice A n c] 26)) 58 #[.int .i64 0, .int .i64 0, .int .i64 0, .int .i64 0, .int .i64 0]; simpa using this
  go_enter Try.func23, Try.ntmps23
  go_upto_region 1 with (fail)
  rw [← hW0]
  clear hW0
  have p0 : W0.cell? ⟨w.heap.size, 0, none⟩ = some (.int .i64 q.id) := hx0.cell 0
  have p1 : W0.cell? ⟨w.heap.size, 1, none⟩ = some (.int .i64 q.vol) := hx0.cell 1
  have p2 : W0.cell? ⟨w.heap.size, 2, none⟩ = some (.int .i64 q.fr) := hx0.cell 2
  have p3 : W0.cell? ⟨w.heap.size, 3, none⟩ = some (.int .i64 q.tod) := hx0.cell 3
  have p4 : W0.cell? ⟨w.heap.size, 4, none⟩ = some (.slice A n c) := hx0.cell 4
  go_wp2_with fail
  refine (HV.out _ hb0).mono ?_
  rintro e w1 ⟨rfl, hb1⟩
  have hB1 := hb0.trans (hb1.mono hb0.size)
  have hx1 := hx0.keep hb1
  have hr1 := hr0.keep hb1
  clear p0 p1 p2 p3 p4 hx0 hb0 hb1 HV hr0
  have p0 : w1.cell? ⟨w.heap.size, 0, none⟩ = some (.int .i64 q.id) := hx1.cell 0
  have p1 : w1.cell? ⟨w.heap.size, 1, none⟩ = some (.int .i64 q.vol) := hx1.cell 1
  have p2 : w1.cell? ⟨w.heap.size, 2, none⟩ = some (.int .i64 q.fr) := hx1.cell 2
  have p3 : w1.cell? ⟨w.heap.size, 3, none⟩ = some (.int .i64 q.tod) := hx1.cell 3
  have p4 : w1.cell? ⟨w.heap.size, 4, none⟩ = some (.slice A n c) := hx1.cell 4
  go_wp2_with fail
  refine (HS.out _ hB1).mono ?_
  intro e w2 hres
  obtain ⟨B2, m2, d2, gs, bal, rfl, hst, hgl, hm2, ho2, hb2⟩ := hres.settled
  have hB2 := hB1.trans (hb2.mono hB1.size)
  have hr2 := hr1.keep hb2
  have HST := Lib.hid hst
  have HGL := Lib.hid hgl
  have hm200 : m2 ≤ 200 := by have := HG.out.len; omega
  have hr : Recs encR 6 w2 B2 m2 gs := Recs.of_own encR_len ho2 hgl
  clear HS hres p0 p1 p2 p3 p4 hx1 ho2 hst hb2 hB1 hm2 hgl hr1
  have hww := hB2.size
  go_wp2_with fail
  go_loopw [21] (fun i wx => ∃ (k : Nat), k ≤ m2 ∧ i = .int .i64 k ∧ Hid (∀ i, i < k → gs[i]!.id ≠ id) ∧ RowKit.Below w2.heap.size w2 wx) (fun i _ => m2 - (intOf i).toNat)
  case atStart => exact ⟨0, Nat.zero_le _, rfl, fun i hi => by omega, Below.refl _ _⟩
  case round =>
    obtain ⟨k, hk, rfl, HNE, hb⟩ := hrel
    by_cases hlt : k < m2
    · obtain ⟨b, off, x, hB, hbl, c0, c1, c2, c3, c4, c5, HX⟩ := (hr.below hb).getR hlt
      subst hB
      have hb4 : RowKit.Below w2.heap.size w2 (wr.alloc (.cells #[.int .i64 x.id, .int .i64 x.day, .int .i64 x.avail, .int .i64 x.asked, .int .i64 x.req, .int .i64 x.grant] 84)) := hb.alloc hb.size _
      have hx4 := Bl.new wr 84 #[.int .i64 x.id, .int .i64 x.day, .int .i64 x.avail, .int .i64 x.asked, .int .i64 x.req, .int .i64 x.grant]
      have hr4 := (hr2.keep hb).alloc (.cells #[.int .i64 x.id, .int .i64 x.day, .int .i64 x.avail, .int .i64 x.asked, .int .i64 x.req, .int .i64 x.grant] 84)
      go_upto_region 7 with (fail)
      clear c0 c1 c2 c3 c4 c5
      have hg4 := hr2.lt
      have hg5 := hb.size
      have n4 : w.heap.size + 1 ≠ wr.heap.size := by omega
      generalize wr.alloc (.cells #[.int .i64 x.id, .int .i64 x.day, .int .i64 x.avail, .int .i64 x.asked, .int .i64 x.req, .int .i64 x.grant] 84) = W4 at *
      generalize wr.heap.size = g4 at *
      have q0 : W4.cell? ⟨g4, 0, none⟩ = some (.int .i64 x.id) := hx4.cell 0
      have q1 : W4.cell? ⟨g4, 1, none⟩ = some (.int .i64 x.day) := hx4.cell 1
      have q2 : W4.cell? ⟨g4, 2, none⟩ = some (.int .i64 x.avail) := hx4.cell 2
      have q3 : W4.cell? ⟨g4, 3, none⟩ = some (.int .i64 x.asked) := hx4.cell 3
      have q4 : W4.cell? ⟨g4, 4, none⟩ = some (.int .i64 x.req) := hx4.cell 4
      have q5 : W4.cell? ⟨g4, 5, none⟩ = some (.int .i64 x.grant) := hx4.cell 5
      by_cases e : x.id = id
      · have be : (x.id == id) = true := by simpa using e
        have HE : Hid (gs.find? (fun g => g.id == id) = some x) := by
          have h1 := find_first (gs := gs) (id := id) (k := k) (by have := HGL.out; omega) HNE.out (by rw [HX.out]; exact e)
          rwa [HX.out] at h1
        have r0 : W4.cell? ⟨w.heap.size + 1, 0, none⟩ = some (.int .i64 0) := hr4.cell 0
        have f0 : W4.frozen? ⟨w.heap.size + 1, 0, none⟩ = false := hr4.free 0
        have r1 : W4.cell? ⟨w.heap.size + 1, 1, none⟩ = some (.int .i64 0) := hr4.cell 1
        have f1 : W4.frozen? ⟨w.heap.size + 1, 1, none⟩ = false := hr4.free 1
        have r2 : W4.cell? ⟨w.heap.size + 1, 2, none⟩ = some (.int .i64 0) := hr4.cell 2
        have f2 : W4.frozen? ⟨w.heap.size + 1, 2, none⟩ = false := hr4.free 2
        have r3 : W4.cell? ⟨w.heap.size + 1, 3, none⟩ = some (.int .i64 0) := hr4.cell 3
        have f3 : W4.frozen? ⟨w.heap.size + 1, 3, none⟩ = false := hr4.free 3
        have r4 : W4.cell? ⟨w.heap.size + 1, 4, none⟩ = some (.int .i64 0) := hr4.cell 4
        have f4 : W4.frozen? ⟨w.heap.size + 1, 4, none⟩ = false := hr4.free 4
        have HB4 := Lib.hid (hB2.trans (hb4.mono hww))
        clear e hx4 hr4 hb hbl
        go_wp2
        refine bodyPost_ret (v := .tuple #[.agg #[.int .i64 x.day, .int .i64 x.avail, .int .i64 x.asked, .int .i64 x.req, .int .i64 x.grant], .bool true]) (by simp [results, Try.results23, go_sem, r0, r1, r2, r3, r4]) rfl ⟨gs, bal, HST.out, by unfold ExVal; rw [HE.out], ?_⟩
        exact put5 HB4.out (by omega) _ _ _ _ _
      · have be : (x.id == id) = false := by simpa using e
        have HNE2 : Hid (∀ i, i < k + 1 → gs[i]!.id ≠ id) := fun i hi => by
          by_cases q : i = k
          · subst q; rw [HX.out]; exact e
          · exact HNE.out i (by omega)
        clear e hx4 hr4 hb hbl
        go_wp2_with fail
        go_roundw
        case rel => exact ⟨k + 1, by omega, by go_num, HNE2, hb4⟩
        case measure => simp [intOf]; omega
    · obtain rfl : m2 = k := by omega
      have HE : Hid (gs.find? (fun g => g.id == id) = none) := find_noneF (fun i hi => HNE.out i (by have := HGL.out; omega))
      have hr4 := hr2.keep hb
      have r0 : wr.cell? ⟨w.heap.size + 1, 0, none⟩ = some (.int .i64 0) := hr4.cell 0
      have f0 : wr.frozen? ⟨w.heap.size + 1, 0, none⟩ = false := hr4.free 0
      have r1 : wr.cell? ⟨w.heap.size + 1, 1, none⟩ = some (.int .i64 0) := hr4.cell 1
      have f1 : wr.frozen? ⟨w.heap.size + 1, 1, none⟩ = false := hr4.free 1
      have r2 : wr.cell? ⟨w.heap.size + 1, 2, none⟩ = some (.int .i64 0) := hr4.cell 2
      have f2 : wr.frozen? ⟨w.heap.size + 1, 2, none⟩ = false := hr4.free 2
      have r3 : wr.cell? ⟨w.heap.size + 1, 3, none⟩ = some (.int .i64 0) := hr4.cell 3
      have f3 : wr.frozen? ⟨w.heap.size + 1, 3, none⟩ = false := hr4.free 3
      have r4 : wr.cell? ⟨w.heap.size + 1, 4, none⟩ = some (.int .i64 0) := hr4.cell 4
      have f4 : wr.frozen? ⟨w.heap.size + 1, 4, none⟩ = false := hr4.free 4
      clear hlt hr4
      go_wp2
      refine bodyPost_ret (v := .tuple #[.agg #[.int .i64 0, .int .i64 0, .int .i64 0, .int .i64 0, .int .i64 0], .bool false]) (by simp [results, Try.results23, go_sem, r0, r1, r2, r3, r4]) rfl ⟨gs, bal, HST.out, by unfold ExVal; rw [HE.out], ?_⟩
      exact put5 (hB2.trans (hb.mono hww)) (by omega) _ _ _ _ _
end Go.Proofs.Ytemhiifgplaldaa

namespace Go.Proofs.Ytemhiifgplaldaa
open Go.RowKit
set_option linter.unusedVariables false

def q0 : Qt := ⟨1, 10, 0, 10⟩
def fa1 : Fct := ⟨1, 1, 2, 1, 6⟩
def fa2 : Fct := ⟨2, 1, 3, 2, 6⟩
def fa3 : Fct := ⟨3, 1, 2, 3, 6⟩
theorem reqList_mk {fs : List Fct} {rs : List Rq} (h1 : (rs.map (·.id)).Nodup) (h2 : ∀ id : Int, (∃ r ∈ rs, r.id = id) ↔ (askOf fs id).isSome = true) (h3 : ∀ r ∈ rs, r = rqOf fs r.id) (h4 : rs.Pairwise (fun a b => a.day < b.day ∨ (a.day = b.day ∧ a.id < b.id))) : ReqList fs rs := ⟨h1, h2, h3, fun i j hij hj => by
  have := List.pairwise_iff_getElem.1 h4 i j (by omega) hj hij
  rwa [getElem!_pos rs i (by omega), getElem!_pos rs j hj]⟩
theorem ids_of_pair {gs : List Rq} (h : gs.Pairwise (fun a b => a.id < b.id)) : ∀ i j, i < j → j < gs.length → gs[i]!.id < gs[j]!.id := fun i j hij hj => by
  have := List.pairwise_iff_getElem.1 h i j (by omega) hj hij
  rwa [getElem!_pos gs i (by omega), getElem!_pos gs j hj]
theorem settled12 : Settled [fa1, fa2] 10 [⟨1, 2, 10, 6, 6, 6⟩, ⟨2, 3, 4, 6, 6, 4⟩] 0 := by
  rw [settled_list]
  refine ⟨[⟨1, 2, 0, 0, 6, 0⟩, ⟨2, 3, 0, 0, 6, 0⟩], reqList_mk (by decide) (fun id => ?_) (by decide) (by decide), ?_, ids_of_pair (by decide), by decide⟩
  · simp [askOf, fa1, fa2]
  · rw [show (runD (trSum (trOf [fa1, fa2])) [(⟨1, 2, 0, 0, 6, 0⟩ : Rq), ⟨2, 3, 0, 0, 6, 0⟩].length [⟨1, 2, 0, 0, 6, 0⟩, ⟨2, 3, 0, 0, 6, 0⟩] 10).1 = [⟨1, 2, 10, 6, 6, 6⟩, ⟨2, 3, 4, 6, 6, 4⟩] by decide]
theorem settled123 : Settled [fa1, fa2, fa3] 10 [⟨1, 2, 10, 12, 6, 5⟩, ⟨2, 3, 0, 6, 6, 0⟩, ⟨3, 2, 10, 12, 6, 5⟩] 0 := by
  rw [settled_list]
  refine ⟨[⟨1, 2, 0, 0, 6, 0⟩, ⟨3, 2, 0, 0, 6, 0⟩, ⟨2, 3, 0, 0, 6, 0⟩], reqList_mk (by decide) (fun id => ?_) (by decide) (by decide), ?_, ids_of_pair (by decide), by decide⟩
  · simp [askOf, fa1, fa2, fa3]
    omega
  · rw [show (runD (trSum (trOf [fa1, fa2, fa3])) [(⟨1, 2, 0, 0, 6, 0⟩ : Rq), ⟨3, 2, 0, 0, 6, 0⟩, ⟨2, 3, 0, 0, 6, 0⟩].length [⟨1, 2, 0, 0, 6, 0⟩, ⟨3, 2, 0, 0, 6, 0⟩, ⟨2, 3, 0, 0, 6, 0⟩] 10).1 = [⟨1, 2, 10, 12, 6, 5⟩, ⟨3, 2, 10, 12, 6, 5⟩, ⟨2, 3, 0, 6, 6, 0⟩] by decide]
    exact .cons _ (.swap _ _ _)
theorem ins_eq {fs gs : List Fct} {f : Fct} {I : Nat} {q : Qt} (h : BOk q (fs.take I ++ f :: fs.drop I)) (hg : numAsc gs) (hp : gs.Perm (f :: fs)) : fs.take I ++ f :: fs.drop I = gs :=
  numAsc_ext h.asc hg fun x => (perm_ins fs f I).mem_iff.trans hp.mem_iff.symm

/-- A book behind Apply: its facts, in memory of its own. -/
def Nx (w w' : World) (n : Nat) (fs : List Fct) (B : Option Addr) (d : Nat) : Prop := BOk q0 fs ∧ FRd w' B n d fs ∧ (∀ b off, B = some ⟨b, off, none⟩ → w.heap.size ≤ b) ∧ RowKit.Below w.heap.size w w'
theorem nx_of {w w' : World} {n d : Nat} {fs : List Fct} {B : Option Addr} (h : BOk q0 fs) (hl : fs.length = n) (ho : w'.ownsRow w.heap.size 39 5 (.slice B n d) n (flat encF fs)) (hb : RowKit.Below w.heap.size w w') : Nx w w' n fs B d :=
  ⟨h, FRd.own ho hl, fun b off e => own_base ho b (by rw [e]; rfl), hb⟩
theorem step1 (w : World) : Calls Try.prog 17 #[.agg #[.int .i64 1, .int .i64 10, .int .i64 0, .int .i64 10, .slice none 0 0], .agg #[.int .i64 1, .int .i64 1, .int .i64 2, .int .i64 1, .int .i64 6]] w fun e w' => ∃ B d C m d2, e = .returned (.tuple #[.agg #[.int .i64 1, .int .i64 10, .int .i64 0, .int .i64 10, .slice B 1 d], .slice C m d2, .int .i64 0]) ∧ Nx w w' 1 [fa1] B d := by
  refine (apply_new q0 none 0 0 [] fa1 w (FRd.empty w) (BOk.nil (by decide)) (by decide) (fun x hx => by cases hx) (by decide)).mono ?_
  rintro e w' ⟨I, B, d, C, m, d2, ga, gb, ba, bb, h1, h2, h3, h4, h5, h6, h7, h8⟩
  have e1 := ins_eq h2 (gs := [fa1]) (by decide) (List.Perm.refl _)
  rw [e1] at h2 h6
  exact ⟨B, d, C, m, d2, h1, nx_of h2 rfl h6 h8⟩
theorem step2 (A : Option Addr) (c : Nat) (w : World) (h : FRd w A 1 c [fa1]) (hb : BOk q0 [fa1]) : Calls Try.prog 17 #[.agg #[.int .i64 1, .int .i64 10, .int .i64 0, .int .i64 10, .slice A 1 c], .agg #[.int .i64 2, .int .i64 1, .int .i64 3, .int .i64 2, .int .i64 6]] w fun e w' => ∃ B d C m d2, e = .returned (.tuple #[.agg #[.int .i64 1, .int .i64 10, .int .i64 0, .int .i64 10, .slice B 2 d], .slice C m d2, .int .i64 0]) ∧ Nx w w' 2 [fa1, fa2] B d := by
  refine (apply_new q0 A 1 c [fa1] fa2 w h hb (by decide) (by decide) (by decide)).mono ?_
  rintro e w' ⟨I, B, d, C, m, d2, ga, gb, ba, bb, h1, h2, h3, h4, h5, h6, h7, h8⟩
  have e1 := ins_eq h2 (gs := [fa1, fa2]) (by decide) (List.Perm.swap _ _ _)
  rw [e1] at h2 h6
  exact ⟨B, d, C, m, d2, h1, nx_of h2 rfl h6 h8⟩
def chA : List Cg := [⟨1, 6, 5⟩, ⟨2, 4, 0⟩, ⟨3, 0, 5⟩]
theorem step3 (A : Option Addr) (c : Nat) (w : World) (h : FRd w A 2 c [fa1, fa2]) (hb : BOk q0 [fa1, fa2]) : Calls Try.prog 17 #[.agg #[.int .i64 1, .int .i64 10, .int .i64 0, .int .i64 10, .slice A 2 c], .agg #[.int .i64 3, .int .i64 1, .int .i64 2, .int .i64 3, .int .i64 6]] w fun e w' => ∃ B d C d2, e = .returned (.tuple #[.agg #[.int .i64 1, .int .i64 10, .int .i64 0, .int .i64 10, .slice B 3 d], .slice C 3 d2, .int .i64 0]) ∧ w'.ownsRow w.heap.size 65 3 (.slice C 3 d2) 3 (flat encG chA) ∧ Nx w w' 3 [fa1, fa2, fa3] B d := by
  refine (apply_new q0 A 2 c [fa1, fa2] fa3 w h hb (by decide) (by decide) (by decide)).mono ?_
  rintro e w' ⟨I, B, d, C, m, d2, ga, gb, ba, bb, h1, h2, h3, h4, h5, h6, h7, h8⟩
  have e1 := ins_eq h2 (gs := [fa1, fa2, fa3]) (by decide) ((List.Perm.cons _ (List.Perm.swap _ _ _)).trans (List.Perm.swap _ _ _))
  rw [e1] at h2 h4 h6
  obtain ⟨rfl, _⟩ := h3.unique settled12
  obtain ⟨rfl, _⟩ := h4.unique settled123
  rw [show chgs [⟨1, 2, 10, 6, 6, 6⟩, ⟨2, 3, 4, 6, 6, 4⟩] [⟨1, 2, 10, 12, 6, 5⟩, ⟨2, 3, 0, 6, 6, 0⟩, ⟨3, 2, 10, 12, 6, 5⟩] = chA by decide] at h5 h7
  obtain rfl : m = 3 := h5.symm
  exact ⟨B, d, C, d2, h1, h7, nx_of h2 rfl h6 h8⟩
theorem step4 (A : Option Addr) (c : Nat) (w : World) (h : FRd w A 3 c [fa1, fa2, fa3]) (hb : BOk q0 [fa1, fa2, fa3]) : Calls Try.prog 21 #[.agg #[.int .i64 1, .int .i64 10, .int .i64 0, .int .i64 10, .slice A 3 c]] w fun e w' => e = .returned (.int .i64 0) ∧ RowKit.Below w.heap.size w w' := by
  refine (balance_any q0 A 3 c [fa1, fa2, fa3] w h.recs hb).mono ?_
  rintro e w' ⟨gs, bal, h1, h2, h3⟩
  obtain ⟨_, rfl⟩ := h2.unique settled123
  exact ⟨h1, h3⟩
theorem step0 (w : World) : Calls Try.prog 10 #[.agg #[.int .i64 1, .int .i64 10, .int .i64 0, .int .i64 10]] w fun e w' => e = .returned (.tuple #[.agg #[.int .i64 1, .int .i64 10, .int .i64 0, .int .i64 10, .slice none 0 0], .int .i64 0]) ∧ RowKit.Below w.heap.size w w' := new_ok q0 w (by decide)

theorem chA_recs (w : World) : Recs encG 3 (w.alloc (.cells #[.int .i64 1, .int .i64 6, .int .i64 5, .int .i64 2, .int .i64 4, .int .i64 0, .int .i64 3, .int .i64 0, .int .i64 5] 65)) (some ⟨w.heap.size, 0, none⟩) 3 chA := by
  refine ⟨rfl, fun _ => ⟨w.heap.size, 0, rfl, by simp, fun i hi c hc => ?_⟩⟩
  rw [Nat.zero_add, (Bl.new w 65 _).cell]
  rcases (show i = 0 ∨ i = 1 ∨ i = 2 by omega) with rfl | rfl | rfl <;> rcases (show c = 0 ∨ c = 1 ∨ c = 2 by omega) with rfl | rfl | rfl <;> rfl

set_option maxRecDepth 100000 in
set_option maxHeartbeats 4000000 in
theorem awake22_any (w : World) : Calls Try.prog 13 #[] w (BRes w true) := by
  have H0 := Lib.hid step0
  have H1 := Lib.hid step1
  have H2 := Lib.hid step2
  have H3 := Lib.hid step3
  have H4 := Lib.hid step4
  go_enter Try.func13, Try.ntmps13
  go_wp2_with fail
  refine (H0.out _).mono ?_
  rintro e w1 ⟨rfl, hb1⟩
  have hx1 := Bl.new w1 26 #[.int .i64 1, .int .i64 10, .int .i64 0, .int .i64 10, .slice none 0 0]
  have hB1 : RowKit.Below w.heap.size w (w1.alloc (.cells #[.int .i64 1, .int .i64 10, .int .i64 0, .int .i64 10, .slice none 0 0] 26)) := hb1.alloc hb1.size _
  have hg := hb1.size
  go_upto_region 2 with (fail)
  generalize w1.alloc (.cells #[.int .i64 1, .int .i64 10, .int .i64 0, .int .i64 10, .slice none 0 0] 26) = W1 at *
  generalize w1.heap.size = g at *
  clear hb1
  have p0 : W1.cell? ⟨g, 0, none⟩ = some (.int .i64 1) := hx1.c0
  have p1 : W1.cell? ⟨g, 1, none⟩ = some (.int .i64 10) := hx1.c1
  have p2 : W1.cell? ⟨g, 2, none⟩ = some (.int .i64 0) := hx1.c2
  have p3 : W1.cell? ⟨g, 3, none⟩ = some (.int .i64 10) := hx1.c3
  have p4 : W1.cell? ⟨g, 4, none⟩ = some (.slice none 0 0) := hx1.c4
  go_wp2_with fail
  refine (H1.out _).mono ?_
  rintro e v1 ⟨B1, d1, C1, m1, c1, rfl, hO, hF, hbb, hb⟩
  have hy := hx1.keep hb
  have hne : ∀ b off, B1 = some ⟨b, off, none⟩ → b ≠ g := fun b off e q => by have := hbb b off e; have := hx1.lt; omega
  have hx2 := set5_bl hy (.int .i64 1) (.int .i64 10) (.int .i64 0) (.int .i64 10) (.slice B1 1 d1)
  have hF2 := hF.set5 hne (.int .i64 1) (.int .i64 10) (.int .i64 0) (.int .i64 10) (.slice B1 1 d1)
  have hB2 := put5 (hB1.trans (hb.mono hB1.size)) hg (.int .i64 1) (.int .i64 10) (.int .i64 0) (.int .i64 10) (.slice B1 1 d1)
  have hO2 := Lib.hid hO
  clear p0 p1 p2 p3 p4 hx1 hB1 hF hO hbb hb hne
  have r0 : v1.cell? ⟨g, 0, none⟩ = some (.int .i64 1) := hy.c0
  have r1 : v1.cell? ⟨g, 1, none⟩ = some (.int .i64 10) := hy.c1
  have r2 : v1.cell? ⟨g, 2, none⟩ = some (.int .i64 0) := hy.c2
  have r3 : v1.cell? ⟨g, 3, none⟩ = some (.int .i64 10) := hy.c3
  have r4 : v1.cell? ⟨g, 4, none⟩ = some (.slice none 0 0) := hy.c4
  have f0 : v1.frozen? ⟨g, 0, none⟩ = false := hy.free 0
  have f1 : v1.frozen? ⟨g, 1, none⟩ = false := hy.free 1
  have f2 : v1.frozen? ⟨g, 2, none⟩ = false := hy.free 2
  have f3 : v1.frozen? ⟨g, 3, none⟩ = false := hy.free 3
  have f4 : v1.frozen? ⟨g, 4, none⟩ = false := hy.free 4
  clear hy
  go_upto_region 3 with (fail)
  generalize ((((v1.setCell ⟨g, 0, none⟩ (.int .i64 1)).setCell ⟨g, 1, none⟩ (.int .i64 10)).setCell ⟨g, 2, none⟩ (.int .i64 0)).setCell ⟨g, 3, none⟩ (.int .i64 10)).setCell ⟨g, 4, none⟩ (.slice B1 1 d1) = W2 at *
  clear r0 r1 r2 r3 r4 f0 f1 f2 f3 f4
  have p0 : W2.cell? ⟨g, 0, none⟩ = some (.int .i64 1) := hx2.c0
  have p1 : W2.cell? ⟨g, 1, none⟩ = some (.int .i64 10) := hx2.c1
  have p2 : W2.cell? ⟨g, 2, none⟩ = some (.int .i64 0) := hx2.c2
  have p3 : W2.cell? ⟨g, 3, none⟩ = some (.int .i64 10) := hx2.c3
  have p4 : W2.cell? ⟨g, 4, none⟩ = some (.slice B1 1 d1) := hx2.c4
  go_wp2_with fail
  refine (H2.out _ _ _ hF2 hO2.out).mono ?_
  rintro e v2 ⟨B2, d2, C2, m2, c2, rfl, hO, hF, hbb, hb⟩
  have hy := hx2.keep hb
  have hne : ∀ b off, B2 = some ⟨b, off, none⟩ → b ≠ g := fun b off e q => by have := hbb b off e; have := hx2.lt; omega
  have hx3 := set5_bl hy (.int .i64 1) (.int .i64 10) (.int .i64 0) (.int .i64 10) (.slice B2 2 d2)
  have hF3 := hF.set5 hne (.int .i64 1) (.int .i64 10) (.int .i64 0) (.int .i64 10) (.slice B2 2 d2)
  have hB3 := put5 (hB2.trans (hb.mono hB2.size)) hg (.int .i64 1) (.int .i64 10) (.int .i64 0) (.int .i64 10) (.slice B2 2 d2)
  have hO3 := Lib.hid hO
  clear p0 p1 p2 p3 p4 hx2 hB2 hF hO hbb hb hne
  have r0 : v2.cell? ⟨g, 0, none⟩ = some (.int .i64 1) := hy.c0
  have r1 : v2.cell? ⟨g, 1, none⟩ = some (.int .i64 10) := hy.c1
  have r2 : v2.cell? ⟨g, 2, none⟩ = some (.int .i64 0) := hy.c2
  have r3 : v2.cell? ⟨g, 3, none⟩ = some (.int .i64 10) := hy.c3
  have r4 : v2.cell? ⟨g, 4, none⟩ = some (.slice B1 1 d1) := hy.c4
  have f0 : v2.frozen? ⟨g, 0, none⟩ = false := hy.free 0
  have f1 : v2.frozen? ⟨g, 1, none⟩ = false := hy.free 1
  have f2 : v2.frozen? ⟨g, 2, none⟩ = false := hy.free 2
  have f3 : v2.frozen? ⟨g, 3, none⟩ = false := hy.free 3
  have f4 : v2.frozen? ⟨g, 4, none⟩ = false := hy.free 4
  clear hy
  go_upto_region 4 with (fail)
  generalize ((((v2.setCell ⟨g, 0, none⟩ (.int .i64 1)).setCell ⟨g, 1, none⟩ (.int .i64 10)).setCell ⟨g, 2, none⟩ (.int .i64 0)).setCell ⟨g, 3, none⟩ (.int .i64 10)).setCell ⟨g, 4, none⟩ (.slice B2 2 d2) = W3 at *
  clear r0 r1 r2 r3 r4 f0 f1 f2 f3 f4
  have p0 : W3.cell? ⟨g, 0, none⟩ = some (.int .i64 1) := hx3.c0
  have p1 : W3.cell? ⟨g, 1, none⟩ = some (.int .i64 10) := hx3.c1
  have p2 : W3.cell? ⟨g, 2, none⟩ = some (.int .i64 0) := hx3.c2
  have p3 : W3.cell? ⟨g, 3, none⟩ = some (.int .i64 10) := hx3.c3
  have p4 : W3.cell? ⟨g, 4, none⟩ = some (.slice B2 2 d2) := hx3.c4
  go_wp2_with fail
  refine (H3.out _ _ _ hF3 hO3.out).mono ?_
  rintro e v3 ⟨B3, d3, C3, c3, rfl, hch, hO, hF, hbb, hb⟩
  have hy := hx3.keep hb
  have hne : ∀ b off, B3 = some ⟨b, off, none⟩ → b ≠ g := fun b off e q => by have := hbb b off e; have := hx3.lt; omega
  have hx4 := set5_bl hy (.int .i64 1) (.int .i64 10) (.int .i64 0) (.int .i64 10) (.slice B3 3 d3)
  have hF4 := hF.set5 hne (.int .i64 1) (.int .i64 10) (.int .i64 0) (.int .i64 10) (.slice B3 3 d3)
  have hB4 := put5 (hB3.trans (hb.mono hB3.size)) hg (.int .i64 1) (.int .i64 10) (.int .i64 0) (.int .i64 10) (.slice B3 3 d3)
  have hO4 := Lib.hid hO
  have hch4 := own5 (own_mono hch (Nat.zero_le _)) (fun j hj e => own_apart hch hy (by decide) (by rw [hj, e])) (.int .i64 1) (.int .i64 10) (.int .i64 0) (.int .i64 10) (.slice B3 3 d3)
  clear p0 p1 p2 p3 p4 hx3 hB3 hF hO hbb hb hne hch
  have r0 : v3.cell? ⟨g, 0, none⟩ = some (.int .i64 1) := hy.c0
  have r1 : v3.cell? ⟨g, 1, none⟩ = some (.int .i64 10) := hy.c1
  have r2 : v3.cell? ⟨g, 2, none⟩ = some (.int .i64 0) := hy.c2
  have r3 : v3.cell? ⟨g, 3, none⟩ = some (.int .i64 10) := hy.c3
  have r4 : v3.cell? ⟨g, 4, none⟩ = some (.slice B2 2 d2) := hy.c4
  have f0 : v3.frozen? ⟨g, 0, none⟩ = false := hy.free 0
  have f1 : v3.frozen? ⟨g, 1, none⟩ = false := hy.free 1
  have f2 : v3.frozen? ⟨g, 2, none⟩ = false := hy.free 2
  have f3 : v3.frozen? ⟨g, 3, none⟩ = false := hy.free 3
  have f4 : v3.frozen? ⟨g, 4, none⟩ = false := hy.free 4
  clear hy
  go_upto_region 5 with (fail)
  generalize ((((v3.setCell ⟨g, 0, none⟩ (.int .i64 1)).setCell ⟨g, 1, none⟩ (.int .i64 10)).setCell ⟨g, 2, none⟩ (.int .i64 0)).setCell ⟨g, 3, none⟩ (.int .i64 10)).setCell ⟨g, 4, none⟩ (.slice B3 3 d3) = W4 at *
  clear r0 r1 r2 r3 r4 f0 f1 f2 f3 f4
  have HSC := Lib.hid (sameChanges_true C3 (some ⟨W4.heap.size, 0, none⟩) 3 c3 3 chA (W4.alloc (.cells #[.int .i64 1, .int .i64 6, .int .i64 5, .int .i64 2, .int .i64 4, .int .i64 0, .int .i64 3, .int .i64 0, .int .i64 5] 65)) ((Recs.of_own encG_len hch4 rfl).alloc _) (chA_recs W4) (by omega))
  have hB4a : RowKit.Below w.heap.size w (W4.alloc (.cells #[.int .i64 1, .int .i64 6, .int .i64 5, .int .i64 2, .int .i64 4, .int .i64 0, .int .i64 3, .int .i64 0, .int .i64 5] 65)) := hB4.alloc hB4.size _
  go_wp2_with fail
  refine HSC.out.mono ?_
  rintro e w5 ⟨rfl, hb5⟩
  have hx5 := (hx4.alloc (.cells #[.int .i64 1, .int .i64 6, .int .i64 5, .int .i64 2, .int .i64 4, .int .i64 0, .int .i64 3, .int .i64 0, .int .i64 5] 65)).keep hb5
  have hB5 := hB4a.trans (hb5.mono hB4a.size)
  have hF5 := (hF4.below ((Below.refl _ _).alloc (Nat.le_refl _) (.cells #[.int .i64 1, .int .i64 6, .int .i64 5, .int .i64 2, .int .i64 4, .int .i64 0, .int .i64 3, .int .i64 0, .int .i64 5] 65))).below hb5
  clear HSC hx4 hch4 hF4 hB4 hB4a hb5
  have p0 : w5.cell? ⟨g, 0, none⟩ = some (.int .i64 1) := hx5.c0
  have p1 : w5.cell? ⟨g, 1, none⟩ = some (.int .i64 10) := hx5.c1
  have p2 : w5.cell? ⟨g, 2, none⟩ = some (.int .i64 0) := hx5.c2
  have p3 : w5.cell? ⟨g, 3, none⟩ = some (.int .i64 10) := hx5.c3
  have p4 : w5.cell? ⟨g, 4, none⟩ = some (.slice B3 3 d3) := hx5.c4
  go_wp2_with fail
  refine (H4.out _ _ _ hF5 hO4.out).mono ?_
  rintro e w6 ⟨rfl, hb6⟩
  go_wp2
  go_ret
  exact ⟨rfl, hB5.trans (hb6.mono hB5.size)⟩
end Go.Proofs.Ytemhiifgplaldaa

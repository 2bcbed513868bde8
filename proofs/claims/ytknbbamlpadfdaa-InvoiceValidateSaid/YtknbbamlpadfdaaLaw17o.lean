/-
  The walk of the law InvoiceOrder. No statement of the seat is proved here. Conditions: the slices read as integers.
-/
import Derived.Test.YtknbbamlpadfdaaLaw17b
import Derived.BigRegion
namespace Go.Proofs.Ytknbbamlpadfdaa
open Go.RowKit
set_option linter.unusedVariables false

/-- The first m records of a block. -/
def Row5 (arr : Array Value) (m : Nat) (f : Nat → Chg) : Prop := ∀ j, j < m → ∀ c, c < 5 → arr[j * 5 + c]? = some ((encC (f j))[c]!)
def put5 (arr : Array Value) (i : Nat) (x : Chg) : Array Value := ((((arr.setIfInBounds (i * 5) (.int .i64 x.kind)).setIfInBounds (i * 5 + 1) (.int .i64 x.amt)).setIfInBounds (i * 5 + 2) (.string x.cur)).setIfInBounds (i * 5 + 3) (.int .i64 x.basis)).setIfInBounds (i * 5 + 4) (.int .i64 x.line)
theorem Row5.put {arr : Array Value} {m : Nat} {f : Nat → Chg} (h : Row5 arr m f) (i : Nat) (x : Chg) (hi : i < m) : Row5 (put5 arr i x) m (fun j => if j = i then x else f j) := by
  have hs : i * 5 + 4 < arr.size := by
    rcases Nat.lt_or_ge (i * 5 + 4) arr.size with h1 | h1
    · exact h1
    · have := h i hi 4 (by omega)
      rw [Array.getElem?_eq_none h1] at this
      cases this
  intro j hj c hc
  unfold put5
  simp only [Array.getElem?_setIfInBounds, Array.size_setIfInBounds]
  by_cases e : j = i
  · subst e
    have hcc : c = 0 ∨ c = 1 ∨ c = 2 ∨ c = 3 ∨ c = 4 := by omega
    rcases hcc with rfl | rfl | rfl | rfl | rfl
    · rw [if_neg (by omega), if_neg (by omega), if_neg (by omega), if_neg (by omega), if_pos (by omega), if_pos (by omega), if_pos rfl]; rfl
    · rw [if_neg (by omega), if_neg (by omega), if_neg (by omega), if_pos (by omega), if_pos (by omega), if_pos rfl]; rfl
    · rw [if_neg (by omega), if_neg (by omega), if_pos (by omega), if_pos (by omega), if_pos rfl]; rfl
    · rw [if_neg (by omega), if_pos (by omega), if_pos (by omega), if_pos rfl]; rfl
    · rw [if_pos (by omega), if_pos (by omega), if_pos rfl]; rfl
  · rw [if_neg (by omega), if_neg (by omega), if_neg (by omega), if_neg (by omega), if_neg (by omega), if_neg e, h j hj c hc]
theorem Row5.recs {w : World} {arr : Array Value} {m g : Nat} {t : TypeId} {f : Nat → Chg} (h : Row5 arr m f) (hb : Bl w g t arr) : Recs encC 5 w (some ⟨g, 0, none⟩) m ((List.range m).map f) :=
  ⟨by simp, fun _ => ⟨g, 0, rfl, hb.lt, fun i hi c hc => by rw [Nat.zero_add, hb.cell, h i hi c hc]; simp [hi]⟩⟩
/-- A row of charges that holds some. -/
theorem own_row5 {w : World} {base m d : Nat} {B : Option Addr} {t : TypeId} {cs : List Chg} (h : w.ownsRow base t 5 (.slice B m d) m (flat encC cs)) (hl : cs.length = m) (hm : 0 < m) :
    ∃ g arr, B = some ⟨g, 0, none⟩ ∧ base ≤ g ∧ Bl w g t arr ∧ Row5 arr m (fun i => cs[i]!) := by
  rcases h.2 with ⟨_, h0⟩ | ⟨g, cap, cur, hv, hb, hh, h1, h2, h3, h4⟩
  · omega
  · injection hv with e1 e2 e3
    refine ⟨g, cur, e1, hb, hh, fun j hj c hc => ?_⟩
    have := flat_get encC_len cs j c (by omega) hc
    rw [← h4, List.getElem?_take, if_pos (by omega), Array.getElem?_toList] at this
    exact this
def swapL (cs : List Chg) (p q : Nat) : List Chg := (List.range cs.length).map fun i => if i = q then cs[p]! else if i = p then cs[q]! else cs[i]!
theorem swapL_get (cs : List Chg) (p q i : Nat) (hi : i < cs.length) : (swapL cs p q)[i]! = if i = p then cs[q]! else if i = q then cs[p]! else cs[i]! := by
  unfold swapL
  rw [getElem!_pos _ i (by simpa using hi)]
  rw [List.getElem_map, List.getElem_range]
  by_cases e1 : i = q
  · by_cases e2 : i = p
    · rw [if_pos e1, if_pos e2, ← e1, ← e2]
    · rw [if_pos e1, if_neg e2, if_pos e1]
  · rw [if_neg e1, if_neg e1]
theorem mem_get (cs : List Chg) (i : Nat) (hi : i < cs.length) : cs[i]! ∈ cs := by rw [getElem!_pos cs i hi]; exact List.getElem_mem hi
theorem swapL_mem {cs : List Chg} {p q : Nat} (hp : p < cs.length) (hq : q < cs.length) {x : Chg} (h : x ∈ swapL cs p q) : x ∈ cs := by
  obtain ⟨i, hi, rfl⟩ := List.mem_map.1 h
  have hi := List.mem_range.1 hi
  split
  · exact mem_get cs p hp
  · split
    · exact mem_get cs q hq
    · exact mem_get cs i hi

/-- The block behind the exchange. -/
theorem Bl.put5 {w : World} {g : Nat} {t : TypeId} {arr : Array Value} (h : Bl w g t arr) (i : Nat) (x : Chg) : Bl (((((w.setCell ⟨g, i * 5, none⟩ (.int .i64 x.kind)).setCell ⟨g, i * 5 + 1, none⟩ (.int .i64 x.amt)).setCell ⟨g, i * 5 + 2, none⟩ (.string x.cur)).setCell ⟨g, i * 5 + 3, none⟩ (.int .i64 x.basis)).setCell ⟨g, i * 5 + 4, none⟩ (.int .i64 x.line)) g t (put5 arr i x) := ((((h.put _ _).put _ _).put _ _).put _ _).put _ _

theorem Row5.swap {arr : Array Value} {m p q : Nat} {cs : List Chg} {xp xq : Chg} (h : Row5 arr m (fun i => cs[i]!)) (hp : p < m) (hq : q < m) (e1 : cs[p]! = xp) (e2 : cs[q]! = xq) : Row5 (Go.Proofs.Ytknbbamlpadfdaa.put5 (Go.Proofs.Ytknbbamlpadfdaa.put5 arr p xq) q xp) m (fun i => if i = q then cs[p]! else if i = p then cs[q]! else cs[i]!) := by
  subst e1 e2
  exact (h.put p _ hp).put q _ hq
theorem Only.drew {g : Nat} {w w' : World} (h : Only g w w') : Only g w w'.drew := ⟨h.os, h.tape, h.output, h.size, h.block⟩
theorem Only.five {g : Nat} {w w' : World} (h : Only g w w') (i : Nat) (x : Chg) : Only g w (((((w'.setCell ⟨g, i * 5, none⟩ (.int .i64 x.kind)).setCell ⟨g, i * 5 + 1, none⟩ (.int .i64 x.amt)).setCell ⟨g, i * 5 + 2, none⟩ (.string x.cur)).setCell ⟨g, i * 5 + 3, none⟩ (.int .i64 x.basis)).setCell ⟨g, i * 5 + 4, none⟩ (.int .i64 x.line)) := ((((h.setCell _ _).setCell _ _).setCell _ _).setCell _ _).setCell _ _
theorem swap_done {w : World} {g m p q : Nat} {t : TypeId} {arr : Array Value} {cs : List Chg} {xp xq : Chg} (hb : Bl w g t arr) (h : Row5 arr m (fun i => cs[i]!)) (hl : cs.length = m) (hp : p < m) (hq : q < m) (e1 : cs[p]! = xp) (e2 : cs[q]! = xq) :
    Recs encC 5 ((((((((((w.setCell ⟨g, p * 5, none⟩ (.int .i64 xq.kind)).setCell ⟨g, p * 5 + 1, none⟩ (.int .i64 xq.amt)).setCell ⟨g, p * 5 + 2, none⟩ (.string xq.cur)).setCell ⟨g, p * 5 + 3, none⟩ (.int .i64 xq.basis)).setCell ⟨g, p * 5 + 4, none⟩ (.int .i64 xq.line)).setCell ⟨g, q * 5, none⟩ (.int .i64 xp.kind)).setCell ⟨g, q * 5 + 1, none⟩ (.int .i64 xp.amt)).setCell ⟨g, q * 5 + 2, none⟩ (.string xp.cur)).setCell ⟨g, q * 5 + 3, none⟩ (.int .i64 xp.basis)).setCell ⟨g, q * 5 + 4, none⟩ (.int .i64 xp.line)).drew (some ⟨g, 0, none⟩) m (swapL cs p q) ∧ Only g w ((((((((((w.setCell ⟨g, p * 5, none⟩ (.int .i64 xq.kind)).setCell ⟨g, p * 5 + 1, none⟩ (.int .i64 xq.amt)).setCell ⟨g, p * 5 + 2, none⟩ (.string xq.cur)).setCell ⟨g, p * 5 + 3, none⟩ (.int .i64 xq.basis)).setCell ⟨g, p * 5 + 4, none⟩ (.int .i64 xq.line)).setCell ⟨g, q * 5, none⟩ (.int .i64 xp.kind)).setCell ⟨g, q * 5 + 1, none⟩ (.int .i64 xp.amt)).setCell ⟨g, q * 5 + 2, none⟩ (.string xp.cur)).setCell ⟨g, q * 5 + 3, none⟩ (.int .i64 xp.basis)).setCell ⟨g, q * 5 + 4, none⟩ (.int .i64 xp.line)).drew := by
  refine ⟨?_, ?_⟩
  · have h2 := (h.swap hp hq e1 e2).recs ((hb.put5 p xq).put5 q xp).drew
    unfold swapL
    rw [hl]
    exact h2
  · have h3 := ((Only.refl g w).five p xq).five q xp
    exact h3.drew

set_option maxRecDepth 100000 in
set_option maxHeartbeats 16000000 in
theorem walkInvoiceOrder (A0 : Option Addr) (n0 c0 : Nat) (xs : List Int) (A1 : Option Addr) (n1 c1 : Nat) (ys : List Int) (pn qn : Int) (w : World)
    (h0 : Ints w A0 n0 xs) (hl0 : n0 ≤ c0) (hc0 : c0 ≤ 9223372036854775807) (h1 : Ints w A1 n1 ys) (hl1 : n1 ≤ c1) (hc1 : c1 ≤ 9223372036854775807) :
    Calls Try.prog 8 #[.slice A0 n0 c0, .slice A1 n1 c1, .int .i64 pn, .int .i64 qn] w fun e w' => e = .returned (.bool true) ∧ RowKit.Below w.heap.size w w' := by
  go_enter Try.func8, Try.ntmps8
  go_wp2_with fail
  refine (invoice_any A1 n1 c1 ys w h1 hl1 hc1).mono ?_
  rintro e w1 ⟨cu, day, A, n, c, B, m, d, ls, cs, rfl, hcu, hie, hn, hm, hcs, hln, hcm, hol, hoc, hb1⟩
  have HCU : Hid (cu.size ≤ 9223372036854775807) := by show _ ≤ _; omega
  have HCS := Lib.hid (chsz_of hcs)
  have HC3 := Lib.hid hcs
  have HCM := Lib.hid hcm
  have hl := Recs.of_own enc2_len hol hln
  have hc := Recs.of_own encC_len hoc hcm
  have hr := Rd.of_own hoc
  clear hcu hie hcs hln hcm hol hoc
  go_wp2_with fail
  refine (table_any A0 n0 c0 xs w1 (h0.below hb1) hl0 hc0).mono ?_
  rintro e w2 ⟨T, tn, tc, ts, rfl, htl, htn, hts, hot, hb2⟩
  have HTS := Lib.hid (exsz_of hts)
  have hT := Recs.of_own encX_len hot htl
  have hl2 := hl.below hb2
  have hc2 := hc.below hb2
  have hr2 := hr.keep hb2
  have hB2 := hb1.trans (hb2.mono hb1.size)
  clear hts htl hot hb1 hb2 hl hc hr h0 h1
  have hal : RowKit.Below w2.heap.size w2 (w2.alloc (.cells #[.string cu, .int .i64 day, .slice A n c, .slice B m d] 25)) := (Below.refl _ _).alloc (Nat.le_refl _) _
  have hx := Bl.new w2 25 #[.string cu, .int .i64 day, .slice A n c, .slice B m d]
  have hl3 := hl2.below hal
  have hc3 := hc2.below hal
  have hT3 := hT.below hal
  have hB3 := hB2.trans (hal.mono hB2.size)
  go_wp2_with fail
  generalize w2.alloc (.cells #[.string cu, .int .i64 day, .slice A n c, .slice B m d] 25) = W at *
  refine (values_any T tn tc ts cu day A B n c m d ls cs W hT3 (by omega) HTS.out HCU.out hl3 (by omega) hc3 (by omega) HCS.out).mono ?_
  rintro e w4 ⟨Av, nv, cv, rfl, hov, hb4⟩
  have hx4 := hx.keep hb4
  have p0 : w4.cell? ⟨w2.heap.size, 0, none⟩ = some (.string cu) := hx4.cell 0
  have p1 : w4.cell? ⟨w2.heap.size, 1, none⟩ = some (.int .i64 day) := hx4.cell 1
  have p2 : w4.cell? ⟨w2.heap.size, 2, none⟩ = some (.slice A n c) := hx4.cell 2
  have p3 : w4.cell? ⟨w2.heap.size, 3, none⟩ = some (.slice B m d) := hx4.cell 3
  have hb24 := hal.trans (hb4.mono hal.size)
  have HOV := Lib.hid hov
  have HLv := Lib.hid (own_len hov)
  have HMv := Lib.hid (own_le hov)
  have hg3 := hx.lt
  have hg4 := hx4.lt
  have HB2 := Lib.hid hB2
  have HB24 := Lib.hid hb24
  clear hx hl3 hc3 hT3 hB3 hb4 hov hal
  obtain ⟨er, her⟩ : ∃ er, valErr ts cu.toList day ls cs = er := ⟨_, rfl⟩
  have HER := Lib.hid her
  rw [her]
  clear her
  by_cases he0 : er = 0
  case neg =>
    go_wp2_with fail
    refine (awake17_any _).mono ?_
    rintro e w9 ⟨rfl, hb9⟩
    have hB4 := HB2.out.trans (HB24.out.mono HB2.out.size)
    have hB9 := hB4.trans (hb9.mono hB4.size)
    go_wp2
    go_ret
    exact ⟨rfl, hB9⟩
  subst he0
  by_cases hm2 : m < 2
  case pos =>
    have hm2i : (m : Int) < 2 := by omega
    go_wp2_with fail
    refine (awake17_any _).mono ?_
    rintro e w9 ⟨rfl, hb9⟩
    have hB4 := HB2.out.trans (HB24.out.mono HB2.out.size)
    have hB9 := hB4.trans (hb9.mono hB4.size)
    go_wp2
    go_ret
    exact ⟨rfl, hB9⟩
  have hm2i : ¬ ((m : Int) < 2) := by omega
  go_upto_region 6 with (fail)
  have hr4 := hr2.keep hb24
  have HOE : Hid ((w4.alloc (.cells #[] 33)).ownsRow w4.heap.size 33 5 (.slice (some ⟨w4.heap.size, 0, none⟩) 0 0) 0 []) := own_empty (Bl.new w4 _ _) (Nat.le_refl _)
  have HRD := Lib.hid (hr4.alloc (.cells #[] 33))
  have HSZ : Hid (w4.heap.size ≤ (w4.alloc (.cells #[] 33)).heap.size) := by show _ ≤ _; simp
  have HON : Hid (∀ u ∈ flat encC cs, u.oneCell' = true) := fun u hu => by
    obtain ⟨x, _, hx⟩ := List.mem_flatMap.1 hu
    exact encC_one x u hx
  have HM1 : Hid (0 + m ≤ maxLen ∧ (0 + m) * 48 ≤ 140737488355328) := ⟨by unfold maxLen; omega, by omega⟩
  have HW := Lib.hid (fun x w => within_any x (m : Int) w (by omega) (by omega))
  have ngx : w2.heap.size ≠ w4.heap.size := by omega
  go_wp2_with (at_builtin; refine wpList_append_rd _ rfl (.tmp 38) (.tmp 40) 23 rfl w4.heap.size 33 _ 5 48 Try.underlying23 infoC rfl (by decide) (.slice (some ⟨w4.heap.size, 0, none⟩) 0 0) 0 [] rfl HOE.out B m d (flat encC cs) rfl HRD.out HON.out HM1.out.1 HM1.out.2 HSZ.out ?_; intro v6 w6 ho6 hg6 _; obtain ⟨B6, d6, rfl⟩ := own_slice ho6; have hx6 : Bl w6 w2.heap.size 25 #[.string cu, .int .i64 day, .slice A n c, .slice B m d] := (hx4.alloc _).thru hg6 (by intro e; simp [Value.ownBlock] at e; omega); have y3 : w6.cell? ⟨w2.heap.size, 3, none⟩ = some (.slice B m d) := hx6.cell 3; have f3 : w6.frozen? ⟨w2.heap.size, 3, none⟩ = false := hx6.free 3)
  rw [Nat.zero_add, List.nil_append] at ho6
  have hb46 : RowKit.Below w4.heap.size w4 w6 := ((Below.refl _ _).alloc (Nat.le_refl _) _).grown hg6 HSZ.out (by intro g hg; simp [Value.ownBlock] at hg; omega)
  have hb26 := hb24.trans (hb46.mono (Nat.le_of_lt hg4))
  obtain ⟨g, arr, rfl, hgb, HBg, HR5⟩ := own_row5 ho6 HCM.out (by omega)
  have hbl := HBg.far (p := ⟨w2.heap.size, 3, none⟩) (by show g ≠ w2.heap.size; omega) (.slice (some ⟨g, 0, none⟩) m d6)
  have hbx := hx6.put 3 (.slice (some ⟨g, 0, none⟩) m d6)
  have hb210 : RowKit.Below w2.heap.size w2 (w6.setCell ⟨w2.heap.size, 3, none⟩ (.slice (some ⟨g, 0, none⟩) m d6)) := hb26.setCell (p := ⟨w2.heap.size, 3, none⟩) (Nat.le_refl _) _
  have HO10 := Lib.hid (own_of_block (w' := w6.setCell ⟨w2.heap.size, 3, none⟩ (.slice (some ⟨g, 0, none⟩) m d6)) (own_below HOV.out hb46) fun k hk => Below.heap_setCell w6 _ _ k (fun e => by have := own_base HOV.out k hk; have e2 : k = w2.heap.size := e; omega))
  have HNG : Hid (∀ k, (Value.slice Av nv cv).ownBlock = some k → k ≠ g) := fun k hk => by have := own_lt HOV.out k hk; omega
  clear HOE HRD HSZ HM1 hg6 ho6 HBg hx6 y3 f3 hb26 hb46 hr4 hb24
  generalize w6.setCell ⟨w2.heap.size, 3, none⟩ (.slice (some ⟨g, 0, none⟩) m d6) = W10 at *
  have hmz : (m : Int) ≠ 0 := by omega
  have hmp : (0 : Int) < m := by omega
  obtain ⟨p, hp⟩ : ∃ p : Nat, pn % (m : Int) = (p : Int) := ⟨(pn % (m : Int)).toNat, by have := Int.emod_nonneg pn hmz; omega⟩
  obtain ⟨q, hq⟩ : ∃ q : Nat, qn % (m : Int) = (q : Int) := ⟨(qn % (m : Int)).toNat, by have := Int.emod_nonneg qn hmz; omega⟩
  have hpm : p < m := by have := Int.emod_lt_of_pos pn hmp; omega
  have hqm : q < m := by have := Int.emod_lt_of_pos qn hmp; omega
  have HWp := HW.out pn
  have HWq := HW.out qn
  rw [hp] at HWp
  rw [hq] at HWq
  have HWp := Lib.hid HWp
  have HWq := Lib.hid HWq
  clear hp hq HW hmz hmp
  refine (HWp.out _).mono ?_
  rintro e w7 ⟨rfl, rfl⟩
  go_wp2_with fail
  refine (HWq.out _).mono ?_
  rintro e w7 ⟨rfl, rfl⟩
  clear HWp HWq
  have x3 : W10.cell? ⟨w2.heap.size, 3, none⟩ = some (.slice (some ⟨g, 0, none⟩) m d6) := hbx.cell 3
  have hpi : (p : Int) < m := by omega
  have hqi : (q : Int) < m := by omega
  obtain ⟨xp, hxp⟩ : ∃ x, cs[p]! = x := ⟨_, rfl⟩
  obtain ⟨xq, hxq⟩ : ∃ x, cs[q]! = x := ⟨_, rfl⟩
  have HXP := Lib.hid hxp
  have HXQ := Lib.hid hxq
  have kp : ∀ c, c < 5 → W10.cell? ⟨g, p * 5 + c, none⟩ = some ((encC xp)[c]!) := fun c hc => (hbl.cell _).trans (by rw [HR5 p hpm c hc, ← hxp])
  have kq : ∀ c, c < 5 → W10.cell? ⟨g, q * 5 + c, none⟩ = some ((encC xq)[c]!) := fun c hc => (hbl.cell _).trans (by rw [HR5 q hqm c hc, ← hxq])
  have a0 : W10.cell? ⟨g, p * 5, none⟩ = some (.int .i64 xp.kind) := kp 0 (by omega)
  have a1 : W10.cell? ⟨g, p * 5 + 1, none⟩ = some (.int .i64 xp.amt) := kp 1 (by omega)
  have a2 : W10.cell? ⟨g, p * 5 + 2, none⟩ = some (.string xp.cur) := kp 2 (by omega)
  have a3 : W10.cell? ⟨g, p * 5 + 3, none⟩ = some (.int .i64 xp.basis) := kp 3 (by omega)
  have a4 : W10.cell? ⟨g, p * 5 + 4, none⟩ = some (.int .i64 xp.line) := kp 4 (by omega)
  have b0 : W10.cell? ⟨g, q * 5, none⟩ = some (.int .i64 xq.kind) := kq 0 (by omega)
  have b1 : W10.cell? ⟨g, q * 5 + 1, none⟩ = some (.int .i64 xq.amt) := kq 1 (by omega)
  have b2 : W10.cell? ⟨g, q * 5 + 2, none⟩ = some (.string xq.cur) := kq 2 (by omega)
  have b3 : W10.cell? ⟨g, q * 5 + 3, none⟩ = some (.int .i64 xq.basis) := kq 3 (by omega)
  have b4 : W10.cell? ⟨g, q * 5 + 4, none⟩ = some (.int .i64 xq.line) := kq 4 (by omega)
  have e0 : W10.frozen? ⟨g, p * 5, none⟩ = false := hbl.free _
  have e1 : W10.frozen? ⟨g, p * 5 + 1, none⟩ = false := hbl.free _
  have e2 : W10.frozen? ⟨g, p * 5 + 2, none⟩ = false := hbl.free _
  have e3 : W10.frozen? ⟨g, p * 5 + 3, none⟩ = false := hbl.free _
  have e4 : W10.frozen? ⟨g, p * 5 + 4, none⟩ = false := hbl.free _
  have f0 : W10.frozen? ⟨g, q * 5, none⟩ = false := hbl.free _
  have f1 : W10.frozen? ⟨g, q * 5 + 1, none⟩ = false := hbl.free _
  have f2 : W10.frozen? ⟨g, q * 5 + 2, none⟩ = false := hbl.free _
  have f3 : W10.frozen? ⟨g, q * 5 + 3, none⟩ = false := hbl.free _
  have f4 : W10.frozen? ⟨g, q * 5 + 4, none⟩ = false := hbl.free _
  have HBL := Lib.hid hbl
  have HBX := Lib.hid hbx
  clear kp kq hxp hxq hbl hbx
  go_upto_region 8 with (fail)
  by_cases hpq : p = q
  · subst hpq
    obtain rfl : xp = xq := HXP.out.symm.trans HXQ.out
    go_region
    have HSD := Lib.hid (swap_done HBL.out HR5 HCM.out hpm hpm HXP.out HXP.out)
    have HVS := Lib.hid (val_swap (t := ts) (cur := cu.toList) (day := day) (ls := ls) (cs := cs) (cs' := swapL cs p p) HER.out p p (by rw [HCM.out]; exact hpm) (by rw [HCM.out]; omega) (by unfold swapL; simp) (swapL_get cs p p))
    have HCZ : Hid (ChSz (swapL cs p p)) := chsz_of fun x hx => HC3.out x (swapL_mem (by rw [HCM.out]; exact hpm) (by rw [HCM.out]; omega) hx)
    generalize ((((((((((W10.setCell ⟨g, p * 5, none⟩ (.int .i64 xp.kind)).setCell ⟨g, p * 5 + 1, none⟩ (.int .i64 xp.amt)).setCell ⟨g, p * 5 + 2, none⟩ (.string xp.cur)).setCell ⟨g, p * 5 + 3, none⟩ (.int .i64 xp.basis)).setCell ⟨g, p * 5 + 4, none⟩ (.int .i64 xp.line)).setCell ⟨g, p * 5, none⟩ (.int .i64 xp.kind)).setCell ⟨g, p * 5 + 1, none⟩ (.int .i64 xp.amt)).setCell ⟨g, p * 5 + 2, none⟩ (.string xp.cur)).setCell ⟨g, p * 5 + 3, none⟩ (.int .i64 xp.basis)).setCell ⟨g, p * 5 + 4, none⟩ (.int .i64 xp.line)).drew = W11 at *
    have hb211 := hb210.trans (HSD.out.2.below (B := w2.heap.size) (by omega))
    have HO11 := Lib.hid (own_of_block (w' := W11) HO10.out (fun k hk => HSD.out.2.block k (HNG.out k hk)))
    have hx11 := HSD.out.2.bl HBX.out (by omega)
    have HV := Lib.hid (values_any T tn tc ts cu day A (some ⟨g, 0, none⟩) n c m d6 ls (swapL cs p p) W11 (hT.below hb211) (by omega) HTS.out HCU.out (hl2.below hb211) (by omega) HSD.out.1 (by omega) HCZ.out)
    rw [HVS.out.1, ← HVS.out.2] at HV
    have z0 : W11.cell? ⟨w2.heap.size, 0, none⟩ = some (.string cu) := hx11.cell 0
    have z1 : W11.cell? ⟨w2.heap.size, 1, none⟩ = some (.int .i64 day) := hx11.cell 1
    have z2 : W11.cell? ⟨w2.heap.size, 2, none⟩ = some (.slice A n c) := hx11.cell 2
    have z3 : W11.cell? ⟨w2.heap.size, 3, none⟩ = some (.slice (some ⟨g, 0, none⟩) m d6) := hx11.cell 3
    clear HVS HSD HCZ
    go_wp2_with fail
    refine HV.out.mono ?_
    rintro e w12 ⟨Au, nu, cu2, rfl, hou, hb12⟩
    have hnn : nv = nu := by rw [← HLv.out, ← own_len hou]
    subst hnn
    have HS := Lib.hid (same_true Av Au nv cv cu2 _ w12 ((IntsK.of_own HO11.out).below hb12) (IntsK.of_own hou) HMv.out)
    have hb212 := hb211.trans (hb12.mono hb211.size)
    clear HV hou hb12 HO11 HO10 HOV
    go_wp2_with fail
    refine HS.out.mono ?_
    rintro e w13 ⟨rfl, q2, rfl⟩
    have hb213 := below_drewN hb212 q2
    have hB13 := HB2.out.trans (hb213.mono HB2.out.size)
    go_wp2_with fail
    refine (awake17_any _).mono ?_
    rintro e w19 ⟨rfl, hb19⟩
    have hB19 := hB13.trans (hb19.mono hB13.size)
    go_wp2
    go_ret
    exact ⟨rfl, hB19⟩
  · have n2 : q ≠ p := fun e => hpq e.symm
    have n3 : p * 5 ≠ q * 5 := by omega
    have n4 : q * 5 ≠ p * 5 := by omega
    go_region
    have HSD := Lib.hid (swap_done HBL.out HR5 HCM.out hpm hqm HXP.out HXQ.out)
    have HVS := Lib.hid (val_swap (t := ts) (cur := cu.toList) (day := day) (ls := ls) (cs := cs) (cs' := swapL cs p q) HER.out p q (by rw [HCM.out]; exact hpm) (by rw [HCM.out]; omega) (by unfold swapL; simp) (swapL_get cs p q))
    have HCZ : Hid (ChSz (swapL cs p q)) := chsz_of fun x hx => HC3.out x (swapL_mem (by rw [HCM.out]; exact hpm) (by rw [HCM.out]; omega) hx)
    generalize ((((((((((W10.setCell ⟨g, p * 5, none⟩ (.int .i64 xq.kind)).setCell ⟨g, p * 5 + 1, none⟩ (.int .i64 xq.amt)).setCell ⟨g, p * 5 + 2, none⟩ (.string xq.cur)).setCell ⟨g, p * 5 + 3, none⟩ (.int .i64 xq.basis)).setCell ⟨g, p * 5 + 4, none⟩ (.int .i64 xq.line)).setCell ⟨g, q * 5, none⟩ (.int .i64 xp.kind)).setCell ⟨g, q * 5 + 1, none⟩ (.int .i64 xp.amt)).setCell ⟨g, q * 5 + 2, none⟩ (.string xp.cur)).setCell ⟨g, q * 5 + 3, none⟩ (.int .i64 xp.basis)).setCell ⟨g, q * 5 + 4, none⟩ (.int .i64 xp.line)).drew = W11 at *
    have hb211 := hb210.trans (HSD.out.2.below (B := w2.heap.size) (by omega))
    have HO11 := Lib.hid (own_of_block (w' := W11) HO10.out (fun k hk => HSD.out.2.block k (HNG.out k hk)))
    have hx11 := HSD.out.2.bl HBX.out (by omega)
    have HV := Lib.hid (values_any T tn tc ts cu day A (some ⟨g, 0, none⟩) n c m d6 ls (swapL cs p q) W11 (hT.below hb211) (by omega) HTS.out HCU.out (hl2.below hb211) (by omega) HSD.out.1 (by omega) HCZ.out)
    rw [HVS.out.1, ← HVS.out.2] at HV
    have z0 : W11.cell? ⟨w2.heap.size, 0, none⟩ = some (.string cu) := hx11.cell 0
    have z1 : W11.cell? ⟨w2.heap.size, 1, none⟩ = some (.int .i64 day) := hx11.cell 1
    have z2 : W11.cell? ⟨w2.heap.size, 2, none⟩ = some (.slice A n c) := hx11.cell 2
    have z3 : W11.cell? ⟨w2.heap.size, 3, none⟩ = some (.slice (some ⟨g, 0, none⟩) m d6) := hx11.cell 3
    clear HVS HSD HCZ
    go_wp2_with fail
    refine HV.out.mono ?_
    rintro e w12 ⟨Au, nu, cu2, rfl, hou, hb12⟩
    have hnn : nv = nu := by rw [← HLv.out, ← own_len hou]
    subst hnn
    have HS := Lib.hid (same_true Av Au nv cv cu2 _ w12 ((IntsK.of_own HO11.out).below hb12) (IntsK.of_own hou) HMv.out)
    have hb212 := hb211.trans (hb12.mono hb211.size)
    clear HV hou hb12 HO11 HO10 HOV
    go_wp2_with fail
    refine HS.out.mono ?_
    rintro e w13 ⟨rfl, q2, rfl⟩
    have hb213 := below_drewN hb212 q2
    have hB13 := HB2.out.trans (hb213.mono HB2.out.size)
    go_wp2_with fail
    refine (awake17_any _).mono ?_
    rintro e w19 ⟨rfl, hb19⟩
    have hB19 := hB13.trans (hb19.mono hB13.size)
    go_wp2
    go_ret
    exact ⟨rfl, hB19⟩
end Go.Proofs.Ytknbbamlpadfdaa

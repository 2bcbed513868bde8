/-
  Contracts of customsmade's Next and Small at lists of any length, of an estate's Charged and of the law's charges. No statement of the seat is proved here. Conditions: the lists lie in memory that the caller knows.
-/
import Derived.Test.YthnhgjhnkncmiaaGreatMAU
import Derived.Test.YthnhgjhnkncmiaaGreatMAB
import Derived.Test.YthnhgjhnkncmiaaGreatMAL
namespace Go.Proofs.YthnhgjhnkncmiaaGreat
open Go.RowKit
set_option linter.unusedVariables false
set_option maxRecDepth 100000 in
set_option maxHeartbeats 2000000 in
theorem next_big (g : Nat) (A : Option Addr) (n c I : Nat) (xs : List Int) (k : Int) (w0 w : World) (hS : Src w g A n c I) (hI : Ints w0 A n xs) (hb : RowKit.Below w0.heap.size w0 w) (hg : w0.heap.size ≤ g) (hn : n ≤ 9223372036854775807) (hk : 0 < k) (hk' : k ≤ 4000000000000000000) :
    Calls Tryz.prog 10 #[.pointer (some ⟨g, 0, none⟩), .int .i64 k] w (NextRes w g A n c (nextV xs n I k) (nextI n I)) := by
  have c0 : w.cell? ⟨g, 0, none⟩ = some (.slice A n c) := hS.cell 0
  have c1 : w.cell? ⟨g, 1, none⟩ = some (.int .i64 I) := hS.cell 1
  have f1 : w.frozen? ⟨g, 1, none⟩ = false := hS.free 1
  by_cases hlt : I < n
  · have eV : nextV xs n I k = xs.getD I 0 % k := by unfold nextV; rw [if_pos hlt]
    have eI : nextI n I = I + 1 := by unfold nextI; rw [if_pos hlt]
    rw [eV, eI]
    obtain ⟨b, off, x, rfl, hbl, hx, HX⟩ := hI.get hlt
    rw [HX.out]
    have hx' : w.cell? ⟨b, off + I, none⟩ = some (.int .i64 x) := (hb.cell (p := ⟨b, off + I, none⟩) hbl).trans hx
    have hd : decide ((n : Int) ≤ (I : Int)) = false := by simp; omega
    have hne : b ≠ g := by omega
    have HW := Lib.hid (fun w => within_any x k w hk hk')
    have i1 : (0 : Int) ≤ (I : Int) := by omega
    have i2 : (I : Int) < (n : Int) := by omega
    have u1 : IntKind.i64.wrap ((I : Int) + 1) = (I : Int) + 1 := IntWalk.i64_in _ (by omega)
    have u2 : IntKind.i64.wrap ((I : Int) + 1 - 1) = (I : Int) := (IntWalk.i64_in _ (by omega)).trans (by omega)
    have u3 : IntKind.i64.wrap (I : Int) = (I : Int) := IntWalk.i64_in _ (by omega)
    clear eV eI hx
    go_enter Tryz.func10, Tryz.ntmps10
    go_wp2
    go_quiet (fail)
    go_wp2_with fail
    have hS1 : Bl ((w.drewN nq).setCell ⟨g, 1, none⟩ (.int .i64 ((I : Int) + 1))) g 31 #[.slice (some ⟨b, off, none⟩) n c, .int .i64 ((I : Int) + 1)] := by simpa using (hS.drewN nq).put 1 (.int .i64 ((I : Int) + 1))
    have hO1 := ((Only.refl g w).drewN nq).setCell 1 (.int .i64 ((I : Int) + 1))
    have hx1 : ((w.drewN nq).setCell ⟨g, 1, none⟩ (.int .i64 ((I : Int) + 1))).cell? ⟨b, off + I, none⟩ = some (.int .i64 x) := (World.cell?_of_block (hO1.block b hne)).trans hx'
    generalize (w.drewN nq).setCell ⟨g, 1, none⟩ (.int .i64 ((I : Int) + 1)) = W at *
    have e0 : W.cell? ⟨g, 0, none⟩ = some (.slice (some ⟨b, off, none⟩) n c) := hS1.cell 0
    have e1 : W.cell? ⟨g, 1, none⟩ = some (.int .i64 ((I : Int) + 1)) := hS1.cell 1
    clear c0 c1 f1 hx'
    go_quiet ((go_at_call 16; exact quiet_left (HW.out _)))
    go_wp2
    go_ret
    exact ⟨rfl, hO1.drewN _, by show Bl _ _ _ _; rw [Int.natCast_add]; exact hS1.drewN _⟩
  · have eV : nextV xs n I k = 0 := by unfold nextV; rw [if_neg hlt]
    have eI : nextI n I = I := by unfold nextI; rw [if_neg hlt]
    rw [eV, eI]
    have hd : decide ((n : Int) ≤ (I : Int)) = true := by simp; omega
    go_enter Tryz.func10, Tryz.ntmps10
    go_wp2
    go_quiet (fail)
    go_wp2
    go_ret
    exact ⟨rfl, (Only.refl _ _).drewN _, hS.drewN _⟩
set_option maxRecDepth 100000 in
set_option maxHeartbeats 2000000 in
theorem small_big (g : Nat) (A : Option Addr) (n c I : Nat) (xs : List Int) (few m : Int) (w0 w : World) (hS : Src w g A n c I) (hI : Ints w0 A n xs) (hb : RowKit.Below w0.heap.size w0 w) (hg : w0.heap.size ≤ g) (hn : n ≤ 9223372036854775807) (hf : 0 < few) (hfm : few ≤ m) (hm' : m ≤ 4000000000000000000) :
    Calls Tryz.prog 37 #[.pointer (some ⟨g, 0, none⟩), .int .i64 few, .int .i64 m] w (SmlRes w g A n c I m) := by
  have b1 := nextV_bounds xs n I 5 (by omega)
  have hl1 := nextI_ge n I
  have hl2 := nextI_le n I
  by_cases h4 : nextV xs n I 5 = 4
  · have hb4 : (nextV xs n I 5 == 4) = true := by simpa using h4
    have b2 := nextV_bounds xs n (nextI n I) m (by omega)
    have hl3 := nextI_ge n (nextI n I)
    have hl4 := nextI_le n (nextI n I)
    clear h4
    go_enter Tryz.func37, Tryz.ntmps37
    go_wp2_with fail
    refine (next_big g A n c I xs 5 w0 w hS hI hb hg hn (by omega) (by omega)).mono ?_
    rintro e w1 ⟨rfl, hO1, hS1⟩
    have hB1 := hb.trans ((hO1.below hg))
    generalize nextV xs n I 5 = v1 at *
    go_wp2_with fail
    refine (next_big g A n c _ xs m w0 w1 hS1 hI hB1 hg hn (by omega) hm').mono ?_
    rintro e w2 ⟨rfl, hO2, hS2⟩
    go_wp2
    go_ret
    exact ⟨_, _, rfl, b2.1, b2.2, by omega, fun h => hl4 (hl2 h), hO1.trans hO2, hS2⟩
  · have hb4 : (nextV xs n I 5 == 4) = false := by simpa using h4
    have b2 := nextV_bounds xs n (nextI n I) few hf
    have hl3 := nextI_ge n (nextI n I)
    have hl4 := nextI_le n (nextI n I)
    clear h4
    go_enter Tryz.func37, Tryz.ntmps37
    go_wp2_with fail
    refine (next_big g A n c I xs 5 w0 w hS hI hb hg hn (by omega) (by omega)).mono ?_
    rintro e w1 ⟨rfl, hO1, hS1⟩
    have hB1 := hb.trans ((hO1.below hg))
    generalize nextV xs n I 5 = v1 at *
    go_wp2_with fail
    refine (next_big g A n c _ xs few w0 w1 hS1 hI hB1 hg hn hf (by omega)).mono ?_
    rintro e w2 ⟨rfl, hO2, hS2⟩
    go_wp2
    go_ret
    exact ⟨_, _, rfl, b2.1, by omega, by omega, fun h => hl4 (hl2 h), hO1.trans hO2, hS2⟩
/-- Charges in a row of the call's own. -/
structure ChgO (N : Nat) (w : World) (B : Option Addr) (k d : Nat) (cs ds : List Ch) : Prop where
  own : w.ownsRow N 61 3 (.slice B k d) k (flat encCh ds)
  len : ds.length = k
  ch : Charged cs ds
theorem ChgO.below {N : Nat} {w w' : World} {B : Option Addr} {k d : Nat} {cs ds : List Ch} (h : ChgO N w B k d cs ds) (hb : RowKit.Below w.heap.size w w') : ChgO N w' B k d cs ds := ⟨own_below h.own hb, h.len, h.ch⟩
theorem ChgO.mono {N M : Nat} {w : World} {B : Option Addr} {k d : Nat} {cs ds : List Ch} (h : ChgO N w B k d cs ds) (hm : M ≤ N) : ChgO M w B k d cs ds := ⟨own_mono h.own hm, h.len, h.ch⟩
def ChgRes (w : World) (k : Nat) (cs : List Ch) (e : Ending) (w' : World) : Prop := ∃ (B : Option Addr) (d : Nat) (ds : List Ch), e = .returned (.slice B k d) ∧ ChgO w.heap.size w' B k d cs ds ∧ RowKit.Below w.heap.size w w'
set_option maxRecDepth 100000 in
set_option maxHeartbeats 8000000 in
theorem Charged_any (A : Option Addr) (n c : Nat) (B : Option Addr) (k d : Nat) (free : Int) (cs : List Ch) (LA : Option Addr) (m lc : Nat) (xs : List Int) (w : World) (hc : Recs encCh 3 w B k cs) (hk : k ≤ 64) (hI : Ints w LA m xs) (hm : m ≤ 9223372036854775807) :
    Calls Tryz.prog 36 #[.agg #[.slice A n c, .slice B k d, .int .i64 free], .slice LA m lc] w (ChgRes w k cs) := by
  have hxl : cs.length = k := hc.1
  have HI := Lib.hid hI
  have hb0 := (Below.refl w.heap.size w).alloc (Nat.le_refl _) (.cells #[.slice A n c, .slice B k d, .int .i64 free] 26)
  have HB0 : Hid (RowKit.Below w.heap.size w ((w.alloc (.cells #[.slice A n c, .slice B k d, .int .i64 free] 26)).alloc (.cells #[.slice LA m lc, .int .i64 0] 31))) := hb0.alloc hb0.size _
  have HBE : Hid (Bl ((w.alloc (.cells #[.slice A n c, .slice B k d, .int .i64 free] 26)).alloc (.cells #[.slice LA m lc, .int .i64 0] 31)) w.heap.size 26 #[.slice A n c, .slice B k d, .int .i64 free]) := (Bl.new _ _ _).alloc _
  have HSR : Hid (Src ((w.alloc (.cells #[.slice A n c, .slice B k d, .int .i64 free] 26)).alloc (.cells #[.slice LA m lc, .int .i64 0] 31)) (w.heap.size + 1) LA m lc 0) := by
    have := Bl.new (w.alloc (.cells #[.slice A n c, .slice B k d, .int .i64 free] 26)) 31 #[.slice LA m lc, .int .i64 0]
    have e : (w.alloc (.cells #[.slice A n c, .slice B k d, .int .i64 free] 26)).heap.size = w.heap.size + 1 := by simp
    rw [e] at this
    exact this
  have HRD0 : Hid (Rd w 3 B k (flat encCh cs)) := rd_of_recs encCh_len (by decide) hc
  clear hb0 hI hc
  go_enter Tryz.func36, Tryz.ntmps36
  go_upto_region 2 with (fail)
  generalize (w.alloc (.cells #[.slice A n c, .slice B k d, .int .i64 free] 26)).alloc (.cells #[.slice LA m lc, .int .i64 0] 31) = W0 at *
  obtain ⟨gs, hgs⟩ : ∃ gs, w.heap.size + 1 = gs := ⟨_, rfl⟩
  rw [hgs] at HSR ⊢
  have HGS : Hid (w.heap.size ≤ gs) := by show _ ≤ _; omega
  clear hgs
  have y1 : W0.cell? ⟨w.heap.size, 1, none⟩ = some (.slice B k d) := HBE.out.cell 1
  have HBL : Hid (RowKit.Below w.heap.size w (W0.alloc (.cells #[] 61))) := HB0.out.alloc HB0.out.size _
  have y2 : (W0.alloc (.cells #[] 61)).cell? ⟨w.heap.size, 1, none⟩ = some (.slice B k d) := (HBE.out.alloc _).cell 1
  have HOE : Hid ((W0.alloc (.cells #[] 61)).ownsRow w.heap.size 61 3 (.slice (some ⟨W0.heap.size, 0, none⟩) 0 0) 0 []) := own_lit (Bl.new W0 61 ([] : List Value).toArray) HB0.out.size rfl (by decide)
  have HSL : Hid (Src (W0.alloc (.cells #[] 61)) gs LA m lc 0) := Bl.alloc HSR.out _
  have HRD : Hid (Rd (W0.alloc (.cells #[] 61)) 3 B k (flat encCh cs)) := HRD0.out.keep (HBL.out.mono (Nat.le_refl _))
  have HON : Hid (∀ v ∈ flat encCh cs, v.oneCell' = true) := flat_oneK encCh_one _
  have HM1 : Hid (0 + k ≤ maxLen ∧ (0 + k) * 24 ≤ 140737488355328) := ⟨by unfold maxLen; omega, by omega⟩
  go_wp2_with (at_builtin; refine wpList_append_rd _ rfl (.tmp 11) (.tmp 13) 24 rfl w.heap.size 61 _ 3 24 Tryz.underlying24 infoCh rfl (by decide) (.slice (some ⟨W0.heap.size, 0, none⟩) 0 0) 0 [] rfl HOE.out B k d (flat encCh cs) rfl HRD.out HON.out HM1.out.1 HM1.out.2 HBL.out.size ?_; intro v9 w9 ho9 hg9 hv9; obtain ⟨B9, d9, rfl⟩ := own_slice ho9)
  have HO9 : Hid (w9.ownsRow w.heap.size 61 3 (.slice B9 k d9) k (flat encCh cs)) := by have := ho9; rwa [Nat.zero_add, List.nil_append] at this
  have HB9 : Hid (RowKit.Below w.heap.size w w9) := HBL.out.grown hg9 HBL.out.size (fun j hj => own_base HOE.out j hj)
  have HS9 : Hid (Src w9 gs LA m lc 0) := (hg9.block gs HSL.out.lt (fun e => own_far29 HOE.out HSL.out (by decide) e.symm)).trans HSL.out
  clear ho9 hg9 hv9 y1 y2 HOE HSL HBL HB0 HBE HSR HRD HRD0 HON HM1
  go_wp2_with fail
  go_loopw [7] (fun v wx => ∃ (i J : Nat) (ds : List Ch), v = .int .i64 (i : Int) ∧ i ≤ k ∧ Hid (ds.length = k) ∧ Hid (wx.ownsRow w.heap.size 61 3 (.slice B9 k d9) k (flat encCh ds)) ∧ Hid (Src wx gs LA m lc J) ∧ Hid (RowKit.Below w.heap.size w wx) ∧ Hid (∀ j, j < k → ds[j]!.src = cs[j]!.src ∧ ds[j]!.un = cs[j]!.un ∧ (j < i → 0 ≤ ds[j]!.am ∧ ds[j]!.am ≤ 1000000000000))) (fun v _ => k - (intOf v).toNat)
  case atStart => exact ⟨0, 0, cs, rfl, Nat.zero_le _, hxl, HO9, HS9, HB9, fun j hj => ⟨rfl, rfl, fun h => by omega⟩⟩
  case round =>
    clear HO9 HS9 HB9
    obtain ⟨i, J, ds, rfl, hi, HL, HO, HS, HB, HC⟩ := hrel
    by_cases hlt : i < k
    case neg =>
      have dk : decide ((i : Int) < (k : Int)) = false := by simp; omega
      have HR : Hid (ChgRes w k cs (.returned (.slice B9 k d9)) wr) := ⟨B9, d9, ds, rfl, ⟨HO.out, HL.out, ⟨by rw [HL.out, hxl], fun j hj => by
        have := HC.out j (by omega)
        have h2 := this.2.2 (by omega)
        exact ⟨this.1, this.2.1, h2.1, h2.2⟩⟩⟩, HB.out⟩
      go_wp2
      go_ret
      exact HR.out
    case pos =>
      have dk : decide ((i : Int) < (k : Int)) = true := by simp; omega
      obtain ⟨gq, rfl⟩ := own_addr HO.out (by omega)
      have HNE : Hid (gq ≠ gs) := fun e => own_far29 HO.out HS.out (by decide) (by rw [e]; rfl)
      have HSM := Lib.hid (small_big gs LA m lc J xs 1000 1000000000001 w wr HS.out HI.out HB.out HGS.out hm (by decide) (by decide) (by decide))
      have hii : (i : Int) < (k : Int) := by omega
      have hiz : (0 : Int) ≤ (i : Int) := by omega
      go_wp2_with fail
      refine HSM.out.mono ?_
      rintro e w8 ⟨v, J', rfl, hv0, hv1, _, _, hO, hS8⟩
      have HO8 : Hid (w8.ownsRow w.heap.size 61 3 (.slice (some ⟨gq, 0, none⟩) k d9) k (flat encCh ds)) := own_of_block HO.out fun g hg => hO.block g (fun e => HNE.out (by
        have h2 : some gq = some g := hg
        injection h2 with h2
        omega))
      have HB8 : Hid (RowKit.Below w.heap.size w w8) := HB.out.trans (hO.below HGS.out)
      have HS8 := Lib.hid hS8
      clear hO hS8 HSM HB HO HS
      have f8 : w8.frozen? ⟨gq, i * 3 + 2, none⟩ = false := HO8.out.frozenAt _
      have e8 : w8.cell? ⟨gq, i * 3 + 2, none⟩ = some (.int .i64 ds[i]!.am) := own_cellK encCh_len HO8.out (by have := HL.out; omega) (by omega) HL.out
      have HO2 : Hid ((w8.setCell ⟨gq, i * 3 + 2, none⟩ (.int .i64 v)).ownsRow w.heap.size 61 3 (.slice (some ⟨gq, 0, none⟩) k d9) k (flat encCh (ds.set i ⟨ds[i]!.src, ds[i]!.un, v⟩))) := own_setK (c := 2) encCh_len HO8.out (by decide) (by have := HL.out; omega) rfl
      have HS2 : Hid (Src (w8.setCell ⟨gq, i * 3 + 2, none⟩ (.int .i64 v)) gs LA m lc J') := Bl.far (p := ⟨gq, i * 3 + 2, none⟩) HS8.out (fun e => HNE.out e.symm) _
      have HB2 : Hid (RowKit.Below w.heap.size w (w8.setCell ⟨gq, i * 3 + 2, none⟩ (.int .i64 v))) := HB8.out.setCell (p := ⟨gq, i * 3 + 2, none⟩) (own_base HO8.out gq rfl) _
      have HL2 : Hid ((ds.set i ⟨ds[i]!.src, ds[i]!.un, v⟩).length = k) := by show _ = _; rw [List.length_set]; exact HL.out
      have HC2 : Hid (∀ j, j < k → (ds.set i ⟨ds[i]!.src, ds[i]!.un, v⟩)[j]!.src = cs[j]!.src ∧ (ds.set i ⟨ds[i]!.src, ds[i]!.un, v⟩)[j]!.un = cs[j]!.un ∧ (j < i + 1 → 0 ≤ (ds.set i ⟨ds[i]!.src, ds[i]!.un, v⟩)[j]!.am ∧ (ds.set i ⟨ds[i]!.src, ds[i]!.un, v⟩)[j]!.am ≤ 1000000000000)) := fun j hj => by
        have h1 := HC.out j hj
        rw [get_setK ds i j _ (by have := HL.out; omega)]
        by_cases e : i = j
        · subst e
          rw [if_pos rfl]
          exact ⟨h1.1, h1.2.1, fun _ => ⟨hv0, by show v ≤ _; omega⟩⟩
        · rw [if_neg e]
          exact ⟨h1.1, h1.2.1, fun h => h1.2.2 (by omega)⟩
      clear HC HL HO8 HS8 HB8 hv0 hv1
      go_wp2_with fail
      go_roundw
      case rel => exact ⟨i + 1, J', _, by go_num, by omega, HL2, HO2, HS2, HB2, HC2⟩
      case measure => simp [intOf]; omega
theorem chs_drop1 {w : World} {g k : Nat} {p : List Ch} (h : ChAt w (some ⟨g, 0, none⟩) k p) (hk : 0 < k) : ChAt w (some ⟨g, 3, none⟩) (k - 1) (p.drop 1) := by
  have hl : p.length = k := h.recs.1
  refine ⟨⟨by rw [List.length_drop]; omega, fun h1 => ?_⟩, .inr ⟨g, 3, rfl⟩, fun e => by cases e⟩
  obtain ⟨b, off, e, hb, hc⟩ := h.recs.2 hk
  injection e with e
  injection e with e1 e2
  subst e1 e2
  refine ⟨g, 3, rfl, hb, fun i hi c hcc => ?_⟩
  have := hc (i + 1) (by omega) c hcc
  rw [show 0 + (i + 1) * 3 + c = 3 + i * 3 + c by omega] at this
  have e : (p.drop 1)[i]! = p[i + 1]! := by
    rw [getElem!_pos p (i + 1) (by omega), getElem!_pos (p.drop 1) i (by rw [List.length_drop]; omega), List.getElem_drop]
    simp [Nat.add_comm]
  rw [e]
  exact this
theorem chs_none {w : World} {g : Nat} {p : List Ch} (hl : p.length = 1) : ChAt w (some ⟨g, 0, none⟩) 0 (p.drop 1) := by
  have e : p.drop 1 = [] := List.eq_nil_of_length_eq_zero (by rw [List.length_drop]; omega)
  rw [e]
  exact ⟨⟨rfl, fun h => by omega⟩, .inr ⟨g, 0, rfl⟩, fun e => by cases e⟩
/-- What the law's charges are: amounts for all sources, and perhaps one source less. -/
def ChsRes (w : World) (cs : List Ch) (e : Ending) (w' : World) : Prop := ∃ (DA : Option Addr) (dn dc : Nat) (PA : Option Addr) (pn pc : Nat) (d p : List Ch) (j : Nat), e = .returned (.tuple #[.slice DA dn dc, .slice PA pn pc]) ∧ Hid (ChAt w' DA dn d ∧ TyA w' DA 61) ∧ Hid (ChAt w' PA pn (p.drop j) ∧ TyA w' PA 61) ∧ Charged cs d ∧ Charged cs p ∧ j ≤ 1 ∧ RowKit.Below w.heap.size w w'
set_option maxRecDepth 100000 in
set_option maxHeartbeats 8000000 in
theorem charges_any (A : Option Addr) (n c : Nat) (B : Option Addr) (k d : Nat) (free : Int) (cs : List Ch) (LA : Option Addr) (m lc : Nat) (xs : List Int) (MA : Option Addr) (q mc : Nat) (ys : List Int) (w : World) (hc : Recs encCh 3 w B k cs) (hk : k ≤ 64) (hI : Ints w LA m xs) (hm : m ≤ 9223372036854775807) (hJ : Ints w MA q ys) (hq : q ≤ 9223372036854775807) :
    Calls Tryz.prog 15 #[.agg #[.slice A n c, .slice B k d, .int .i64 free], .slice LA m lc, .slice MA q mc] w (ChsRes w cs) := by
  have HB0 : Hid (RowKit.Below w.heap.size w (w.alloc (.cells #[.slice A n c, .slice B k d, .int .i64 free] 26))) := (Below.refl _ _).alloc (Nat.le_refl _) _
  have HBE : Hid (Bl (w.alloc (.cells #[.slice A n c, .slice B k d, .int .i64 free] 26)) w.heap.size 26 #[.slice A n c, .slice B k d, .int .i64 free]) := Bl.new _ _ _
  have HC1 : Hid (∀ wx, RowKit.Below w.heap.size w wx → Calls Tryz.prog 36 #[.agg #[.slice A n c, .slice B k d, .int .i64 free], .slice LA m lc] wx fun e w' => ∃ (B : Option Addr) (d : Nat) (ds : List Ch), e = .returned (.slice B k d) ∧ ChgO wx.heap.size w' B k d cs ds ∧ RowKit.Below wx.heap.size wx w') := fun wx hb => Charged_any A n c B k d free cs LA m lc xs wx (hc.below hb) hk (hI.below hb) hm
  have HC2 : Hid (∀ wx, RowKit.Below w.heap.size w wx → Calls Tryz.prog 36 #[.agg #[.slice A n c, .slice B k d, .int .i64 free], .slice MA q mc] wx fun e w' => ∃ (B : Option Addr) (d : Nat) (ds : List Ch), e = .returned (.slice B k d) ∧ ChgO wx.heap.size w' B k d cs ds ∧ RowKit.Below wx.heap.size wx w') := fun wx hb => Charged_any A n c B k d free cs MA q mc ys wx (hc.below hb) hk (hJ.below hb) hq
  have HE : Hid (cs.length = k) := hc.1
  clear hc hI hJ
  go_enter Tryz.func15, Tryz.ntmps15
  go_upto_region 1 with (fail)
  generalize w.alloc (.cells #[.slice A n c, .slice B k d, .int .i64 free] 26) = W at *
  obtain ⟨gx, hgx⟩ : ∃ gx, w.heap.size = gx := ⟨_, rfl⟩
  rw [hgx] at HBE ⊢
  have HGX := Lib.hid hgx
  clear hgx
  have HS : Hid (∀ wx, RowKit.Below W.heap.size W wx → (wx.cell? ⟨gx, 0, none⟩ = some (.slice A n c) ∧ wx.cell? ⟨gx, 1, none⟩ = some (.slice B k d) ∧ wx.cell? ⟨gx, 2, none⟩ = some (.int .i64 free) ∧ RowKit.Below W.heap.size W wx)) := fun wx hb => by
    have hk : Bl wx gx 26 #[.slice A n c, .slice B k d, .int .i64 free] := (hb.block gx HBE.out.lt).trans HBE.out
    exact ⟨hk.cell 0, hk.cell 1, hk.cell 2, hb⟩
  have HW : Hid (∀ wx, RowKit.Below W.heap.size W wx → RowKit.Below w.heap.size w wx) := fun wx hb => HB0.out.trans (hb.mono HB0.out.size)
  have hk0 : Hid (RowKit.Below W.heap.size W W.drew) := (Below.refl _ _).drew
  have hk00 : Hid (RowKit.Below W.heap.size W W) := Below.refl _ _
  have z0 := (HS.out _ hk00.out).1
  have z1 := (HS.out _ hk00.out).2.1
  have z2 := (HS.out _ hk00.out).2.2.1
  clear HB0
  go_region_held3 (fun wx => wx.cell? ⟨gx, 0, none⟩ = some (.slice A n c) ∧ wx.cell? ⟨gx, 1, none⟩ = some (.slice B k d) ∧ wx.cell? ⟨gx, 2, none⟩ = some (.int .i64 free) ∧ RowKit.Below W.heap.size W wx)
    (first
      | with_reducible exact HS.out _ hkz.out
      | with_reducible exact HS.out _ hka.out
      | with_reducible exact HS.out _ hkb.out
      | with_reducible exact HS.out _ hk0.out
      | with_reducible exact HS.out _ hk00.out)
    (first
      | (go_at_call 36; with_reducible (refine (HC2.out _ (HW.out _ hka.out)).mono ?_); rintro e wz ⟨PA, pc, p, rfl, hop, hbz⟩; have hkz := Lib.hid (hka.out.trans (hbz.mono hka.out.size)); have HDO := Lib.hid (hoa.out.below hbz); have HPO := Lib.hid (hop.mono hka.out.size))
      | (go_at_call 36; with_reducible (refine (HC1.out _ (HW.out _ hkb.out)).mono ?_); rintro e wz ⟨DA, dc, ds, rfl, hod, hbz⟩; have hkz := Lib.hid (hkb.out.trans (hbz.mono hkb.out.size)); have HPO := Lib.hid (hob.out.below hbz); have HDO := Lib.hid (hod.mono hkb.out.size))
      | (go_at_call 36; with_reducible (refine (HC1.out _ (HW.out _ hk0.out)).mono ?_); rintro e wa ⟨DA, dc, ds, rfl, hod, hba⟩; have hka := Lib.hid (hk0.out.trans (hba.mono hk0.out.size)); have hoa := Lib.hid (hod.mono hk0.out.size))
      | (go_at_call 36; with_reducible (refine (HC2.out _ (HW.out _ hk0.out)).mono ?_); rintro e wb ⟨PA, pc, p, rfl, hop, hbb⟩; have hkb := Lib.hid (hk0.out.trans (hbb.mono hk0.out.size)); have hob := Lib.hid (hop.mono hk0.out.size)))
  all_goals
    have HBZ : Hid (RowKit.Below w.heap.size w wz) := HW.out _ hkz.out
    have HDA : Hid (ChAt wz DA k ds ∧ TyA wz DA 61) := ⟨RRd.own encCh_len HDO.out.own HDO.out.len, TyA.own HDO.out.own⟩
    have HPA : Hid (ChAt wz PA k p ∧ TyA wz PA 61) := ⟨RRd.own encCh_len HPO.out.own HPO.out.len, TyA.own HPO.out.own⟩
    have HCD := Lib.hid HDO.out.ch
    have HCP := Lib.hid HPO.out.ch
    obtain ⟨hpc1, hpc2⟩ := own_boundsF HPO.out.own
    have HPN : Hid (k = 0 ∨ ∃ g, PA = some ⟨g, 0, none⟩) := by
      rcases Nat.eq_zero_or_pos k with h | h
      · exact .inl h
      · exact .inr (own_addr HPO.out.own h)
    have HR0 : Hid (ChsRes w cs (.returned (.tuple #[.slice DA k dc, .slice PA k pc])) wz) := ⟨DA, k, dc, PA, k, pc, ds, p, 0, rfl, HDA, HPA, HCD.out, HCP.out, by omega, HBZ.out⟩
    by_cases hpar : q % 2 = 1
    case neg =>
      have hp0 : q % 2 = 0 := by omega
      clear hpar
      go_wp2
      go_ret2
      exact HR0.out
    case pos =>
    by_cases hk0 : k = 0
    case pos =>
      have d0 : decide ((k : Int) > 0) = false := by simp; omega
      have d1 : decide (0 < k) = false := by simp; omega
      clear hk0
      go_wp2
      go_ret2
      exact HR0.out
    case neg =>
      have d0 : decide ((k : Int) > 0) = true := by simp; omega
      have d1 : decide (0 < k) = true := by simp; omega
      obtain ⟨g, hg⟩ : ∃ g, PA = some ⟨g, 0, none⟩ := by rcases HPN.out with h | h; exact absurd h hk0; exact h
      subst hg
      by_cases hp1 : pc = 1
      case pos =>
        have hk1 : k = 1 := by omega
        subst hp1 hk1
        have HR1 : Hid (ChsRes w cs (.returned (.tuple #[.slice DA 1 dc, .slice (some ⟨g, 0, none⟩) 0 0])) wz) := ⟨DA, 1, dc, some ⟨g, 0, none⟩, 0, 0, ds, p, 1, rfl, HDA, ⟨chs_none HPO.out.len, HPA.out.2⟩, HCD.out, HCP.out, by omega, HBZ.out⟩
        go_wp2
        go_ret2
        exact HR1.out
      case neg =>
        have HR1 : Hid (ChsRes w cs (.returned (.tuple #[.slice DA k dc, .slice (some ⟨g, 3, none⟩) (k - 1) (pc - 1)])) wz) := ⟨DA, k, dc, some ⟨g, 3, none⟩, k - 1, pc - 1, ds, p, 1, rfl, HDA, ⟨chs_drop1 HPA.out.1 (by omega), by
          obtain ⟨cc, hb⟩ := HPA.out.2 g 0 rfl
          exact TyA.bl hb⟩, HCD.out, HCP.out, by omega, HBZ.out⟩
        go_wp2
        go_ret2
        exact HR1.out
end Go.Proofs.YthnhgjhnkncmiaaGreat

/-
  The contract of the reference's ApplyFact at valid books and new facts. No statement of the seat is proved here. Conditions: as typed.
-/
import Derived.Test.YtemhiifgplaldaaGreatMAU
namespace Go.Proofs.YtemhiifgplaldaaGreat
open Go.RowKit
set_option linter.unusedVariables false

theorem own_apart_eq {w : World} {base : Nat} {e t : TypeId} {size n g : Nat} {v : Value} {xs : List Value} {cs : Array Value} (h : w.ownsRow base e size v n xs) (hg : Bl w g t cs) (hne : e ≠ t) : ∀ b, v.ownBlock = some b → b ≠ g := fun b e' q => own_apart h hg hne (by rw [e', q])
def RApp (w : World) (q : Qt) (f : Fct) (fs : List Fct) (n : Nat) (e : Ending) (w' : World) : Prop := ∃ (B : Option Addr) (dd : Nat) (C : Option Addr) (m2 d2 : Nat) (fs' : List Fct), e = .returned (.tuple #[.agg #[.int .i64 q.id, .int .i64 q.vol, .int .i64 q.fr, .int .i64 q.tod, .slice B (n + 1) dd], .slice C m2 d2, .int .i64 0]) ∧ BOk q fs' ∧ fs'.Perm (f :: fs) ∧ w'.ownsRow w.heap.size 47 5 (.slice B (n + 1) dd) (n + 1) (flat encF fs') ∧ RowKit.Below w.heap.size w w'

set_option maxRecDepth 100000 in
set_option maxHeartbeats 8000000 in
theorem rapply_new (q : Qt) (f : Fct) (A : Option Addr) (n c : Nat) (fs : List Fct) (w : World) (h : Recs encF 5 w A n fs) (hok : BOk q fs) (hf : fErr q f = 0) (hnew : ∀ x ∈ fs, x.num ≠ f.num) (hl : n < 200) (hnc : n ≤ c) :
    Calls Tryz.prog 15 #[.agg #[.int .i64 q.id, .int .i64 q.vol, .int .i64 q.fr, .int .i64 q.tod, .slice A n c], .agg #[.int .i64 f.num, .int .i64 f.kind, .int .i64 f.day, .int .i64 f.id, .int .i64 f.qty]] w (RApp w q f fs n) := by
  have HOK := Lib.hid hok
  have HL := Lib.hid h.1
  have HV := Lib.hid (fun w' (hb : RowKit.Below w.heap.size w w') => rvalidBook_any q A n c fs w' (h.below hb) (by omega))
  rw [hok.err] at HV
  have HVF := Lib.hid (fun w' => rvalidFact_any q f w')
  rw [hf] at HVF
  have HFE := Lib.hid hf
  have HNW := Lib.hid hnew
  have HR := Lib.hid h
  clear h hok hf hnew
  obtain ⟨W0, hW0⟩ : ∃ W, W = ((w.alloc (.cells #[.int .i64 q.id, .int .i64 q.vol, .int .i64 q.fr, .int .i64 q.tod, .slice A n c] 27)).alloc (.cells #[.int .i64 f.num, .int .i64 f.kind, .int .i64 f.day, .int .i64 f.id, .int .i64 f.qty] 47)).alloc (.cells #[.int .i64 0, .int .i64 0, .int .i64 0, .int .i64 0, .slice none 0 0] 27) := ⟨_, rfl⟩
  have hb0 : RowKit.Below w.heap.size w W0 := by rw [hW0]; exact (((Below.refl _ _).alloc (Nat.le_refl _) _).alloc (by simp) _).alloc (by simp; omega) _
  have hx0 : Bl W0 w.heap.size 27 #[.int .i64 q.id, .int .i64 q.vol, .int .i64 q.fr, .int .i64 q.tod, .slice A n c] := by rw [hW0]; exact ((Bl.new w _ _).alloc _).alloc _
  have hf0 : Bl W0 (w.heap.size + 1) 47 #[.int .i64 f.num, .int .i64 f.kind, .int .i64 f.day, .int .i64 f.id, .int .i64 f.qty] := by rw [hW0]; have := (Bl.new (w.alloc (.cells #[.int .i64 q.id, .int .i64 q.vol, .int .i64 q.fr, .int .i64 q.tod, .slice A n c] 27)) 47 #[.int .i64 f.num, .int .i64 f.kind, .int .i64 f.day, .int .i64 f.id, .int .i64 f.qty]).alloc (.cells #[.int .i64 0, .int .i64 0, .int .i64 0, .int .i64 0, .slice none 0 0] 27); simpa using this
  have hr0 : Bl W0 (w.heap.size + 1 + 1) 27 #[.int .i64 0, .int .i64 0, .int .i64 0, .int .i64 0, .slice none 0 0] := by rw [hW0]; have := Bl.new ((w.alloc (.cells #[.int .i64 q.id, .int .i64 q.vol, .int .i64 q.fr, .int .i64 q.tod, .slice A n c] 27)).alloc (.cells #[.int .i64 f.num, .int .i64 f.kind, .int .i64 f.day, .int .i64 f.id, .int .i64 f.qty] 47)) 27 #[.int .i64 0, .int .i64 0, .int .i64 0, .int .i64 0, .slice none 0 0]; simpa using this
  go_enter Tryz.func15, Tryz.ntmps15
  go_upto_region 1 with (fail)
  rw [← hW0]
  clear hW0
  have p0 : W0.cell? ⟨w.heap.size, 0, none⟩ = some (.int .i64 q.id) := hx0.cell 0
  have p1 : W0.cell? ⟨w.heap.size, 1, none⟩ = some (.int .i64 q.vol) := hx0.cell 1
  have p2 : W0.cell? ⟨w.heap.size, 2, none⟩ = some (.int .i64 q.fr) := hx0.cell 2
  have p3 : W0.cell? ⟨w.heap.size, 3, none⟩ = some (.int .i64 q.tod) := hx0.cell 3
  have p4 : W0.cell? ⟨w.heap.size, 4, none⟩ = some (.slice A n c) := hx0.cell 4
  go_wp2_with fail
  refine (HV.out _ hb0).mono ?_
  rintro e w1 ⟨rfl, hb1⟩
  have hB1 := hb0.trans (hb1.mono hb0.size)
  have hx1 := hx0.keep hb1
  have hf1 := hf0.keep hb1
  have hr1 := hr0.keep hb1
  clear p0 p1 p2 p3 p4 hx0 hf0 hr0 hb0 hb1 HV
  have p0 : w1.cell? ⟨w.heap.size, 0, none⟩ = some (.int .i64 q.id) := hx1.cell 0
  have p1 : w1.cell? ⟨w.heap.size, 1, none⟩ = some (.int .i64 q.vol) := hx1.cell 1
  have p2 : w1.cell? ⟨w.heap.size, 2, none⟩ = some (.int .i64 q.fr) := hx1.cell 2
  have p3 : w1.cell? ⟨w.heap.size, 3, none⟩ = some (.int .i64 q.tod) := hx1.cell 3
  have p4 : w1.cell? ⟨w.heap.size, 4, none⟩ = some (.slice A n c) := hx1.cell 4
  have f0 : w1.cell? ⟨w.heap.size + 1, 0, none⟩ = some (.int .i64 f.num) := hf1.cell 0
  have f1 : w1.cell? ⟨w.heap.size + 1, 1, none⟩ = some (.int .i64 f.kind) := hf1.cell 1
  have f2 : w1.cell? ⟨w.heap.size + 1, 2, none⟩ = some (.int .i64 f.day) := hf1.cell 2
  have f3 : w1.cell? ⟨w.heap.size + 1, 3, none⟩ = some (.int .i64 f.id) := hf1.cell 3
  have f4 : w1.cell? ⟨w.heap.size + 1, 4, none⟩ = some (.int .i64 f.qty) := hf1.cell 4
  go_wp2_with fail
  refine (HVF.out _).mono ?_
  rintro e w2 ⟨rfl, hb2⟩
  have HB := Lib.hid (hB1.trans (hb2.mono hB1.size))
  have HX := Lib.hid (hx1.keep hb2)
  have HF := Lib.hid (hf1.keep hb2)
  have HRB := Lib.hid (hr1.keep hb2)
  have HRC := Lib.hid (HR.out.below HB.out)
  clear p0 p1 p2 p3 p4 f0 f1 f2 f3 f4 hx1 hf1 hr1 hB1 hb2 HVF HR
  go_upto_region 6 with (fail)
  go_wp2_with fail
  go_loopw [8] (fun i wx => ∃ (k p : Nat), k ≤ n ∧ i = .int .i64 k ∧ Hid (∀ l, l < k → fs[l]!.num < f.num) ∧ Hid (wx = w2.drewN p)) (fun i _ => n - (intOf i).toNat)
  case atStart => exact ⟨0, 0, Nat.zero_le _, rfl, fun l hl => by omega, rfl⟩
  case round =>
    obtain ⟨k, p, hk, rfl, HLO, HWQ⟩ := hrel
    have p4 : wr.cell? ⟨w.heap.size, 4, none⟩ = some (.slice A n c) := by rw [HWQ.out]; exact HX.out.cell 4
    have f0 : wr.cell? ⟨w.heap.size + 1, 0, none⟩ = some (.int .i64 f.num) := by rw [HWQ.out]; exact HF.out.cell 0
    by_cases hlk : k < n
    · have hrs : Recs encF 5 wr A n fs := by rw [HWQ.out]; exact HRC.out.drewN p
      obtain ⟨b, off, x, hA, hbl, c0, c1, c2, c3, c4, HY⟩ := hrs.getF hlk
      have HXM : Hid (x ∈ fs) := by have := HY.out; rw [getElem!_pos fs k (by have := HL.out; omega)] at this; show x ∈ fs; rw [← this]; exact List.getElem_mem _
      have HNE : Hid (x.num ≠ f.num) := HNW.out x HXM.out
      subst hA
      have hki : (k : Int) < n := by omega
      by_cases g2 : x.num < f.num
      · have b2 : decide (x.num < f.num) = true := by simpa using g2
        have HLO2 : Hid (∀ l, l < k + 1 → fs[l]!.num < f.num) := fun l hl => by
          by_cases e : l = k
          · subst e; rw [HY.out]; exact g2
          · exact HLO.out l (by omega)
        clear g2
        go_upto_region 7 with (fail)
        go_quiet (fail)
        go_wp2_with fail
        go_roundw
        case rel => exact ⟨k + 1, _, by omega, by go_num, HLO2, drewN_add HWQ.out nq⟩
        case measure => simp [intOf]; omega
      · have b2 : decide (x.num < f.num) = false := by simpa using g2
        have HHI : Hid (∀ l, k ≤ l → l < fs.length → f.num < fs[l]!.num) := fun l h1 h2 => by
          have h3 : f.num < x.num := by have := HNE.out; omega
          by_cases e : l = k
          · subst e; rw [HY.out]; exact h3
          · have := List.pairwise_iff_getElem.1 (numAsc_pair.1 HOK.out.asc) k l (by omega) h2 (by omega)
            have h4 := HY.out
            rw [getElem!_pos fs k (by omega)] at h4
            rw [getElem!_pos fs l h2]
            rw [h4] at this
            omega
        have b3 : (x.num == f.num) = false := by have := HNE.out; simpa using this
        clear g2
        go_upto_region 7 with (fail)
        go_quiet (fail)
        go_upto_region 9 with (fail)
        have HWQ2 := Lib.hid (drewN_add HWQ.out nq)
        generalize wr.drewN nq = W6 at *
        have p4x : W6.cell? ⟨w.heap.size, 4, none⟩ = some (.slice (some ⟨b, off, none⟩) n c) := by rw [HWQ2.out]; exact HX.out.cell 4
        have f0x : W6.cell? ⟨w.heap.size + 1, 0, none⟩ = some (.int .i64 f.num) := by rw [HWQ2.out]; exact HF.out.cell 0
        have c0x : W6.cell? ⟨b, off + k * 5, none⟩ = some (.int .i64 x.num) := by rw [HWQ2.out]; rw [HWQ.out] at c0; exact c0
        go_quiet (fail)
        have HWQ3 := Lib.hid (drewN_add HWQ2.out nq)
        have p4y : (W6.drewN nq).cell? ⟨w.heap.size, 4, none⟩ = some (.slice (some ⟨b, off, none⟩) n c) := p4x
        go_upto_region 15 with (fail)
        clear p4 f0 p4x f0x c0x p4y c0 c1 c2 c3 c4 hbl
        obtain ⟨W5, hW5⟩ : ∃ W, W = W6.drewN nq := ⟨_, rfl⟩
        rw [← hW5] at HWQ3 ⊢
        have hdr : RowKit.Below w2.heap.size w2 W5 := by rw [HWQ3.out]; exact below_drewN (Below.refl _ _) _
        have HB5 := Lib.hid (HB.out.trans (hdr.mono HB.out.size))
        have HX5 := Lib.hid (HX.out.keep hdr)
        have HF5 := Lib.hid (HF.out.keep hdr)
        have HR5 := Lib.hid (HRB.out.keep hdr)
        have HRC5 := Lib.hid (HRC.out.below hdr)
        have HBOK : Hid (BOk q (fs.take k ++ [f] ++ fs.drop k)) := by show BOk _ _; rw [List.append_assoc]; exact HOK.out.ins HFE.out (by have := HL.out; omega) (fun l h1 _ => HLO.out l h1) HHI.out
        have HPRM : Hid ((fs.take k ++ [f] ++ fs.drop k).Perm (f :: fs)) := by show List.Perm _ _; rw [List.append_assoc]; exact perm_ins fs f k
        have HRDH : Hid (Rd W5 5 (some ⟨b, off, none⟩ : Option Addr) k (flat encF (fs.take k))) := by have := (rdF HRC5.out).take (k := k) (by omega); rwa [← flatF_take] at this
        have HRDL : Hid (Rd W5 5 (if c = k then (some ⟨b, off, none⟩ : Option Addr) else (some ⟨b, off, none⟩ : Option Addr).map (·.add (k * 5))) (n - k) (flat encF (fs.drop k))) := by have := (rdF HRC5.out).drop (k := k) (c := c) (by omega) hnc; rwa [← flatF_drop] at this
        have HONE : Hid ((∀ u ∈ flat encF (fs.take k), u.oneCell' = true) ∧ (∀ u ∈ flat encF (fs.drop k), u.oneCell' = true)) := ⟨flatF_one _, flatF_one _⟩
        have p0 : W5.cell? ⟨w.heap.size, 0, none⟩ = some (.int .i64 q.id) := HX5.out.cell 0
        have p1 : W5.cell? ⟨w.heap.size, 1, none⟩ = some (.int .i64 q.vol) := HX5.out.cell 1
        have p2 : W5.cell? ⟨w.heap.size, 2, none⟩ = some (.int .i64 q.fr) := HX5.out.cell 2
        have p3 : W5.cell? ⟨w.heap.size, 3, none⟩ = some (.int .i64 q.tod) := HX5.out.cell 3
        have p4 : W5.cell? ⟨w.heap.size, 4, none⟩ = some (.slice (some ⟨b, off, none⟩ : Option Addr) n c) := HX5.out.cell 4
        have f0 : W5.cell? ⟨w.heap.size + 1, 0, none⟩ = some (.int .i64 f.num) := HF5.out.cell 0
        have f1 : W5.cell? ⟨w.heap.size + 1, 1, none⟩ = some (.int .i64 f.kind) := HF5.out.cell 1
        have f2 : W5.cell? ⟨w.heap.size + 1, 2, none⟩ = some (.int .i64 f.day) := HF5.out.cell 2
        have f3 : W5.cell? ⟨w.heap.size + 1, 3, none⟩ = some (.int .i64 f.id) := HF5.out.cell 3
        have f4 : W5.cell? ⟨w.heap.size + 1, 4, none⟩ = some (.int .i64 f.qty) := HF5.out.cell 4
        have lB : w.heap.size < W5.heap.size := HX5.out.lt
        have lF : w.heap.size + 1 < W5.heap.size := HF5.out.lt
        clear hdr hW5 HWQ HWQ2 HWQ3 HB HX HF HRB HRC HLO HHI
        refine wp_region_rows [
            ⟨⟨some 75, [], []⟩, fun _ v => v = .pointer (some ⟨w.heap.size, 0, none⟩), NoR⟩,
            ⟨⟨some 76, [0], []⟩, fun _ v => v = .agg #[.int .i64 q.id, .int .i64 q.vol, .int .i64 q.fr, .int .i64 q.tod], NoR⟩,
            ⟨⟨some 77, [], []⟩, NoF, OwnR W5.heap.size 47 5 0 ([])⟩,
            ⟨⟨some 78, [], []⟩, fun _ v => v = .pointer (some ⟨w.heap.size, 4, none⟩), NoR⟩,
            ⟨⟨some 79, [3], []⟩, fun _ v => v = .slice (some ⟨b, off, none⟩ : Option Addr) n c, NoR⟩,
            ⟨⟨some 80, [], []⟩, fun _ v => v = .int .i64 (k : Int), NoR⟩,
            ⟨⟨some 81, [4, 5], []⟩, fun _ v => v = .slice (some ⟨b, off, none⟩ : Option Addr) k c, NoR⟩,
            ⟨⟨some 82, [2, 6], [2]⟩, NoF, OwnR W5.heap.size 47 5 (k) (flat encF (fs.take k))⟩,
            ⟨⟨some 83, [], []⟩, fun _ v => v = .agg #[.int .i64 f.num, .int .i64 f.kind, .int .i64 f.day, .int .i64 f.id, .int .i64 f.qty], NoR⟩,
            ⟨⟨some 84, [8], []⟩, NoF, LitR 47 (encF f).toArray 1⟩,
            ⟨⟨some 85, [7, 9], [7, 9]⟩, NoF, OwnR W5.heap.size 47 5 (k + 1) (flat encF (fs.take k ++ [f]))⟩,
            ⟨⟨some 86, [], []⟩, fun _ v => v = .pointer (some ⟨w.heap.size, 4, none⟩), NoR⟩,
            ⟨⟨some 87, [11], []⟩, fun _ v => v = .slice (some ⟨b, off, none⟩ : Option Addr) n c, NoR⟩,
            ⟨⟨some 88, [], []⟩, fun _ v => v = .int .i64 (k : Int), NoR⟩,
            ⟨⟨some 89, [12, 13], []⟩, fun _ v => v = .slice (if c = k then (some ⟨b, off, none⟩ : Option Addr) else (some ⟨b, off, none⟩ : Option Addr).map (·.add (k * 5))) (n - k) (c - k), NoR⟩,
            ⟨⟨some 90, [10, 14], [10]⟩, NoF, OwnR W5.heap.size 47 5 (k + 1 + (n - k)) (flat encF (fs.take k ++ [f] ++ fs.drop k))⟩,
            ⟨⟨some 91, [1, 15], [15]⟩, NoF, BkQ W5.heap.size q (k + 1 + (n - k)) (fs.take k ++ [f] ++ fs.drop k)⟩,
            ⟨⟨some 9, [], []⟩, NoF, PtrR 27 #[.int .i64 0, .int .i64 0, .int .i64 0, .int .i64 0, .slice none 0 0]⟩,
            ⟨⟨none, [17, 16], [17, 16]⟩, NoF, BoxQ W5.heap.size q (k + 1 + (n - k)) (fs.take k ++ [f] ++ fs.drop k)⟩] (by kernel_rfl) (by kernel_rfl) (by kernel_rfl) ⟨NoR.loc, NoR.loc, OwnR.loc, NoR.loc, NoR.loc, NoR.loc, NoR.loc, OwnR.loc, NoR.loc, LitR.loc, OwnR.loc, NoR.loc, NoR.loc, NoR.loc, NoR.loc, OwnR.loc, BkQ.loc, PtrR.loc, BoxQ.loc, trivial⟩ ⟨?r0, ?r1, ?r2, ?r3, ?r4, ?r5, ?r6, ?r7, ?r8, ?r9, ?r10, ?r11, ?r12, ?r13, ?r14, ?r15, ?r16, ?r17, ?r18, trivial⟩ ?fin
        case r0 =>
          refine step_of rfl rfl ?_
          intro a wx vs fp K hF hK
          have ea : a.eval (.tmp 2) = .pointer (some ⟨w.heap.size, 0, none⟩) := hF.at_ 2 rfl
          refine op_value (v := .pointer (some ⟨w.heap.size, 0, none⟩)) ?_ (hK _ _ _ (hF.only rfl trivial))
          clear hF hK
          generalize a.eval = ρ at *
          go_simp
        case r1 =>
          refine step_of rfl rfl ?_
          intro a wx vs fp K hF hK
          have ea : a.eval (.tmp 75) = .pointer (some ⟨w.heap.size, 0, none⟩) := (hF.ev 0 75 rfl rfl).trans (hF.va 0 rfl)
          have m0 := (hF.below.cell (p := ⟨w.heap.size, 0, none⟩) lB).trans p0
          have m1 := (hF.below.cell (p := ⟨w.heap.size, 1, none⟩) lB).trans p1
          have m2 := (hF.below.cell (p := ⟨w.heap.size, 2, none⟩) lB).trans p2
          have m3 := (hF.below.cell (p := ⟨w.heap.size, 3, none⟩) lB).trans p3
          refine op_value (v := .agg #[.int .i64 q.id, .int .i64 q.vol, .int .i64 q.fr, .int .i64 q.tod]) ?_ (hK _ _ _ (hF.only rfl trivial))
          clear hF hK
          generalize a.eval = ρ at *
          go_simp
        case r2 =>
          refine step_of rfl rfl ?_
          intro a wx vs fp K hF hK
          refine op_value (v := .slice (some ⟨wx.heap.size, 0, none⟩) 0 0) (w' := wx.alloc (.cells #[] 47)) ?_ (hK _ _ _ (hF.made _ trivial ⟨own_lit (Bl.new _ _ _) hF.below.size rfl (by decide), rfl⟩))
          have ec : ∀ v, a.eval (.const v) = v := fun _ => rfl
          clear hF hK
          generalize a.eval = ρ at *
          go_simp
        case r3 =>
          refine step_of rfl rfl ?_
          intro a wx vs fp K hF hK
          have ea : a.eval (.tmp 2) = .pointer (some ⟨w.heap.size, 0, none⟩) := hF.at_ 2 rfl
          refine op_value (v := .pointer (some ⟨w.heap.size, 4, none⟩)) ?_ (hK _ _ _ (hF.only rfl trivial))
          clear hF hK
          generalize a.eval = ρ at *
          go_simp
        case r4 =>
          refine step_of rfl rfl ?_
          intro a wx vs fp K hF hK
          have ea : a.eval (.tmp 78) = .pointer (some ⟨w.heap.size, 4, none⟩) := (hF.ev 3 78 rfl rfl).trans (hF.va 3 rfl)
          have mc := (hF.below.cell (p := ⟨w.heap.size, 4, none⟩) lB).trans p4
          refine op_value (v := .slice (some ⟨b, off, none⟩ : Option Addr) n c) ?_ (hK _ _ _ (hF.only rfl trivial))
          clear hF hK
          generalize a.eval = ρ at *
          go_simp
        case r5 =>
          refine step_of rfl rfl ?_
          intro a wx vs fp K hF hK
          exact op_move rfl (hF.at_ 8 rfl) (hK _ _ _ (hF.only rfl trivial))
        case r6 =>
          refine step_of rfl rfl ?_
          intro a wx vs fp K hF hK
          exact op_hi (size := 5) rfl Tryz.underlying25 (by kernel_rfl) ((hF.ev 4 79 rfl rfl).trans (hF.va 4 rfl)) ((hF.ev 5 80 rfl rfl).trans (hF.va 5 rfl)) (by omega) (hK _ _ _ (hF.only rfl trivial))
        case r7 =>
          refine step_of rfl rfl ?_
          intro a wx vs fp K hF hK
          have hm : OwnR W5.heap.size 47 5 (0) ([]) [] (vs 2) (fp 2) wx := hF.me 2 rfl
          have hv : vs 6 = .slice (some ⟨b, off, none⟩ : Option Addr) k c := hF.va 6 rfl
          have hrd := HRDH.out.keep hF.below
          refine op_append (.tmp 77) (.tmp 81) 25 rfl W5.heap.size 47 _ 5 40 Tryz.underlying25 infoF rfl (by decide) (vs 2) (0) ([]) (hF.ev 2 77 rfl rfl) hm.1 (some ⟨b, off, none⟩ : Option Addr) k c (flat encF (fs.take k)) ((hF.ev 6 81 rfl rfl).trans hv) hrd (HONE.out.1) (by unfold maxLen; omega) (by omega) hF.below.size ?_
          intro v w' h1 h2 h3
          exact hK _ _ _ (hF.grown 2 rfl hm.2 h2 h3 (fun g hg => own_lt h1 g hg) trivial ⟨by simpa using h1, rfl⟩)
        case r8 =>
          refine step_of rfl rfl ?_
          intro a wx vs fp K hF hK
          have ea : a.eval (.tmp 3) = .pointer (some ⟨(w.heap.size + 1), 0, none⟩) := hF.at_ 3 rfl
          have m0 := (hF.below.cell (p := ⟨(w.heap.size + 1), 0, none⟩) lF).trans f0
          have m1 := (hF.below.cell (p := ⟨(w.heap.size + 1), 1, none⟩) lF).trans f1
          have m2 := (hF.below.cell (p := ⟨(w.heap.size + 1), 2, none⟩) lF).trans f2
          have m3 := (hF.below.cell (p := ⟨(w.heap.size + 1), 3, none⟩) lF).trans f3
          have m4 := (hF.below.cell (p := ⟨(w.heap.size + 1), 4, none⟩) lF).trans f4
          refine op_value (v := .agg #[.int .i64 f.num, .int .i64 f.kind, .int .i64 f.day, .int .i64 f.id, .int .i64 f.qty]) ?_ (hK _ _ _ (hF.only rfl trivial))
          have ec : ∀ v, a.eval (.const v) = v := fun _ => rfl
          clear hF hK
          generalize a.eval = ρ at *
          go_simp
        case r9 =>
          refine step_of rfl rfl ?_
          intro a wx vs fp K hF hK
          have e8 : a.eval (.tmp 83) = .agg #[.int .i64 f.num, .int .i64 f.kind, .int .i64 f.day, .int .i64 f.id, .int .i64 f.qty] := (hF.ev 8 83 rfl rfl).trans (hF.va 8 rfl)
          refine op_value (v := .slice (some ⟨wx.heap.size, 0, none⟩) 1 1) (w' := wx.alloc (.cells #[.int .i64 f.num, .int .i64 f.kind, .int .i64 f.day, .int .i64 f.id, .int .i64 f.qty] 47)) ?_ (hK _ _ _ (hF.made _ trivial ⟨_, rfl, rfl, Bl.new _ _ _⟩))
          have ec : ∀ v, a.eval (.const v) = v := fun _ => rfl
          clear hF hK
          generalize a.eval = ρ at *
          go_simp
        case r10 =>
          refine step_of rfl rfl ?_
          intro a wx vs fp K hF hK
          have hm : OwnR W5.heap.size 47 5 (k) (flat encF (fs.take k)) [] (vs 7) (fp 7) wx := hF.me 7 rfl
          have hv : LitR 47 (encF f).toArray (1) [] (vs 9) (fp 9) wx := hF.me 9 rfl
          obtain ⟨gy, hv, hfy, hbl⟩ := hv
          have hrd : Rd wx 5 (some ⟨gy, 0, none⟩) (1) (encF f) := rd_bl hbl rfl
          refine op_append (.tmp 82) (.tmp 84) 25 rfl W5.heap.size 47 _ 5 40 Tryz.underlying25 infoF rfl (by decide) (vs 7) (k) (flat encF (fs.take k)) (hF.ev 7 82 rfl rfl) hm.1 (some ⟨gy, 0, none⟩) (1) (1) (encF f) ((hF.ev 9 84 rfl rfl).trans hv) hrd (encF_one _) (by unfold maxLen; omega) (by omega) hF.below.size ?_
          intro v w' h1 h2 h3
          exact hK _ _ _ (hF.grown 7 rfl hm.2 h2 h3 (fun g hg => own_lt h1 g hg) trivial ⟨by (rw [flat_append, flat_one]; exact h1), rfl⟩)
        case r11 =>
          refine step_of rfl rfl ?_
          intro a wx vs fp K hF hK
          have ea : a.eval (.tmp 2) = .pointer (some ⟨w.heap.size, 0, none⟩) := hF.at_ 2 rfl
          refine op_value (v := .pointer (some ⟨w.heap.size, 4, none⟩)) ?_ (hK _ _ _ (hF.only rfl trivial))
          clear hF hK
          generalize a.eval = ρ at *
          go_simp
        case r12 =>
          refine step_of rfl rfl ?_
          intro a wx vs fp K hF hK
          have ea : a.eval (.tmp 86) = .pointer (some ⟨w.heap.size, 4, none⟩) := (hF.ev 11 86 rfl rfl).trans (hF.va 11 rfl)
          have mc := (hF.below.cell (p := ⟨w.heap.size, 4, none⟩) lB).trans p4
          refine op_value (v := .slice (some ⟨b, off, none⟩ : Option Addr) n c) ?_ (hK _ _ _ (hF.only rfl trivial))
          clear hF hK
          generalize a.eval = ρ at *
          go_simp
        case r13 =>
          refine step_of rfl rfl ?_
          intro a wx vs fp K hF hK
          exact op_move rfl (hF.at_ 8 rfl) (hK _ _ _ (hF.only rfl trivial))
        case r14 =>
          refine step_of rfl rfl ?_
          intro a wx vs fp K hF hK
          exact op_lo (size := 5) rfl Tryz.underlying25 (by kernel_rfl) ((hF.ev 12 87 rfl rfl).trans (hF.va 12 rfl)) ((hF.ev 13 88 rfl rfl).trans (hF.va 13 rfl)) (by omega) (hK _ _ _ (hF.only rfl trivial))
        case r15 =>
          refine step_of rfl rfl ?_
          intro a wx vs fp K hF hK
          have hm : OwnR W5.heap.size 47 5 (k + 1) (flat encF (fs.take k ++ [f])) [] (vs 10) (fp 10) wx := hF.me 10 rfl
          have hv : vs 14 = .slice (if c = k then (some ⟨b, off, none⟩ : Option Addr) else (some ⟨b, off, none⟩ : Option Addr).map (·.add (k * 5))) (n - k) (c - k) := hF.va 14 rfl
          have hrd := HRDL.out.keep hF.below
          refine op_append (.tmp 85) (.tmp 89) 25 rfl W5.heap.size 47 _ 5 40 Tryz.underlying25 infoF rfl (by decide) (vs 10) (k + 1) (flat encF (fs.take k ++ [f])) (hF.ev 10 85 rfl rfl) hm.1 (if c = k then (some ⟨b, off, none⟩ : Option Addr) else (some ⟨b, off, none⟩ : Option Addr).map (·.add (k * 5))) (n - k) (c - k) (flat encF (fs.drop k)) ((hF.ev 14 89 rfl rfl).trans hv) hrd (HONE.out.2) (by unfold maxLen; omega) (by omega) hF.below.size ?_
          intro v w' h1 h2 h3
          exact hK _ _ _ (hF.grown 10 rfl hm.2 h2 h3 (fun g hg => own_lt h1 g hg) trivial ⟨by (rw [flat_append]; exact h1), rfl⟩)
        case r16 =>
          refine step_of rfl rfl ?_
          intro a wx vs fp K hF hK
          have hq0 : vs 1 = .agg #[.int .i64 q.id, .int .i64 q.vol, .int .i64 q.fr, .int .i64 q.tod] := hF.va 1 rfl
          have hm : OwnR W5.heap.size 47 5 (k + 1 + (n - k)) (flat encF (fs.take k ++ [f] ++ fs.drop k)) [] (vs 15) (fp 15) wx := hF.me 15 rfl
          obtain ⟨B, d, hB⟩ := own_slice hm.1
          have ho := hm.1
          rw [hB] at ho
          have e1 : a.eval (.tmp 76) = .agg #[.int .i64 q.id, .int .i64 q.vol, .int .i64 q.fr, .int .i64 q.tod] := (hF.ev 1 76 rfl rfl).trans hq0
          have e2 : a.eval (.tmp 90) = .slice B (k + 1 + (n - k)) d := (hF.ev 15 90 rfl rfl).trans hB
          refine op_value (v := .agg #[.int .i64 q.id, .int .i64 q.vol, .int .i64 q.fr, .int .i64 q.tod, .slice B (k + 1 + (n - k)) d]) ?_ (hK _ _ _ (hF.hand 15 rfl trivial ⟨B, d, rfl, ho, by rw [hm.2, hB]⟩))
          clear hF hK hm ho hB hq0
          generalize a.eval = ρ at *
          go_simp
        case r17 =>
          refine step_of rfl rfl ?_
          intro a wx vs fp K hF hK
          refine op_value (v := .pointer (some ⟨wx.heap.size, 0, none⟩)) (w' := wx.alloc (.cells #[.int .i64 0, .int .i64 0, .int .i64 0, .int .i64 0, .slice none 0 0] 27)) ?_ (hK _ _ _ (hF.made _ trivial ⟨_, rfl, rfl, Bl.new _ _ _⟩))
          have ec : ∀ v, a.eval (.const v) = v := fun _ => rfl
          clear hF hK
          generalize a.eval = ρ at *
          go_simp
        case r18 =>
          refine step_of rfl rfl ?_
          intro a wx vs fp K hF hK
          have hm : PtrR 27 #[.int .i64 0, .int .i64 0, .int .i64 0, .int .i64 0, .slice none 0 0] [] (vs 17) (fp 17) wx := hF.me 17 rfl
          have hb : BkQ W5.heap.size q (k + 1 + (n - k)) (fs.take k ++ [f] ++ fs.drop k) [] (vs 16) (fp 16) wx := hF.me 16 rfl
          obtain ⟨g, hg, hfg, hbl⟩ := hm
          obtain ⟨B, d, hv, hbk, hfb⟩ := hb
          have e1 : a.eval (.tmp 9) = .pointer (some ⟨g, 0, none⟩) := (hF.ev 17 9 rfl rfl).trans hg
          have e2 : a.eval (.tmp 91) = .agg #[.int .i64 q.id, .int .i64 q.vol, .int .i64 q.fr, .int .i64 q.tod, .slice B (k + 1 + (n - k)) d] := (hF.ev 16 91 rfl rfl).trans hv
          have y0 := hbl.c0
          have f0 := hbl.free 0
          have y1 := hbl.c1
          have f1 := hbl.free 1
          have y2 := hbl.c2
          have f2 := hbl.free 2
          have y3 := hbl.c3
          have f3 := hbl.free 3
          have y4 := hbl.c4
          have f4 := hbl.free 4
          refine op_skip (w' := ((((wx.setCell ⟨g, 0, none⟩ (.int .i64 q.id)).setCell ⟨g, 1, none⟩ (.int .i64 q.vol)).setCell ⟨g, 2, none⟩ (.int .i64 q.fr)).setCell ⟨g, 3, none⟩ (.int .i64 q.tod)).setCell ⟨g, 4, none⟩ (.slice B (k + 1 + (n - k)) d)) ?_ (hK undef _ _ (hF.boxq (by decide) hg hfg hbl hbk hfb trivial fun _ _ h => h))
          clear hF hK hbk
          generalize a.eval = ρ at *
          go_simp
        case fin =>
          intro wz vs fp hI
          have hM : BoxQ W5.heap.size q (k + 1 + (n - k)) (fs.take k ++ [f] ++ fs.drop k) [vs 17, vs 16] (vs 18) (fp 18) wz := (hI.finM 18 (by decide) rfl).1
          have hMb := (hI.finM 18 (by decide) rfl).2
          obtain ⟨g9, B9, d9, hg9, hf9, hx9, ho9⟩ := hM
          have hg9' : vs 17 = .pointer (some ⟨g9, 0, none⟩) := by simpa using hg9
          have hbz := hI.below
          have hg9l : W5.heap.size ≤ g9 := (hMb g9 (by rw [hf9]; simp)).1
          clear hI hMb hg9 hf9
          simp only [rj, number, putJ, List.map_cons, List.map_nil, if_true, Act.put, List.setIfInBounds_toArray, List.set_cons_zero, List.set_cons_succ, hg9']
          rw [show k + 1 + (n - k) = n + 1 by omega] at ho9 hx9
          generalize vs 0 = zv0
          generalize vs 1 = zv1
          generalize vs 2 = zv2
          generalize vs 3 = zv3
          generalize vs 4 = zv4
          generalize vs 5 = zv5
          generalize vs 6 = zv6
          generalize vs 7 = zv7
          generalize vs 8 = zv8
          generalize vs 9 = zv9
          generalize vs 10 = zv10
          generalize vs 11 = zv11
          generalize vs 12 = zv12
          generalize vs 13 = zv13
          generalize vs 14 = zv14
          generalize vs 15 = zv15
          generalize vs 16 = zv16
          generalize vs 18 = zv18
          obtain ⟨fs', hfs'⟩ : ∃ fs', fs' = fs.take k ++ [f] ++ fs.drop k := ⟨_, rfl⟩
          rw [← hfs'] at ho9 HBOK HPRM
          clear hfs' hg9'
          have HB9 := Lib.hid (HB5.out.trans (hbz.mono HB5.out.size))
          have HX9 := Lib.hid (HX5.out.keep hbz)
          have HR9 := Lib.hid (HR5.out.keep hbz)
          have HRC := Lib.hid (HRC5.out.below hbz)
          have HO9 := Lib.hid (own_mono ho9 HB5.out.size)
          have HBX := Lib.hid hx9
          clear hbz ho9 hx9 p0 p1 p2 p3 p4 f0 f1 f2 f3 f4 HRDH HRDL HONE lB lF HB5 HX5 HF5 HR5 HRC5
          have y0 := HX9.out.c0
          have y1 := HX9.out.c1
          have y2 := HX9.out.c2
          have y3 := HX9.out.c3
          have y4 := HX9.out.c4
          have z0 := HBX.out.c0
          have z1 := HBX.out.c1
          have z2 := HBX.out.c2
          have z3 := HBX.out.c3
          have z4 := HBX.out.c4
          have HRD := Lib.hid (Recs.of_own encF_len HO9.out (by rw [HPRM.out.length_eq, List.length_cons, HL.out]))
          have hv0 : Hid (RowKit.Below wz.heap.size wz wz.drew) := (Below.refl _ _).drew
          have HGA : Hid (∀ wx, RowKit.Below wz.heap.size wz wx → Calls Tryz.prog 12 #[.agg #[.int .i64 q.id, .int .i64 q.vol, .int .i64 q.fr, .int .i64 q.tod, .slice (some ⟨b, off, none⟩ : Option Addr) n c]] wx fun e w' => ∃ (C : Option Addr) (mm dd : Nat) (gs : List (Int × Int)), e = .returned (.slice C mm dd) ∧ mm ≤ 200 ∧ Hid (Recs enc2 2 w' C mm gs) ∧ Hid (RowKit.Below wz.heap.size wz w')) := fun wx hb => (rgrants_any q _ n c fs wx (HRC.out.below hb) HOK.out).mono fun e w' ⟨C, mm, dd, gs, bal, h1, h2, h3, h4, h5, h6⟩ => ⟨C, mm, dd, grs gs, h1, h4, Recs.of_own enc2_len h5 (by rw [grs_len, h3]), hb.trans (h6.mono hb.size)⟩
          have HGB : Hid (∀ wx, RowKit.Below wz.heap.size wz wx → Calls Tryz.prog 12 #[.agg #[.int .i64 q.id, .int .i64 q.vol, .int .i64 q.fr, .int .i64 q.tod, .slice B9 (n + 1) d9]] wx fun e w' => ∃ (C : Option Addr) (mm dd : Nat) (gs : List (Int × Int)), e = .returned (.slice C mm dd) ∧ mm ≤ 200 ∧ Hid (Recs enc2 2 w' C mm gs) ∧ Hid (RowKit.Below wz.heap.size wz w') ∧ Hid (RowKit.Below wx.heap.size wx w')) := fun wx hb => (rgrants_any q B9 (n + 1) d9 fs' wx (HRD.out.below hb) HBOK.out).mono fun e w' ⟨C, mm, dd, gs, bal, h1, h2, h3, h4, h5, h6⟩ => ⟨C, mm, dd, grs gs, h1, h4, Recs.of_own enc2_len h5 (by rw [grs_len, h3]), hb.trans (h6.mono hb.size), h6⟩
          go_upto_region 16 with (fail)
          go_region_held3 (fun w' => w'.cell? ⟨w.heap.size, 0, none⟩ = some (.int .i64 q.id) ∧ w'.cell? ⟨w.heap.size, 1, none⟩ = some (.int .i64 q.vol) ∧ w'.cell? ⟨w.heap.size, 2, none⟩ = some (.int .i64 q.fr) ∧ w'.cell? ⟨w.heap.size, 3, none⟩ = some (.int .i64 q.tod) ∧ w'.cell? ⟨w.heap.size, 4, none⟩ = some (.slice (some ⟨b, off, none⟩ : Option Addr) n c) ∧ w'.cell? ⟨g9, 0, none⟩ = some (.int .i64 q.id) ∧ w'.cell? ⟨g9, 1, none⟩ = some (.int .i64 q.vol) ∧ w'.cell? ⟨g9, 2, none⟩ = some (.int .i64 q.fr) ∧ w'.cell? ⟨g9, 3, none⟩ = some (.int .i64 q.tod) ∧ w'.cell? ⟨g9, 4, none⟩ = some (.slice B9 (n + 1) d9))
            (first
              | with_reducible exact ⟨(HX9.out.keep hv2.out).c0, (HX9.out.keep hv2.out).c1, (HX9.out.keep hv2.out).c2, (HX9.out.keep hv2.out).c3, (HX9.out.keep hv2.out).c4, (HBX.out.keep hv2.out).c0, (HBX.out.keep hv2.out).c1, (HBX.out.keep hv2.out).c2, (HBX.out.keep hv2.out).c3, (HBX.out.keep hv2.out).c4⟩
              | with_reducible exact ⟨(HX9.out.keep hv1.out).c0, (HX9.out.keep hv1.out).c1, (HX9.out.keep hv1.out).c2, (HX9.out.keep hv1.out).c3, (HX9.out.keep hv1.out).c4, (HBX.out.keep hv1.out).c0, (HBX.out.keep hv1.out).c1, (HBX.out.keep hv1.out).c2, (HBX.out.keep hv1.out).c3, (HBX.out.keep hv1.out).c4⟩
              | go_keep)
            (first
              | (go_at_call 12; with_reducible (refine (HGA.out _ hv0.out).mono ?_); rintro e v1 ⟨C1, m1, e1, s1, rfl, hm1, hr1, hv1⟩)
              | (go_at_call 12; with_reducible (refine (HGB.out _ hv1.out).mono ?_); rintro e v2 ⟨C2, m2, e2, s2, rfl, hm2, hr2, hv2, hvv2⟩))
          have hr1' := hr1.out.below hvv2.out
          have hr2' := hr2.out
          have HZ2 := Lib.hid (HBX.out.keep hv2.out)
          have HR2 := Lib.hid (HR9.out.keep hv2.out)
          have HO2 := Lib.hid (own_below HO9.out hv2.out)
          have HB2 := Lib.hid (HB9.out.trans (hv2.out.mono HB9.out.size))
          clear y0 y1 y2 y3 y4 z0 z1 z2 z3 z4 hr1 hr2 HGA HGB hv0 HX9 HR9 HO9 HBX HB9 HRC HRD hv1 hv2 hvv2
          go_wp2_with fail
          go_loopw [12, 13] (fun v i wx => ∃ (j mo : Nat) (Bo : Option Addr) (do_ : Nat) (xs : List Value), v = .slice Bo mo do_ ∧ i = .int .i64 j ∧ j ≤ m2 ∧ mo ≤ j ∧ wx.ownsRow v2.heap.size 58 3 (.slice Bo mo do_) mo xs ∧ RowKit.Below v2.heap.size v2 wx) (fun _ i _ => m2 - (intOf i).toNat)
          case atStart => exact ⟨0, 0, none, 0, [], rfl, rfl, Nat.zero_le _, Nat.le_refl _, ⟨rfl, .inl ⟨rfl, rfl⟩⟩, Below.refl _ _⟩
          case round =>
            obtain ⟨j, mo, Bo, do_, xs, rfl, rfl, hj, hmo, ho, hb⟩ := hrel
            by_cases hlj : j < m2
            · have hji : (j : Int) < m2 := by omega
              obtain ⟨b4, off4, gi, gv, hA4, hbl4, c1, c2, _⟩ := hr2'.get2 hlj
              subst hA4
              have d1 : wr.cell? ⟨b4, off4 + j * 2, none⟩ = some (.int .i64 gi) := (hb.cell (p := ⟨b4, off4 + j * 2, none⟩) hbl4).trans c1
              have HGD := Lib.hid (granted_any C1 m1 e1 s1 gi wr (hr1'.below hb) (by omega))
              go_wp2_with fail
              with_reducible (refine HGD.out.mono ?_)
              rintro e v3 ⟨rfl, p9, hv3⟩
              have ho3 : v3.ownsRow v2.heap.size 58 3 (.slice Bo mo do_) mo xs := by rw [hv3]; exact own_drewN ho p9
              have hb3 : RowKit.Below v2.heap.size v2 v3 := by rw [hv3]; exact below_drewN hb p9
              generalize grG s1 gi = gb at *
              clear d1 hv3 ho hb HGD
              have d1 : v3.cell? ⟨b4, off4 + j * 2, none⟩ = some (.int .i64 gi) := (hb3.cell (p := ⟨b4, off4 + j * 2, none⟩) hbl4).trans c1
              have d2 : v3.cell? ⟨b4, off4 + j * 2 + 1, none⟩ = some (.int .i64 gv) := (hb3.cell (p := ⟨b4, off4 + j * 2 + 1, none⟩) hbl4).trans c2
              by_cases e : gb = gv
              · have bn : (gb != gv) = false := by simpa using e
                clear e
                go_wp2_with fail
                go_roundw
                case rel => exact ⟨j + 1, mo, Bo, do_, xs, rfl, by go_num, by omega, by omega, ho3, hb3⟩
                case measure => simp [intOf]; omega
              · have bn : (gb != gv) = true := by simpa using e
                clear e
                have HON : Hid (∀ u ∈ encG ⟨gi, gb, gv⟩, u.oneCell' = true) := encG_one _
                have HM1 : Hid (mo + 1 ≤ maxLen ∧ (mo + 1) * 24 ≤ 140737488355328) := ⟨by unfold maxLen; omega, by omega⟩
                have HRD : Hid (Rd (v3.drew.alloc (.cells #[.int .i64 gi, .int .i64 gb, .int .i64 gv] 58)) 3 (some ⟨v3.heap.size, 0, none⟩) 1 (encG ⟨gi, gb, gv⟩)) := rd_new v3.drew 58 (encG ⟨gi, gb, gv⟩)
                have HOE : Hid ((v3.drew.alloc (.cells #[.int .i64 gi, .int .i64 gb, .int .i64 gv] 58)).ownsRow v2.heap.size 58 3 (.slice Bo mo do_) mo xs) := own_alloc (own_drewN ho3 1) _
                have HB9' : Hid (RowKit.Below v2.heap.size v2 (v3.drew.alloc (.cells #[.int .i64 gi, .int .i64 gb, .int .i64 gv] 58))) := hb3.drew.alloc hb3.size _
                have HSZ : Hid (v2.heap.size ≤ (v3.drew.alloc (.cells #[.int .i64 gi, .int .i64 gb, .int .i64 gv] 58)).heap.size) := HB9'.out.size
                have HKP : Hid (∀ w7 : World, (v3.drew.alloc (.cells #[.int .i64 gi, .int .i64 gb, .int .i64 gv] 58)).grownBy w7 (Value.slice Bo mo do_).ownBlock → w7.cell? ⟨b4, off4 + j * 2, none⟩ = some (.int .i64 gi) ∧ w7.cell? ⟨b4, off4 + j * 2 + 1, none⟩ = some (.int .i64 gv)) := fun w7 hg => by
                  have hq := hg.block b4 (Nat.lt_of_lt_of_le hbl4 HSZ.out) (fun e => by have := own_base HOE.out b4 e.symm; omega)
                  exact ⟨(World.cell?_of_block (a := ⟨b4, off4 + j * 2, none⟩) hq).trans ((HB9'.out.cell (p := ⟨b4, off4 + j * 2, none⟩) hbl4).trans c1), (World.cell?_of_block (a := ⟨b4, off4 + j * 2 + 1, none⟩) hq).trans ((HB9'.out.cell (p := ⟨b4, off4 + j * 2 + 1, none⟩) hbl4).trans c2)⟩
                clear ho3 hb3
                go_upto_region 23 with (fail)
                go_region_held3 (fun w' => w'.cell? ⟨b4, off4 + j * 2, none⟩ = some (.int .i64 gi) ∧ w'.cell? ⟨b4, off4 + j * 2 + 1, none⟩ = some (.int .i64 gv))
                  (first
                    | with_reducible exact hk6.out
                    | go_keep)
                  (first
                    | (refine step_append_rd _ (by rfl) (.tmp 116) (.tmp 129) 42 (by rfl) v2.heap.size 58 _ 3 24 Tryz.underlying42 infoG3 rfl (by decide) (.slice Bo mo do_) mo _ (by rfl) HOE.out (some ⟨v3.heap.size, 0, none⟩) 1 1 (encG ⟨gi, gb, gv⟩) (by rfl) HRD.out HON.out HM1.out.1 HM1.out.2 HSZ.out ?_; intro v6 w6 ho6 hg6; obtain ⟨B6, d6, rfl⟩ := own_slice ho6; have hk6 := Lib.hid (HKP.out _ hg6)))
                have hb6 := HB9'.out.grown hg6 HB9'.out.size (fun k hk => own_base HOE.out k hk)
                clear HOE HRD hg6
                go_wp2_with fail
                go_roundw
                case rel => exact ⟨j + 1, mo + 1, B6, d6, _, rfl, by go_num, by omega, by omega, ho6, hb6⟩
                case measure => simp [intOf]; omega
            · obtain rfl : m2 = j := by omega
              have hd0 : decide ((m2 : Int) < m2) = false := by simp
              have HZ3 := Lib.hid (HZ2.out.keep hb)
              have HR3 := Lib.hid (HR2.out.keep hb)
              have HO3 := Lib.hid (own_below HO2.out hb)
              have HB3 := Lib.hid (HB2.out.trans (hb.mono HB2.out.size))
              have z0 := HZ3.out.c0
              have z1 := HZ3.out.c1
              have z2 := HZ3.out.c2
              have z3 := HZ3.out.c3
              have z4 := HZ3.out.c4
              have r0 := HR3.out.c0
              have r1 := HR3.out.c1
              have r2 := HR3.out.c2
              have r3 := HR3.out.c3
              have r4 := HR3.out.c4
              have f0 := HR3.out.free 0
              have f1 := HR3.out.free 1
              have f2 := HR3.out.free 2
              have f3 := HR3.out.free 3
              have f4 := HR3.out.free 4
              have HNB : Hid (∀ b, (Value.slice B9 (n + 1) d9).ownBlock = some b → b ≠ w.heap.size + 1 + 1) := fun b e => own_apart_eq HO3.out HR3.out (by decide) b e
              clear hlj ho hb
              go_wp2
              refine bodyPost_ret (v := .tuple #[.agg #[.int .i64 q.id, .int .i64 q.vol, .int .i64 q.fr, .int .i64 q.tod, .slice B9 (n + 1) d9], .slice Bo mo do_, .int .i64 0]) (by simp [results, Tryz.results15, go_sem, r0, r1, r2, r3, r4]) rfl ?_
              exact ⟨B9, d9, Bo, _, do_, fs', rfl, HBOK.out, HPRM.out, own_of_block HO3.out (fun b e => heap_set5 _ _ _ _ _ _ _ b (HNB.out b e)), put5 HB3.out (by omega) _ _ _ _ _⟩
    · have hmk : n ≤ k := by omega
      have hd0 : decide ((k : Int) < (n : Int)) = false := by simp; omega
      have hd1 : decide (k < n) = false := by simp; omega
      have HHI : Hid (∀ l, k ≤ l → l < fs.length → f.num < fs[l]!.num) := fun l h1 h2 => by have := HL.out; omega
      clear hlk
      go_upto_region 7 with (fail)
      go_quiet (fail)
      go_upto_region 9 with (fail)
      have HWQ2 := Lib.hid (drewN_add HWQ.out nq)
      generalize wr.drewN nq = W6 at *
      have p4x : W6.cell? ⟨w.heap.size, 4, none⟩ = some (.slice A n c) := by rw [HWQ2.out]; exact HX.out.cell 4
      have f0x : W6.cell? ⟨w.heap.size + 1, 0, none⟩ = some (.int .i64 f.num) := by rw [HWQ2.out]; exact HF.out.cell 0
      go_quiet (fail)
      have HWQ3 := Lib.hid (drewN_add HWQ2.out nq)
      have p4y : (W6.drewN nq).cell? ⟨w.heap.size, 4, none⟩ = some (.slice A n c) := p4x
      go_upto_region 15 with (fail)
      clear p4 f0 p4x f0x p4y
      obtain ⟨W5, hW5⟩ : ∃ W, W = W6.drewN nq := ⟨_, rfl⟩
      rw [← hW5] at HWQ3 ⊢
      have hdr : RowKit.Below w2.heap.size w2 W5 := by rw [HWQ3.out]; exact below_drewN (Below.refl _ _) _
      have HB5 := Lib.hid (HB.out.trans (hdr.mono HB.out.size))
      have HX5 := Lib.hid (HX.out.keep hdr)
      have HF5 := Lib.hid (HF.out.keep hdr)
      have HR5 := Lib.hid (HRB.out.keep hdr)
      have HRC5 := Lib.hid (HRC.out.below hdr)
      have HBOK : Hid (BOk q (fs.take k ++ [f] ++ fs.drop k)) := by show BOk _ _; rw [List.append_assoc]; exact HOK.out.ins HFE.out (by have := HL.out; omega) (fun l h1 _ => HLO.out l h1) HHI.out
      have HPRM : Hid ((fs.take k ++ [f] ++ fs.drop k).Perm (f :: fs)) := by show List.Perm _ _; rw [List.append_assoc]; exact perm_ins fs f k
      have HRDH : Hid (Rd W5 5 A k (flat encF (fs.take k))) := by have := (rdF HRC5.out).take (k := k) (by omega); rwa [← flatF_take] at this
      have HRDL : Hid (Rd W5 5 (if c = k then A else A.map (·.add (k * 5))) (n - k) (flat encF (fs.drop k))) := by have := (rdF HRC5.out).drop (k := k) (c := c) (by omega) hnc; rwa [← flatF_drop] at this
      have HONE : Hid ((∀ u ∈ flat encF (fs.take k), u.oneCell' = true) ∧ (∀ u ∈ flat encF (fs.drop k), u.oneCell' = true)) := ⟨flatF_one _, flatF_one _⟩
      have p0 : W5.cell? ⟨w.heap.size, 0, none⟩ = some (.int .i64 q.id) := HX5.out.cell 0
      have p1 : W5.cell? ⟨w.heap.size, 1, none⟩ = some (.int .i64 q.vol) := HX5.out.cell 1
      have p2 : W5.cell? ⟨w.heap.size, 2, none⟩ = some (.int .i64 q.fr) := HX5.out.cell 2
      have p3 : W5.cell? ⟨w.heap.size, 3, none⟩ = some (.int .i64 q.tod) := HX5.out.cell 3
      have p4 : W5.cell? ⟨w.heap.size, 4, none⟩ = some (.slice A n c) := HX5.out.cell 4
      have f0 : W5.cell? ⟨w.heap.size + 1, 0, none⟩ = some (.int .i64 f.num) := HF5.out.cell 0
      have f1 : W5.cell? ⟨w.heap.size + 1, 1, none⟩ = some (.int .i64 f.kind) := HF5.out.cell 1
      have f2 : W5.cell? ⟨w.heap.size + 1, 2, none⟩ = some (.int .i64 f.day) := HF5.out.cell 2
      have f3 : W5.cell? ⟨w.heap.size + 1, 3, none⟩ = some (.int .i64 f.id) := HF5.out.cell 3
      have f4 : W5.cell? ⟨w.heap.size + 1, 4, none⟩ = some (.int .i64 f.qty) := HF5.out.cell 4
      have lB : w.heap.size < W5.heap.size := HX5.out.lt
      have lF : w.heap.size + 1 < W5.heap.size := HF5.out.lt
      clear hdr hW5 HWQ HWQ2 HWQ3 HB HX HF HRB HRC HLO HHI
      refine wp_region_rows [
          ⟨⟨some 75, [], []⟩, fun _ v => v = .pointer (some ⟨w.heap.size, 0, none⟩), NoR⟩,
          ⟨⟨some 76, [0], []⟩, fun _ v => v = .agg #[.int .i64 q.id, .int .i64 q.vol, .int .i64 q.fr, .int .i64 q.tod], NoR⟩,
          ⟨⟨some 77, [], []⟩, NoF, OwnR W5.heap.size 47 5 0 ([])⟩,
          ⟨⟨some 78, [], []⟩, fun _ v => v = .pointer (some ⟨w.heap.size, 4, none⟩), NoR⟩,
          ⟨⟨some 79, [3], []⟩, fun _ v => v = .slice A n c, NoR⟩,
          ⟨⟨some 80, [], []⟩, fun _ v => v = .int .i64 (k : Int), NoR⟩,
          ⟨⟨some 81, [4, 5], []⟩, fun _ v => v = .slice A k c, NoR⟩,
          ⟨⟨some 82, [2, 6], [2]⟩, NoF, OwnR W5.heap.size 47 5 (k) (flat encF (fs.take k))⟩,
          ⟨⟨some 83, [], []⟩, fun _ v => v = .agg #[.int .i64 f.num, .int .i64 f.kind, .int .i64 f.day, .int .i64 f.id, .int .i64 f.qty], NoR⟩,
          ⟨⟨some 84, [8], []⟩, NoF, LitR 47 (encF f).toArray 1⟩,
          ⟨⟨some 85, [7, 9], [7, 9]⟩, NoF, OwnR W5.heap.size 47 5 (k + 1) (flat encF (fs.take k ++ [f]))⟩,
          ⟨⟨some 86, [], []⟩, fun _ v => v = .pointer (some ⟨w.heap.size, 4, none⟩), NoR⟩,
          ⟨⟨some 87, [11], []⟩, fun _ v => v = .slice A n c, NoR⟩,
          ⟨⟨some 88, [], []⟩, fun _ v => v = .int .i64 (k : Int), NoR⟩,
          ⟨⟨some 89, [12, 13], []⟩, fun _ v => v = .slice (if c = k then A else A.map (·.add (k * 5))) (n - k) (c - k), NoR⟩,
          ⟨⟨some 90, [10, 14], [10]⟩, NoF, OwnR W5.heap.size 47 5 (k + 1 + (n - k)) (flat encF (fs.take k ++ [f] ++ fs.drop k))⟩,
          ⟨⟨some 91, [1, 15], [15]⟩, NoF, BkQ W5.heap.size q (k + 1 + (n - k)) (fs.take k ++ [f] ++ fs.drop k)⟩,
          ⟨⟨some 9, [], []⟩, NoF, PtrR 27 #[.int .i64 0, .int .i64 0, .int .i64 0, .int .i64 0, .slice none 0 0]⟩,
          ⟨⟨none, [17, 16], [17, 16]⟩, NoF, BoxQ W5.heap.size q (k + 1 + (n - k)) (fs.take k ++ [f] ++ fs.drop k)⟩] (by kernel_rfl) (by kernel_rfl) (by kernel_rfl) ⟨NoR.loc, NoR.loc, OwnR.loc, NoR.loc, NoR.loc, NoR.loc, NoR.loc, OwnR.loc, NoR.loc, LitR.loc, OwnR.loc, NoR.loc, NoR.loc, NoR.loc, NoR.loc, OwnR.loc, BkQ.loc, PtrR.loc, BoxQ.loc, trivial⟩ ⟨?r0, ?r1, ?r2, ?r3, ?r4, ?r5, ?r6, ?r7, ?r8, ?r9, ?r10, ?r11, ?r12, ?r13, ?r14, ?r15, ?r16, ?r17, ?r18, trivial⟩ ?fin
      case r0 =>
        refine step_of rfl rfl ?_
        intro a wx vs fp K hF hK
        have ea : a.eval (.tmp 2) = .pointer (some ⟨w.heap.size, 0, none⟩) := hF.at_ 2 rfl
        refine op_value (v := .pointer (some ⟨w.heap.size, 0, none⟩)) ?_ (hK _ _ _ (hF.only rfl trivial))
        clear hF hK
        generalize a.eval = ρ at *
        go_simp
      case r1 =>
        refine step_of rfl rfl ?_
        intro a wx vs fp K hF hK
        have ea : a.eval (.tmp 75) = .pointer (some ⟨w.heap.size, 0, none⟩) := (hF.ev 0 75 rfl rfl).trans (hF.va 0 rfl)
        have m0 := (hF.below.cell (p := ⟨w.heap.size, 0, none⟩) lB).trans p0
        have m1 := (hF.below.cell (p := ⟨w.heap.size, 1, none⟩) lB).trans p1
        have m2 := (hF.below.cell (p := ⟨w.heap.size, 2, none⟩) lB).trans p2
        have m3 := (hF.below.cell (p := ⟨w.heap.size, 3, none⟩) lB).trans p3
        refine op_value (v := .agg #[.int .i64 q.id, .int .i64 q.vol, .int .i64 q.fr, .int .i64 q.tod]) ?_ (hK _ _ _ (hF.only rfl trivial))
        clear hF hK
        generalize a.eval = ρ at *
        go_simp
      case r2 =>
        refine step_of rfl rfl ?_
        intro a wx vs fp K hF hK
        refine op_value (v := .slice (some ⟨wx.heap.size, 0, none⟩) 0 0) (w' := wx.alloc (.cells #[] 47)) ?_ (hK _ _ _ (hF.made _ trivial ⟨own_lit (Bl.new _ _ _) hF.below.size rfl (by decide), rfl⟩))
        have ec : ∀ v, a.eval (.const v) = v := fun _ => rfl
        clear hF hK
        generalize a.eval = ρ at *
        go_simp
      case r3 =>
        refine step_of rfl rfl ?_
        intro a wx vs fp K hF hK
        have ea : a.eval (.tmp 2) = .pointer (some ⟨w.heap.size, 0, none⟩) := hF.at_ 2 rfl
        refine op_value (v := .pointer (some ⟨w.heap.size, 4, none⟩)) ?_ (hK _ _ _ (hF.only rfl trivial))
        clear hF hK
        generalize a.eval = ρ at *
        go_simp
      case r4 =>
        refine step_of rfl rfl ?_
        intro a wx vs fp K hF hK
        have ea : a.eval (.tmp 78) = .pointer (some ⟨w.heap.size, 4, none⟩) := (hF.ev 3 78 rfl rfl).trans (hF.va 3 rfl)
        have mc := (hF.below.cell (p := ⟨w.heap.size, 4, none⟩) lB).trans p4
        refine op_value (v := .slice A n c) ?_ (hK _ _ _ (hF.only rfl trivial))
        clear hF hK
        generalize a.eval = ρ at *
        go_simp
      case r5 =>
        refine step_of rfl rfl ?_
        intro a wx vs fp K hF hK
        exact op_move rfl (hF.at_ 8 rfl) (hK _ _ _ (hF.only rfl trivial))
      case r6 =>
        refine step_of rfl rfl ?_
        intro a wx vs fp K hF hK
        exact op_hi (size := 5) rfl Tryz.underlying25 (by kernel_rfl) ((hF.ev 4 79 rfl rfl).trans (hF.va 4 rfl)) ((hF.ev 5 80 rfl rfl).trans (hF.va 5 rfl)) (by omega) (hK _ _ _ (hF.only rfl trivial))
      case r7 =>
        refine step_of rfl rfl ?_
        intro a wx vs fp K hF hK
        have hm : OwnR W5.heap.size 47 5 (0) ([]) [] (vs 2) (fp 2) wx := hF.me 2 rfl
        have hv : vs 6 = .slice A k c := hF.va 6 rfl
        have hrd := HRDH.out.keep hF.below
        refine op_append (.tmp 77) (.tmp 81) 25 rfl W5.heap.size 47 _ 5 40 Tryz.underlying25 infoF rfl (by decide) (vs 2) (0) ([]) (hF.ev 2 77 rfl rfl) hm.1 A k c (flat encF (fs.take k)) ((hF.ev 6 81 rfl rfl).trans hv) hrd (HONE.out.1) (by unfold maxLen; omega) (by omega) hF.below.size ?_
        intro v w' h1 h2 h3
        exact hK _ _ _ (hF.grown 2 rfl hm.2 h2 h3 (fun g hg => own_lt h1 g hg) trivial ⟨by simpa using h1, rfl⟩)
      case r8 =>
        refine step_of rfl rfl ?_
        intro a wx vs fp K hF hK
        have ea : a.eval (.tmp 3) = .pointer (some ⟨(w.heap.size + 1), 0, none⟩) := hF.at_ 3 rfl
        have m0 := (hF.below.cell (p := ⟨(w.heap.size + 1), 0, none⟩) lF).trans f0
        have m1 := (hF.below.cell (p := ⟨(w.heap.size + 1), 1, none⟩) lF).trans f1
        have m2 := (hF.below.cell (p := ⟨(w.heap.size + 1), 2, none⟩) lF).trans f2
        have m3 := (hF.below.cell (p := ⟨(w.heap.size + 1), 3, none⟩) lF).trans f3
        have m4 := (hF.below.cell (p := ⟨(w.heap.size + 1), 4, none⟩) lF).trans f4
        refine op_value (v := .agg #[.int .i64 f.num, .int .i64 f.kind, .int .i64 f.day, .int .i64 f.id, .int .i64 f.qty]) ?_ (hK _ _ _ (hF.only rfl trivial))
        have ec : ∀ v, a.eval (.const v) = v := fun _ => rfl
        clear hF hK
        generalize a.eval = ρ at *
        go_simp
      case r9 =>
        refine step_of rfl rfl ?_
        intro a wx vs fp K hF hK
        have e8 : a.eval (.tmp 83) = .agg #[.int .i64 f.num, .int .i64 f.kind, .int .i64 f.day, .int .i64 f.id, .int .i64 f.qty] := (hF.ev 8 83 rfl rfl).trans (hF.va 8 rfl)
        refine op_value (v := .slice (some ⟨wx.heap.size, 0, none⟩) 1 1) (w' := wx.alloc (.cells #[.int .i64 f.num, .int .i64 f.kind, .int .i64 f.day, .int .i64 f.id, .int .i64 f.qty] 47)) ?_ (hK _ _ _ (hF.made _ trivial ⟨_, rfl, rfl, Bl.new _ _ _⟩))
        have ec : ∀ v, a.eval (.const v) = v := fun _ => rfl
        clear hF hK
        generalize a.eval = ρ at *
        go_simp
      case r10 =>
        refine step_of rfl rfl ?_
        intro a wx vs fp K hF hK
        have hm : OwnR W5.heap.size 47 5 (k) (flat encF (fs.take k)) [] (vs 7) (fp 7) wx := hF.me 7 rfl
        have hv : LitR 47 (encF f).toArray (1) [] (vs 9) (fp 9) wx := hF.me 9 rfl
        obtain ⟨gy, hv, hfy, hbl⟩ := hv
        have hrd : Rd wx 5 (some ⟨gy, 0, none⟩) (1) (encF f) := rd_bl hbl rfl
        refine op_append (.tmp 82) (.tmp 84) 25 rfl W5.heap.size 47 _ 5 40 Tryz.underlying25 infoF rfl (by decide) (vs 7) (k) (flat encF (fs.take k)) (hF.ev 7 82 rfl rfl) hm.1 (some ⟨gy, 0, none⟩) (1) (1) (encF f) ((hF.ev 9 84 rfl rfl).trans hv) hrd (encF_one _) (by unfold maxLen; omega) (by omega) hF.below.size ?_
        intro v w' h1 h2 h3
        exact hK _ _ _ (hF.grown 7 rfl hm.2 h2 h3 (fun g hg => own_lt h1 g hg) trivial ⟨by (rw [flat_append, flat_one]; exact h1), rfl⟩)
      case r11 =>
        refine step_of rfl rfl ?_
        intro a wx vs fp K hF hK
        have ea : a.eval (.tmp 2) = .pointer (some ⟨w.heap.size, 0, none⟩) := hF.at_ 2 rfl
        refine op_value (v := .pointer (some ⟨w.heap.size, 4, none⟩)) ?_ (hK _ _ _ (hF.only rfl trivial))
        clear hF hK
        generalize a.eval = ρ at *
        go_simp
      case r12 =>
        refine step_of rfl rfl ?_
        intro a wx vs fp K hF hK
        have ea : a.eval (.tmp 86) = .pointer (some ⟨w.heap.size, 4, none⟩) := (hF.ev 11 86 rfl rfl).trans (hF.va 11 rfl)
        have mc := (hF.below.cell (p := ⟨w.heap.size, 4, none⟩) lB).trans p4
        refine op_value (v := .slice A n c) ?_ (hK _ _ _ (hF.only rfl trivial))
        clear hF hK
        generalize a.eval = ρ at *
        go_simp
      case r13 =>
        refine step_of rfl rfl ?_
        intro a wx vs fp K hF hK
        exact op_move rfl (hF.at_ 8 rfl) (hK _ _ _ (hF.only rfl trivial))
      case r14 =>
        refine step_of rfl rfl ?_
        intro a wx vs fp K hF hK
        exact op_lo (size := 5) rfl Tryz.underlying25 (by kernel_rfl) ((hF.ev 12 87 rfl rfl).trans (hF.va 12 rfl)) ((hF.ev 13 88 rfl rfl).trans (hF.va 13 rfl)) (by omega) (hK _ _ _ (hF.only rfl trivial))
      case r15 =>
        refine step_of rfl rfl ?_
        intro a wx vs fp K hF hK
        have hm : OwnR W5.heap.size 47 5 (k + 1) (flat encF (fs.take k ++ [f])) [] (vs 10) (fp 10) wx := hF.me 10 rfl
        have hv : vs 14 = .slice (if c = k then A else A.map (·.add (k * 5))) (n - k) (c - k) := hF.va 14 rfl
        have hrd := HRDL.out.keep hF.below
        refine op_append (.tmp 85) (.tmp 89) 25 rfl W5.heap.size 47 _ 5 40 Tryz.underlying25 infoF rfl (by decide) (vs 10) (k + 1) (flat encF (fs.take k ++ [f])) (hF.ev 10 85 rfl rfl) hm.1 (if c = k then A else A.map (·.add (k * 5))) (n - k) (c - k) (flat encF (fs.drop k)) ((hF.ev 14 89 rfl rfl).trans hv) hrd (HONE.out.2) (by unfold maxLen; omega) (by omega) hF.below.size ?_
        intro v w' h1 h2 h3
        exact hK _ _ _ (hF.grown 10 rfl hm.2 h2 h3 (fun g hg => own_lt h1 g hg) trivial ⟨by (rw [flat_append]; exact h1), rfl⟩)
      case r16 =>
        refine step_of rfl rfl ?_
        intro a wx vs fp K hF hK
        have hq0 : vs 1 = .agg #[.int .i64 q.id, .int .i64 q.vol, .int .i64 q.fr, .int .i64 q.tod] := hF.va 1 rfl
        have hm : OwnR W5.heap.size 47 5 (k + 1 + (n - k)) (flat encF (fs.take k ++ [f] ++ fs.drop k)) [] (vs 15) (fp 15) wx := hF.me 15 rfl
        obtain ⟨B, d, hB⟩ := own_slice hm.1
        have ho := hm.1
        rw [hB] at ho
        have e1 : a.eval (.tmp 76) = .agg #[.int .i64 q.id, .int .i64 q.vol, .int .i64 q.fr, .int .i64 q.tod] := (hF.ev 1 76 rfl rfl).trans hq0
        have e2 : a.eval (.tmp 90) = .slice B (k + 1 + (n - k)) d := (hF.ev 15 90 rfl rfl).trans hB
        refine op_value (v := .agg #[.int .i64 q.id, .int .i64 q.vol, .int .i64 q.fr, .int .i64 q.tod, .slice B (k + 1 + (n - k)) d]) ?_ (hK _ _ _ (hF.hand 15 rfl trivial ⟨B, d, rfl, ho, by rw [hm.2, hB]⟩))
        clear hF hK hm ho hB hq0
        generalize a.eval = ρ at *
        go_simp
      case r17 =>
        refine step_of rfl rfl ?_
        intro a wx vs fp K hF hK
        refine op_value (v := .pointer (some ⟨wx.heap.size, 0, none⟩)) (w' := wx.alloc (.cells #[.int .i64 0, .int .i64 0, .int .i64 0, .int .i64 0, .slice none 0 0] 27)) ?_ (hK _ _ _ (hF.made _ trivial ⟨_, rfl, rfl, Bl.new _ _ _⟩))
        have ec : ∀ v, a.eval (.const v) = v := fun _ => rfl
        clear hF hK
        generalize a.eval = ρ at *
        go_simp
      case r18 =>
        refine step_of rfl rfl ?_
        intro a wx vs fp K hF hK
        have hm : PtrR 27 #[.int .i64 0, .int .i64 0, .int .i64 0, .int .i64 0, .slice none 0 0] [] (vs 17) (fp 17) wx := hF.me 17 rfl
        have hb : BkQ W5.heap.size q (k + 1 + (n - k)) (fs.take k ++ [f] ++ fs.drop k) [] (vs 16) (fp 16) wx := hF.me 16 rfl
        obtain ⟨g, hg, hfg, hbl⟩ := hm
        obtain ⟨B, d, hv, hbk, hfb⟩ := hb
        have e1 : a.eval (.tmp 9) = .pointer (some ⟨g, 0, none⟩) := (hF.ev 17 9 rfl rfl).trans hg
        have e2 : a.eval (.tmp 91) = .agg #[.int .i64 q.id, .int .i64 q.vol, .int .i64 q.fr, .int .i64 q.tod, .slice B (k + 1 + (n - k)) d] := (hF.ev 16 91 rfl rfl).trans hv
        have y0 := hbl.c0
        have f0 := hbl.free 0
        have y1 := hbl.c1
        have f1 := hbl.free 1
        have y2 := hbl.c2
        have f2 := hbl.free 2
        have y3 := hbl.c3
        have f3 := hbl.free 3
        have y4 := hbl.c4
        have f4 := hbl.free 4
        refine op_skip (w' := ((((wx.setCell ⟨g, 0, none⟩ (.int .i64 q.id)).setCell ⟨g, 1, none⟩ (.int .i64 q.vol)).setCell ⟨g, 2, none⟩ (.int .i64 q.fr)).setCell ⟨g, 3, none⟩ (.int .i64 q.tod)).setCell ⟨g, 4, none⟩ (.slice B (k + 1 + (n - k)) d)) ?_ (hK undef _ _ (hF.boxq (by decide) hg hfg hbl hbk hfb trivial fun _ _ h => h))
        clear hF hK hbk
        generalize a.eval = ρ at *
        go_simp
      case fin =>
        intro wz vs fp hI
        have hM : BoxQ W5.heap.size q (k + 1 + (n - k)) (fs.take k ++ [f] ++ fs.drop k) [vs 17, vs 16] (vs 18) (fp 18) wz := (hI.finM 18 (by decide) rfl).1
        have hMb := (hI.finM 18 (by decide) rfl).2
        obtain ⟨g9, B9, d9, hg9, hf9, hx9, ho9⟩ := hM
        have hg9' : vs 17 = .pointer (some ⟨g9, 0, none⟩) := by simpa using hg9
        have hbz := hI.below
        have hg9l : W5.heap.size ≤ g9 := (hMb g9 (by rw [hf9]; simp)).1
        clear hI hMb hg9 hf9
        simp only [rj, number, putJ, List.map_cons, List.map_nil, if_true, Act.put, List.setIfInBounds_toArray, List.set_cons_zero, List.set_cons_succ, hg9']
        rw [show k + 1 + (n - k) = n + 1 by omega] at ho9 hx9
        generalize vs 0 = zv0
        generalize vs 1 = zv1
        generalize vs 2 = zv2
        generalize vs 3 = zv3
        generalize vs 4 = zv4
        generalize vs 5 = zv5
        generalize vs 6 = zv6
        generalize vs 7 = zv7
        generalize vs 8 = zv8
        generalize vs 9 = zv9
        generalize vs 10 = zv10
        generalize vs 11 = zv11
        generalize vs 12 = zv12
        generalize vs 13 = zv13
        generalize vs 14 = zv14
        generalize vs 15 = zv15
        generalize vs 16 = zv16
        generalize vs 18 = zv18
        obtain ⟨fs', hfs'⟩ : ∃ fs', fs' = fs.take k ++ [f] ++ fs.drop k := ⟨_, rfl⟩
        rw [← hfs'] at ho9 HBOK HPRM
        clear hfs' hg9'
        have HB9 := Lib.hid (HB5.out.trans (hbz.mono HB5.out.size))
        have HX9 := Lib.hid (HX5.out.keep hbz)
        have HR9 := Lib.hid (HR5.out.keep hbz)
        have HRC := Lib.hid (HRC5.out.below hbz)
        have HO9 := Lib.hid (own_mono ho9 HB5.out.size)
        have HBX := Lib.hid hx9
        clear hbz ho9 hx9 p0 p1 p2 p3 p4 f0 f1 f2 f3 f4 HRDH HRDL HONE lB lF HB5 HX5 HF5 HR5 HRC5
        have y0 := HX9.out.c0
        have y1 := HX9.out.c1
        have y2 := HX9.out.c2
        have y3 := HX9.out.c3
        have y4 := HX9.out.c4
        have z0 := HBX.out.c0
        have z1 := HBX.out.c1
        have z2 := HBX.out.c2
        have z3 := HBX.out.c3
        have z4 := HBX.out.c4
        have HRD := Lib.hid (Recs.of_own encF_len HO9.out (by rw [HPRM.out.length_eq, List.length_cons, HL.out]))
        have hv0 : Hid (RowKit.Below wz.heap.size wz wz.drew) := (Below.refl _ _).drew
        have HGA : Hid (∀ wx, RowKit.Below wz.heap.size wz wx → Calls Tryz.prog 12 #[.agg #[.int .i64 q.id, .int .i64 q.vol, .int .i64 q.fr, .int .i64 q.tod, .slice A n c]] wx fun e w' => ∃ (C : Option Addr) (mm dd : Nat) (gs : List (Int × Int)), e = .returned (.slice C mm dd) ∧ mm ≤ 200 ∧ Hid (Recs enc2 2 w' C mm gs) ∧ Hid (RowKit.Below wz.heap.size wz w')) := fun wx hb => (rgrants_any q _ n c fs wx (HRC.out.below hb) HOK.out).mono fun e w' ⟨C, mm, dd, gs, bal, h1, h2, h3, h4, h5, h6⟩ => ⟨C, mm, dd, grs gs, h1, h4, Recs.of_own enc2_len h5 (by rw [grs_len, h3]), hb.trans (h6.mono hb.size)⟩
        have HGB : Hid (∀ wx, RowKit.Below wz.heap.size wz wx → Calls Tryz.prog 12 #[.agg #[.int .i64 q.id, .int .i64 q.vol, .int .i64 q.fr, .int .i64 q.tod, .slice B9 (n + 1) d9]] wx fun e w' => ∃ (C : Option Addr) (mm dd : Nat) (gs : List (Int × Int)), e = .returned (.slice C mm dd) ∧ mm ≤ 200 ∧ Hid (Recs enc2 2 w' C mm gs) ∧ Hid (RowKit.Below wz.heap.size wz w') ∧ Hid (RowKit.Below wx.heap.size wx w')) := fun wx hb => (rgrants_any q B9 (n + 1) d9 fs' wx (HRD.out.below hb) HBOK.out).mono fun e w' ⟨C, mm, dd, gs, bal, h1, h2, h3, h4, h5, h6⟩ => ⟨C, mm, dd, grs gs, h1, h4, Recs.of_own enc2_len h5 (by rw [grs_len, h3]), hb.trans (h6.mono hb.size), h6⟩
        go_upto_region 16 with (fail)
        go_region_held3 (fun w' => w'.cell? ⟨w.heap.size, 0, none⟩ = some (.int .i64 q.id) ∧ w'.cell? ⟨w.heap.size, 1, none⟩ = some (.int .i64 q.vol) ∧ w'.cell? ⟨w.heap.size, 2, none⟩ = some (.int .i64 q.fr) ∧ w'.cell? ⟨w.heap.size, 3, none⟩ = some (.int .i64 q.tod) ∧ w'.cell? ⟨w.heap.size, 4, none⟩ = some (.slice A n c) ∧ w'.cell? ⟨g9, 0, none⟩ = some (.int .i64 q.id) ∧ w'.cell? ⟨g9, 1, none⟩ = some (.int .i64 q.vol) ∧ w'.cell? ⟨g9, 2, none⟩ = some (.int .i64 q.fr) ∧ w'.cell? ⟨g9, 3, none⟩ = some (.int .i64 q.tod) ∧ w'.cell? ⟨g9, 4, none⟩ = some (.slice B9 (n + 1) d9))
          (first
            | with_reducible exact ⟨(HX9.out.keep hv2.out).c0, (HX9.out.keep hv2.out).c1, (HX9.out.keep hv2.out).c2, (HX9.out.keep hv2.out).c3, (HX9.out.keep hv2.out).c4, (HBX.out.keep hv2.out).c0, (HBX.out.keep hv2.out).c1, (HBX.out.keep hv2.out).c2, (HBX.out.keep hv2.out).c3, (HBX.out.keep hv2.out).c4⟩
            | with_reducible exact ⟨(HX9.out.keep hv1.out).c0, (HX9.out.keep hv1.out).c1, (HX9.out.keep hv1.out).c2, (HX9.out.keep hv1.out).c3, (HX9.out.keep hv1.out).c4, (HBX.out.keep hv1.out).c0, (HBX.out.keep hv1.out).c1, (HBX.out.keep hv1.out).c2, (HBX.out.keep hv1.out).c3, (HBX.out.keep hv1.out).c4⟩
            | go_keep)
          (first
            | (go_at_call 12; with_reducible (refine (HGA.out _ hv0.out).mono ?_); rintro e v1 ⟨C1, m1, e1, s1, rfl, hm1, hr1, hv1⟩)
            | (go_at_call 12; with_reducible (refine (HGB.out _ hv1.out).mono ?_); rintro e v2 ⟨C2, m2, e2, s2, rfl, hm2, hr2, hv2, hvv2⟩))
        have hr1' := hr1.out.below hvv2.out
        have hr2' := hr2.out
        have HZ2 := Lib.hid (HBX.out.keep hv2.out)
        have HR2 := Lib.hid (HR9.out.keep hv2.out)
        have HO2 := Lib.hid (own_below HO9.out hv2.out)
        have HB2 := Lib.hid (HB9.out.trans (hv2.out.mono HB9.out.size))
        clear y0 y1 y2 y3 y4 z0 z1 z2 z3 z4 hr1 hr2 HGA HGB hv0 HX9 HR9 HO9 HBX HB9 HRC HRD hv1 hv2 hvv2
        go_wp2_with fail
        go_loopw [12, 13] (fun v i wx => ∃ (j mo : Nat) (Bo : Option Addr) (do_ : Nat) (xs : List Value), v = .slice Bo mo do_ ∧ i = .int .i64 j ∧ j ≤ m2 ∧ mo ≤ j ∧ wx.ownsRow v2.heap.size 58 3 (.slice Bo mo do_) mo xs ∧ RowKit.Below v2.heap.size v2 wx) (fun _ i _ => m2 - (intOf i).toNat)
        case atStart => exact ⟨0, 0, none, 0, [], rfl, rfl, Nat.zero_le _, Nat.le_refl _, ⟨rfl, .inl ⟨rfl, rfl⟩⟩, Below.refl _ _⟩
        case round =>
          obtain ⟨j, mo, Bo, do_, xs, rfl, rfl, hj, hmo, ho, hb⟩ := hrel
          by_cases hlj : j < m2
          · have hji : (j : Int) < m2 := by omega
            obtain ⟨b4, off4, gi, gv, hA4, hbl4, c1, c2, _⟩ := hr2'.get2 hlj
            subst hA4
            have d1 : wr.cell? ⟨b4, off4 + j * 2, none⟩ = some (.int .i64 gi) := (hb.cell (p := ⟨b4, off4 + j * 2, none⟩) hbl4).trans c1
            have HGD := Lib.hid (granted_any C1 m1 e1 s1 gi wr (hr1'.below hb) (by omega))
            go_wp2_with fail
            with_reducible (refine HGD.out.mono ?_)
            rintro e v3 ⟨rfl, p9, hv3⟩
            have ho3 : v3.ownsRow v2.heap.size 58 3 (.slice Bo mo do_) mo xs := by rw [hv3]; exact own_drewN ho p9
            have hb3 : RowKit.Below v2.heap.size v2 v3 := by rw [hv3]; exact below_drewN hb p9
            generalize grG s1 gi = gb at *
            clear d1 hv3 ho hb HGD
            have d1 : v3.cell? ⟨b4, off4 + j * 2, none⟩ = some (.int .i64 gi) := (hb3.cell (p := ⟨b4, off4 + j * 2, none⟩) hbl4).trans c1
            have d2 : v3.cell? ⟨b4, off4 + j * 2 + 1, none⟩ = some (.int .i64 gv) := (hb3.cell (p := ⟨b4, off4 + j * 2 + 1, none⟩) hbl4).trans c2
            by_cases e : gb = gv
            · have bn : (gb != gv) = false := by simpa using e
              clear e
              go_wp2_with fail
              go_roundw
              case rel => exact ⟨j + 1, mo, Bo, do_, xs, rfl, by go_num, by omega, by omega, ho3, hb3⟩
              case measure => simp [intOf]; omega
            · have bn : (gb != gv) = true := by simpa using e
              clear e
              have HON : Hid (∀ u ∈ encG ⟨gi, gb, gv⟩, u.oneCell' = true) := encG_one _
              have HM1 : Hid (mo + 1 ≤ maxLen ∧ (mo + 1) * 24 ≤ 140737488355328) := ⟨by unfold maxLen; omega, by omega⟩
              have HRD : Hid (Rd (v3.drew.alloc (.cells #[.int .i64 gi, .int .i64 gb, .int .i64 gv] 58)) 3 (some ⟨v3.heap.size, 0, none⟩) 1 (encG ⟨gi, gb, gv⟩)) := rd_new v3.drew 58 (encG ⟨gi, gb, gv⟩)
              have HOE : Hid ((v3.drew.alloc (.cells #[.int .i64 gi, .int .i64 gb, .int .i64 gv] 58)).ownsRow v2.heap.size 58 3 (.slice Bo mo do_) mo xs) := own_alloc (own_drewN ho3 1) _
              have HB9' : Hid (RowKit.Below v2.heap.size v2 (v3.drew.alloc (.cells #[.int .i64 gi, .int .i64 gb, .int .i64 gv] 58))) := hb3.drew.alloc hb3.size _
              have HSZ : Hid (v2.heap.size ≤ (v3.drew.alloc (.cells #[.int .i64 gi, .int .i64 gb, .int .i64 gv] 58)).heap.size) := HB9'.out.size
              have HKP : Hid (∀ w7 : World, (v3.drew.alloc (.cells #[.int .i64 gi, .int .i64 gb, .int .i64 gv] 58)).grownBy w7 (Value.slice Bo mo do_).ownBlock → w7.cell? ⟨b4, off4 + j * 2, none⟩ = some (.int .i64 gi) ∧ w7.cell? ⟨b4, off4 + j * 2 + 1, none⟩ = some (.int .i64 gv)) := fun w7 hg => by
                have hq := hg.block b4 (Nat.lt_of_lt_of_le hbl4 HSZ.out) (fun e => by have := own_base HOE.out b4 e.symm; omega)
                exact ⟨(World.cell?_of_block (a := ⟨b4, off4 + j * 2, none⟩) hq).trans ((HB9'.out.cell (p := ⟨b4, off4 + j * 2, none⟩) hbl4).trans c1), (World.cell?_of_block (a := ⟨b4, off4 + j * 2 + 1, none⟩) hq).trans ((HB9'.out.cell (p := ⟨b4, off4 + j * 2 + 1, none⟩) hbl4).trans c2)⟩
              clear ho3 hb3
              go_upto_region 23 with (fail)
              go_region_held3 (fun w' => w'.cell? ⟨b4, off4 + j * 2, none⟩ = some (.int .i64 gi) ∧ w'.cell? ⟨b4, off4 + j * 2 + 1, none⟩ = some (.int .i64 gv))
                (first
                  | with_reducible exact hk6.out
                  | go_keep)
                (first
                  | (refine step_append_rd _ (by rfl) (.tmp 116) (.tmp 129) 42 (by rfl) v2.heap.size 58 _ 3 24 Tryz.underlying42 infoG3 rfl (by decide) (.slice Bo mo do_) mo _ (by rfl) HOE.out (some ⟨v3.heap.size, 0, none⟩) 1 1 (encG ⟨gi, gb, gv⟩) (by rfl) HRD.out HON.out HM1.out.1 HM1.out.2 HSZ.out ?_; intro v6 w6 ho6 hg6; obtain ⟨B6, d6, rfl⟩ := own_slice ho6; have hk6 := Lib.hid (HKP.out _ hg6)))
              have hb6 := HB9'.out.grown hg6 HB9'.out.size (fun k hk => own_base HOE.out k hk)
              clear HOE HRD hg6
              go_wp2_with fail
              go_roundw
              case rel => exact ⟨j + 1, mo + 1, B6, d6, _, rfl, by go_num, by omega, by omega, ho6, hb6⟩
              case measure => simp [intOf]; omega
          · obtain rfl : m2 = j := by omega
            have hd0 : decide ((m2 : Int) < m2) = false := by simp
            have HZ3 := Lib.hid (HZ2.out.keep hb)
            have HR3 := Lib.hid (HR2.out.keep hb)
            have HO3 := Lib.hid (own_below HO2.out hb)
            have HB3 := Lib.hid (HB2.out.trans (hb.mono HB2.out.size))
            have z0 := HZ3.out.c0
            have z1 := HZ3.out.c1
            have z2 := HZ3.out.c2
            have z3 := HZ3.out.c3
            have z4 := HZ3.out.c4
            have r0 := HR3.out.c0
            have r1 := HR3.out.c1
            have r2 := HR3.out.c2
            have r3 := HR3.out.c3
            have r4 := HR3.out.c4
            have f0 := HR3.out.free 0
            have f1 := HR3.out.free 1
            have f2 := HR3.out.free 2
            have f3 := HR3.out.free 3
            have f4 := HR3.out.free 4
            have HNB : Hid (∀ b, (Value.slice B9 (n + 1) d9).ownBlock = some b → b ≠ w.heap.size + 1 + 1) := fun b e => own_apart_eq HO3.out HR3.out (by decide) b e
            clear hlj ho hb
            go_wp2
            refine bodyPost_ret (v := .tuple #[.agg #[.int .i64 q.id, .int .i64 q.vol, .int .i64 q.fr, .int .i64 q.tod, .slice B9 (n + 1) d9], .slice Bo mo do_, .int .i64 0]) (by simp [results, Tryz.results15, go_sem, r0, r1, r2, r3, r4]) rfl ?_
            exact ⟨B9, d9, Bo, _, do_, fs', rfl, HBOK.out, HPRM.out, own_of_block HO3.out (fun b e => heap_set5 _ _ _ _ _ _ _ b (HNB.out b e)), put5 HB3.out (by omega) _ _ _ _ _⟩
end Go.Proofs.YtemhiifgplaldaaGreat

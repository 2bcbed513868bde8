/-
  The contract of quotabook.Apply at valid books and valid facts. No statement of the seat is proved here. Conditions: as typed.
  What chapter 23 says of reservations, as plain functions, and their laws. No statement of the seat is proved here. No conditions.
  Words for the central authority: what its rows hold. No statement of the seat is proved here. No conditions.
  The contracts of slices.Clone at the rows of the centre. No statement of the seat is proved here. Conditions: lengths up to 100000 elements.
  The central authority in memory: as it reads, and with rows of the call's own. No statement of the seat is proved here. No conditions.
  Contracts of message.outside, message.consistsOf, message.isCode, message.isCountry. No statement of the seat is proved here. Conditions: the string's length fits an int.
-/
import Derived.Test.YtdbcbbiplkikcaaGreatNAJ
import Derived.Test.YtdbcbbiplkikcaaGreatNAA
import Derived.Shelf.SlicesE.Clone
import Derived.Test.YtdbcbbiplkikcaaGreatNAE
namespace Go.Proofs.YtdbcbbiplkikcaaGreat
open Go.RowKit
set_option linter.unusedVariables false

structure FRd (w : World) (A : Option Addr) (n c : Nat) (fs : List Fct) : Prop where
  recs : Recs encF 5 w A n fs
  plain : Plain A
  nil : A = none → n = 0
theorem FRd.below {w w' : World} {A : Option Addr} {n c : Nat} {fs : List Fct} (h : FRd w A n c fs) (hb : RowKit.Below w.heap.size w w') : FRd w' A n c fs := ⟨h.recs.below hb, h.plain, h.nil⟩
theorem FRd.empty (w : World) : FRd w none 0 0 [] := ⟨Recs.nil, .inl rfl, fun _ => rfl⟩
theorem FRd.own {w : World} {N n d : Nat} {B : Option Addr} {fs : List Fct} (h : w.ownsRow N 122 5 (.slice B n d) n (flat encF fs)) (hl : fs.length = n) : FRd w B n d fs := by
  refine ⟨Recs.of_own encF_len h hl, ?_, ?_⟩
  · rcases h.2 with ⟨hv, h0⟩ | ⟨g', cap, cur, hv, _⟩
    · injection hv with h5; exact .inl h5
    · injection hv with h5; exact .inr ⟨g', 0, h5⟩
  · rintro rfl
    rcases h.2 with ⟨hv, h0⟩ | ⟨g', cap, cur, hv, _⟩
    · exact h0
    · injection hv with h5; cases h5
theorem FRd.set5 {w : World} {A : Option Addr} {n c g : Nat} {fs : List Fct} (h : FRd w A n c fs) (hg : ∀ b off, A = some ⟨b, off, none⟩ → b ≠ g) (v0 v1 v2 v3 v4 : Value) : FRd (((((w.setCell ⟨g, 0, none⟩ v0).setCell ⟨g, 1, none⟩ v1).setCell ⟨g, 2, none⟩ v2).setCell ⟨g, 3, none⟩ v3).setCell ⟨g, 4, none⟩ v4) A n c fs := by
  refine ⟨⟨h.recs.1, fun h0 => ?_⟩, h.plain, h.nil⟩
  obtain ⟨b, off, e, hb, hc⟩ := h.recs.2 h0
  have hne := hg b off e
  refine ⟨b, off, e, by simpa [World.setCell] using hb, fun i hi c hcc => ?_⟩
  rw [← hc i hi c hcc]
  exact World.cell?_of_block (a := ⟨b, off + i * 5 + c, none⟩) (((((Below.heap_setCell _ _ _ b hne).trans (Below.heap_setCell _ _ _ b hne)).trans (Below.heap_setCell _ _ _ b hne)).trans (Below.heap_setCell _ _ _ b hne)).trans (Below.heap_setCell _ _ _ b hne))
def ApRes (w : World) (q : Qt) (n : Nat) (fs : List Fct) (f : Fct) (e : Ending) (w' : World) : Prop := ∃ (I : Nat) (B : Option Addr) (d : Nat) (C : Option Addr) (m d2 : Nat) (ga gb : List Rq) (ba bb : Int), e = .returned (.tuple #[.agg #[.int .i64 q.id, .int .i64 q.vol, .int .i64 q.fr, .int .i64 q.tod, .slice B (n + 1) d], .slice C m d2, .int .i64 0]) ∧ BOk q (fs.take I ++ f :: fs.drop I) ∧ Settled fs q.vol ga ba ∧ Settled (fs.take I ++ f :: fs.drop I) q.vol gb bb ∧ (chgs ga gb).length = m ∧ w'.ownsRow w.heap.size 122 5 (.slice B (n + 1) d) (n + 1) (flat encF (fs.take I ++ f :: fs.drop I)) ∧ w'.ownsRow w.heap.size 167 3 (.slice C m d2) m (flat encG (chgs ga gb)) ∧ RowKit.Below w.heap.size w w'
def ApSame (w : World) (q : Qt) (n : Nat) (fs : List Fct) (e : Ending) (w' : World) : Prop := ∃ (B : Option Addr) (d : Nat), e = .returned (.tuple #[.agg #[.int .i64 q.id, .int .i64 q.vol, .int .i64 q.fr, .int .i64 q.tod, .slice B n d], .slice none 0 0, .int .i64 0]) ∧ w'.ownsRow w.heap.size 122 5 (.slice B n d) n (flat encF fs) ∧ RowKit.Below w.heap.size w w'
theorem mem_getF {fs : List Fct} {I : Nat} (h : I < fs.length) : fs[I]! ∈ fs := by rw [getElem!_pos fs I h]; exact List.getElem_mem _
theorem get_memF {fs : List Fct} {x : Fct} (h : x ∈ fs) : ∃ I, I < fs.length ∧ fs[I]! = x := by
  obtain ⟨i, hi, rfl⟩ := List.getElem_of_mem h
  exact ⟨i, hi, getElem!_pos fs i hi⟩

set_option maxRecDepth 100000 in
set_option maxHeartbeats 8000000 in
theorem apply_new (q : Qt) (A : Option Addr) (n c : Nat) (fs : List Fct) (f : Fct) (w : World) (h : FRd w A n c fs) (hok : BOk q fs) (hf : fErr q f = 0) (hnew : ∀ x ∈ fs, x.num ≠ f.num) (hl : fs.length < 200) :
    Calls Tryz.prog 76 #[.agg #[.int .i64 q.id, .int .i64 q.vol, .int .i64 q.fr, .int .i64 q.tod, .slice A n c], .agg #[.int .i64 f.num, .int .i64 f.kind, .int .i64 f.day, .int .i64 f.id, .int .i64 f.qty]] w (ApRes w q n fs f) := by
  have HOK := Lib.hid hok
  have HP := Lib.hid h.plain
  have HN0 := Lib.hid h.nil
  have HLN := Lib.hid h.recs.1
  have hn200 : n ≤ 200 := by have := hok.len; have := h.recs.1; omega
  have HV := Lib.hid (fun w' (hb : RowKit.Below w.heap.size w w') => bvalidate_any q A n c fs w' (h.recs.below hb) (by omega))
  have HVF := Lib.hid (fun w => validateFact_any q f w)
  rw [hok.err] at HV
  rw [hf] at HVF
  have HBS := Lib.hid (fun w' (hb : RowKit.Below w.heap.size w w') => bsearch_any A n c fs f.num w' (h.recs.below hb) (by omega) hok.asc)
  have HCLN := Lib.hid (fun w' (hb : RowKit.Below w.heap.size w w') => cloneF_any A n c fs w' (h.recs.below hb) h.plain (by omega) h.nil)
  have HR := Lib.hid h.recs
  clear h hok
  obtain ⟨W0, hW0⟩ : ∃ W, W = ((w.alloc (.cells #[.int .i64 q.id, .int .i64 q.vol, .int .i64 q.fr, .int .i64 q.tod, .slice A n c] 54)).alloc (.cells #[.int .i64 f.num, .int .i64 f.kind, .int .i64 f.day, .int .i64 f.id, .int .i64 f.qty] 122)).alloc (.cells #[.int .i64 0, .int .i64 0, .int .i64 0, .int .i64 0, .slice none 0 0] 54) := ⟨_, rfl⟩
  have hb0 : RowKit.Below w.heap.size w W0 := by rw [hW0]; exact (((Below.refl _ _).alloc (Nat.le_refl _) _).alloc (by simp) _).alloc (by simp; omega) _
  have hx0 : Bl W0 w.heap.size 54 #[.int .i64 q.id, .int .i64 q.vol, .int .i64 q.fr, .int .i64 q.tod, .slice A n c] := by rw [hW0]; exact ((Bl.new w _ _).alloc _).alloc _
  have hf0 : Bl W0 (w.heap.size + 1) 122 #[.int .i64 f.num, .int .i64 f.kind, .int .i64 f.day, .int .i64 f.id, .int .i64 f.qty] := by rw [hW0]; have := (Bl.new (w.alloc (.cells #[.int .i64 q.id, .int .i64 q.vol, .int .i64 q.fr, .int .i64 q.tod, .slice A n c] 54)) 122 #[.int .i64 f.num, .int .i64 f.kind, .int .i64 f.day, .int .i64 f.id, .int .i64 f.qty]).alloc (.cells #[.int .i64 0, .int .i64 0, .int .i64 0, .int .i64 0, .slice none 0 0] 54); simpa using this
  have hr0 : Bl W0 (w.heap.size + 1 + 1) 54 #[.int .i64 0, .int .i64 0, .int .i64 0, .int .i64 0, .slice none 0 0] := by rw [hW0]; have := Bl.new ((w.alloc (.cells #[.int .i64 q.id, .int .i64 q.vol, .int .i64 q.fr, .int .i64 q.tod, .slice A n c] 54)).alloc (.cells #[.int .i64 f.num, .int .i64 f.kind, .int .i64 f.day, .int .i64 f.id, .int .i64 f.qty] 122)) 54 #[.int .i64 0, .int .i64 0, .int .i64 0, .int .i64 0, .slice none 0 0]; simpa using this
  go_enter Tryz.func76, Tryz.ntmps76
  go_upto_region 1 with (fail)
  rw [← hW0]
  clear hW0
  have p0 : W0.cell? ⟨w.heap.size, 0, none⟩ = some (.int .i64 q.id) := hx0.cell 0
  have p1 : W0.cell? ⟨w.heap.size, 1, none⟩ = some (.int .i64 q.vol) := hx0.cell 1
  have p2 : W0.cell? ⟨w.heap.size, 2, none⟩ = some (.int .i64 q.fr) := hx0.cell 2
  have p3 : W0.cell? ⟨w.heap.size, 3, none⟩ = some (.int .i64 q.tod) := hx0.cell 3
  have p4 : W0.cell? ⟨w.heap.size, 4, none⟩ = some (.slice A n c) := hx0.cell 4
  go_wp2_with fail
  refine (HV.out _ hb0).mono ?_
  rintro e w1 ⟨rfl, hb1⟩
  have hB1 := hb0.trans (hb1.mono hb0.size)
  have hx1 := hx0.keep hb1
  have hf1 := hf0.keep hb1
  have hr1 := hr0.keep hb1
  clear p0 p1 p2 p3 p4 hx0 hf0 hr0 hb0 hb1 HV
  have p0 : w1.cell? ⟨w.heap.size, 0, none⟩ = some (.int .i64 q.id) := hx1.cell 0
  have p1 : w1.cell? ⟨w.heap.size, 1, none⟩ = some (.int .i64 q.vol) := hx1.cell 1
  have p2 : w1.cell? ⟨w.heap.size, 2, none⟩ = some (.int .i64 q.fr) := hx1.cell 2
  have p3 : w1.cell? ⟨w.heap.size, 3, none⟩ = some (.int .i64 q.tod) := hx1.cell 3
  have p4 : w1.cell? ⟨w.heap.size, 4, none⟩ = some (.slice A n c) := hx1.cell 4
  have f0 : w1.cell? ⟨w.heap.size + 1, 0, none⟩ = some (.int .i64 f.num) := hf1.cell 0
  have f1 : w1.cell? ⟨w.heap.size + 1, 1, none⟩ = some (.int .i64 f.kind) := hf1.cell 1
  have f2 : w1.cell? ⟨w.heap.size + 1, 2, none⟩ = some (.int .i64 f.day) := hf1.cell 2
  have f3 : w1.cell? ⟨w.heap.size + 1, 3, none⟩ = some (.int .i64 f.id) := hf1.cell 3
  have f4 : w1.cell? ⟨w.heap.size + 1, 4, none⟩ = some (.int .i64 f.qty) := hf1.cell 4
  go_wp2_with fail
  refine (HVF.out _).mono ?_
  rintro e w2 ⟨rfl, hb2⟩
  have hB2 := hB1.trans (hb2.mono hB1.size)
  have hx2 := hx1.keep hb2
  have hf2 := hf1.keep hb2
  have hr2 := hr1.keep hb2
  clear p0 p1 p2 p3 p4 f0 f1 f2 f3 f4 hx1 hf1 hr1 hB1 hb2 HVF
  have p4 : w2.cell? ⟨w.heap.size, 4, none⟩ = some (.slice A n c) := hx2.cell 4
  have f0 : w2.cell? ⟨w.heap.size + 1, 0, none⟩ = some (.int .i64 f.num) := hf2.cell 0
  go_wp2_with fail
  refine (HBS.out _ hB2).mono ?_
  rintro e w3 ⟨I, fb, rfl, hI, hI1, hI2, hfb, hb3⟩
  have hB3 := hB2.trans (hb3.mono hB2.size)
  have hx3 := hx2.keep hb3
  have hf3 := hf2.keep hb3
  have hr3 := hr2.keep hb3
  have HI1 := Lib.hid hI1
  have HI2 := Lib.hid hI2
  have HFB := Lib.hid hfb
  clear p4 f0 hx2 hf2 hr2 hB2 hb3 HBS hI1 hI2 hfb
  obtain rfl : fb = false := by
    cases fb
    · rfl
    · have := HFB.out.1 rfl
      exact absurd this.2 (hnew _ (mem_getF this.1))
  have HI3 : Hid (∀ k, I ≤ k → k < fs.length → f.num < fs[k]!.num) := fun k h1 h2 => by
    have := HI2.out k h1 h2
    have := hnew _ (mem_getF h2)
    omega
  have HBO := Lib.hid (HOK.out.ins hf hl (fun k h1 _ => HI1.out k h1) HI3.out)
  have hln : n < 200 := by have := HLN.out; omega
  have HIN : Hid (I ≤ n) := by have := HLN.out; show _ ≤ _; omega
  clear hnew hl hf HI2 HFB hI
  have p0 : w3.cell? ⟨w.heap.size, 0, none⟩ = some (.int .i64 q.id) := hx3.cell 0
  have p1 : w3.cell? ⟨w.heap.size, 1, none⟩ = some (.int .i64 q.vol) := hx3.cell 1
  have p2 : w3.cell? ⟨w.heap.size, 2, none⟩ = some (.int .i64 q.fr) := hx3.cell 2
  have p3 : w3.cell? ⟨w.heap.size, 3, none⟩ = some (.int .i64 q.tod) := hx3.cell 3
  have p4 : w3.cell? ⟨w.heap.size, 4, none⟩ = some (.slice A n c) := hx3.cell 4
  have HX3 := Lib.hid hx3
  have HCL2 : Hid (∀ wx, RowKit.Below w3.heap.size w3 wx → Calls Tryz.prog 48 #[.slice A n c] wx fun e w' => ∃ (B : Option Addr) (d : Nat), e = .returned (.slice B n d) ∧ w'.ownsRow w3.heap.size 122 5 (.slice B n d) n (flat encF fs) ∧ RowKit.Below w3.heap.size w3 w' ∧ RowKit.Below wx.heap.size wx w') := fun wx hb => (HCLN.out wx (hB3.trans (hb.mono hB3.size))).mono fun e w' ⟨B, d, h1, h2, h3⟩ => ⟨B, d, h1, own_mono h2 hb.size, hb.trans (h3.mono hb.size), h3⟩
  have HBN : Hid (RowKit.Below w3.heap.size w3 w3.drew) := (Below.refl _ _).drew
  have HBA : Hid (RowKit.Below w3.heap.size w3 (w3.alloc (.cells #[.int .i64 0, .int .i64 0, .int .i64 0, .int .i64 0, .slice none 0 0] 54)).drew) := ((Below.refl _ _).alloc (Nat.le_refl _) _).drew
  have lx := hx3.lt
  clear hx3 HCLN
  go_upto_region 8 with (fail)
  go_cut [11] (fun v wx => ∃ (g : Nat) (B : Option Addr) (d : Nat), v = .pointer (some ⟨g, 0, none⟩) ∧ w3.heap.size ≤ g ∧ Bl wx g 54 #[.int .i64 q.id, .int .i64 q.vol, .int .i64 q.fr, .int .i64 q.tod, .slice B n d] ∧ wx.ownsRow w3.heap.size 122 5 (.slice B n d) n (flat encF fs) ∧ RowKit.Below w3.heap.size w3 wx)
  case first =>
    go_region_held3 (fun w' => w'.cell? ⟨w.heap.size, 0, none⟩ = some (.int .i64 q.id) ∧ w'.cell? ⟨w.heap.size, 1, none⟩ = some (.int .i64 q.vol) ∧ w'.cell? ⟨w.heap.size, 2, none⟩ = some (.int .i64 q.fr) ∧ w'.cell? ⟨w.heap.size, 3, none⟩ = some (.int .i64 q.tod) ∧ w'.cell? ⟨w.heap.size, 4, none⟩ = some (.slice A n c))
      (first
        | go_keep
        | exact ⟨(HX3.out.keep hb5.out).cell 0, (HX3.out.keep hb5.out).cell 1, (HX3.out.keep hb5.out).cell 2, (HX3.out.keep hb5.out).cell 3, (HX3.out.keep hb5.out).cell 4⟩
        | exact ⟨((HX3.out.keep hb5.out).alloc _).cell 0, ((HX3.out.keep hb5.out).alloc _).cell 1, ((HX3.out.keep hb5.out).alloc _).cell 2, ((HX3.out.keep hb5.out).alloc _).cell 3, ((HX3.out.keep hb5.out).alloc _).cell 4⟩)
      (first
        | (go_at_call 48; with_reducible (refine (HCL2.out _ ?_).mono ?_); with_reducible (exact HBN.out); rintro e w5 ⟨B5, d5, rfl, ho5', hb5', _⟩; have hb5 := Lib.hid hb5'; have ho5 := Lib.hid ho5'; clear hb5' ho5'; have l5 : w.heap.size < w5.heap.size := Nat.lt_of_lt_of_le lx hb5.out.size)
        | (go_at_call 48; with_reducible (refine (HCL2.out _ ?_).mono ?_); with_reducible (exact HBA.out); rintro e w5 ⟨B5, d5, rfl, ho5', hb5', hbx'⟩; have hb5 := Lib.hid hb5'; have ho5 := Lib.hid ho5'; clear hb5' ho5'; have l5 : w.heap.size < w5.heap.size := Nat.lt_of_lt_of_le lx hb5.out.size; have HZ5 := Lib.hid (((Bl.new w3 54 #[.int .i64 0, .int .i64 0, .int .i64 0, .int .i64 0, .slice none 0 0]).drew).keep hbx'); clear hbx'; have z0 : w5.cell? ⟨w3.heap.size, 0, none⟩ = some (.int .i64 0) := HZ5.out.c0; have zf0 : w5.frozen? ⟨w3.heap.size, 0, none⟩ = false := HZ5.out.free 0; have z1 : w5.cell? ⟨w3.heap.size, 1, none⟩ = some (.int .i64 0) := HZ5.out.c1; have zf1 : w5.frozen? ⟨w3.heap.size, 1, none⟩ = false := HZ5.out.free 1; have z2 : w5.cell? ⟨w3.heap.size, 2, none⟩ = some (.int .i64 0) := HZ5.out.c2; have zf2 : w5.frozen? ⟨w3.heap.size, 2, none⟩ = false := HZ5.out.free 2; have z3 : w5.cell? ⟨w3.heap.size, 3, none⟩ = some (.int .i64 0) := HZ5.out.c3; have zf3 : w5.frozen? ⟨w3.heap.size, 3, none⟩ = false := HZ5.out.free 3; have z4 : w5.cell? ⟨w3.heap.size, 4, none⟩ = some (.slice none 0 0) := HZ5.out.c4; have zf4 : w5.frozen? ⟨w3.heap.size, 4, none⟩ = false := HZ5.out.free 4; have ln : w.heap.size ≠ w3.heap.size := Nat.ne_of_lt lx; have ln2 : w3.heap.size ≠ w.heap.size := Nat.ne_of_gt lx))
    · go_wp2_with fail
      go_meet
      exact ⟨_, B5, d5, rfl, hb5.out.size, Bl.new _ _ _, own_alloc ho5.out _, hb5.out.alloc hb5.out.size _⟩
    · go_wp2_with fail
      go_meet
      exact ⟨_, B5, d5, rfl, Nat.le_refl _, set5_bl HZ5.out _ _ _ _ _, own5 ho5.out (fun g hg e => own_apart ho5.out HZ5.out (by decide) (by rw [hg, e])) _ _ _ _ _, put5 hb5.out (Nat.le_refl _) _ _ _ _ _⟩
  case rest =>
    obtain ⟨g, B, d, rfl, hg, hnx, hown, hb4⟩ := hcut
    have hB4 := hB3.trans (hb4.mono hB3.size)
    have hx4 := HX3.out.keep hb4
    have hf4 := hf3.keep hb4
    have hr4 := hr3.keep hb4
    have hfl := hf3.lt
    have hrl := hr3.lt
    have hnl := hnx.lt
    have hs3 := hB3.size
    clear p0 p1 p2 p3 p4 HX3 HCL2 HBN HBA hf3 hr3 hb4 lx

    have x4 : wc.cell? ⟨w.heap.size, 4, none⟩ = some (.slice A n c) := hx4.cell 4
    have n4 : wc.cell? ⟨g, 4, none⟩ = some (.slice B n d) := hnx.cell 4
    have f0 : wc.cell? ⟨w.heap.size + 1, 0, none⟩ = some (.int .i64 f.num) := hf4.cell 0
    have f1 : wc.cell? ⟨w.heap.size + 1, 1, none⟩ = some (.int .i64 f.kind) := hf4.cell 1
    have f2 : wc.cell? ⟨w.heap.size + 1, 2, none⟩ = some (.int .i64 f.day) := hf4.cell 2
    have f3 : wc.cell? ⟨w.heap.size + 1, 3, none⟩ = some (.int .i64 f.id) := hf4.cell 3
    have f4 : wc.cell? ⟨w.heap.size + 1, 4, none⟩ = some (.int .i64 f.qty) := hf4.cell 4
    have hln' : (n : Int) < 200 := by omega
    go_upto_region 9 with (fail)
    go_quiet (fail)
    go_upto_region 15 with (fail)
    have hB5 : RowKit.Below w.heap.size w (wc.drewN nq) := below_drewN hB4 nq
    have hx5 := hx4.drewN nq
    have hf5 := hf4.drewN nq
    have hr5 := hr4.drewN nq
    have hnx5 := hnx.drewN nq
    have hown5 := own_drewN hown nq
    have hsz5 : w3.heap.size ≤ (wc.drewN nq).heap.size := by show _ ≤ wc.heap.size; omega
    clear x4 n4 f0 f1 f2 f3 f4 hB4 hx4 hf4 hr4 hnx hown hnl
    generalize wc.drewN nq = W5 at *
    have hgne : ∀ a, B = some a → W5.heap.size ≠ a.block := fun a ha e => by
      have := own_lt hown5 a.block (by rw [ha]; rfl)
      omega
    have hapx : some g ≠ (Value.slice B n d).ownBlock := own_apart hown5 hnx5 (by decide)
    have hapr : some (w.heap.size + 1 + 1) ≠ (Value.slice B n d).ownBlock := own_apart hown5 hr5 (by decide)
    have hlt2 : ∀ k, k < w3.heap.size → some k ≠ (Value.slice B n d).ownBlock := fun k hk e => by have := own_base hown5 k e.symm; omega
    have HINS := Lib.hid (insert_any w3.heap.size B n d I fs f W5.heap.size (W5.alloc (.cells #[.int .i64 f.num, .int .i64 f.kind, .int .i64 f.day, .int .i64 f.id, .int .i64 f.qty] 122)) (own_alloc hown5 _) HLN.out (Bl.new W5 _ _) hgne HIN.out (by omega) (by simp; omega))
    have n4 : W5.cell? ⟨g, 4, none⟩ = some (.slice B n d) := hnx5.cell 4
    have f0 : W5.cell? ⟨w.heap.size + 1, 0, none⟩ = some (.int .i64 f.num) := hf5.cell 0
    have f1 : W5.cell? ⟨w.heap.size + 1, 1, none⟩ = some (.int .i64 f.kind) := hf5.cell 1
    have f2 : W5.cell? ⟨w.heap.size + 1, 2, none⟩ = some (.int .i64 f.day) := hf5.cell 2
    have f3 : W5.cell? ⟨w.heap.size + 1, 3, none⟩ = some (.int .i64 f.id) := hf5.cell 3
    have f4 : W5.cell? ⟨w.heap.size + 1, 4, none⟩ = some (.int .i64 f.qty) := hf5.cell 4
    have hgl := hnx5.lt
    have hrl5 := hr5.lt
    go_wp2_with fail
    refine HINS.out.mono ?_
    rintro e w7 ⟨B7, d7, rfl, ho7, hb7, hk7⟩
    have hk7' : ∀ k, k < W5.heap.size → some k ≠ (Value.slice B n d).ownBlock → w7.heap[k]? = W5.heap[k]? := fun k h1 h2 => (hk7 k (by simp; omega) h2).trans (Below.heap_alloc W5 _ k h1)
    have hnx7 : Bl w7 g 54 #[.int .i64 q.id, .int .i64 q.vol, .int .i64 q.fr, .int .i64 q.tod, .slice B n d] := (hk7' g hgl hapx).trans hnx5
    have hr7 : Bl w7 (w.heap.size + 1 + 1) 54 #[.int .i64 0, .int .i64 0, .int .i64 0, .int .i64 0, .slice none 0 0] := (hk7' _ hrl5 hapr).trans hr5
    have hx7 : Bl w7 w.heap.size 54 #[.int .i64 q.id, .int .i64 q.vol, .int .i64 q.fr, .int .i64 q.tod, .slice A n c] := (hk7' _ (by omega) (hlt2 _ (by omega))).trans hx5
    have hB7 : RowKit.Below w.heap.size w w7 := (hB5.alloc (by omega) _).trans (hb7.mono hs3)
    have hs7 : w3.heap.size ≤ w7.heap.size := by have := hb7.size; simp at this; omega
    have hap7 := own_apart ho7 hnx7 (by decide)
    have hap7r := own_apart ho7 hr7 (by decide)
    clear hk7 hk7' hb7 hnx5 hr5 hx5 hf5 hB5 hown5 n4 f0 f1 f2 f3 f4 HINS hgne hapx hapr hlt2 hgl hrl5 hsz5
    have n4 : w7.cell? ⟨g, 4, none⟩ = some (.slice B n d) := hnx7.cell 4
    have nf4 : w7.frozen? ⟨g, 4, none⟩ = false := hnx7.free 4
    go_upto_region 16 with (fail)
    have hnx8 : Bl (w7.setCell ⟨g, 4, none⟩ (.slice B7 (n + 1) d7)) g 54 #[.int .i64 q.id, .int .i64 q.vol, .int .i64 q.fr, .int .i64 q.tod, .slice B7 (n + 1) d7] := by have := hnx7.put 4 (.slice B7 (n + 1) d7); simpa using this
    have hr8 := hr7.far (p := ⟨g, 4, none⟩) (by show w.heap.size + 1 + 1 ≠ g; omega) (.slice B7 (n + 1) d7)
    have hx8 := hx7.far (p := ⟨g, 4, none⟩) (by show w.heap.size ≠ g; omega) (.slice B7 (n + 1) d7)
    have hB8 : RowKit.Below w.heap.size w (w7.setCell ⟨g, 4, none⟩ (.slice B7 (n + 1) d7)) := hB7.setCell (p := ⟨g, 4, none⟩) (by show w.heap.size ≤ g; omega) _
    have ho8 : (w7.setCell ⟨g, 4, none⟩ (.slice B7 (n + 1) d7)).ownsRow w3.heap.size 122 5 (.slice B7 (n + 1) d7) (n + 1) (flat encF (fs.take I ++ f :: fs.drop I)) := own_of_block ho7 fun k hk => Below.heap_setCell w7 ⟨g, 4, none⟩ _ k (fun e => hap7 (by rw [hk, e]))
    have hs8 : w3.heap.size ≤ (w7.setCell ⟨g, 4, none⟩ (.slice B7 (n + 1) d7)).heap.size := by simpa [World.setCell] using hs7
    clear n4 nf4 hnx7 hr7 hx7 hB7 ho7 hs7 hap7
    generalize w7.setCell ⟨g, 4, none⟩ (.slice B7 (n + 1) d7) = W8 at *
    have hil : (fs.take I ++ f :: fs.drop I).length = n + 1 := by rw [(perm_ins fs f I).length_eq]; simp [HLN.out]
    have HO8 := Lib.hid ho8
    have HR8 := Lib.hid hr8
    have HX8 := Lib.hid hx8
    have HN8 := Lib.hid hnx8
    have HB8 := Lib.hid hB8
    have HCH : Hid (∀ wx, RowKit.Below W8.heap.size W8 wx → Calls Tryz.prog 113 #[.agg #[.int .i64 q.id, .int .i64 q.vol, .int .i64 q.fr, .int .i64 q.tod, .slice A n c], .agg #[.int .i64 q.id, .int .i64 q.vol, .int .i64 q.fr, .int .i64 q.tod, .slice B7 (n + 1) d7]] wx fun e w' => ∃ (C : Option Addr) (m d2 : Nat) (ga gb : List Rq) (ba bb : Int), e = .returned (.slice C m d2) ∧ Settled fs q.vol ga ba ∧ Settled (fs.take I ++ f :: fs.drop I) q.vol gb bb ∧ (chgs ga gb).length = m ∧ w'.ownsRow W8.heap.size 167 3 (.slice C m d2) m (flat encG (chgs ga gb)) ∧ RowKit.Below W8.heap.size W8 w') := fun wx hb => by
      have hra : Recs encF 5 wx A n fs := HR.out.below (hB8.trans (hb.mono hB8.size))
      have hrb : Recs encF 5 wx B7 (n + 1) (fs.take I ++ f :: fs.drop I) := (Recs.of_own encF_len ho8 hil).below hb
      exact (changes_any q.id q.vol q.fr q.tod A n c fs q.id q.vol q.fr q.tod B7 (n + 1) d7 _ wx hra hrb HOK.out.good HBO.out.good).mono fun e w' ⟨C, m, d2, ga, gb, ba, bb, h1, h2, h3, h4, h5, h6⟩ => ⟨C, m, d2, ga, gb, ba, bb, h1, h2, h3, h4, own_mono h5 hb.size, hb.trans (h6.mono hb.size)⟩
    have HBD : Hid (RowKit.Below W8.heap.size W8 W8.drew) := (Below.refl _ _).drew
    have ng : w.heap.size + 1 + 1 ≠ g := by omega
    have ng2 : g ≠ w.heap.size + 1 + 1 := by omega
    have ng3 : w.heap.size ≠ g := by omega
    have ng4 : g ≠ w.heap.size := by omega
    have ng5 : w.heap.size ≠ w.heap.size + 1 + 1 := by omega
    have ng6 : w.heap.size + 1 + 1 ≠ w.heap.size := by omega
    have x0 : W8.cell? ⟨w.heap.size, 0, none⟩ = some (.int .i64 q.id) := hx8.c0
    have x1 : W8.cell? ⟨w.heap.size, 1, none⟩ = some (.int .i64 q.vol) := hx8.c1
    have x2 : W8.cell? ⟨w.heap.size, 2, none⟩ = some (.int .i64 q.fr) := hx8.c2
    have x3 : W8.cell? ⟨w.heap.size, 3, none⟩ = some (.int .i64 q.tod) := hx8.c3
    have x4 : W8.cell? ⟨w.heap.size, 4, none⟩ = some (.slice A n c) := hx8.c4
    have y0 : W8.cell? ⟨g, 0, none⟩ = some (.int .i64 q.id) := hnx8.c0
    have y1 : W8.cell? ⟨g, 1, none⟩ = some (.int .i64 q.vol) := hnx8.c1
    have y2 : W8.cell? ⟨g, 2, none⟩ = some (.int .i64 q.fr) := hnx8.c2
    have y3 : W8.cell? ⟨g, 3, none⟩ = some (.int .i64 q.tod) := hnx8.c3
    have y4 : W8.cell? ⟨g, 4, none⟩ = some (.slice B7 (n + 1) d7) := hnx8.c4
    have l1 := hnx8.lt
    have l2 := hx8.lt
    have l3 := hr8.lt
    clear hr8 hx8 hnx8 hB8 ho8
    go_region_held3 (fun w' => w'.cell? ⟨w.heap.size, 0, none⟩ = some (.int .i64 q.id) ∧ w'.cell? ⟨w.heap.size, 1, none⟩ = some (.int .i64 q.vol) ∧ w'.cell? ⟨w.heap.size, 2, none⟩ = some (.int .i64 q.fr) ∧ w'.cell? ⟨w.heap.size, 3, none⟩ = some (.int .i64 q.tod) ∧ w'.cell? ⟨w.heap.size, 4, none⟩ = some (.slice A n c) ∧ w'.cell? ⟨g, 0, none⟩ = some (.int .i64 q.id) ∧ w'.cell? ⟨g, 1, none⟩ = some (.int .i64 q.vol) ∧ w'.cell? ⟨g, 2, none⟩ = some (.int .i64 q.fr) ∧ w'.cell? ⟨g, 3, none⟩ = some (.int .i64 q.tod) ∧ w'.cell? ⟨g, 4, none⟩ = some (.slice B7 (n + 1) d7))
      (first
        | go_keep
        | exact ⟨(HX8.out.keep hb9.out).c0, (HX8.out.keep hb9.out).c1, (HX8.out.keep hb9.out).c2, (HX8.out.keep hb9.out).c3, (HX8.out.keep hb9.out).c4, (HN8.out.keep hb9.out).c0, (HN8.out.keep hb9.out).c1, (HN8.out.keep hb9.out).c2, (HN8.out.keep hb9.out).c3, (HN8.out.keep hb9.out).c4⟩
        | exact ⟨((HX8.out.keep hb9.out).far5 ng5 _ _ _ _ _).c0, ((HX8.out.keep hb9.out).far5 ng5 _ _ _ _ _).c1, ((HX8.out.keep hb9.out).far5 ng5 _ _ _ _ _).c2, ((HX8.out.keep hb9.out).far5 ng5 _ _ _ _ _).c3, ((HX8.out.keep hb9.out).far5 ng5 _ _ _ _ _).c4, ((HN8.out.keep hb9.out).far5 ng2 _ _ _ _ _).c0, ((HN8.out.keep hb9.out).far5 ng2 _ _ _ _ _).c1, ((HN8.out.keep hb9.out).far5 ng2 _ _ _ _ _).c2, ((HN8.out.keep hb9.out).far5 ng2 _ _ _ _ _).c3, ((HN8.out.keep hb9.out).far5 ng2 _ _ _ _ _).c4⟩)
      (first
        | (go_at_call 113; with_reducible (refine (HCH.out _ ?_).mono ?_); with_reducible (exact HBD.out); rintro e w9 ⟨C9, m9, d9, ga, gb, ba, bb, rfl, hs9, ht9, hl9, ho9', hb9'⟩; have hb9 := Lib.hid hb9'; have ho9 := Lib.hid ho9'; have HS9 := Lib.hid hs9; have HT9 := Lib.hid ht9; have HL9 := Lib.hid hl9; clear hb9' ho9' hs9 ht9 hl9; have HR9 := Lib.hid (HR8.out.keep hb9.out); have r0 : w9.cell? ⟨w.heap.size + 1 + 1, 0, none⟩ = some (.int .i64 0) := HR9.out.c0; have r1 : w9.cell? ⟨w.heap.size + 1 + 1, 1, none⟩ = some (.int .i64 0) := HR9.out.c1; have r2 : w9.cell? ⟨w.heap.size + 1 + 1, 2, none⟩ = some (.int .i64 0) := HR9.out.c2; have r3 : w9.cell? ⟨w.heap.size + 1 + 1, 3, none⟩ = some (.int .i64 0) := HR9.out.c3; have r4 : w9.cell? ⟨w.heap.size + 1 + 1, 4, none⟩ = some (.slice none 0 0) := HR9.out.c4; have rf0 : w9.frozen? ⟨w.heap.size + 1 + 1, 0, none⟩ = false := HR9.out.free 0; have rf1 : w9.frozen? ⟨w.heap.size + 1 + 1, 1, none⟩ = false := HR9.out.free 1; have rf2 : w9.frozen? ⟨w.heap.size + 1 + 1, 2, none⟩ = false := HR9.out.free 2; have rf3 : w9.frozen? ⟨w.heap.size + 1 + 1, 3, none⟩ = false := HR9.out.free 3; have rf4 : w9.frozen? ⟨w.heap.size + 1 + 1, 4, none⟩ = false := HR9.out.free 4; have l9 : w.heap.size + 1 + 1 < w9.heap.size := HR9.out.lt))
    go_wp2
    refine bodyPost_ret (v := .tuple #[.agg #[.int .i64 q.id, .int .i64 q.vol, .int .i64 q.fr, .int .i64 q.tod, .slice B7 (n + 1) d7], .slice C9 m9 d9, .int .i64 0]) (by simp [results, Tryz.results76, go_sem, r0, r1, r2, r3, r4]) rfl ?_
    have hw8 : w.heap.size ≤ W8.heap.size := by omega
    exact ⟨I, B7, d7, C9, m9, d9, ga, gb, ba, bb, rfl, HBO.out, HS9.out, HT9.out, HL9.out, own5 (own_mono (own_below HO8.out hb9.out) hs3) (fun k hk e => own_apart HO8.out HR8.out (by decide) (by rw [hk, e])) _ _ _ _ _, own5 (own_mono ho9.out hw8) (fun k hk e => own_apart ho9.out HR9.out (by decide) (by rw [hk, e])) _ _ _ _ _, put5 (HB8.out.trans (hb9.out.mono hw8)) (by omega) _ _ _ _ _⟩

end Go.Proofs.YtdbcbbiplkikcaaGreat

namespace Go.Proofs.YtdbcbbiplkikcaaGreat
set_option linter.unusedVariables false

def uOk (u : Int × Int) : Bool := decide (1 ≤ u.1) && decide (u.1 ≤ 1000000) && decide (0 ≤ u.2) && decide (u.2 ≤ 1000000000000)
theorem uOk_yes {u : Int × Int} (h : uOk u = true) : 1 ≤ u.1 ∧ u.1 ≤ 1000000 ∧ 0 ≤ u.2 ∧ u.2 ≤ 1000000000000 := by
  simp [uOk] at h
  omega
def uSum (us : List (Int × Int)) : Int := (us.map (·.2)).sum
theorem uSum_nil : uSum [] = 0 := rfl
theorem uSum_cons (u : Int × Int) (us : List (Int × Int)) : uSum (u :: us) = u.2 + uSum us := by simp [uSum]
theorem uSum_append (us vs : List (Int × Int)) : uSum (us ++ vs) = uSum us + uSum vs := by simp [uSum]
theorem uSum_nonneg {us : List (Int × Int)} (h : ∀ u ∈ us, uOk u = true) : 0 ≤ uSum us := by
  induction us with
  | nil => simp [uSum]
  | cons u us ih =>
    rw [uSum_cons]
    have := uOk_yes (h u (by simp))
    have := ih fun x hx => h x (by simp [hx])
    omega
theorem uSum_le {us : List (Int × Int)} (h : ∀ u ∈ us, uOk u = true) : uSum us ≤ us.length * 1000000000000 := by
  induction us with
  | nil => simp [uSum]
  | cons u us ih =>
    rw [uSum_cons, List.length_cons]
    have := uOk_yes (h u (by simp))
    have := ih fun x hx => h x (by simp [hx])
    omega
theorem uSum_take {us : List (Int × Int)} {i : Nat} (h : i < us.length) : uSum (us.take (i + 1)) = uSum (us.take i) + us[i]!.2 := by
  rw [List.take_add_one, List.getElem?_eq_getElem h, getElem!_pos us i h, Option.toList_some, uSum_append, uSum_cons, uSum_nil]
  omega
structure Gh where
  id : Int
  ref : Int
  lev : Int
deriving Inhabited
def ghOk (g : Gh) : Bool := decide (1 ≤ g.id) && decide (g.id ≤ 1000000) && decide (0 ≤ g.ref) && decide (g.ref ≤ 1000000000000) && decide (0 ≤ g.lev) && decide (g.lev ≤ 1000000)
theorem ghOk_yes {g : Gh} (h : ghOk g = true) : 1 ≤ g.id ∧ g.id ≤ 1000000 ∧ 0 ≤ g.ref ∧ g.ref ≤ 1000000000000 ∧ 0 ≤ g.lev ∧ g.lev ≤ 1000000 := by
  simp [ghOk] at h
  omega
def uAsc (us : List (Int × Int)) : Prop := ∀ r, r + 1 < us.length → us[r]!.1 < us[r + 1]!.1
instance (us : List (Int × Int)) : Decidable (uAsc us) := decidable_of_iff (∀ r : Fin us.length, r.1 + 1 < us.length → us[r.1]!.1 < us[r.1 + 1]!.1) ⟨fun h r hr => h ⟨r, by omega⟩ hr, fun h r hr => h r.1 hr⟩
def gErr (g : Gh) (us : List (Int × Int)) : Int :=
  if ghOk g = true then
    if us.length ≤ 64 then
      if ∀ u ∈ us, uOk u = true then
        if uAsc us then if uSum us ≤ g.ref then 0 else 16 else 9
      else 2
    else 8
  else 2
structure GOk (g : Gh) (us : List (Int × Int)) : Prop where
  head : ghOk g = true
  len : us.length ≤ 64
  ok : ∀ u ∈ us, uOk u = true
  asc : uAsc us
  sum : uSum us ≤ g.ref
theorem GOk.err {g : Gh} {us : List (Int × Int)} (h : GOk g us) : gErr g us = 0 := by
  unfold gErr
  rw [if_pos h.head, if_pos h.len, if_pos h.ok, if_pos h.asc, if_pos h.sum]
theorem gErr_ok {g : Gh} {us : List (Int × Int)} (h : gErr g us = 0) : GOk g us := by
  unfold gErr at h
  split at h
  · split at h
    · split at h
      · split at h
        · split at h
          · exact ⟨by assumption, by assumption, by assumption, by assumption, by assumption⟩
          · cases h
        · cases h
      · cases h
    · cases h
  · cases h
theorem uAsc_pair {us : List (Int × Int)} : uAsc us ↔ us.Pairwise (fun a b => a.1 < b.1) := by
  constructor
  · intro h
    have hlt : ∀ i j, i < j → j < us.length → us[i]!.1 < us[j]!.1 := by
      intro i j hij
      induction j with
      | zero => omega
      | succ j ih =>
        intro hj
        have h1 := h j (by omega)
        by_cases e : i = j
        · subst e; exact h1
        · have := ih (by omega) (by omega); omega
    rw [List.pairwise_iff_getElem]
    intro i j hi hj hij
    have := hlt i j hij hj
    rwa [getElem!_pos us i hi, getElem!_pos us j hj] at this
  · intro h r hr
    have := List.pairwise_iff_getElem.1 h r (r + 1) (by omega) (by omega) (by omega)
    rwa [getElem!_pos us r (by omega), getElem!_pos us (r + 1) (by omega)]
theorem u_mem_take {us : List (Int × Int)} {i : Nat} {x : Int × Int} (h : x ∈ us.take i) : ∃ k, k < i ∧ k < us.length ∧ us[k]! = x := by
  obtain ⟨k, hk, rfl⟩ := List.getElem_of_mem h
  rw [List.length_take] at hk
  exact ⟨k, by omega, by omega, by rw [getElem!_pos us k (by omega), List.getElem_take]⟩
theorem u_mem_drop {us : List (Int × Int)} {i : Nat} {x : Int × Int} (h : x ∈ us.drop i) : ∃ k, i ≤ k ∧ k < us.length ∧ us[k]! = x := by
  obtain ⟨k, hk, rfl⟩ := List.getElem_of_mem h
  rw [List.length_drop] at hk
  exact ⟨i + k, by omega, by omega, by rw [getElem!_pos us (i + k) (by omega), List.getElem_drop]⟩
theorem GOk.set {g : Gh} {us : List (Int × Int)} {x : Int × Int} {I J : Nat} (h : GOk g us) (hx : uOk x = true) (hIJ : I ≤ J) (h1 : ∀ q, q < I → q < us.length → us[q]!.1 < x.1) (h2 : ∀ q, J ≤ q → q < us.length → x.1 < us[q]!.1)
    (hl : (us.take I ++ x :: us.drop J).length ≤ 64) (hs : uSum (us.take I ++ x :: us.drop J) ≤ g.ref) : GOk g (us.take I ++ x :: us.drop J) := by
  refine ⟨h.head, hl, fun u hu => ?_, ?_, hs⟩
  · rcases List.mem_append.1 hu with hu | hu
    · exact h.ok u (List.mem_of_mem_take hu)
    · rcases List.mem_cons.1 hu with rfl | hu
      · exact hx
      · exact h.ok u (List.mem_of_mem_drop hu)
  · have hp := uAsc_pair.1 h.asc
    rw [uAsc_pair, List.pairwise_append, List.pairwise_cons]
    refine ⟨hp.take, ⟨fun a ha => ?_, hp.drop⟩, fun a ha b hb => ?_⟩
    · obtain ⟨k, k1, k2, rfl⟩ := u_mem_drop ha
      exact h2 k k1 k2
    · obtain ⟨k, k1, k2, rfl⟩ := u_mem_take ha
      rcases List.mem_cons.1 hb with rfl | hb
      · exact h1 k k1 k2
      · obtain ⟨j, j1, j2, rfl⟩ := u_mem_drop hb
        have := List.pairwise_iff_getElem.1 hp k j k2 j2 (by omega)
        rwa [getElem!_pos us k k2, getElem!_pos us j j2]
theorem GOk.release {g : Gh} {us : List (Int × Int)} {I : Nat} (h : GOk g us) (hI : I < us.length) : GOk g (us.take I ++ us.drop (I + 1)) := by
  have hsub : (us.take I ++ us.drop (I + 1)).Sublist us := by
    have h1 : (us.drop (I + 1)).Sublist (us.drop I) := by
      have e : us.drop (I + 1) = (us.drop I).drop 1 := by simp
      rw [e]
      exact List.drop_sublist _ _
    have := (List.Sublist.refl (us.take I)).append h1
    rwa [List.take_append_drop] at this
  refine ⟨h.head, Nat.le_trans hsub.length_le h.len, fun u hu => h.ok u (hsub.subset hu), uAsc_pair.2 ((uAsc_pair.1 h.asc).sublist hsub), ?_⟩
  have e : uSum us = uSum (us.take I) + (us[I]!.2 + uSum (us.drop (I + 1))) := by
    conv => lhs; rw [← List.take_append_drop I us]
    rw [uSum_append, List.drop_eq_getElem_cons hI, uSum_cons, getElem!_pos us I hI]
  rw [uSum_append]
  have := h.sum
  have := uOk_yes (h.ok us[I]! (by rw [getElem!_pos us I hI]; exact List.getElem_mem hI))
  omega
theorem uSum_bounds {us : List (Int × Int)} (h : ∀ u ∈ us, uOk u = true) (hl : us.length ≤ 1000) (k : Nat) : 0 ≤ uSum (us.take k) ∧ uSum (us.take k) ≤ 1000000000000000 := by
  have h' : ∀ u ∈ us.take k, uOk u = true := fun u hu => h u (List.mem_of_mem_take hu)
  have h1 := uSum_nonneg h'
  have h2 := uSum_le h'
  have h3 : (us.take k).length ≤ 1000 := by rw [List.length_take]; omega
  omega
theorem gErr_head {g : Gh} {us : List (Int × Int)} (h : ghOk g = false) : gErr g us = 2 := by
  unfold gErr
  rw [if_neg (by rw [h]; simp)]
theorem gErr_len {g : Gh} {us : List (Int × Int)} (h : ghOk g = true) (h2 : 64 < us.length) : gErr g us = 8 := by
  unfold gErr
  rw [if_pos h, if_neg (by omega)]
theorem gErr_use {g : Gh} {us : List (Int × Int)} (h : ghOk g = true) (h2 : us.length ≤ 64) {k : Nat} (hk : k < us.length) (h3 : uOk us[k]! = false) : gErr g us = 2 := by
  unfold gErr
  rw [if_pos h, if_pos h2, if_neg (fun h4 => by rw [h4 us[k]! (by rw [getElem!_pos us k hk]; exact List.getElem_mem hk)] at h3; cases h3)]
theorem gErr_asc {g : Gh} {us : List (Int × Int)} (h : ghOk g = true) (h2 : us.length ≤ 64) (h3 : ∀ u ∈ us, uOk u = true) {k : Nat} (hk : k + 1 < us.length) (h4 : ¬ us[k]!.1 < us[k + 1]!.1) : gErr g us = 9 := by
  unfold gErr
  rw [if_pos h, if_pos h2, if_pos h3, if_neg (fun h5 => h4 (h5 k hk))]
theorem gErr_sum {g : Gh} {us : List (Int × Int)} (h : ghOk g = true) (h2 : us.length ≤ 64) (h3 : ∀ u ∈ us, uOk u = true) (h4 : uAsc us) : gErr g us = if uSum us ≤ g.ref then 0 else 16 := by
  unfold gErr
  rw [if_pos h, if_pos h2, if_pos h3, if_pos h4]
theorem all_of_get {us : List (Int × Int)} (h : ∀ i, i < us.length → uOk us[i]! = true) : ∀ u ∈ us, uOk u = true := fun u hu => by
  obtain ⟨i, hi, rfl⟩ := List.getElem_of_mem hu
  have := h i hi
  rwa [getElem!_pos us i hi] at this
end Go.Proofs.YtdbcbbiplkikcaaGreat

namespace Go.Proofs.YtdbcbbiplkikcaaGreat
open Go.RowKit
set_option linter.unusedVariables false

structure Rcp where
  frm : Int
  num : Int
  err : Int
deriving Inhabited
def encRc (r : Rcp) : List Value := [.int .i64 r.frm, .int .i64 r.num, .int .i64 r.err]
theorem encRc_len (r : Rcp) : (encRc r).length = 3 := rfl
theorem encRc_one (r : Rcp) : ∀ v ∈ encRc r, v.oneCell' = true := fun v hv => by
  simp [encRc] at hv
  rcases hv with rfl | rfl | rfl <;> rfl
structure Qb where
  q : Qt
  A : Option Addr
  n : Nat
  c : Nat
  fs : List Fct
deriving Inhabited
def encB (b : Qb) : List Value := [.int .i64 b.q.id, .int .i64 b.q.vol, .int .i64 b.q.fr, .int .i64 b.q.tod, .slice b.A b.n b.c]
theorem encB_len (b : Qb) : (encB b).length = 5 := rfl
theorem encB_one (b : Qb) : ∀ v ∈ encB b, v.oneCell' = true := fun v hv => by
  simp [encB] at hv
  rcases hv with rfl | rfl | rfl | rfl | rfl <;> rfl
structure Gb where
  h : Gh
  A : Option Addr
  n : Nat
  c : Nat
  us : List (Int × Int)
deriving Inhabited
def encGu (g : Gb) : List Value := [.int .i64 g.h.id, .int .i64 g.h.ref, .int .i64 g.h.lev, .slice g.A g.n g.c]
theorem encGu_len (g : Gb) : (encGu g).length = 4 := rfl
theorem encGu_one (g : Gb) : ∀ v ∈ encGu g, v.oneCell' = true := fun v hv => by
  simp [encGu] at hv
  rcases hv with rfl | rfl | rfl | rfl <;> rfl
def encQ (q : Qt) : List Value := [.int .i64 q.id, .int .i64 q.vol, .int .i64 q.fr, .int .i64 q.tod]
theorem encQ_len (q : Qt) : (encQ q).length = 4 := rfl
structure Snt where
  kind : Int
  dst : Int
  num : Int
  day : Int
  lot : Int
  oth : Int
  qty : Int
  amt : Int
deriving Inhabited
def encS (s : Snt) : List Value := [.int .i64 s.kind, .int .i64 0, .int .i64 s.dst, .int .i64 s.num, .int .i64 s.day, .int .i64 s.lot, .int .i64 s.oth, .string ByteArray.empty, .string ByteArray.empty, .int .i64 s.qty, .int .i64 s.amt, .slice none 0 0, .string ByteArray.empty]
theorem encS_len (s : Snt) : (encS s).length = 13 := rfl
theorem encS_one (s : Snt) : ∀ v ∈ encS s, v.oneCell' = true := fun v hv => by
  simp [encS] at hv
  rcases hv with rfl | rfl | rfl | rfl | rfl | rfl | rfl | rfl | rfl | rfl | rfl | rfl | rfl <;> rfl

structure RRd {α : Type} [Inhabited α] (enc : α → List Value) (k : Nat) (w : World) (A : Option Addr) (n : Nat) (xs : List α) : Prop where
  recs : Recs enc k w A n xs
  plain : Plain A
  nil : A = none → n = 0
section
variable {α : Type} [Inhabited α] {enc : α → List Value} {k n c : Nat} {w w' : World} {A : Option Addr} {xs : List α}
theorem RRd.below (h : RRd enc k w A n xs) (hb : RowKit.Below w.heap.size w w') : RRd enc k w' A n xs := ⟨h.recs.below hb, h.plain, h.nil⟩
theorem RRd.empty (enc : α → List Value) (k : Nat) (w : World) : RRd enc k w none 0 [] := ⟨Recs.nil, .inl rfl, fun _ => rfl⟩
theorem RRd.own {N : Nat} {T : TypeId} (hk : ∀ x, (enc x).length = k) (h : w.ownsRow N T k (.slice A n c) n (flat enc xs)) (hl : xs.length = n) : RRd enc k w A n xs := by
  refine ⟨Recs.of_own hk h hl, ?_, ?_⟩
  · rcases h.2 with ⟨hv, h0⟩ | ⟨g', cap, cur, hv, _⟩
    · injection hv with h5; exact .inl h5
    · injection hv with h5; exact .inr ⟨g', 0, h5⟩
  · rintro rfl
    rcases h.2 with ⟨hv, h0⟩ | ⟨g', cap, cur, hv, _⟩
    · exact h0
    · injection hv with h5; cases h5
end

def newQ (qs : List Qt) (i : Nat) : Int := if qOk qs[i]! = true then (if 0 < i ∧ qs[i]!.id ≤ qs[i - 1]!.id then 9 else 0) else 2
def newG (gs : List Gb) (i : Nat) : Int := if gErr gs[i]!.h gs[i]!.us = 0 then (if gs[i]!.us = [] then (if 0 < i ∧ gs[i]!.h.id ≤ gs[i - 1]!.h.id then 9 else 0) else 1) else gErr gs[i]!.h gs[i]!.us
def newErr (qs : List Qt) (gs : List Gb) : Int := if 16 < qs.length ∨ 16 < gs.length then 8 else if firstErr (newQ qs) qs.length = 0 then firstErr (newG gs) gs.length else firstErr (newQ qs) qs.length
def bk0 (q : Qt) : Qb := ⟨q, none, 0, 0, []⟩
def gr0 (g : Gb) : Gb := ⟨g.h, none, 0, 0, []⟩
end Go.Proofs.YtdbcbbiplkikcaaGreat

namespace Go.Proofs.YtdbcbbiplkikcaaGreat
open Go.RowKit Go.Shelf
set_option linter.unusedVariables false

def CloRes {α : Type} (enc : α → List Value) (T : TypeId) (k : Nat) (w : World) (n : Nat) (xs : List α) (e : Ending) (w' : World) : Prop := ∃ (B : Option Addr) (d : Nat), e = .returned (.slice B n d) ∧ w'.ownsRow w.heap.size T k (.slice B n d) n (flat enc xs) ∧ RowKit.Below w.heap.size w w'

theorem info37R : (Tryz.prog.info? 85).map (fun i => (i.zero, i.size, i.bytes)) = some (some (.agg #[.int .i64 0, .int .i64 0, .int .i64 0]), 3, 24) := by kernel_rfl
theorem own0R (w : World) (b : Nat) : w.ownsRow b 85 3 (.slice none 0 0) 0 (flat encRc []) := ⟨by simp [flat], .inl ⟨rfl, rfl⟩⟩
set_option maxRecDepth 100000 in
theorem cloneR_any (A : Option Addr) (n c : Nat) (xs : List Rcp) (w : World) (h : RRd encRc 3 w A n xs) (hn : n ≤ 100000) :
    Calls Tryz.prog 46 #[.slice A n c] w (CloRes encRc 85 3 w n xs) := by
  rcases h.plain with rfl | ⟨b, off, rfl⟩
  · obtain rfl : n = 0 := h.nil rfl
    obtain rfl : xs = [] := List.eq_nil_of_length_eq_zero h.recs.1
    refine (AnyE.slices_Clone_nil Tryz.cloneR 0 c w).mono ?_
    rintro e w' ⟨rfl, rfl⟩
    exact ⟨none, 0, rfl, own0R _ _, Below.refl _ _⟩
  · obtain ⟨i0, hi, hz0, hz1, hz2⟩ := info_parts info37R
    refine (AnyE.slices_Clone Tryz.cloneR i0 _ 3 24 hi hz0 hz1 hz2 rfl (by decide) Tryz.sizeOf85 b off n c (flat encRc xs) w (by rw [flat_length encRc_len, h.recs.1]) (by unfold maxLen; omega) (by omega) (Recs.cells encRc_len (by omega) h.recs) (fun u hu => by
      obtain ⟨x, _, hx⟩ := List.mem_flatMap.1 hu
      exact encRc_one x u hx)).mono ?_
    rintro e w' ⟨v', rfl, ho, _, hb⟩
    obtain ⟨B, d, rfl⟩ := own_slice ho
    exact ⟨B, d, rfl, ho, hb⟩

theorem info37B : (Tryz.prog.info? 54).map (fun i => (i.zero, i.size, i.bytes)) = some (some (.agg #[.int .i64 0, .int .i64 0, .int .i64 0, .int .i64 0, .slice none 0 0]), 5, 56) := by kernel_rfl
theorem own0B (w : World) (b : Nat) : w.ownsRow b 54 5 (.slice none 0 0) 0 (flat encB []) := ⟨by simp [flat], .inl ⟨rfl, rfl⟩⟩
set_option maxRecDepth 100000 in
theorem cloneB_any (A : Option Addr) (n c : Nat) (xs : List Qb) (w : World) (h : RRd encB 5 w A n xs) (hn : n ≤ 100000) :
    Calls Tryz.prog 47 #[.slice A n c] w (CloRes encB 54 5 w n xs) := by
  rcases h.plain with rfl | ⟨b, off, rfl⟩
  · obtain rfl : n = 0 := h.nil rfl
    obtain rfl : xs = [] := List.eq_nil_of_length_eq_zero h.recs.1
    refine (AnyE.slices_Clone_nil Tryz.cloneB 0 c w).mono ?_
    rintro e w' ⟨rfl, rfl⟩
    exact ⟨none, 0, rfl, own0B _ _, Below.refl _ _⟩
  · obtain ⟨i0, hi, hz0, hz1, hz2⟩ := info_parts info37B
    refine (AnyE.slices_Clone Tryz.cloneB i0 _ 5 56 hi hz0 hz1 hz2 rfl (by decide) Tryz.sizeOf54 b off n c (flat encB xs) w (by rw [flat_length encB_len, h.recs.1]) (by unfold maxLen; omega) (by omega) (Recs.cells encB_len (by omega) h.recs) (fun u hu => by
      obtain ⟨x, _, hx⟩ := List.mem_flatMap.1 hu
      exact encB_one x u hx)).mono ?_
    rintro e w' ⟨v', rfl, ho, _, hb⟩
    obtain ⟨B, d, rfl⟩ := own_slice ho
    exact ⟨B, d, rfl, ho, hb⟩

theorem info37G : (Tryz.prog.info? 30).map (fun i => (i.zero, i.size, i.bytes)) = some (some (.agg #[.int .i64 0, .int .i64 0, .int .i64 0, .slice none 0 0]), 4, 48) := by kernel_rfl
theorem own0G (w : World) (b : Nat) : w.ownsRow b 30 4 (.slice none 0 0) 0 (flat encGu []) := ⟨by simp [flat], .inl ⟨rfl, rfl⟩⟩
set_option maxRecDepth 100000 in
theorem cloneG_any (A : Option Addr) (n c : Nat) (xs : List Gb) (w : World) (h : RRd encGu 4 w A n xs) (hn : n ≤ 100000) :
    Calls Tryz.prog 49 #[.slice A n c] w (CloRes encGu 30 4 w n xs) := by
  rcases h.plain with rfl | ⟨b, off, rfl⟩
  · obtain rfl : n = 0 := h.nil rfl
    obtain rfl : xs = [] := List.eq_nil_of_length_eq_zero h.recs.1
    refine (AnyE.slices_Clone_nil Tryz.cloneG 0 c w).mono ?_
    rintro e w' ⟨rfl, rfl⟩
    exact ⟨none, 0, rfl, own0G _ _, Below.refl _ _⟩
  · obtain ⟨i0, hi, hz0, hz1, hz2⟩ := info_parts info37G
    refine (AnyE.slices_Clone Tryz.cloneG i0 _ 4 48 hi hz0 hz1 hz2 rfl (by decide) Tryz.sizeOf30 b off n c (flat encGu xs) w (by rw [flat_length encGu_len, h.recs.1]) (by unfold maxLen; omega) (by omega) (Recs.cells encGu_len (by omega) h.recs) (fun u hu => by
      obtain ⟨x, _, hx⟩ := List.mem_flatMap.1 hu
      exact encGu_one x u hx)).mono ?_
    rintro e w' ⟨v', rfl, ho, _, hb⟩
    obtain ⟨B, d, rfl⟩ := own_slice ho
    exact ⟨B, d, rfl, ho, hb⟩

theorem info37U : (Tryz.prog.info? 32).map (fun i => (i.zero, i.size, i.bytes)) = some (some (.agg #[.int .i64 0, .int .i64 0]), 2, 16) := by kernel_rfl
theorem own0U (w : World) (b : Nat) : w.ownsRow b 32 2 (.slice none 0 0) 0 (flat enc2 []) := ⟨by simp [flat], .inl ⟨rfl, rfl⟩⟩
set_option maxRecDepth 100000 in
theorem cloneU_any (A : Option Addr) (n c : Nat) (xs : List (Int × Int)) (w : World) (h : RRd enc2 2 w A n xs) (hn : n ≤ 100000) :
    Calls Tryz.prog 50 #[.slice A n c] w (CloRes enc2 32 2 w n xs) := by
  rcases h.plain with rfl | ⟨b, off, rfl⟩
  · obtain rfl : n = 0 := h.nil rfl
    obtain rfl : xs = [] := List.eq_nil_of_length_eq_zero h.recs.1
    refine (AnyE.slices_Clone_nil Tryz.cloneU 0 c w).mono ?_
    rintro e w' ⟨rfl, rfl⟩
    exact ⟨none, 0, rfl, own0U _ _, Below.refl _ _⟩
  · obtain ⟨i0, hi, hz0, hz1, hz2⟩ := info_parts info37U
    refine (AnyE.slices_Clone Tryz.cloneU i0 _ 2 16 hi hz0 hz1 hz2 rfl (by decide) Tryz.sizeOf32 b off n c (flat enc2 xs) w (by rw [flat_length enc2_len, h.recs.1]) (by unfold maxLen; omega) (by omega) (Recs.cells enc2_len (by omega) h.recs) (fun u hu => by
      obtain ⟨x, _, hx⟩ := List.mem_flatMap.1 hu
      exact enc2_one x u hx)).mono ?_
    rintro e w' ⟨v', rfl, ho, _, hb⟩
    obtain ⟨B, d, rfl⟩ := own_slice ho
    exact ⟨B, d, rfl, ho, hb⟩

theorem info37S : (Tryz.prog.info? 48).map (fun i => (i.zero, i.size, i.bytes)) = some (some (.agg #[.int .i64 0, .int .i64 0, .int .i64 0, .int .i64 0, .int .i64 0, .int .i64 0, .int .i64 0, .string ByteArray.empty, .string ByteArray.empty, .int .i64 0, .int .i64 0, .slice none 0 0, .string ByteArray.empty]), 13, 144) := by kernel_rfl
theorem own0S (w : World) (b : Nat) : w.ownsRow b 48 13 (.slice none 0 0) 0 (flat encS []) := ⟨by simp [flat], .inl ⟨rfl, rfl⟩⟩
set_option maxRecDepth 100000 in
theorem cloneS_any (A : Option Addr) (n c : Nat) (xs : List Snt) (w : World) (h : RRd encS 13 w A n xs) (hn : n ≤ 100000) :
    Calls Tryz.prog 51 #[.slice A n c] w (CloRes encS 48 13 w n xs) := by
  rcases h.plain with rfl | ⟨b, off, rfl⟩
  · obtain rfl : n = 0 := h.nil rfl
    obtain rfl : xs = [] := List.eq_nil_of_length_eq_zero h.recs.1
    refine (AnyE.slices_Clone_nil Tryz.cloneS 0 c w).mono ?_
    rintro e w' ⟨rfl, rfl⟩
    exact ⟨none, 0, rfl, own0S _ _, Below.refl _ _⟩
  · obtain ⟨i0, hi, hz0, hz1, hz2⟩ := info_parts info37S
    refine (AnyE.slices_Clone Tryz.cloneS i0 _ 13 144 hi hz0 hz1 hz2 rfl (by decide) Tryz.sizeOf48 b off n c (flat encS xs) w (by rw [flat_length encS_len, h.recs.1]) (by unfold maxLen; omega) (by omega) (Recs.cells encS_len (by omega) h.recs) (fun u hu => by
      obtain ⟨x, _, hx⟩ := List.mem_flatMap.1 hu
      exact encS_one x u hx)).mono ?_
    rintro e w' ⟨v', rfl, ho, _, hb⟩
    obtain ⟨B, d, rfl⟩ := own_slice ho
    exact ⟨B, d, rfl, ho, hb⟩
end Go.Proofs.YtdbcbbiplkikcaaGreat

namespace Go.Proofs.YtdbcbbiplkikcaaGreat
open Go.RowKit
set_option linter.unusedVariables false

structure Hd where
  A : Option Addr
  n : Nat
  c : Nat
structure Hds where
  s : Hd
  q : Hd
  g : Hd
  k : Hd
  m : Hd
structure Cen where
  seen : List Rcp
  qs : List Qb
  gs : List Gb
  cov : List (Int × Int)
  sent : List Snt
structure CenAt (w : World) (H : Hds) (C : Cen) : Prop where
  seen : RRd encRc 3 w H.s.A H.s.n C.seen
  qs : RRd encB 5 w H.q.A H.q.n C.qs
  gs : RRd encGu 4 w H.g.A H.g.n C.gs
  cov : RRd enc2 2 w H.k.A H.k.n C.cov
  sent : RRd encS 13 w H.m.A H.m.n C.sent
  facts : ∀ b ∈ C.qs, FRd w b.A b.n b.c b.fs
  uses : ∀ g ∈ C.gs, RRd enc2 2 w g.A g.n g.us
structure CenO (N : Nat) (w : World) (H : Hds) (C : Cen) : Prop where
  seen : w.ownsRow N 85 3 (.slice H.s.A H.s.n H.s.c) H.s.n (flat encRc C.seen)
  qs : w.ownsRow N 54 5 (.slice H.q.A H.q.n H.q.c) H.q.n (flat encB C.qs)
  gs : w.ownsRow N 30 4 (.slice H.g.A H.g.n H.g.c) H.g.n (flat encGu C.gs)
  cov : w.ownsRow N 32 2 (.slice H.k.A H.k.n H.k.c) H.k.n (flat enc2 C.cov)
  sent : w.ownsRow N 48 13 (.slice H.m.A H.m.n H.m.c) H.m.n (flat encS C.sent)
  facts : ∀ b ∈ C.qs, w.ownsRow N 122 5 (.slice b.A b.n b.c) b.n (flat encF b.fs)
  uses : ∀ g ∈ C.gs, w.ownsRow N 32 2 (.slice g.A g.n g.c) g.n (flat enc2 g.us)
def CovApart (H : Hds) (C : Cen) : Prop := ∀ g ∈ C.gs, ∀ b, (Value.slice g.A g.n g.c).ownBlock = some b → (Value.slice H.k.A H.k.n H.k.c).ownBlock ≠ some b

theorem own_lenK {α : Type} {enc : α → List Value} {k : Nat} (hk : ∀ x, (enc x).length = k) (hk0 : 0 < k) {w : World} {N : Nat} {T : TypeId} {A : Option Addr} {n c : Nat} {xs : List α} (h : w.ownsRow N T k (.slice A n c) n (flat enc xs)) : xs.length = n := by
  have h1 := h.1
  rw [flat_length hk] at h1
  exact Nat.eq_of_mul_eq_mul_right hk0 h1
section
variable {N : Nat} {w w' : World} {H : Hds} {C : Cen}
theorem CenO.at_ (h : CenO N w H C) : CenAt w H C :=
  ⟨RRd.own encRc_len h.seen (own_lenK encRc_len (by omega) h.seen), RRd.own encB_len h.qs (own_lenK encB_len (by omega) h.qs), RRd.own encGu_len h.gs (own_lenK encGu_len (by omega) h.gs), RRd.own enc2_len h.cov (own_lenK enc2_len (by omega) h.cov), RRd.own encS_len h.sent (own_lenK encS_len (by omega) h.sent),
    fun b hb => FRd.own (h.facts b hb) (own_lenK encF_len (by omega) (h.facts b hb)), fun g hg => RRd.own enc2_len (h.uses g hg) (own_lenK enc2_len (by omega) (h.uses g hg))⟩
theorem CenAt.below (h : CenAt w H C) (hb : RowKit.Below w.heap.size w w') : CenAt w' H C :=
  ⟨h.seen.below hb, h.qs.below hb, h.gs.below hb, h.cov.below hb, h.sent.below hb, fun b k => (h.facts b k).below hb, fun g k => (h.uses g k).below hb⟩
theorem CenO.of_blocks (h : CenO N w H C) (hk : ∀ b, b < w.heap.size → w'.heap[b]? = w.heap[b]?) : CenO N w' H C :=
  ⟨own_of_block h.seen fun g e => hk g (own_lt h.seen g e), own_of_block h.qs fun g e => hk g (own_lt h.qs g e), own_of_block h.gs fun g e => hk g (own_lt h.gs g e), own_of_block h.cov fun g e => hk g (own_lt h.cov g e), own_of_block h.sent fun g e => hk g (own_lt h.sent g e),
    fun b k => own_of_block (h.facts b k) fun g e => hk g (own_lt (h.facts b k) g e), fun b k => own_of_block (h.uses b k) fun g e => hk g (own_lt (h.uses b k) g e)⟩
theorem CenO.below (h : CenO N w H C) (hb : RowKit.Below w.heap.size w w') : CenO N w' H C := h.of_blocks fun b hlt => hb.block b hlt
end
theorem own_diff {w : World} {N M : Nat} {T U : TypeId} {k l n m : Nat} {u v : Value} {xs ys : List Value} (h : w.ownsRow N T k u n xs) (h' : w.ownsRow M U l v m ys) (hne : T ≠ U) : ∀ g, u.ownBlock = some g → some g ≠ v.ownBlock := by
  intro g hg e
  rcases h.2 with ⟨hv, _⟩ | ⟨g1, c1, r1, hv, _, hh, _⟩
  · rw [hv] at hg; cases hg
  · rw [hv] at hg
    have e1 : g1 = g := by simpa [Value.ownBlock] using hg
    rcases h'.2 with ⟨hv', _⟩ | ⟨g2, c2, r2, hv', _, hh', _⟩
    · rw [hv'] at e; cases e
    · rw [hv'] at e
      have e2 : g = g2 := by simpa [Value.ownBlock] using e
      subst e1 e2
      rw [hh] at hh'
      injection hh' with hh'
      injection hh' with _ h4
      exact hne h4
section
variable {N : Nat} {w w' : World} {H : Hds} {C : Cen}
theorem CenO.sent' (h : CenO N w H C) {B : Option Addr} {n d : Nat} {xs : List Snt} (hk : ∀ b, b < w.heap.size → some b ≠ (Value.slice H.m.A H.m.n H.m.c).ownBlock → w'.heap[b]? = w.heap[b]?) (ho : w'.ownsRow N 48 13 (.slice B n d) n (flat encS xs)) : CenO N w' { H with m := ⟨B, n, d⟩ } { C with sent := xs } :=
  ⟨own_of_block h.seen fun g e => hk g (own_lt h.seen g e) (own_diff h.seen h.sent (by decide) g e), own_of_block h.qs fun g e => hk g (own_lt h.qs g e) (own_diff h.qs h.sent (by decide) g e), own_of_block h.gs fun g e => hk g (own_lt h.gs g e) (own_diff h.gs h.sent (by decide) g e), own_of_block h.cov fun g e => hk g (own_lt h.cov g e) (own_diff h.cov h.sent (by decide) g e), ho,
    fun b k => own_of_block (h.facts b k) fun g e => hk g (own_lt (h.facts b k) g e) (own_diff (h.facts b k) h.sent (by decide) g e), fun b k => own_of_block (h.uses b k) fun g e => hk g (own_lt (h.uses b k) g e) (own_diff (h.uses b k) h.sent (by decide) g e)⟩
theorem CenO.seen' (h : CenO N w H C) {B : Option Addr} {n d : Nat} {xs : List Rcp} (hk : ∀ b, b < w.heap.size → some b ≠ (Value.slice H.s.A H.s.n H.s.c).ownBlock → w'.heap[b]? = w.heap[b]?) (ho : w'.ownsRow N 85 3 (.slice B n d) n (flat encRc xs)) : CenO N w' { H with s := ⟨B, n, d⟩ } { C with seen := xs } :=
  ⟨ho, own_of_block h.qs fun g e => hk g (own_lt h.qs g e) (own_diff h.qs h.seen (by decide) g e), own_of_block h.gs fun g e => hk g (own_lt h.gs g e) (own_diff h.gs h.seen (by decide) g e), own_of_block h.cov fun g e => hk g (own_lt h.cov g e) (own_diff h.cov h.seen (by decide) g e), own_of_block h.sent fun g e => hk g (own_lt h.sent g e) (own_diff h.sent h.seen (by decide) g e),
    fun b k => own_of_block (h.facts b k) fun g e => hk g (own_lt (h.facts b k) g e) (own_diff (h.facts b k) h.seen (by decide) g e), fun b k => own_of_block (h.uses b k) fun g e => hk g (own_lt (h.uses b k) g e) (own_diff (h.uses b k) h.seen (by decide) g e)⟩
theorem CenO.cov' (h : CenO N w H C) (ha : CovApart H C) {B : Option Addr} {n d : Nat} {xs : List (Int × Int)} (hk : ∀ b, b < w.heap.size → some b ≠ (Value.slice H.k.A H.k.n H.k.c).ownBlock → w'.heap[b]? = w.heap[b]?) (ho : w'.ownsRow N 32 2 (.slice B n d) n (flat enc2 xs)) : CenO N w' { H with k := ⟨B, n, d⟩ } { C with cov := xs } :=
  ⟨own_of_block h.seen fun g e => hk g (own_lt h.seen g e) (own_diff h.seen h.cov (by decide) g e), own_of_block h.qs fun g e => hk g (own_lt h.qs g e) (own_diff h.qs h.cov (by decide) g e), own_of_block h.gs fun g e => hk g (own_lt h.gs g e) (own_diff h.gs h.cov (by decide) g e), ho, own_of_block h.sent fun g e => hk g (own_lt h.sent g e) (own_diff h.sent h.cov (by decide) g e),
    fun b k => own_of_block (h.facts b k) fun g e => hk g (own_lt (h.facts b k) g e) (own_diff (h.facts b k) h.cov (by decide) g e), fun b k => own_of_block (h.uses b k) fun g e => hk g (own_lt (h.uses b k) g e) (fun e2 => ha b k g e e2.symm)⟩
theorem CenO.qs' (h : CenO N w H C) {B : Option Addr} {n d : Nat} {xs : List Qb} (hk : ∀ b, b < w.heap.size → some b ≠ (Value.slice H.q.A H.q.n H.q.c).ownBlock → w'.heap[b]? = w.heap[b]?) (ho : w'.ownsRow N 54 5 (.slice B n d) n (flat encB xs)) (hf : ∀ b ∈ xs, w'.ownsRow N 122 5 (.slice b.A b.n b.c) b.n (flat encF b.fs)) : CenO N w' { H with q := ⟨B, n, d⟩ } { C with qs := xs } :=
  ⟨own_of_block h.seen fun g e => hk g (own_lt h.seen g e) (own_diff h.seen h.qs (by decide) g e), ho, own_of_block h.gs fun g e => hk g (own_lt h.gs g e) (own_diff h.gs h.qs (by decide) g e), own_of_block h.cov fun g e => hk g (own_lt h.cov g e) (own_diff h.cov h.qs (by decide) g e), own_of_block h.sent fun g e => hk g (own_lt h.sent g e) (own_diff h.sent h.qs (by decide) g e),
    hf, fun b k => own_of_block (h.uses b k) fun g e => hk g (own_lt (h.uses b k) g e) (own_diff (h.uses b k) h.qs (by decide) g e)⟩
theorem CenO.gs' (h : CenO N w H C) {B : Option Addr} {n d : Nat} {xs : List Gb} (hk : ∀ b, b < w.heap.size → some b ≠ (Value.slice H.g.A H.g.n H.g.c).ownBlock → w'.heap[b]? = w.heap[b]?) (ho : w'.ownsRow N 30 4 (.slice B n d) n (flat encGu xs)) (hu : ∀ g ∈ xs, w'.ownsRow N 32 2 (.slice g.A g.n g.c) g.n (flat enc2 g.us)) : CenO N w' { H with g := ⟨B, n, d⟩ } { C with gs := xs } :=
  ⟨own_of_block h.seen fun g e => hk g (own_lt h.seen g e) (own_diff h.seen h.gs (by decide) g e), own_of_block h.qs fun g e => hk g (own_lt h.qs g e) (own_diff h.qs h.gs (by decide) g e), ho, own_of_block h.cov fun g e => hk g (own_lt h.cov g e) (own_diff h.cov h.gs (by decide) g e), own_of_block h.sent fun g e => hk g (own_lt h.sent g e) (own_diff h.sent h.gs (by decide) g e),
    fun b k => own_of_block (h.facts b k) fun g e => hk g (own_lt (h.facts b k) g e) (own_diff (h.facts b k) h.gs (by decide) g e), hu⟩
end
end Go.Proofs.YtdbcbbiplkikcaaGreat

namespace Go.Proofs.YtdbcbbiplkikcaaGreat
open Go.RowKit
set_option linter.unusedVariables false

def outB (n lo hi : Int) : Bool := decide (n < lo) || decide (hi < n)
set_option maxHeartbeats 1000000 in
theorem outside_any (n lo hi : Int) (w : World) : Calls Tryz.prog 103 #[.int .i64 n, .int .i64 lo, .int .i64 hi] w fun e w' => e = .returned (.bool (outB n lo hi)) ∧ w' = w := by
  by_cases g1 : n < lo
  · have d1 : decide (n < lo) = true := by simpa using g1
    have E : Hid (true = outB n lo hi) := by show _ = _; unfold outB; rw [d1]; rfl
    clear g1
    go_enter Tryz.func103, Tryz.ntmps103
    go_wp2
    go_ret
    exact ⟨ret_bool' E.out, rfl⟩
  · have d1 : decide (n < lo) = false := by simpa using g1
    obtain ⟨b, hb⟩ : ∃ b, decide (hi < n) = b := ⟨_, rfl⟩
    have E : Hid (b = outB n lo hi) := by show _ = _; unfold outB; rw [d1, hb]; rfl
    clear g1
    go_enter Tryz.func103, Tryz.ntmps103
    go_wp2
    go_ret
    exact ⟨ret_bool' (by first | exact E.out | (rw [hb]; exact E.out)), rfl⟩

def StrRes (s : ByteArray) (w : World) (e : Ending) (w' : World) : Prop := (∃ b : Bool, e = .returned (.bool b) ∧ (s.size = 0 → b = true)) ∧ w' = w

set_option maxHeartbeats 2000000 in
theorem consists_any (s : ByteArray) (lo hi : Int) (w : World) (hs : s.size ≤ 9223372036854775807) : Calls Tryz.prog 152 #[.string s, .int .u8 lo, .int .u8 hi] w (StrRes s w) := by
  go_enter Tryz.func152, Tryz.ntmps152
  go_wp2
  go_loop [10] (fun i => ∃ k : Nat, k ≤ s.size ∧ i = .int .i64 k) (fun i => s.size - (intOf i).toNat)
  case atStart => exact ⟨0, Nat.zero_le _, rfl⟩
  case round =>
    obtain ⟨k, hk, rfl⟩ := hrel
    by_cases hks : k < s.size
    · by_cases g1 : (s[k].toNat : Int) < lo
      · go_wp2
        go_ret
        exact ⟨⟨_, rfl, fun h => by omega⟩, rfl⟩
      by_cases g2 : hi < (s[k].toNat : Int)
      · go_wp2
        go_ret
        exact ⟨⟨_, rfl, fun h => by omega⟩, rfl⟩
      go_wp2
      go_round
      case rel => exact ⟨k + 1, by omega, by go_num⟩
      case measure => simp [intOf]; omega
    · have hd : decide (k < s.size) = false := by simpa using hks
      go_wp2
      go_ret
      exact ⟨⟨_, rfl, fun _ => rfl⟩, rfl⟩

set_option maxHeartbeats 2000000 in
theorem isCode_any (s : ByteArray) (w : World) (hs : s.size ≤ 9223372036854775807) : Calls Tryz.prog 104 #[.string s] w (StrRes s w) := by
  have HC := Lib.hid (fun w => consists_any s 48 57 w hs)
  by_cases h8 : s.size ≤ 8
  · have d1 : decide ((s.size : Int) ≤ 8) = true := by simp; omega
    obtain ⟨r, hr⟩ : ∃ r : Int, (s.size : Int).tmod 2 = r := ⟨_, rfl⟩
    have hr0 : s.size = 0 → r = 0 := fun h => by rw [← hr, h]; rfl
    have hrb : -2 < r ∧ r < 2 := by rw [← hr]; exact tmod_bounds _ 2 (by omega)
    have u1 : IntKind.i64.wrap r = r := IntWalk.i64_in _ (by omega)
    by_cases g : r = 0
    · have b1 : (r == 0) = true := by simpa using g
      subst g
      go_enter Tryz.func104, Tryz.ntmps104
      go_wp2_with fail
      refine (HC.out _).mono ?_
      rintro e w1 ⟨⟨b, rfl, hb⟩, rfl⟩
      go_wp2
      go_ret
      exact ⟨⟨b, rfl, hb⟩, rfl⟩
    · have b1 : (r == 0) = false := by simpa using g
      have HN : Hid (s.size ≠ 0) := fun h => g (hr0 h)
      clear hr0 g
      go_enter Tryz.func104, Tryz.ntmps104
      go_wp2
      go_ret
      exact ⟨⟨_, rfl, fun h => absurd h HN.out⟩, rfl⟩
  · have d1 : decide ((s.size : Int) ≤ 8) = false := by simp; omega
    go_enter Tryz.func104, Tryz.ntmps104
    go_wp2
    go_ret
    exact ⟨⟨_, rfl, fun h => by omega⟩, rfl⟩
end Go.Proofs.YtdbcbbiplkikcaaGreat

/-
  The contract of quotabook.Apply at a known fact, and at another fact with a known number. No statement of the seat is proved here. Conditions: as typed.
  The law BookRepeat: it returns true. Conditions: the list reads as integers, its length is at most its capacity.
-/
import Derived.Test.YtemhiifgplaldaaMO
import Derived.Test.YtemhiifgplaldaaMT
namespace Go.Proofs.Ytemhiifgplaldaa
open Go.RowKit
set_option linter.unusedVariables false

set_option maxRecDepth 100000 in
set_option maxHeartbeats 8000000 in
theorem apply_same (q : Qt) (A : Option Addr) (n c : Nat) (fs : List Fct) (f : Fct) (w : World) (h : FRd w A n c fs) (hok : BOk q fs) (hf : fErr q f = 0) (hin : f ∈ fs) :
    Calls Try.prog 17 #[.agg #[.int .i64 q.id, .int .i64 q.vol, .int .i64 q.fr, .int .i64 q.tod, .slice A n c], .agg #[.int .i64 f.num, .int .i64 f.kind, .int .i64 f.day, .int .i64 f.id, .int .i64 f.qty]] w (ApSame w q n fs) := by
  have HOK := Lib.hid hok
  have HP := Lib.hid h.plain
  have HN0 := Lib.hid h.nil
  have HLN := Lib.hid h.recs.1
  have hn200 : n ≤ 200 := by have := hok.len; have := h.recs.1; omega
  have HV := Lib.hid (fun w' (hb : RowKit.Below w.heap.size w w') => bvalidate_any q A n c fs w' (h.recs.below hb) (by omega))
  have HVF := Lib.hid (fun w => validateFact_any q f w)
  rw [hok.err] at HV
  rw [hf] at HVF
  have HBS := Lib.hid (fun w' (hb : RowKit.Below w.heap.size w w') => bsearch_any A n c fs f.num w' (h.recs.below hb) (by omega) hok.asc)
  have HCLN := Lib.hid (fun w' (hb : RowKit.Below w.heap.size w w') => cloneF_any A n c fs w' (h.recs.below hb) h.plain (by omega) h.nil)
  have HR := Lib.hid h.recs
  clear h hok
  obtain ⟨W0, hW0⟩ : ∃ W, W = ((w.alloc (.cells #[.int .i64 q.id, .int .i64 q.vol, .int .i64 q.fr, .int .i64 q.tod, .slice A n c] 26)).alloc (.cells #[.int .i64 f.num, .int .i64 f.kind, .int .i64 f.day, .int .i64 f.id, .int .i64 f.qty] 39)).alloc (.cells #[.int .i64 0, .int .i64 0, .int .i64 0, .int .i64 0, .slice none 0 0] 26) := ⟨_, rfl⟩
  have hb0 : RowKit.Below w.heap.size w W0 := by rw [hW0]; exact (((Below.refl _ _).alloc (Nat.le_refl _) _).alloc (by simp) _).alloc (by simp; omega) _
  have hx0 : Bl W0 w.heap.size 26 #[.int .i64 q.id, .int .i64 q.vol, .int .i64 q.fr, .int .i64 q.tod, .slice A n c] := by rw [hW0]; exact ((Bl.new w _ _).alloc _).alloc _
  have hf0 : Bl W0 (w.heap.size + 1) 39 #[.int .i64 f.num, .int .i64 f.kind, .int .i64 f.day, .int .i64 f.id, .int .i64 f.qty] := by rw [hW0]; have := (Bl.new (w.alloc (.cells #[.int .i64 q.id, .int .i64 q.vol, .int .i64 q.fr, .int .i64 q.tod, .slice A n c] 26)) 39 #[.int .i64 f.num, .int .i64 f.kind, .int .i64 f.day, .int .i64 f.id, .int .i64 f.qty]).alloc (.cells #[.int .i64 0, .int .i64 0, .int .i64 0, .int .i64 0, .slice none 0 0] 26); simpa using this
  have hr0 : Bl W0 (w.heap.size + 1 + 1) 26 #[.int .i64 0, .int .i64 0, .int .i64 0, .int .i64 0, .slice none 0 0] := by rw [hW0]; have := Bl.new ((w.alloc (.cells #[.int .i64 q.id, .int .i64 q.vol, .int .i64 q.fr, .int .i64 q.tod, .slice A n c] 26)).alloc (.cells #[.int .i64 f.num, .int .i64 f.kind, .int .i64 f.day, .int .i64 f.id, .int .i64 f.qty] 39)) 26 #[.int .i64 0, .int .i64 0, .int .i64 0, .int .i64 0, .slice none 0 0]; simpa using this
  go_enter Try.func17, Try.ntmps17
  go_upto_region 1 with (fail)
  rw [← hW0]
  clear hW0
  have p0 : W0.cell? ⟨w.heap.size, 0, none⟩ = some (.int .i64 q.id) := hx0.cell 0
  have p1 : W0.cell? ⟨w.heap.size, 1, none⟩ = some (.int .i64 q.vol) := hx0.cell 1
  have p2 : W0.cell? ⟨w.heap.size, 2, none⟩ = some (.int .i64 q.fr) := hx0.cell 2
  have p3 : W0.cell? ⟨w.heap.size, 3, none⟩ = some (.int .i64 q.tod) := hx0.cell 3
  have p4 : W0.cell? ⟨w.heap.size, 4, none⟩ = some (.slice A n c) := hx0.cell 4
  go_wp2_with fail
  refine (HV.out _ hb0).mono ?_
  rintro e w1 ⟨rfl, hb1⟩
  have hB1 := hb0.trans (hb1.mono hb0.size)
  have hx1 := hx0.keep hb1
  have hf1 := hf0.keep hb1
  have hr1 := hr0.keep hb1
  clear p0 p1 p2 p3 p4 hx0 hf0 hr0 hb0 hb1 HV
  have p0 : w1.cell? ⟨w.heap.size, 0, none⟩ = some (.int .i64 q.id) := hx1.cell 0
  have p1 : w1.cell? ⟨w.heap.size, 1, none⟩ = some (.int .i64 q.vol) := hx1.cell 1
  have p2 : w1.cell? ⟨w.heap.size, 2, none⟩ = some (.int .i64 q.fr) := hx1.cell 2
  have p3 : w1.cell? ⟨w.heap.size, 3, none⟩ = some (.int .i64 q.tod) := hx1.cell 3
  have p4 : w1.cell? ⟨w.heap.size, 4, none⟩ = some (.slice A n c) := hx1.cell 4
  have f0 : w1.cell? ⟨w.heap.size + 1, 0, none⟩ = some (.int .i64 f.num) := hf1.cell 0
  have f1 : w1.cell? ⟨w.heap.size + 1, 1, none⟩ = some (.int .i64 f.kind) := hf1.cell 1
  have f2 : w1.cell? ⟨w.heap.size + 1, 2, none⟩ = some (.int .i64 f.day) := hf1.cell 2
  have f3 : w1.cell? ⟨w.heap.size + 1, 3, none⟩ = some (.int .i64 f.id) := hf1.cell 3
  have f4 : w1.cell? ⟨w.heap.size + 1, 4, none⟩ = some (.int .i64 f.qty) := hf1.cell 4
  go_wp2_with fail
  refine (HVF.out _).mono ?_
  rintro e w2 ⟨rfl, hb2⟩
  have hB2 := hB1.trans (hb2.mono hB1.size)
  have hx2 := hx1.keep hb2
  have hf2 := hf1.keep hb2
  have hr2 := hr1.keep hb2
  clear p0 p1 p2 p3 p4 f0 f1 f2 f3 f4 hx1 hf1 hr1 hB1 hb2 HVF
  have p4 : w2.cell? ⟨w.heap.size, 4, none⟩ = some (.slice A n c) := hx2.cell 4
  have f0 : w2.cell? ⟨w.heap.size + 1, 0, none⟩ = some (.int .i64 f.num) := hf2.cell 0
  go_wp2_with fail
  refine (HBS.out _ hB2).mono ?_
  rintro e w3 ⟨I, fb, rfl, hI, hI1, hI2, hfb, hb3⟩
  have hB3 := hB2.trans (hb3.mono hB2.size)
  have hx3 := hx2.keep hb3
  have hf3 := hf2.keep hb3
  have hr3 := hr2.keep hb3
  have HI1 := Lib.hid hI1
  have HI2 := Lib.hid hI2
  have HFB := Lib.hid hfb
  clear p4 f0 hx2 hf2 hr2 hB2 hb3 HBS hI1 hI2 hfb
  obtain ⟨J, hJ, hJe⟩ := get_memF hin
  have hJn : fs[J]!.num = f.num := by rw [hJe]
  obtain rfl : J = I := by
    rcases Nat.lt_trichotomy J I with h1 | h1 | h1
    · have := HI1.out J h1; omega
    · exact h1
    · have h2 := HI2.out I (Nat.le_refl _) (by omega)
      have h3 := num_lt HOK.out.asc h1 hJ
      omega
  obtain rfl : fb = true := HFB.out.2 ⟨hJ, hJn⟩
  have HJL : Hid (J < n) := by have := HLN.out; show _ < _; omega
  have HJE := Lib.hid hJe
  clear hin hf HI1 HI2 HFB hI hJ hJe hJn
  have p0 : w3.cell? ⟨w.heap.size, 0, none⟩ = some (.int .i64 q.id) := hx3.cell 0
  have p1 : w3.cell? ⟨w.heap.size, 1, none⟩ = some (.int .i64 q.vol) := hx3.cell 1
  have p2 : w3.cell? ⟨w.heap.size, 2, none⟩ = some (.int .i64 q.fr) := hx3.cell 2
  have p3 : w3.cell? ⟨w.heap.size, 3, none⟩ = some (.int .i64 q.tod) := hx3.cell 3
  have p4 : w3.cell? ⟨w.heap.size, 4, none⟩ = some (.slice A n c) := hx3.cell 4
  have HX3 := Lib.hid hx3
  have HCL2 : Hid (∀ wx, RowKit.Below w3.heap.size w3 wx → Calls Try.prog 37 #[.slice A n c] wx fun e w' => ∃ (B : Option Addr) (d : Nat), e = .returned (.slice B n d) ∧ w'.ownsRow w3.heap.size 39 5 (.slice B n d) n (flat encF fs) ∧ RowKit.Below w3.heap.size w3 w' ∧ RowKit.Below wx.heap.size wx w') := fun wx hb => (HCLN.out wx (hB3.trans (hb.mono hB3.size))).mono fun e w' ⟨B, d, h1, h2, h3⟩ => ⟨B, d, h1, own_mono h2 hb.size, hb.trans (h3.mono hb.size), h3⟩
  have HBN : Hid (RowKit.Below w3.heap.size w3 w3.drew) := (Below.refl _ _).drew
  have HBA : Hid (RowKit.Below w3.heap.size w3 (w3.alloc (.cells #[.int .i64 0, .int .i64 0, .int .i64 0, .int .i64 0, .slice none 0 0] 26)).drew) := ((Below.refl _ _).alloc (Nat.le_refl _) _).drew
  have lx := hx3.lt
  clear hx3 HCLN
  go_upto_region 8 with (fail)
  go_cut [11] (fun v wx => ∃ (g : Nat) (B : Option Addr) (d : Nat), v = .pointer (some ⟨g, 0, none⟩) ∧ w3.heap.size ≤ g ∧ Bl wx g 26 #[.int .i64 q.id, .int .i64 q.vol, .int .i64 q.fr, .int .i64 q.tod, .slice B n d] ∧ wx.ownsRow w3.heap.size 39 5 (.slice B n d) n (flat encF fs) ∧ RowKit.Below w3.heap.size w3 wx)
  case first =>
    go_region_held3 (fun w' => w'.cell? ⟨w.heap.size, 0, none⟩ = some (.int .i64 q.id) ∧ w'.cell? ⟨w.heap.size, 1, none⟩ = some (.int .i64 q.vol) ∧ w'.cell? ⟨w.heap.size, 2, none⟩ = some (.int .i64 q.fr) ∧ w'.cell? ⟨w.heap.size, 3, none⟩ = some (.int .i64 q.tod) ∧ w'.cell? ⟨w.heap.size, 4, none⟩ = some (.slice A n c))
      (first
        | go_keep
        | exact ⟨(HX3.out.keep hb5.out).cell 0, (HX3.out.keep hb5.out).cell 1, (HX3.out.keep hb5.out).cell 2, (HX3.out.keep hb5.out).cell 3, (HX3.out.keep hb5.out).cell 4⟩
        | exact ⟨((HX3.out.keep hb5.out).alloc _).cell 0, ((HX3.out.keep hb5.out).alloc _).cell 1, ((HX3.out.keep hb5.out).alloc _).cell 2, ((HX3.out.keep hb5.out).alloc _).cell 3, ((HX3.out.keep hb5.out).alloc _).cell 4⟩)
      (first
        | (go_at_call 37; with_reducible (refine (HCL2.out _ ?_).mono ?_); with_reducible (exact HBN.out); rintro e w5 ⟨B5, d5, rfl, ho5', hb5', _⟩; have hb5 := Lib.hid hb5'; have ho5 := Lib.hid ho5'; clear hb5' ho5'; have l5 : w.heap.size < w5.heap.size := Nat.lt_of_lt_of_le lx hb5.out.size)
        | (go_at_call 37; with_reducible (refine (HCL2.out _ ?_).mono ?_); with_reducible (exact HBA.out); rintro e w5 ⟨B5, d5, rfl, ho5', hb5', hbx'⟩; have hb5 := Lib.hid hb5'; have ho5 := Lib.hid ho5'; clear hb5' ho5'; have l5 : w.heap.size < w5.heap.size := Nat.lt_of_lt_of_le lx hb5.out.size; have HZ5 := Lib.hid (((Bl.new w3 26 #[.int .i64 0, .int .i64 0, .int .i64 0, .int .i64 0, .slice none 0 0]).drew).keep hbx'); clear hbx'; have z0 : w5.cell? ⟨w3.heap.size, 0, none⟩ = some (.int .i64 0) := HZ5.out.c0; have zf0 : w5.frozen? ⟨w3.heap.size, 0, none⟩ = false := HZ5.out.free 0; have z1 : w5.cell? ⟨w3.heap.size, 1, none⟩ = some (.int .i64 0) := HZ5.out.c1; have zf1 : w5.frozen? ⟨w3.heap.size, 1, none⟩ = false := HZ5.out.free 1; have z2 : w5.cell? ⟨w3.heap.size, 2, none⟩ = some (.int .i64 0) := HZ5.out.c2; have zf2 : w5.frozen? ⟨w3.heap.size, 2, none⟩ = false := HZ5.out.free 2; have z3 : w5.cell? ⟨w3.heap.size, 3, none⟩ = some (.int .i64 0) := HZ5.out.c3; have zf3 : w5.frozen? ⟨w3.heap.size, 3, none⟩ = false := HZ5.out.free 3; have z4 : w5.cell? ⟨w3.heap.size, 4, none⟩ = some (.slice none 0 0) := HZ5.out.c4; have zf4 : w5.frozen? ⟨w3.heap.size, 4, none⟩ = false := HZ5.out.free 4; have ln : w.heap.size ≠ w3.heap.size := Nat.ne_of_lt lx; have ln2 : w3.heap.size ≠ w.heap.size := Nat.ne_of_gt lx))
    · go_wp2_with fail
      go_meet
      exact ⟨_, B5, d5, rfl, hb5.out.size, Bl.new _ _ _, own_alloc ho5.out _, hb5.out.alloc hb5.out.size _⟩
    · go_wp2_with fail
      go_meet
      exact ⟨_, B5, d5, rfl, Nat.le_refl _, set5_bl HZ5.out _ _ _ _ _, own5 ho5.out (fun g hg e => own_apart ho5.out HZ5.out (by decide) (by rw [hg, e])) _ _ _ _ _, put5 hb5.out (Nat.le_refl _) _ _ _ _ _⟩
  case rest =>
    obtain ⟨g, B, d, rfl, hg, hnx, hown, hb4⟩ := hcut
    have hB4 := hB3.trans (hb4.mono hB3.size)
    have hx4 := HX3.out.keep hb4
    have hf4 := hf3.keep hb4
    have hr4 := hr3.keep hb4
    have hfl := hf3.lt
    have hrl := hr3.lt
    have hnl := hnx.lt
    have hs3 := hB3.size
    clear p0 p1 p2 p3 p4 HX3 HCL2 HBN HBA hf3 hr3 hb4 lx

    obtain ⟨b, off, x, hA, hbl, e0, e1, e2, e3, e4, HX⟩ := HR.out.getF HJL.out
    obtain rfl : f = x := HJE.out.symm.trans HX.out
    subst hA
    have hJi : (J : Int) < n := by have := HJL.out; omega
    have x4 : wc.cell? ⟨w.heap.size, 4, none⟩ = some (.slice (some ⟨b, off, none⟩) n c) := hx4.cell 4
    have k0 : wc.cell? ⟨b, off + J * 5, none⟩ = some (.int .i64 f.num) := (hB4.cell (p := ⟨b, off + J * 5, none⟩) hbl).trans e0
    have k1 : wc.cell? ⟨b, off + J * 5 + 1, none⟩ = some (.int .i64 f.kind) := (hB4.cell (p := ⟨b, off + J * 5 + 1, none⟩) hbl).trans e1
    have k2 : wc.cell? ⟨b, off + J * 5 + 2, none⟩ = some (.int .i64 f.day) := (hB4.cell (p := ⟨b, off + J * 5 + 2, none⟩) hbl).trans e2
    have k3 : wc.cell? ⟨b, off + J * 5 + 3, none⟩ = some (.int .i64 f.id) := (hB4.cell (p := ⟨b, off + J * 5 + 3, none⟩) hbl).trans e3
    have k4 : wc.cell? ⟨b, off + J * 5 + 4, none⟩ = some (.int .i64 f.qty) := (hB4.cell (p := ⟨b, off + J * 5 + 4, none⟩) hbl).trans e4
    have f0 : wc.cell? ⟨w.heap.size + 1, 0, none⟩ = some (.int .i64 f.num) := hf4.cell 0
    have f1 : wc.cell? ⟨w.heap.size + 1, 1, none⟩ = some (.int .i64 f.kind) := hf4.cell 1
    have f2 : wc.cell? ⟨w.heap.size + 1, 2, none⟩ = some (.int .i64 f.day) := hf4.cell 2
    have f3 : wc.cell? ⟨w.heap.size + 1, 3, none⟩ = some (.int .i64 f.id) := hf4.cell 3
    have f4 : wc.cell? ⟨w.heap.size + 1, 4, none⟩ = some (.int .i64 f.qty) := hf4.cell 4
    have hap := own_apart hown hr4 (by decide)
    have n0 : wc.cell? ⟨g, 0, none⟩ = some (.int .i64 q.id) := hnx.c0
    have n1 : wc.cell? ⟨g, 1, none⟩ = some (.int .i64 q.vol) := hnx.c1
    have n2 : wc.cell? ⟨g, 2, none⟩ = some (.int .i64 q.fr) := hnx.c2
    have n3 : wc.cell? ⟨g, 3, none⟩ = some (.int .i64 q.tod) := hnx.c3
    have n4 : wc.cell? ⟨g, 4, none⟩ = some (.slice B n d) := hnx.c4
    have r0 : wc.cell? ⟨w.heap.size + 1 + 1, 0, none⟩ = some (.int .i64 0) := hr4.c0
    have r1 : wc.cell? ⟨w.heap.size + 1 + 1, 1, none⟩ = some (.int .i64 0) := hr4.c1
    have r2 : wc.cell? ⟨w.heap.size + 1 + 1, 2, none⟩ = some (.int .i64 0) := hr4.c2
    have r3 : wc.cell? ⟨w.heap.size + 1 + 1, 3, none⟩ = some (.int .i64 0) := hr4.c3
    have r4 : wc.cell? ⟨w.heap.size + 1 + 1, 4, none⟩ = some (.slice none 0 0) := hr4.c4
    have rf0 : wc.frozen? ⟨w.heap.size + 1 + 1, 0, none⟩ = false := hr4.free 0
    have rf1 : wc.frozen? ⟨w.heap.size + 1 + 1, 1, none⟩ = false := hr4.free 1
    have rf2 : wc.frozen? ⟨w.heap.size + 1 + 1, 2, none⟩ = false := hr4.free 2
    have rf3 : wc.frozen? ⟨w.heap.size + 1 + 1, 3, none⟩ = false := hr4.free 3
    have rf4 : wc.frozen? ⟨w.heap.size + 1 + 1, 4, none⟩ = false := hr4.free 4
    clear e0 e1 e2 e3 e4
    go_upto_region 9 with (fail)
    go_quiet (fail)
    go_wp2
    refine bodyPost_ret (v := .tuple #[.agg #[.int .i64 q.id, .int .i64 q.vol, .int .i64 q.fr, .int .i64 q.tod, .slice B n d], .slice none 0 0, .int .i64 0]) (by simp [results, Try.results17, go_sem, r0, r1, r2, r3, r4]) rfl ?_
    exact ⟨B, d, rfl, own5 (own_mono (own_drewN hown nq) hs3) (fun k hk e => hap (by rw [hk, e])) _ _ _ _ _, put5 (below_drewN hB4 nq) (by omega) _ _ _ _ _⟩

set_option maxRecDepth 100000 in
set_option maxHeartbeats 8000000 in
theorem apply_other (q : Qt) (A : Option Addr) (n c : Nat) (fs : List Fct) (f : Fct) (w : World) (h : FRd w A n c fs) (hok : BOk q fs) (hf : fErr q f = 0) (y : Int) (hy : y ≠ f.qty) (hin : (⟨f.num, f.kind, f.day, f.id, y⟩ : Fct) ∈ fs) :
    Calls Try.prog 17 #[.agg #[.int .i64 q.id, .int .i64 q.vol, .int .i64 q.fr, .int .i64 q.tod, .slice A n c], .agg #[.int .i64 f.num, .int .i64 f.kind, .int .i64 f.day, .int .i64 f.id, .int .i64 f.qty]] w (fun e w' => e = .returned (.tuple #[.agg #[.int .i64 0, .int .i64 0, .int .i64 0, .int .i64 0, .slice none 0 0], .slice none 0 0, .int .i64 14]) ∧ RowKit.Below w.heap.size w w') := by
  have HOK := Lib.hid hok
  have HP := Lib.hid h.plain
  have HN0 := Lib.hid h.nil
  have HLN := Lib.hid h.recs.1
  have hn200 : n ≤ 200 := by have := hok.len; have := h.recs.1; omega
  have HV := Lib.hid (fun w' (hb : RowKit.Below w.heap.size w w') => bvalidate_any q A n c fs w' (h.recs.below hb) (by omega))
  have HVF := Lib.hid (fun w => validateFact_any q f w)
  rw [hok.err] at HV
  rw [hf] at HVF
  have HBS := Lib.hid (fun w' (hb : RowKit.Below w.heap.size w w') => bsearch_any A n c fs f.num w' (h.recs.below hb) (by omega) hok.asc)
  have HCLN := Lib.hid (fun w' (hb : RowKit.Below w.heap.size w w') => cloneF_any A n c fs w' (h.recs.below hb) h.plain (by omega) h.nil)
  have HR := Lib.hid h.recs
  clear h hok
  obtain ⟨W0, hW0⟩ : ∃ W, W = ((w.alloc (.cells #[.int .i64 q.id, .int .i64 q.vol, .int .i64 q.fr, .int .i64 q.tod, .slice A n c] 26)).alloc (.cells #[.int .i64 f.num, .int .i64 f.kind, .int .i64 f.day, .int .i64 f.id, .int .i64 f.qty] 39)).alloc (.cells #[.int .i64 0, .int .i64 0, .int .i64 0, .int .i64 0, .slice none 0 0] 26) := ⟨_, rfl⟩
  have hb0 : RowKit.Below w.heap.size w W0 := by rw [hW0]; exact (((Below.refl _ _).alloc (Nat.le_refl _) _).alloc (by simp) _).alloc (by simp; omega) _
  have hx0 : Bl W0 w.heap.size 26 #[.int .i64 q.id, .int .i64 q.vol, .int .i64 q.fr, .int .i64 q.tod, .slice A n c] := by rw [hW0]; exact ((Bl.new w _ _).alloc _).alloc _
  have hf0 : Bl W0 (w.heap.size + 1) 39 #[.int .i64 f.num, .int .i64 f.kind, .int .i64 f.day, .int .i64 f.id, .int .i64 f.qty] := by rw [hW0]; have := (Bl.new (w.alloc (.cells #[.int .i64 q.id, .int .i64 q.vol, .int .i64 q.fr, .int .i64 q.tod, .slice A n c] 26)) 39 #[.int .i64 f.num, .int .i64 f.kind, .int .i64 f.day, .int .i64 f.id, .int .i64 f.qty]).alloc (.cells #[.int .i64 0, .int .i64 0, .int .i64 0, .int .i64 0, .slice none 0 0] 26); simpa using this
  have hr0 : Bl W0 (w.heap.size + 1 + 1) 26 #[.int .i64 0, .int .i64 0, .int .i64 0, .int .i64 0, .slice none 0 0] := by rw [hW0]; have := Bl.new ((w.alloc (.cells #[.int .i64 q.id, .int .i64 q.vol, .int .i64 q.fr, .int .i64 q.tod, .slice A n c] 26)).alloc (.cells #[.int .i64 f.num, .int .i64 f.kind, .int .i64 f.day, .int .i64 f.id, .int .i64 f.qty] 39)) 26 #[.int .i64 0, .int .i64 0, .int .i64 0, .int .i64 0, .slice none 0 0]; simpa using this
  go_enter Try.func17, Try.ntmps17
  go_upto_region 1 with (fail)
  rw [← hW0]
  clear hW0
  have p0 : W0.cell? ⟨w.heap.size, 0, none⟩ = some (.int .i64 q.id) := hx0.cell 0
  have p1 : W0.cell? ⟨w.heap.size, 1, none⟩ = some (.int .i64 q.vol) := hx0.cell 1
  have p2 : W0.cell? ⟨w.heap.size, 2, none⟩ = some (.int .i64 q.fr) := hx0.cell 2
  have p3 : W0.cell? ⟨w.heap.size, 3, none⟩ = some (.int .i64 q.tod) := hx0.cell 3
  have p4 : W0.cell? ⟨w.heap.size, 4, none⟩ = some (.slice A n c) := hx0.cell 4
  go_wp2_with fail
  refine (HV.out _ hb0).mono ?_
  rintro e w1 ⟨rfl, hb1⟩
  have hB1 := hb0.trans (hb1.mono hb0.size)
  have hx1 := hx0.keep hb1
  have hf1 := hf0.keep hb1
  have hr1 := hr0.keep hb1
  clear p0 p1 p2 p3 p4 hx0 hf0 hr0 hb0 hb1 HV
  have p0 : w1.cell? ⟨w.heap.size, 0, none⟩ = some (.int .i64 q.id) := hx1.cell 0
  have p1 : w1.cell? ⟨w.heap.size, 1, none⟩ = some (.int .i64 q.vol) := hx1.cell 1
  have p2 : w1.cell? ⟨w.heap.size, 2, none⟩ = some (.int .i64 q.fr) := hx1.cell 2
  have p3 : w1.cell? ⟨w.heap.size, 3, none⟩ = some (.int .i64 q.tod) := hx1.cell 3
  have p4 : w1.cell? ⟨w.heap.size, 4, none⟩ = some (.slice A n c) := hx1.cell 4
  have f0 : w1.cell? ⟨w.heap.size + 1, 0, none⟩ = some (.int .i64 f.num) := hf1.cell 0
  have f1 : w1.cell? ⟨w.heap.size + 1, 1, none⟩ = some (.int .i64 f.kind) := hf1.cell 1
  have f2 : w1.cell? ⟨w.heap.size + 1, 2, none⟩ = some (.int .i64 f.day) := hf1.cell 2
  have f3 : w1.cell? ⟨w.heap.size + 1, 3, none⟩ = some (.int .i64 f.id) := hf1.cell 3
  have f4 : w1.cell? ⟨w.heap.size + 1, 4, none⟩ = some (.int .i64 f.qty) := hf1.cell 4
  go_wp2_with fail
  refine (HVF.out _).mono ?_
  rintro e w2 ⟨rfl, hb2⟩
  have hB2 := hB1.trans (hb2.mono hB1.size)
  have hx2 := hx1.keep hb2
  have hf2 := hf1.keep hb2
  have hr2 := hr1.keep hb2
  clear p0 p1 p2 p3 p4 f0 f1 f2 f3 f4 hx1 hf1 hr1 hB1 hb2 HVF
  have p4 : w2.cell? ⟨w.heap.size, 4, none⟩ = some (.slice A n c) := hx2.cell 4
  have f0 : w2.cell? ⟨w.heap.size + 1, 0, none⟩ = some (.int .i64 f.num) := hf2.cell 0
  go_wp2_with fail
  refine (HBS.out _ hB2).mono ?_
  rintro e w3 ⟨I, fb, rfl, hI, hI1, hI2, hfb, hb3⟩
  have hB3 := hB2.trans (hb3.mono hB2.size)
  have hx3 := hx2.keep hb3
  have hf3 := hf2.keep hb3
  have hr3 := hr2.keep hb3
  have HI1 := Lib.hid hI1
  have HI2 := Lib.hid hI2
  have HFB := Lib.hid hfb
  clear p4 f0 hx2 hf2 hr2 hB2 hb3 HBS hI1 hI2 hfb
  obtain ⟨J, hJ, hJe⟩ := get_memF hin
  have hJn : fs[J]!.num = f.num := by rw [hJe]
  obtain rfl : J = I := by
    rcases Nat.lt_trichotomy J I with h1 | h1 | h1
    · have := HI1.out J h1; omega
    · exact h1
    · have h2 := HI2.out I (Nat.le_refl _) (by omega)
      have h3 := num_lt HOK.out.asc h1 hJ
      omega
  obtain rfl : fb = true := HFB.out.2 ⟨hJ, hJn⟩
  have HJL : Hid (J < n) := by have := HLN.out; show _ < _; omega
  have HJE := Lib.hid hJe
  clear hin hf HI1 HI2 HFB hI hJ hJe hJn
  have p0 : w3.cell? ⟨w.heap.size, 0, none⟩ = some (.int .i64 q.id) := hx3.cell 0
  have p1 : w3.cell? ⟨w.heap.size, 1, none⟩ = some (.int .i64 q.vol) := hx3.cell 1
  have p2 : w3.cell? ⟨w.heap.size, 2, none⟩ = some (.int .i64 q.fr) := hx3.cell 2
  have p3 : w3.cell? ⟨w.heap.size, 3, none⟩ = some (.int .i64 q.tod) := hx3.cell 3
  have p4 : w3.cell? ⟨w.heap.size, 4, none⟩ = some (.slice A n c) := hx3.cell 4
  have HX3 := Lib.hid hx3
  have HCL2 : Hid (∀ wx, RowKit.Below w3.heap.size w3 wx → Calls Try.prog 37 #[.slice A n c] wx fun e w' => ∃ (B : Option Addr) (d : Nat), e = .returned (.slice B n d) ∧ w'.ownsRow w3.heap.size 39 5 (.slice B n d) n (flat encF fs) ∧ RowKit.Below w3.heap.size w3 w' ∧ RowKit.Below wx.heap.size wx w') := fun wx hb => (HCLN.out wx (hB3.trans (hb.mono hB3.size))).mono fun e w' ⟨B, d, h1, h2, h3⟩ => ⟨B, d, h1, own_mono h2 hb.size, hb.trans (h3.mono hb.size), h3⟩
  have HBN : Hid (RowKit.Below w3.heap.size w3 w3.drew) := (Below.refl _ _).drew
  have HBA : Hid (RowKit.Below w3.heap.size w3 (w3.alloc (.cells #[.int .i64 0, .int .i64 0, .int .i64 0, .int .i64 0, .slice none 0 0] 26)).drew) := ((Below.refl _ _).alloc (Nat.le_refl _) _).drew
  have lx := hx3.lt
  clear hx3 HCLN
  go_upto_region 8 with (fail)
  go_cut [11] (fun v wx => ∃ (g : Nat) (B : Option Addr) (d : Nat), v = .pointer (some ⟨g, 0, none⟩) ∧ w3.heap.size ≤ g ∧ Bl wx g 26 #[.int .i64 q.id, .int .i64 q.vol, .int .i64 q.fr, .int .i64 q.tod, .slice B n d] ∧ wx.ownsRow w3.heap.size 39 5 (.slice B n d) n (flat encF fs) ∧ RowKit.Below w3.heap.size w3 wx)
  case first =>
    go_region_held3 (fun w' => w'.cell? ⟨w.heap.size, 0, none⟩ = some (.int .i64 q.id) ∧ w'.cell? ⟨w.heap.size, 1, none⟩ = some (.int .i64 q.vol) ∧ w'.cell? ⟨w.heap.size, 2, none⟩ = some (.int .i64 q.fr) ∧ w'.cell? ⟨w.heap.size, 3, none⟩ = some (.int .i64 q.tod) ∧ w'.cell? ⟨w.heap.size, 4, none⟩ = some (.slice A n c))
      (first
        | go_keep
        | exact ⟨(HX3.out.keep hb5.out).cell 0, (HX3.out.keep hb5.out).cell 1, (HX3.out.keep hb5.out).cell 2, (HX3.out.keep hb5.out).cell 3, (HX3.out.keep hb5.out).cell 4⟩
        | exact ⟨((HX3.out.keep hb5.out).alloc _).cell 0, ((HX3.out.keep hb5.out).alloc _).cell 1, ((HX3.out.keep hb5.out).alloc _).cell 2, ((HX3.out.keep hb5.out).alloc _).cell 3, ((HX3.out.keep hb5.out).alloc _).cell 4⟩)
      (first
        | (go_at_call 37; with_reducible (refine (HCL2.out _ ?_).mono ?_); with_reducible (exact HBN.out); rintro e w5 ⟨B5, d5, rfl, ho5', hb5', _⟩; have hb5 := Lib.hid hb5'; have ho5 := Lib.hid ho5'; clear hb5' ho5'; have l5 : w.heap.size < w5.heap.size := Nat.lt_of_lt_of_le lx hb5.out.size)
        | (go_at_call 37; with_reducible (refine (HCL2.out _ ?_).mono ?_); with_reducible (exact HBA.out); rintro e w5 ⟨B5, d5, rfl, ho5', hb5', hbx'⟩; have hb5 := Lib.hid hb5'; have ho5 := Lib.hid ho5'; clear hb5' ho5'; have l5 : w.heap.size < w5.heap.size := Nat.lt_of_lt_of_le lx hb5.out.size; have HZ5 := Lib.hid (((Bl.new w3 26 #[.int .i64 0, .int .i64 0, .int .i64 0, .int .i64 0, .slice none 0 0]).drew).keep hbx'); clear hbx'; have z0 : w5.cell? ⟨w3.heap.size, 0, none⟩ = some (.int .i64 0) := HZ5.out.c0; have zf0 : w5.frozen? ⟨w3.heap.size, 0, none⟩ = false := HZ5.out.free 0; have z1 : w5.cell? ⟨w3.heap.size, 1, none⟩ = some (.int .i64 0) := HZ5.out.c1; have zf1 : w5.frozen? ⟨w3.heap.size, 1, none⟩ = false := HZ5.out.free 1; have z2 : w5.cell? ⟨w3.heap.size, 2, none⟩ = some (.int .i64 0) := HZ5.out.c2; have zf2 : w5.frozen? ⟨w3.heap.size, 2, none⟩ = false := HZ5.out.free 2; have z3 : w5.cell? ⟨w3.heap.size, 3, none⟩ = some (.int .i64 0) := HZ5.out.c3; have zf3 : w5.frozen? ⟨w3.heap.size, 3, none⟩ = false := HZ5.out.free 3; have z4 : w5.cell? ⟨w3.heap.size, 4, none⟩ = some (.slice none 0 0) := HZ5.out.c4; have zf4 : w5.frozen? ⟨w3.heap.size, 4, none⟩ = false := HZ5.out.free 4; have ln : w.heap.size ≠ w3.heap.size := Nat.ne_of_lt lx; have ln2 : w3.heap.size ≠ w.heap.size := Nat.ne_of_gt lx))
    · go_wp2_with fail
      go_meet
      exact ⟨_, B5, d5, rfl, hb5.out.size, Bl.new _ _ _, own_alloc ho5.out _, hb5.out.alloc hb5.out.size _⟩
    · go_wp2_with fail
      go_meet
      exact ⟨_, B5, d5, rfl, Nat.le_refl _, set5_bl HZ5.out _ _ _ _ _, own5 ho5.out (fun g hg e => own_apart ho5.out HZ5.out (by decide) (by rw [hg, e])) _ _ _ _ _, put5 hb5.out (Nat.le_refl _) _ _ _ _ _⟩
  case rest =>
    obtain ⟨g, B, d, rfl, hg, hnx, hown, hb4⟩ := hcut
    have hB4 := hB3.trans (hb4.mono hB3.size)
    have hx4 := HX3.out.keep hb4
    have hf4 := hf3.keep hb4
    have hr4 := hr3.keep hb4
    have hfl := hf3.lt
    have hrl := hr3.lt
    have hnl := hnx.lt
    have hs3 := hB3.size
    clear p0 p1 p2 p3 p4 HX3 HCL2 HBN HBA hf3 hr3 hb4 lx

    obtain ⟨b, off, x, hA, hbl, e0, e1, e2, e3, e4, HX⟩ := HR.out.getF HJL.out
    obtain rfl : (⟨f.num, f.kind, f.day, f.id, y⟩ : Fct) = x := HJE.out.symm.trans HX.out
    subst hA
    have hJi : (J : Int) < n := by have := HJL.out; omega
    have x4 : wc.cell? ⟨w.heap.size, 4, none⟩ = some (.slice (some ⟨b, off, none⟩) n c) := hx4.cell 4
    have k0 : wc.cell? ⟨b, off + J * 5, none⟩ = some (.int .i64 f.num) := (hB4.cell (p := ⟨b, off + J * 5, none⟩) hbl).trans e0
    have k1 : wc.cell? ⟨b, off + J * 5 + 1, none⟩ = some (.int .i64 f.kind) := (hB4.cell (p := ⟨b, off + J * 5 + 1, none⟩) hbl).trans e1
    have k2 : wc.cell? ⟨b, off + J * 5 + 2, none⟩ = some (.int .i64 f.day) := (hB4.cell (p := ⟨b, off + J * 5 + 2, none⟩) hbl).trans e2
    have k3 : wc.cell? ⟨b, off + J * 5 + 3, none⟩ = some (.int .i64 f.id) := (hB4.cell (p := ⟨b, off + J * 5 + 3, none⟩) hbl).trans e3
    have k4 : wc.cell? ⟨b, off + J * 5 + 4, none⟩ = some (.int .i64 y) := (hB4.cell (p := ⟨b, off + J * 5 + 4, none⟩) hbl).trans e4
    have f0 : wc.cell? ⟨w.heap.size + 1, 0, none⟩ = some (.int .i64 f.num) := hf4.cell 0
    have f1 : wc.cell? ⟨w.heap.size + 1, 1, none⟩ = some (.int .i64 f.kind) := hf4.cell 1
    have f2 : wc.cell? ⟨w.heap.size + 1, 2, none⟩ = some (.int .i64 f.day) := hf4.cell 2
    have f3 : wc.cell? ⟨w.heap.size + 1, 3, none⟩ = some (.int .i64 f.id) := hf4.cell 3
    have f4 : wc.cell? ⟨w.heap.size + 1, 4, none⟩ = some (.int .i64 f.qty) := hf4.cell 4
    have hap := own_apart hown hr4 (by decide)
    have n0 : wc.cell? ⟨g, 0, none⟩ = some (.int .i64 q.id) := hnx.c0
    have n1 : wc.cell? ⟨g, 1, none⟩ = some (.int .i64 q.vol) := hnx.c1
    have n2 : wc.cell? ⟨g, 2, none⟩ = some (.int .i64 q.fr) := hnx.c2
    have n3 : wc.cell? ⟨g, 3, none⟩ = some (.int .i64 q.tod) := hnx.c3
    have n4 : wc.cell? ⟨g, 4, none⟩ = some (.slice B n d) := hnx.c4
    have r0 : wc.cell? ⟨w.heap.size + 1 + 1, 0, none⟩ = some (.int .i64 0) := hr4.c0
    have r1 : wc.cell? ⟨w.heap.size + 1 + 1, 1, none⟩ = some (.int .i64 0) := hr4.c1
    have r2 : wc.cell? ⟨w.heap.size + 1 + 1, 2, none⟩ = some (.int .i64 0) := hr4.c2
    have r3 : wc.cell? ⟨w.heap.size + 1 + 1, 3, none⟩ = some (.int .i64 0) := hr4.c3
    have r4 : wc.cell? ⟨w.heap.size + 1 + 1, 4, none⟩ = some (.slice none 0 0) := hr4.c4
    have rf0 : wc.frozen? ⟨w.heap.size + 1 + 1, 0, none⟩ = false := hr4.free 0
    have rf1 : wc.frozen? ⟨w.heap.size + 1 + 1, 1, none⟩ = false := hr4.free 1
    have rf2 : wc.frozen? ⟨w.heap.size + 1 + 1, 2, none⟩ = false := hr4.free 2
    have rf3 : wc.frozen? ⟨w.heap.size + 1 + 1, 3, none⟩ = false := hr4.free 3
    have rf4 : wc.frozen? ⟨w.heap.size + 1 + 1, 4, none⟩ = false := hr4.free 4
    clear e0 e1 e2 e3 e4
    go_upto_region 9 with (fail)
    go_quiet (fail)
    go_wp2
    refine bodyPost_ret (v := .tuple #[.agg #[.int .i64 0, .int .i64 0, .int .i64 0, .int .i64 0, .slice none 0 0], .slice none 0 0, .int .i64 14]) (by simp [results, Try.results17, go_sem, r0, r1, r2, r3, r4]) rfl ?_
    exact ⟨rfl, put5 (below_drewN hB4 nq) (by omega) _ _ _ _ _⟩

end Go.Proofs.Ytemhiifgplaldaa

namespace Go.Proofs.Ytemhiifgplaldaa
open Go.RowKit
set_option linter.unusedVariables false

theorem fErr_qty {q : Qt} {x : Fct} (h : fErr q x = 0) {y : Int} (h0 : 0 ≤ y) (h1 : y ≤ 1000000000) : fErr q ⟨x.num, x.kind, x.day, x.id, y⟩ = 0 := by
  unfold fErr at h ⊢
  simp only at h ⊢
  split at h
  · omega
  rename_i c1
  rw [if_neg (by omega)]
  exact h
theorem put4_bl {w : World} {g : Nat} {T : TypeId} {z0 z1 z2 z3 z4 : Value} (h : Bl w g T #[z0, z1, z2, z3, z4]) (v : Value) : Bl (w.setCell ⟨g, 4, none⟩ v) g T #[z0, z1, z2, z3, v] := by have := h.put 4 v; simpa using this

set_option maxRecDepth 100000 in
set_option maxHeartbeats 8000000 in
theorem bookRepeat_any (A : Option Addr) (n c : Nat) (xs : List Int) (at_ more : Int) (w : World) (h : Ints w A n xs) (hnc : n ≤ c) (hcm : c ≤ 9223372036854775807) :
    Calls Try.prog 4 #[.slice A n c, .int .i64 at_, .int .i64 more] w (BRes w true) := by
  have HAW := Lib.hid awake22_any
  have HQF := Lib.hid (quotaFacts_any A n c xs w h hnc hcm)
  clear h hnc hcm
  go_enter Try.func4, Try.ntmps4
  go_wp2_with fail
  refine HQF.out.mono ?_
  rintro e w1 ⟨q, l, B1, n1, d1, rfl, hqf, hl1, ho1, hb1⟩
  have HF := Lib.hid hqf
  have HL := Lib.hid hl1
  have hn24 : n1 ≤ 24 := by have := hqf.len; omega
  have hx1 := Bl.new w1 23 #[.int .i64 q.id, .int .i64 q.vol, .int .i64 q.fr, .int .i64 q.tod]
  have hB1 : RowKit.Below w.heap.size w (w1.alloc (.cells #[.int .i64 q.id, .int .i64 q.vol, .int .i64 q.fr, .int .i64 q.tod] 23)) := hb1.alloc hb1.size _
  have hr1 := (Recs.of_own encF_len ho1 hl1).alloc (.cells #[.int .i64 q.id, .int .i64 q.vol, .int .i64 q.fr, .int .i64 q.tod] 23)
  have hqv := qOk_yes hqf.qok
  obtain ⟨qv1, qv2, qv3, qv4, qv5, qv6, qv7⟩ := hqv
  clear hqf hl1 ho1 hb1 HQF
  go_upto_region 2 with (fail)
  generalize w1.alloc (.cells #[.int .i64 q.id, .int .i64 q.vol, .int .i64 q.fr, .int .i64 q.tod] 23) = W1 at *
  generalize w1.heap.size = g3 at *
  have HR1 := Lib.hid hr1
  have HLA := Lib.hid (lapply_any q B1 n1 d1 l W1 hr1 (by omega) HF.out.qok (fun x hx => (HF.out.each x hx).1) HF.out.nodup)
  clear hr1
  have p0 : W1.cell? ⟨g3, 0, none⟩ = some (.int .i64 q.id) := hx1.cell 0
  have p1 : W1.cell? ⟨g3, 1, none⟩ = some (.int .i64 q.vol) := hx1.cell 1
  have p2 : W1.cell? ⟨g3, 2, none⟩ = some (.int .i64 q.fr) := hx1.cell 2
  have p3 : W1.cell? ⟨g3, 3, none⟩ = some (.int .i64 q.tod) := hx1.cell 3
  go_wp2_with fail
  refine HLA.out.mono ?_
  rintro e w2 ⟨fs, B2, d2, rfl, hbo, hpm, hfr, hb2⟩
  have HBO := Lib.hid hbo
  have HPM := Lib.hid hpm
  have hx2 := (hx1.keep hb2).alloc (.cells #[.int .i64 q.id, .int .i64 q.vol, .int .i64 q.fr, .int .i64 q.tod, .slice B2 n1 d2] 26)
  have hy2 := Bl.new w2 26 #[.int .i64 q.id, .int .i64 q.vol, .int .i64 q.fr, .int .i64 q.tod, .slice B2 n1 d2]
  have hB2 : RowKit.Below w.heap.size w (w2.alloc (.cells #[.int .i64 q.id, .int .i64 q.vol, .int .i64 q.fr, .int .i64 q.tod, .slice B2 n1 d2] 26)) := (hB1.trans (hb2.mono hB1.size)).alloc (Nat.le_trans hB1.size hb2.size) _
  have HFR := Lib.hid (hfr.below ((Below.refl _ _).alloc (Nat.le_refl _) (.cells #[.int .i64 q.id, .int .i64 q.vol, .int .i64 q.fr, .int .i64 q.tod, .slice B2 n1 d2] 26)))
  have HR2 := Lib.hid ((HR1.out.below hb2).alloc (.cells #[.int .i64 q.id, .int .i64 q.vol, .int .i64 q.fr, .int .i64 q.tod, .slice B2 n1 d2] 26))
  clear p0 p1 p2 p3 hx1 hB1 hb2 hbo hpm hfr HLA HR1
  go_upto_region 3 with (fail)
  generalize w2.alloc (.cells #[.int .i64 q.id, .int .i64 q.vol, .int .i64 q.fr, .int .i64 q.tod, .slice B2 n1 d2] 26) = W2 at *
  generalize w2.heap.size = g5 at *
  rcases Nat.eq_zero_or_pos n1 with h0 | h0
  · have hn0 : ((n1 : Int) == 0) = true := by simp; omega
    go_wp2_with fail
    refine (HAW.out _).mono ?_
    rintro e w5 ⟨rfl, hb5⟩
    go_wp2
    go_ret
    exact ⟨rfl, hB2.trans (hb5.mono hB2.size)⟩
  · have hn0 : ((n1 : Int) == 0) = false := by simp; omega
    have HW := Lib.hid (fun w => within_any at_ n1 w (by omega) (by omega))
    have HW2 := Lib.hid (fun w => within_any more 100 w (by omega) (by omega))
    have hv0 := Int.emod_nonneg at_ (show (n1 : Int) ≠ 0 by omega)
    have hv1 := Int.emod_lt_of_pos at_ (show (0 : Int) < n1 by omega)
    have hm0 := Int.emod_nonneg more (show (100 : Int) ≠ 0 by omega)
    have hm1 := Int.emod_lt_of_pos more (show (0 : Int) < 100 by omega)
    generalize more % 100 = mv at *
    obtain ⟨J, hJ⟩ : ∃ J : Nat, at_ % (n1 : Int) = J := ⟨(at_ % (n1 : Int)).toNat, by omega⟩
    rw [hJ] at HW hv0 hv1
    clear hJ
    have hJn : J < n1 := by omega
    obtain ⟨b, off, x, hA, hbl, e0, e1, e2, e3, e4, HX⟩ := HR2.out.getF hJn
    subst hA
    have hxm : x ∈ l := by have := HX.out; rw [← this]; exact mem_getF (by have := HL.out; omega)
    have HXM : Hid (x ∈ fs) := HPM.out.mem_iff.2 hxm
    have HXE := Lib.hid (HF.out.each x hxm)
    have xq0 : 0 ≤ x.qty := by have := (fErr_zero HXE.out.1).1; unfold FOk at this; omega
    have xq1 : x.qty < 40 := HXE.out.2.2.2
    have HAS := Lib.hid (fun wx (hb : RowKit.Below W2.heap.size W2 wx) => apply_same q B2 n1 d2 fs x wx (HFR.out.below hb) HBO.out HXE.out.1 HXM.out)
    have HAO := Lib.hid (fun wx (hb : RowKit.Below W2.heap.size W2 wx) => apply_other q B2 n1 d2 fs ⟨x.num, x.kind, x.day, x.id, x.qty + 1 + mv⟩ wx (HFR.out.below hb) HBO.out (fErr_qty HXE.out.1 (by omega) (by omega)) x.qty (by show x.qty ≠ x.qty + 1 + mv; omega) HXM.out)
    clear hxm hv0 hv1
    go_wp2_with fail
    refine (HW.out _).mono ?_
    rintro e w' ⟨rfl, rfl⟩
    have hx3 := Bl.new W2 39 #[.int .i64 x.num, .int .i64 x.kind, .int .i64 x.day, .int .i64 x.id, .int .i64 x.qty]
    have hy3 := hy2.alloc (.cells #[.int .i64 x.num, .int .i64 x.kind, .int .i64 x.day, .int .i64 x.id, .int .i64 x.qty] 39)
    have hb3 : RowKit.Below W2.heap.size W2 (W2.alloc (.cells #[.int .i64 x.num, .int .i64 x.kind, .int .i64 x.day, .int .i64 x.id, .int .i64 x.qty] 39)) := (Below.refl _ _).alloc (Nat.le_refl _) _
    go_upto_region 6 with (fail)
    generalize W2.alloc (.cells #[.int .i64 x.num, .int .i64 x.kind, .int .i64 x.day, .int .i64 x.id, .int .i64 x.qty] 39) = W3 at *
    have hgW : W2.heap.size < W3.heap.size := hx3.lt
    generalize hgg : W2.heap.size = g11 at *
    have k0 : W3.cell? ⟨g11, 0, none⟩ = some (.int .i64 x.num) := hx3.c0
    have k1 : W3.cell? ⟨g11, 1, none⟩ = some (.int .i64 x.kind) := hx3.c1
    have k2 : W3.cell? ⟨g11, 2, none⟩ = some (.int .i64 x.day) := hx3.c2
    have k3 : W3.cell? ⟨g11, 3, none⟩ = some (.int .i64 x.id) := hx3.c3
    have k4 : W3.cell? ⟨g11, 4, none⟩ = some (.int .i64 x.qty) := hx3.c4
    have y0 : W3.cell? ⟨g5, 0, none⟩ = some (.int .i64 q.id) := hy3.c0
    have y1 : W3.cell? ⟨g5, 1, none⟩ = some (.int .i64 q.vol) := hy3.c1
    have y2 : W3.cell? ⟨g5, 2, none⟩ = some (.int .i64 q.fr) := hy3.c2
    have y3 : W3.cell? ⟨g5, 3, none⟩ = some (.int .i64 q.tod) := hy3.c3
    have y4 : W3.cell? ⟨g5, 4, none⟩ = some (.slice B2 n1 d2) := hy3.c4
    go_wp2_with fail
    refine (HAS.out _ hb3).mono ?_
    rintro e w4 ⟨B4, d4, rfl, ho4, hb4⟩
    have hx4 := (hx3.keep hb4).alloc (.cells #[.int .i64 q.id, .int .i64 q.vol, .int .i64 q.fr, .int .i64 q.tod, .slice B4 n1 d4] 26)
    have hy4 := (hy3.keep hb4).alloc (.cells #[.int .i64 q.id, .int .i64 q.vol, .int .i64 q.fr, .int .i64 q.tod, .slice B4 n1 d4] 26)
    have hz4 := Bl.new w4 26 #[.int .i64 q.id, .int .i64 q.vol, .int .i64 q.fr, .int .i64 q.tod, .slice B4 n1 d4]
    have hb5 : RowKit.Below g11 W2 (w4.alloc (.cells #[.int .i64 q.id, .int .i64 q.vol, .int .i64 q.fr, .int .i64 q.tod, .slice B4 n1 d4] 26)) := (hb3.trans (hb4.mono (by omega))).alloc (by have := hb4.size; omega) _
    have HR4 := Lib.hid ((Recs.of_own encF_len ho4 HFR.out.recs.1).alloc (.cells #[.int .i64 q.id, .int .i64 q.vol, .int .i64 q.fr, .int .i64 q.tod, .slice B4 n1 d4] 26))
    have HOB := Lib.hid (fun j hj => own_base ho4 j hj)
    have hw4 := hb4.size
    clear k0 k1 k2 k3 k4 y0 y1 y2 y3 y4 hx3 hy3 hb4 ho4 e0 e1 e2 e3 e4
    go_upto_region 7 with (fail)
    have hg12 : g11 < w4.heap.size := by omega
    generalize w4.alloc (.cells #[.int .i64 q.id, .int .i64 q.vol, .int .i64 q.fr, .int .i64 q.tod, .slice B4 n1 d4] 26) = W5 at *
    generalize w4.heap.size = g12 at *
    have k4 : W5.cell? ⟨g11, 4, none⟩ = some (.int .i64 x.qty) := hx4.c4
    have kf4 : W5.frozen? ⟨g11, 4, none⟩ = false := hx4.free 4
    have u1 : IntKind.i64.wrap (x.qty + 1) = x.qty + 1 := IntWalk.i64_in _ (by omega)
    have u2 : IntKind.i64.wrap (x.qty + 1 + mv) = x.qty + 1 + mv := IntWalk.i64_in _ (by omega)
    go_cut [] (fun wx => ∃ nd, wx = (W5.drewN nd).setCell ⟨g11, 4, none⟩ (.int .i64 (x.qty + 1 + mv)))
    case first =>
      go_region_with (go_at_call 16; refine (HW2.out _).mono ?_; rintro e w8 ⟨rfl, rfl⟩)
      all_goals (go_wp2_with fail; go_meet; exact ⟨1, rfl⟩)
    case rest =>
      obtain ⟨nd, rfl⟩ := hcut
      have hx6 : Bl ((W5.drewN nd).setCell ⟨g11, 4, none⟩ (.int .i64 (x.qty + 1 + mv))) g11 39 #[.int .i64 x.num, .int .i64 x.kind, .int .i64 x.day, .int .i64 x.id, .int .i64 (x.qty + 1 + mv)] := put4_bl (hx4.drewN nd) _
      have hgl : g5 < g11 := by have := hy2.lt; omega
      have hy6 := (hy4.drewN nd).far (p := ⟨g11, 4, none⟩) (by show g5 ≠ g11; omega) (.int .i64 (x.qty + 1 + mv))
      have hz6 := (hz4.drewN nd).far (p := ⟨g11, 4, none⟩) (by show g12 ≠ g11; omega) (.int .i64 (x.qty + 1 + mv))
      have hb6 : RowKit.Below g11 W2 ((W5.drewN nd).setCell ⟨g11, 4, none⟩ (.int .i64 (x.qty + 1 + mv))) := (below_drewN hb5 nd).setCell (p := ⟨g11, 4, none⟩) (Nat.le_refl _) _
      have HR6 : Hid (Recs encF 5 ((W5.drewN nd).setCell ⟨g11, 4, none⟩ (.int .i64 (x.qty + 1 + mv))) B4 n1 fs) := by
        refine ⟨HR4.out.1, fun h1 => ?_⟩
        obtain ⟨b1, off1, e1, hb1, hc1⟩ := HR4.out.2 h1
        have hne : b1 ≠ g11 := by have := HOB.out b1 (by rw [e1]; rfl); omega
        refine ⟨b1, off1, e1, by simpa [World.setCell] using hb1, fun i hi cc hcc => ?_⟩
        rw [← hc1 i hi cc hcc]
        exact World.cell?_of_block (a := ⟨b1, off1 + i * 5 + cc, none⟩) (Below.heap_setCell (W5.drewN nd) ⟨g11, 4, none⟩ _ b1 hne)
      clear hx4 hy4 hz4 hb5 HR4 u1 u2 k4 kf4
      generalize (W5.drewN nd).setCell ⟨g11, 4, none⟩ (.int .i64 (x.qty + 1 + mv)) = W6 at *
      have k0 : W6.cell? ⟨g11, 0, none⟩ = some (.int .i64 x.num) := hx6.c0
      have k1 : W6.cell? ⟨g11, 1, none⟩ = some (.int .i64 x.kind) := hx6.c1
      have k2 : W6.cell? ⟨g11, 2, none⟩ = some (.int .i64 x.day) := hx6.c2
      have k3 : W6.cell? ⟨g11, 3, none⟩ = some (.int .i64 x.id) := hx6.c3
      have k4 : W6.cell? ⟨g11, 4, none⟩ = some (.int .i64 (x.qty + 1 + mv)) := hx6.c4
      have y0 : W6.cell? ⟨g5, 0, none⟩ = some (.int .i64 q.id) := hy6.c0
      have y1 : W6.cell? ⟨g5, 1, none⟩ = some (.int .i64 q.vol) := hy6.c1
      have y2 : W6.cell? ⟨g5, 2, none⟩ = some (.int .i64 q.fr) := hy6.c2
      have y3 : W6.cell? ⟨g5, 3, none⟩ = some (.int .i64 q.tod) := hy6.c3
      have y4 : W6.cell? ⟨g5, 4, none⟩ = some (.slice B2 n1 d2) := hy6.c4
      go_wp2_with fail
      refine (HAO.out _ hb6).mono ?_
      rintro e w7 ⟨rfl, hb7⟩
      have hy7 := (hy6.keep hb7).alloc (.cells #[.int .i64 0, .int .i64 0, .int .i64 0, .int .i64 0, .slice none 0 0] 26)
      have hz7 := (hz6.keep hb7).alloc (.cells #[.int .i64 0, .int .i64 0, .int .i64 0, .int .i64 0, .slice none 0 0] 26)
      have hb8 : RowKit.Below g11 W2 (w7.alloc (.cells #[.int .i64 0, .int .i64 0, .int .i64 0, .int .i64 0, .slice none 0 0] 26)) := (hb6.trans (hb7.mono (Nat.le_of_lt hx6.lt))).alloc (by have := hb7.size; have := hx6.lt; omega) _
      have HR8 := Lib.hid ((HR6.out.below hb7).alloc (.cells #[.int .i64 0, .int .i64 0, .int .i64 0, .int .i64 0, .slice none 0 0] 26))
      clear k0 k1 k2 k3 k4 y0 y1 y2 y3 y4 hx6 hy6 hz6 HR6
      go_upto_region 9 with (fail)
      generalize w7.alloc (.cells #[.int .i64 0, .int .i64 0, .int .i64 0, .int .i64 0, .slice none 0 0] 26) = W8 at *
      have HSB := Lib.hid (sameBook_true q B2 B4 n1 d2 d4 fs W8 (by have := HFR.out.recs.below (w' := W8); rw [hgg] at this; exact this hb8) HR8.out (by omega))
      have y0 : W8.cell? ⟨g5, 0, none⟩ = some (.int .i64 q.id) := hy7.c0
      have y1 : W8.cell? ⟨g5, 1, none⟩ = some (.int .i64 q.vol) := hy7.c1
      have y2 : W8.cell? ⟨g5, 2, none⟩ = some (.int .i64 q.fr) := hy7.c2
      have y3 : W8.cell? ⟨g5, 3, none⟩ = some (.int .i64 q.tod) := hy7.c3
      have y4 : W8.cell? ⟨g5, 4, none⟩ = some (.slice B2 n1 d2) := hy7.c4
      have z0 : W8.cell? ⟨g12, 0, none⟩ = some (.int .i64 q.id) := hz7.c0
      have z1 : W8.cell? ⟨g12, 1, none⟩ = some (.int .i64 q.vol) := hz7.c1
      have z2 : W8.cell? ⟨g12, 2, none⟩ = some (.int .i64 q.fr) := hz7.c2
      have z3 : W8.cell? ⟨g12, 3, none⟩ = some (.int .i64 q.tod) := hz7.c3
      have z4 : W8.cell? ⟨g12, 4, none⟩ = some (.slice B4 n1 d4) := hz7.c4
      go_wp2_with fail
      refine HSB.out.mono ?_
      rintro e w9 ⟨rfl, hb9⟩
      go_wp2_with fail
      refine (HAW.out _).mono ?_
      rintro e w10 ⟨rfl, hb10⟩
      have hB8 : RowKit.Below w.heap.size w W8 := hB2.trans (hb8.mono (by have := hB2.size; omega))
      have hB9 := hB8.trans (hb9.mono hB8.size)
      go_wp2
      go_ret
      exact ⟨rfl, hB9.trans (hb10.mono hB9.size)⟩
end Go.Proofs.Ytemhiifgplaldaa

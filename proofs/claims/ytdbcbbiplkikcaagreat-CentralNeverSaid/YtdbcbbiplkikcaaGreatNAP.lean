/-
  The contract of quotabook.Apply at a known fact, and at another fact with a known number. No statement of the seat is proved here. Conditions: as typed.
  quotabook.Apply at a number that is known with another content: the error of a conflict. No statement of the seat is proved here.
  quotabook.Apply at a fact that is not valid: its error. No statement of the seat is proved here.
  The contract of quotabook.Apply at any fact whose book is valid and has less than 200 facts. No statement of the seat is proved here. No conditions.
-/
import Derived.Test.YtdbcbbiplkikcaaGreatNAK
import Derived.Deep.Onto
namespace Go.Proofs.YtdbcbbiplkikcaaGreat
open Go.RowKit
set_option linter.unusedVariables false

set_option maxRecDepth 100000 in
set_option maxHeartbeats 8000000 in
theorem apply_same (q : Qt) (A : Option Addr) (n c : Nat) (fs : List Fct) (f : Fct) (w : World) (h : FRd w A n c fs) (hok : BOk q fs) (hf : fErr q f = 0) (hin : f ∈ fs) :
    Calls Tryz.prog 76 #[.agg #[.int .i64 q.id, .int .i64 q.vol, .int .i64 q.fr, .int .i64 q.tod, .slice A n c], .agg #[.int .i64 f.num, .int .i64 f.kind, .int .i64 f.day, .int .i64 f.id, .int .i64 f.qty]] w (ApSame w q n fs) := by
  have HOK := Lib.hid hok
  have HP := Lib.hid h.plain
  have HN0 := Lib.hid h.nil
  have HLN := Lib.hid h.recs.1
  have hn200 : n ≤ 200 := by have := hok.len; have := h.recs.1; omega
  have HV := Lib.hid (fun w' (hb : RowKit.Below w.heap.size w w') => bvalidate_any q A n c fs w' (h.recs.below hb) (by omega))
  have HVF := Lib.hid (fun w => validateFact_any q f w)
  rw [hok.err] at HV
  rw [hf] at HVF
  have HBS := Lib.hid (fun w' (hb : RowKit.Below w.heap.size w w') => bsearch_any A n c fs f.num w' (h.recs.below hb) (by omega) hok.asc)
  have HCLN := Lib.hid (fun w' (hb : RowKit.Below w.heap.size w w') => cloneF_any A n c fs w' (h.recs.below hb) h.plain (by omega) h.nil)
  have HR := Lib.hid h.recs
  clear h hok
  obtain ⟨W0, hW0⟩ : ∃ W, W = ((w.alloc (.cells #[.int .i64 q.id, .int .i64 q.vol, .int .i64 q.fr, .int .i64 q.tod, .slice A n c] 54)).alloc (.cells #[.int .i64 f.num, .int .i64 f.kind, .int .i64 f.day, .int .i64 f.id, .int .i64 f.qty] 122)).alloc (.cells #[.int .i64 0, .int .i64 0, .int .i64 0, .int .i64 0, .slice none 0 0] 54) := ⟨_, rfl⟩
  have hb0 : RowKit.Below w.heap.size w W0 := by rw [hW0]; exact (((Below.refl _ _).alloc (Nat.le_refl _) _).alloc (by simp) _).alloc (by simp; omega) _
  have hx0 : Bl W0 w.heap.size 54 #[.int .i64 q.id, .int .i64 q.vol, .int .i64 q.fr, .int .i64 q.tod, .slice A n c] := by rw [hW0]; exact ((Bl.new w _ _).alloc _).alloc _
  have hf0 : Bl W0 (w.heap.size + 1) 122 #[.int .i64 f.num, .int .i64 f.kind, .int .i64 f.day, .int .i64 f.id, .int .i64 f.qty] := by rw [hW0]; have := (Bl.new (w.alloc (.cells #[.int .i64 q.id, .int .i64 q.vol, .int .i64 q.fr, .int .i64 q.tod, .slice A n c] 54)) 122 #[.int .i64 f.num, .int .i64 f.kind, .int .i64 f.day, .int .i64 f.id, .int .i64 f.qty]).alloc (.cells #[.int .i64 0, .int .i64 0, .int .i64 0, .int .i64 0, .slice none 0 0] 54); simpa using this
  have hr0 : Bl W0 (w.heap.size + 1 + 1) 54 #[.int .i64 0, .int .i64 0, .int .i64 0, .int .i64 0, .slice none 0 0] := by rw [hW0]; have := Bl.new ((w.alloc (.cells #[.int .i64 q.id, .int .i64 q.vol, .int .i64 q.fr, .int .i64 q.tod, .slice A n c] 54)).alloc (.cells #[.int .i64 f.num, .int .i64 f.kind, .int .i64 f.day, .int .i64 f.id, .int .i64 f.qty] 122)) 54 #[.int .i64 0, .int .i64 0, .int .i64 0, .int .i64 0, .slice none 0 0]; simpa using this
  go_enter Tryz.func76, Tryz.ntmps76
  go_upto_region 1 with (fail)
  rw [← hW0]
  clear hW0
  have p0 : W0.cell? ⟨w.heap.size, 0, none⟩ = some (.int .i64 q.id) := hx0.cell 0
  have p1 : W0.cell? ⟨w.heap.size, 1, none⟩ = some (.int .i64 q.vol) := hx0.cell 1
  have p2 : W0.cell? ⟨w.heap.size, 2, none⟩ = some (.int .i64 q.fr) := hx0.cell 2
  have p3 : W0.cell? ⟨w.heap.size, 3, none⟩ = some (.int .i64 q.tod) := hx0.cell 3
  have p4 : W0.cell? ⟨w.heap.size, 4, none⟩ = some (.slice A n c) := hx0.cell 4
  go_wp2_with fail
  refine (HV.out _ hb0).mono ?_
  rintro e w1 ⟨rfl, hb1⟩
  have hB1 := hb0.trans (hb1.mono hb0.size)
  have hx1 := hx0.keep hb1
  have hf1 := hf0.keep hb1
  have hr1 := hr0.keep hb1
  clear p0 p1 p2 p3 p4 hx0 hf0 hr0 hb0 hb1 HV
  have p0 : w1.cell? ⟨w.heap.size, 0, none⟩ = some (.int .i64 q.id) := hx1.cell 0
  have p1 : w1.cell? ⟨w.heap.size, 1, none⟩ = some (.int .i64 q.vol) := hx1.cell 1
  have p2 : w1.cell? ⟨w.heap.size, 2, none⟩ = some (.int .i64 q.fr) := hx1.cell 2
  have p3 : w1.cell? ⟨w.heap.size, 3, none⟩ = some (.int .i64 q.tod) := hx1.cell 3
  have p4 : w1.cell? ⟨w.heap.size, 4, none⟩ = some (.slice A n c) := hx1.cell 4
  have f0 : w1.cell? ⟨w.heap.size + 1, 0, none⟩ = some (.int .i64 f.num) := hf1.cell 0
  have f1 : w1.cell? ⟨w.heap.size + 1, 1, none⟩ = some (.int .i64 f.kind) := hf1.cell 1
  have f2 : w1.cell? ⟨w.heap.size + 1, 2, none⟩ = some (.int .i64 f.day) := hf1.cell 2
  have f3 : w1.cell? ⟨w.heap.size + 1, 3, none⟩ = some (.int .i64 f.id) := hf1.cell 3
  have f4 : w1.cell? ⟨w.heap.size + 1, 4, none⟩ = some (.int .i64 f.qty) := hf1.cell 4
  go_wp2_with fail
  refine (HVF.out _).mono ?_
  rintro e w2 ⟨rfl, hb2⟩
  have hB2 := hB1.trans (hb2.mono hB1.size)
  have hx2 := hx1.keep hb2
  have hf2 := hf1.keep hb2
  have hr2 := hr1.keep hb2
  clear p0 p1 p2 p3 p4 f0 f1 f2 f3 f4 hx1 hf1 hr1 hB1 hb2 HVF
  have p4 : w2.cell? ⟨w.heap.size, 4, none⟩ = some (.slice A n c) := hx2.cell 4
  have f0 : w2.cell? ⟨w.heap.size + 1, 0, none⟩ = some (.int .i64 f.num) := hf2.cell 0
  go_wp2_with fail
  refine (HBS.out _ hB2).mono ?_
  rintro e w3 ⟨I, fb, rfl, hI, hI1, hI2, hfb, hb3⟩
  have hB3 := hB2.trans (hb3.mono hB2.size)
  have hx3 := hx2.keep hb3
  have hf3 := hf2.keep hb3
  have hr3 := hr2.keep hb3
  have HI1 := Lib.hid hI1
  have HI2 := Lib.hid hI2
  have HFB := Lib.hid hfb
  clear p4 f0 hx2 hf2 hr2 hB2 hb3 HBS hI1 hI2 hfb
  obtain ⟨J, hJ, hJe⟩ := get_memF hin
  have hJn : fs[J]!.num = f.num := by rw [hJe]
  obtain rfl : J = I := by
    rcases Nat.lt_trichotomy J I with h1 | h1 | h1
    · have := HI1.out J h1; omega
    · exact h1
    · have h2 := HI2.out I (Nat.le_refl _) (by omega)
      have h3 := num_lt HOK.out.asc h1 hJ
      omega
  obtain rfl : fb = true := HFB.out.2 ⟨hJ, hJn⟩
  have HJL : Hid (J < n) := by have := HLN.out; show _ < _; omega
  have HJE := Lib.hid hJe
  clear hin hf HI1 HI2 HFB hI hJ hJe hJn
  have p0 : w3.cell? ⟨w.heap.size, 0, none⟩ = some (.int .i64 q.id) := hx3.cell 0
  have p1 : w3.cell? ⟨w.heap.size, 1, none⟩ = some (.int .i64 q.vol) := hx3.cell 1
  have p2 : w3.cell? ⟨w.heap.size, 2, none⟩ = some (.int .i64 q.fr) := hx3.cell 2
  have p3 : w3.cell? ⟨w.heap.size, 3, none⟩ = some (.int .i64 q.tod) := hx3.cell 3
  have p4 : w3.cell? ⟨w.heap.size, 4, none⟩ = some (.slice A n c) := hx3.cell 4
  have HX3 := Lib.hid hx3
  have HCL2 : Hid (∀ wx, RowKit.Below w3.heap.size w3 wx → Calls Tryz.prog 48 #[.slice A n c] wx fun e w' => ∃ (B : Option Addr) (d : Nat), e = .returned (.slice B n d) ∧ w'.ownsRow w3.heap.size 122 5 (.slice B n d) n (flat encF fs) ∧ RowKit.Below w3.heap.size w3 w' ∧ RowKit.Below wx.heap.size wx w') := fun wx hb => (HCLN.out wx (hB3.trans (hb.mono hB3.size))).mono fun e w' ⟨B, d, h1, h2, h3⟩ => ⟨B, d, h1, own_mono h2 hb.size, hb.trans (h3.mono hb.size), h3⟩
  have HBN : Hid (RowKit.Below w3.heap.size w3 w3.drew) := (Below.refl _ _).drew
  have HBA : Hid (RowKit.Below w3.heap.size w3 (w3.alloc (.cells #[.int .i64 0, .int .i64 0, .int .i64 0, .int .i64 0, .slice none 0 0] 54)).drew) := ((Below.refl _ _).alloc (Nat.le_refl _) _).drew
  have lx := hx3.lt
  clear hx3 HCLN
  go_upto_region 8 with (fail)
  go_cut [11] (fun v wx => ∃ (g : Nat) (B : Option Addr) (d : Nat), v = .pointer (some ⟨g, 0, none⟩) ∧ w3.heap.size ≤ g ∧ Bl wx g 54 #[.int .i64 q.id, .int .i64 q.vol, .int .i64 q.fr, .int .i64 q.tod, .slice B n d] ∧ wx.ownsRow w3.heap.size 122 5 (.slice B n d) n (flat encF fs) ∧ RowKit.Below w3.heap.size w3 wx)
  case first =>
    go_region_held3 (fun w' => w'.cell? ⟨w.heap.size, 0, none⟩ = some (.int .i64 q.id) ∧ w'.cell? ⟨w.heap.size, 1, none⟩ = some (.int .i64 q.vol) ∧ w'.cell? ⟨w.heap.size, 2, none⟩ = some (.int .i64 q.fr) ∧ w'.cell? ⟨w.heap.size, 3, none⟩ = some (.int .i64 q.tod) ∧ w'.cell? ⟨w.heap.size, 4, none⟩ = some (.slice A n c))
      (first
        | go_keep
        | exact ⟨(HX3.out.keep hb5.out).cell 0, (HX3.out.keep hb5.out).cell 1, (HX3.out.keep hb5.out).cell 2, (HX3.out.keep hb5.out).cell 3, (HX3.out.keep hb5.out).cell 4⟩
        | exact ⟨((HX3.out.keep hb5.out).alloc _).cell 0, ((HX3.out.keep hb5.out).alloc _).cell 1, ((HX3.out.keep hb5.out).alloc _).cell 2, ((HX3.out.keep hb5.out).alloc _).cell 3, ((HX3.out.keep hb5.out).alloc _).cell 4⟩)
      (first
        | (go_at_call 48; with_reducible (refine (HCL2.out _ ?_).mono ?_); with_reducible (exact HBN.out); rintro e w5 ⟨B5, d5, rfl, ho5', hb5', _⟩; have hb5 := Lib.hid hb5'; have ho5 := Lib.hid ho5'; clear hb5' ho5'; have l5 : w.heap.size < w5.heap.size := Nat.lt_of_lt_of_le lx hb5.out.size)
        | (go_at_call 48; with_reducible (refine (HCL2.out _ ?_).mono ?_); with_reducible (exact HBA.out); rintro e w5 ⟨B5, d5, rfl, ho5', hb5', hbx'⟩; have hb5 := Lib.hid hb5'; have ho5 := Lib.hid ho5'; clear hb5' ho5'; have l5 : w.heap.size < w5.heap.size := Nat.lt_of_lt_of_le lx hb5.out.size; have HZ5 := Lib.hid (((Bl.new w3 54 #[.int .i64 0, .int .i64 0, .int .i64 0, .int .i64 0, .slice none 0 0]).drew).keep hbx'); clear hbx'; have z0 : w5.cell? ⟨w3.heap.size, 0, none⟩ = some (.int .i64 0) := HZ5.out.c0; have zf0 : w5.frozen? ⟨w3.heap.size, 0, none⟩ = false := HZ5.out.free 0; have z1 : w5.cell? ⟨w3.heap.size, 1, none⟩ = some (.int .i64 0) := HZ5.out.c1; have zf1 : w5.frozen? ⟨w3.heap.size, 1, none⟩ = false := HZ5.out.free 1; have z2 : w5.cell? ⟨w3.heap.size, 2, none⟩ = some (.int .i64 0) := HZ5.out.c2; have zf2 : w5.frozen? ⟨w3.heap.size, 2, none⟩ = false := HZ5.out.free 2; have z3 : w5.cell? ⟨w3.heap.size, 3, none⟩ = some (.int .i64 0) := HZ5.out.c3; have zf3 : w5.frozen? ⟨w3.heap.size, 3, none⟩ = false := HZ5.out.free 3; have z4 : w5.cell? ⟨w3.heap.size, 4, none⟩ = some (.slice none 0 0) := HZ5.out.c4; have zf4 : w5.frozen? ⟨w3.heap.size, 4, none⟩ = false := HZ5.out.free 4; have ln : w.heap.size ≠ w3.heap.size := Nat.ne_of_lt lx; have ln2 : w3.heap.size ≠ w.heap.size := Nat.ne_of_gt lx))
    · go_wp2_with fail
      go_meet
      exact ⟨_, B5, d5, rfl, hb5.out.size, Bl.new _ _ _, own_alloc ho5.out _, hb5.out.alloc hb5.out.size _⟩
    · go_wp2_with fail
      go_meet
      exact ⟨_, B5, d5, rfl, Nat.le_refl _, set5_bl HZ5.out _ _ _ _ _, own5 ho5.out (fun g hg e => own_apart ho5.out HZ5.out (by decide) (by rw [hg, e])) _ _ _ _ _, put5 hb5.out (Nat.le_refl _) _ _ _ _ _⟩
  case rest =>
    obtain ⟨g, B, d, rfl, hg, hnx, hown, hb4⟩ := hcut
    have hB4 := hB3.trans (hb4.mono hB3.size)
    have hx4 := HX3.out.keep hb4
    have hf4 := hf3.keep hb4
    have hr4 := hr3.keep hb4
    have hfl := hf3.lt
    have hrl := hr3.lt
    have hnl := hnx.lt
    have hs3 := hB3.size
    clear p0 p1 p2 p3 p4 HX3 HCL2 HBN HBA hf3 hr3 hb4 lx

    obtain ⟨b, off, x, hA, hbl, e0, e1, e2, e3, e4, HX⟩ := HR.out.getF HJL.out
    obtain rfl : f = x := HJE.out.symm.trans HX.out
    subst hA
    have hJi : (J : Int) < n := by have := HJL.out; omega
    have x4 : wc.cell? ⟨w.heap.size, 4, none⟩ = some (.slice (some ⟨b, off, none⟩) n c) := hx4.cell 4
    have k0 : wc.cell? ⟨b, off + J * 5, none⟩ = some (.int .i64 f.num) := (hB4.cell (p := ⟨b, off + J * 5, none⟩) hbl).trans e0
    have k1 : wc.cell? ⟨b, off + J * 5 + 1, none⟩ = some (.int .i64 f.kind) := (hB4.cell (p := ⟨b, off + J * 5 + 1, none⟩) hbl).trans e1
    have k2 : wc.cell? ⟨b, off + J * 5 + 2, none⟩ = some (.int .i64 f.day) := (hB4.cell (p := ⟨b, off + J * 5 + 2, none⟩) hbl).trans e2
    have k3 : wc.cell? ⟨b, off + J * 5 + 3, none⟩ = some (.int .i64 f.id) := (hB4.cell (p := ⟨b, off + J * 5 + 3, none⟩) hbl).trans e3
    have k4 : wc.cell? ⟨b, off + J * 5 + 4, none⟩ = some (.int .i64 f.qty) := (hB4.cell (p := ⟨b, off + J * 5 + 4, none⟩) hbl).trans e4
    have f0 : wc.cell? ⟨w.heap.size + 1, 0, none⟩ = some (.int .i64 f.num) := hf4.cell 0
    have f1 : wc.cell? ⟨w.heap.size + 1, 1, none⟩ = some (.int .i64 f.kind) := hf4.cell 1
    have f2 : wc.cell? ⟨w.heap.size + 1, 2, none⟩ = some (.int .i64 f.day) := hf4.cell 2
    have f3 : wc.cell? ⟨w.heap.size + 1, 3, none⟩ = some (.int .i64 f.id) := hf4.cell 3
    have f4 : wc.cell? ⟨w.heap.size + 1, 4, none⟩ = some (.int .i64 f.qty) := hf4.cell 4
    have hap := own_apart hown hr4 (by decide)
    have n0 : wc.cell? ⟨g, 0, none⟩ = some (.int .i64 q.id) := hnx.c0
    have n1 : wc.cell? ⟨g, 1, none⟩ = some (.int .i64 q.vol) := hnx.c1
    have n2 : wc.cell? ⟨g, 2, none⟩ = some (.int .i64 q.fr) := hnx.c2
    have n3 : wc.cell? ⟨g, 3, none⟩ = some (.int .i64 q.tod) := hnx.c3
    have n4 : wc.cell? ⟨g, 4, none⟩ = some (.slice B n d) := hnx.c4
    have r0 : wc.cell? ⟨w.heap.size + 1 + 1, 0, none⟩ = some (.int .i64 0) := hr4.c0
    have r1 : wc.cell? ⟨w.heap.size + 1 + 1, 1, none⟩ = some (.int .i64 0) := hr4.c1
    have r2 : wc.cell? ⟨w.heap.size + 1 + 1, 2, none⟩ = some (.int .i64 0) := hr4.c2
    have r3 : wc.cell? ⟨w.heap.size + 1 + 1, 3, none⟩ = some (.int .i64 0) := hr4.c3
    have r4 : wc.cell? ⟨w.heap.size + 1 + 1, 4, none⟩ = some (.slice none 0 0) := hr4.c4
    have rf0 : wc.frozen? ⟨w.heap.size + 1 + 1, 0, none⟩ = false := hr4.free 0
    have rf1 : wc.frozen? ⟨w.heap.size + 1 + 1, 1, none⟩ = false := hr4.free 1
    have rf2 : wc.frozen? ⟨w.heap.size + 1 + 1, 2, none⟩ = false := hr4.free 2
    have rf3 : wc.frozen? ⟨w.heap.size + 1 + 1, 3, none⟩ = false := hr4.free 3
    have rf4 : wc.frozen? ⟨w.heap.size + 1 + 1, 4, none⟩ = false := hr4.free 4
    clear e0 e1 e2 e3 e4
    go_upto_region 9 with (fail)
    go_quiet (fail)
    go_wp2
    refine bodyPost_ret (v := .tuple #[.agg #[.int .i64 q.id, .int .i64 q.vol, .int .i64 q.fr, .int .i64 q.tod, .slice B n d], .slice none 0 0, .int .i64 0]) (by simp [results, Tryz.results76, go_sem, r0, r1, r2, r3, r4]) rfl ?_
    exact ⟨B, d, rfl, own5 (own_mono (own_drewN hown nq) hs3) (fun k hk e => hap (by rw [hk, e])) _ _ _ _ _, put5 (below_drewN hB4 nq) (by omega) _ _ _ _ _⟩

end Go.Proofs.YtdbcbbiplkikcaaGreat

namespace Go.Proofs.YtdbcbbiplkikcaaGreat
open Go.RowKit
set_option linter.unusedVariables false

set_option maxRecDepth 100000 in
set_option maxHeartbeats 8000000 in
theorem apply_conf (q : Qt) (A : Option Addr) (n c : Nat) (fs : List Fct) (f : Fct) (w : World) (h : FRd w A n c fs) (hok : BOk q fs) (hf : fErr q f = 0) (k' d' i' y : Int) (hne : k' ≠ f.kind ∨ d' ≠ f.day ∨ i' ≠ f.id ∨ y ≠ f.qty) (hin : (⟨f.num, k', d', i', y⟩ : Fct) ∈ fs) :
    Calls Tryz.prog 76 #[.agg #[.int .i64 q.id, .int .i64 q.vol, .int .i64 q.fr, .int .i64 q.tod, .slice A n c], .agg #[.int .i64 f.num, .int .i64 f.kind, .int .i64 f.day, .int .i64 f.id, .int .i64 f.qty]] w (fun e w' => e = .returned (.tuple #[.agg #[.int .i64 0, .int .i64 0, .int .i64 0, .int .i64 0, .slice none 0 0], .slice none 0 0, .int .i64 14]) ∧ RowKit.Below w.heap.size w w') := by
  have HOK := Lib.hid hok
  have HNE := Lib.hid hne
  clear hne
  have HP := Lib.hid h.plain
  have HN0 := Lib.hid h.nil
  have HLN := Lib.hid h.recs.1
  have hn200 : n ≤ 200 := by have := hok.len; have := h.recs.1; omega
  have HV := Lib.hid (fun w' (hb : RowKit.Below w.heap.size w w') => bvalidate_any q A n c fs w' (h.recs.below hb) (by omega))
  have HVF := Lib.hid (fun w => validateFact_any q f w)
  rw [hok.err] at HV
  rw [hf] at HVF
  have HBS := Lib.hid (fun w' (hb : RowKit.Below w.heap.size w w') => bsearch_any A n c fs f.num w' (h.recs.below hb) (by omega) hok.asc)
  have HCLN := Lib.hid (fun w' (hb : RowKit.Below w.heap.size w w') => cloneF_any A n c fs w' (h.recs.below hb) h.plain (by omega) h.nil)
  have HR := Lib.hid h.recs
  clear h hok
  obtain ⟨W0, hW0⟩ : ∃ W, W = ((w.alloc (.cells #[.int .i64 q.id, .int .i64 q.vol, .int .i64 q.fr, .int .i64 q.tod, .slice A n c] 54)).alloc (.cells #[.int .i64 f.num, .int .i64 f.kind, .int .i64 f.day, .int .i64 f.id, .int .i64 f.qty] 122)).alloc (.cells #[.int .i64 0, .int .i64 0, .int .i64 0, .int .i64 0, .slice none 0 0] 54) := ⟨_, rfl⟩
  have hb0 : RowKit.Below w.heap.size w W0 := by rw [hW0]; exact (((Below.refl _ _).alloc (Nat.le_refl _) _).alloc (by simp) _).alloc (by simp; omega) _
  have hx0 : Bl W0 w.heap.size 54 #[.int .i64 q.id, .int .i64 q.vol, .int .i64 q.fr, .int .i64 q.tod, .slice A n c] := by rw [hW0]; exact ((Bl.new w _ _).alloc _).alloc _
  have hf0 : Bl W0 (w.heap.size + 1) 122 #[.int .i64 f.num, .int .i64 f.kind, .int .i64 f.day, .int .i64 f.id, .int .i64 f.qty] := by rw [hW0]; have := (Bl.new (w.alloc (.cells #[.int .i64 q.id, .int .i64 q.vol, .int .i64 q.fr, .int .i64 q.tod, .slice A n c] 54)) 122 #[.int .i64 f.num, .int .i64 f.kind, .int .i64 f.day, .int .i64 f.id, .int .i64 f.qty]).alloc (.cells #[.int .i64 0, .int .i64 0, .int .i64 0, .int .i64 0, .slice none 0 0] 54); simpa using this
  have hr0 : Bl W0 (w.heap.size + 1 + 1) 54 #[.int .i64 0, .int .i64 0, .int .i64 0, .int .i64 0, .slice none 0 0] := by rw [hW0]; have := Bl.new ((w.alloc (.cells #[.int .i64 q.id, .int .i64 q.vol, .int .i64 q.fr, .int .i64 q.tod, .slice A n c] 54)).alloc (.cells #[.int .i64 f.num, .int .i64 f.kind, .int .i64 f.day, .int .i64 f.id, .int .i64 f.qty] 122)) 54 #[.int .i64 0, .int .i64 0, .int .i64 0, .int .i64 0, .slice none 0 0]; simpa using this
  go_enter Tryz.func76, Tryz.ntmps76
  go_upto_region 1 with (fail)
  rw [← hW0]
  clear hW0
  have p0 : W0.cell? ⟨w.heap.size, 0, none⟩ = some (.int .i64 q.id) := hx0.cell 0
  have p1 : W0.cell? ⟨w.heap.size, 1, none⟩ = some (.int .i64 q.vol) := hx0.cell 1
  have p2 : W0.cell? ⟨w.heap.size, 2, none⟩ = some (.int .i64 q.fr) := hx0.cell 2
  have p3 : W0.cell? ⟨w.heap.size, 3, none⟩ = some (.int .i64 q.tod) := hx0.cell 3
  have p4 : W0.cell? ⟨w.heap.size, 4, none⟩ = some (.slice A n c) := hx0.cell 4
  go_wp2_with fail
  refine (HV.out _ hb0).mono ?_
  rintro e w1 ⟨rfl, hb1⟩
  have hB1 := hb0.trans (hb1.mono hb0.size)
  have hx1 := hx0.keep hb1
  have hf1 := hf0.keep hb1
  have hr1 := hr0.keep hb1
  clear p0 p1 p2 p3 p4 hx0 hf0 hr0 hb0 hb1 HV
  have p0 : w1.cell? ⟨w.heap.size, 0, none⟩ = some (.int .i64 q.id) := hx1.cell 0
  have p1 : w1.cell? ⟨w.heap.size, 1, none⟩ = some (.int .i64 q.vol) := hx1.cell 1
  have p2 : w1.cell? ⟨w.heap.size, 2, none⟩ = some (.int .i64 q.fr) := hx1.cell 2
  have p3 : w1.cell? ⟨w.heap.size, 3, none⟩ = some (.int .i64 q.tod) := hx1.cell 3
  have p4 : w1.cell? ⟨w.heap.size, 4, none⟩ = some (.slice A n c) := hx1.cell 4
  have f0 : w1.cell? ⟨w.heap.size + 1, 0, none⟩ = some (.int .i64 f.num) := hf1.cell 0
  have f1 : w1.cell? ⟨w.heap.size + 1, 1, none⟩ = some (.int .i64 f.kind) := hf1.cell 1
  have f2 : w1.cell? ⟨w.heap.size + 1, 2, none⟩ = some (.int .i64 f.day) := hf1.cell 2
  have f3 : w1.cell? ⟨w.heap.size + 1, 3, none⟩ = some (.int .i64 f.id) := hf1.cell 3
  have f4 : w1.cell? ⟨w.heap.size + 1, 4, none⟩ = some (.int .i64 f.qty) := hf1.cell 4
  go_wp2_with fail
  refine (HVF.out _).mono ?_
  rintro e w2 ⟨rfl, hb2⟩
  have hB2 := hB1.trans (hb2.mono hB1.size)
  have hx2 := hx1.keep hb2
  have hf2 := hf1.keep hb2
  have hr2 := hr1.keep hb2
  clear p0 p1 p2 p3 p4 f0 f1 f2 f3 f4 hx1 hf1 hr1 hB1 hb2 HVF
  have p4 : w2.cell? ⟨w.heap.size, 4, none⟩ = some (.slice A n c) := hx2.cell 4
  have f0 : w2.cell? ⟨w.heap.size + 1, 0, none⟩ = some (.int .i64 f.num) := hf2.cell 0
  go_wp2_with fail
  refine (HBS.out _ hB2).mono ?_
  rintro e w3 ⟨I, fb, rfl, hI, hI1, hI2, hfb, hb3⟩
  have hB3 := hB2.trans (hb3.mono hB2.size)
  have hx3 := hx2.keep hb3
  have hf3 := hf2.keep hb3
  have hr3 := hr2.keep hb3
  have HI1 := Lib.hid hI1
  have HI2 := Lib.hid hI2
  have HFB := Lib.hid hfb
  clear p4 f0 hx2 hf2 hr2 hB2 hb3 HBS hI1 hI2 hfb
  obtain ⟨J, hJ, hJe⟩ := get_memF hin
  have hJn : fs[J]!.num = f.num := by rw [hJe]
  obtain rfl : J = I := by
    rcases Nat.lt_trichotomy J I with h1 | h1 | h1
    · have := HI1.out J h1; omega
    · exact h1
    · have h2 := HI2.out I (Nat.le_refl _) (by omega)
      have h3 := num_lt HOK.out.asc h1 hJ
      omega
  obtain rfl : fb = true := HFB.out.2 ⟨hJ, hJn⟩
  have HJL : Hid (J < n) := by have := HLN.out; show _ < _; omega
  have HJE := Lib.hid hJe
  clear hin hf HI1 HI2 HFB hI hJ hJe hJn
  have p0 : w3.cell? ⟨w.heap.size, 0, none⟩ = some (.int .i64 q.id) := hx3.cell 0
  have p1 : w3.cell? ⟨w.heap.size, 1, none⟩ = some (.int .i64 q.vol) := hx3.cell 1
  have p2 : w3.cell? ⟨w.heap.size, 2, none⟩ = some (.int .i64 q.fr) := hx3.cell 2
  have p3 : w3.cell? ⟨w.heap.size, 3, none⟩ = some (.int .i64 q.tod) := hx3.cell 3
  have p4 : w3.cell? ⟨w.heap.size, 4, none⟩ = some (.slice A n c) := hx3.cell 4
  have HX3 := Lib.hid hx3
  have HCL2 : Hid (∀ wx, RowKit.Below w3.heap.size w3 wx → Calls Tryz.prog 48 #[.slice A n c] wx fun e w' => ∃ (B : Option Addr) (d : Nat), e = .returned (.slice B n d) ∧ w'.ownsRow w3.heap.size 122 5 (.slice B n d) n (flat encF fs) ∧ RowKit.Below w3.heap.size w3 w' ∧ RowKit.Below wx.heap.size wx w') := fun wx hb => (HCLN.out wx (hB3.trans (hb.mono hB3.size))).mono fun e w' ⟨B, d, h1, h2, h3⟩ => ⟨B, d, h1, own_mono h2 hb.size, hb.trans (h3.mono hb.size), h3⟩
  have HBN : Hid (RowKit.Below w3.heap.size w3 w3.drew) := (Below.refl _ _).drew
  have HBA : Hid (RowKit.Below w3.heap.size w3 (w3.alloc (.cells #[.int .i64 0, .int .i64 0, .int .i64 0, .int .i64 0, .slice none 0 0] 54)).drew) := ((Below.refl _ _).alloc (Nat.le_refl _) _).drew
  have lx := hx3.lt
  clear hx3 HCLN
  go_upto_region 8 with (fail)
  go_cut [11] (fun v wx => ∃ (g : Nat) (B : Option Addr) (d : Nat), v = .pointer (some ⟨g, 0, none⟩) ∧ w3.heap.size ≤ g ∧ Bl wx g 54 #[.int .i64 q.id, .int .i64 q.vol, .int .i64 q.fr, .int .i64 q.tod, .slice B n d] ∧ wx.ownsRow w3.heap.size 122 5 (.slice B n d) n (flat encF fs) ∧ RowKit.Below w3.heap.size w3 wx)
  case first =>
    go_region_held3 (fun w' => w'.cell? ⟨w.heap.size, 0, none⟩ = some (.int .i64 q.id) ∧ w'.cell? ⟨w.heap.size, 1, none⟩ = some (.int .i64 q.vol) ∧ w'.cell? ⟨w.heap.size, 2, none⟩ = some (.int .i64 q.fr) ∧ w'.cell? ⟨w.heap.size, 3, none⟩ = some (.int .i64 q.tod) ∧ w'.cell? ⟨w.heap.size, 4, none⟩ = some (.slice A n c))
      (first
        | go_keep
        | exact ⟨(HX3.out.keep hb5.out).cell 0, (HX3.out.keep hb5.out).cell 1, (HX3.out.keep hb5.out).cell 2, (HX3.out.keep hb5.out).cell 3, (HX3.out.keep hb5.out).cell 4⟩
        | exact ⟨((HX3.out.keep hb5.out).alloc _).cell 0, ((HX3.out.keep hb5.out).alloc _).cell 1, ((HX3.out.keep hb5.out).alloc _).cell 2, ((HX3.out.keep hb5.out).alloc _).cell 3, ((HX3.out.keep hb5.out).alloc _).cell 4⟩)
      (first
        | (go_at_call 48; with_reducible (refine (HCL2.out _ ?_).mono ?_); with_reducible (exact HBN.out); rintro e w5 ⟨B5, d5, rfl, ho5', hb5', _⟩; have hb5 := Lib.hid hb5'; have ho5 := Lib.hid ho5'; clear hb5' ho5'; have l5 : w.heap.size < w5.heap.size := Nat.lt_of_lt_of_le lx hb5.out.size)
        | (go_at_call 48; with_reducible (refine (HCL2.out _ ?_).mono ?_); with_reducible (exact HBA.out); rintro e w5 ⟨B5, d5, rfl, ho5', hb5', hbx'⟩; have hb5 := Lib.hid hb5'; have ho5 := Lib.hid ho5'; clear hb5' ho5'; have l5 : w.heap.size < w5.heap.size := Nat.lt_of_lt_of_le lx hb5.out.size; have HZ5 := Lib.hid (((Bl.new w3 54 #[.int .i64 0, .int .i64 0, .int .i64 0, .int .i64 0, .slice none 0 0]).drew).keep hbx'); clear hbx'; have z0 : w5.cell? ⟨w3.heap.size, 0, none⟩ = some (.int .i64 0) := HZ5.out.c0; have zf0 : w5.frozen? ⟨w3.heap.size, 0, none⟩ = false := HZ5.out.free 0; have z1 : w5.cell? ⟨w3.heap.size, 1, none⟩ = some (.int .i64 0) := HZ5.out.c1; have zf1 : w5.frozen? ⟨w3.heap.size, 1, none⟩ = false := HZ5.out.free 1; have z2 : w5.cell? ⟨w3.heap.size, 2, none⟩ = some (.int .i64 0) := HZ5.out.c2; have zf2 : w5.frozen? ⟨w3.heap.size, 2, none⟩ = false := HZ5.out.free 2; have z3 : w5.cell? ⟨w3.heap.size, 3, none⟩ = some (.int .i64 0) := HZ5.out.c3; have zf3 : w5.frozen? ⟨w3.heap.size, 3, none⟩ = false := HZ5.out.free 3; have z4 : w5.cell? ⟨w3.heap.size, 4, none⟩ = some (.slice none 0 0) := HZ5.out.c4; have zf4 : w5.frozen? ⟨w3.heap.size, 4, none⟩ = false := HZ5.out.free 4; have ln : w.heap.size ≠ w3.heap.size := Nat.ne_of_lt lx; have ln2 : w3.heap.size ≠ w.heap.size := Nat.ne_of_gt lx))
    · go_wp2_with fail
      go_meet
      exact ⟨_, B5, d5, rfl, hb5.out.size, Bl.new _ _ _, own_alloc ho5.out _, hb5.out.alloc hb5.out.size _⟩
    · go_wp2_with fail
      go_meet
      exact ⟨_, B5, d5, rfl, Nat.le_refl _, set5_bl HZ5.out _ _ _ _ _, own5 ho5.out (fun g hg e => own_apart ho5.out HZ5.out (by decide) (by rw [hg, e])) _ _ _ _ _, put5 hb5.out (Nat.le_refl _) _ _ _ _ _⟩
  case rest =>
    obtain ⟨g, B, d, rfl, hg, hnx, hown, hb4⟩ := hcut
    have hB4 := hB3.trans (hb4.mono hB3.size)
    have hx4 := HX3.out.keep hb4
    have hf4 := hf3.keep hb4
    have hr4 := hr3.keep hb4
    have hfl := hf3.lt
    have hrl := hr3.lt
    have hnl := hnx.lt
    have hs3 := hB3.size
    clear p0 p1 p2 p3 p4 HX3 HCL2 HBN HBA hf3 hr3 hb4 lx

    obtain ⟨b, off, x, hA, hbl, e0, e1, e2, e3, e4, HX⟩ := HR.out.getF HJL.out
    obtain rfl : (⟨f.num, k', d', i', y⟩ : Fct) = x := HJE.out.symm.trans HX.out
    subst hA
    have hJi : (J : Int) < n := by have := HJL.out; omega
    have x4 : wc.cell? ⟨w.heap.size, 4, none⟩ = some (.slice (some ⟨b, off, none⟩) n c) := hx4.cell 4
    have k0 : wc.cell? ⟨b, off + J * 5, none⟩ = some (.int .i64 f.num) := (hB4.cell (p := ⟨b, off + J * 5, none⟩) hbl).trans e0
    have k1 : wc.cell? ⟨b, off + J * 5 + 1, none⟩ = some (.int .i64 k') := (hB4.cell (p := ⟨b, off + J * 5 + 1, none⟩) hbl).trans e1
    have k2 : wc.cell? ⟨b, off + J * 5 + 2, none⟩ = some (.int .i64 d') := (hB4.cell (p := ⟨b, off + J * 5 + 2, none⟩) hbl).trans e2
    have k3 : wc.cell? ⟨b, off + J * 5 + 3, none⟩ = some (.int .i64 i') := (hB4.cell (p := ⟨b, off + J * 5 + 3, none⟩) hbl).trans e3
    have k4 : wc.cell? ⟨b, off + J * 5 + 4, none⟩ = some (.int .i64 y) := (hB4.cell (p := ⟨b, off + J * 5 + 4, none⟩) hbl).trans e4
    have f0 : wc.cell? ⟨w.heap.size + 1, 0, none⟩ = some (.int .i64 f.num) := hf4.cell 0
    have f1 : wc.cell? ⟨w.heap.size + 1, 1, none⟩ = some (.int .i64 f.kind) := hf4.cell 1
    have f2 : wc.cell? ⟨w.heap.size + 1, 2, none⟩ = some (.int .i64 f.day) := hf4.cell 2
    have f3 : wc.cell? ⟨w.heap.size + 1, 3, none⟩ = some (.int .i64 f.id) := hf4.cell 3
    have f4 : wc.cell? ⟨w.heap.size + 1, 4, none⟩ = some (.int .i64 f.qty) := hf4.cell 4
    have hap := own_apart hown hr4 (by decide)
    have n0 : wc.cell? ⟨g, 0, none⟩ = some (.int .i64 q.id) := hnx.c0
    have n1 : wc.cell? ⟨g, 1, none⟩ = some (.int .i64 q.vol) := hnx.c1
    have n2 : wc.cell? ⟨g, 2, none⟩ = some (.int .i64 q.fr) := hnx.c2
    have n3 : wc.cell? ⟨g, 3, none⟩ = some (.int .i64 q.tod) := hnx.c3
    have n4 : wc.cell? ⟨g, 4, none⟩ = some (.slice B n d) := hnx.c4
    have r0 : wc.cell? ⟨w.heap.size + 1 + 1, 0, none⟩ = some (.int .i64 0) := hr4.c0
    have r1 : wc.cell? ⟨w.heap.size + 1 + 1, 1, none⟩ = some (.int .i64 0) := hr4.c1
    have r2 : wc.cell? ⟨w.heap.size + 1 + 1, 2, none⟩ = some (.int .i64 0) := hr4.c2
    have r3 : wc.cell? ⟨w.heap.size + 1 + 1, 3, none⟩ = some (.int .i64 0) := hr4.c3
    have r4 : wc.cell? ⟨w.heap.size + 1 + 1, 4, none⟩ = some (.slice none 0 0) := hr4.c4
    have rf0 : wc.frozen? ⟨w.heap.size + 1 + 1, 0, none⟩ = false := hr4.free 0
    have rf1 : wc.frozen? ⟨w.heap.size + 1 + 1, 1, none⟩ = false := hr4.free 1
    have rf2 : wc.frozen? ⟨w.heap.size + 1 + 1, 2, none⟩ = false := hr4.free 2
    have rf3 : wc.frozen? ⟨w.heap.size + 1 + 1, 3, none⟩ = false := hr4.free 3
    have rf4 : wc.frozen? ⟨w.heap.size + 1 + 1, 4, none⟩ = false := hr4.free 4
    clear e0 e1 e2 e3 e4
    rcases HNE.out with hy | hy | hy | hy
    · go_upto_region 9 with (fail)
      go_quiet (fail)
      go_wp2
      refine bodyPost_ret (v := .tuple #[.agg #[.int .i64 0, .int .i64 0, .int .i64 0, .int .i64 0, .slice none 0 0], .slice none 0 0, .int .i64 14]) (by simp [results, Tryz.results76, go_sem, r0, r1, r2, r3, r4]) rfl ?_
      exact ⟨rfl, put5 (below_drewN hB4 nq) (by omega) _ _ _ _ _⟩
    · go_upto_region 9 with (fail)
      go_quiet (fail)
      go_wp2
      refine bodyPost_ret (v := .tuple #[.agg #[.int .i64 0, .int .i64 0, .int .i64 0, .int .i64 0, .slice none 0 0], .slice none 0 0, .int .i64 14]) (by simp [results, Tryz.results76, go_sem, r0, r1, r2, r3, r4]) rfl ?_
      exact ⟨rfl, put5 (below_drewN hB4 nq) (by omega) _ _ _ _ _⟩
    · go_upto_region 9 with (fail)
      go_quiet (fail)
      go_wp2
      refine bodyPost_ret (v := .tuple #[.agg #[.int .i64 0, .int .i64 0, .int .i64 0, .int .i64 0, .slice none 0 0], .slice none 0 0, .int .i64 14]) (by simp [results, Tryz.results76, go_sem, r0, r1, r2, r3, r4]) rfl ?_
      exact ⟨rfl, put5 (below_drewN hB4 nq) (by omega) _ _ _ _ _⟩
    · go_upto_region 9 with (fail)
      go_quiet (fail)
      go_wp2
      refine bodyPost_ret (v := .tuple #[.agg #[.int .i64 0, .int .i64 0, .int .i64 0, .int .i64 0, .slice none 0 0], .slice none 0 0, .int .i64 14]) (by simp [results, Tryz.results76, go_sem, r0, r1, r2, r3, r4]) rfl ?_
      exact ⟨rfl, put5 (below_drewN hB4 nq) (by omega) _ _ _ _ _⟩
end Go.Proofs.YtdbcbbiplkikcaaGreat

namespace Go.Proofs.YtdbcbbiplkikcaaGreat
open Go.RowKit
set_option linter.unusedVariables false

set_option maxRecDepth 100000 in
set_option maxHeartbeats 8000000 in
theorem apply_bad (q : Qt) (A : Option Addr) (n c : Nat) (fs : List Fct) (f : Fct) (w : World) (h : FRd w A n c fs) (hok : BOk q fs) (er : Int) (hf : fErr q f = er) (hne : er ≠ 0) :
    Calls Tryz.prog 76 #[.agg #[.int .i64 q.id, .int .i64 q.vol, .int .i64 q.fr, .int .i64 q.tod, .slice A n c], .agg #[.int .i64 f.num, .int .i64 f.kind, .int .i64 f.day, .int .i64 f.id, .int .i64 f.qty]] w (fun e w' => e = .returned (.tuple #[.agg #[.int .i64 0, .int .i64 0, .int .i64 0, .int .i64 0, .slice none 0 0], .slice none 0 0, .int .i64 er]) ∧ RowKit.Below w.heap.size w w') := by
  have HOK := Lib.hid hok
  have HP := Lib.hid h.plain
  have HN0 := Lib.hid h.nil
  have HLN := Lib.hid h.recs.1
  have hn200 : n ≤ 200 := by have := hok.len; have := h.recs.1; omega
  have HV := Lib.hid (fun w' (hb : RowKit.Below w.heap.size w w') => bvalidate_any q A n c fs w' (h.recs.below hb) (by omega))
  have HVF := Lib.hid (fun w => validateFact_any q f w)
  rw [hok.err] at HV
  rw [hf] at HVF
  have HBS := Lib.hid (fun w' (hb : RowKit.Below w.heap.size w w') => bsearch_any A n c fs f.num w' (h.recs.below hb) (by omega) hok.asc)
  have HCLN := Lib.hid (fun w' (hb : RowKit.Below w.heap.size w w') => cloneF_any A n c fs w' (h.recs.below hb) h.plain (by omega) h.nil)
  have HR := Lib.hid h.recs
  clear h hok
  obtain ⟨W0, hW0⟩ : ∃ W, W = ((w.alloc (.cells #[.int .i64 q.id, .int .i64 q.vol, .int .i64 q.fr, .int .i64 q.tod, .slice A n c] 54)).alloc (.cells #[.int .i64 f.num, .int .i64 f.kind, .int .i64 f.day, .int .i64 f.id, .int .i64 f.qty] 122)).alloc (.cells #[.int .i64 0, .int .i64 0, .int .i64 0, .int .i64 0, .slice none 0 0] 54) := ⟨_, rfl⟩
  have hb0 : RowKit.Below w.heap.size w W0 := by rw [hW0]; exact (((Below.refl _ _).alloc (Nat.le_refl _) _).alloc (by simp) _).alloc (by simp; omega) _
  have hx0 : Bl W0 w.heap.size 54 #[.int .i64 q.id, .int .i64 q.vol, .int .i64 q.fr, .int .i64 q.tod, .slice A n c] := by rw [hW0]; exact ((Bl.new w _ _).alloc _).alloc _
  have hf0 : Bl W0 (w.heap.size + 1) 122 #[.int .i64 f.num, .int .i64 f.kind, .int .i64 f.day, .int .i64 f.id, .int .i64 f.qty] := by rw [hW0]; have := (Bl.new (w.alloc (.cells #[.int .i64 q.id, .int .i64 q.vol, .int .i64 q.fr, .int .i64 q.tod, .slice A n c] 54)) 122 #[.int .i64 f.num, .int .i64 f.kind, .int .i64 f.day, .int .i64 f.id, .int .i64 f.qty]).alloc (.cells #[.int .i64 0, .int .i64 0, .int .i64 0, .int .i64 0, .slice none 0 0] 54); simpa using this
  have hr0 : Bl W0 (w.heap.size + 1 + 1) 54 #[.int .i64 0, .int .i64 0, .int .i64 0, .int .i64 0, .slice none 0 0] := by rw [hW0]; have := Bl.new ((w.alloc (.cells #[.int .i64 q.id, .int .i64 q.vol, .int .i64 q.fr, .int .i64 q.tod, .slice A n c] 54)).alloc (.cells #[.int .i64 f.num, .int .i64 f.kind, .int .i64 f.day, .int .i64 f.id, .int .i64 f.qty] 122)) 54 #[.int .i64 0, .int .i64 0, .int .i64 0, .int .i64 0, .slice none 0 0]; simpa using this
  go_enter Tryz.func76, Tryz.ntmps76
  go_upto_region 1 with (fail)
  rw [← hW0]
  clear hW0
  have p0 : W0.cell? ⟨w.heap.size, 0, none⟩ = some (.int .i64 q.id) := hx0.cell 0
  have p1 : W0.cell? ⟨w.heap.size, 1, none⟩ = some (.int .i64 q.vol) := hx0.cell 1
  have p2 : W0.cell? ⟨w.heap.size, 2, none⟩ = some (.int .i64 q.fr) := hx0.cell 2
  have p3 : W0.cell? ⟨w.heap.size, 3, none⟩ = some (.int .i64 q.tod) := hx0.cell 3
  have p4 : W0.cell? ⟨w.heap.size, 4, none⟩ = some (.slice A n c) := hx0.cell 4
  go_wp2_with fail
  refine (HV.out _ hb0).mono ?_
  rintro e w1 ⟨rfl, hb1⟩
  have hB1 := hb0.trans (hb1.mono hb0.size)
  have hx1 := hx0.keep hb1
  have hf1 := hf0.keep hb1
  have hr1 := hr0.keep hb1
  clear p0 p1 p2 p3 p4 hx0 hf0 hr0 hb0 hb1 HV
  have p0 : w1.cell? ⟨w.heap.size, 0, none⟩ = some (.int .i64 q.id) := hx1.cell 0
  have p1 : w1.cell? ⟨w.heap.size, 1, none⟩ = some (.int .i64 q.vol) := hx1.cell 1
  have p2 : w1.cell? ⟨w.heap.size, 2, none⟩ = some (.int .i64 q.fr) := hx1.cell 2
  have p3 : w1.cell? ⟨w.heap.size, 3, none⟩ = some (.int .i64 q.tod) := hx1.cell 3
  have p4 : w1.cell? ⟨w.heap.size, 4, none⟩ = some (.slice A n c) := hx1.cell 4
  have f0 : w1.cell? ⟨w.heap.size + 1, 0, none⟩ = some (.int .i64 f.num) := hf1.cell 0
  have f1 : w1.cell? ⟨w.heap.size + 1, 1, none⟩ = some (.int .i64 f.kind) := hf1.cell 1
  have f2 : w1.cell? ⟨w.heap.size + 1, 2, none⟩ = some (.int .i64 f.day) := hf1.cell 2
  have f3 : w1.cell? ⟨w.heap.size + 1, 3, none⟩ = some (.int .i64 f.id) := hf1.cell 3
  have f4 : w1.cell? ⟨w.heap.size + 1, 4, none⟩ = some (.int .i64 f.qty) := hf1.cell 4
  go_wp2_with fail
  refine (HVF.out _).mono ?_
  rintro e w2 ⟨rfl, hb2⟩
  have hB2 := hB1.trans (hb2.mono hB1.size)
  have hr2 := hr1.keep hb2
  have b1 : (er != 0) = true := by simpa using hne
  clear p0 p1 p2 p3 p4 f0 f1 f2 f3 f4 hx1 hf1 hr1 hB1 hb2 HVF HBS HCLN
  have r0 : w2.cell? ⟨w.heap.size + 1 + 1, 0, none⟩ = some (.int .i64 0) := hr2.c0
  have rf0 : w2.frozen? ⟨w.heap.size + 1 + 1, 0, none⟩ = false := hr2.free 0
  have r1 : w2.cell? ⟨w.heap.size + 1 + 1, 1, none⟩ = some (.int .i64 0) := hr2.c1
  have rf1 : w2.frozen? ⟨w.heap.size + 1 + 1, 1, none⟩ = false := hr2.free 1
  have r2 : w2.cell? ⟨w.heap.size + 1 + 1, 2, none⟩ = some (.int .i64 0) := hr2.c2
  have rf2 : w2.frozen? ⟨w.heap.size + 1 + 1, 2, none⟩ = false := hr2.free 2
  have r3 : w2.cell? ⟨w.heap.size + 1 + 1, 3, none⟩ = some (.int .i64 0) := hr2.c3
  have rf3 : w2.frozen? ⟨w.heap.size + 1 + 1, 3, none⟩ = false := hr2.free 3
  have r4 : w2.cell? ⟨w.heap.size + 1 + 1, 4, none⟩ = some (.slice none 0 0) := hr2.c4
  have rf4 : w2.frozen? ⟨w.heap.size + 1 + 1, 4, none⟩ = false := hr2.free 4
  go_wp2
  refine bodyPost_ret (v := .tuple #[.agg #[.int .i64 0, .int .i64 0, .int .i64 0, .int .i64 0, .slice none 0 0], .slice none 0 0, .int .i64 er]) (by simp [results, Tryz.results76, go_sem, r0, r1, r2, r3, r4]) rfl ?_
  exact ⟨rfl, put5 hB2 (by omega) _ _ _ _ _⟩
end Go.Proofs.YtdbcbbiplkikcaaGreat

namespace Go.Proofs.YtdbcbbiplkikcaaGreat
open Go.RowKit
set_option linter.unusedVariables false

theorem nodup_len {xs : List Int} : ∀ {ys : List Int}, xs.Nodup → (∀ x ∈ xs, x ∈ ys) → xs.length ≤ ys.length := by
  induction xs with
  | nil => intro ys _ _; simp
  | cons x xs ih =>
    intro ys hn hs
    rw [List.nodup_cons] at hn
    have hx : x ∈ ys := hs x (by simp)
    have h1 := List.length_erase_of_mem hx
    have h2 := List.length_pos_of_mem hx
    have h3 : xs.length ≤ (ys.erase x).length := ih hn.2 (fun y hy => (List.mem_erase_of_ne (fun e => hn.1 (by rw [← e]; exact hy))).2 (hs y (by simp [hy])))
    simp
    omega
theorem settled_len {fs : List Fct} {vol : Int} {gs : List Rq} {bal : Int} (h : Settled fs vol gs bal) : gs.length ≤ fs.length := by
  obtain ⟨rs, F, h1, _, h3, _, _⟩ := h
  have h4 : gs.length = rs.length := by rw [h3.length_eq]; simp
  have h5 : (rs.map (·.id)).length ≤ (fs.map (·.id)).length := nodup_len h1.nodup (fun x hx => by
    have h6 : (askOf fs x).isSome = true := (h1.mem x).1 (by obtain ⟨r, hr, e⟩ := List.mem_map.1 hx; exact ⟨r, hr, e⟩)
    obtain ⟨y, hy⟩ := Option.isSome_iff_exists.1 h6
    have h7 := List.mem_of_find?_eq_some hy
    have h8 := List.find?_some hy
    simp at h8
    exact List.mem_map.2 ⟨y, h7, h8.2⟩)
  simp at h5
  omega
theorem chgs_len (ga gb : List Rq) : (chgs ga gb).length ≤ gb.length := List.length_filterMap_le _ _
theorem chgs_id {ga gb : List Rq} {x : Cg} (h : x ∈ chgs ga gb) : ∃ r ∈ gb, r.id = x.id := by
  unfold chgs at h
  obtain ⟨r, hr, e⟩ := List.mem_filterMap.1 h
  split at e
  · cases e
  · injection e with e; subst e; exact ⟨r, hr, rfl⟩
theorem own0F (w : World) (b : Nat) : w.ownsRow b 167 3 (.slice none 0 0) 0 (flat encG []) := ⟨by simp [flat], .inl ⟨rfl, rfl⟩⟩
theorem BOk.settled_ids {q : Qt} {fs : List Fct} {gs : List Rq} {bal : Int} (h : BOk q fs) (hs : Settled fs q.vol gs bal) : ∀ g ∈ gs, 1 ≤ g.id ∧ g.id ≤ 1000000 := fun g hg => by
  have hv : 0 ≤ q.vol := h.good.v0
  have := (hs.law (fun x hx => (fErr_zero (h.ok x hx)).1) (fun x hx => (fErr_zero (h.ok x hx)).2.2.1) hv).each g hg
  exact ⟨this.1, this.2.1⟩

structure ApOk (q : Qt) (fs : List Fct) (f : Fct) (fs' : List Fct) (cs : List Cg) : Prop where
  ok : BOk q fs'
  len : fs'.length ≤ fs.length + 1
  few : cs.length ≤ fs.length + 1
  ids : ∀ x ∈ cs, 1 ≤ x.id ∧ x.id ≤ 1000000
  first : fs = [] → fs' = [f] ∧ ∃ ga gb ba bb, Settled [] q.vol ga ba ∧ Settled [f] q.vol gb bb ∧ cs = chgs ga gb
def ApRel (q : Qt) (fs : List Fct) (f : Fct) (N : Nat) (w : World) (a : Qt) (B : Option Addr) (n' d : Nat) (C : Option Addr) (m d2 : Nat) (er : Int) : Prop :=
  (er = 0 → a = q ∧ ∃ (fs' : List Fct) (cs : List Cg), ApOk q fs f fs' cs ∧ fs'.length = n' ∧ cs.length = m ∧ w.ownsRow N 122 5 (.slice B n' d) n' (flat encF fs') ∧ w.ownsRow N 167 3 (.slice C m d2) m (flat encG cs)) ∧ (er ≠ 0 → fErr q f = 0 → fs ≠ [])
theorem ApRel.alloc {q : Qt} {fs : List Fct} {f : Fct} {N : Nat} {w : World} {a : Qt} {B : Option Addr} {n' d : Nat} {C : Option Addr} {m d2 : Nat} {er : Int} (h : ApRel q fs f N w a B n' d C m d2 er) (o : Obj) : ApRel q fs f N (w.alloc o) a B n' d C m d2 er := by
  refine ⟨fun h0 => ?_, h.2⟩
  obtain ⟨h1, fs', cs, h2, h3, h4, h5, h6⟩ := h.1 h0
  exact ⟨h1, fs', cs, h2, h3, h4, own_alloc h5 o, own_alloc h6 o⟩
theorem ApRel.mono {q : Qt} {fs : List Fct} {f : Fct} {N M : Nat} {w : World} {a : Qt} {B : Option Addr} {n' d : Nat} {C : Option Addr} {m d2 : Nat} {er : Int} (h : ApRel q fs f N w a B n' d C m d2 er) (hM : M ≤ N) : ApRel q fs f M w a B n' d C m d2 er := by
  refine ⟨fun h0 => ?_, h.2⟩
  obtain ⟨h1, fs', cs, h2, h3, h4, h5, h6⟩ := h.1 h0
  exact ⟨h1, fs', cs, h2, h3, h4, h5.mono hM, h6.mono hM⟩
theorem ApRel.set5 {q : Qt} {fs : List Fct} {f : Fct} {N : Nat} {w : World} {a : Qt} {B : Option Addr} {n' d : Nat} {C : Option Addr} {m d2 : Nat} {er : Int} {g : Nat} {cs0 : Array Value} (h : ApRel q fs f N w a B n' d C m d2 er) (hg : Bl w g 54 cs0) (v0 v1 v2 v3 v4 : Value) : ApRel q fs f N (((((w.setCell ⟨g, 0, none⟩ v0).setCell ⟨g, 1, none⟩ v1).setCell ⟨g, 2, none⟩ v2).setCell ⟨g, 3, none⟩ v3).setCell ⟨g, 4, none⟩ v4) a B n' d C m d2 er := by
  refine ⟨fun h0 => ?_, h.2⟩
  obtain ⟨h1, fs', cs, h2, h3, h4, h5, h6⟩ := h.1 h0
  exact ⟨h1, fs', cs, h2, h3, h4, own5 h5 (fun j hj e => own_apart h5 hg (by decide) (by rw [hj, e])) _ _ _ _ _, own5 h6 (fun j hj e => own_apart h6 hg (by decide) (by rw [hj, e])) _ _ _ _ _⟩
def ApAll (q : Qt) (fs : List Fct) (f : Fct) (w : World) (e : Ending) (w' : World) : Prop :=
  ∃ (a : Qt) (B : Option Addr) (n' d : Nat) (C : Option Addr) (m d2 : Nat) (er : Int), e = .returned (.tuple #[.agg #[.int .i64 a.id, .int .i64 a.vol, .int .i64 a.fr, .int .i64 a.tod, .slice B n' d], .slice C m d2, .int .i64 er]) ∧ ApRel q fs f w.heap.size w' a B n' d C m d2 er ∧ RowKit.Below w.heap.size w w'

theorem apply_all (q : Qt) (A : Option Addr) (n c : Nat) (fs : List Fct) (f : Fct) (w : World) (h : FRd w A n c fs) (hok : BOk q fs) (hl : fs.length < 200) :
    Calls Tryz.prog 76 #[.agg #[.int .i64 q.id, .int .i64 q.vol, .int .i64 q.fr, .int .i64 q.tod, .slice A n c], .agg #[.int .i64 f.num, .int .i64 f.kind, .int .i64 f.day, .int .i64 f.id, .int .i64 f.qty]] w (ApAll q fs f w) := by
  by_cases hf : fErr q f = 0
  · by_cases hin : ∃ x ∈ fs, x.num = f.num
    · obtain ⟨x, hx, e⟩ := hin
      have hne : fs ≠ [] := fun e => by rw [e] at hx; cases hx
      by_cases he : x = f
      · subst he
        refine (apply_same q A n c fs x w h hok hf hx).mono ?_
        rintro e' w' ⟨B, d, rfl, ho, hb⟩
        exact ⟨q, B, n, d, none, 0, 0, 0, rfl, ⟨fun _ => ⟨rfl, fs, [], ⟨hok, Nat.le_succ _, Nat.zero_le _, (fun y hy => by cases hy), fun e => absurd e hne⟩, h.recs.1, rfl, ho, own0F _ _⟩, fun h0 => absurd rfl h0⟩, hb⟩
      · refine (apply_conf q A n c fs f w h hok hf x.kind x.day x.id x.qty ?_ (by rw [← e]; exact hx)).mono ?_
        · refine Decidable.byContradiction fun hc => he ?_
          simp only [not_or, Decidable.not_not] at hc
          obtain ⟨h1, h2, h3, h4⟩ := hc
          cases x; cases f
          simp_all
        · rintro e' w' ⟨rfl, hb⟩
          exact ⟨⟨0, 0, 0, 0⟩, none, 0, 0, none, 0, 0, 14, rfl, ⟨(fun h0 => by cases h0), fun _ _ => hne⟩, hb⟩
    · refine (apply_new q A n c fs f w h hok hf (fun x hx e => hin ⟨x, hx, e⟩) hl).mono ?_
      rintro e' w' ⟨I, B, d, C, m, d2, ga, gb, ba, bb, h1, h2, h3, h4, h5, h6, h7, h8⟩
      have hn := h.recs.1
      have hlen : (fs.take I ++ f :: fs.drop I).length = fs.length + 1 := by rw [(perm_ins fs f I).length_eq]; rfl
      refine ⟨q, B, n + 1, d, C, m, d2, 0, h1, ⟨fun _ => ⟨rfl, fs.take I ++ f :: fs.drop I, chgs ga gb, ⟨h2, by omega, ?_, fun y hy => ?_, ?_⟩, by omega, h5, h6, h7⟩, fun h0 => absurd rfl h0⟩, h8⟩
      · have := chgs_len ga gb
        have := settled_len h4
        omega
      · obtain ⟨r, hr, e⟩ := chgs_id hy
        rw [← e]
        exact h2.settled_ids h4 r hr
      · rintro rfl
        simp only [List.take_nil, List.drop_nil, List.nil_append] at h4
        exact ⟨by simp, ga, gb, ba, bb, h3, h4, rfl⟩
  · refine (apply_bad q A n c fs f w h hok (fErr q f) rfl hf).mono ?_
    rintro e' w' ⟨rfl, hb⟩
    exact ⟨⟨0, 0, 0, 0⟩, none, 0, 0, none, 0, 0, fErr q f, rfl, ⟨fun h0 => absurd h0 hf, fun _ e => absurd e hf⟩, hb⟩
end Go.Proofs.YtdbcbbiplkikcaaGreat

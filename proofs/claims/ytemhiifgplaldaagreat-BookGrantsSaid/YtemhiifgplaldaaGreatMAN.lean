/-
  The append onto a row of the call's own, in a region that draws its order. No statement of the seat is proved here.
  The contract of quotabook.Apply at valid books and valid facts. No statement of the seat is proved here. Conditions: as typed.
  What operations of a drawn region hold: rows, literals, boxes, books. No statement of the seat is proved here.
-/
import Derived.Test.YtemhiifgplaldaaGreatMAM
import Derived.Deep.RegionHeld3
import Derived.Test.YtemhiifgplaldaaGreatMAK
import Derived.Test.YtemhiifgplaldaaGreatMAL
namespace Go.Proofs.YtemhiifgplaldaaGreat
open Go.RowKit
set_option linter.unusedVariables false

/-- An empty slice that was written out. -/
theorem own_empty {w : World} {g base : Nat} {t : TypeId} {size : Nat} (h : Bl w g t #[]) (hb : base ≤ g) : w.ownsRow base t size (.slice (some ⟨g, 0, none⟩) 0 0) 0 [] :=
  ⟨by simp, .inr ⟨g, 0, #[], rfl, hb, h, Nat.le_refl _, Nat.zero_le _, by simp, by simp⟩⟩

/-- The append onto a row of the call's own, in a region that draws its order. -/
theorem step_append_rd {P : Program} (w : World) {ops : Array Oper} {o : Oper} {a : Act} {K : Act → World → Prop} {Q : Exit → Act → World → Prop} {E : Prop} (hgd : o.guard = none) (s x : Operand) (t : TypeId)
    (ho : o.op = .call { callee := .builtin .append, args := #[s, x], argTypes := #[t, t] })
    (base : Nat) (e : TypeId) (z : Value) (size bytes : Nat) (ht : P.underlying t = some (.slice e)) (hi : (P.info? e).map (fun i => (i.zero, i.size, i.bytes)) = some (some z, size, bytes)) (hzs : z.cells.size = size) (hsz : 0 < size)
    (v : Value) (n : Nat) (xs : List Value) (hs : a.eval s = v) (hown : w.ownsRow base e size v n xs)
    (A : Option Addr) (m c : Nat) (news : List Value) (hx : a.eval x = .slice A m c) (hr : Rd w size A m news) (h1 : ∀ u ∈ news, u.oneCell' = true)
    (h63 : n + m ≤ maxLen) (hbytes : (n + m) * bytes ≤ 140737488355328) (hbase : base ≤ w.heap.size)
    (h : ∀ v' w', w'.ownsRow base e size v' (n + m) (xs ++ news) → w.grownBy w' v.ownBlock → K (a.put o.dst v') w') :
    if Region.wanted o (yielded ops a.tmps) = true then Oper.wp P o a w K Q else E := by
  obtain ⟨i, hi0, hz, hsize, hby⟩ := info_parts hi
  have hw : Region.wanted o (yielded ops a.tmps) = true := by simp [Region.wanted, hgd]
  rw [if_pos hw]
  obtain ⟨v', w', hrun, h2, h3, _⟩ := run_append_rd (P := P) w base t o.type e i z size bytes ht hi0 hz hsize hby hzs hsz v n xs hown A m c news hr h1 h63 hbytes hbase
  unfold Oper.wp execOp
  simp only [ho, resolve, invoke, builtin, Sem.run_bind, Sem.run_pure, Result.andThen_ok, List.map_toArray, List.map_cons, List.map_nil, hs, hx, hrun]
  exact h v' w' h2 h3
theorem Rd.drew {w : World} {size n : Nat} {A : Option Addr} {xs : List Value} (h : Rd w size A n xs) : Rd w.drew size A n xs := h
end Go.Proofs.YtemhiifgplaldaaGreat

namespace Go.Proofs.YtemhiifgplaldaaGreat
open Go.RowKit
set_option linter.unusedVariables false

/-- A list of facts as callers hold it. -/
structure FRd (w : World) (A : Option Addr) (n c : Nat) (fs : List Fct) : Prop where
  recs : Recs encF 5 w A n fs
  plain : Plain A
  nil : A = none → n = 0
theorem FRd.below {w w' : World} {A : Option Addr} {n c : Nat} {fs : List Fct} (h : FRd w A n c fs) (hb : RowKit.Below w.heap.size w w') : FRd w' A n c fs := ⟨h.recs.below hb, h.plain, h.nil⟩
theorem FRd.empty (w : World) : FRd w none 0 0 [] := ⟨Recs.nil, .inl rfl, fun _ => rfl⟩
theorem FRd.own {w : World} {N n d : Nat} {B : Option Addr} {fs : List Fct} (h : w.ownsRow N 47 5 (.slice B n d) n (flat encF fs)) (hl : fs.length = n) : FRd w B n d fs := by
  refine ⟨Recs.of_own encF_len h hl, ?_, ?_⟩
  · rcases h.2 with ⟨hv, h0⟩ | ⟨g', cap, cur, hv, _⟩
    · injection hv with h5; exact .inl h5
    · injection hv with h5; exact .inr ⟨g', 0, h5⟩
  · rintro rfl
    rcases h.2 with ⟨hv, h0⟩ | ⟨g', cap, cur, hv, _⟩
    · exact h0
    · injection hv with h5; cases h5
theorem FRd.set5 {w : World} {A : Option Addr} {n c g : Nat} {fs : List Fct} (h : FRd w A n c fs) (hg : ∀ b off, A = some ⟨b, off, none⟩ → b ≠ g) (v0 v1 v2 v3 v4 : Value) : FRd (((((w.setCell ⟨g, 0, none⟩ v0).setCell ⟨g, 1, none⟩ v1).setCell ⟨g, 2, none⟩ v2).setCell ⟨g, 3, none⟩ v3).setCell ⟨g, 4, none⟩ v4) A n c fs := by
  refine ⟨⟨h.recs.1, fun h0 => ?_⟩, h.plain, h.nil⟩
  obtain ⟨b, off, e, hb, hc⟩ := h.recs.2 h0
  have hne := hg b off e
  refine ⟨b, off, e, by simpa [World.setCell] using hb, fun i hi c hcc => ?_⟩
  rw [← hc i hi c hcc]
  exact World.cell?_of_block (a := ⟨b, off + i * 5 + c, none⟩) (((((Below.heap_setCell _ _ _ b hne).trans (Below.heap_setCell _ _ _ b hne)).trans (Below.heap_setCell _ _ _ b hne)).trans (Below.heap_setCell _ _ _ b hne)).trans (Below.heap_setCell _ _ _ b hne))
/-- What Apply returns for a new fact. -/
def ApRes (w : World) (q : Qt) (n : Nat) (fs : List Fct) (f : Fct) (e : Ending) (w' : World) : Prop := ∃ (I : Nat) (B : Option Addr) (d : Nat) (C : Option Addr) (m d2 : Nat) (ga gb : List Rq) (ba bb : Int), e = .returned (.tuple #[.agg #[.int .i64 q.id, .int .i64 q.vol, .int .i64 q.fr, .int .i64 q.tod, .slice B (n + 1) d], .slice C m d2, .int .i64 0]) ∧ BOk q (fs.take I ++ f :: fs.drop I) ∧ Settled fs q.vol ga ba ∧ Settled (fs.take I ++ f :: fs.drop I) q.vol gb bb ∧ (chgs ga gb).length = m ∧ w'.ownsRow w.heap.size 47 5 (.slice B (n + 1) d) (n + 1) (flat encF (fs.take I ++ f :: fs.drop I)) ∧ w'.ownsRow w.heap.size 58 3 (.slice C m d2) m (flat encG (chgs ga gb)) ∧ RowKit.Below w.heap.size w w'
/-- What Apply returns for a known fact. -/
def ApSame (w : World) (q : Qt) (n : Nat) (fs : List Fct) (e : Ending) (w' : World) : Prop := ∃ (B : Option Addr) (d : Nat), e = .returned (.tuple #[.agg #[.int .i64 q.id, .int .i64 q.vol, .int .i64 q.fr, .int .i64 q.tod, .slice B n d], .slice none 0 0, .int .i64 0]) ∧ w'.ownsRow w.heap.size 47 5 (.slice B n d) n (flat encF fs) ∧ RowKit.Below w.heap.size w w'
theorem mem_getF {fs : List Fct} {I : Nat} (h : I < fs.length) : fs[I]! ∈ fs := by rw [getElem!_pos fs I h]; exact List.getElem_mem _
theorem get_memF {fs : List Fct} {x : Fct} (h : x ∈ fs) : ∃ I, I < fs.length ∧ fs[I]! = x := by
  obtain ⟨i, hi, rfl⟩ := List.getElem_of_mem h
  exact ⟨i, hi, getElem!_pos fs i hi⟩

set_option maxRecDepth 100000 in
set_option maxHeartbeats 8000000 in
theorem apply_new (q : Qt) (A : Option Addr) (n c : Nat) (fs : List Fct) (f : Fct) (w : World) (h : FRd w A n c fs) (hok : BOk q fs) (hf : fErr q f = 0) (hnew : ∀ x ∈ fs, x.num ≠ f.num) (hl : fs.length < 200) :
    Calls Tryz.prog 21 #[.agg #[.int .i64 q.id, .int .i64 q.vol, .int .i64 q.fr, .int .i64 q.tod, .slice A n c], .agg #[.int .i64 f.num, .int .i64 f.kind, .int .i64 f.day, .int .i64 f.id, .int .i64 f.qty]] w (ApRes w q n fs f) := by
  have HOK := Lib.hid hok
  have HP := Lib.hid h.plain
  have HN0 := Lib.hid h.nil
  have HLN := Lib.hid h.recs.1
  have hn200 : n ≤ 200 := by have := hok.len; have := h.recs.1; omega
  have HV := Lib.hid (fun w' (hb : RowKit.Below w.heap.size w w') => bvalidate_any q A n c fs w' (h.recs.below hb) (by omega))
  have HVF := Lib.hid (fun w => validateFact_any q f w)
  rw [hok.err] at HV
  rw [hf] at HVF
  have HBS := Lib.hid (fun w' (hb : RowKit.Below w.heap.size w w') => bsearch_any A n c fs f.num w' (h.recs.below hb) (by omega) hok.asc)
  have HCLN := Lib.hid (fun w' (hb : RowKit.Below w.heap.size w w') => cloneF_any A n c fs w' (h.recs.below hb) h.plain (by omega) h.nil)
  have HR := Lib.hid h.recs
  clear h hok
  obtain ⟨W0, hW0⟩ : ∃ W, W = ((w.alloc (.cells #[.int .i64 q.id, .int .i64 q.vol, .int .i64 q.fr, .int .i64 q.tod, .slice A n c] 27)).alloc (.cells #[.int .i64 f.num, .int .i64 f.kind, .int .i64 f.day, .int .i64 f.id, .int .i64 f.qty] 47)).alloc (.cells #[.int .i64 0, .int .i64 0, .int .i64 0, .int .i64 0, .slice none 0 0] 27) := ⟨_, rfl⟩
  have hb0 : RowKit.Below w.heap.size w W0 := by rw [hW0]; exact (((Below.refl _ _).alloc (Nat.le_refl _) _).alloc (by simp) _).alloc (by simp; omega) _
  have hx0 : Bl W0 w.heap.size 27 #[.int .i64 q.id, .int .i64 q.vol, .int .i64 q.fr, .int .i64 q.tod, .slice A n c] := by rw [hW0]; exact ((Bl.new w _ _).alloc _).alloc _
  have hf0 : Bl W0 (w.heap.size + 1) 47 #[.int .i64 f.num, .int .i64 f.kind, .int .i64 f.day, .int .i64 f.id, .int .i64 f.qty] := by rw [hW0]; have := (Bl.new (w.alloc (.cells #[.int .i64 q.id, .int .i64 q.vol, .int .i64 q.fr, .int .i64 q.tod, .slice A n c] 27)) 47 #[.int .i64 f.num, .int .i64 f.kind, .int .i64 f.day, .int .i64 f.id, .int .i64 f.qty]).alloc (.cells #[.int .i64 0, .int .i64 0, .int .i64 0, .int .i64 0, .slice none 0 0] 27); simpa using this
  have hr0 : Bl W0 (w.heap.size + 1 + 1) 27 #[.int .i64 0, .int .i64 0, .int .i64 0, .int .i64 0, .slice none 0 0] := by rw [hW0]; have := Bl.new ((w.alloc (.cells #[.int .i64 q.id, .int .i64 q.vol, .int .i64 q.fr, .int .i64 q.tod, .slice A n c] 27)).alloc (.cells #[.int .i64 f.num, .int .i64 f.kind, .int .i64 f.day, .int .i64 f.id, .int .i64 f.qty] 47)) 27 #[.int .i64 0, .int .i64 0, .int .i64 0, .int .i64 0, .slice none 0 0]; simpa using this
  go_enter Tryz.func21, Tryz.ntmps21
  go_upto_region 1 with (fail)
  rw [← hW0]
  clear hW0
  have p0 : W0.cell? ⟨w.heap.size, 0, none⟩ = some (.int .i64 q.id) := hx0.cell 0
  have p1 : W0.cell? ⟨w.heap.size, 1, none⟩ = some (.int .i64 q.vol) := hx0.cell 1
  have p2 : W0.cell? ⟨w.heap.size, 2, none⟩ = some (.int .i64 q.fr) := hx0.cell 2
  have p3 : W0.cell? ⟨w.heap.size, 3, none⟩ = some (.int .i64 q.tod) := hx0.cell 3
  have p4 : W0.cell? ⟨w.heap.size, 4, none⟩ = some (.slice A n c) := hx0.cell 4
  go_wp2_with fail
  refine (HV.out _ hb0).mono ?_
  rintro e w1 ⟨rfl, hb1⟩
  have hB1 := hb0.trans (hb1.mono hb0.size)
  have hx1 := hx0.keep hb1
  have hf1 := hf0.keep hb1
  have hr1 := hr0.keep hb1
  clear p0 p1 p2 p3 p4 hx0 hf0 hr0 hb0 hb1 HV
  have p0 : w1.cell? ⟨w.heap.size, 0, none⟩ = some (.int .i64 q.id) := hx1.cell 0
  have p1 : w1.cell? ⟨w.heap.size, 1, none⟩ = some (.int .i64 q.vol) := hx1.cell 1
  have p2 : w1.cell? ⟨w.heap.size, 2, none⟩ = some (.int .i64 q.fr) := hx1.cell 2
  have p3 : w1.cell? ⟨w.heap.size, 3, none⟩ = some (.int .i64 q.tod) := hx1.cell 3
  have p4 : w1.cell? ⟨w.heap.size, 4, none⟩ = some (.slice A n c) := hx1.cell 4
  have f0 : w1.cell? ⟨w.heap.size + 1, 0, none⟩ = some (.int .i64 f.num) := hf1.cell 0
  have f1 : w1.cell? ⟨w.heap.size + 1, 1, none⟩ = some (.int .i64 f.kind) := hf1.cell 1
  have f2 : w1.cell? ⟨w.heap.size + 1, 2, none⟩ = some (.int .i64 f.day) := hf1.cell 2
  have f3 : w1.cell? ⟨w.heap.size + 1, 3, none⟩ = some (.int .i64 f.id) := hf1.cell 3
  have f4 : w1.cell? ⟨w.heap.size + 1, 4, none⟩ = some (.int .i64 f.qty) := hf1.cell 4
  go_wp2_with fail
  refine (HVF.out _).mono ?_
  rintro e w2 ⟨rfl, hb2⟩
  have hB2 := hB1.trans (hb2.mono hB1.size)
  have hx2 := hx1.keep hb2
  have hf2 := hf1.keep hb2
  have hr2 := hr1.keep hb2
  clear p0 p1 p2 p3 p4 f0 f1 f2 f3 f4 hx1 hf1 hr1 hB1 hb2 HVF
  have p4 : w2.cell? ⟨w.heap.size, 4, none⟩ = some (.slice A n c) := hx2.cell 4
  have f0 : w2.cell? ⟨w.heap.size + 1, 0, none⟩ = some (.int .i64 f.num) := hf2.cell 0
  go_wp2_with fail
  refine (HBS.out _ hB2).mono ?_
  rintro e w3 ⟨I, fb, rfl, hI, hI1, hI2, hfb, hb3⟩
  have hB3 := hB2.trans (hb3.mono hB2.size)
  have hx3 := hx2.keep hb3
  have hf3 := hf2.keep hb3
  have hr3 := hr2.keep hb3
  have HI1 := Lib.hid hI1
  have HI2 := Lib.hid hI2
  have HFB := Lib.hid hfb
  clear p4 f0 hx2 hf2 hr2 hB2 hb3 HBS hI1 hI2 hfb
  obtain rfl : fb = false := by
    cases fb
    · rfl
    · have := HFB.out.1 rfl
      exact absurd this.2 (hnew _ (mem_getF this.1))
  have HI3 : Hid (∀ k, I ≤ k → k < fs.length → f.num < fs[k]!.num) := fun k h1 h2 => by
    have := HI2.out k h1 h2
    have := hnew _ (mem_getF h2)
    omega
  have HBO := Lib.hid (HOK.out.ins hf hl (fun k h1 _ => HI1.out k h1) HI3.out)
  have hln : n < 200 := by have := HLN.out; omega
  have HIN : Hid (I ≤ n) := by have := HLN.out; show _ ≤ _; omega
  clear hnew hl hf HI2 HFB hI
  have p0 : w3.cell? ⟨w.heap.size, 0, none⟩ = some (.int .i64 q.id) := hx3.cell 0
  have p1 : w3.cell? ⟨w.heap.size, 1, none⟩ = some (.int .i64 q.vol) := hx3.cell 1
  have p2 : w3.cell? ⟨w.heap.size, 2, none⟩ = some (.int .i64 q.fr) := hx3.cell 2
  have p3 : w3.cell? ⟨w.heap.size, 3, none⟩ = some (.int .i64 q.tod) := hx3.cell 3
  have p4 : w3.cell? ⟨w.heap.size, 4, none⟩ = some (.slice A n c) := hx3.cell 4
  have HX3 := Lib.hid hx3
  have HCL2 : Hid (∀ wx, RowKit.Below w3.heap.size w3 wx → Calls Tryz.prog 35 #[.slice A n c] wx fun e w' => ∃ (B : Option Addr) (d : Nat), e = .returned (.slice B n d) ∧ w'.ownsRow w3.heap.size 47 5 (.slice B n d) n (flat encF fs) ∧ RowKit.Below w3.heap.size w3 w' ∧ RowKit.Below wx.heap.size wx w') := fun wx hb => (HCLN.out wx (hB3.trans (hb.mono hB3.size))).mono fun e w' ⟨B, d, h1, h2, h3⟩ => ⟨B, d, h1, own_mono h2 hb.size, hb.trans (h3.mono hb.size), h3⟩
  have HBN : Hid (RowKit.Below w3.heap.size w3 w3.drew) := (Below.refl _ _).drew
  have HBA : Hid (RowKit.Below w3.heap.size w3 (w3.alloc (.cells #[.int .i64 0, .int .i64 0, .int .i64 0, .int .i64 0, .slice none 0 0] 27)).drew) := ((Below.refl _ _).alloc (Nat.le_refl _) _).drew
  have lx := hx3.lt
  clear hx3 HCLN
  go_upto_region 8 with (fail)
  go_cut [11] (fun v wx => ∃ (g : Nat) (B : Option Addr) (d : Nat), v = .pointer (some ⟨g, 0, none⟩) ∧ w3.heap.size ≤ g ∧ Bl wx g 27 #[.int .i64 q.id, .int .i64 q.vol, .int .i64 q.fr, .int .i64 q.tod, .slice B n d] ∧ wx.ownsRow w3.heap.size 47 5 (.slice B n d) n (flat encF fs) ∧ RowKit.Below w3.heap.size w3 wx)
  case first =>
    go_region_held3 (fun w' => w'.cell? ⟨w.heap.size, 0, none⟩ = some (.int .i64 q.id) ∧ w'.cell? ⟨w.heap.size, 1, none⟩ = some (.int .i64 q.vol) ∧ w'.cell? ⟨w.heap.size, 2, none⟩ = some (.int .i64 q.fr) ∧ w'.cell? ⟨w.heap.size, 3, none⟩ = some (.int .i64 q.tod) ∧ w'.cell? ⟨w.heap.size, 4, none⟩ = some (.slice A n c))
      (first
        | go_keep
        | exact ⟨(HX3.out.keep hb5.out).cell 0, (HX3.out.keep hb5.out).cell 1, (HX3.out.keep hb5.out).cell 2, (HX3.out.keep hb5.out).cell 3, (HX3.out.keep hb5.out).cell 4⟩
        | exact ⟨((HX3.out.keep hb5.out).alloc _).cell 0, ((HX3.out.keep hb5.out).alloc _).cell 1, ((HX3.out.keep hb5.out).alloc _).cell 2, ((HX3.out.keep hb5.out).alloc _).cell 3, ((HX3.out.keep hb5.out).alloc _).cell 4⟩)
      (first
        | (go_at_call 35; with_reducible (refine (HCL2.out _ ?_).mono ?_); with_reducible (exact HBN.out); rintro e w5 ⟨B5, d5, rfl, ho5', hb5', _⟩; have hb5 := Lib.hid hb5'; have ho5 := Lib.hid ho5'; clear hb5' ho5'; have l5 : w.heap.size < w5.heap.size := Nat.lt_of_lt_of_le lx hb5.out.size)
        | (go_at_call 35; with_reducible (refine (HCL2.out _ ?_).mono ?_); with_reducible (exact HBA.out); rintro e w5 ⟨B5, d5, rfl, ho5', hb5', hbx'⟩; have hb5 := Lib.hid hb5'; have ho5 := Lib.hid ho5'; clear hb5' ho5'; have l5 : w.heap.size < w5.heap.size := Nat.lt_of_lt_of_le lx hb5.out.size; have HZ5 := Lib.hid (((Bl.new w3 27 #[.int .i64 0, .int .i64 0, .int .i64 0, .int .i64 0, .slice none 0 0]).drew).keep hbx'); clear hbx'; have z0 : w5.cell? ⟨w3.heap.size, 0, none⟩ = some (.int .i64 0) := HZ5.out.c0; have zf0 : w5.frozen? ⟨w3.heap.size, 0, none⟩ = false := HZ5.out.free 0; have z1 : w5.cell? ⟨w3.heap.size, 1, none⟩ = some (.int .i64 0) := HZ5.out.c1; have zf1 : w5.frozen? ⟨w3.heap.size, 1, none⟩ = false := HZ5.out.free 1; have z2 : w5.cell? ⟨w3.heap.size, 2, none⟩ = some (.int .i64 0) := HZ5.out.c2; have zf2 : w5.frozen? ⟨w3.heap.size, 2, none⟩ = false := HZ5.out.free 2; have z3 : w5.cell? ⟨w3.heap.size, 3, none⟩ = some (.int .i64 0) := HZ5.out.c3; have zf3 : w5.frozen? ⟨w3.heap.size, 3, none⟩ = false := HZ5.out.free 3; have z4 : w5.cell? ⟨w3.heap.size, 4, none⟩ = some (.slice none 0 0) := HZ5.out.c4; have zf4 : w5.frozen? ⟨w3.heap.size, 4, none⟩ = false := HZ5.out.free 4; have ln : w.heap.size ≠ w3.heap.size := Nat.ne_of_lt lx; have ln2 : w3.heap.size ≠ w.heap.size := Nat.ne_of_gt lx))
    · go_wp2_with fail
      go_meet
      exact ⟨_, B5, d5, rfl, hb5.out.size, Bl.new _ _ _, own_alloc ho5.out _, hb5.out.alloc hb5.out.size _⟩
    · go_wp2_with fail
      go_meet
      exact ⟨_, B5, d5, rfl, Nat.le_refl _, set5_bl HZ5.out _ _ _ _ _, own5 ho5.out (fun g hg e => own_apart ho5.out HZ5.out (by decide) (by rw [hg, e])) _ _ _ _ _, put5 hb5.out (Nat.le_refl _) _ _ _ _ _⟩
  case rest =>
    obtain ⟨g, B, d, rfl, hg, hnx, hown, hb4⟩ := hcut
    have hB4 := hB3.trans (hb4.mono hB3.size)
    have hx4 := HX3.out.keep hb4
    have hf4 := hf3.keep hb4
    have hr4 := hr3.keep hb4
    have hfl := hf3.lt
    have hrl := hr3.lt
    have hnl := hnx.lt
    have hs3 := hB3.size
    clear p0 p1 p2 p3 p4 HX3 HCL2 HBN HBA hf3 hr3 hb4 lx

    have x4 : wc.cell? ⟨w.heap.size, 4, none⟩ = some (.slice A n c) := hx4.cell 4
    have n4 : wc.cell? ⟨g, 4, none⟩ = some (.slice B n d) := hnx.cell 4
    have f0 : wc.cell? ⟨w.heap.size + 1, 0, none⟩ = some (.int .i64 f.num) := hf4.cell 0
    have f1 : wc.cell? ⟨w.heap.size + 1, 1, none⟩ = some (.int .i64 f.kind) := hf4.cell 1
    have f2 : wc.cell? ⟨w.heap.size + 1, 2, none⟩ = some (.int .i64 f.day) := hf4.cell 2
    have f3 : wc.cell? ⟨w.heap.size + 1, 3, none⟩ = some (.int .i64 f.id) := hf4.cell 3
    have f4 : wc.cell? ⟨w.heap.size + 1, 4, none⟩ = some (.int .i64 f.qty) := hf4.cell 4
    have hln' : (n : Int) < 200 := by omega
    go_upto_region 9 with (fail)
    go_quiet (fail)
    go_upto_region 15 with (fail)
    have hB5 : RowKit.Below w.heap.size w (wc.drewN nq) := below_drewN hB4 nq
    have hx5 := hx4.drewN nq
    have hf5 := hf4.drewN nq
    have hr5 := hr4.drewN nq
    have hnx5 := hnx.drewN nq
    have hown5 := own_drewN hown nq
    have hsz5 : w3.heap.size ≤ (wc.drewN nq).heap.size := by show _ ≤ wc.heap.size; omega
    clear x4 n4 f0 f1 f2 f3 f4 hB4 hx4 hf4 hr4 hnx hown hnl
    generalize wc.drewN nq = W5 at *
    have hgne : ∀ a, B = some a → W5.heap.size ≠ a.block := fun a ha e => by
      have := own_lt hown5 a.block (by rw [ha]; rfl)
      omega
    have hapx : some g ≠ (Value.slice B n d).ownBlock := own_apart hown5 hnx5 (by decide)
    have hapr : some (w.heap.size + 1 + 1) ≠ (Value.slice B n d).ownBlock := own_apart hown5 hr5 (by decide)
    have hlt2 : ∀ k, k < w3.heap.size → some k ≠ (Value.slice B n d).ownBlock := fun k hk e => by have := own_base hown5 k e.symm; omega
    have HINS := Lib.hid (insert_any w3.heap.size B n d I fs f W5.heap.size (W5.alloc (.cells #[.int .i64 f.num, .int .i64 f.kind, .int .i64 f.day, .int .i64 f.id, .int .i64 f.qty] 47)) (own_alloc hown5 _) HLN.out (Bl.new W5 _ _) hgne HIN.out (by omega) (by simp; omega))
    have n4 : W5.cell? ⟨g, 4, none⟩ = some (.slice B n d) := hnx5.cell 4
    have f0 : W5.cell? ⟨w.heap.size + 1, 0, none⟩ = some (.int .i64 f.num) := hf5.cell 0
    have f1 : W5.cell? ⟨w.heap.size + 1, 1, none⟩ = some (.int .i64 f.kind) := hf5.cell 1
    have f2 : W5.cell? ⟨w.heap.size + 1, 2, none⟩ = some (.int .i64 f.day) := hf5.cell 2
    have f3 : W5.cell? ⟨w.heap.size + 1, 3, none⟩ = some (.int .i64 f.id) := hf5.cell 3
    have f4 : W5.cell? ⟨w.heap.size + 1, 4, none⟩ = some (.int .i64 f.qty) := hf5.cell 4
    have hgl := hnx5.lt
    have hrl5 := hr5.lt
    go_wp2_with fail
    refine HINS.out.mono ?_
    rintro e w7 ⟨B7, d7, rfl, ho7, hb7, hk7⟩
    have hk7' : ∀ k, k < W5.heap.size → some k ≠ (Value.slice B n d).ownBlock → w7.heap[k]? = W5.heap[k]? := fun k h1 h2 => (hk7 k (by simp; omega) h2).trans (Below.heap_alloc W5 _ k h1)
    have hnx7 : Bl w7 g 27 #[.int .i64 q.id, .int .i64 q.vol, .int .i64 q.fr, .int .i64 q.tod, .slice B n d] := (hk7' g hgl hapx).trans hnx5
    have hr7 : Bl w7 (w.heap.size + 1 + 1) 27 #[.int .i64 0, .int .i64 0, .int .i64 0, .int .i64 0, .slice none 0 0] := (hk7' _ hrl5 hapr).trans hr5
    have hx7 : Bl w7 w.heap.size 27 #[.int .i64 q.id, .int .i64 q.vol, .int .i64 q.fr, .int .i64 q.tod, .slice A n c] := (hk7' _ (by omega) (hlt2 _ (by omega))).trans hx5
    have hB7 : RowKit.Below w.heap.size w w7 := (hB5.alloc (by omega) _).trans (hb7.mono hs3)
    have hs7 : w3.heap.size ≤ w7.heap.size := by have := hb7.size; simp at this; omega
    have hap7 := own_apart ho7 hnx7 (by decide)
    have hap7r := own_apart ho7 hr7 (by decide)
    clear hk7 hk7' hb7 hnx5 hr5 hx5 hf5 hB5 hown5 n4 f0 f1 f2 f3 f4 HINS hgne hapx hapr hlt2 hgl hrl5 hsz5
    have n4 : w7.cell? ⟨g, 4, none⟩ = some (.slice B n d) := hnx7.cell 4
    have nf4 : w7.frozen? ⟨g, 4, none⟩ = false := hnx7.free 4
    go_upto_region 16 with (fail)
    have hnx8 : Bl (w7.setCell ⟨g, 4, none⟩ (.slice B7 (n + 1) d7)) g 27 #[.int .i64 q.id, .int .i64 q.vol, .int .i64 q.fr, .int .i64 q.tod, .slice B7 (n + 1) d7] := by have := hnx7.put 4 (.slice B7 (n + 1) d7); simpa using this
    have hr8 := hr7.far (p := ⟨g, 4, none⟩) (by show w.heap.size + 1 + 1 ≠ g; omega) (.slice B7 (n + 1) d7)
    have hx8 := hx7.far (p := ⟨g, 4, none⟩) (by show w.heap.size ≠ g; omega) (.slice B7 (n + 1) d7)
    have hB8 : RowKit.Below w.heap.size w (w7.setCell ⟨g, 4, none⟩ (.slice B7 (n + 1) d7)) := hB7.setCell (p := ⟨g, 4, none⟩) (by show w.heap.size ≤ g; omega) _
    have ho8 : (w7.setCell ⟨g, 4, none⟩ (.slice B7 (n + 1) d7)).ownsRow w3.heap.size 47 5 (.slice B7 (n + 1) d7) (n + 1) (flat encF (fs.take I ++ f :: fs.drop I)) := own_of_block ho7 fun k hk => Below.heap_setCell w7 ⟨g, 4, none⟩ _ k (fun e => hap7 (by rw [hk, e]))
    have hs8 : w3.heap.size ≤ (w7.setCell ⟨g, 4, none⟩ (.slice B7 (n + 1) d7)).heap.size := by simpa [World.setCell] using hs7
    clear n4 nf4 hnx7 hr7 hx7 hB7 ho7 hs7 hap7
    generalize w7.setCell ⟨g, 4, none⟩ (.slice B7 (n + 1) d7) = W8 at *
    have hil : (fs.take I ++ f :: fs.drop I).length = n + 1 := by rw [(perm_ins fs f I).length_eq]; simp [HLN.out]
    have HO8 := Lib.hid ho8
    have HR8 := Lib.hid hr8
    have HX8 := Lib.hid hx8
    have HN8 := Lib.hid hnx8
    have HB8 := Lib.hid hB8
    have HCH : Hid (∀ wx, RowKit.Below W8.heap.size W8 wx → Calls Tryz.prog 37 #[.agg #[.int .i64 q.id, .int .i64 q.vol, .int .i64 q.fr, .int .i64 q.tod, .slice A n c], .agg #[.int .i64 q.id, .int .i64 q.vol, .int .i64 q.fr, .int .i64 q.tod, .slice B7 (n + 1) d7]] wx fun e w' => ∃ (C : Option Addr) (m d2 : Nat) (ga gb : List Rq) (ba bb : Int), e = .returned (.slice C m d2) ∧ Settled fs q.vol ga ba ∧ Settled (fs.take I ++ f :: fs.drop I) q.vol gb bb ∧ (chgs ga gb).length = m ∧ w'.ownsRow W8.heap.size 58 3 (.slice C m d2) m (flat encG (chgs ga gb)) ∧ RowKit.Below W8.heap.size W8 w') := fun wx hb => by
      have hra : Recs encF 5 wx A n fs := HR.out.below (hB8.trans (hb.mono hB8.size))
      have hrb : Recs encF 5 wx B7 (n + 1) (fs.take I ++ f :: fs.drop I) := (Recs.of_own encF_len ho8 hil).below hb
      exact (changes_any q.id q.vol q.fr q.tod A n c fs q.id q.vol q.fr q.tod B7 (n + 1) d7 _ wx hra hrb HOK.out.good HBO.out.good).mono fun e w' ⟨C, m, d2, ga, gb, ba, bb, h1, h2, h3, h4, h5, h6⟩ => ⟨C, m, d2, ga, gb, ba, bb, h1, h2, h3, h4, own_mono h5 hb.size, hb.trans (h6.mono hb.size)⟩
    have HBD : Hid (RowKit.Below W8.heap.size W8 W8.drew) := (Below.refl _ _).drew
    have ng : w.heap.size + 1 + 1 ≠ g := by omega
    have ng2 : g ≠ w.heap.size + 1 + 1 := by omega
    have ng3 : w.heap.size ≠ g := by omega
    have ng4 : g ≠ w.heap.size := by omega
    have ng5 : w.heap.size ≠ w.heap.size + 1 + 1 := by omega
    have ng6 : w.heap.size + 1 + 1 ≠ w.heap.size := by omega
    have x0 : W8.cell? ⟨w.heap.size, 0, none⟩ = some (.int .i64 q.id) := hx8.c0
    have x1 : W8.cell? ⟨w.heap.size, 1, none⟩ = some (.int .i64 q.vol) := hx8.c1
    have x2 : W8.cell? ⟨w.heap.size, 2, none⟩ = some (.int .i64 q.fr) := hx8.c2
    have x3 : W8.cell? ⟨w.heap.size, 3, none⟩ = some (.int .i64 q.tod) := hx8.c3
    have x4 : W8.cell? ⟨w.heap.size, 4, none⟩ = some (.slice A n c) := hx8.c4
    have y0 : W8.cell? ⟨g, 0, none⟩ = some (.int .i64 q.id) := hnx8.c0
    have y1 : W8.cell? ⟨g, 1, none⟩ = some (.int .i64 q.vol) := hnx8.c1
    have y2 : W8.cell? ⟨g, 2, none⟩ = some (.int .i64 q.fr) := hnx8.c2
    have y3 : W8.cell? ⟨g, 3, none⟩ = some (.int .i64 q.tod) := hnx8.c3
    have y4 : W8.cell? ⟨g, 4, none⟩ = some (.slice B7 (n + 1) d7) := hnx8.c4
    have l1 := hnx8.lt
    have l2 := hx8.lt
    have l3 := hr8.lt
    clear hr8 hx8 hnx8 hB8 ho8
    go_region_held3 (fun w' => w'.cell? ⟨w.heap.size, 0, none⟩ = some (.int .i64 q.id) ∧ w'.cell? ⟨w.heap.size, 1, none⟩ = some (.int .i64 q.vol) ∧ w'.cell? ⟨w.heap.size, 2, none⟩ = some (.int .i64 q.fr) ∧ w'.cell? ⟨w.heap.size, 3, none⟩ = some (.int .i64 q.tod) ∧ w'.cell? ⟨w.heap.size, 4, none⟩ = some (.slice A n c) ∧ w'.cell? ⟨g, 0, none⟩ = some (.int .i64 q.id) ∧ w'.cell? ⟨g, 1, none⟩ = some (.int .i64 q.vol) ∧ w'.cell? ⟨g, 2, none⟩ = some (.int .i64 q.fr) ∧ w'.cell? ⟨g, 3, none⟩ = some (.int .i64 q.tod) ∧ w'.cell? ⟨g, 4, none⟩ = some (.slice B7 (n + 1) d7))
      (first
        | go_keep
        | exact ⟨(HX8.out.keep hb9.out).c0, (HX8.out.keep hb9.out).c1, (HX8.out.keep hb9.out).c2, (HX8.out.keep hb9.out).c3, (HX8.out.keep hb9.out).c4, (HN8.out.keep hb9.out).c0, (HN8.out.keep hb9.out).c1, (HN8.out.keep hb9.out).c2, (HN8.out.keep hb9.out).c3, (HN8.out.keep hb9.out).c4⟩
        | exact ⟨((HX8.out.keep hb9.out).far5 ng5 _ _ _ _ _).c0, ((HX8.out.keep hb9.out).far5 ng5 _ _ _ _ _).c1, ((HX8.out.keep hb9.out).far5 ng5 _ _ _ _ _).c2, ((HX8.out.keep hb9.out).far5 ng5 _ _ _ _ _).c3, ((HX8.out.keep hb9.out).far5 ng5 _ _ _ _ _).c4, ((HN8.out.keep hb9.out).far5 ng2 _ _ _ _ _).c0, ((HN8.out.keep hb9.out).far5 ng2 _ _ _ _ _).c1, ((HN8.out.keep hb9.out).far5 ng2 _ _ _ _ _).c2, ((HN8.out.keep hb9.out).far5 ng2 _ _ _ _ _).c3, ((HN8.out.keep hb9.out).far5 ng2 _ _ _ _ _).c4⟩)
      (first
        | (go_at_call 37; with_reducible (refine (HCH.out _ ?_).mono ?_); with_reducible (exact HBD.out); rintro e w9 ⟨C9, m9, d9, ga, gb, ba, bb, rfl, hs9, ht9, hl9, ho9', hb9'⟩; have hb9 := Lib.hid hb9'; have ho9 := Lib.hid ho9'; have HS9 := Lib.hid hs9; have HT9 := Lib.hid ht9; have HL9 := Lib.hid hl9; clear hb9' ho9' hs9 ht9 hl9; have HR9 := Lib.hid (HR8.out.keep hb9.out); have r0 : w9.cell? ⟨w.heap.size + 1 + 1, 0, none⟩ = some (.int .i64 0) := HR9.out.c0; have r1 : w9.cell? ⟨w.heap.size + 1 + 1, 1, none⟩ = some (.int .i64 0) := HR9.out.c1; have r2 : w9.cell? ⟨w.heap.size + 1 + 1, 2, none⟩ = some (.int .i64 0) := HR9.out.c2; have r3 : w9.cell? ⟨w.heap.size + 1 + 1, 3, none⟩ = some (.int .i64 0) := HR9.out.c3; have r4 : w9.cell? ⟨w.heap.size + 1 + 1, 4, none⟩ = some (.slice none 0 0) := HR9.out.c4; have rf0 : w9.frozen? ⟨w.heap.size + 1 + 1, 0, none⟩ = false := HR9.out.free 0; have rf1 : w9.frozen? ⟨w.heap.size + 1 + 1, 1, none⟩ = false := HR9.out.free 1; have rf2 : w9.frozen? ⟨w.heap.size + 1 + 1, 2, none⟩ = false := HR9.out.free 2; have rf3 : w9.frozen? ⟨w.heap.size + 1 + 1, 3, none⟩ = false := HR9.out.free 3; have rf4 : w9.frozen? ⟨w.heap.size + 1 + 1, 4, none⟩ = false := HR9.out.free 4; have l9 : w.heap.size + 1 + 1 < w9.heap.size := HR9.out.lt))
    go_wp2
    refine bodyPost_ret (v := .tuple #[.agg #[.int .i64 q.id, .int .i64 q.vol, .int .i64 q.fr, .int .i64 q.tod, .slice B7 (n + 1) d7], .slice C9 m9 d9, .int .i64 0]) (by simp [results, Tryz.results21, go_sem, r0, r1, r2, r3, r4]) rfl ?_
    have hw8 : w.heap.size ≤ W8.heap.size := by omega
    exact ⟨I, B7, d7, C9, m9, d9, ga, gb, ba, bb, rfl, HBO.out, HS9.out, HT9.out, HL9.out, own5 (own_mono (own_below HO8.out hb9.out) hs3) (fun k hk e => own_apart HO8.out HR8.out (by decide) (by rw [hk, e])) _ _ _ _ _, own5 (own_mono ho9.out hw8) (fun k hk e => own_apart ho9.out HR9.out (by decide) (by rw [hk, e])) _ _ _ _ _, put5 (HB8.out.trans (hb9.out.mono hw8)) (by omega) _ _ _ _ _⟩

end Go.Proofs.YtemhiifgplaldaaGreat

namespace Go.Proofs.YtemhiifgplaldaaGreat
open Go.RowKit
set_option linter.unusedVariables false

abbrev NoF : List Value → Value → Prop := fun _ _ => True
abbrev NoR : List Value → Value → List Nat → World → Prop := fun _ _ _ _ => True
theorem NoR.loc {w0 : World} : Loc w0 NoR := fun _ _ _ _ _ _ _ _ _ _ => trivial
/-- A row of the call's own. -/
def OwnR (N : Nat) (T : TypeId) (k n : Nat) (xs : List Value) : List Value → Value → List Nat → World → Prop := fun _ v f w => w.ownsRow N T k v n xs ∧ f = v.ownBlock.toList
theorem OwnR.loc {w0 : World} {N : Nat} {T : TypeId} {k n : Nat} {xs : List Value} : Loc w0 (OwnR N T k n xs) := by
  rintro l v f w w' h1 h2 h3 h4 ⟨h5, rfl⟩
  exact ⟨own_of_block h5 fun j hj => (h4 j (by simp [hj])).2.2, rfl⟩
/-- A slice written out. -/
def LitR (T : TypeId) (cs : Array Value) (n : Nat) : List Value → Value → List Nat → World → Prop := fun _ v f w => ∃ g, v = .slice (some ⟨g, 0, none⟩) n n ∧ f = [g] ∧ Bl w g T cs
theorem LitR.loc {w0 : World} {T : TypeId} {n : Nat} {cs : Array Value} : Loc w0 (LitR T cs n) := by
  rintro l v f w w' h1 h2 h3 h4 ⟨g, rfl, rfl, h5⟩
  exact ⟨g, rfl, rfl, (h4 g (by simp)).2.2.trans h5⟩
/-- A box. -/
def PtrR (T : TypeId) (cs : Array Value) : List Value → Value → List Nat → World → Prop := fun _ v f w => ∃ g, v = .pointer (some ⟨g, 0, none⟩) ∧ f = [g] ∧ Bl w g T cs
theorem PtrR.loc {w0 : World} {T : TypeId} {cs : Array Value} : Loc w0 (PtrR T cs) := by
  rintro l v f w w' h1 h2 h3 h4 ⟨g, rfl, rfl, h5⟩
  exact ⟨g, rfl, rfl, (h4 g (by simp)).2.2.trans h5⟩
theorem FRd.of_block {w w' : World} {A : Option Addr} {n c : Nat} {fs : List Fct} (h : FRd w A n c fs) (hs : w.heap.size ≤ w'.heap.size) (hb : ∀ b, (Value.slice A n c).ownBlock = some b → w'.heap[b]? = w.heap[b]?) : FRd w' A n c fs := by
  refine ⟨⟨h.recs.1, fun h0 => ?_⟩, h.plain, h.nil⟩
  obtain ⟨b, off, e, hb', hc⟩ := h.recs.2 h0
  refine ⟨b, off, e, by omega, fun i hi c hcc => ?_⟩
  rw [← hc i hi c hcc]
  exact World.cell?_of_block (a := ⟨b, off + i * 5 + c, none⟩) (hb b (by rw [e]; rfl))
/-- The facts of a book that were applied. -/
def BkP (q : Qt) (n : Nat) (l : List Fct) (B : Option Addr) (d : Nat) (f : List Nat) (w : World) : Prop := ∃ fs, BOk q fs ∧ fs.Perm l ∧ FRd w B n d fs ∧ f = (Value.slice B n d).ownBlock.toList
theorem BkP.of_block {w w' : World} {q : Qt} {n : Nat} {l : List Fct} {B : Option Addr} {d : Nat} {f : List Nat} (h : BkP q n l B d f w) (hs : w.heap.size ≤ w'.heap.size) (hb : ∀ b ∈ f, w'.heap[b]? = w.heap[b]?) : BkP q n l B d f w' := by
  obtain ⟨fs, h1, h2, h3, rfl⟩ := h
  exact ⟨fs, h1, h2, h3.of_block hs fun b e => hb b (by simp [e]), rfl⟩
def BkR (q : Qt) (n : Nat) (l : List Fct) (mk : Value → Value) : List Value → Value → List Nat → World → Prop := fun _ v f w => ∃ B d, v = mk (.agg #[.int .i64 q.id, .int .i64 q.vol, .int .i64 q.fr, .int .i64 q.tod, .slice B n d]) ∧ BkP q n l B d f w
theorem BkR.loc {w0 : World} {q : Qt} {n : Nat} {l : List Fct} {mk : Value → Value} : Loc w0 (BkR q n l mk) := by
  rintro _ v f w w' h1 h2 h3 h4 ⟨B, d, rfl, h5⟩
  exact ⟨B, d, rfl, h5.of_block h3 fun b hb => (h4 b hb).2.2⟩
/-- A book in a box: its address is the first value that was read. -/
def BoxR (q : Qt) (n : Nat) (l : List Fct) : List Value → Value → List Nat → World → Prop := fun vs _ f w => ∃ g B d f2, vs[0]? = some (.pointer (some ⟨g, 0, none⟩)) ∧ f = g :: f2 ∧ Bl w g 27 #[.int .i64 q.id, .int .i64 q.vol, .int .i64 q.fr, .int .i64 q.tod, .slice B n d] ∧ BkP q n l B d f2 w
theorem BoxR.loc {w0 : World} {q : Qt} {n : Nat} {l : List Fct} : Loc w0 (BoxR q n l) := by
  rintro _ v f w w' h1 h2 h3 h4 ⟨g, B, d, f2, e1, rfl, h5, h6⟩
  exact ⟨g, B, d, f2, e1, rfl, (h4 g (by simp)).2.2.trans h5, h6.of_block h3 fun b hb => (h4 b (by simp [hb])).2.2⟩
/-- A slice written out is a row of the call's own. -/
theorem own_lit {w : World} {g base : Nat} {t : TypeId} {size n : Nat} {xs : List Value} (h : Bl w g t xs.toArray) (hb : base ≤ g) (hl : xs.length = n * size) (hn : n ≤ 1000) : w.ownsRow base t size (.slice (some ⟨g, 0, none⟩) n n) n xs :=
  ⟨hl, .inr ⟨g, n, xs.toArray, rfl, hb, h, Nat.le_refl _, by unfold maxLen; omega, by simpa using hl, by simp [← hl]⟩⟩
theorem FRd.lt {w : World} {A : Option Addr} {n c : Nat} {fs : List Fct} (h : FRd w A (n + 1) c fs) (g : Nat) (hg : (Value.slice A (n + 1) c).ownBlock = some g) : g < w.heap.size := by
  obtain ⟨b, off, rfl, hb, _⟩ := h.recs.2 (by omega)
  simp [Value.ownBlock] at hg
  omega
/-- Five cells of a block are stored; the other blocks are as they were. -/
theorem heap_set5 (w : World) (g : Nat) (v0 v1 v2 v3 v4 : Value) (k : Nat) (h : k ≠ g) : (((((w.setCell ⟨g, 0, none⟩ v0).setCell ⟨g, 1, none⟩ v1).setCell ⟨g, 2, none⟩ v2).setCell ⟨g, 3, none⟩ v3).setCell ⟨g, 4, none⟩ v4).heap[k]? = w.heap[k]? :=
  ((((Below.heap_setCell _ _ _ k h).trans (Below.heap_setCell _ _ _ k h)).trans (Below.heap_setCell _ _ _ k h)).trans (Below.heap_setCell _ _ _ k h)).trans (Below.heap_setCell _ _ _ k h)
theorem size_set5 (w : World) (g : Nat) (v0 v1 v2 v3 v4 : Value) : (((((w.setCell ⟨g, 0, none⟩ v0).setCell ⟨g, 1, none⟩ v1).setCell ⟨g, 2, none⟩ v2).setCell ⟨g, 3, none⟩ v3).setCell ⟨g, 4, none⟩ v4).heap.size = w.heap.size := by simp [World.setCell]
/-- A book is stored into its box. -/
theorem Finds.box {js : List Job} {a0 : Act} {w0 : World} {fact : Nat → List Value → Value → Prop} {res : Nat → List Value → Value → List Nat → World → Prop} {kb kv i : Nat} {a : Act} {w : World} {vs : Nat → Value} {fp : Nat → List Nat}
    (h : Finds js a0 w0 fact res i ⟨none, [kb, kv], [kb, kv]⟩ a w vs fp) (hne : kv ≠ kb) {q : Qt} {n : Nat} {l : List Fct} {g : Nat} {B : Option Addr} {d : Nat} {z0 z1 z2 z3 z4 : Value} (hg : vs kb = .pointer (some ⟨g, 0, none⟩)) (hf : fp kb = [g])
    (hb : Bl w g 27 #[z0, z1, z2, z3, z4]) (hk : BkP q n l B d (fp kv) w) (h1 : fact i ([kb, kv].map vs) undef) (h2 : ∀ f w', BoxR q n l ([kb, kv].map vs) undef f w' → res i ([kb, kv].map vs) undef f w') :
    Leaves w0 fact res i ⟨none, [kb, kv], [kb, kv]⟩ w vs fp undef (g :: fp kv) (((((w.setCell ⟨g, 0, none⟩ (.int .i64 q.id)).setCell ⟨g, 1, none⟩ (.int .i64 q.vol)).setCell ⟨g, 2, none⟩ (.int .i64 q.fr)).setCell ⟨g, 3, none⟩ (.int .i64 q.tod)).setCell ⟨g, 4, none⟩ (.slice B n d)) := by
  have hgb : w0.heap.size ≤ g := (h.own kb (by simp) g (by rw [hf]; simp)).1
  have hap : ∀ b ∈ fp kv, b ≠ g := fun b hb e => h.apart kv (by simp) kb (by simp) hne b hb (by rw [hf, e]; simp)
  refine ⟨put5 h.below hgb _ _ _ _ _, by rw [size_set5]; exact Nat.le_refl _, fun k hk hn => heap_set5 w g _ _ _ _ _ k (fun e => hn kb (by simp) (by rw [hf, e]; simp)), h1, h2 _ _ ⟨g, B, d, fp kv, by simp [hg], rfl, set5_bl hb _ _ _ _ _, hk.of_block (by rw [size_set5]; exact Nat.le_refl _) fun b hb => heap_set5 w g _ _ _ _ _ b (hap b hb)⟩, fun k hk => ?_⟩
  rw [size_set5]
  rcases List.mem_cons.1 hk with rfl | hk
  · exact ⟨hb.lt, .inl ⟨kb, by simp, by rw [hf]; simp⟩⟩
  · exact ⟨(h.own kv (by simp) k hk).2, .inl ⟨kv, by simp, hk⟩⟩
theorem rd_bl {w : World} {g n : Nat} {t : TypeId} {size : Nat} {xs : List Value} (h : Bl w g t xs.toArray) (hl : xs.length = n * size) : Rd w size (some ⟨g, 0, none⟩) n xs :=
  ⟨hl, fun _ => ⟨g, 0, rfl, h.lt, fun j u hu => by rw [Nat.zero_add, h.cell j, ← Array.getElem?_toList]; exact hu⟩⟩
end Go.Proofs.YtemhiifgplaldaaGreat

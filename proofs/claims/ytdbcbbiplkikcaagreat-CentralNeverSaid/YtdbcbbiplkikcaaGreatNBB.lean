/-
  The contract of customsmade.Start: two quotas, two guarantees. No statement of the seat is proved here. No conditions.
  A region that draws its order and calls functions that change one block that was there before: one invariant for all orders. No statement of the seat is proved here.
-/
import Derived.Test.YtdbcbbiplkikcaaGreatNBA
import Derived.Test.YtdbcbbiplkikcaaGreatNAX
import Derived.Test.YtdbcbbiplkikcaaGreatNAU
import Derived.Test.YtdbcbbiplkikcaaGreatNAE
import Derived.Test.YtdbcbbiplkikcaaGreatNAB
namespace Go.Proofs.YtdbcbbiplkikcaaGreat
open Go.RowKit
set_option linter.unusedVariables false

def qsS : List Qt := [⟨1, 25, 0, 40⟩, ⟨2, 12, 2, 30⟩]
def gsS : List Gb := [⟨⟨1, 3000, 1000000⟩, none, 0, 0, []⟩, ⟨⟨2, 400, 500000⟩, none, 0, 0, []⟩]
def cS : Cen := ⟨[], qsS.map bk0, gsS, [], []⟩
theorem errS : newErr qsS gsS = 0 := by decide
theorem cS_inv : CInv 0 cS := by
  refine ⟨Nat.le_refl _, Nat.le_refl _, Nat.le_refl _, (fun r hr => by cases hr), by decide, by decide, fun b hb => ?_, fun g hg => ?_⟩
  · have hb' : b ∈ [bk0 ⟨1, 25, 0, 40⟩, bk0 ⟨2, 12, 2, 30⟩] := hb
    rcases List.mem_cons.1 hb' with rfl | hb'
    · exact ⟨BOk.nil (by decide), Nat.le_refl _⟩
    · rw [List.mem_singleton] at hb'
      subst hb'
      exact ⟨BOk.nil (by decide), Nat.le_refl _⟩
  · have hg' : g ∈ gsS := hg
    rcases List.mem_cons.1 hg' with rfl | hg'
    · exact gErr_ok (by decide)
    · rw [List.mem_singleton] at hg'
      subst hg'
      exact gErr_ok (by decide)
theorem rrd_of {α : Type} [Inhabited α] {enc : α → List Value} {k : Nat} {w : World} {A : Option Addr} {n : Nat} {xs : List α} (h : Recs enc k w A n xs) (hn : 0 < n) : RRd enc k w A n xs := by
  obtain ⟨b, off, rfl, _⟩ := h.2 hn
  exact ⟨h, .inr ⟨b, off, rfl⟩, fun e => by cases e⟩
theorem recs_far {α : Type} [Inhabited α] {enc : α → List Value} {k : Nat} {w w' : World} {A : Option Addr} {n g : Nat} {xs : List α} {z0 z1 z2 z3 z4 : Option Addr} {n0 n1 n2 n3 n4 c0 c1 c2 c3 c4 : Nat} (h : Recs enc k w A n xs) (hk : 0 < k) (hi : ∀ x, ∃ v : Int, (enc x)[0]! = .int .i64 v) (hg : Bl w g 37 #[.slice z0 n0 c0, .slice z1 n1 c1, .slice z2 n2 c2, .slice z3 n3 c3, .slice z4 n4 c4]) (hs : w.heap.size ≤ w'.heap.size) (hb : ∀ b, b ≠ g → w'.heap[b]? = w.heap[b]?) : Recs enc k w' A n xs := by
  refine ⟨h.1, fun h0 => ?_⟩
  obtain ⟨b, off, e, hbw, hc⟩ := h.2 h0
  have hne : b ≠ g := by
    rintro rfl
    have h1 := hc 0 h0 0 hk
    obtain ⟨v, hv⟩ := hi xs[0]!
    rw [hv, hg.cell] at h1
    generalize off + 0 * k + 0 = j at h1
    match j, h1 with
    | 0, h1 => exact absurd h1 (by simp)
    | 1, h1 => exact absurd h1 (by simp)
    | 2, h1 => exact absurd h1 (by simp)
    | 3, h1 => exact absurd h1 (by simp)
    | 4, h1 => exact absurd h1 (by simp)
    | j + 5, h1 => exact absurd h1 (by simp)
  exact ⟨b, off, e, by omega, fun i hi2 c hc2 => by rw [← hc i hi2 c hc2]; exact World.cell?_of_block (a := ⟨b, off + i * k + c, none⟩) (hb b hne)⟩
theorem recs_lit {α : Type} [Inhabited α] {enc : α → List Value} {k : Nat} (hk : ∀ x, (enc x).length = k) {w : World} {g : Nat} {T : TypeId} {xs : List α} (h : Bl w g T (flat enc xs).toArray) : Recs enc k w (some ⟨g, 0, none⟩) xs.length xs := by
  refine ⟨rfl, fun _ => ⟨g, 0, rfl, h.lt, fun i hi c hc => ?_⟩⟩
  rw [h.cell, Nat.zero_add, List.getElem?_toArray, flat_get hk xs i c hi hc]
def StartRes (w : World) (e : Ending) (w' : World) : Prop := ∃ H : Hds, e = .returned (.agg #[.slice H.s.A H.s.n H.s.c, .slice H.q.A H.q.n H.q.c, .slice H.g.A H.g.n H.g.c, .slice H.k.A H.k.n H.k.c, .slice H.m.A H.m.n H.m.c]) ∧ CenAt w' H cS ∧ RowKit.Below w.heap.size w w'

set_option maxRecDepth 100000 in
set_option maxHeartbeats 8000000 in
theorem start37_any (w : World) : Calls Tryz.prog 11 #[] w (StartRes w) := by
  obtain ⟨W2, hW2⟩ : ∃ W, W = ((w.alloc (.cells #[.slice none 0 0, .slice none 0 0, .slice none 0 0, .slice none 0 0, .slice none 0 0] 37)).alloc (.cells #[.int .i64 1, .int .i64 25, .int .i64 0, .int .i64 40, .int .i64 2, .int .i64 12, .int .i64 2, .int .i64 30] 27)).alloc (.cells #[.int .i64 1, .int .i64 3000, .int .i64 1000000, .slice none 0 0, .int .i64 2, .int .i64 400, .int .i64 500000, .slice none 0 0] 30) := ⟨_, rfl⟩
  have hr : Bl W2 w.heap.size 37 #[.slice none 0 0, .slice none 0 0, .slice none 0 0, .slice none 0 0, .slice none 0 0] := by rw [hW2]; exact ((Bl.new w _ _).alloc _).alloc _
  have hq : Bl W2 (w.heap.size + 1) 27 #[.int .i64 1, .int .i64 25, .int .i64 0, .int .i64 40, .int .i64 2, .int .i64 12, .int .i64 2, .int .i64 30] := by rw [hW2]; have := (Bl.new (w.alloc (.cells #[.slice none 0 0, .slice none 0 0, .slice none 0 0, .slice none 0 0, .slice none 0 0] 37)) 27 #[.int .i64 1, .int .i64 25, .int .i64 0, .int .i64 40, .int .i64 2, .int .i64 12, .int .i64 2, .int .i64 30]).alloc (.cells #[.int .i64 1, .int .i64 3000, .int .i64 1000000, .slice none 0 0, .int .i64 2, .int .i64 400, .int .i64 500000, .slice none 0 0] 30); simpa using this
  have hg : Bl W2 (w.heap.size + 1 + 1) 30 #[.int .i64 1, .int .i64 3000, .int .i64 1000000, .slice none 0 0, .int .i64 2, .int .i64 400, .int .i64 500000, .slice none 0 0] := by rw [hW2]; have := Bl.new ((w.alloc (.cells #[.slice none 0 0, .slice none 0 0, .slice none 0 0, .slice none 0 0, .slice none 0 0] 37)).alloc (.cells #[.int .i64 1, .int .i64 25, .int .i64 0, .int .i64 40, .int .i64 2, .int .i64 12, .int .i64 2, .int .i64 30] 27)) 30 #[.int .i64 1, .int .i64 3000, .int .i64 1000000, .slice none 0 0, .int .i64 2, .int .i64 400, .int .i64 500000, .slice none 0 0]; simpa using this
  have hb0 : RowKit.Below w.heap.size w W2 := by rw [hW2]; exact (((Below.refl _ _).alloc (Nat.le_refl _) _).alloc (by simp) _).alloc (by simp; omega) _
  have HC := Lib.hid (rnew37_any (some ⟨w.heap.size + 1, 0, none⟩) 2 2 (some ⟨w.heap.size + 1 + 1, 0, none⟩) 2 2 qsS gsS W2 (recs_lit (xs := qsS) encQ_len hq) (recs_lit (xs := gsS) encGu_len hg) (fun g hg' => by
    have hg2 : g ∈ gsS := hg'
    rcases List.mem_cons.1 hg2 with rfl | hg2
    · exact Recs.nil
    · rw [List.mem_singleton] at hg2; subst hg2; exact Recs.nil))
  have HR := Lib.hid hr
  have HB := Lib.hid hb0
  have HW := Lib.hid hW2
  clear hr hq hg hb0 hW2
  go_enter Tryz.func11, Tryz.ntmps11
  go_wp2_with (fail)
  rw [← HW.out]
  refine HC.out.mono ?_
  rintro e w3 ⟨H, er, rfl, he, hok, _, hb3⟩
  obtain rfl : er = 0 := he.trans errS
  obtain ⟨es, ek, em, rq, rg, _⟩ := hok rfl
  have HRQ := Lib.hid rq
  have HRG := Lib.hid rg
  have HES : Hid (H.s = ⟨none, 0, 0⟩ ∧ H.k = ⟨none, 0, 0⟩ ∧ H.m = ⟨none, 0, 0⟩) := ⟨es, ek, em⟩
  have HR3 := Lib.hid (HR.out.keep hb3)
  have HB3 := Lib.hid (HB.out.trans (hb3.mono HB.out.size))
  clear he hok es ek em rq rg hb3
  have hba : RowKit.Below w3.heap.size w3 (w3.alloc (.cells #[.slice H.s.A H.s.n H.s.c, .slice H.q.A H.q.n H.q.c, .slice H.g.A H.g.n H.g.c, .slice H.k.A H.k.n H.k.c, .slice H.m.A H.m.n H.m.c] 37)) := (Below.refl _ _).alloc (Nat.le_refl _) _
  have HX4 := Lib.hid (Bl.new w3 37 #[.slice H.s.A H.s.n H.s.c, .slice H.q.A H.q.n H.q.c, .slice H.g.A H.g.n H.g.c, .slice H.k.A H.k.n H.k.c, .slice H.m.A H.m.n H.m.c])
  have HR4 := Lib.hid (HR3.out.keep hba)
  have HRQ4 := Lib.hid (HRQ.out.below hba)
  have HRG4 := Lib.hid (HRG.out.below hba)
  have HB4 : Hid (RowKit.Below w.heap.size w (w3.alloc (.cells #[.slice H.s.A H.s.n H.s.c, .slice H.q.A H.q.n H.q.c, .slice H.g.A H.g.n H.g.c, .slice H.k.A H.k.n H.k.c, .slice H.m.A H.m.n H.m.c] 37))) := HB3.out.alloc HB3.out.size _
  have hs3 : w.heap.size < w3.heap.size := HR3.out.lt
  clear hba HR3 HRQ HRG HB3
  go_upto_region 2 with (fail)
  generalize w3.alloc (.cells #[.slice H.s.A H.s.n H.s.c, .slice H.q.A H.q.n H.q.c, .slice H.g.A H.g.n H.g.c, .slice H.k.A H.k.n H.k.c, .slice H.m.A H.m.n H.m.c] 37) = w4 at *
  generalize w3.heap.size = g4 at *
  have x0 : w4.cell? ⟨g4, 0, none⟩ = some (.slice H.s.A H.s.n H.s.c) := HX4.out.c0
  have r0 : w4.cell? ⟨w.heap.size, 0, none⟩ = some (.slice none 0 0) := HR4.out.c0
  have rf0 : w4.frozen? ⟨w.heap.size, 0, none⟩ = false := HR4.out.free 0
  have x1 : w4.cell? ⟨g4, 1, none⟩ = some (.slice H.q.A H.q.n H.q.c) := HX4.out.c1
  have r1 : w4.cell? ⟨w.heap.size, 1, none⟩ = some (.slice none 0 0) := HR4.out.c1
  have rf1 : w4.frozen? ⟨w.heap.size, 1, none⟩ = false := HR4.out.free 1
  have x2 : w4.cell? ⟨g4, 2, none⟩ = some (.slice H.g.A H.g.n H.g.c) := HX4.out.c2
  have r2 : w4.cell? ⟨w.heap.size, 2, none⟩ = some (.slice none 0 0) := HR4.out.c2
  have rf2 : w4.frozen? ⟨w.heap.size, 2, none⟩ = false := HR4.out.free 2
  have x3 : w4.cell? ⟨g4, 3, none⟩ = some (.slice H.k.A H.k.n H.k.c) := HX4.out.c3
  have r3 : w4.cell? ⟨w.heap.size, 3, none⟩ = some (.slice none 0 0) := HR4.out.c3
  have rf3 : w4.frozen? ⟨w.heap.size, 3, none⟩ = false := HR4.out.free 3
  have x4 : w4.cell? ⟨g4, 4, none⟩ = some (.slice H.m.A H.m.n H.m.c) := HX4.out.c4
  have r4 : w4.cell? ⟨w.heap.size, 4, none⟩ = some (.slice none 0 0) := HR4.out.c4
  have rf4 : w4.frozen? ⟨w.heap.size, 4, none⟩ = false := HR4.out.free 4
  go_wp2
  refine bodyPost_ret (v := .agg #[.slice H.s.A H.s.n H.s.c, .slice H.q.A H.q.n H.q.c, .slice H.g.A H.g.n H.g.c, .slice H.k.A H.k.n H.k.c, .slice H.m.A H.m.n H.m.c]) (by simp [results, Tryz.results11, go_sem, r0, r1, r2, r3, r4]) rfl ?_
  have hfar : ∀ b, b ≠ w.heap.size → (((((w4.setCell ⟨w.heap.size, 0, none⟩ (.slice H.s.A H.s.n H.s.c)).setCell ⟨w.heap.size, 1, none⟩ (.slice H.q.A H.q.n H.q.c)).setCell ⟨w.heap.size, 2, none⟩ (.slice H.g.A H.g.n H.g.c)).setCell ⟨w.heap.size, 3, none⟩ (.slice H.k.A H.k.n H.k.c)).setCell ⟨w.heap.size, 4, none⟩ (.slice H.m.A H.m.n H.m.c)).heap[b]? = w4.heap[b]? := fun b hb => heap_set5 hb _ _ _ _ _
  have hsz : w4.heap.size ≤ (((((w4.setCell ⟨w.heap.size, 0, none⟩ (.slice H.s.A H.s.n H.s.c)).setCell ⟨w.heap.size, 1, none⟩ (.slice H.q.A H.q.n H.q.c)).setCell ⟨w.heap.size, 2, none⟩ (.slice H.g.A H.g.n H.g.c)).setCell ⟨w.heap.size, 3, none⟩ (.slice H.k.A H.k.n H.k.c)).setCell ⟨w.heap.size, 4, none⟩ (.slice H.m.A H.m.n H.m.c)).heap.size := by simp [World.setCell]
  have hq5 := recs_far HRQ4.out (by omega) (fun x => ⟨x.q.id, rfl⟩) HR4.out hsz hfar
  have hg5 := recs_far HRG4.out (by omega) (fun x => ⟨x.h.id, rfl⟩) HR4.out hsz hfar
  have hqn : H.q.n = 2 := hq5.1.symm
  have hgn : H.g.n = 2 := hg5.1.symm
  refine ⟨H, rfl, ⟨?_, rrd_of hq5 (by omega), rrd_of hg5 (by omega), ?_, ?_, fun b hb => ?_, fun g hg => ?_⟩, put5 HB4.out (Nat.le_refl _) _ _ _ _ _⟩
  · rw [HES.out.1]; exact RRd.empty _ _ _
  · rw [HES.out.2.1]; exact RRd.empty _ _ _
  · rw [HES.out.2.2]; exact RRd.empty _ _ _
  · have hb' : b ∈ [bk0 ⟨1, 25, 0, 40⟩, bk0 ⟨2, 12, 2, 30⟩] := hb
    rcases List.mem_cons.1 hb' with rfl | hb'
    · exact FRd.empty _
    · rw [List.mem_singleton] at hb'; subst hb'; exact FRd.empty _
  · have hg' : g ∈ gsS := hg
    rcases List.mem_cons.1 hg' with rfl | hg'
    · exact RRd.empty _ _ _
    · rw [List.mem_singleton] at hg'; subst hg'; exact RRd.empty _ _ _
end Go.Proofs.YtdbcbbiplkikcaaGreat

namespace Go.Proofs.YtdbcbbiplkikcaaGreat
open Go.RowKit
set_option linter.unusedVariables false

structure RelK (gK : Nat) (zz : Option Obj → Prop) (w0 w : World) : Prop where
  old : gK < w0.heap.size
  kp : Kp gK w0 w
  is : zz w.heap[gK]?
section
variable {gK : Nat} {zz : Option Obj → Prop} {w0 w w' : World}
theorem RelK.size (h : RelK gK zz w0 w) : w0.heap.size ≤ w.heap.size := h.kp.size
theorem RelK.ne (h : RelK gK zz w0 w) {g : Nat} (hg : w0.heap.size ≤ g) : g ≠ gK := fun e => by have := h.old; omega
theorem RelK.lt (h : RelK gK zz w0 w) : gK < w.heap.size := Nat.lt_of_lt_of_le h.old h.kp.size
theorem RelK.under (h : RelK gK zz w0 w) (hb : RowKit.Below w.heap.size w w') : RelK gK zz w0 w' := ⟨h.old, h.kp.below hb, by rw [hb.block gK h.lt]; exact h.is⟩
theorem RelK.alloc (h : RelK gK zz w0 w) (o : Obj) : RelK gK zz w0 (w.alloc o) := h.under ((Below.refl _ _).alloc (Nat.le_refl _) o)
theorem RelK.grown (h : RelK gK zz w0 w) {row : Option Nat} (hg : w.grownBy w' row) (hr : ∀ g, row = some g → w0.heap.size ≤ g) : RelK gK zz w0 w' :=
  ⟨h.old, ⟨hg.os.trans h.kp.os, hg.tape.trans h.kp.tape, hg.output.trans h.kp.output, Nat.le_trans h.kp.size hg.size, fun k hk hne => (hg.block k (Nat.lt_of_lt_of_le hk h.kp.size) (fun e => by have := hr k e.symm; omega)).trans (h.kp.block k hk hne)⟩, by rw [hg.block gK h.lt (fun e => by have := hr gK e.symm; have := h.old; omega)]; exact h.is⟩
theorem RelK.only (h : RelK gK zz w0 w) (ho : Only gK w w') (hz : zz w'.heap[gK]?) : RelK gK zz w0 w' :=
  ⟨h.old, ⟨ho.os.trans h.kp.os, ho.tape.trans h.kp.tape, ho.output.trans h.kp.output, by rw [ho.size]; exact h.kp.size, fun k hk hne => (ho.block k hne).trans (h.kp.block k hk hne)⟩, hz⟩
theorem RelK.start (h : gK < w0.heap.size) (hz : zz w0.heap[gK]?) : RelK gK zz w0 w0.drew := ⟨h, (Kp.refl gK w0).drew, hz⟩
theorem RelK.bl (h : RelK gK zz w0 w) {g : Nat} {T : TypeId} {cs : Array Value} (hb : Bl w0 g T cs) (hne : g ≠ gK) : Bl w g T cs := (h.kp.block g hb.lt hne).trans hb
theorem RelK.set (h : RelK gK zz w0 w) {p : Addr} (hp : w0.heap.size ≤ p.block) (v : Value) : RelK gK zz w0 (w.setCell p v) :=
  ⟨h.old, ⟨h.kp.os, h.kp.tape, h.kp.output, by simpa [World.setCell] using h.kp.size, fun k hk hne => (Below.heap_setCell w p v k (by omega)).trans (h.kp.block k hk hne)⟩, by rw [Below.heap_setCell w p v gK (by have := h.old; omega)]; exact h.is⟩
end
section
variable (gK : Nat) (zz : Option Obj → Prop) (P : Program) (ops : Array Oper) (Q : Exit → Act → World → Prop) (js : List Job) (a0 : Act) (w0 : World)
variable (fact : Nat → List Value → Value → Prop) (res : Nat → List Value → Value → List Nat → World → Prop)

structure FindsK (i0 : Nat) (j : Job) (a : Act) (w : World) (vs : Nat → Value) (fp : Nat → List Nat) : Prop where
  below : RelK gK zz w0 w
  old : ∀ t : Tmp, (∀ k q, js[k]? = some q → q.dst = some t → waits js js.length k i0 = true) → a.eval (.tmp t) = a0.eval (.tmp t)
  dep : ∀ i ∈ j.deps, ∀ q, js[i]? = some q → (∀ d, q.dst = some d → a.eval (.tmp d) = vs i)
  val : ∀ i ∈ j.deps, fact i (dv js i vs) (vs i)
  mem : ∀ i ∈ j.eats, res i (dv js i vs) (vs i) (fp i) w
  own : ∀ i ∈ j.eats, ∀ g ∈ fp i, w0.heap.size ≤ g ∧ g < w.heap.size
  apart : ∀ i ∈ j.eats, ∀ k ∈ j.eats, i ≠ k → ∀ g ∈ fp i, g ∉ fp k

structure LeavesK (i : Nat) (j : Job) (w : World) (vs : Nat → Value) (fp : Nat → List Nat) (v : Value) (f : List Nat) (w' : World) : Prop where
  below : RelK gK zz w0 w'
  size : w.heap.size ≤ w'.heap.size
  block : ∀ g, g ≠ gK → g < w.heap.size → (∀ k ∈ j.eats, g ∉ fp k) → w'.heap[g]? = w.heap[g]?
  val : fact i (j.deps.map vs) v
  mem : res i (j.deps.map vs) v f w'
  own : ∀ g ∈ f, g < w'.heap.size ∧ ((∃ k ∈ j.eats, g ∈ fp k) ∨ w.heap.size ≤ g)

def StepJK (i : Nat) : Prop :=
  ∀ j o, js[i]? = some j → ops[i]? = some o → ∀ (a : Act) (w : World) (vs : Nat → Value) (fp : Nat → List Nat) (K : Act → World → Prop),
    FindsK gK zz js a0 w0 fact res i j a w vs fp →
    (∀ v w' f, LeavesK gK zz w0 fact res i j w vs fp v f w' → K (a.put o.dst v) w') → Oper.wp P o a w K Q

structure InvJK (listed : Array Bool) (a : Act) (w : World) (vs : Nat → Value) (fp : Nat → List Nat) : Prop where
  size : listed.size = ops.size
  frame : a = putJ (number js 0) (fun i => listed.getD i false) vs a0
  below : RelK gK zz w0 w
  deps : ∀ i j, js[i]? = some j → listed.getD i false = true → ∀ d ∈ j.deps, listed.getD d false = true
  val : ∀ i, listed.getD i false = true → fact i (dv js i vs) (vs i)
  mem : ∀ i, listed.getD i false = true → (∀ k q, js[k]? = some q → listed.getD k false = true → i ∉ q.eats) → res i (dv js i vs) (vs i) (fp i) w ∧ ∀ g ∈ fp i, w0.heap.size ≤ g ∧ g < w.heap.size
  apart : ∀ i k, listed.getD i false = true → listed.getD k false = true → (∀ l q, js[l]? = some q → listed.getD l false = true → i ∉ q.eats) → (∀ l q, js[l]? = some q → listed.getD l false = true → k ∉ q.eats) → i ≠ k → ∀ g ∈ fp i, g ∉ fp k

end

theorem wp_region_sepK {gK : Nat} {zz : Option Obj → Prop} {P : Program} {ops : Array Oper} {Q : Exit → Act → World → Prop} {a0 : Act} {w0 : World} {id : Nat} (js : List Job) (fact : Nat → List Value → Value → Prop) (res : Nat → List Value → Value → List Nat → World → Prop)
    (hst : RelK gK zz w0 w0.drew) (hm : P.follows .mixedOrders = true) (hfit : fitsJ ops js = true) (hsz : ∀ q ∈ js, ∀ d, q.dst = some d → d < a0.tmps.size)
    (hloc : ∀ i l v f w w', RelK gK zz w0 w → RelK gK zz w0 w' → w.heap.size ≤ w'.heap.size → (∀ g ∈ f, w0.heap.size ≤ g ∧ g < w.heap.size ∧ w'.heap[g]? = w.heap[g]?) → res i l v f w → res i l v f w')
    (hstep : ∀ i, i < js.length → StepJK gK zz P ops Q js a0 w0 fact res i)
    (hfin : ∀ w vs fp, InvJK gK zz ops js a0 w0 fact res (Array.replicate ops.size true) (putJ (number js 0) (fun _ => true) vs a0) w vs fp → Q .normal (putJ (number js 0) (fun _ => true) vs a0) w) :
    (Code.region id ops true).wp P Q a0 w0 := by
  obtain ⟨hlen, hdst, hjob⟩ := fitsJ_spec hfit
  refine wp_region_any hm ?_
  refine wpAny_of_inv (fun listed a w => ∃ vs fp, InvJK gK zz ops js a0 w0 fact res listed a w vs fp) (fun _ _ _ ⟨_, _, h⟩ => h.size) ?_ ?_ _ _ _ _ ⟨fun _ => undef, fun _ => [], ?_⟩ (by simp)
  · rintro listed a w ⟨vs, fp, h⟩ hr
    have hall : ∀ i, i < ops.size → listed.getD i false = true := by
      intro i
      induction i using Nat.strongRecOn with
      | ind i ih =>
        intro hi
        cases hL : listed.getD i false with
        | true => rfl
        | false =>
          exfalso
          obtain ⟨o, ho, _, _, h4, _⟩ := hjob i (js[i]'(by omega)) (List.getElem?_eq_getElem _)
          have : i ∈ Region.ready .any ops listed := by
            rw [mem_ready]
            refine ⟨?_, o, ho, fun e he hb => ih e.on (h4 e he hb) (by have := h4 e he hb; omega)⟩
            have hs := h.size
            simp [Array.getD, hs, hi] at hL ⊢
            exact hL
          rw [hr] at this
          cases this
    have hlst : listed = Array.replicate ops.size true := by
      apply Array.ext
      · simp [h.size]
      · intro i h1 h2
        have := hall i (by rw [← h.size]; exact h1)
        simp [h1] at this ⊢
        exact this
    subst hlst
    have hfr : a = putJ (number js 0) (fun _ => true) vs a0 := by
      rw [h.frame]
      refine putJ_congr fun p hp => ⟨?_, fun _ => rfl⟩
      have := mem_number hp
      rw [Nat.sub_zero] at this
      have hlt : p.1 < js.length := (List.getElem?_eq_some_iff.1 this.2).1
      simp [hlen, hlt]
    subst hfr
    exact hfin _ _ _ h
  · rintro listed a w i ⟨vs, fp, h⟩ hi
    obtain ⟨hun, o, ho, haft⟩ := mem_ready.1 hi
    have hil : i < ops.size := (Array.getElem?_eq_some_iff.1 ho).1
    have hL : listed.getD i false = false := by
      have hs := h.size
      simp [Array.getD, hs, hil] at hun ⊢
      exact hun
    obtain ⟨j, hj⟩ : ∃ j, js[i]? = some j := ⟨_, List.getElem?_eq_getElem (by omega)⟩
    obtain ⟨o', ho', hd, hg, _, hdep, heat, honly⟩ := hjob i j hj
    rw [ho] at ho'
    injection ho' with ho'
    subst ho'
    have hjm : (i, j) ∈ number js 0 := by have := number_mem (k := 0) hj; rwa [Nat.zero_add] at this
    have hdl : ∀ d ∈ j.deps, listed.getD d false = true := fun d hd => by
      obtain ⟨e, he, hb, rfl⟩ := hdep d hd
      exact haft e he hb
    have heatl : ∀ d ∈ j.eats, ∀ k q, js[k]? = some q → listed.getD k false = true → d ∉ q.eats := fun d hd k q hk hkl => honly k q hk (fun e => by rw [e, hL] at hkl; cases hkl) d hd
    unfold wpOp
    simp only [ho]
    rw [if_pos (by simp [Region.wanted, hg])]
    refine .inl (hstep i (by omega) j o hj ho a w vs fp _ ?_ ?_)
    · refine ⟨h.below, fun t ht => ?_, fun k hk q hq d hd => ?_, fun k hk => h.val k (hdl k hk), fun k hk => (h.mem k (hdl k (heat k hk)) (heatl k hk)).1, fun k hk => (h.mem k (hdl k (heat k hk)) (heatl k hk)).2, fun k hk l hl hne => h.apart k l (hdl k (heat k hk)) (hdl l (heat l hl)) (heatl k hk) (heatl l hl) hne⟩
      · rw [h.frame]
        refine putJ_free' fun p hp hd => ?_
        have := mem_number hp
        rw [Nat.sub_zero] at this
        have hw := ht p.1 p.2 this.2 hd
        cases hp1 : listed.getD p.1 false with
        | false => rfl
        | true => have := waits_listed (L := fun i => listed.getD i false) (fun k j hj hk => h.deps k j hj hk) _ _ _ hw hp1; rw [hL] at this; cases this
      · rw [h.frame]
        have hm2 : (k, q) ∈ number js 0 := by have := number_mem (k := 0) hq; rwa [Nat.zero_add] at this
        exact putJ_at hdst hm2 (hdl k hk) hd (hsz q (List.mem_of_getElem? hq) d hd)
    · intro v w' f hl
      refine ⟨fun k => if k = i then v else vs k, fun k => if k = i then f else fp k, ?_⟩
      have hset := fun k => getD_set_eq listed (by rw [h.size]; exact hil : i < listed.size) k
      have halive : ∀ k, k ≠ i → (listed.setIfInBounds i true).getD k false = true → (∀ l q, js[l]? = some q → (listed.setIfInBounds i true).getD l false = true → k ∉ q.eats) → listed.getD k false = true ∧ (∀ l q, js[l]? = some q → listed.getD l false = true → k ∉ q.eats) ∧ k ∉ j.eats := fun k hk h1 h2 => by
        rw [hset, if_neg hk] at h1
        refine ⟨h1, fun l q hq hql => h2 l q hq (by rw [hset]; split <;> simp [hql]), h2 i j hj (by rw [hset, if_pos rfl])⟩
      -- what nobody takes over is apart from what is taken over
      have hap : ∀ k, listed.getD k false = true → (∀ l q, js[l]? = some q → listed.getD l false = true → k ∉ q.eats) → k ∉ j.eats → ∀ g ∈ fp k, ∀ l ∈ j.eats, g ∉ fp l := fun k h1 h2 h3 g hg l hl =>
        h.apart k l h1 (hdl l (heat l hl)) h2 (heatl l hl) (fun e => h3 (by rw [e]; exact hl)) g hg
      have hdv : ∀ k, k = i ∨ listed.getD k false = true → dv js k (fun k => if k = i then v else vs k) = dv js k vs := fun k hk => dv_congr fun q hq d hd2 => by
        have h1 : listed.getD d false = true := by
          rcases hk with rfl | hk
          · rw [hj] at hq; injection hq with hq; subst hq; exact hdl d hd2
          · exact h.deps k q hq hk d hd2
        have h2 : d ≠ i := fun e => by rw [e, hL] at h1; cases h1
        simp [h2]
      refine ⟨by simp [h.size], ?_, hl.below, fun k q hq hk d hd2 => ?_, fun k hk => ?_, fun k hk hal => ?_, fun k l hk hl2 hak hal hne => ?_⟩
      · rw [h.frame, hd, ← putJ_step hdst hjm hL v]
        refine putJ_congr fun p hp => ⟨?_, fun _ => rfl⟩
        rw [hset]
      · rw [hset]
        split
        · rfl
        · by_cases e : k = i
          · subst e; rw [hj] at hq; injection hq with hq; subst hq; exact hdl d hd2
          · rw [hset, if_neg e] at hk; exact h.deps k q hq hk d hd2
      · by_cases e : k = i
        · subst e
          rw [hdv k (.inl rfl), dv_some hj]
          simpa using hl.val
        · rw [hset, if_neg e] at hk
          rw [hdv k (.inr hk)]
          simp only [e, if_false]
          exact h.val k hk
      · by_cases e : k = i
        · subst e
          rw [hdv k (.inl rfl), dv_some hj]
          simp only [if_true]
          refine ⟨hl.mem, fun g hg => ⟨?_, (hl.own g hg).1⟩⟩
          rcases (hl.own g hg).2 with ⟨m, hm1, hm2⟩ | h3
          · exact ((h.mem m (hdl m (heat m hm1)) (heatl m hm1)).2 g hm2).1
          · exact Nat.le_trans h.below.size h3
        · obtain ⟨h1, h2, h3⟩ := halive k e hk hal
          rw [hdv k (.inr h1)]
          simp only [e, if_false]
          have h4 := h.mem k h1 h2
          refine ⟨hloc k _ _ _ w w' h.below hl.below hl.size (fun g hg => ⟨(h4.2 g hg).1, (h4.2 g hg).2, hl.block g (h.below.ne (h4.2 g hg).1) (h4.2 g hg).2 fun l hl2 => hap k h1 h2 h3 g hg l hl2⟩) h4.1, fun g hg => ⟨(h4.2 g hg).1, Nat.lt_of_lt_of_le (h4.2 g hg).2 hl.size⟩⟩
      · -- apart
        have key : ∀ k, k ≠ i → (listed.setIfInBounds i true).getD k false = true → (∀ l q, js[l]? = some q → (listed.setIfInBounds i true).getD l false = true → k ∉ q.eats) → ∀ g ∈ f, g ∉ fp k := fun k hki h1 h2 g hg hgk => by
          obtain ⟨h3, h4, h5⟩ := halive k hki h1 h2
          rcases (hl.own g hg).2 with ⟨m, hm1, hm2⟩ | h6
          · exact hap k h3 h4 h5 g hgk m hm1 hm2
          · have := ((h.mem k h3 h4).2 g hgk).2; omega
        by_cases e1 : k = i
        · subst e1
          have e2 : l ≠ k := fun e => hne e.symm
          simp only [if_true, e2, if_false]
          exact key l e2 hl2 hal
        · by_cases e2 : l = i
          · subst e2
            simp only [if_true, e1, if_false]
            intro g hg hg2
            exact key k e1 hk hak g hg2 hg
          · simp only [e1, e2, if_false]
            obtain ⟨h3, h4, _⟩ := halive k e1 hk hak
            obtain ⟨h5, h6, _⟩ := halive l e2 hl2 hal
            exact h.apart k l h3 h5 h4 h6 hne
  · have hnone : ∀ i, (Array.replicate ops.size false).getD i false = false := fun i => by
      simp [Array.getD]
    refine ⟨by simp, ?_, hst, fun i j hj hi => ?_, fun i hi => ?_, fun i hi => ?_, fun i k hi => ?_⟩
    · symm
      have : ∀ l : List (Nat × Job), putJ l (fun i => (Array.replicate ops.size false).getD i false) (fun _ => undef) a0 = a0 := fun l => by
        induction l with
        | nil => rfl
        | cons p r ih =>
          obtain ⟨k, q⟩ := p
          simp only [putJ]
          rw [if_neg (by rw [hnone]; simp)]
          exact ih
      exact this _
    · rw [hnone] at hi; cases hi
    · rw [hnone] at hi; cases hi
    · rw [hnone] at hi; cases hi
    · rw [hnone] at hi; cases hi

theorem InvJK.fin {gK : Nat} {zz : Option Obj → Prop} {ops : Array Oper} {js : List Job} {a0 : Act} {w0 : World} {fact : Nat → List Value → Value → Prop} {res : Nat → List Value → Value → List Nat → World → Prop} {a : Act} {w : World} {vs : Nat → Value} {fp : Nat → List Nat}
    (h : InvJK gK zz ops js a0 w0 fact res (Array.replicate ops.size true) a w vs fp) (i : Nat) (hi : i < ops.size) : fact i (dv js i vs) (vs i) := h.val i (by simp [hi])
theorem InvJK.finM {gK : Nat} {zz : Option Obj → Prop} {ops : Array Oper} {js : List Job} {a0 : Act} {w0 : World} {fact : Nat → List Value → Value → Prop} {res : Nat → List Value → Value → List Nat → World → Prop} {a : Act} {w : World} {vs : Nat → Value} {fp : Nat → List Nat}
    (h : InvJK gK zz ops js a0 w0 fact res (Array.replicate ops.size true) a w vs fp) (i : Nat) (hi : i < ops.size) (hu : (js.all fun q => !q.eats.contains i) = true) : res i (dv js i vs) (vs i) (fp i) w ∧ ∀ g ∈ fp i, w0.heap.size ≤ g ∧ g < w.heap.size :=
  h.mem i (by simp [hi]) fun k q hq _ hm => by
    rw [List.all_eq_true] at hu
    have := hu q (List.mem_of_getElem? hq)
    simp at this
    exact this hm

/-! The same by rows: an operation's job, what is known of its value, what memory it holds. -/
def LocK (gK : Nat) (zz : Option Obj → Prop) (w0 : World) (R : List Value → Value → List Nat → World → Prop) : Prop :=
  ∀ l v f w w', RelK gK zz w0 w → RelK gK zz w0 w' → w.heap.size ≤ w'.heap.size → (∀ g ∈ f, w0.heap.size ≤ g ∧ g < w.heap.size ∧ w'.heap[g]? = w.heap[g]?) → R l v f w → R l v f w'
def LocsK (gK : Nat) (zz : Option Obj → Prop) (w0 : World) : List Row → Prop
  | [] => True
  | r :: rs => LocK gK zz w0 r.res ∧ LocsK gK zz w0 rs
theorem LocsK.at_ {gK : Nat} {zz : Option Obj → Prop} {w0 : World} {rows : List Row} (h : LocsK gK zz w0 rows) : ∀ r ∈ rows, LocK gK zz w0 r.res := by
  induction rows with
  | nil => intro r hr; cases hr
  | cons x xs ih =>
    intro r hr
    rcases List.mem_cons.1 hr with rfl | hr
    · exact h.1
    · exact ih h.2 r hr
def StepsJK (gK : Nat) (zz : Option Obj → Prop) (P : Program) (ops : Array Oper) (Q : Exit → Act → World → Prop) (rows : List Row) (a0 : Act) (w0 : World) : List Row → Nat → Prop
  | [], _ => True
  | r :: rs, k => StepJK gK zz P ops Q (rj rows) a0 w0 (rf rows) (rr rows) k ∧ StepsJK gK zz P ops Q rows a0 w0 rs (k + 1)
theorem StepsJK.at_ {gK : Nat} {zz : Option Obj → Prop} {P : Program} {ops : Array Oper} {Q : Exit → Act → World → Prop} {rows : List Row} {a0 : Act} {w0 : World} {rs : List Row} {k : Nat} (h : StepsJK gK zz P ops Q rows a0 w0 rs k) (i : Nat) (hi : i < rs.length) : StepJK gK zz P ops Q (rj rows) a0 w0 (rf rows) (rr rows) (k + i) := by
  induction rs generalizing k i with
  | nil => cases hi
  | cons x xs ih =>
    cases i with
    | zero => exact h.1
    | succ i => have := ih h.2 i (by simpa using hi); rwa [show k + (i + 1) = k + 1 + i by omega]
theorem wp_region_rowsK {gK : Nat} {zz : Option Obj → Prop} {P : Program} {ops : Array Oper} {Q : Exit → Act → World → Prop} {a0 : Act} {w0 : World} {id : Nat} (rows : List Row)
    (hst : RelK gK zz w0 w0.drew) (hm : P.follows .mixedOrders = true) (hfit : fitsJ ops (rj rows) = true) (hsz : slotsOk (rj rows) a0.tmps.size = true)
    (hloc : LocsK gK zz w0 rows) (hstep : StepsJK gK zz P ops Q rows a0 w0 rows 0)
    (hfin : ∀ w vs fp, InvJK gK zz ops (rj rows) a0 w0 (rf rows) (rr rows) (Array.replicate ops.size true) (putJ (number (rj rows) 0) (fun _ => true) vs a0) w vs fp → Q .normal (putJ (number (rj rows) 0) (fun _ => true) vs a0) w) :
    (Code.region id ops true).wp P Q a0 w0 := by
  refine wp_region_sepK (rj rows) (rf rows) (rr rows) hst hm hfit (fun q hq d hd => ?_) (fun i l v f w w' h1 h2 h3 h4 h5 => ?_) (fun i hi => ?_) hfin
  · unfold slotsOk at hsz
    rw [List.all_eq_true] at hsz
    have := hsz q hq
    rw [hd] at this
    simpa using this
  · unfold rr at h5 ⊢
    cases hr : rows[i]? with
    | none => trivial
    | some r =>
      simp only [hr] at h5 ⊢
      exact hloc.at_ r (List.mem_of_getElem? hr) l v f w w' h1 h2 h3 h4 h5
  · have := hstep.at_ i (by simpa [rj] using hi)
    rwa [Nat.zero_add] at this

section
variable {gK : Nat} {zz : Option Obj → Prop} {P : Program} {ops : Array Oper} {Q : Exit → Act → World → Prop} {js : List Job} {a0 : Act} {w0 : World} {fact : Nat → List Value → Value → Prop} {res : Nat → List Value → Value → List Nat → World → Prop}

theorem step_ofK {i : Nat} {j : Job} {o : Oper} (hj : js[i]? = some j) (ho : ops[i]? = some o)
    (h : ∀ (a : Act) (w : World) (vs : Nat → Value) (fp : Nat → List Nat) (K : Act → World → Prop), FindsK gK zz js a0 w0 fact res i j a w vs fp →
      (∀ v w' f, LeavesK gK zz w0 fact res i j w vs fp v f w' → K (a.put o.dst v) w') → Oper.wp P o a w K Q) : StepJK gK zz P ops Q js a0 w0 fact res i := fun j' o' hj' ho' => by
  rw [hj] at hj'; injection hj' with hj'; subst hj'
  rw [ho] at ho'; injection ho' with ho'; subst ho'
  exact h
variable {i : Nat} {j : Job} {a : Act} {w : World} {vs : Nat → Value} {fp : Nat → List Nat}
theorem FindsK.ev (h : FindsK gK zz js a0 w0 fact res i j a w vs fp) (k d : Nat) (hk : j.deps.contains k = true) (hd : (js[k]?).bind (·.dst) = some d) : a.eval (.tmp d) = vs k := by
  cases hq : js[k]? with
  | none => rw [hq] at hd; cases hd
  | some q => rw [hq] at hd; exact h.dep k (by simpa using hk) q hq d hd
theorem FindsK.at_ (h : FindsK gK zz js a0 w0 fact res i j a w vs fp) (t : Nat) (ht : oldOk js i t = true) : a.eval (.tmp t) = a0.eval (.tmp t) :=
  h.old t fun k q hq e => by
    unfold oldOk at ht
    rw [List.all_eq_true] at ht
    have hm := number_mem (k := 0) hq
    rw [Nat.zero_add] at hm
    have := ht _ hm
    simp only [e, bne_self_eq_false, Bool.false_or] at this
    exact this
theorem FindsK.va (h : FindsK gK zz js a0 w0 fact res i j a w vs fp) (k : Nat) (hk : j.deps.contains k = true) : fact k (dv js k vs) (vs k) := h.val k (by simpa using hk)
theorem FindsK.me (h : FindsK gK zz js a0 w0 fact res i j a w vs fp) (k : Nat) (hk : j.eats.contains k = true) : res k (dv js k vs) (vs k) (fp k) w := h.mem k (by simpa using hk)
variable {v : Value} {f : List Nat} {w' : World}
theorem FindsK.only (h : FindsK gK zz js a0 w0 fact res i j a w vs fp) (h1 : fact i (j.deps.map vs) v) (h2 : res i (j.deps.map vs) v [] w) : LeavesK gK zz w0 fact res i j w vs fp v [] w :=
  ⟨h.below, Nat.le_refl _, fun _ _ _ _ => rfl, h1, h2, fun g hg => by cases hg⟩
theorem FindsK.hand (h : FindsK gK zz js a0 w0 fact res i j a w vs fp) (k : Nat) (hk' : j.eats.contains k = true) (h1 : fact i (j.deps.map vs) v) (h2 : res i (j.deps.map vs) v (fp k) w) : LeavesK gK zz w0 fact res i j w vs fp v (fp k) w :=
  have hk : k ∈ j.eats := by simpa using hk'
  ⟨h.below, Nat.le_refl _, fun _ _ _ _ => rfl, h1, h2, fun g hg => ⟨(h.own k hk g hg).2, .inl ⟨k, hk, hg⟩⟩⟩
theorem FindsK.made (h : FindsK gK zz js a0 w0 fact res i j a w vs fp) (o : Obj) (h1 : fact i (j.deps.map vs) v) (h2 : res i (j.deps.map vs) v [w.heap.size] (w.alloc o)) : LeavesK gK zz w0 fact res i j w vs fp v [w.heap.size] (w.alloc o) :=
  ⟨h.below.alloc o, by simp, fun g _ hg _ => Below.heap_alloc w o g hg, h1, h2, fun g hg => by
    rw [List.mem_singleton] at hg; subst hg; exact ⟨by simp, .inr (Nat.le_refl _)⟩⟩
theorem FindsK.under (h : FindsK gK zz js a0 w0 fact res i j a w vs fp) (hb : RowKit.Below w.heap.size w w') (h1 : fact i (j.deps.map vs) v) (h2 : res i (j.deps.map vs) v f w') (h3 : ∀ g ∈ f, w.heap.size ≤ g ∧ g < w'.heap.size) : LeavesK gK zz w0 fact res i j w vs fp v f w' :=
  ⟨h.below.under hb, hb.size, fun g _ hg _ => hb.block g hg, h1, h2, fun g hg => ⟨(h3 g hg).2, .inr (h3 g hg).1⟩⟩
theorem FindsK.grown (h : FindsK gK zz js a0 w0 fact res i j a w vs fp) {u : Value} (k : Nat) (hk' : j.eats.contains k = true) (hf : fp k = u.ownBlock.toList) (hg : w.grownBy w' u.ownBlock) (hv : v.ownBlock = u.ownBlock ∨ v.ownBlock = some w.heap.size)
    (hl : ∀ g, v.ownBlock = some g → g < w'.heap.size) (h1 : fact i (j.deps.map vs) v) (h2 : res i (j.deps.map vs) v v.ownBlock.toList w') : LeavesK gK zz w0 fact res i j w vs fp v v.ownBlock.toList w' := by
  have hk : k ∈ j.eats := by simpa using hk'
  refine ⟨h.below.grown hg (fun g hg => ((h.own k hk g) (by rw [hf, hg]; simp)).1), hg.size, fun g _ hgl hne => hg.block g hgl (fun e => hne k hk (by rw [hf, ← e]; simp)), h1, h2, fun g hgm => ?_⟩
  have hgv : v.ownBlock = some g := by simpa using hgm
  refine ⟨hl g hgv, ?_⟩
  rcases hv with e | e
  · exact .inl ⟨k, hk, by rw [hf, ← e, hgv]; simp⟩
  · rw [hgv] at e; injection e with e; exact .inr (by omega)
end
theorem FindsK.call {gK : Nat} {zz : Option Obj → Prop} {js : List Job} {a0 : Act} {w0 : World} {fact : Nat → List Value → Value → Prop} {res : Nat → List Value → Value → List Nat → World → Prop} {i : Nat} {j : Job} {a : Act} {w w' : World} {vs : Nat → Value} {fp : Nat → List Nat} {v : Value}
    (h : FindsK gK zz js a0 w0 fact res i j a w vs fp) (ho : Only gK w w') (hz : zz w'.heap[gK]?) (h1 : fact i (j.deps.map vs) v) (h2 : res i (j.deps.map vs) v [] w') : LeavesK gK zz w0 fact res i j w vs fp v [] w' :=
  ⟨h.below.only ho hz, by rw [ho.size]; exact Nat.le_refl _, fun g hg _ _ => ho.block g hg, h1, h2, fun g hg => by cases hg⟩
abbrev NoFK : List Value → Value → Prop := fun _ _ => True
abbrev NoRK : List Value → Value → List Nat → World → Prop := fun _ _ _ _ => True
theorem NoRK.loc {gK : Nat} {zz : Option Obj → Prop} {w0 : World} : LocK gK zz w0 NoRK := fun _ _ _ _ _ _ _ _ _ _ => trivial
def LitRK (T : TypeId) (cs : Array Value) (n : Nat) : List Value → Value → List Nat → World → Prop := fun _ v f w => ∃ g, v = .slice (some ⟨g, 0, none⟩) n n ∧ f = [g] ∧ Bl w g T cs
theorem LitRK.loc {gK : Nat} {zz : Option Obj → Prop} {w0 : World} {T : TypeId} {n : Nat} {cs : Array Value} : LocK gK zz w0 (LitRK T cs n) := by
  rintro l v f w w' h1 h2 h3 h4 ⟨g, rfl, rfl, h5⟩
  exact ⟨g, rfl, rfl, (h4 g (by simp)).2.2.trans h5⟩
def PtrRK (T : TypeId) (cs : Array Value) : List Value → Value → List Nat → World → Prop := fun _ v f w => ∃ g, v = .pointer (some ⟨g, 0, none⟩) ∧ f = [g] ∧ Bl w g T cs
theorem PtrRK.loc {gK : Nat} {zz : Option Obj → Prop} {w0 : World} {T : TypeId} {cs : Array Value} : LocK gK zz w0 (PtrRK T cs) := by
  rintro l v f w w' h1 h2 h3 h4 ⟨g, rfl, rfl, h5⟩
  exact ⟨g, rfl, rfl, (h4 g (by simp)).2.2.trans h5⟩
end Go.Proofs.YtdbcbbiplkikcaaGreat

/-
  How a slice of structs of two ints that came in is opened: it reads as a list of pairs. No statement of the seat is proved here. Conditions: the slice's type.
  How raw charges and a claim that came in are opened. No statement of the seat is proved here. No conditions.
-/
import Derived.Test.YthnhgjhnkncmiaaGreatMAA
import Derived.Deep.SlicePairs
import Derived.Lib.SmallJoins
import Derived.Test.YthnhgjhnkncmiaaGreatMAG
namespace Go.Proofs.YthnhgjhnkncmiaaGreat
open Go.RowKit Go.ChangeShapes Go.WideShapes Go.Deep
set_option linter.unusedVariables false

theorem add_none (b off k : Nat) (s : Option Nat) (hs : s = none) : (⟨b, off, none⟩ : Addr).add k = ⟨b, off + k, none⟩ := by
  by_cases h0 : k = 0
  · subst h0; simp [Addr.add]
  · simp [Addr.add, h0]

theorem open_pairs {H : Type} {enc : TypeId × Value → H} {P : Program} {w : World} {base : Nat} {spare : Nat → Bool} {held : Bool} {t e : TypeId} {f0 f1 : Field} {fuel : Nat} {A : Option Addr} {len cap : Nat} {x : DataW H × List MemPlace}
    (ht : P.underlying t = some (.slice e)) (he : P.underlying e = some (.struct #[f0, f1])) (ce : P.cellsOf e = 2) (o0 : f0.offset = 0) (o1 : f1.offset = 1) (c0 : P.cellsOf f0.type = 1) (c1 : P.cellsOf f1.type = 1)
    (u0 : P.underlying f0.type = some (.int .i64)) (u1 : P.underlying f1.type = some (.int .i64))
    (h : DataW.trod enc P w base spare held fuel t [.slice A len cap] = some x) :
    ∃ xs : List (Int × Int), Recs enc2 2 w A len xs ∧ len ≤ cap ∧ cap ≤ 9223372036854775807 ∧ (A = none → len = 0 ∧ cap = 0) ∧ ∀ p ∈ xs, (Lit.int .i64 p.1).wf = true ∧ (Lit.int .i64 p.2).wf = true := by
  rcases open_slice_pairs ht he ce o0 o1 c0 c1 h with ⟨hcs, _⟩ | ⟨a, l, c, m, n, V0, V1, D0, D1, P0, P1, hcs, _, hl, hm, hmm, _, hi⟩
  · simp at hcs
    obtain ⟨rfl, rfl, rfl⟩ := hcs
    exact ⟨[], Recs.nil, Nat.le_refl _, by omega, fun _ => ⟨rfl, rfl⟩, by simp⟩
  · simp at hcs
    obtain ⟨rfl, rfl, rfl⟩ := hcs
    have hlm : len ≤ m := by rw [hmm]; split <;> omega
    obtain ⟨F, hF⟩ := choose_lt (α := Int × Int) (n := len) (p := fun i q => w.cell? (a.add (i * 2)) = some (.int .i64 q.1) ∧ w.cell? (a.add (i * 2 + 1)) = some (.int .i64 q.2) ∧ (Lit.int .i64 q.1).wf = true ∧ (Lit.int .i64 q.2).wf = true) (fun i hil => by
      obtain ⟨g0, g1, k0, k1⟩ := hi i (by omega)
      obtain ⟨z0, e0, _, w0⟩ := DataW.trod_int u0 k0
      obtain ⟨z1, e1, _, w1⟩ := DataW.trod_int u1 k1
      simp at e0 e1
      exact ⟨(z0, z1), by rw [g0, e0], by rw [g1, e1], w0, w1⟩)
    refine ⟨(List.range len).map F, ⟨by simp, fun h0 => ?_⟩, hl, by unfold maxLen at hm; omega, (fun h => by cases h), fun p hp => ?_⟩
    · obtain ⟨b, off, spot⟩ := a
      have h1 := (hF 0 h0).1
      have hs : spot = none := by simpa [Addr.add] using World.cell?_spot h1
      subst hs
      have hb : b < w.heap.size := by
        rcases Nat.lt_or_ge b w.heap.size with h2 | h2
        · exact h2
        · simp [Addr.add, World.cell?, Array.getElem?_eq_none h2] at h1
      refine ⟨b, off, rfl, hb, fun i hil c hc => ?_⟩
      obtain ⟨g0, g1, _⟩ := hF i hil
      rw [add_none b off _ none rfl] at g0 g1
      have e : ((List.range len).map F)[i]! = F i := by simp [hil]
      rw [e]
      match c, hc with
      | 0, _ => simpa [enc2] using g0
      | 1, _ => rw [show off + i * 2 + 1 = off + (i * 2 + 1) by omega, g1]; rfl
    · obtain ⟨i, hil, rfl⟩ := List.mem_map.1 hp
      exact (hF i (List.mem_range.1 hil)).2.2

end Go.Proofs.YthnhgjhnkncmiaaGreat

namespace Go.Proofs.YthnhgjhnkncmiaaGreat
open Go.RowKit Go.ChangeShapes Go.WideShapes Go.Deep
set_option linter.unusedVariables false

section
variable {H : Type} {enc : TypeId × Value → H} {P : Program} {w : World} {base : Nat} {spare : Nat → Bool} {held : Bool}
/-- A slice whose elements of k cells read as records. -/
theorem open_recs {α : Type} [Inhabited α] {en : α → List Value} {Q : α → Prop} {k : Nat} (hk : 0 < k) {t e : TypeId} {fuel : Nat} {A : Option Addr} {len cap : Nat} {x : DataW H × List MemPlace}
    (ht : P.underlying t = some (.slice e)) (ce : P.cellsOf e = k) (hrd : ∀ cs' n y, cs'.length = k → DataW.trod enc P w base spare held n e cs' = some y → ∃ a : α, cs' = en a ∧ Q a)
    (h : DataW.trod enc P w base spare held fuel t [.slice A len cap] = some x) :
    ∃ xs : List α, Recs en k w A len xs ∧ len ≤ cap ∧ cap ≤ 9223372036854775807 ∧ (A = none → len = 0 ∧ cap = 0) ∧ ∀ a ∈ xs, Q a := by
  rcases open_slice ht h with ⟨hcs, _⟩ | ⟨a, l, c, m, n, D, Pl, hcs, _, hl, hm, hmm, _, hi⟩
  · simp at hcs
    obtain ⟨rfl, rfl, rfl⟩ := hcs
    exact ⟨[], Recs.nil, Nat.le_refl _, by omega, fun _ => ⟨rfl, rfl⟩, by simp⟩
  · simp at hcs
    obtain ⟨rfl, rfl, rfl⟩ := hcs
    have hlm : len ≤ m := by rw [hmm]; split <;> omega
    obtain ⟨F, hF⟩ := choose_lt (α := α) (n := len) (p := fun i r => (∀ j, j < k → w.cell? ((a.add (i * k)).add j) = (en r)[j]?) ∧ (en r).length = k ∧ Q r) (fun i hil => by
      obtain ⟨cs', h1, h2⟩ := hi i (by omega)
      rw [ce] at h1
      obtain ⟨_, hlen, hcell⟩ := World.cells?_some h1
      obtain ⟨r, rfl, hq⟩ := hrd cs' _ _ hlen h2
      exact ⟨r, hcell, hlen, hq⟩)
    refine ⟨(List.range len).map F, ⟨by simp, fun h0 => ?_⟩, hl, by unfold maxLen at hm; omega, (fun h => by cases h), fun r hr => ?_⟩
    · obtain ⟨b, off, spot⟩ := a
      have hz := hF 0 h0
      have h1 := hz.1 0 hk
      rw [List.getElem?_eq_getElem (by rw [hz.2.1]; exact hk)] at h1
      have hs : spot = none := by simpa [Addr.add] using World.cell?_spot h1
      subst hs
      have hb : b < w.heap.size := by
        rcases Nat.lt_or_ge b w.heap.size with h2 | h2
        · exact h2
        · simp [Addr.add, World.cell?, Array.getElem?_eq_none h2] at h1
      refine ⟨b, off, rfl, hb, fun i hil c hc => ?_⟩
      have g := hF i hil
      have g1 := g.1 c hc
      rw [add_none b off _ none rfl, add_none b _ _ none rfl] at g1
      rw [g1, List.getElem?_eq_getElem (by rw [g.2.1]; exact hc)]
      have e : ((List.range len).map F)[i]! = F i := by simp [hil]
      rw [e, getElem!_pos _ c (by rw [g.2.1]; exact hc)]
    · obtain ⟨i, hil, rfl⟩ := List.mem_map.1 hr
      exact (hF i (List.mem_range.1 hil)).2.2

theorem slice_cell {t e : TypeId} {fuel : Nat} {v : Value} {x : DataW H × List MemPlace} (ht : P.underlying t = some (.slice e)) (h : DataW.trod enc P w base spare held fuel t [v] = some x) : ∃ A len cap, v = .slice A len cap := by
  rcases open_slice ht h with ⟨hcs, _⟩ | ⟨a, l, c, m, n, D, Pl, hcs, _⟩
  · exact ⟨_, _, _, by simpa using hcs⟩
  · exact ⟨_, _, _, by simpa using hcs⟩
end
section
variable {H : Type} {enc : TypeId × Value → H} {w : World} {base : Nat} {spare : Nat → Bool} {held : Bool}
set_option maxRecDepth 100000 in
theorem open_chs {r : Reach} {b0 : Nat} {v : Value} {dd : DataW H} {p : List MemPlace} (hv : Value.okWide Tryz.prog w r b0 24 v) (h : DataW.Trod enc Tryz.prog w base spare held 24 v dd p) :
    ∃ (A : Option Addr) (n c : Nat) (xs : List Ch), v = .slice A n c ∧ Recs encCh 3 w A n xs ∧ n ≤ c ∧ c ≤ 9223372036854775807 := by
  obtain ⟨A, n, c, rfl⟩ := okWide_slice Tryz.underlying24 hv
  obtain ⟨fuel, hf⟩ := h
  obtain ⟨xs, h1, h2, h3, _, _⟩ := open_recs (en := encCh) (Q := fun _ : Ch => True) (k := 3) (by omega) Tryz.underlying24 (by kernel_rfl) (fun cs' n y hlen h2 => by
    obtain ⟨xs, m, _, _, _, hxl, hf⟩ := DataW.trod_struct Tryz.underlying61 h2
    match xs, hxl, cs', hlen with
    | [y0, y1, y2], _, [v0, v1, v2], _ =>
      have g0 := hf 0 _ rfl
      have g1 := hf 1 _ rfl
      have g2 := hf 2 _ rfl
      have ci : Tryz.prog.cellsOf 3 = 1 := by kernel_rfl
      simp [ci] at g0 g1 g2
      obtain ⟨z0, e0, _, _⟩ := DataW.trod_int Tryz.underlying3 g0
      obtain ⟨z1, e1, _, _⟩ := DataW.trod_int Tryz.underlying3 g1
      obtain ⟨z2, e2, _, _⟩ := DataW.trod_int Tryz.underlying3 g2
      simp at e0 e1 e2
      subst e0 e1 e2
      exact ⟨⟨z0, z1, z2⟩, rfl, trivial⟩) hf
  exact ⟨A, n, c, xs, rfl, h1, h2, h3⟩
set_option maxRecDepth 100000 in
theorem open_claim {r : Reach} {b0 : Nat} {v : Value} {dd : DataW H} {p : List MemPlace} (hv : Value.okWide Tryz.prog w r b0 39 v) (h : DataW.Trod enc Tryz.prog w base spare held 39 v dd p) :
    ∃ (x : Clm) (A : Option Addr) (n c : Nat), v = .agg #[.int .i64 x.num, .int .i64 x.lot, .int .i64 x.sch, .int .i64 x.qty, .int .i64 x.rate, .slice A n c] ∧ Recs encSl 3 w A n x.sl ∧ n ≤ c ∧ c ≤ 9223372036854775807 := by
  obtain ⟨cs, rfl, hsz⟩ := okWide_struct Tryz.underlying39 hv
  obtain ⟨fuel, hf⟩ := h
  have hsz6 : cs.size = 6 := hsz.trans (by kernel_rfl)
  have hf' : DataW.trod enc Tryz.prog w base spare held fuel 39 cs.toList = some (dd, p) := by simpa [Value.cells] using hf
  obtain ⟨l, hl⟩ : ∃ l, cs.toList = l := ⟨_, rfl⟩
  have hll : l.length = 6 := by rw [← hl]; simpa using hsz6
  have hcs : cs = l.toArray := by rw [← hl]
  rw [hl] at hf'
  subst hcs
  obtain ⟨xs, m, _, _, _, hxl, hg⟩ := DataW.trod_struct Tryz.underlying39 hf'
  match xs, hxl, l, hll with
  | [y0, y1, y2, y3, y4, y5], _, [v0, v1, v2, v3, v4, v5], _ =>
    have g0 := hg 0 _ rfl
    have g1 := hg 1 _ rfl
    have g2 := hg 2 _ rfl
    have g3 := hg 3 _ rfl
    have g4 := hg 4 _ rfl
    have g5 := hg 5 _ rfl
    have ci : Tryz.prog.cellsOf 3 = 1 := by kernel_rfl
    have cl : Tryz.prog.cellsOf 34 = 1 := by kernel_rfl
    simp [ci, cl] at g0 g1 g2 g3 g4 g5
    obtain ⟨z0, e0, _, _⟩ := DataW.trod_int Tryz.underlying3 g0
    obtain ⟨z1, e1, _, _⟩ := DataW.trod_int Tryz.underlying3 g1
    obtain ⟨z2, e2, _, _⟩ := DataW.trod_int Tryz.underlying3 g2
    obtain ⟨z3, e3, _, _⟩ := DataW.trod_int Tryz.underlying3 g3
    obtain ⟨z4, e4, _, _⟩ := DataW.trod_int Tryz.underlying3 g4
    obtain ⟨A, n, c, e5⟩ := slice_cell Tryz.underlying34 g5
    simp at e0 e1 e2 e3 e4
    subst e0 e1 e2 e3 e4 e5
    obtain ⟨ss, k1, k2, k3, _, _⟩ := open_recs (en := encSl) (Q := fun _ : Sl => True) (k := 3) (by omega) Tryz.underlying34 (by kernel_rfl) (fun cs' n y hlen h2 => by
      obtain ⟨xs, m, _, _, _, hxl, hf⟩ := DataW.trod_struct Tryz.underlying68 h2
      match xs, hxl, cs', hlen with
      | [y0, y1, y2], _, [v0, v1, v2], _ =>
        have g0 := hf 0 _ rfl
        have g1 := hf 1 _ rfl
        have g2 := hf 2 _ rfl
        simp [ci] at g0 g1 g2
        obtain ⟨z0, e0, _, _⟩ := DataW.trod_int Tryz.underlying3 g0
        obtain ⟨z1, e1, _, _⟩ := DataW.trod_int Tryz.underlying3 g1
        obtain ⟨z2, e2, _, _⟩ := DataW.trod_int Tryz.underlying3 g2
        simp at e0 e1 e2
        subst e0 e1 e2
        exact ⟨⟨z0, z1, z2⟩, rfl, trivial⟩) g5
    exact ⟨⟨z0, z1, z2, z3, z4, ss⟩, A, n, c, rfl, k1, k2, k3⟩
end
end Go.Proofs.YthnhgjhnkncmiaaGreat

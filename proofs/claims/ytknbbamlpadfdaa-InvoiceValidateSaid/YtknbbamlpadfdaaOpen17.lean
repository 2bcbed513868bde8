/-
  How slices of structs that came in are opened: they read as lists of records; an invoice, a table of rates. No statement of the seat is proved here. Conditions: the types.
-/
import Derived.Test.YtknbbamlpadfdaaOpen2
import Derived.Test.YtknbbamlpadfdaaStrs
import Derived.Lib.SmallJoins
namespace Go.Proofs.Ytknbbamlpadfdaa
open Go.RowKit Go.ChangeShapes Go.WideShapes Go.Deep
set_option linter.unusedVariables false

section
variable {H : Type} {enc : TypeId × Value → H} {P : Program} {w : World} {base : Nat} {spare : Nat → Bool} {held : Bool}

/-- A slice whose elements of k cells read as records. -/
theorem open_recs {α : Type} [Inhabited α] {en : α → List Value} {Q : α → Prop} {k : Nat} (hk : 0 < k) {t e : TypeId} {fuel : Nat} {A : Option Addr} {len cap : Nat} {x : DataW H × List MemPlace}
    (ht : P.underlying t = some (.slice e)) (ce : P.cellsOf e = k) (hrd : ∀ cs' n y, cs'.length = k → DataW.trod enc P w base spare held n e cs' = some y → ∃ a : α, cs' = en a ∧ Q a)
    (h : DataW.trod enc P w base spare held fuel t [.slice A len cap] = some x) :
    ∃ xs : List α, Recs en k w A len xs ∧ len ≤ cap ∧ cap ≤ 9223372036854775807 ∧ (A = none → len = 0 ∧ cap = 0) ∧ ∀ a ∈ xs, Q a := by
  rcases open_slice ht h with ⟨hcs, _⟩ | ⟨a, l, c, m, n, D, Pl, hcs, _, hl, hm, hmm, _, hi⟩
  · simp at hcs
    obtain ⟨rfl, rfl, rfl⟩ := hcs
    exact ⟨[], Recs.nil, Nat.le_refl _, by omega, fun _ => ⟨rfl, rfl⟩, by simp⟩
  · simp at hcs
    obtain ⟨rfl, rfl, rfl⟩ := hcs
    have hlm : len ≤ m := by rw [hmm]; split <;> omega
    obtain ⟨F, hF⟩ := choose_lt (α := α) (n := len) (p := fun i r => (∀ j, j < k → w.cell? ((a.add (i * k)).add j) = (en r)[j]?) ∧ (en r).length = k ∧ Q r) (fun i hil => by
      obtain ⟨cs', h1, h2⟩ := hi i (by omega)
      rw [ce] at h1
      obtain ⟨_, hlen, hcell⟩ := World.cells?_some h1
      obtain ⟨r, rfl, hq⟩ := hrd cs' _ _ hlen h2
      exact ⟨r, hcell, hlen, hq⟩)
    refine ⟨(List.range len).map F, ⟨by simp, fun h0 => ?_⟩, hl, by unfold maxLen at hm; omega, (fun h => by cases h), fun r hr => ?_⟩
    · obtain ⟨b, off, spot⟩ := a
      have hz := hF 0 h0
      have h1 := hz.1 0 hk
      rw [List.getElem?_eq_getElem (by rw [hz.2.1]; exact hk)] at h1
      have hs : spot = none := by simpa [Addr.add] using World.cell?_spot h1
      subst hs
      have hb : b < w.heap.size := by
        rcases Nat.lt_or_ge b w.heap.size with h2 | h2
        · exact h2
        · simp [Addr.add, World.cell?, Array.getElem?_eq_none h2] at h1
      refine ⟨b, off, rfl, hb, fun i hil c hc => ?_⟩
      have g := hF i hil
      have g1 := g.1 c hc
      rw [add_none b off _ none rfl, add_none b _ _ none rfl] at g1
      rw [g1, List.getElem?_eq_getElem (by rw [g.2.1]; exact hc)]
      have e : ((List.range len).map F)[i]! = F i := by simp [hil]
      rw [e, getElem!_pos _ c (by rw [g.2.1]; exact hc)]
    · obtain ⟨i, hil, rfl⟩ := List.mem_map.1 hr
      exact (hF i (List.mem_range.1 hil)).2.2

theorem open_exch {t e : TypeId} {f0 f1 f2 : Field} {fuel : Nat} {A : Option Addr} {len cap : Nat} {x : DataW H × List MemPlace}
    (ht : P.underlying t = some (.slice e)) (he : P.underlying e = some (.struct #[f0, f1, f2])) (ce : P.cellsOf e = 3) (o0 : f0.offset = 0) (o1 : f1.offset = 1) (o2 : f2.offset = 2) (c0 : P.cellsOf f0.type = 1) (c1 : P.cellsOf f1.type = 1) (c2 : P.cellsOf f2.type = 1)
    (u0 : P.underlying f0.type = some .string) (u1 : P.underlying f1.type = some (.int .i64)) (u2 : P.underlying f2.type = some (.int .i64))
    (h : DataW.trod enc P w base spare held fuel t [.slice A len cap] = some x) :
    ∃ xs : List Exch, Recs encX 3 w A len xs ∧ len ≤ cap ∧ cap ≤ 9223372036854775807 ∧ (A = none → len = 0 ∧ cap = 0) ∧ ∀ a ∈ xs, a.cur.size ≤ 9223372036854775807 := by
  refine open_recs (by omega) ht ce (fun cs' n y hlen h2 => ?_) h
  obtain ⟨xs, m, _, _, _, hxl, hf⟩ := DataW.trod_struct he h2
  match xs, hxl, cs', hlen with
  | [y0, y1, y2], _, [v0, v1, v2], _ =>
    have g0 := hf 0 f0 rfl
    have g1 := hf 1 f1 rfl
    have g2 := hf 2 f2 rfl
    simp [o0, o1, o2, c0, c1, c2] at g0 g1 g2
    obtain ⟨s, e0, _, hs⟩ := DataW.trod_string u0 g0
    obtain ⟨z1, e1, _, _⟩ := DataW.trod_int u1 g1
    obtain ⟨z2, e2, _, _⟩ := DataW.trod_int u2 g2
    simp at e0 e1 e2
    subst e0 e1 e2
    exact ⟨⟨s, z1, z2⟩, rfl, hs⟩

theorem open_chgs {t e : TypeId} {f0 f1 f2 f3 f4 : Field} {fuel : Nat} {A : Option Addr} {len cap : Nat} {x : DataW H × List MemPlace}
    (ht : P.underlying t = some (.slice e)) (he : P.underlying e = some (.struct #[f0, f1, f2, f3, f4])) (ce : P.cellsOf e = 5) (o0 : f0.offset = 0) (o1 : f1.offset = 1) (o2 : f2.offset = 2) (o3 : f3.offset = 3) (o4 : f4.offset = 4)
    (c0 : P.cellsOf f0.type = 1) (c1 : P.cellsOf f1.type = 1) (c2 : P.cellsOf f2.type = 1) (c3 : P.cellsOf f3.type = 1) (c4 : P.cellsOf f4.type = 1)
    (u0 : P.underlying f0.type = some (.int .i64)) (u1 : P.underlying f1.type = some (.int .i64)) (u2 : P.underlying f2.type = some .string) (u3 : P.underlying f3.type = some (.int .i64)) (u4 : P.underlying f4.type = some (.int .i64))
    (h : DataW.trod enc P w base spare held fuel t [.slice A len cap] = some x) :
    ∃ xs : List Chg, Recs encC 5 w A len xs ∧ len ≤ cap ∧ cap ≤ 9223372036854775807 ∧ (A = none → len = 0 ∧ cap = 0) ∧ ∀ a ∈ xs, a.cur.size ≤ 9223372036854775807 := by
  refine open_recs (by omega) ht ce (fun cs' n y hlen h2 => ?_) h
  obtain ⟨xs, m, _, _, _, hxl, hf⟩ := DataW.trod_struct he h2
  match xs, hxl, cs', hlen with
  | [y0, y1, y2, y3, y4], _, [v0, v1, v2, v3, v4], _ =>
    have g0 := hf 0 f0 rfl
    have g1 := hf 1 f1 rfl
    have g2 := hf 2 f2 rfl
    have g3 := hf 3 f3 rfl
    have g4 := hf 4 f4 rfl
    simp [o0, o1, o2, o3, o4, c0, c1, c2, c3, c4] at g0 g1 g2 g3 g4
    obtain ⟨z0, e0, _, _⟩ := DataW.trod_int u0 g0
    obtain ⟨z1, e1, _, _⟩ := DataW.trod_int u1 g1
    obtain ⟨s, e2, _, hs⟩ := DataW.trod_string u2 g2
    obtain ⟨z3, e3, _, _⟩ := DataW.trod_int u3 g3
    obtain ⟨z4, e4, _, _⟩ := DataW.trod_int u4 g4
    simp at e0 e1 e2 e3 e4
    subst e0 e1 e2 e3 e4
    exact ⟨⟨z0, z1, s, z3, z4⟩, rfl, hs⟩
end
end Go.Proofs.Ytknbbamlpadfdaa

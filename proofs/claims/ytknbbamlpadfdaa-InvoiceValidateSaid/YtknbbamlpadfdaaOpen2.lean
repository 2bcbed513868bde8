/-
  How a slice of structs of two ints that came in is opened: it reads as a list of pairs. No statement of the seat is proved here. Conditions: the slice's type.
-/
import Derived.Test.YtknbbamlpadfdaaOpen
import Derived.Test.YtknbbamlpadfdaaRecs
import Derived.Deep.SlicePairs
namespace Go.Proofs.Ytknbbamlpadfdaa
open Go.RowKit Go.ChangeShapes Go.WideShapes Go.Deep
set_option linter.unusedVariables false

theorem add_none (b off k : Nat) (s : Option Nat) (hs : s = none) : (⟨b, off, none⟩ : Addr).add k = ⟨b, off + k, none⟩ := by
  by_cases h0 : k = 0
  · subst h0; simp [Addr.add]
  · simp [Addr.add, h0]

theorem open_pairs {H : Type} {enc : TypeId × Value → H} {P : Program} {w : World} {base : Nat} {spare : Nat → Bool} {held : Bool} {t e : TypeId} {f0 f1 : Field} {fuel : Nat} {A : Option Addr} {len cap : Nat} {x : DataW H × List MemPlace}
    (ht : P.underlying t = some (.slice e)) (he : P.underlying e = some (.struct #[f0, f1])) (ce : P.cellsOf e = 2) (o0 : f0.offset = 0) (o1 : f1.offset = 1) (c0 : P.cellsOf f0.type = 1) (c1 : P.cellsOf f1.type = 1)
    (u0 : P.underlying f0.type = some (.int .i64)) (u1 : P.underlying f1.type = some (.int .i64))
    (h : DataW.trod enc P w base spare held fuel t [.slice A len cap] = some x) :
    ∃ xs : List (Int × Int), Recs enc2 2 w A len xs ∧ len ≤ cap ∧ cap ≤ 9223372036854775807 ∧ (A = none → len = 0 ∧ cap = 0) ∧ ∀ p ∈ xs, (Lit.int .i64 p.1).wf = true ∧ (Lit.int .i64 p.2).wf = true := by
  rcases open_slice_pairs ht he ce o0 o1 c0 c1 h with ⟨hcs, _⟩ | ⟨a, l, c, m, n, V0, V1, D0, D1, P0, P1, hcs, _, hl, hm, hmm, _, hi⟩
  · simp at hcs
    obtain ⟨rfl, rfl, rfl⟩ := hcs
    exact ⟨[], Recs.nil, Nat.le_refl _, by omega, fun _ => ⟨rfl, rfl⟩, by simp⟩
  · simp at hcs
    obtain ⟨rfl, rfl, rfl⟩ := hcs
    have hlm : len ≤ m := by rw [hmm]; split <;> omega
    obtain ⟨F, hF⟩ := choose_lt (α := Int × Int) (n := len) (p := fun i q => w.cell? (a.add (i * 2)) = some (.int .i64 q.1) ∧ w.cell? (a.add (i * 2 + 1)) = some (.int .i64 q.2) ∧ (Lit.int .i64 q.1).wf = true ∧ (Lit.int .i64 q.2).wf = true) (fun i hil => by
      obtain ⟨g0, g1, k0, k1⟩ := hi i (by omega)
      obtain ⟨z0, e0, _, w0⟩ := DataW.trod_int u0 k0
      obtain ⟨z1, e1, _, w1⟩ := DataW.trod_int u1 k1
      simp at e0 e1
      exact ⟨(z0, z1), by rw [g0, e0], by rw [g1, e1], w0, w1⟩)
    refine ⟨(List.range len).map F, ⟨by simp, fun h0 => ?_⟩, hl, by unfold maxLen at hm; omega, (fun h => by cases h), fun p hp => ?_⟩
    · obtain ⟨b, off, spot⟩ := a
      have h1 := (hF 0 h0).1
      have hs : spot = none := by simpa [Addr.add] using World.cell?_spot h1
      subst hs
      have hb : b < w.heap.size := by
        rcases Nat.lt_or_ge b w.heap.size with h2 | h2
        · exact h2
        · simp [Addr.add, World.cell?, Array.getElem?_eq_none h2] at h1
      refine ⟨b, off, rfl, hb, fun i hil c hc => ?_⟩
      obtain ⟨g0, g1, _⟩ := hF i hil
      rw [add_none b off _ none rfl] at g0 g1
      have e : ((List.range len).map F)[i]! = F i := by simp [hil]
      rw [e]
      match c, hc with
      | 0, _ => simpa [enc2] using g0
      | 1, _ => rw [show off + i * 2 + 1 = off + (i * 2 + 1) by omega, g1]; rfl
    · obtain ⟨i, hil, rfl⟩ := List.mem_map.1 hp
      exact (hF i (List.mem_range.1 hil)).2.2

end Go.Proofs.Ytknbbamlpadfdaa

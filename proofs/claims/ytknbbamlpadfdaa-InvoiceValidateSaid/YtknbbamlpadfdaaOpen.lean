/-
  How a slice of integers that came in is opened: it reads as a list, its length is at most its capacity. No statement of the seat is proved here. No conditions.
-/
import Derived.Test.YtknbbamlpadfdaaWords
namespace Go.Proofs.Ytknbbamlpadfdaa
open Go.RowKit
set_option linter.unusedVariables false

/-- A slice of integers that came in: it is nil; or it leads to a row of 'cap' cells, the numbers 'zs' (the first 'len' are its elements), each fitting its kind. -/
def IsRow (k : IntKind) (w : World) (a : Option Addr) (len cap : Nat) (zs : List Int) : Prop :=
  (a = none ∧ len = 0 ∧ cap = 0 ∧ zs = []) ∨
  ∃ x, a = some x ∧ len ≤ cap ∧ cap ≤ maxLen ∧ zs.length = cap ∧ (∀ i, i < zs.length → w.cell? (x.add i) = some (.int k (zs.getD i 0))) ∧ ∀ n ∈ zs, (Lit.int k n).wf = true

theorem addr_none {w : World} {x : Addr} {v : Value} (h : w.cell? x = some v) : x.spot = none := World.cell?_spot h

theorem isRow_ints {k : IntKind} {w : World} {a : Option Addr} {len cap : Nat} {zs : List Int} (h : IsRow k w a len cap zs) :
    IntsK k w a len (zs.take len) ∧ len ≤ cap ∧ cap ≤ 9223372036854775807 ∧ (a = none → len = 0 ∧ cap = 0) := by
  rcases h with ⟨rfl, rfl, rfl, rfl⟩ | ⟨x, rfl, hl, hm, hz, hc, hw⟩
  · exact ⟨⟨rfl, fun h => absurd h (by omega)⟩, Nat.le_refl _, by omega, fun _ => ⟨rfl, rfl⟩⟩
  · refine ⟨⟨by rw [List.length_take]; omega, fun h0 => ?_⟩, hl, by unfold maxLen at hm; omega, by intro h; cases h⟩
    obtain ⟨b, off, spot⟩ := x
    have h1 := hc 0 (by omega)
    have hs : spot = none := by simpa [Addr.add] using World.cell?_spot h1
    subst hs
    have hb : b < w.heap.size := by
      rcases Nat.lt_or_ge b w.heap.size with h2 | h2
      · exact h2
      · simp [Addr.add, World.cell?, Array.getElem?_eq_none h2] at h1
    refine ⟨b, off, rfl, hb, fun i hi => ?_⟩
    have h2 := hc i (by omega)
    have e : (⟨b, off, none⟩ : Addr).add i = ⟨b, off + i, none⟩ := by
      by_cases h0 : i = 0
      · subst h0; simp [Addr.add]
      · simp [Addr.add, h0]
    rw [e] at h2
    rw [h2]
    simp [List.getD, hi]

end Go.Proofs.Ytknbbamlpadfdaa

/-
  Two rows of the call's own that grow in one statement. No statement of the seat is proved here. No conditions.
-/
import Derived.Test.YtknbbamlpadfdaaMadeG
import Derived.Deep.RegionHeld3
import Derived.Deep.AppendLies
namespace Go.Proofs.Ytknbbamlpadfdaa
open Go.RowKit
set_option linter.unusedVariables false

theorem Bl.drew {w : World} {g : Nat} {t : TypeId} {cs : Array Value} (h : Bl w g t cs) : Bl w.drew g t cs := h
/-- The rows v and u lie in different blocks. -/
def Apart (v u : Value) : Prop := ∀ g, v.ownBlock = some g → u.ownBlock ≠ some g

section
variable {w wA w4 wB w5 : World} {base k g4 g5 c4 c5 H4 H5 : Nat} {e : TypeId} {v u : Value} {xs ys xs' ys' : List Value}
theorem own_thru (o9 : w.ownsRow base e 1 u k ys) (D : Apart v u) (hA : RowKit.Below w.heap.size w wA) (hg4 : wA.grownBy w4 v.ownBlock) (hB : RowKit.Below w4.heap.size w4 wB) : wB.ownsRow base e 1 u k ys :=
  own_of_block o9 fun g hg => by
    have h1 := own_lt o9 g hg
    have h2 : wA.heap[g]? = w.heap[g]? := hA.block g h1
    have h3 : w4.heap[g]? = wA.heap[g]? := hg4.block g (by have := hA.size; omega) (fun x => D g x.symm hg)
    have h4 : wB.heap[g]? = w4.heap[g]? := hB.block g (by have := hA.size; have := hg4.size; omega)
    rw [h4, h3, h2]
theorem two_rows (o8 : w.ownsRow base e 1 v k xs) (o9 : w.ownsRow base e 1 u k ys) (D : Apart v u) (hbw : base ≤ w.heap.size)
    (hA : RowKit.Below w.heap.size w wA) (hg4 : wA.grownBy w4 v.ownBlock) (hB : RowKit.Below w4.heap.size w4 wB) (hg5 : wB.grownBy w5 u.ownBlock)
    (ho4 : w4.ownsRow base e 1 (.slice (some ⟨g4, 0, none⟩) (k + 1) c4) (k + 1) xs') (hat4 : v.ownBlock = some g4 ∨ g4 = H4) (hH4 : w.heap.size ≤ H4) (hlt4 : g4 < w4.heap.size)
    (hat5 : u.ownBlock = some g5 ∨ g5 = H5) (hH5 : w4.heap.size ≤ H5) :
    w5.ownsRow base e 1 (.slice (some ⟨g4, 0, none⟩) (k + 1) c4) (k + 1) xs' ∧ Apart (.slice (some ⟨g4, 0, none⟩) (k + 1) c4) (.slice (some ⟨g5, 0, none⟩) (k + 1) c5) ∧ RowKit.Below base w w5 := by
  have hne : u.ownBlock ≠ some g4 := fun x => by
    have h1 := own_lt o9 g4 x
    rcases hat4 with h2 | h2
    · exact D g4 h2 x
    · omega
  refine ⟨own_of_block ho4 fun g hg => ?_, fun g hg hg' => ?_, ?_⟩
  · have : g = g4 := by simpa [Value.ownBlock] using hg.symm
    subst this
    have h4 : wB.heap[g]? = w4.heap[g]? := hB.block g hlt4
    have h5 : w5.heap[g]? = wB.heap[g]? := hg5.block g (by have := hB.size; omega) (fun x => hne x.symm)
    rw [h5, h4]
  · have e1 : g = g4 := by simpa [Value.ownBlock] using hg.symm
    have e2 : g = g5 := by simpa [Value.ownBlock] using hg'.symm
    subst e1
    subst e2
    rcases hat5 with h2 | h2
    · exact hne h2
    · omega
  · have hs1 := hA.size
    have hs2 := hg4.size
    have hs3 := hB.size
    exact ((((hA.mono hbw).grown hg4 (by omega) (fun g hg => own_base o8 g hg))).trans (hB.mono (by omega))).grown hg5 (by omega) (fun g hg => own_base o9 g hg)
/-- A new block's cells, behind the first append. -/
theorem news_thru {g t : Nat} {cs : Array Value} (o8 : w.ownsRow base e 1 v k xs) (hb : Bl wA g t cs) (hg : w.heap.size ≤ g) (hg4 : wA.grownBy w4 v.ownBlock) : Bl w4 g t cs :=
  (hg4.block g hb.lt (fun x => by have := own_lt o8 g x.symm; omega)).trans hb
end
end Go.Proofs.Ytknbbamlpadfdaa

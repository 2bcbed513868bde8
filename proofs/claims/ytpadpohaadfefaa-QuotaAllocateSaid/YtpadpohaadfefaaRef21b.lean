/-
  Contract of the reference's Share (customsref21), where the total is less than the sum of the weights. No statement of the seat is proved here. Conditions: the numbers are in range.
-/
import Derived.Test.YtpadpohaadfefaaRef21a
import Derived.Test.YtpadpohaadfefaaRefShare2
import Derived.Test.YtpadpohaadfefaaMade
import Derived.Test.YtpadpohaadfefaaAppend
import Derived.Deep.QuietTactic
import Derived.BigQuiet
namespace Go.Proofs.Ytpadpohaadfefaa
open Go.RowKit
set_option linter.unusedVariables false

theorem infoB : (Try.prog.info? 4).map (fun i => (i.zero, i.size, i.bytes)) = some (some (.bool false), 1, 1) := by kernel_rfl

/-- A block of n bools f 0 .. f (n-1). -/
def BoolRow (cs : Array Value) (n : Nat) (f : Nat → Bool) : Prop := cs.size = n ∧ ∀ j, j < n → cs[j]? = some (.bool (f j))
section
variable {cs : Array Value} {n : Nat} {f g : Nat → Bool}
theorem BoolRow.congr (h : BoolRow cs n f) (e : ∀ j, j < n → f j = g j) : BoolRow cs n g := ⟨h.1, fun j hj => by rw [h.2 j hj, e j hj]⟩
theorem BoolRow.set (h : BoolRow cs n f) (i : Nat) (v : Bool) (e : ∀ j, j < n → g j = if j = i then v else f j) : BoolRow (cs.setIfInBounds i (.bool v)) n g := by
  refine ⟨by simp [h.1], fun j hj => ?_⟩
  rw [e j hj, Array.getElem?_setIfInBounds]
  by_cases hij : i = j
  · subst hij; simp [h.1, hj]
  · rw [if_neg hij, if_neg (fun x => hij x.symm)]; exact h.2 j hj
theorem BoolRow.cell {w : World} {b : Nat} {t : TypeId} (h : BoolRow cs n f) (hb : Bl w b t cs) {j : Nat} (hj : j < n) : w.cell? ⟨b, j, none⟩ = some (.bool (f j)) := (hb.cell j).trans (h.2 j hj)
end
theorem BoolRow.falses {C : Array Value} {n : Nat} (h : C.size = n * 1 ∧ ∀ j, j < n * 1 → C[j]? = some ((Value.bool false).cells[j % (Value.bool false).cells.size]!)) : BoolRow C n (fun _ => false) :=
  ⟨by have := h.1; omega, fun j hj => by rw [h.2 j (by omega)]; simp [Value.cells, Nat.mod_one]⟩

/-- The best of the first i: -1 while all are used, else the first of the greatest that is not used. -/
def BestTo (r : Nat → Int) (n p i : Nat) (bst : Int) : Prop :=
  (bst = -1 ∧ ∀ j, j < i → rank r n j < p) ∨ ∃ b : Nat, bst = b ∧ b < i ∧ ¬ rank r n b < p ∧ ∀ j, j < i → ¬ rank r n j < p → r j < r b ∨ (r j = r b ∧ b ≤ j)

theorem bestTo_used {r : Nat → Int} {n p i : Nat} {bst : Int} (h : BestTo r n p i bst) (hu : rank r n i < p) : BestTo r n p (i + 1) bst := by
  rcases h with ⟨e, h⟩ | ⟨b, e, hb, hn, h⟩
  · refine .inl ⟨e, fun j hj => ?_⟩
    by_cases x : j = i
    · subst x; exact hu
    · exact h j (by omega)
  · refine .inr ⟨b, e, by omega, hn, fun j hj hjn => ?_⟩
    by_cases x : j = i
    · subst x; exact absurd hu hjn
    · exact h j (by omega) hjn
theorem bestTo_first {r : Nat → Int} {n p i : Nat} (h : BestTo r n p i (-1)) (hu : ¬ rank r n i < p) : BestTo r n p (i + 1) (i : Int) := by
  rcases h with ⟨_, h⟩ | ⟨b, e, _⟩
  · refine .inr ⟨i, rfl, by omega, hu, fun j hj hjn => ?_⟩
    by_cases x : j = i
    · subst x; exact .inr ⟨rfl, Nat.le_refl _⟩
    · exact absurd (h j (by omega)) hjn
  · omega
theorem bestTo_next {r : Nat → Int} {n p i b : Nat} (h : BestTo r n p i (b : Int)) (hu : ¬ rank r n i < p) (hg : r b < r i) : BestTo r n p (i + 1) (i : Int) := by
  rcases h with ⟨e, _⟩ | ⟨b', e, hb, hn, h⟩
  · omega
  · obtain rfl : b = b' := by omega
    refine .inr ⟨i, rfl, by omega, hu, fun j hj hjn => ?_⟩
    by_cases x : j = i
    · subst x; exact .inr ⟨rfl, Nat.le_refl _⟩
    · have := h j (by omega) hjn; omega
theorem bestTo_same {r : Nat → Int} {n p i b : Nat} (h : BestTo r n p i (b : Int)) (hg : ¬ r b < r i) : BestTo r n p (i + 1) (b : Int) := by
  rcases h with ⟨e, _⟩ | ⟨b', e, hb, hn, h⟩
  · omega
  · obtain rfl : b = b' := by omega
    refine .inr ⟨b, rfl, by omega, hn, fun j hj hjn => ?_⟩
    by_cases x : j = i
    · subst x; omega
    · exact h j (by omega) hjn
theorem bestTo_end {r : Nat → Int} {n p : Nat} {bst : Int} (h : BestTo r n p n bst) (hp : p < n) (hr : ∀ j, j < n → 0 ≤ r j) : ∃ b : Nat, bst = b ∧ b < n ∧ rank r n b = p := by
  rcases h with ⟨e, h⟩ | ⟨b, e, hb, hn, h⟩
  · obtain ⟨j, hj, ej⟩ := rank_surj r n p hp
    have := h j hj
    omega
  · refine ⟨b, e, hb, best_rank r n p b hp hb hr fun j hj => ?_⟩
    have h1 := hr b hb
    have e1 : restAt r n p b = r b := by unfold restAt; rw [if_neg hn]
    rw [e1]
    by_cases hjp : rank r n j < p
    · left; unfold restAt; rw [if_pos hjp]; omega
    · have e2 : restAt r n p j = r j := by unfold restAt; rw [if_neg hjp]
      rw [e2]
      exact h j hj hjp

end Go.Proofs.Ytpadpohaadfefaa

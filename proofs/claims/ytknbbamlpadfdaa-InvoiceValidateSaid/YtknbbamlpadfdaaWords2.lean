/-
  More words for memory: a block that holds the integers f 0, f 1, .., f (n-1). No statement of the seat is proved here. No conditions.
-/
import Derived.Test.YtknbbamlpadfdaaWords
namespace Go.Proofs.Ytknbbamlpadfdaa
open Go.RowKit
set_option linter.unusedVariables false

/-- The cells are the integers f 0 .. f (n-1). -/
def IntRow (cs : Array Value) (n : Nat) (f : Nat → Int) : Prop := cs.size = n ∧ ∀ j, j < n → cs[j]? = some (.int .i64 (f j))
section
variable {cs : Array Value} {n : Nat} {f g : Nat → Int}
theorem IntRow.congr (h : IntRow cs n f) (e : ∀ j, j < n → f j = g j) : IntRow cs n g := ⟨h.1, fun j hj => by rw [h.2 j hj, e j hj]⟩
theorem IntRow.put (h : IntRow cs n f) (i : Nat) (v : Int) : IntRow (cs.setIfInBounds i (.int .i64 v)) n (fun j => if j = i then v else f j) := by
  refine ⟨by simpa using h.1, fun j hj => ?_⟩
  rw [Array.getElem?_setIfInBounds]
  by_cases e : i = j
  · subst e
    rw [if_pos rfl, if_pos (by rw [h.1]; exact hj)]
    simp
  · have e2 : ¬ j = i := fun x => e x.symm
    rw [if_neg e, h.2 j hj]
    simp [e2]
theorem IntRow.set (h : IntRow cs n f) (i : Nat) (v : Int) (e : ∀ j, j < n → g j = if j = i then v else f j) : IntRow (cs.setIfInBounds i (.int .i64 v)) n g := (h.put i v).congr fun j hj => (e j hj).symm
/-- The cells of a new block of zeros. -/
theorem IntRow.zeros {C : Array Value} {n : Nat} (h : C.size = n * 1 ∧ ∀ j, j < n * 1 → C[j]? = some ((Value.int .i64 0).cells[j % (Value.int .i64 0).cells.size]!)) : IntRow C n (fun _ => 0) :=
  ⟨by rw [h.1]; omega, fun j hj => by rw [h.2 j (by omega)]; simp [Value.cells, Nat.mod_one]⟩
theorem IntRow.cell {w : World} {b : Nat} {t : TypeId} (h : IntRow cs n f) (hb : Bl w b t cs) {j : Nat} (hj : j < n) : w.cell? ⟨b, j, none⟩ = some (.int .i64 (f j)) := (hb.cell j).trans (h.2 j hj)
theorem IntRow.own {w : World} {b base : Nat} {t : TypeId} (h : IntRow cs n f) (hb : Bl w b t cs) (hg : base ≤ b) (hn : n ≤ 9223372036854775807) : w.ownsRow base t 1 (.slice (some ⟨b, 0, none⟩) n n) n (((List.range n).map f).map (Value.int .i64)) :=
  hb.own_ints hg h.1 (by simp) hn (fun i hi => by rw [h.2 i hi]; simp [List.getD, hi])
end

/-- A row of the call's own that is not empty: its block, and what is in it. -/
theorem own_open {w : World} {base : Nat} {t : TypeId} {A : Option Addr} {n c : Nat} {xs : List Int} (h : w.ownsRow base t 1 (.slice A n c) n (xs.map (Value.int .i64))) (hn : 0 < n) :
    ∃ g cs, A = some ⟨g, 0, none⟩ ∧ base ≤ g ∧ Bl w g t cs ∧ n ≤ c ∧ cs.size = c ∧ ∀ j, j < n → cs[j]? = some (.int .i64 (xs.getD j 0)) := by
  have hl : xs.length = n := by have := h.1; simpa using this
  rcases h.2 with ⟨hv, h0⟩ | ⟨g, cap, cur, hv, hb, hh, h1, h2, h3, h4⟩
  · omega
  · injection hv with e1 e2 e3
    subst e1 e3
    refine ⟨g, cur, rfl, hb, hh, h1, by omega, fun j hj => ?_⟩
    have h5 : (cur.toList.take (n * 1))[j]? = (xs.map (Value.int .i64))[j]? := by rw [h4]
    rw [List.getElem?_take, if_pos (by omega), Array.getElem?_toList, List.getElem?_map, List.getElem?_eq_getElem (show j < xs.length by omega)] at h5
    rw [h5]
    simp [List.getD, List.getElem?_eq_getElem (show j < xs.length by omega)]

end Go.Proofs.Ytknbbamlpadfdaa

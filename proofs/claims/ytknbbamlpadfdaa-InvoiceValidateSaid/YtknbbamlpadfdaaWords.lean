/-
  Words for memory used by all walks of this seat: a slice of integers that reads as a list, and how such a reading is kept. No statement of the seat is proved here. No conditions.
-/
import Derived.Below
import Derived.Laws.OwnMore
import Derived.Deep.Draws
import Derived.Lib.Hide
import Derived.IntWalk
import Derived.WalkKit
import Derived.Laws.Rows
import Derived.OwnWalk
namespace Go.Proofs.Ytknbbamlpadfdaa
open Go.RowKit

/-- The slice '.slice A n c' holds the integers xs (of kind k), in a block that lies in w. -/
def IntsK (k : IntKind) (w : World) (A : Option Addr) (n : Nat) (xs : List Int) : Prop :=
  xs.length = n ∧ (0 < n → ∃ b off, A = some ⟨b, off, none⟩ ∧ b < w.heap.size ∧ ∀ i, i < n → w.cell? ⟨b, off + i, none⟩ = some (.int k (xs.getD i 0)))

abbrev Ints := IntsK .i64

/-- Every element fits 64 bits. -/
def R64 (xs : List Int) : Prop := ∀ i : Nat, -9223372036854775808 ≤ xs.getD i 0 ∧ xs.getD i 0 ≤ 9223372036854775807

section
variable {k : IntKind} {w w' : World} {A : Option Addr} {n : Nat} {xs : List Int}
theorem IntsK.len (h : IntsK k w A n xs) : xs.length = n := h.1
theorem IntsK.nil : IntsK k w A 0 [] := ⟨rfl, fun h => absurd h (by omega)⟩
theorem IntsK.at_ {i : Nat} (h : IntsK k w A n xs) (hi : i < n) : ∃ b off, A = some ⟨b, off, none⟩ ∧ b < w.heap.size ∧ w.cell? ⟨b, off + i, none⟩ = some (.int k (xs.getD i 0)) := by
  obtain ⟨b, off, e, hb, hc⟩ := h.2 (by omega)
  exact ⟨b, off, e, hb, hc i hi⟩
theorem IntsK.get {i : Nat} (h : IntsK k w A n xs) (hi : i < n) : ∃ b off x, A = some ⟨b, off, none⟩ ∧ b < w.heap.size ∧ w.cell? ⟨b, off + i, none⟩ = some (.int k x) ∧ Hid (xs.getD i 0 = x) := by
  obtain ⟨b, off, e, hb, hc⟩ := h.at_ hi
  exact ⟨b, off, _, e, hb, hc, rfl⟩
theorem IntsK.keep (h : IntsK k w A n xs) (hs : w.heap.size ≤ w'.heap.size) (hk : ∀ p : Addr, p.block < w.heap.size → w'.cell? p = w.cell? p) : IntsK k w' A n xs :=
  ⟨h.1, fun hn => by
    obtain ⟨b, off, e, hb, hc⟩ := h.2 hn
    exact ⟨b, off, e, by omega, fun i hi => (hk _ hb).trans (hc i hi)⟩⟩
theorem IntsK.below (h : IntsK k w A n xs) (hb : Below w.heap.size w w') : IntsK k w' A n xs := h.keep hb.size fun _ hp => hb.cell hp
theorem IntsK.drew (h : IntsK k w A n xs) : IntsK k w.drew A n xs := h
theorem IntsK.drewN (h : IntsK k w A n xs) (m : Nat) : IntsK k (w.drewN m) A n xs := h
theorem IntsK.alloc (h : IntsK k w A n xs) (o : Obj) : IntsK k (w.alloc o) A n xs := h.below ((Below.refl _ _).alloc (Nat.le_refl _) _)
theorem IntsK.take (h : IntsK k w A n xs) {m : Nat} (hm : m ≤ n) : IntsK k w A m (xs.take m) := by
  refine ⟨by rw [List.length_take, h.1]; omega, fun h0 => ?_⟩
  obtain ⟨b, off, e, hb, hc⟩ := h.2 (by omega)
  refine ⟨b, off, e, hb, fun i hi => ?_⟩
  rw [hc i (by omega)]
  simp [List.getD, hi]
/-- A row of the call's own reads as its integers. -/
theorem IntsK.of_own {base : Nat} {e : TypeId} {c : Nat} (h : w.ownsRow base e 1 (.slice A n c) n (xs.map (Value.int k))) : IntsK k w A n xs := by
  have hl : xs.length = n := by have := h.1; simpa using this
  refine ⟨hl, fun hn => ?_⟩
  rcases h.2 with ⟨hv, h0⟩ | ⟨g, cap, cur, hv, _, hh, _⟩
  · omega
  · injection hv with h1 h2 h3
    subst h1
    have hlt : g < w.heap.size := by
      rcases Nat.lt_or_ge g w.heap.size with h | h
      · exact h
      · rw [Array.getElem?_eq_none h] at hh; cases hh
    refine ⟨g, 0, rfl, hlt, fun i hi => ?_⟩
    have := h.cellAt (g := g) i (by omega)
    rw [Nat.zero_add, this, List.getElem?_map, List.getD, List.getElem?_eq_getElem (by omega)]
    rfl
end


/-- Block g is the cells cs of element type t, none of them frozen. -/
def Bl (w : World) (g : Nat) (t : TypeId) (cs : Array Value) : Prop := w.heap[g]? = some (.cells cs t (0, 0))
section
variable {w w' : World} {g : Nat} {t : TypeId} {cs : Array Value}
theorem Bl.lt (h : Bl w g t cs) : g < w.heap.size := by
  rcases Nat.lt_or_ge g w.heap.size with h1 | h1
  · exact h1
  · unfold Bl at h; rw [Array.getElem?_eq_none h1] at h; cases h
theorem Bl.cell (h : Bl w g t cs) (i : Nat) : w.cell? ⟨g, i, none⟩ = cs[i]? := cell_of_row w g i cs t (0, 0) h
theorem Bl.free (h : Bl w g t cs) (i : Nat) : w.frozen? ⟨g, i, none⟩ = false := by
  unfold Bl at h
  simp [World.frozen?, h]
theorem Bl.new (w : World) (t : TypeId) (cs : Array Value) : Bl (w.alloc (.cells cs t)) w.heap.size t cs := heap_alloc_new w _
theorem Bl.drewN (h : Bl w g t cs) (n : Nat) : Bl (w.drewN n) g t cs := h
theorem Bl.alloc (h : Bl w g t cs) (o : Obj) : Bl (w.alloc o) g t cs := (Below.heap_alloc w o g h.lt).trans h
theorem Bl.below {B : Nat} (h : Bl w g t cs) (hb : Below B w w') (hg : g < B) : Bl w' g t cs := (hb.block g hg).trans h
theorem Bl.keep (h : Bl w g t cs) (hb : Below w.heap.size w w') : Bl w' g t cs := (hb.block g h.lt).trans h
theorem Bl.put (h : Bl w g t cs) (i : Nat) (u : Value) : Bl (w.setCell ⟨g, i, none⟩ u) g t (cs.setIfInBounds i u) := by
  unfold Bl at h ⊢
  simp [World.setCell, Array.getElem?_modify, h]
theorem Bl.far (h : Bl w g t cs) {p : Addr} (hp : g ≠ p.block) (u : Value) : Bl (w.setCell p u) g t cs := (Below.heap_setCell w p u g hp).trans h
/-- A whole block of integers read as a list. -/
theorem Bl.ints {k : IntKind} {xs : List Int} (h : Bl w g t cs) (hx : ∀ i, i < xs.length → cs[i]? = some (.int k (xs.getD i 0))) : IntsK k w (some ⟨g, 0, none⟩) xs.length xs :=
  ⟨rfl, fun _ => ⟨g, 0, rfl, h.lt, fun i hi => by rw [Nat.zero_add, h.cell, hx i hi]⟩⟩
end

/-- A whole block of integers is a row of the call's own. -/
theorem Bl.own_ints {w : World} {g base n : Nat} {t : TypeId} {cs : Array Value} {k : IntKind} {xs : List Int} (h : Bl w g t cs) (hb : base ≤ g) (hs : cs.size = n) (hl : xs.length = n) (hn : n ≤ 9223372036854775807) (hx : ∀ i, i < n → cs[i]? = some (.int k (xs.getD i 0))) :
    w.ownsRow base t 1 (.slice (some ⟨g, 0, none⟩) n n) n (xs.map (Value.int k)) := by
  refine ⟨by simp [hl], .inr ⟨g, n, cs, rfl, hb, h, Nat.le_refl _, by unfold maxLen; omega, by omega, ?_⟩⟩
  apply List.ext_getElem?
  intro i
  by_cases hi : i < n
  · have := hx i hi
    rw [List.getElem?_take, if_pos (by omega), Array.getElem?_toList, this, List.getElem?_map, List.getElem?_eq_getElem (show i < xs.length by omega)]
    simp [List.getD, List.getElem?_eq_getElem (show i < xs.length by omega)]
  · rw [List.getElem?_eq_none (by simp; omega), List.getElem?_eq_none (by simp; omega)]

/-- make([]T, n): a new block of n zero values. -/
theorem make_any {P : Program} (t e : TypeId) (z : Value) (size bytes n : Nat) (ht : P.underlying t = some (.slice e)) (hi : (P.info? e).map (fun i => (i.zero, i.size, i.bytes)) = some (some z, size, bytes)) (hb : bytes * n ≤ 281474976710656) (hn : n ≤ 9223372036854775807) :
    ∃ C : Array Value, Hid (C.size = n * size ∧ ∀ j, j < n * size → C[j]? = some (z.cells[j % z.cells.size]!)) ∧ ∀ w : World, (Instr.makeSlice t (.int .i64 (n : Int)) (.int .i64 (n : Int))).run P w = .ok (.slice (some ⟨w.heap.size, 0, none⟩) n n) (w.alloc (.cells C e)) := by
  obtain ⟨i, hi0, hz, hs, hby⟩ := info_parts hi
  refine ⟨madeCells z.cells (n * size), ⟨size_madeCells _ _, fun j hj => by simp [madeCells, hj]⟩, fun w => ?_⟩
  have := run_make (P := P) w t e i z ht hi0 hz .i64 .i64 (n : Int) (n : Int) (by omega) (Int.le_refl _) (by rw [hby, ← Int.natCast_mul]; omega) (by omega)
  rw [hs] at this
  simpa using this

end Go.Proofs.Ytknbbamlpadfdaa

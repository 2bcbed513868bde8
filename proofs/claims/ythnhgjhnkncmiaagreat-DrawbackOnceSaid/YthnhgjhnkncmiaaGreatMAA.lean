/-
  Words for memory used by all walks of this seat: a slice of integers that reads as a list, and how such a reading is kept. No statement of the seat is proved here. No conditions.
  How a slice of integers that came in is opened: it reads as a list, its length is at most its capacity. No statement of the seat is proved here. No conditions.
  More words for memory: a block that holds the integers f 0, f 1, .., f (n-1). No statement of the seat is proved here. No conditions.
  A law for the built-in append onto a row of the call's own, the source nil, empty or not. No statement of the seat is proved here. Conditions: the new length and its bytes fit.
  Words for memory: slices of structs of k cells that read as lists. No statement of the seat is proved here. No conditions.
  Slices of sources: when two of them have a unit in common; a sorted list shows it at neighbours. No statement of the seat is proved here. No conditions.
  Slices as sequences of units: join, front, between as plain functions, and what they leave of the units. No statement of the seat is proved here. No conditions.
  front, between and the proportional division of slices as plain functions, and what they leave of the units. No statement of the seat is proved here. No conditions.
-/
import Derived.Below
import Derived.Laws.OwnMore
import Derived.Deep.Draws
import Derived.Lib.Hide
import Derived.IntWalk
import Derived.WalkKit
import Derived.Laws.Rows
import Derived.OwnWalk
import Derived.Maps.AppendAt
import Derived.Deep.AppendLies
import Derived.RegionTactic
namespace Go.Proofs.YthnhgjhnkncmiaaGreat
open Go.RowKit

/-- The slice '.slice A n c' holds the integers xs (of kind k), in a block that lies in w. -/
def IntsK (k : IntKind) (w : World) (A : Option Addr) (n : Nat) (xs : List Int) : Prop :=
  xs.length = n ∧ (0 < n → ∃ b off, A = some ⟨b, off, none⟩ ∧ b < w.heap.size ∧ ∀ i, i < n → w.cell? ⟨b, off + i, none⟩ = some (.int k (xs.getD i 0)))

abbrev Ints := IntsK .i64

/-- Every element fits 64 bits. -/
def R64 (xs : List Int) : Prop := ∀ i : Nat, -9223372036854775808 ≤ xs.getD i 0 ∧ xs.getD i 0 ≤ 9223372036854775807

section
variable {k : IntKind} {w w' : World} {A : Option Addr} {n : Nat} {xs : List Int}
theorem IntsK.len (h : IntsK k w A n xs) : xs.length = n := h.1
theorem IntsK.nil : IntsK k w A 0 [] := ⟨rfl, fun h => absurd h (by omega)⟩
theorem IntsK.at_ {i : Nat} (h : IntsK k w A n xs) (hi : i < n) : ∃ b off, A = some ⟨b, off, none⟩ ∧ b < w.heap.size ∧ w.cell? ⟨b, off + i, none⟩ = some (.int k (xs.getD i 0)) := by
  obtain ⟨b, off, e, hb, hc⟩ := h.2 (by omega)
  exact ⟨b, off, e, hb, hc i hi⟩
theorem IntsK.get {i : Nat} (h : IntsK k w A n xs) (hi : i < n) : ∃ b off x, A = some ⟨b, off, none⟩ ∧ b < w.heap.size ∧ w.cell? ⟨b, off + i, none⟩ = some (.int k x) ∧ Hid (xs.getD i 0 = x) := by
  obtain ⟨b, off, e, hb, hc⟩ := h.at_ hi
  exact ⟨b, off, _, e, hb, hc, rfl⟩
theorem IntsK.keep (h : IntsK k w A n xs) (hs : w.heap.size ≤ w'.heap.size) (hk : ∀ p : Addr, p.block < w.heap.size → w'.cell? p = w.cell? p) : IntsK k w' A n xs :=
  ⟨h.1, fun hn => by
    obtain ⟨b, off, e, hb, hc⟩ := h.2 hn
    exact ⟨b, off, e, by omega, fun i hi => (hk _ hb).trans (hc i hi)⟩⟩
theorem IntsK.below (h : IntsK k w A n xs) (hb : Below w.heap.size w w') : IntsK k w' A n xs := h.keep hb.size fun _ hp => hb.cell hp
theorem IntsK.drew (h : IntsK k w A n xs) : IntsK k w.drew A n xs := h
theorem IntsK.drewN (h : IntsK k w A n xs) (m : Nat) : IntsK k (w.drewN m) A n xs := h
theorem IntsK.alloc (h : IntsK k w A n xs) (o : Obj) : IntsK k (w.alloc o) A n xs := h.below ((Below.refl _ _).alloc (Nat.le_refl _) _)
theorem IntsK.take (h : IntsK k w A n xs) {m : Nat} (hm : m ≤ n) : IntsK k w A m (xs.take m) := by
  refine ⟨by rw [List.length_take, h.1]; omega, fun h0 => ?_⟩
  obtain ⟨b, off, e, hb, hc⟩ := h.2 (by omega)
  refine ⟨b, off, e, hb, fun i hi => ?_⟩
  rw [hc i (by omega)]
  simp [List.getD, hi]
/-- A row of the call's own reads as its integers. -/
theorem IntsK.of_own {base : Nat} {e : TypeId} {c : Nat} (h : w.ownsRow base e 1 (.slice A n c) n (xs.map (Value.int k))) : IntsK k w A n xs := by
  have hl : xs.length = n := by have := h.1; simpa using this
  refine ⟨hl, fun hn => ?_⟩
  rcases h.2 with ⟨hv, h0⟩ | ⟨g, cap, cur, hv, _, hh, _⟩
  · omega
  · injection hv with h1 h2 h3
    subst h1
    have hlt : g < w.heap.size := by
      rcases Nat.lt_or_ge g w.heap.size with h | h
      · exact h
      · rw [Array.getElem?_eq_none h] at hh; cases hh
    refine ⟨g, 0, rfl, hlt, fun i hi => ?_⟩
    have := h.cellAt (g := g) i (by omega)
    rw [Nat.zero_add, this, List.getElem?_map, List.getD, List.getElem?_eq_getElem (by omega)]
    rfl
end


/-- Block g is the cells cs of element type t, none of them frozen. -/
def Bl (w : World) (g : Nat) (t : TypeId) (cs : Array Value) : Prop := w.heap[g]? = some (.cells cs t (0, 0))
section
variable {w w' : World} {g : Nat} {t : TypeId} {cs : Array Value}
theorem Bl.lt (h : Bl w g t cs) : g < w.heap.size := by
  rcases Nat.lt_or_ge g w.heap.size with h1 | h1
  · exact h1
  · unfold Bl at h; rw [Array.getElem?_eq_none h1] at h; cases h
theorem Bl.cell (h : Bl w g t cs) (i : Nat) : w.cell? ⟨g, i, none⟩ = cs[i]? := cell_of_row w g i cs t (0, 0) h
theorem Bl.free (h : Bl w g t cs) (i : Nat) : w.frozen? ⟨g, i, none⟩ = false := by
  unfold Bl at h
  simp [World.frozen?, h]
theorem Bl.new (w : World) (t : TypeId) (cs : Array Value) : Bl (w.alloc (.cells cs t)) w.heap.size t cs := heap_alloc_new w _
theorem Bl.drewN (h : Bl w g t cs) (n : Nat) : Bl (w.drewN n) g t cs := h
theorem Bl.alloc (h : Bl w g t cs) (o : Obj) : Bl (w.alloc o) g t cs := (Below.heap_alloc w o g h.lt).trans h
theorem Bl.below {B : Nat} (h : Bl w g t cs) (hb : Below B w w') (hg : g < B) : Bl w' g t cs := (hb.block g hg).trans h
theorem Bl.keep (h : Bl w g t cs) (hb : Below w.heap.size w w') : Bl w' g t cs := (hb.block g h.lt).trans h
theorem Bl.put (h : Bl w g t cs) (i : Nat) (u : Value) : Bl (w.setCell ⟨g, i, none⟩ u) g t (cs.setIfInBounds i u) := by
  unfold Bl at h ⊢
  simp [World.setCell, Array.getElem?_modify, h]
theorem Bl.far (h : Bl w g t cs) {p : Addr} (hp : g ≠ p.block) (u : Value) : Bl (w.setCell p u) g t cs := (Below.heap_setCell w p u g hp).trans h
/-- A whole block of integers read as a list. -/
theorem Bl.ints {k : IntKind} {xs : List Int} (h : Bl w g t cs) (hx : ∀ i, i < xs.length → cs[i]? = some (.int k (xs.getD i 0))) : IntsK k w (some ⟨g, 0, none⟩) xs.length xs :=
  ⟨rfl, fun _ => ⟨g, 0, rfl, h.lt, fun i hi => by rw [Nat.zero_add, h.cell, hx i hi]⟩⟩
end

/-- A whole block of integers is a row of the call's own. -/
theorem Bl.own_ints {w : World} {g base n : Nat} {t : TypeId} {cs : Array Value} {k : IntKind} {xs : List Int} (h : Bl w g t cs) (hb : base ≤ g) (hs : cs.size = n) (hl : xs.length = n) (hn : n ≤ 9223372036854775807) (hx : ∀ i, i < n → cs[i]? = some (.int k (xs.getD i 0))) :
    w.ownsRow base t 1 (.slice (some ⟨g, 0, none⟩) n n) n (xs.map (Value.int k)) := by
  refine ⟨by simp [hl], .inr ⟨g, n, cs, rfl, hb, h, Nat.le_refl _, by unfold maxLen; omega, by omega, ?_⟩⟩
  apply List.ext_getElem?
  intro i
  by_cases hi : i < n
  · have := hx i hi
    rw [List.getElem?_take, if_pos (by omega), Array.getElem?_toList, this, List.getElem?_map, List.getElem?_eq_getElem (show i < xs.length by omega)]
    simp [List.getD, List.getElem?_eq_getElem (show i < xs.length by omega)]
  · rw [List.getElem?_eq_none (by simp; omega), List.getElem?_eq_none (by simp; omega)]

/-- make([]T, n): a new block of n zero values. -/
theorem make_any {P : Program} (t e : TypeId) (z : Value) (size bytes n : Nat) (ht : P.underlying t = some (.slice e)) (hi : (P.info? e).map (fun i => (i.zero, i.size, i.bytes)) = some (some z, size, bytes)) (hb : bytes * n ≤ 281474976710656) (hn : n ≤ 9223372036854775807) :
    ∃ C : Array Value, Hid (C.size = n * size ∧ ∀ j, j < n * size → C[j]? = some (z.cells[j % z.cells.size]!)) ∧ ∀ w : World, (Instr.makeSlice t (.int .i64 (n : Int)) (.int .i64 (n : Int))).run P w = .ok (.slice (some ⟨w.heap.size, 0, none⟩) n n) (w.alloc (.cells C e)) := by
  obtain ⟨i, hi0, hz, hs, hby⟩ := info_parts hi
  refine ⟨madeCells z.cells (n * size), ⟨size_madeCells _ _, fun j hj => by simp [madeCells, hj]⟩, fun w => ?_⟩
  have := run_make (P := P) w t e i z ht hi0 hz .i64 .i64 (n : Int) (n : Int) (by omega) (Int.le_refl _) (by rw [hby, ← Int.natCast_mul]; omega) (by omega)
  rw [hs] at this
  simpa using this

end Go.Proofs.YthnhgjhnkncmiaaGreat

namespace Go.Proofs.YthnhgjhnkncmiaaGreat
open Go.RowKit
set_option linter.unusedVariables false

/-- A slice of integers that came in: it is nil; or it leads to a row of 'cap' cells, the numbers 'zs' (the first 'len' are its elements), each fitting its kind. -/
def IsRow (k : IntKind) (w : World) (a : Option Addr) (len cap : Nat) (zs : List Int) : Prop :=
  (a = none ∧ len = 0 ∧ cap = 0 ∧ zs = []) ∨
  ∃ x, a = some x ∧ len ≤ cap ∧ cap ≤ maxLen ∧ zs.length = cap ∧ (∀ i, i < zs.length → w.cell? (x.add i) = some (.int k (zs.getD i 0))) ∧ ∀ n ∈ zs, (Lit.int k n).wf = true

theorem addr_none {w : World} {x : Addr} {v : Value} (h : w.cell? x = some v) : x.spot = none := World.cell?_spot h

theorem isRow_ints {k : IntKind} {w : World} {a : Option Addr} {len cap : Nat} {zs : List Int} (h : IsRow k w a len cap zs) :
    IntsK k w a len (zs.take len) ∧ len ≤ cap ∧ cap ≤ 9223372036854775807 ∧ (a = none → len = 0 ∧ cap = 0) := by
  rcases h with ⟨rfl, rfl, rfl, rfl⟩ | ⟨x, rfl, hl, hm, hz, hc, hw⟩
  · exact ⟨⟨rfl, fun h => absurd h (by omega)⟩, Nat.le_refl _, by omega, fun _ => ⟨rfl, rfl⟩⟩
  · refine ⟨⟨by rw [List.length_take]; omega, fun h0 => ?_⟩, hl, by unfold maxLen at hm; omega, by intro h; cases h⟩
    obtain ⟨b, off, spot⟩ := x
    have h1 := hc 0 (by omega)
    have hs : spot = none := by simpa [Addr.add] using World.cell?_spot h1
    subst hs
    have hb : b < w.heap.size := by
      rcases Nat.lt_or_ge b w.heap.size with h2 | h2
      · exact h2
      · simp [Addr.add, World.cell?, Array.getElem?_eq_none h2] at h1
    refine ⟨b, off, rfl, hb, fun i hi => ?_⟩
    have h2 := hc i (by omega)
    have e : (⟨b, off, none⟩ : Addr).add i = ⟨b, off + i, none⟩ := by
      by_cases h0 : i = 0
      · subst h0; simp [Addr.add]
      · simp [Addr.add, h0]
    rw [e] at h2
    rw [h2]
    simp [List.getD, hi]

end Go.Proofs.YthnhgjhnkncmiaaGreat

namespace Go.Proofs.YthnhgjhnkncmiaaGreat
open Go.RowKit
set_option linter.unusedVariables false

/-- The cells are the integers f 0 .. f (n-1). -/
def IntRow (cs : Array Value) (n : Nat) (f : Nat → Int) : Prop := cs.size = n ∧ ∀ j, j < n → cs[j]? = some (.int .i64 (f j))
section
variable {cs : Array Value} {n : Nat} {f g : Nat → Int}
theorem IntRow.congr (h : IntRow cs n f) (e : ∀ j, j < n → f j = g j) : IntRow cs n g := ⟨h.1, fun j hj => by rw [h.2 j hj, e j hj]⟩
theorem IntRow.put (h : IntRow cs n f) (i : Nat) (v : Int) : IntRow (cs.setIfInBounds i (.int .i64 v)) n (fun j => if j = i then v else f j) := by
  refine ⟨by simpa using h.1, fun j hj => ?_⟩
  rw [Array.getElem?_setIfInBounds]
  by_cases e : i = j
  · subst e
    rw [if_pos rfl, if_pos (by rw [h.1]; exact hj)]
    simp
  · have e2 : ¬ j = i := fun x => e x.symm
    rw [if_neg e, h.2 j hj]
    simp [e2]
theorem IntRow.set (h : IntRow cs n f) (i : Nat) (v : Int) (e : ∀ j, j < n → g j = if j = i then v else f j) : IntRow (cs.setIfInBounds i (.int .i64 v)) n g := (h.put i v).congr fun j hj => (e j hj).symm
/-- The cells of a new block of zeros. -/
theorem IntRow.zeros {C : Array Value} {n : Nat} (h : C.size = n * 1 ∧ ∀ j, j < n * 1 → C[j]? = some ((Value.int .i64 0).cells[j % (Value.int .i64 0).cells.size]!)) : IntRow C n (fun _ => 0) :=
  ⟨by rw [h.1]; omega, fun j hj => by rw [h.2 j (by omega)]; simp [Value.cells, Nat.mod_one]⟩
theorem IntRow.cell {w : World} {b : Nat} {t : TypeId} (h : IntRow cs n f) (hb : Bl w b t cs) {j : Nat} (hj : j < n) : w.cell? ⟨b, j, none⟩ = some (.int .i64 (f j)) := (hb.cell j).trans (h.2 j hj)
theorem IntRow.own {w : World} {b base : Nat} {t : TypeId} (h : IntRow cs n f) (hb : Bl w b t cs) (hg : base ≤ b) (hn : n ≤ 9223372036854775807) : w.ownsRow base t 1 (.slice (some ⟨b, 0, none⟩) n n) n (((List.range n).map f).map (Value.int .i64)) :=
  hb.own_ints hg h.1 (by simp) hn (fun i hi => by rw [h.2 i hi]; simp [List.getD, hi])
end

/-- A row of the call's own that is not empty: its block, and what is in it. -/
theorem own_open {w : World} {base : Nat} {t : TypeId} {A : Option Addr} {n c : Nat} {xs : List Int} (h : w.ownsRow base t 1 (.slice A n c) n (xs.map (Value.int .i64))) (hn : 0 < n) :
    ∃ g cs, A = some ⟨g, 0, none⟩ ∧ base ≤ g ∧ Bl w g t cs ∧ n ≤ c ∧ cs.size = c ∧ ∀ j, j < n → cs[j]? = some (.int .i64 (xs.getD j 0)) := by
  have hl : xs.length = n := by have := h.1; simpa using this
  rcases h.2 with ⟨hv, h0⟩ | ⟨g, cap, cur, hv, hb, hh, h1, h2, h3, h4⟩
  · omega
  · injection hv with e1 e2 e3
    subst e1 e3
    refine ⟨g, cur, rfl, hb, hh, h1, by omega, fun j hj => ?_⟩
    have h5 : (cur.toList.take (n * 1))[j]? = (xs.map (Value.int .i64))[j]? := by rw [h4]
    rw [List.getElem?_take, if_pos (by omega), Array.getElem?_toList, List.getElem?_map, List.getElem?_eq_getElem (show j < xs.length by omega)] at h5
    rw [h5]
    simp [List.getD, List.getElem?_eq_getElem (show j < xs.length by omega)]

end Go.Proofs.YthnhgjhnkncmiaaGreat

namespace Go.Proofs.YthnhgjhnkncmiaaGreat
open Go.RowKit
set_option linter.unusedVariables false

/-- The slice '.slice A n c' has the cells xs, size cells for each element; nothing is asked of an empty one. -/
def Rd (w : World) (size : Nat) (A : Option Addr) (n : Nat) (xs : List Value) : Prop :=
  xs.length = n * size ∧ (0 < n → ∃ b off, A = some ⟨b, off, none⟩ ∧ b < w.heap.size ∧ ∀ j u, xs[j]? = some u → w.cell? ⟨b, off + j, none⟩ = some u)

section
variable {w w' : World} {size n : Nat} {A : Option Addr} {xs : List Value}
theorem Rd.keep (h : Rd w size A n xs) (hb : RowKit.Below w.heap.size w w') : Rd w' size A n xs :=
  ⟨h.1, fun hn => by
    obtain ⟨b, off, e, hlt, hc⟩ := h.2 hn
    exact ⟨b, off, e, by have := hb.size; omega, fun j u hu => (hb.cell (p := ⟨b, off + j, none⟩) hlt).trans (hc j u hu)⟩⟩
theorem Rd.alloc (h : Rd w size A n xs) (o : Obj) : Rd (w.alloc o) size A n xs := h.keep ((Below.refl _ _).alloc (Nat.le_refl _) _)
theorem Rd.drewN (h : Rd w size A n xs) (m : Nat) : Rd (w.drewN m) size A n xs := h
theorem Rd.of_ints {k : IntKind} {zs : List Int} (h : IntsK k w A n zs) : Rd w 1 A n (zs.map (Value.int k)) := by
  refine ⟨by rw [List.length_map, h.1]; omega, fun hn => ?_⟩
  obtain ⟨b, off, e, hlt, hc⟩ := h.2 hn
  refine ⟨b, off, e, hlt, fun j u hu => ?_⟩
  rw [List.getElem?_map] at hu
  obtain ⟨z, hz, rfl⟩ := Option.map_eq_some_iff.1 hu
  have hj : j < zs.length := by
    rcases Nat.lt_or_ge j zs.length with h1 | h1
    · exact h1
    · rw [List.getElem?_eq_none h1] at hz; cases hz
  rw [hc j (by have := h.1; omega), List.getD, hz]
  rfl
theorem Rd.of_own {base : Nat} {e : TypeId} {c : Nat} (h : w.ownsRow base e size (.slice A n c) n xs) : Rd w size A n xs := by
  refine ⟨h.1, fun hn => ?_⟩
  rcases h.2 with ⟨_, h0⟩ | ⟨g, cap, cur, hv, _, hh, _⟩
  · omega
  · injection hv with h1 h2 h3
    subst h1
    have hlt : g < w.heap.size := by
      rcases Nat.lt_or_ge g w.heap.size with h4 | h4
      · exact h4
      · rw [Array.getElem?_eq_none h4] at hh; cases hh
    refine ⟨g, 0, rfl, hlt, fun j u hu => ?_⟩
    have hj : j < n * size := by
      rcases Nat.lt_or_ge j (n * size) with h4 | h4
      · exact h4
      · rw [List.getElem?_eq_none (by rw [h.1]; exact h4)] at hu; cases hu
    rw [Nat.zero_add, h.cellAt (g := g) j hj, hu]
end

section
variable {P : Program} (w : World)

theorem run_append_nothing (base : Nat) (t ty e : TypeId) (i : TypeInfo) (size : Nat) (ht : P.underlying t = some (.slice e)) (hi : P.info? e = some i)
    (v : Value) (n : Nat) (xs : List Value) (hown : w.ownsRow base e size v n xs) (c : Nat) : (Builtin.append_ #[t, t] ty #[v, .slice none 0 c]).run P w = .ok v w := by
  rcases hown.2 with ⟨rfl, rfl⟩ | ⟨g, cap, cur, rfl, _, _, hnc, _⟩
  · simp [Builtin.append_, run_underlying ht, sizeOf, typeInfo, hi, Builtin.lenOf, Builtin.firstCells]
  · simp [Builtin.append_, run_underlying ht, sizeOf, typeInfo, hi, Builtin.lenOf, Builtin.firstCells, hnc, storeCells]

theorem run_append_rd (base : Nat) (t ty e : TypeId) (i : TypeInfo) (z : Value) (size bytes : Nat) (ht : P.underlying t = some (.slice e)) (hi : P.info? e = some i) (hz : i.zero = some z)
    (hsize : i.size = size) (hby : i.bytes = bytes) (hzs : z.cells.size = size) (hsz : 0 < size)
    (v : Value) (n : Nat) (xs : List Value) (hown : w.ownsRow base e size v n xs)
    (A : Option Addr) (m c : Nat) (news : List Value) (hr : Rd w size A m news) (h1 : ∀ u ∈ news, u.oneCell' = true)
    (h63 : n + m ≤ maxLen) (hbytes : (n + m) * bytes ≤ 140737488355328) (hbase : base ≤ w.heap.size) :
    ∃ v' w', (Builtin.append_ #[t, t] ty #[v, .slice A m c]).run P w = .ok v' w' ∧ w'.ownsRow base e size v' (n + m) (xs ++ news) ∧ w.grownBy w' v.ownBlock ∧
      (v'.ownBlock = v.ownBlock ∨ v'.ownBlock = some w.heap.size) := by
  rcases A with _ | ad
  · have hm : m = 0 := by
      rcases Nat.eq_zero_or_pos m with h0 | h0
      · exact h0
      · obtain ⟨b, off, h, _⟩ := hr.2 h0; cases h
    subst hm
    obtain rfl : news = [] := List.eq_nil_of_length_eq_zero (by simpa using hr.1)
    exact ⟨v, w, run_append_nothing w base t ty e i size ht hi v n xs hown c, by simpa using hown, World.grownBy.refl w _, .inl rfl⟩
  · have hcells : ∀ j u, news[j]? = some u → w.cell? (ad.add j) = some u := by
      intro j u hu
      rcases Nat.eq_zero_or_pos m with h0 | h0
      · subst h0
        obtain rfl : news = [] := List.eq_nil_of_length_eq_zero (by simpa using hr.1)
        simp at hu
      · obtain ⟨b, off, h, _, hc⟩ := hr.2 h0
        injection h with h
        subst h
        have := hc j u hu
        by_cases hj0 : j = 0
        · subst hj0; simpa [Addr.add] using this
        · simpa [Addr.add, hj0] using this
    obtain ⟨v', w', hrun, h2, h3, _, h5⟩ := run_append_own_at (P := P) w base t ty e i z size bytes ht hi hz hsize hby hzs hsz v n xs hown ad m c news hr.1 hcells h1 h63 hbytes hbase
    exact ⟨v', w', hrun, h2, h3, h5⟩

theorem wpList_append_rd {ops : Array Oper} {rest : List Oper} {o : Oper} {a : Act} {Q : Exit → Act → World → Prop} (hgd : o.guard = none) (s x : Operand) (t : TypeId)
    (ho : o.op = .call { callee := .builtin .append, args := #[s, x], argTypes := #[t, t] })
    (base : Nat) (e : TypeId) (z : Value) (size bytes : Nat) (ht : P.underlying t = some (.slice e)) (hi : (P.info? e).map (fun i => (i.zero, i.size, i.bytes)) = some (some z, size, bytes)) (hzs : z.cells.size = size) (hsz : 0 < size)
    (v : Value) (n : Nat) (xs : List Value) (hs : a.eval s = v) (hown : w.ownsRow base e size v n xs)
    (A : Option Addr) (m c : Nat) (news : List Value) (hx : a.eval x = .slice A m c) (hr : Rd w size A m news) (h1 : ∀ u ∈ news, u.oneCell' = true)
    (h63 : n + m ≤ maxLen) (hbytes : (n + m) * bytes ≤ 140737488355328) (hbase : base ≤ w.heap.size)
    (h : ∀ v' w', w'.ownsRow base e size v' (n + m) (xs ++ news) → w.grownBy w' v.ownBlock → (v'.ownBlock = v.ownBlock ∨ v'.ownBlock = some w.heap.size) → wpList P ops Q rest (a.put o.dst v') w') : wpList P ops Q (o :: rest) a w := by
  obtain ⟨i, hi0, hz, hsize, hby⟩ := info_parts hi
  refine wpList_plain hgd fun K hK => ?_
  obtain ⟨v', w', hrun, h2, h3, h4⟩ := run_append_rd (P := P) w base t o.type e i z size bytes ht hi0 hz hsize hby hzs hsz v n xs hown A m c news hr h1 h63 hbytes hbase
  unfold Oper.wp execOp
  simp only [ho, resolve, invoke, builtin, Sem.run_bind, Sem.run_pure, Result.andThen_ok, List.map_toArray, List.map_cons, List.map_nil, hs, hx, hrun]
  exact hK _ _ (h v' w' h2 h3 h4)
end

/-- What a row of the call's own is, as a value. -/
theorem own_slice {w : World} {base : Nat} {e : TypeId} {size : Nat} {v : Value} {n : Nat} {xs : List Value} (h : w.ownsRow base e size v n xs) : ∃ A c, v = .slice A n c := by
  rcases h.2 with ⟨rfl, rfl⟩ | ⟨g, cap, cur, rfl, _⟩
  · exact ⟨_, _, rfl⟩
  · exact ⟨_, _, rfl⟩
/-- The block of a row of the call's own lies from base on. -/
theorem own_base {w : World} {base : Nat} {e : TypeId} {size : Nat} {v : Value} {n : Nat} {xs : List Value} (h : w.ownsRow base e size v n xs) (g : Nat) (hg : v.ownBlock = some g) : base ≤ g := by
  rcases h.2 with ⟨rfl, rfl⟩ | ⟨g', cap, cur, rfl, hb, _⟩
  · simp [Value.ownBlock] at hg
  · simp [Value.ownBlock] at hg; omega
end Go.Proofs.YthnhgjhnkncmiaaGreat

namespace Go.Proofs.YthnhgjhnkncmiaaGreat
open Go.RowKit
set_option linter.unusedVariables false

/-- The slice '.slice A n c' holds the records xs, each as the k cells that enc gives. -/
def Recs {α : Type} [Inhabited α] (enc : α → List Value) (k : Nat) (w : World) (A : Option Addr) (n : Nat) (xs : List α) : Prop :=
  xs.length = n ∧ (0 < n → ∃ b off, A = some ⟨b, off, none⟩ ∧ b < w.heap.size ∧ ∀ i, i < n → ∀ c, c < k → w.cell? ⟨b, off + i * k + c, none⟩ = some ((enc xs[i]!)[c]!))

section
variable {α : Type} {enc : α → List Value} {k n : Nat} {w : World}
/-- The cells of a list of records. -/
def flat (enc : α → List Value) (xs : List α) : List Value := xs.flatMap enc
theorem flat_length (hk : ∀ x, (enc x).length = k) (xs : List α) : (flat enc xs).length = xs.length * k := by
  induction xs with
  | nil => simp [flat]
  | cons x xs ih =>
    have : flat enc (x :: xs) = enc x ++ flat enc xs := by simp [flat]
    rw [this, List.length_append, ih, hk, List.length_cons, Nat.add_mul]
    omega
theorem flat_append (xs ys : List α) : flat enc (xs ++ ys) = flat enc xs ++ flat enc ys := by simp [flat]
theorem flat_one (x : α) : flat enc [x] = enc x := by simp [flat]

/-- A block of n records f 0 .. f (n-1). -/
def RecRow (enc : α → List Value) (k : Nat) (cs : Array Value) (n : Nat) (f : Nat → α) : Prop := cs.size = n * k ∧ ∀ j, j < n → ∀ c, c < k → cs[j * k + c]? = some ((enc (f j))[c]!)

theorem RecRow.congr {cs : Array Value} {f g : Nat → α} (h : RecRow enc k cs n f) (e : ∀ j, j < n → f j = g j) : RecRow enc k cs n g := ⟨h.1, fun j hj c hc => by rw [h.2 j hj c hc, e j hj]⟩
theorem RecRow.cell {cs : Array Value} {f : Nat → α} {b : Nat} {t : TypeId} (h : RecRow enc k cs n f) (hb : Bl w b t cs) {j c : Nat} (hj : j < n) (hc : c < k) : w.cell? ⟨b, j * k + c, none⟩ = some ((enc (f j))[c]!) := (hb.cell _).trans (h.2 j hj c hc)

end

section
variable {α : Type} [Inhabited α] {enc : α → List Value} {k : Nat} {w w' : World} {A : Option Addr} {n : Nat} {xs : List α}
theorem Recs.len (h : Recs enc k w A n xs) : xs.length = n := h.1
theorem Recs.nil : Recs enc k w A 0 [] := ⟨rfl, fun h => absurd h (by omega)⟩
theorem Recs.below (h : Recs enc k w A n xs) (hb : RowKit.Below w.heap.size w w') : Recs enc k w' A n xs :=
  ⟨h.1, fun hn => by
    obtain ⟨b, off, e, hlt, hc⟩ := h.2 hn
    exact ⟨b, off, e, by have := hb.size; omega, fun i hi c hcc => (hb.cell (p := ⟨b, off + i * k + c, none⟩) hlt).trans (hc i hi c hcc)⟩⟩
theorem Recs.alloc (h : Recs enc k w A n xs) (o : Obj) : Recs enc k (w.alloc o) A n xs := h.below ((Below.refl _ _).alloc (Nat.le_refl _) _)
theorem Recs.drewN (h : Recs enc k w A n xs) (m : Nat) : Recs enc k (w.drewN m) A n xs := h
theorem Recs.at_ (h : Recs enc k w A n xs) {i : Nat} (hi : i < n) : ∃ b off, A = some ⟨b, off, none⟩ ∧ b < w.heap.size ∧ ∀ c, c < k → w.cell? ⟨b, off + i * k + c, none⟩ = some ((enc xs[i]!)[c]!) := by
  obtain ⟨b, off, e, hlt, hc⟩ := h.2 (by omega)
  exact ⟨b, off, e, hlt, fun c hcc => hc i hi c hcc⟩

theorem flat_get (hk : ∀ x, (enc x).length = k) (xs : List α) (i c : Nat) (hi : i < xs.length) (hc : c < k) : (flat enc xs)[i * k + c]? = some ((enc xs[i]!)[c]!) := by
  induction xs generalizing i with
  | nil => simp at hi
  | cons x xs ih =>
    have e : flat enc (x :: xs) = enc x ++ flat enc xs := by simp [flat]
    rw [e]
    cases i with
    | zero =>
      rw [Nat.zero_mul, Nat.zero_add, List.getElem?_append_left (by rw [hk]; exact hc), List.getElem?_eq_getElem (by rw [hk]; exact hc)]
      simp [getElem!_pos, hk, hc]
    | succ i =>
      rw [List.getElem?_append_right (by rw [hk, Nat.add_mul]; omega), hk, show (i + 1) * k + c - k = i * k + c by rw [Nat.add_mul]; omega, ih i (by simpa using hi)]
      simp
/-- A row of the call's own reads as its records. -/
theorem Recs.of_own (hk : ∀ x, (enc x).length = k) {base : Nat} {e : TypeId} {c : Nat} (h : w.ownsRow base e k (.slice A n c) n (flat enc xs)) (hl : xs.length = n) : Recs enc k w A n xs := by
  refine ⟨hl, fun hn => ?_⟩
  rcases h.2 with ⟨hv, h0⟩ | ⟨g, cap, cur, hv, _, hh, _⟩
  · omega
  · injection hv with h1 h2 h3
    subst h1
    have hlt : g < w.heap.size := by
      rcases Nat.lt_or_ge g w.heap.size with h4 | h4
      · exact h4
      · rw [Array.getElem?_eq_none h4] at hh; cases hh
    refine ⟨g, 0, rfl, hlt, fun i hi c hc => ?_⟩
    have hlt2 : i * k + c < n * k := by
      have : (i + 1) * k ≤ n * k := Nat.mul_le_mul_right _ hi
      rw [Nat.add_mul] at this
      omega
    rw [Nat.zero_add, h.cellAt (g := g) (i * k + c) hlt2, flat_get hk xs i c (by omega) hc]

theorem RecRow.own {cs : Array Value} {f : Nat → α} {b base : Nat} {t : TypeId} (hk : ∀ x, (enc x).length = k) (h : RecRow enc k cs n f) (hb : Bl w b t cs) (hg : base ≤ b) (hn : n ≤ 9223372036854775807) : w.ownsRow base t k (.slice (some ⟨b, 0, none⟩) n n) n (flat enc ((List.range n).map f)) := by
  have hfl := flat_length hk ((List.range n).map f)
  rw [List.length_map, List.length_range] at hfl
  refine ⟨hfl, .inr ⟨b, n, cs, rfl, hg, hb, Nat.le_refl _, by unfold maxLen; omega, h.1, ?_⟩⟩
  rw [← h.1, ← Array.length_toList, List.take_length]
  apply List.ext_getElem?
  intro i
  by_cases hi : i < n * k
  · have hk0 : 0 < k := by
      rcases Nat.eq_zero_or_pos k with e | e
      · rw [e] at hi; omega
      · exact e
    have e1 : i / k * k + i % k = i := by have := Nat.div_add_mod i k; rw [Nat.mul_comm] at this; exact this
    have hj : i / k < n := (Nat.div_lt_iff_lt_mul hk0).2 hi
    have hc : i % k < k := Nat.mod_lt _ hk0
    have h1 := h.2 (i / k) hj (i % k) hc
    have h2 := flat_get hk ((List.range n).map f) (i / k) (i % k) (by simpa using hj) hc
    rw [e1] at h1 h2
    rw [Array.getElem?_toList, h1, h2]
    congr 2
    simp [hj]
  · rw [List.getElem?_eq_none (by rw [Array.length_toList, h.1]; omega), List.getElem?_eq_none (by omega)]

theorem RecRow.recs {cs : Array Value} {f : Nat → α} {b : Nat} {t : TypeId} (h : RecRow enc k cs n f) (hb : Bl w b t cs) : Recs enc k w (some ⟨b, 0, none⟩) n ((List.range n).map f) :=
  ⟨by simp, fun _ => ⟨b, 0, rfl, hb.lt, fun i hi c hc => by rw [Nat.zero_add, h.cell hb hi hc]; simp [hi]⟩⟩
end

/-! ### Pairs of integers -/
def enc2 (p : Int × Int) : List Value := [.int .i64 p.1, .int .i64 p.2]
theorem enc2_len (p : Int × Int) : (enc2 p).length = 2 := rfl
theorem enc2_one (p : Int × Int) : ∀ v ∈ enc2 p, v.oneCell' = true := fun v hv => by
  simp [enc2] at hv
  rcases hv with rfl | rfl <;> rfl

theorem Recs.get2 {w : World} {A : Option Addr} {n : Nat} {xs : List (Int × Int)} (h : Recs enc2 2 w A n xs) {i : Nat} (hi : i < n) :
    ∃ b off x y, A = some ⟨b, off, none⟩ ∧ b < w.heap.size ∧ w.cell? ⟨b, off + i * 2, none⟩ = some (.int .i64 x) ∧ w.cell? ⟨b, off + i * 2 + 1, none⟩ = some (.int .i64 y) ∧ Hid (xs[i]! = (x, y)) := by
  obtain ⟨b, off, e, hlt, hc⟩ := h.at_ hi
  exact ⟨b, off, xs[i]!.1, xs[i]!.2, e, hlt, hc 0 (by omega), hc 1 (by omega), rfl⟩

theorem RecRow.put2 {cs : Array Value} {n : Nat} {f : Nat → Int × Int} (h : RecRow enc2 2 cs n f) (i : Nat) (p : Int × Int) (hi : i < n) :
    RecRow enc2 2 ((cs.setIfInBounds (i * 2) (.int .i64 p.1)).setIfInBounds (i * 2 + 1) (.int .i64 p.2)) n (fun j => if j = i then p else f j) := by
  have hs := h.1
  refine ⟨by simpa using hs, fun j hj c hc => ?_⟩
  simp only [Array.getElem?_setIfInBounds, Array.size_setIfInBounds]
  have hcc : c = 0 ∨ c = 1 := by omega
  by_cases e : j = i
  · subst e
    rcases hcc with rfl | rfl
    · rw [if_neg (by omega), if_pos (by omega), if_pos (by omega), if_pos rfl]; rfl
    · rw [if_pos rfl, if_pos (by omega), if_pos rfl]; rfl
  · rw [if_neg (by omega), if_neg (by omega), if_neg e, h.2 j hj c hc]

end Go.Proofs.YthnhgjhnkncmiaaGreat

namespace Go.Proofs.YthnhgjhnkncmiaaGreat
set_option linter.unusedVariables false

/-- A slice: the units fr .. to-1 of a source. -/
structure Sl where
  src : Int
  fr : Int
  to : Int
deriving Inhabited, DecidableEq
/-- A valid slice. -/
def slOk (x : Sl) : Bool := decide (1 ≤ x.src) && decide (x.src ≤ 1000000) && decide (0 ≤ x.fr) && decide (x.fr < x.to) && decide (x.to ≤ 1000000000)
theorem slOk_yes {x : Sl} (h : slOk x = true) : 1 ≤ x.src ∧ x.src ≤ 1000000 ∧ 0 ≤ x.fr ∧ x.fr < x.to ∧ x.to ≤ 1000000000 := by
  simp [slOk] at h
  omega
/-- Two slices have a unit in common. -/
def Meets (a b : Sl) : Prop := a.src = b.src ∧ a.fr < b.to ∧ b.fr < a.to
instance (a b : Sl) : Decidable (Meets a b) := inferInstanceAs (Decidable (_ ∧ _ ∧ _))
theorem Meets.symm {a b : Sl} (h : Meets a b) : Meets b a := ⟨h.1.symm, h.2.2, h.2.1⟩
/-- No two slices of a list have a unit in common. -/
def Apart (l : List Sl) : Prop := l.Pairwise (fun a b => ¬ Meets a b)
instance (l : List Sl) : Decidable (Apart l) := inferInstanceAs (Decidable (l.Pairwise _))
theorem Apart.perm {l m : List Sl} (h : l.Perm m) : Apart l ↔ Apart m :=
  List.Perm.pairwise_iff (fun {a b} hab hba => hab hba.symm) h
/-- The order of the sort: by source, then by the first unit. -/
def SlLe (a b : Sl) : Prop := a.src < b.src ∨ (a.src = b.src ∧ a.fr ≤ b.fr)
theorem SlLe.trans {a b c : Sl} (h : SlLe a b) (k : SlLe b c) : SlLe a c := by
  unfold SlLe at *
  omega
/-- Neighbours of a list are no overlap. -/
def NoAdj (l : List Sl) : Prop := ∀ i, i + 1 < l.length → ¬ (l[i + 1]!.src = l[i]!.src ∧ l[i + 1]!.fr < l[i]!.to)
theorem apart_get {l : List Sl} : Apart l ↔ ∀ i k, i < k → k < l.length → ¬ Meets l[i]! l[k]! := by
  unfold Apart
  rw [List.pairwise_iff_getElem]
  constructor
  · intro h i k hik hk
    rw [getElem!_pos l i (by omega), getElem!_pos l k hk]
    exact h i k (by omega) hk hik
  · intro h i k hi hk hik
    have := h i k hik hk
    rwa [getElem!_pos l i hi, getElem!_pos l k hk] at this
/-- In a sorted list of valid slices, no two meet if no neighbours do. -/
theorem noAdj_apart {l : List Sl} (hv : ∀ x ∈ l, x.fr < x.to) (hs : ∀ i k, i < k → k < l.length → SlLe l[i]! l[k]!) : NoAdj l ↔ Apart l := by
  have hv' : ∀ i, i < l.length → l[i]!.fr < l[i]!.to := fun i hi => hv _ (by rw [getElem!_pos l i hi]; exact List.getElem_mem hi)
  rw [apart_get]
  constructor
  · intro h i k hik
    induction k with
    | zero => omega
    | succ k ih =>
      intro hk hm
      by_cases e : i = k
      · subst e
        exact h i hk ⟨hm.1.symm, hm.2.2⟩
      · -- the slice before the last one has the same source and begins where the first one does not meet it
        have h1 := hs i k (by omega) (by omega)
        have h2 := hs k (k + 1) (by omega) hk
        have h3 := ih (by omega) (by omega)
        have h4 := h k hk
        have h5 := hv' i (by omega)
        have h6 := hv' k (by omega)
        have h7 := hv' (k + 1) hk
        obtain ⟨m1, m2, m3⟩ := hm
        unfold SlLe at h1 h2
        unfold Meets at h3
        omega
  · intro h i hi hm
    have h1 := hs i (i + 1) (by omega) hi
    have h2 := hv' i (by omega)
    have h3 := hv' (i + 1) hi
    refine h i (i + 1) (by omega) hi ⟨hm.1.symm, ?_, hm.2⟩
    unfold SlLe at h1
    omega
/-- What a sorted copy of a list says of the list. -/
theorem sorted_apart {l s : List Sl} (hp : s.Perm l) (hv : ∀ x ∈ l, x.fr < x.to) (hs : ∀ i k, i < k → k < s.length → SlLe s[i]! s[k]!) : NoAdj s ↔ Apart l := by
  rw [noAdj_apart (fun x hx => hv x (hp.mem_iff.1 hx)) hs]
  exact Apart.perm hp
/-- The first error of a list of slices. -/
def slErr (l : List Sl) : Int := if 64 < l.length then 8 else if ∀ x ∈ l, slOk x = true then if Apart l then 0 else 13 else 2
/-- Two lists have a unit in common. -/
def MeetsL (a b : List Sl) : Prop := ∃ x ∈ a, ∃ y ∈ b, Meets x y
theorem apart_append {a b : List Sl} : Apart (a ++ b) ↔ Apart a ∧ Apart b ∧ ¬ MeetsL a b := by
  unfold Apart MeetsL
  rw [List.pairwise_append]
  constructor
  · rintro ⟨h1, h2, h3⟩
    exact ⟨h1, h2, fun ⟨x, hx, y, hy, h⟩ => h3 x hx y hy h⟩
  · rintro ⟨h1, h2, h3⟩
    exact ⟨h1, h2, fun x hx y hy h => h3 ⟨x, hx, y, hy, h⟩⟩
/-- The lists of a list of lists, one behind the other. -/
theorem apart_flat {L : List (List Sl)} : Apart L.flatten ↔ (∀ l ∈ L, Apart l) ∧ L.Pairwise (fun a b => ¬ MeetsL a b) := by
  induction L with
  | nil => simp [Apart]
  | cons x xs ih =>
    rw [List.flatten_cons, apart_append, ih, List.pairwise_cons]
    constructor
    · rintro ⟨h1, ⟨h2, h3⟩, h4⟩
      refine ⟨fun l hl => ?_, ⟨fun y hy hm => h4 ?_, h3⟩⟩
      · rcases List.mem_cons.1 hl with rfl | hl
        · exact h1
        · exact h2 l hl
      · obtain ⟨a, ha, b, hb, hab⟩ := hm
        exact ⟨a, ha, b, List.mem_flatten.2 ⟨y, hy, hb⟩, hab⟩
    · rintro ⟨h1, h2, h3⟩
      refine ⟨h1 x (by simp), ⟨fun l hl => h1 l (by simp [hl]), h3⟩, ?_⟩
      rintro ⟨a, ha, b, hb, hab⟩
      obtain ⟨y, hy, hby⟩ := List.mem_flatten.1 hb
      exact h2 y hy ⟨a, ha, b, hby, hab⟩
end Go.Proofs.YthnhgjhnkncmiaaGreat

namespace Go.Proofs.YthnhgjhnkncmiaaGreat
set_option linter.unusedVariables false

/-- The units of a slice. -/
def slUnits (x : Sl) : List (Int × Int) := (List.range (x.to - x.fr).toNat).map fun i : Nat => (x.src, x.fr + (i : Int))
def unitsOf (l : List Sl) : List (Int × Int) := l.flatMap slUnits
theorem unitsOf_nil : unitsOf [] = [] := rfl
theorem unitsOf_cons (x : Sl) (l : List Sl) : unitsOf (x :: l) = slUnits x ++ unitsOf l := rfl
theorem unitsOf_append (a b : List Sl) : unitsOf (a ++ b) = unitsOf a ++ unitsOf b := by simp [unitsOf]
theorem mem_slUnits {x : Sl} {u : Int × Int} : u ∈ slUnits x ↔ u.1 = x.src ∧ x.fr ≤ u.2 ∧ u.2 < x.to := by
  unfold slUnits
  rw [List.mem_map]
  constructor
  · rintro ⟨i, hi, rfl⟩
    rw [List.mem_range] at hi
    exact ⟨rfl, by simp; omega, by simp; omega⟩
  · rintro ⟨h1, h2, h3⟩
    exact ⟨(u.2 - x.fr).toNat, by rw [List.mem_range]; omega, by ext <;> simp <;> omega⟩
theorem slUnits_nodup (x : Sl) : (slUnits x).Nodup := by
  unfold slUnits
  refine List.Pairwise.map _ (fun a b h => ?_) List.nodup_range
  intro e
  injection e with _ e2
  omega
theorem slUnits_len (x : Sl) : (slUnits x).length = (x.to - x.fr).toNat := by simp [slUnits]
/-- Two slices have a unit in common. -/
theorem meets_units {a b : Sl} (ha : a.fr < a.to) (hb : b.fr < b.to) : Meets a b ↔ ∃ u, u ∈ slUnits a ∧ u ∈ slUnits b := by
  constructor
  · rintro ⟨h1, h2, h3⟩
    refine ⟨(a.src, max a.fr b.fr), ?_, ?_⟩
    · rw [mem_slUnits]; simp; omega
    · rw [mem_slUnits]; simp; omega
  · rintro ⟨u, h1, h2⟩
    rw [mem_slUnits] at h1 h2
    unfold Meets
    omega
theorem meetsL_units {a b : List Sl} (ha : ∀ x ∈ a, x.fr < x.to) (hb : ∀ x ∈ b, x.fr < x.to) : MeetsL a b ↔ ∃ u, u ∈ unitsOf a ∧ u ∈ unitsOf b := by
  unfold MeetsL unitsOf
  constructor
  · rintro ⟨x, hx, y, hy, h⟩
    obtain ⟨u, h1, h2⟩ := (meets_units (ha x hx) (hb y hy)).1 h
    exact ⟨u, List.mem_flatMap.2 ⟨x, hx, h1⟩, List.mem_flatMap.2 ⟨y, hy, h2⟩⟩
  · rintro ⟨u, h1, h2⟩
    obtain ⟨x, hx, h1⟩ := List.mem_flatMap.1 h1
    obtain ⟨y, hy, h2⟩ := List.mem_flatMap.1 h2
    exact ⟨x, hx, y, hy, (meets_units (ha x hx) (hb y hy)).2 ⟨u, h1, h2⟩⟩
/-- A list of slices is apart if no unit occurs twice. -/
theorem apart_units {l : List Sl} (hv : ∀ x ∈ l, x.fr < x.to) : Apart l ↔ (unitsOf l).Nodup := by
  induction l with
  | nil => simp [Apart, unitsOf]
  | cons x xs ih =>
    have hx := hv x (by simp)
    have hxs : ∀ y ∈ xs, y.fr < y.to := fun y hy => hv y (by simp [hy])
    rw [unitsOf_cons, List.nodup_append, ← ih hxs]
    unfold Apart
    rw [List.pairwise_cons]
    constructor
    · rintro ⟨h1, h2⟩
      refine ⟨slUnits_nodup x, h2, ?_⟩
      rintro u hu v hv' rfl
      obtain ⟨y, hy, hyu⟩ := List.mem_flatMap.1 hv'
      exact h1 y hy ((meets_units hx (hxs y hy)).2 ⟨u, hu, hyu⟩)
    · rintro ⟨_, h2, h3⟩
      refine ⟨fun y hy hm => ?_, h2⟩
      obtain ⟨u, h4, h5⟩ := (meets_units hx (hxs y hy)).1 hm
      exact h3 u h4 u (List.mem_flatMap.2 ⟨y, hy, h5⟩) rfl
/-- The slices of a list are valid. -/
def SlsOk (l : List Sl) : Prop := ∀ x ∈ l, slOk x = true
theorem SlsOk.lt {l : List Sl} (h : SlsOk l) : ∀ x ∈ l, x.fr < x.to := fun x hx => (slOk_yes (h x hx)).2.2.2.1
theorem SlsOk.append {a b : List Sl} (ha : SlsOk a) (hb : SlsOk b) : SlsOk (a ++ b) := fun x hx => by
  rcases List.mem_append.1 hx with h | h
  · exact ha x h
  · exact hb x h

/-! join -/
/-- One slice is joined to a compact list. -/
def jstep (out : List Sl) (x : Sl) : List Sl :=
  if out ≠ [] ∧ out[out.length - 1]!.src = x.src ∧ out[out.length - 1]!.to = x.fr then out.set (out.length - 1) ⟨x.src, out[out.length - 1]!.fr, x.to⟩ else out ++ [x]
def joinS (l : List Sl) : List Sl := l.foldl jstep []
theorem list_last {α : Type} [Inhabited α] {l : List α} (h : l ≠ []) : ∃ i x, l = i ++ [x] ∧ l[l.length - 1]! = x ∧ i.length + 1 = l.length := by
  refine ⟨l.dropLast, l.getLast h, (List.dropLast_concat_getLast h).symm, ?_, ?_⟩
  · have := List.length_pos_iff.2 h
    rw [getElem!_pos l (l.length - 1) (by omega), List.getLast_eq_getElem]
  · have := List.length_pos_iff.2 h
    rw [List.length_dropLast]; omega
theorem jstep_snoc (i : List Sl) (y x : Sl) : jstep (i ++ [y]) x = if y.src = x.src ∧ y.to = x.fr then i ++ [⟨x.src, y.fr, x.to⟩] else i ++ [y] ++ [x] := by
  unfold jstep
  have h1 : (i ++ [y])[(i ++ [y]).length - 1]! = y := by simp
  rw [h1]
  by_cases h : y.src = x.src ∧ y.to = x.fr
  · rw [if_pos ⟨by simp, h⟩, if_pos h]
    simp
  · rw [if_neg (fun k => h k.2), if_neg h]
theorem jstep_nil (x : Sl) : jstep [] x = [x] := by simp [jstep]
theorem slUnits_join {y x : Sl} (hs : y.src = x.src) (ht : y.to = x.fr) (hy : y.fr ≤ y.to) (hx : x.fr ≤ x.to) : slUnits ⟨x.src, y.fr, x.to⟩ = slUnits y ++ slUnits x := by
  unfold slUnits
  have h1 : (x.to - y.fr).toNat = (y.to - y.fr).toNat + (x.to - x.fr).toNat := by omega
  rw [show (⟨x.src, y.fr, x.to⟩ : Sl).to = x.to from rfl, show (⟨x.src, y.fr, x.to⟩ : Sl).fr = y.fr from rfl, h1, List.range_add, List.map_append, List.map_map]
  congr 1
  · refine List.map_congr_left fun a _ => ?_
    simp [hs]
  · refine List.map_congr_left fun a ha => ?_
    simp
    omega
/-- Behind one slice more. -/
theorem jstep_units {out : List Sl} {x : Sl} (ho : ∀ y ∈ out, y.fr ≤ y.to) (hx : x.fr ≤ x.to) : unitsOf (jstep out x) = unitsOf out ++ slUnits x := by
  rcases List.eq_nil_or_concat out with rfl | ⟨i, y, rfl⟩
  · rw [jstep_nil]; simp [unitsOf]
  · rw [List.concat_eq_append] at ho ⊢
    rw [jstep_snoc]
    split
    · next h =>
      rw [unitsOf_append, unitsOf_append, unitsOf_cons, unitsOf_nil, List.append_nil, slUnits_join h.1 h.2 (ho y (by simp)) hx, unitsOf_cons, unitsOf_nil, List.append_nil, List.append_assoc]
    · rw [unitsOf_append (i ++ [y]) [x], unitsOf_cons x [], unitsOf_nil, List.append_nil]
theorem jstep_ok {out : List Sl} {x : Sl} (ho : SlsOk out) (hx : slOk x = true) : SlsOk (jstep out x) := by
  rcases List.eq_nil_or_concat out with rfl | ⟨i, y, rfl⟩
  · rw [jstep_nil]; intro z hz; rw [List.mem_singleton] at hz; subst hz; exact hx
  · rw [List.concat_eq_append] at ho ⊢
    rw [jstep_snoc]
    have hy := slOk_yes (ho y (by simp))
    have hx' := slOk_yes hx
    split
    · next h =>
      intro z hz
      rcases List.mem_append.1 hz with hz | hz
      · exact ho z (by simp [hz])
      · rw [List.mem_singleton] at hz
        subst hz
        simp [slOk]
        omega
    · intro z hz
      rcases List.mem_append.1 hz with hz | hz
      · exact ho z hz
      · rw [List.mem_singleton] at hz; subst hz; exact hx
/-- No neighbours could be joined. -/
def Compact (l : List Sl) : Prop := ∀ i, i + 1 < l.length → ¬ (l[i]!.src = l[i + 1]!.src ∧ l[i]!.to = l[i + 1]!.fr)
theorem compact_snoc {i : List Sl} {y x : Sl} : Compact (i ++ [y] ++ [x]) ↔ Compact (i ++ [y]) ∧ ¬ (y.src = x.src ∧ y.to = x.fr) := by
  have hg : ∀ k, k < i.length + 1 → (i ++ [y] ++ [x])[k]! = (i ++ [y])[k]! := fun k hk => by
    rw [getElem!_pos _ k (by simp; omega), getElem!_pos (i ++ [y]) k (by simp; omega), List.getElem_append_left]
  have hy : (i ++ [y])[i.length]! = y := by simp
  have hx : (i ++ [y] ++ [x])[i.length + 1]! = x := by simp
  constructor
  · intro h
    refine ⟨fun k hk => ?_, ?_⟩
    · have hk' : k + 1 < i.length + 1 := by simpa using hk
      have := h k (by simp; omega)
      rwa [hg k (by omega), hg (k + 1) hk'] at this
    · have := h i.length (by simp)
      rwa [hg i.length (by omega), hy, hx] at this
  · rintro ⟨h1, h2⟩ k hk
    have hk' : k + 1 < i.length + 2 := by simpa using hk
    by_cases e : k = i.length
    · subst e
      rw [hg i.length (by omega), hy, hx]
      exact h2
    · rw [hg k (by omega), hg (k + 1) (by omega)]
      exact h1 k (by simp; omega)
theorem compact_one (x : Sl) : Compact [x] := fun i hi => by simp at hi
theorem compact_last {i : List Sl} {y z : Sl} (h : Compact (i ++ [y])) (hs : z.src = y.src) (hf : z.fr = y.fr) : Compact (i ++ [z]) := by
  rcases List.eq_nil_or_concat i with rfl | ⟨j, a, rfl⟩
  · exact compact_one z
  · rw [List.concat_eq_append] at h ⊢
    rw [compact_snoc] at h ⊢
    rw [hs, hf]
    exact h
theorem jstep_compact {out : List Sl} {x : Sl} (h : Compact out) : Compact (jstep out x) := by
  rcases List.eq_nil_or_concat out with rfl | ⟨i, y, rfl⟩
  · rw [jstep_nil]; exact compact_one x
  · rw [List.concat_eq_append] at h ⊢
    rw [jstep_snoc]
    split
    · next k => exact compact_last h k.1.symm rfl
    · next k => rw [compact_snoc]; exact ⟨h, k⟩
theorem jstep_of_compact {out : List Sl} {x : Sl} (h : Compact (out ++ [x])) : jstep out x = out ++ [x] := by
  rcases List.eq_nil_or_concat out with rfl | ⟨i, y, rfl⟩
  · rw [jstep_nil]; rfl
  · rw [List.concat_eq_append] at h ⊢
    rw [compact_snoc] at h
    rw [jstep_snoc, if_neg h.2]
theorem jfold {l out : List Sl} (ho : SlsOk out) (hc : Compact out) (hl : SlsOk l) : SlsOk (l.foldl jstep out) ∧ Compact (l.foldl jstep out) ∧ unitsOf (l.foldl jstep out) = unitsOf out ++ unitsOf l := by
  induction l generalizing out with
  | nil => exact ⟨ho, hc, by simp [unitsOf]⟩
  | cons x xs ih =>
    have hx := hl x (by simp)
    obtain ⟨h1, h2, h3⟩ := ih (jstep_ok ho hx) (jstep_compact hc) (fun y hy => hl y (by simp [hy]))
    refine ⟨h1, h2, ?_⟩
    rw [List.foldl_cons, h3, jstep_units (fun y hy => Int.le_of_lt (ho.lt y hy)) (Int.le_of_lt (slOk_yes hx).2.2.2.1), unitsOf_cons, List.append_assoc]
theorem jlen (l out : List Sl) : (l.foldl jstep out).length ≤ out.length + l.length := by
  induction l generalizing out with
  | nil => simp
  | cons x xs ih =>
    rw [List.foldl_cons]
    have := ih (jstep out x)
    have h2 : (jstep out x).length ≤ out.length + 1 := by
      unfold jstep
      split <;> simp
    simp
    omega
theorem join_ok {l : List Sl} (h : SlsOk l) : SlsOk (joinS l) := (jfold (fun x hx => by cases hx) (fun i hi => by simp at hi) h).1
theorem join_compact {l : List Sl} (h : SlsOk l) : Compact (joinS l) := (jfold (fun x hx => by cases hx) (fun i hi => by simp at hi) h).2.1
theorem join_units {l : List Sl} (h : SlsOk l) : unitsOf (joinS l) = unitsOf l := by
  have := (jfold (out := []) (fun x hx => by cases hx) (fun i hi => by simp at hi) h).2.2
  simpa [joinS, unitsOf] using this
theorem join_len (l : List Sl) : (joinS l).length ≤ l.length := by have := jlen l []; simpa [joinS] using this
theorem jfold_compact {l out : List Sl} (h : Compact (out ++ l)) : l.foldl jstep out = out ++ l := by
  induction l generalizing out with
  | nil => simp
  | cons x xs ih =>
    have h1 : Compact (out ++ [x]) := fun i hi => by
      have hi' : i + 1 < out.length + 1 := by simpa using hi
      have := h i (by simp; omega)
      have e : ∀ k, k < out.length + 1 → (out ++ x :: xs)[k]! = (out ++ [x])[k]! := fun k hk => by
        rw [show out ++ x :: xs = (out ++ [x]) ++ xs by simp, getElem!_pos _ k (by simp; omega), getElem!_pos (out ++ [x]) k (by simp; omega), List.getElem_append_left]
      rwa [e i (by omega), e (i + 1) hi'] at this
    rw [List.foldl_cons, jstep_of_compact h1, ih (by simpa using h)]
    simp
theorem join_of_compact {l : List Sl} (h : Compact l) : joinS l = l := by
  have := jfold_compact (out := []) (l := l) (by simpa using h)
  simpa [joinS] using this
theorem jfold_strict {l out : List Sl} (h : ¬ Compact (out ++ l)) (hc : Compact out) : (l.foldl jstep out).length < out.length + l.length := by
  induction l generalizing out with
  | nil => rw [List.append_nil] at h; exact absurd hc h
  | cons x xs ih =>
    rw [List.foldl_cons]
    by_cases hx : Compact (out ++ [x])
    · rw [jstep_of_compact hx]
      have := ih (out := out ++ [x]) (by simpa using h) hx
      simp at this ⊢
      omega
    · have h1 := jlen xs (jstep out x)
      have h2 : (jstep out x).length = out.length := by
        rcases List.eq_nil_or_concat out with rfl | ⟨i, y, rfl⟩
        · exact absurd (compact_one x) hx
        · rw [List.concat_eq_append] at hx hc ⊢
          rw [compact_snoc] at hx
          rw [jstep_snoc]
          split
          · simp
          · next k => exact absurd ⟨hc, k⟩ hx
      simp
      omega
/-- A list is compact if join leaves as many slices. -/
theorem join_len_iff {l : List Sl} : (joinS l).length = l.length ↔ Compact l := by
  constructor
  · intro h
    refine Classical.byContradiction fun hc => ?_
    have := jfold_strict (out := []) (l := l) (by simpa using hc) (fun i hi => by simp at hi)
    simp [joinS] at h
    simp at this
    omega
  · intro h; rw [join_of_compact h]
end Go.Proofs.YthnhgjhnkncmiaaGreat

namespace Go.Proofs.YthnhgjhnkncmiaaGreat
set_option linter.unusedVariables false

theorem range_take (n T : Nat) : (List.range n).take T = List.range (min T n) := by
  rw [List.take_range]
theorem range_drop (n F : Nat) : (List.range n).drop F = (List.range (n - F)).map (F + ·) := by
  apply List.ext_getElem
  · simp
  · intro i h1 h2
    simp
/-- The units F .. T-1 of a slice. -/
theorem slUnits_cut (x : Sl) (hx : x.fr ≤ x.to) (T F : Nat) : ((slUnits x).take T).drop F = slUnits ⟨x.src, x.fr + F, x.fr + min T (x.to - x.fr).toNat⟩ := by
  unfold slUnits
  rw [← List.map_take, ← List.map_drop, range_take, range_drop, List.map_map]
  rw [show ((⟨x.src, x.fr + (F : Int), x.fr + (min T (x.to - x.fr).toNat : Nat)⟩ : Sl).to - (⟨x.src, x.fr + (F : Int), x.fr + (min T (x.to - x.fr).toNat : Nat)⟩ : Sl).fr).toNat = min T (x.to - x.fr).toNat - F by show (x.fr + (min T (x.to - x.fr).toNat : Nat) - (x.fr + (F : Int))).toNat = _; omega]
  refine List.map_congr_left fun a _ => ?_
  simp
  omega
theorem slUnits_empty {x : Sl} (h : x.to ≤ x.fr) : slUnits x = [] := by
  unfold slUnits
  rw [show (x.to - x.fr).toNat = 0 by omega]
  rfl

/-! front -/
def frA (x : Sl) (n : Int) : Int := min (max n 0) (x.to - x.fr)
def frontA : List Sl → Int → List Sl
  | [], _ => []
  | x :: r, n => (if 0 < frA x n then [⟨x.src, x.fr, x.fr + frA x n⟩] else []) ++ frontA r (n - (x.to - x.fr))
def frontB : List Sl → Int → List Sl
  | [], _ => []
  | x :: r, n => (if x.fr + frA x n < x.to then [⟨x.src, x.fr + frA x n, x.to⟩] else []) ++ frontB r (n - (x.to - x.fr))
theorem frontA_units {l : List Sl} (h : SlsOk l) (n : Int) : unitsOf (frontA l n) = (unitsOf l).take n.toNat := by
  induction l generalizing n with
  | nil => simp [frontA, unitsOf]
  | cons x xs ih =>
    have hx := slOk_yes (h x (by simp))
    have h1 : unitsOf (if 0 < frA x n then [⟨x.src, x.fr, x.fr + frA x n⟩] else []) = (slUnits x).take n.toNat := by
      have e := slUnits_cut x (by omega) n.toNat 0
      rw [List.drop_zero] at e
      rw [e]
      split
      · next hp =>
        rw [unitsOf_cons, unitsOf_nil, List.append_nil]
        congr 2
        · simp
        · unfold frA; unfold frA at hp; omega
      · next hp =>
        rw [unitsOf_nil, slUnits_empty]
        unfold frA at hp
        show x.fr + _ ≤ x.fr + _
        omega
    rw [frontA, unitsOf_append, h1, ih (fun y hy => h y (by simp [hy])), unitsOf_cons, List.take_append, slUnits_len]
    congr 2
    omega
theorem frontB_units {l : List Sl} (h : SlsOk l) (n : Int) : unitsOf (frontB l n) = (unitsOf l).drop n.toNat := by
  induction l generalizing n with
  | nil => simp [frontB, unitsOf]
  | cons x xs ih =>
    have hx := slOk_yes (h x (by simp))
    have h1 : unitsOf (if x.fr + frA x n < x.to then [⟨x.src, x.fr + frA x n, x.to⟩] else []) = (slUnits x).drop n.toNat := by
      have e := slUnits_cut x (by omega) (x.to - x.fr).toNat n.toNat
      rw [List.take_of_length_le (by rw [slUnits_len]; exact Nat.le_refl _)] at e
      rw [e]
      split
      · next hp =>
        rw [unitsOf_cons, unitsOf_nil, List.append_nil]
        unfold frA at hp ⊢
        congr 2
        · omega
        · rw [Nat.min_self]; omega
      · next hp =>
        rw [unitsOf_nil, slUnits_empty]
        unfold frA at hp
        show x.fr + _ ≤ x.fr + _
        omega
    rw [frontB, unitsOf_append, h1, ih (fun y hy => h y (by simp [hy])), unitsOf_cons, List.drop_append, slUnits_len]
    congr 2
    omega
theorem frontA_ok {l : List Sl} (h : SlsOk l) (n : Int) : SlsOk (frontA l n) := by
  induction l generalizing n with
  | nil => intro x hx; cases hx
  | cons x xs ih =>
    have hx := slOk_yes (h x (by simp))
    rw [frontA]
    refine SlsOk.append ?_ (ih (fun y hy => h y (by simp [hy])) _)
    split
    · next hp =>
      intro y hy
      rw [List.mem_singleton] at hy
      subst hy
      unfold frA at hp ⊢
      simp [slOk]
      omega
    · intro y hy; cases hy
theorem frontB_ok {l : List Sl} (h : SlsOk l) (n : Int) : SlsOk (frontB l n) := by
  induction l generalizing n with
  | nil => intro x hx; cases hx
  | cons x xs ih =>
    have hx := slOk_yes (h x (by simp))
    rw [frontB]
    refine SlsOk.append ?_ (ih (fun y hy => h y (by simp [hy])) _)
    split
    · next hp =>
      intro y hy
      rw [List.mem_singleton] at hy
      subst hy
      unfold frA at hp ⊢
      simp [slOk]
      omega
    · intro y hy; cases hy
theorem frontA_len (l : List Sl) (n : Int) : (frontA l n).length ≤ l.length := by
  induction l generalizing n with
  | nil => simp [frontA]
  | cons x xs ih =>
    rw [frontA, List.length_append, List.length_cons]
    have := ih (n - (x.to - x.fr))
    split <;> simp <;> omega
theorem frontB_len (l : List Sl) (n : Int) : (frontB l n).length ≤ l.length := by
  induction l generalizing n with
  | nil => simp [frontB]
  | cons x xs ih =>
    rw [frontB, List.length_append, List.length_cons]
    have := ih (n - (x.to - x.fr))
    split <;> simp <;> omega

/-! between -/
def btwP : List Sl → Int → Int → Int → List Sl
  | [], _, _, _ => []
  | x :: r, p, f, t => (if max (f - p) 0 < min (t - p) (x.to - x.fr) then [⟨x.src, x.fr + max (f - p) 0, x.fr + min (t - p) (x.to - x.fr)⟩] else []) ++ btwP r (p + (x.to - x.fr)) f t
/-- The units number f to number t - 1, as a compact list. -/
def betweenS (l : List Sl) (f t : Int) : List Sl := joinS (btwP l 0 f t)
theorem btwP_units {l : List Sl} (h : SlsOk l) (p f t : Int) : unitsOf (btwP l p f t) = ((unitsOf l).take (t - p).toNat).drop (f - p).toNat := by
  induction l generalizing p with
  | nil => simp [btwP, unitsOf]
  | cons x xs ih =>
    have hx := slOk_yes (h x (by simp))
    have h1 : unitsOf (if max (f - p) 0 < min (t - p) (x.to - x.fr) then [⟨x.src, x.fr + max (f - p) 0, x.fr + min (t - p) (x.to - x.fr)⟩] else []) = ((slUnits x).take (t - p).toNat).drop (f - p).toNat := by
      rw [slUnits_cut x (by omega)]
      split
      · next hp =>
        rw [unitsOf_cons, unitsOf_nil, List.append_nil]
        congr 2
        · omega
        · omega
      · next hp =>
        rw [unitsOf_nil, slUnits_empty]
        show x.fr + _ ≤ x.fr + _
        omega
    rw [btwP, unitsOf_append, h1, ih (fun y hy => h y (by simp [hy])), unitsOf_cons, List.take_append, List.drop_append, List.length_take, slUnits_len]
    congr 1
    rcases Nat.lt_or_ge (t - p).toNat (x.to - x.fr).toNat with h2 | h2
    · rw [show (t - (p + (x.to - x.fr))).toNat = 0 by omega, show (t - p).toNat - (x.to - x.fr).toNat = 0 by omega]
      simp
    · rw [show (t - (p + (x.to - x.fr))).toNat = (t - p).toNat - (x.to - x.fr).toNat by omega, Nat.min_eq_right h2, show (f - (p + (x.to - x.fr))).toNat = (f - p).toNat - (x.to - x.fr).toNat by omega]
theorem btwP_ok {l : List Sl} (h : SlsOk l) (p f t : Int) : SlsOk (btwP l p f t) := by
  induction l generalizing p with
  | nil => intro x hx; cases hx
  | cons x xs ih =>
    have hx := slOk_yes (h x (by simp))
    rw [btwP]
    refine SlsOk.append ?_ (ih (fun y hy => h y (by simp [hy])) _)
    split
    · next hp =>
      intro y hy
      rw [List.mem_singleton] at hy
      subst hy
      simp [slOk]
      omega
    · intro y hy; cases hy
theorem between_units {l : List Sl} (h : SlsOk l) (f t : Int) : unitsOf (betweenS l f t) = ((unitsOf l).take t.toNat).drop f.toNat := by
  unfold betweenS
  rw [join_units (btwP_ok h 0 f t), btwP_units h]
  simp
theorem between_ok {l : List Sl} (h : SlsOk l) (f t : Int) : SlsOk (betweenS l f t) := join_ok (btwP_ok h 0 f t)
theorem between_compact {l : List Sl} (h : SlsOk l) (f t : Int) : Compact (betweenS l f t) := join_compact (btwP_ok h 0 f t)
/-- Consecutive segments make a beginning. -/
theorem seg_snoc {α : Type} (u : List α) {b c : Nat} (h : b ≤ c) : u.take b ++ (u.take c).drop b = u.take c := by
  conv => rhs; rw [← List.take_append_drop b (u.take c)]
  rw [List.take_take, Nat.min_eq_left h]

/-! the proportional division -/
def propA : List Sl → List Int → List Sl
  | x :: r, s => frontA [x] (s.headD 0) ++ propA r (s.drop 1)
  | [], _ => []
def propB : List Sl → List Int → List Sl
  | x :: r, s => frontB [x] (s.headD 0) ++ propB r (s.drop 1)
  | [], _ => []
theorem prop_ok {l : List Sl} (h : SlsOk l) (s : List Int) : SlsOk (propA l s) ∧ SlsOk (propB l s) := by
  induction l generalizing s with
  | nil => exact ⟨fun x hx => (by cases hx), fun x hx => (by cases hx)⟩
  | cons x xs ih =>
    have h1 : SlsOk [x] := fun y hy => h y (by rw [List.mem_singleton] at hy; subst hy; simp)
    obtain ⟨h2, h3⟩ := ih (fun y hy => h y (by simp [hy])) (s.drop 1)
    exact ⟨(frontA_ok h1 _).append h2, (frontB_ok h1 _).append h3⟩
theorem prop_units {l : List Sl} (h : SlsOk l) (s : List Int) : (unitsOf (propA l s) ++ unitsOf (propB l s)).Perm (unitsOf l) := by
  induction l generalizing s with
  | nil => simp [propA, propB, unitsOf]
  | cons x xs ih =>
    have h1 : SlsOk [x] := fun y hy => h y (by rw [List.mem_singleton] at hy; subst hy; simp)
    have h2 := ih (fun y hy => h y (by simp [hy])) (s.drop 1)
    rw [propA, propB, unitsOf_append, unitsOf_append, frontA_units h1, frontB_units h1, unitsOf_cons x xs]
    have h3 : (unitsOf [x]) = slUnits x := by simp [unitsOf]
    rw [h3]
    generalize s.headD 0 = n
    generalize unitsOf (propA xs (s.drop 1)) = P at *
    generalize unitsOf (propB xs (s.drop 1)) = Q at *
    generalize slUnits x = U
    have e : (U.take n.toNat ++ P ++ (U.drop n.toNat ++ Q)).Perm (U.take n.toNat ++ U.drop n.toNat ++ (P ++ Q)) := by
      rw [List.append_assoc, List.append_assoc]
      refine List.Perm.append_left _ ?_
      rw [← List.append_assoc, ← List.append_assoc]
      exact List.Perm.append_right _ List.perm_append_comm
    refine e.trans ?_
    rw [List.take_append_drop]
    exact List.Perm.append_left _ h2
theorem prop_len (l : List Sl) (s : List Int) : (propA l s).length ≤ l.length ∧ (propB l s).length ≤ l.length := by
  induction l generalizing s with
  | nil => simp [propA, propB]
  | cons x xs ih =>
    have h1 := frontA_len [x] (s.headD 0)
    have h2 := frontB_len [x] (s.headD 0)
    have h3 := ih (s.drop 1)
    rw [propA, propB, List.length_append, List.length_append, List.length_cons]
    have h4 : [x].length = 1 := rfl
    omega
/-- What a list leaves behind a division: valid compact lists that share the units out. -/
structure Parted (l a b : List Sl) : Prop where
  oka : SlsOk a
  okb : SlsOk b
  ca : Compact a
  cb : Compact b
  units : (unitsOf a ++ unitsOf b).Perm (unitsOf l)
  la : a.length ≤ l.length
  lb : b.length ≤ l.length
theorem Parted.flip {l a b : List Sl} (h : Parted l a b) : Parted l b a := ⟨h.okb, h.oka, h.cb, h.ca, List.perm_append_comm.trans h.units, h.lb, h.la⟩
theorem parted_front {l : List Sl} (h : SlsOk l) (n : Int) : Parted l (joinS (frontA l n)) (joinS (frontB l n)) :=
  ⟨join_ok (frontA_ok h n), join_ok (frontB_ok h n), join_compact (frontA_ok h n), join_compact (frontB_ok h n), by
    rw [join_units (frontA_ok h n), join_units (frontB_ok h n), frontA_units h, frontB_units h, List.take_append_drop], Nat.le_trans (join_len _) (frontA_len _ _), Nat.le_trans (join_len _) (frontB_len _ _)⟩
theorem parted_prop {l : List Sl} (h : SlsOk l) (s : List Int) : Parted l (joinS (propA l s)) (joinS (propB l s)) :=
  ⟨join_ok (prop_ok h s).1, join_ok (prop_ok h s).2, join_compact (prop_ok h s).1, join_compact (prop_ok h s).2, by
    rw [join_units (prop_ok h s).1, join_units (prop_ok h s).2]; exact prop_units h s, Nat.le_trans (join_len _) (prop_len _ _).1, Nat.le_trans (join_len _) (prop_len _ _).2⟩
theorem Parted.of_join {l a b : List Sl} (hl : SlsOk l) (h : Parted (joinS l) a b) : Parted l a b :=
  ⟨h.oka, h.okb, h.ca, h.cb, h.units.trans (by rw [join_units hl]), Nat.le_trans h.la (join_len _), Nat.le_trans h.lb (join_len _)⟩
end Go.Proofs.YthnhgjhnkncmiaaGreat

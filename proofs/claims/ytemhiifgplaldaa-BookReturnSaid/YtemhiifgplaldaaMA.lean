/-
  Words for memory used by all walks of this seat: a slice of integers that reads as a list, and how such a reading is kept. No statement of the seat is proved here. No conditions.
  More words for memory: a block that holds the integers f 0, f 1, .., f (n-1). No statement of the seat is proved here. No conditions.
  A law for the built-in append onto a row of the call's own, the source nil, empty or not. No statement of the seat is proved here. Conditions: the new length and its bytes fit.
  Words for memory: slices of structs of k cells that read as lists. No statement of the seat is proved here. No conditions.
-/
import Derived.Below
import Derived.Laws.OwnMore
import Derived.Deep.Draws
import Derived.Lib.Hide
import Derived.IntWalk
import Derived.WalkKit
import Derived.Laws.Rows
import Derived.OwnWalk
import Derived.Maps.AppendAt
import Derived.Deep.AppendLies
import Derived.RegionTactic
namespace Go.Proofs.Ytemhiifgplaldaa
open Go.RowKit

/-- The slice '.slice A n c' holds the integers xs (of kind k), in a block that lies in w. -/
def IntsK (k : IntKind) (w : World) (A : Option Addr) (n : Nat) (xs : List Int) : Prop :=
  xs.length = n ∧ (0 < n → ∃ b off, A = some ⟨b, off, none⟩ ∧ b < w.heap.size ∧ ∀ i, i < n → w.cell? ⟨b, off + i, none⟩ = some (.int k (xs.getD i 0)))

abbrev Ints := IntsK .i64

/-- Every element fits 64 bits. -/
def R64 (xs : List Int) : Prop := ∀ i : Nat, -9223372036854775808 ≤ xs.getD i 0 ∧ xs.getD i 0 ≤ 9223372036854775807

section
variable {k : IntKind} {w w' : World} {A : Option Addr} {n : Nat} {xs : List Int}
theorem IntsK.len (h : IntsK k w A n xs) : xs.length = n := h.1
theorem IntsK.nil : IntsK k w A 0 [] := ⟨rfl, fun h => absurd h (by omega)⟩
theorem IntsK.at_ {i : Nat} (h : IntsK k w A n xs) (hi : i < n) : ∃ b off, A = some ⟨b, off, none⟩ ∧ b < w.heap.size ∧ w.cell? ⟨b, off + i, none⟩ = some (.int k (xs.getD i 0)) := by
  obtain ⟨b, off, e, hb, hc⟩ := h.2 (by omega)
  exact ⟨b, off, e, hb, hc i hi⟩
theorem IntsK.get {i : Nat} (h : IntsK k w A n xs) (hi : i < n) : ∃ b off x, A = some ⟨b, off, none⟩ ∧ b < w.heap.size ∧ w.cell? ⟨b, off + i, none⟩ = some (.int k x) ∧ Hid (xs.getD i 0 = x) := by
  obtain ⟨b, off, e, hb, hc⟩ := h.at_ hi
  exact ⟨b, off, _, e, hb, hc, rfl⟩
theorem IntsK.keep (h : IntsK k w A n xs) (hs : w.heap.size ≤ w'.heap.size) (hk : ∀ p : Addr, p.block < w.heap.size → w'.cell? p = w.cell? p) : IntsK k w' A n xs :=
  ⟨h.1, fun hn => by
    obtain ⟨b, off, e, hb, hc⟩ := h.2 hn
    exact ⟨b, off, e, by omega, fun i hi => (hk _ hb).trans (hc i hi)⟩⟩
theorem IntsK.below (h : IntsK k w A n xs) (hb : Below w.heap.size w w') : IntsK k w' A n xs := h.keep hb.size fun _ hp => hb.cell hp
theorem IntsK.drew (h : IntsK k w A n xs) : IntsK k w.drew A n xs := h
theorem IntsK.drewN (h : IntsK k w A n xs) (m : Nat) : IntsK k (w.drewN m) A n xs := h
theorem IntsK.alloc (h : IntsK k w A n xs) (o : Obj) : IntsK k (w.alloc o) A n xs := h.below ((Below.refl _ _).alloc (Nat.le_refl _) _)
theorem IntsK.take (h : IntsK k w A n xs) {m : Nat} (hm : m ≤ n) : IntsK k w A m (xs.take m) := by
  refine ⟨by rw [List.length_take, h.1]; omega, fun h0 => ?_⟩
  obtain ⟨b, off, e, hb, hc⟩ := h.2 (by omega)
  refine ⟨b, off, e, hb, fun i hi => ?_⟩
  rw [hc i (by omega)]
  simp [List.getD, hi]
/-- A row of the call's own reads as its integers. -/
theorem IntsK.of_own {base : Nat} {e : TypeId} {c : Nat} (h : w.ownsRow base e 1 (.slice A n c) n (xs.map (Value.int k))) : IntsK k w A n xs := by
  have hl : xs.length = n := by have := h.1; simpa using this
  refine ⟨hl, fun hn => ?_⟩
  rcases h.2 with ⟨hv, h0⟩ | ⟨g, cap, cur, hv, _, hh, _⟩
  · omega
  · injection hv with h1 h2 h3
    subst h1
    have hlt : g < w.heap.size := by
      rcases Nat.lt_or_ge g w.heap.size with h | h
      · exact h
      · rw [Array.getElem?_eq_none h] at hh; cases hh
    refine ⟨g, 0, rfl, hlt, fun i hi => ?_⟩
    have := h.cellAt (g := g) i (by omega)
    rw [Nat.zero_add, this, List.getElem?_map, List.getD, List.getElem?_eq_getElem (by omega)]
    rfl
end


/-- Block g is the cells cs of element type t, none of them frozen. -/
def Bl (w : World) (g : Nat) (t : TypeId) (cs : Array Value) : Prop := w.heap[g]? = some (.cells cs t (0, 0))
section
variable {w w' : World} {g : Nat} {t : TypeId} {cs : Array Value}
theorem Bl.lt (h : Bl w g t cs) : g < w.heap.size := by
  rcases Nat.lt_or_ge g w.heap.size with h1 | h1
  · exact h1
  · unfold Bl at h; rw [Array.getElem?_eq_none h1] at h; cases h
theorem Bl.cell (h : Bl w g t cs) (i : Nat) : w.cell? ⟨g, i, none⟩ = cs[i]? := cell_of_row w g i cs t (0, 0) h
theorem Bl.free (h : Bl w g t cs) (i : Nat) : w.frozen? ⟨g, i, none⟩ = false := by
  unfold Bl at h
  simp [World.frozen?, h]
theorem Bl.new (w : World) (t : TypeId) (cs : Array Value) : Bl (w.alloc (.cells cs t)) w.heap.size t cs := heap_alloc_new w _
theorem Bl.drewN (h : Bl w g t cs) (n : Nat) : Bl (w.drewN n) g t cs := h
theorem Bl.alloc (h : Bl w g t cs) (o : Obj) : Bl (w.alloc o) g t cs := (Below.heap_alloc w o g h.lt).trans h
theorem Bl.below {B : Nat} (h : Bl w g t cs) (hb : Below B w w') (hg : g < B) : Bl w' g t cs := (hb.block g hg).trans h
theorem Bl.keep (h : Bl w g t cs) (hb : Below w.heap.size w w') : Bl w' g t cs := (hb.block g h.lt).trans h
theorem Bl.put (h : Bl w g t cs) (i : Nat) (u : Value) : Bl (w.setCell ⟨g, i, none⟩ u) g t (cs.setIfInBounds i u) := by
  unfold Bl at h ⊢
  simp [World.setCell, Array.getElem?_modify, h]
theorem Bl.far (h : Bl w g t cs) {p : Addr} (hp : g ≠ p.block) (u : Value) : Bl (w.setCell p u) g t cs := (Below.heap_setCell w p u g hp).trans h
/-- A whole block of integers read as a list. -/
theorem Bl.ints {k : IntKind} {xs : List Int} (h : Bl w g t cs) (hx : ∀ i, i < xs.length → cs[i]? = some (.int k (xs.getD i 0))) : IntsK k w (some ⟨g, 0, none⟩) xs.length xs :=
  ⟨rfl, fun _ => ⟨g, 0, rfl, h.lt, fun i hi => by rw [Nat.zero_add, h.cell, hx i hi]⟩⟩
end

/-- A whole block of integers is a row of the call's own. -/
theorem Bl.own_ints {w : World} {g base n : Nat} {t : TypeId} {cs : Array Value} {k : IntKind} {xs : List Int} (h : Bl w g t cs) (hb : base ≤ g) (hs : cs.size = n) (hl : xs.length = n) (hn : n ≤ 9223372036854775807) (hx : ∀ i, i < n → cs[i]? = some (.int k (xs.getD i 0))) :
    w.ownsRow base t 1 (.slice (some ⟨g, 0, none⟩) n n) n (xs.map (Value.int k)) := by
  refine ⟨by simp [hl], .inr ⟨g, n, cs, rfl, hb, h, Nat.le_refl _, by unfold maxLen; omega, by omega, ?_⟩⟩
  apply List.ext_getElem?
  intro i
  by_cases hi : i < n
  · have := hx i hi
    rw [List.getElem?_take, if_pos (by omega), Array.getElem?_toList, this, List.getElem?_map, List.getElem?_eq_getElem (show i < xs.length by omega)]
    simp [List.getD, List.getElem?_eq_getElem (show i < xs.length by omega)]
  · rw [List.getElem?_eq_none (by simp; omega), List.getElem?_eq_none (by simp; omega)]

/-- make([]T, n): a new block of n zero values. -/
theorem make_any {P : Program} (t e : TypeId) (z : Value) (size bytes n : Nat) (ht : P.underlying t = some (.slice e)) (hi : (P.info? e).map (fun i => (i.zero, i.size, i.bytes)) = some (some z, size, bytes)) (hb : bytes * n ≤ 281474976710656) (hn : n ≤ 9223372036854775807) :
    ∃ C : Array Value, Hid (C.size = n * size ∧ ∀ j, j < n * size → C[j]? = some (z.cells[j % z.cells.size]!)) ∧ ∀ w : World, (Instr.makeSlice t (.int .i64 (n : Int)) (.int .i64 (n : Int))).run P w = .ok (.slice (some ⟨w.heap.size, 0, none⟩) n n) (w.alloc (.cells C e)) := by
  obtain ⟨i, hi0, hz, hs, hby⟩ := info_parts hi
  refine ⟨madeCells z.cells (n * size), ⟨size_madeCells _ _, fun j hj => by simp [madeCells, hj]⟩, fun w => ?_⟩
  have := run_make (P := P) w t e i z ht hi0 hz .i64 .i64 (n : Int) (n : Int) (by omega) (Int.le_refl _) (by rw [hby, ← Int.natCast_mul]; omega) (by omega)
  rw [hs] at this
  simpa using this

end Go.Proofs.Ytemhiifgplaldaa

namespace Go.Proofs.Ytemhiifgplaldaa
open Go.RowKit
set_option linter.unusedVariables false

/-- The cells are the integers f 0 .. f (n-1). -/
def IntRow (cs : Array Value) (n : Nat) (f : Nat → Int) : Prop := cs.size = n ∧ ∀ j, j < n → cs[j]? = some (.int .i64 (f j))
section
variable {cs : Array Value} {n : Nat} {f g : Nat → Int}
theorem IntRow.congr (h : IntRow cs n f) (e : ∀ j, j < n → f j = g j) : IntRow cs n g := ⟨h.1, fun j hj => by rw [h.2 j hj, e j hj]⟩
theorem IntRow.put (h : IntRow cs n f) (i : Nat) (v : Int) : IntRow (cs.setIfInBounds i (.int .i64 v)) n (fun j => if j = i then v else f j) := by
  refine ⟨by simpa using h.1, fun j hj => ?_⟩
  rw [Array.getElem?_setIfInBounds]
  by_cases e : i = j
  · subst e
    rw [if_pos rfl, if_pos (by rw [h.1]; exact hj)]
    simp
  · have e2 : ¬ j = i := fun x => e x.symm
    rw [if_neg e, h.2 j hj]
    simp [e2]
theorem IntRow.set (h : IntRow cs n f) (i : Nat) (v : Int) (e : ∀ j, j < n → g j = if j = i then v else f j) : IntRow (cs.setIfInBounds i (.int .i64 v)) n g := (h.put i v).congr fun j hj => (e j hj).symm
/-- The cells of a new block of zeros. -/
theorem IntRow.zeros {C : Array Value} {n : Nat} (h : C.size = n * 1 ∧ ∀ j, j < n * 1 → C[j]? = some ((Value.int .i64 0).cells[j % (Value.int .i64 0).cells.size]!)) : IntRow C n (fun _ => 0) :=
  ⟨by rw [h.1]; omega, fun j hj => by rw [h.2 j (by omega)]; simp [Value.cells, Nat.mod_one]⟩
theorem IntRow.cell {w : World} {b : Nat} {t : TypeId} (h : IntRow cs n f) (hb : Bl w b t cs) {j : Nat} (hj : j < n) : w.cell? ⟨b, j, none⟩ = some (.int .i64 (f j)) := (hb.cell j).trans (h.2 j hj)
theorem IntRow.own {w : World} {b base : Nat} {t : TypeId} (h : IntRow cs n f) (hb : Bl w b t cs) (hg : base ≤ b) (hn : n ≤ 9223372036854775807) : w.ownsRow base t 1 (.slice (some ⟨b, 0, none⟩) n n) n (((List.range n).map f).map (Value.int .i64)) :=
  hb.own_ints hg h.1 (by simp) hn (fun i hi => by rw [h.2 i hi]; simp [List.getD, hi])
end

/-- A row of the call's own that is not empty: its block, and what is in it. -/
theorem own_open {w : World} {base : Nat} {t : TypeId} {A : Option Addr} {n c : Nat} {xs : List Int} (h : w.ownsRow base t 1 (.slice A n c) n (xs.map (Value.int .i64))) (hn : 0 < n) :
    ∃ g cs, A = some ⟨g, 0, none⟩ ∧ base ≤ g ∧ Bl w g t cs ∧ n ≤ c ∧ cs.size = c ∧ ∀ j, j < n → cs[j]? = some (.int .i64 (xs.getD j 0)) := by
  have hl : xs.length = n := by have := h.1; simpa using this
  rcases h.2 with ⟨hv, h0⟩ | ⟨g, cap, cur, hv, hb, hh, h1, h2, h3, h4⟩
  · omega
  · injection hv with e1 e2 e3
    subst e1 e3
    refine ⟨g, cur, rfl, hb, hh, h1, by omega, fun j hj => ?_⟩
    have h5 : (cur.toList.take (n * 1))[j]? = (xs.map (Value.int .i64))[j]? := by rw [h4]
    rw [List.getElem?_take, if_pos (by omega), Array.getElem?_toList, List.getElem?_map, List.getElem?_eq_getElem (show j < xs.length by omega)] at h5
    rw [h5]
    simp [List.getD, List.getElem?_eq_getElem (show j < xs.length by omega)]

end Go.Proofs.Ytemhiifgplaldaa

namespace Go.Proofs.Ytemhiifgplaldaa
open Go.RowKit
set_option linter.unusedVariables false

/-- The slice '.slice A n c' has the cells xs, size cells for each element; nothing is asked of an empty one. -/
def Rd (w : World) (size : Nat) (A : Option Addr) (n : Nat) (xs : List Value) : Prop :=
  xs.length = n * size ∧ (0 < n → ∃ b off, A = some ⟨b, off, none⟩ ∧ b < w.heap.size ∧ ∀ j u, xs[j]? = some u → w.cell? ⟨b, off + j, none⟩ = some u)

section
variable {w w' : World} {size n : Nat} {A : Option Addr} {xs : List Value}
theorem Rd.keep (h : Rd w size A n xs) (hb : RowKit.Below w.heap.size w w') : Rd w' size A n xs :=
  ⟨h.1, fun hn => by
    obtain ⟨b, off, e, hlt, hc⟩ := h.2 hn
    exact ⟨b, off, e, by have := hb.size; omega, fun j u hu => (hb.cell (p := ⟨b, off + j, none⟩) hlt).trans (hc j u hu)⟩⟩
theorem Rd.alloc (h : Rd w size A n xs) (o : Obj) : Rd (w.alloc o) size A n xs := h.keep ((Below.refl _ _).alloc (Nat.le_refl _) _)
theorem Rd.drewN (h : Rd w size A n xs) (m : Nat) : Rd (w.drewN m) size A n xs := h
theorem Rd.of_ints {k : IntKind} {zs : List Int} (h : IntsK k w A n zs) : Rd w 1 A n (zs.map (Value.int k)) := by
  refine ⟨by rw [List.length_map, h.1]; omega, fun hn => ?_⟩
  obtain ⟨b, off, e, hlt, hc⟩ := h.2 hn
  refine ⟨b, off, e, hlt, fun j u hu => ?_⟩
  rw [List.getElem?_map] at hu
  obtain ⟨z, hz, rfl⟩ := Option.map_eq_some_iff.1 hu
  have hj : j < zs.length := by
    rcases Nat.lt_or_ge j zs.length with h1 | h1
    · exact h1
    · rw [List.getElem?_eq_none h1] at hz; cases hz
  rw [hc j (by have := h.1; omega), List.getD, hz]
  rfl
theorem Rd.of_own {base : Nat} {e : TypeId} {c : Nat} (h : w.ownsRow base e size (.slice A n c) n xs) : Rd w size A n xs := by
  refine ⟨h.1, fun hn => ?_⟩
  rcases h.2 with ⟨_, h0⟩ | ⟨g, cap, cur, hv, _, hh, _⟩
  · omega
  · injection hv with h1 h2 h3
    subst h1
    have hlt : g < w.heap.size := by
      rcases Nat.lt_or_ge g w.heap.size with h4 | h4
      · exact h4
      · rw [Array.getElem?_eq_none h4] at hh; cases hh
    refine ⟨g, 0, rfl, hlt, fun j u hu => ?_⟩
    have hj : j < n * size := by
      rcases Nat.lt_or_ge j (n * size) with h4 | h4
      · exact h4
      · rw [List.getElem?_eq_none (by rw [h.1]; exact h4)] at hu; cases hu
    rw [Nat.zero_add, h.cellAt (g := g) j hj, hu]
end

section
variable {P : Program} (w : World)

theorem run_append_nothing (base : Nat) (t ty e : TypeId) (i : TypeInfo) (size : Nat) (ht : P.underlying t = some (.slice e)) (hi : P.info? e = some i)
    (v : Value) (n : Nat) (xs : List Value) (hown : w.ownsRow base e size v n xs) (c : Nat) : (Builtin.append_ #[t, t] ty #[v, .slice none 0 c]).run P w = .ok v w := by
  rcases hown.2 with ⟨rfl, rfl⟩ | ⟨g, cap, cur, rfl, _, _, hnc, _⟩
  · simp [Builtin.append_, run_underlying ht, sizeOf, typeInfo, hi, Builtin.lenOf, Builtin.firstCells]
  · simp [Builtin.append_, run_underlying ht, sizeOf, typeInfo, hi, Builtin.lenOf, Builtin.firstCells, hnc, storeCells]

theorem run_append_rd (base : Nat) (t ty e : TypeId) (i : TypeInfo) (z : Value) (size bytes : Nat) (ht : P.underlying t = some (.slice e)) (hi : P.info? e = some i) (hz : i.zero = some z)
    (hsize : i.size = size) (hby : i.bytes = bytes) (hzs : z.cells.size = size) (hsz : 0 < size)
    (v : Value) (n : Nat) (xs : List Value) (hown : w.ownsRow base e size v n xs)
    (A : Option Addr) (m c : Nat) (news : List Value) (hr : Rd w size A m news) (h1 : ∀ u ∈ news, u.oneCell' = true)
    (h63 : n + m ≤ maxLen) (hbytes : (n + m) * bytes ≤ 140737488355328) (hbase : base ≤ w.heap.size) :
    ∃ v' w', (Builtin.append_ #[t, t] ty #[v, .slice A m c]).run P w = .ok v' w' ∧ w'.ownsRow base e size v' (n + m) (xs ++ news) ∧ w.grownBy w' v.ownBlock ∧
      (v'.ownBlock = v.ownBlock ∨ v'.ownBlock = some w.heap.size) := by
  rcases A with _ | ad
  · have hm : m = 0 := by
      rcases Nat.eq_zero_or_pos m with h0 | h0
      · exact h0
      · obtain ⟨b, off, h, _⟩ := hr.2 h0; cases h
    subst hm
    obtain rfl : news = [] := List.eq_nil_of_length_eq_zero (by simpa using hr.1)
    exact ⟨v, w, run_append_nothing w base t ty e i size ht hi v n xs hown c, by simpa using hown, World.grownBy.refl w _, .inl rfl⟩
  · have hcells : ∀ j u, news[j]? = some u → w.cell? (ad.add j) = some u := by
      intro j u hu
      rcases Nat.eq_zero_or_pos m with h0 | h0
      · subst h0
        obtain rfl : news = [] := List.eq_nil_of_length_eq_zero (by simpa using hr.1)
        simp at hu
      · obtain ⟨b, off, h, _, hc⟩ := hr.2 h0
        injection h with h
        subst h
        have := hc j u hu
        by_cases hj0 : j = 0
        · subst hj0; simpa [Addr.add] using this
        · simpa [Addr.add, hj0] using this
    obtain ⟨v', w', hrun, h2, h3, _, h5⟩ := run_append_own_at (P := P) w base t ty e i z size bytes ht hi hz hsize hby hzs hsz v n xs hown ad m c news hr.1 hcells h1 h63 hbytes hbase
    exact ⟨v', w', hrun, h2, h3, h5⟩

theorem wpList_append_rd {ops : Array Oper} {rest : List Oper} {o : Oper} {a : Act} {Q : Exit → Act → World → Prop} (hgd : o.guard = none) (s x : Operand) (t : TypeId)
    (ho : o.op = .call { callee := .builtin .append, args := #[s, x], argTypes := #[t, t] })
    (base : Nat) (e : TypeId) (z : Value) (size bytes : Nat) (ht : P.underlying t = some (.slice e)) (hi : (P.info? e).map (fun i => (i.zero, i.size, i.bytes)) = some (some z, size, bytes)) (hzs : z.cells.size = size) (hsz : 0 < size)
    (v : Value) (n : Nat) (xs : List Value) (hs : a.eval s = v) (hown : w.ownsRow base e size v n xs)
    (A : Option Addr) (m c : Nat) (news : List Value) (hx : a.eval x = .slice A m c) (hr : Rd w size A m news) (h1 : ∀ u ∈ news, u.oneCell' = true)
    (h63 : n + m ≤ maxLen) (hbytes : (n + m) * bytes ≤ 140737488355328) (hbase : base ≤ w.heap.size)
    (h : ∀ v' w', w'.ownsRow base e size v' (n + m) (xs ++ news) → w.grownBy w' v.ownBlock → (v'.ownBlock = v.ownBlock ∨ v'.ownBlock = some w.heap.size) → wpList P ops Q rest (a.put o.dst v') w') : wpList P ops Q (o :: rest) a w := by
  obtain ⟨i, hi0, hz, hsize, hby⟩ := info_parts hi
  refine wpList_plain hgd fun K hK => ?_
  obtain ⟨v', w', hrun, h2, h3, h4⟩ := run_append_rd (P := P) w base t o.type e i z size bytes ht hi0 hz hsize hby hzs hsz v n xs hown A m c news hr h1 h63 hbytes hbase
  unfold Oper.wp execOp
  simp only [ho, resolve, invoke, builtin, Sem.run_bind, Sem.run_pure, Result.andThen_ok, List.map_toArray, List.map_cons, List.map_nil, hs, hx, hrun]
  exact hK _ _ (h v' w' h2 h3 h4)
end

/-- What a row of the call's own is, as a value. -/
theorem own_slice {w : World} {base : Nat} {e : TypeId} {size : Nat} {v : Value} {n : Nat} {xs : List Value} (h : w.ownsRow base e size v n xs) : ∃ A c, v = .slice A n c := by
  rcases h.2 with ⟨rfl, rfl⟩ | ⟨g, cap, cur, rfl, _⟩
  · exact ⟨_, _, rfl⟩
  · exact ⟨_, _, rfl⟩
/-- The block of a row of the call's own lies from base on. -/
theorem own_base {w : World} {base : Nat} {e : TypeId} {size : Nat} {v : Value} {n : Nat} {xs : List Value} (h : w.ownsRow base e size v n xs) (g : Nat) (hg : v.ownBlock = some g) : base ≤ g := by
  rcases h.2 with ⟨rfl, rfl⟩ | ⟨g', cap, cur, rfl, hb, _⟩
  · simp [Value.ownBlock] at hg
  · simp [Value.ownBlock] at hg; omega
end Go.Proofs.Ytemhiifgplaldaa

namespace Go.Proofs.Ytemhiifgplaldaa
open Go.RowKit
set_option linter.unusedVariables false

/-- The slice '.slice A n c' holds the records xs, each as the k cells that enc gives. -/
def Recs {α : Type} [Inhabited α] (enc : α → List Value) (k : Nat) (w : World) (A : Option Addr) (n : Nat) (xs : List α) : Prop :=
  xs.length = n ∧ (0 < n → ∃ b off, A = some ⟨b, off, none⟩ ∧ b < w.heap.size ∧ ∀ i, i < n → ∀ c, c < k → w.cell? ⟨b, off + i * k + c, none⟩ = some ((enc xs[i]!)[c]!))

section
variable {α : Type} {enc : α → List Value} {k n : Nat} {w : World}
/-- The cells of a list of records. -/
def flat (enc : α → List Value) (xs : List α) : List Value := xs.flatMap enc
theorem flat_length (hk : ∀ x, (enc x).length = k) (xs : List α) : (flat enc xs).length = xs.length * k := by
  induction xs with
  | nil => simp [flat]
  | cons x xs ih =>
    have : flat enc (x :: xs) = enc x ++ flat enc xs := by simp [flat]
    rw [this, List.length_append, ih, hk, List.length_cons, Nat.add_mul]
    omega
theorem flat_append (xs ys : List α) : flat enc (xs ++ ys) = flat enc xs ++ flat enc ys := by simp [flat]
theorem flat_one (x : α) : flat enc [x] = enc x := by simp [flat]

/-- A block of n records f 0 .. f (n-1). -/
def RecRow (enc : α → List Value) (k : Nat) (cs : Array Value) (n : Nat) (f : Nat → α) : Prop := cs.size = n * k ∧ ∀ j, j < n → ∀ c, c < k → cs[j * k + c]? = some ((enc (f j))[c]!)

theorem RecRow.congr {cs : Array Value} {f g : Nat → α} (h : RecRow enc k cs n f) (e : ∀ j, j < n → f j = g j) : RecRow enc k cs n g := ⟨h.1, fun j hj c hc => by rw [h.2 j hj c hc, e j hj]⟩
theorem RecRow.cell {cs : Array Value} {f : Nat → α} {b : Nat} {t : TypeId} (h : RecRow enc k cs n f) (hb : Bl w b t cs) {j c : Nat} (hj : j < n) (hc : c < k) : w.cell? ⟨b, j * k + c, none⟩ = some ((enc (f j))[c]!) := (hb.cell _).trans (h.2 j hj c hc)

end

section
variable {α : Type} [Inhabited α] {enc : α → List Value} {k : Nat} {w w' : World} {A : Option Addr} {n : Nat} {xs : List α}
theorem Recs.len (h : Recs enc k w A n xs) : xs.length = n := h.1
theorem Recs.nil : Recs enc k w A 0 [] := ⟨rfl, fun h => absurd h (by omega)⟩
theorem Recs.below (h : Recs enc k w A n xs) (hb : RowKit.Below w.heap.size w w') : Recs enc k w' A n xs :=
  ⟨h.1, fun hn => by
    obtain ⟨b, off, e, hlt, hc⟩ := h.2 hn
    exact ⟨b, off, e, by have := hb.size; omega, fun i hi c hcc => (hb.cell (p := ⟨b, off + i * k + c, none⟩) hlt).trans (hc i hi c hcc)⟩⟩
theorem Recs.alloc (h : Recs enc k w A n xs) (o : Obj) : Recs enc k (w.alloc o) A n xs := h.below ((Below.refl _ _).alloc (Nat.le_refl _) _)
theorem Recs.drewN (h : Recs enc k w A n xs) (m : Nat) : Recs enc k (w.drewN m) A n xs := h
theorem Recs.at_ (h : Recs enc k w A n xs) {i : Nat} (hi : i < n) : ∃ b off, A = some ⟨b, off, none⟩ ∧ b < w.heap.size ∧ ∀ c, c < k → w.cell? ⟨b, off + i * k + c, none⟩ = some ((enc xs[i]!)[c]!) := by
  obtain ⟨b, off, e, hlt, hc⟩ := h.2 (by omega)
  exact ⟨b, off, e, hlt, fun c hcc => hc i hi c hcc⟩

theorem flat_get (hk : ∀ x, (enc x).length = k) (xs : List α) (i c : Nat) (hi : i < xs.length) (hc : c < k) : (flat enc xs)[i * k + c]? = some ((enc xs[i]!)[c]!) := by
  induction xs generalizing i with
  | nil => simp at hi
  | cons x xs ih =>
    have e : flat enc (x :: xs) = enc x ++ flat enc xs := by simp [flat]
    rw [e]
    cases i with
    | zero =>
      rw [Nat.zero_mul, Nat.zero_add, List.getElem?_append_left (by rw [hk]; exact hc), List.getElem?_eq_getElem (by rw [hk]; exact hc)]
      simp [getElem!_pos, hk, hc]
    | succ i =>
      rw [List.getElem?_append_right (by rw [hk, Nat.add_mul]; omega), hk, show (i + 1) * k + c - k = i * k + c by rw [Nat.add_mul]; omega, ih i (by simpa using hi)]
      simp
/-- A row of the call's own reads as its records. -/
theorem Recs.of_own (hk : ∀ x, (enc x).length = k) {base : Nat} {e : TypeId} {c : Nat} (h : w.ownsRow base e k (.slice A n c) n (flat enc xs)) (hl : xs.length = n) : Recs enc k w A n xs := by
  refine ⟨hl, fun hn => ?_⟩
  rcases h.2 with ⟨hv, h0⟩ | ⟨g, cap, cur, hv, _, hh, _⟩
  · omega
  · injection hv with h1 h2 h3
    subst h1
    have hlt : g < w.heap.size := by
      rcases Nat.lt_or_ge g w.heap.size with h4 | h4
      · exact h4
      · rw [Array.getElem?_eq_none h4] at hh; cases hh
    refine ⟨g, 0, rfl, hlt, fun i hi c hc => ?_⟩
    have hlt2 : i * k + c < n * k := by
      have : (i + 1) * k ≤ n * k := Nat.mul_le_mul_right _ hi
      rw [Nat.add_mul] at this
      omega
    rw [Nat.zero_add, h.cellAt (g := g) (i * k + c) hlt2, flat_get hk xs i c (by omega) hc]

theorem RecRow.own {cs : Array Value} {f : Nat → α} {b base : Nat} {t : TypeId} (hk : ∀ x, (enc x).length = k) (h : RecRow enc k cs n f) (hb : Bl w b t cs) (hg : base ≤ b) (hn : n ≤ 9223372036854775807) : w.ownsRow base t k (.slice (some ⟨b, 0, none⟩) n n) n (flat enc ((List.range n).map f)) := by
  have hfl := flat_length hk ((List.range n).map f)
  rw [List.length_map, List.length_range] at hfl
  refine ⟨hfl, .inr ⟨b, n, cs, rfl, hg, hb, Nat.le_refl _, by unfold maxLen; omega, h.1, ?_⟩⟩
  rw [← h.1, ← Array.length_toList, List.take_length]
  apply List.ext_getElem?
  intro i
  by_cases hi : i < n * k
  · have hk0 : 0 < k := by
      rcases Nat.eq_zero_or_pos k with e | e
      · rw [e] at hi; omega
      · exact e
    have e1 : i / k * k + i % k = i := by have := Nat.div_add_mod i k; rw [Nat.mul_comm] at this; exact this
    have hj : i / k < n := (Nat.div_lt_iff_lt_mul hk0).2 hi
    have hc : i % k < k := Nat.mod_lt _ hk0
    have h1 := h.2 (i / k) hj (i % k) hc
    have h2 := flat_get hk ((List.range n).map f) (i / k) (i % k) (by simpa using hj) hc
    rw [e1] at h1 h2
    rw [Array.getElem?_toList, h1, h2]
    congr 2
    simp [hj]
  · rw [List.getElem?_eq_none (by rw [Array.length_toList, h.1]; omega), List.getElem?_eq_none (by omega)]

theorem RecRow.recs {cs : Array Value} {f : Nat → α} {b : Nat} {t : TypeId} (h : RecRow enc k cs n f) (hb : Bl w b t cs) : Recs enc k w (some ⟨b, 0, none⟩) n ((List.range n).map f) :=
  ⟨by simp, fun _ => ⟨b, 0, rfl, hb.lt, fun i hi c hc => by rw [Nat.zero_add, h.cell hb hi hc]; simp [hi]⟩⟩
end

/-! ### Pairs of integers -/
def enc2 (p : Int × Int) : List Value := [.int .i64 p.1, .int .i64 p.2]
theorem enc2_len (p : Int × Int) : (enc2 p).length = 2 := rfl
theorem enc2_one (p : Int × Int) : ∀ v ∈ enc2 p, v.oneCell' = true := fun v hv => by
  simp [enc2] at hv
  rcases hv with rfl | rfl <;> rfl

theorem Recs.get2 {w : World} {A : Option Addr} {n : Nat} {xs : List (Int × Int)} (h : Recs enc2 2 w A n xs) {i : Nat} (hi : i < n) :
    ∃ b off x y, A = some ⟨b, off, none⟩ ∧ b < w.heap.size ∧ w.cell? ⟨b, off + i * 2, none⟩ = some (.int .i64 x) ∧ w.cell? ⟨b, off + i * 2 + 1, none⟩ = some (.int .i64 y) ∧ Hid (xs[i]! = (x, y)) := by
  obtain ⟨b, off, e, hlt, hc⟩ := h.at_ hi
  exact ⟨b, off, xs[i]!.1, xs[i]!.2, e, hlt, hc 0 (by omega), hc 1 (by omega), rfl⟩

theorem RecRow.put2 {cs : Array Value} {n : Nat} {f : Nat → Int × Int} (h : RecRow enc2 2 cs n f) (i : Nat) (p : Int × Int) (hi : i < n) :
    RecRow enc2 2 ((cs.setIfInBounds (i * 2) (.int .i64 p.1)).setIfInBounds (i * 2 + 1) (.int .i64 p.2)) n (fun j => if j = i then p else f j) := by
  have hs := h.1
  refine ⟨by simpa using hs, fun j hj c hc => ?_⟩
  simp only [Array.getElem?_setIfInBounds, Array.size_setIfInBounds]
  have hcc : c = 0 ∨ c = 1 := by omega
  by_cases e : j = i
  · subst e
    rcases hcc with rfl | rfl
    · rw [if_neg (by omega), if_pos (by omega), if_pos (by omega), if_pos rfl]; rfl
    · rw [if_pos rfl, if_pos (by omega), if_pos rfl]; rfl
  · rw [if_neg (by omega), if_neg (by omega), if_neg e, h.2 j hj c hc]

end Go.Proofs.Ytemhiifgplaldaa

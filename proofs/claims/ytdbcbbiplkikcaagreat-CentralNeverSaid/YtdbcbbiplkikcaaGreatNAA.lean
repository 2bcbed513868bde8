/-
  Words for memory used by all walks of this seat: a slice of integers that reads as a list, and how such a reading is kept. No statement of the seat is proved here. No conditions.
  How a slice of integers that came in is opened: it reads as a list, its length is at most its capacity. No statement of the seat is proved here. No conditions.
  More words for memory: a block that holds the integers f 0, f 1, .., f (n-1). No statement of the seat is proved here. No conditions.
  A law for the built-in append onto a row of the call's own, the source nil, empty or not. No statement of the seat is proved here. Conditions: the new length and its bytes fit.
  Words for memory: slices of structs of k cells that read as lists. No statement of the seat is proved here. No conditions.
  How a slice of structs of two ints that came in is opened: it reads as a list of pairs. No statement of the seat is proved here. Conditions: the slice's type.
  The plain mathematics of the stable sort of facts: exchanges, insertion, rotation, merging. No statement of the seat is proved here. No conditions beyond those typed.
-/
import Derived.Below
import Derived.Laws.OwnMore
import Derived.Deep.Draws
import Derived.Lib.Hide
import Derived.IntWalk
import Derived.WalkKit
import Derived.Laws.Rows
import Derived.OwnWalk
import Derived.Maps.AppendAt
import Derived.Deep.AppendLies
import Derived.RegionTactic
import Derived.Deep.SlicePairs
namespace Go.Proofs.YtdbcbbiplkikcaaGreat
open Go.RowKit

def IntsK (k : IntKind) (w : World) (A : Option Addr) (n : Nat) (xs : List Int) : Prop :=
  xs.length = n ∧ (0 < n → ∃ b off, A = some ⟨b, off, none⟩ ∧ b < w.heap.size ∧ ∀ i, i < n → w.cell? ⟨b, off + i, none⟩ = some (.int k (xs.getD i 0)))

abbrev Ints := IntsK .i64

section
variable {k : IntKind} {w w' : World} {A : Option Addr} {n : Nat} {xs : List Int}
theorem IntsK.len (h : IntsK k w A n xs) : xs.length = n := h.1
theorem IntsK.nil : IntsK k w A 0 [] := ⟨rfl, fun h => absurd h (by omega)⟩
theorem IntsK.at_ {i : Nat} (h : IntsK k w A n xs) (hi : i < n) : ∃ b off, A = some ⟨b, off, none⟩ ∧ b < w.heap.size ∧ w.cell? ⟨b, off + i, none⟩ = some (.int k (xs.getD i 0)) := by
  obtain ⟨b, off, e, hb, hc⟩ := h.2 (by omega)
  exact ⟨b, off, e, hb, hc i hi⟩
theorem IntsK.get {i : Nat} (h : IntsK k w A n xs) (hi : i < n) : ∃ b off x, A = some ⟨b, off, none⟩ ∧ b < w.heap.size ∧ w.cell? ⟨b, off + i, none⟩ = some (.int k x) ∧ Hid (xs.getD i 0 = x) := by
  obtain ⟨b, off, e, hb, hc⟩ := h.at_ hi
  exact ⟨b, off, _, e, hb, hc, rfl⟩
theorem IntsK.keep (h : IntsK k w A n xs) (hs : w.heap.size ≤ w'.heap.size) (hk : ∀ p : Addr, p.block < w.heap.size → w'.cell? p = w.cell? p) : IntsK k w' A n xs :=
  ⟨h.1, fun hn => by
    obtain ⟨b, off, e, hb, hc⟩ := h.2 hn
    exact ⟨b, off, e, by omega, fun i hi => (hk _ hb).trans (hc i hi)⟩⟩
theorem IntsK.below (h : IntsK k w A n xs) (hb : Below w.heap.size w w') : IntsK k w' A n xs := h.keep hb.size fun _ hp => hb.cell hp
theorem IntsK.drew (h : IntsK k w A n xs) : IntsK k w.drew A n xs := h
theorem IntsK.drewN (h : IntsK k w A n xs) (m : Nat) : IntsK k (w.drewN m) A n xs := h
theorem IntsK.alloc (h : IntsK k w A n xs) (o : Obj) : IntsK k (w.alloc o) A n xs := h.below ((Below.refl _ _).alloc (Nat.le_refl _) _)
theorem IntsK.take (h : IntsK k w A n xs) {m : Nat} (hm : m ≤ n) : IntsK k w A m (xs.take m) := by
  refine ⟨by rw [List.length_take, h.1]; omega, fun h0 => ?_⟩
  obtain ⟨b, off, e, hb, hc⟩ := h.2 (by omega)
  refine ⟨b, off, e, hb, fun i hi => ?_⟩
  rw [hc i (by omega)]
  simp [List.getD, hi]
theorem IntsK.of_own {base : Nat} {e : TypeId} {c : Nat} (h : w.ownsRow base e 1 (.slice A n c) n (xs.map (Value.int k))) : IntsK k w A n xs := by
  have hl : xs.length = n := by have := h.1; simpa using this
  refine ⟨hl, fun hn => ?_⟩
  rcases h.2 with ⟨hv, h0⟩ | ⟨g, cap, cur, hv, _, hh, _⟩
  · omega
  · injection hv with h1 h2 h3
    subst h1
    have hlt : g < w.heap.size := by
      rcases Nat.lt_or_ge g w.heap.size with h | h
      · exact h
      · rw [Array.getElem?_eq_none h] at hh; cases hh
    refine ⟨g, 0, rfl, hlt, fun i hi => ?_⟩
    have := h.cellAt (g := g) i (by omega)
    rw [Nat.zero_add, this, List.getElem?_map, List.getD, List.getElem?_eq_getElem (by omega)]
    rfl
end


def Bl (w : World) (g : Nat) (t : TypeId) (cs : Array Value) : Prop := w.heap[g]? = some (.cells cs t (0, 0))
section
variable {w w' : World} {g : Nat} {t : TypeId} {cs : Array Value}
theorem Bl.lt (h : Bl w g t cs) : g < w.heap.size := by
  rcases Nat.lt_or_ge g w.heap.size with h1 | h1
  · exact h1
  · unfold Bl at h; rw [Array.getElem?_eq_none h1] at h; cases h
theorem Bl.cell (h : Bl w g t cs) (i : Nat) : w.cell? ⟨g, i, none⟩ = cs[i]? := cell_of_row w g i cs t (0, 0) h
theorem Bl.free (h : Bl w g t cs) (i : Nat) : w.frozen? ⟨g, i, none⟩ = false := by
  unfold Bl at h
  simp [World.frozen?, h]
theorem Bl.new (w : World) (t : TypeId) (cs : Array Value) : Bl (w.alloc (.cells cs t)) w.heap.size t cs := heap_alloc_new w _
theorem Bl.drewN (h : Bl w g t cs) (n : Nat) : Bl (w.drewN n) g t cs := h
theorem Bl.alloc (h : Bl w g t cs) (o : Obj) : Bl (w.alloc o) g t cs := (Below.heap_alloc w o g h.lt).trans h
theorem Bl.below {B : Nat} (h : Bl w g t cs) (hb : Below B w w') (hg : g < B) : Bl w' g t cs := (hb.block g hg).trans h
theorem Bl.keep (h : Bl w g t cs) (hb : Below w.heap.size w w') : Bl w' g t cs := (hb.block g h.lt).trans h
theorem Bl.put (h : Bl w g t cs) (i : Nat) (u : Value) : Bl (w.setCell ⟨g, i, none⟩ u) g t (cs.setIfInBounds i u) := by
  unfold Bl at h ⊢
  simp [World.setCell, Array.getElem?_modify, h]
theorem Bl.far (h : Bl w g t cs) {p : Addr} (hp : g ≠ p.block) (u : Value) : Bl (w.setCell p u) g t cs := (Below.heap_setCell w p u g hp).trans h
theorem Bl.ints {k : IntKind} {xs : List Int} (h : Bl w g t cs) (hx : ∀ i, i < xs.length → cs[i]? = some (.int k (xs.getD i 0))) : IntsK k w (some ⟨g, 0, none⟩) xs.length xs :=
  ⟨rfl, fun _ => ⟨g, 0, rfl, h.lt, fun i hi => by rw [Nat.zero_add, h.cell, hx i hi]⟩⟩
end

theorem Bl.own_ints {w : World} {g base n : Nat} {t : TypeId} {cs : Array Value} {k : IntKind} {xs : List Int} (h : Bl w g t cs) (hb : base ≤ g) (hs : cs.size = n) (hl : xs.length = n) (hn : n ≤ 9223372036854775807) (hx : ∀ i, i < n → cs[i]? = some (.int k (xs.getD i 0))) :
    w.ownsRow base t 1 (.slice (some ⟨g, 0, none⟩) n n) n (xs.map (Value.int k)) := by
  refine ⟨by simp [hl], .inr ⟨g, n, cs, rfl, hb, h, Nat.le_refl _, by unfold maxLen; omega, by omega, ?_⟩⟩
  apply List.ext_getElem?
  intro i
  by_cases hi : i < n
  · have := hx i hi
    rw [List.getElem?_take, if_pos (by omega), Array.getElem?_toList, this, List.getElem?_map, List.getElem?_eq_getElem (show i < xs.length by omega)]
    simp [List.getD, List.getElem?_eq_getElem (show i < xs.length by omega)]
  · rw [List.getElem?_eq_none (by simp; omega), List.getElem?_eq_none (by simp; omega)]

theorem make_any {P : Program} (t e : TypeId) (z : Value) (size bytes n : Nat) (ht : P.underlying t = some (.slice e)) (hi : (P.info? e).map (fun i => (i.zero, i.size, i.bytes)) = some (some z, size, bytes)) (hb : bytes * n ≤ 281474976710656) (hn : n ≤ 9223372036854775807) :
    ∃ C : Array Value, Hid (C.size = n * size ∧ ∀ j, j < n * size → C[j]? = some (z.cells[j % z.cells.size]!)) ∧ ∀ w : World, (Instr.makeSlice t (.int .i64 (n : Int)) (.int .i64 (n : Int))).run P w = .ok (.slice (some ⟨w.heap.size, 0, none⟩) n n) (w.alloc (.cells C e)) := by
  obtain ⟨i, hi0, hz, hs, hby⟩ := info_parts hi
  refine ⟨madeCells z.cells (n * size), ⟨size_madeCells _ _, fun j hj => by simp [madeCells, hj]⟩, fun w => ?_⟩
  have := run_make (P := P) w t e i z ht hi0 hz .i64 .i64 (n : Int) (n : Int) (by omega) (Int.le_refl _) (by rw [hby, ← Int.natCast_mul]; omega) (by omega)
  rw [hs] at this
  simpa using this

end Go.Proofs.YtdbcbbiplkikcaaGreat

namespace Go.Proofs.YtdbcbbiplkikcaaGreat
open Go.RowKit
set_option linter.unusedVariables false

def IsRow (k : IntKind) (w : World) (a : Option Addr) (len cap : Nat) (zs : List Int) : Prop :=
  (a = none ∧ len = 0 ∧ cap = 0 ∧ zs = []) ∨
  ∃ x, a = some x ∧ len ≤ cap ∧ cap ≤ maxLen ∧ zs.length = cap ∧ (∀ i, i < zs.length → w.cell? (x.add i) = some (.int k (zs.getD i 0))) ∧ ∀ n ∈ zs, (Lit.int k n).wf = true

theorem isRow_ints {k : IntKind} {w : World} {a : Option Addr} {len cap : Nat} {zs : List Int} (h : IsRow k w a len cap zs) :
    IntsK k w a len (zs.take len) ∧ len ≤ cap ∧ cap ≤ 9223372036854775807 ∧ (a = none → len = 0 ∧ cap = 0) := by
  rcases h with ⟨rfl, rfl, rfl, rfl⟩ | ⟨x, rfl, hl, hm, hz, hc, hw⟩
  · exact ⟨⟨rfl, fun h => absurd h (by omega)⟩, Nat.le_refl _, by omega, fun _ => ⟨rfl, rfl⟩⟩
  · refine ⟨⟨by rw [List.length_take]; omega, fun h0 => ?_⟩, hl, by unfold maxLen at hm; omega, by intro h; cases h⟩
    obtain ⟨b, off, spot⟩ := x
    have h1 := hc 0 (by omega)
    have hs : spot = none := by simpa [Addr.add] using World.cell?_spot h1
    subst hs
    have hb : b < w.heap.size := by
      rcases Nat.lt_or_ge b w.heap.size with h2 | h2
      · exact h2
      · simp [Addr.add, World.cell?, Array.getElem?_eq_none h2] at h1
    refine ⟨b, off, rfl, hb, fun i hi => ?_⟩
    have h2 := hc i (by omega)
    have e : (⟨b, off, none⟩ : Addr).add i = ⟨b, off + i, none⟩ := by
      by_cases h0 : i = 0
      · subst h0; simp [Addr.add]
      · simp [Addr.add, h0]
    rw [e] at h2
    rw [h2]
    simp [List.getD, hi]

end Go.Proofs.YtdbcbbiplkikcaaGreat

namespace Go.Proofs.YtdbcbbiplkikcaaGreat
open Go.RowKit
set_option linter.unusedVariables false

def IntRow (cs : Array Value) (n : Nat) (f : Nat → Int) : Prop := cs.size = n ∧ ∀ j, j < n → cs[j]? = some (.int .i64 (f j))
section
variable {cs : Array Value} {n : Nat} {f g : Nat → Int}
theorem IntRow.congr (h : IntRow cs n f) (e : ∀ j, j < n → f j = g j) : IntRow cs n g := ⟨h.1, fun j hj => by rw [h.2 j hj, e j hj]⟩
theorem IntRow.put (h : IntRow cs n f) (i : Nat) (v : Int) : IntRow (cs.setIfInBounds i (.int .i64 v)) n (fun j => if j = i then v else f j) := by
  refine ⟨by simpa using h.1, fun j hj => ?_⟩
  rw [Array.getElem?_setIfInBounds]
  by_cases e : i = j
  · subst e
    rw [if_pos rfl, if_pos (by rw [h.1]; exact hj)]
    simp
  · have e2 : ¬ j = i := fun x => e x.symm
    rw [if_neg e, h.2 j hj]
    simp [e2]
theorem IntRow.set (h : IntRow cs n f) (i : Nat) (v : Int) (e : ∀ j, j < n → g j = if j = i then v else f j) : IntRow (cs.setIfInBounds i (.int .i64 v)) n g := (h.put i v).congr fun j hj => (e j hj).symm
theorem IntRow.zeros {C : Array Value} {n : Nat} (h : C.size = n * 1 ∧ ∀ j, j < n * 1 → C[j]? = some ((Value.int .i64 0).cells[j % (Value.int .i64 0).cells.size]!)) : IntRow C n (fun _ => 0) :=
  ⟨by rw [h.1]; omega, fun j hj => by rw [h.2 j (by omega)]; simp [Value.cells, Nat.mod_one]⟩
theorem IntRow.cell {w : World} {b : Nat} {t : TypeId} (h : IntRow cs n f) (hb : Bl w b t cs) {j : Nat} (hj : j < n) : w.cell? ⟨b, j, none⟩ = some (.int .i64 (f j)) := (hb.cell j).trans (h.2 j hj)
theorem IntRow.own {w : World} {b base : Nat} {t : TypeId} (h : IntRow cs n f) (hb : Bl w b t cs) (hg : base ≤ b) (hn : n ≤ 9223372036854775807) : w.ownsRow base t 1 (.slice (some ⟨b, 0, none⟩) n n) n (((List.range n).map f).map (Value.int .i64)) :=
  hb.own_ints hg h.1 (by simp) hn (fun i hi => by rw [h.2 i hi]; simp [List.getD, hi])
end

end Go.Proofs.YtdbcbbiplkikcaaGreat

namespace Go.Proofs.YtdbcbbiplkikcaaGreat
open Go.RowKit
set_option linter.unusedVariables false

def Rd (w : World) (size : Nat) (A : Option Addr) (n : Nat) (xs : List Value) : Prop :=
  xs.length = n * size ∧ (0 < n → ∃ b off, A = some ⟨b, off, none⟩ ∧ b < w.heap.size ∧ ∀ j u, xs[j]? = some u → w.cell? ⟨b, off + j, none⟩ = some u)

section
variable {w w' : World} {size n : Nat} {A : Option Addr} {xs : List Value}
theorem Rd.keep (h : Rd w size A n xs) (hb : RowKit.Below w.heap.size w w') : Rd w' size A n xs :=
  ⟨h.1, fun hn => by
    obtain ⟨b, off, e, hlt, hc⟩ := h.2 hn
    exact ⟨b, off, e, by have := hb.size; omega, fun j u hu => (hb.cell (p := ⟨b, off + j, none⟩) hlt).trans (hc j u hu)⟩⟩
theorem Rd.alloc (h : Rd w size A n xs) (o : Obj) : Rd (w.alloc o) size A n xs := h.keep ((Below.refl _ _).alloc (Nat.le_refl _) _)
theorem Rd.drewN (h : Rd w size A n xs) (m : Nat) : Rd (w.drewN m) size A n xs := h
theorem Rd.of_own {base : Nat} {e : TypeId} {c : Nat} (h : w.ownsRow base e size (.slice A n c) n xs) : Rd w size A n xs := by
  refine ⟨h.1, fun hn => ?_⟩
  rcases h.2 with ⟨_, h0⟩ | ⟨g, cap, cur, hv, _, hh, _⟩
  · omega
  · injection hv with h1 h2 h3
    subst h1
    have hlt : g < w.heap.size := by
      rcases Nat.lt_or_ge g w.heap.size with h4 | h4
      · exact h4
      · rw [Array.getElem?_eq_none h4] at hh; cases hh
    refine ⟨g, 0, rfl, hlt, fun j u hu => ?_⟩
    have hj : j < n * size := by
      rcases Nat.lt_or_ge j (n * size) with h4 | h4
      · exact h4
      · rw [List.getElem?_eq_none (by rw [h.1]; exact h4)] at hu; cases hu
    rw [Nat.zero_add, h.cellAt (g := g) j hj, hu]
end

section
variable {P : Program} (w : World)

theorem run_append_nothing (base : Nat) (t ty e : TypeId) (i : TypeInfo) (size : Nat) (ht : P.underlying t = some (.slice e)) (hi : P.info? e = some i)
    (v : Value) (n : Nat) (xs : List Value) (hown : w.ownsRow base e size v n xs) (c : Nat) : (Builtin.append_ #[t, t] ty #[v, .slice none 0 c]).run P w = .ok v w := by
  rcases hown.2 with ⟨rfl, rfl⟩ | ⟨g, cap, cur, rfl, _, _, hnc, _⟩
  · simp [Builtin.append_, run_underlying ht, sizeOf, typeInfo, hi, Builtin.lenOf, Builtin.firstCells]
  · simp [Builtin.append_, run_underlying ht, sizeOf, typeInfo, hi, Builtin.lenOf, Builtin.firstCells, hnc, storeCells]

theorem run_append_rd (base : Nat) (t ty e : TypeId) (i : TypeInfo) (z : Value) (size bytes : Nat) (ht : P.underlying t = some (.slice e)) (hi : P.info? e = some i) (hz : i.zero = some z)
    (hsize : i.size = size) (hby : i.bytes = bytes) (hzs : z.cells.size = size) (hsz : 0 < size)
    (v : Value) (n : Nat) (xs : List Value) (hown : w.ownsRow base e size v n xs)
    (A : Option Addr) (m c : Nat) (news : List Value) (hr : Rd w size A m news) (h1 : ∀ u ∈ news, u.oneCell' = true)
    (h63 : n + m ≤ maxLen) (hbytes : (n + m) * bytes ≤ 140737488355328) (hbase : base ≤ w.heap.size) :
    ∃ v' w', (Builtin.append_ #[t, t] ty #[v, .slice A m c]).run P w = .ok v' w' ∧ w'.ownsRow base e size v' (n + m) (xs ++ news) ∧ w.grownBy w' v.ownBlock ∧
      (v'.ownBlock = v.ownBlock ∨ v'.ownBlock = some w.heap.size) := by
  rcases A with _ | ad
  · have hm : m = 0 := by
      rcases Nat.eq_zero_or_pos m with h0 | h0
      · exact h0
      · obtain ⟨b, off, h, _⟩ := hr.2 h0; cases h
    subst hm
    obtain rfl : news = [] := List.eq_nil_of_length_eq_zero (by simpa using hr.1)
    exact ⟨v, w, run_append_nothing w base t ty e i size ht hi v n xs hown c, by simpa using hown, World.grownBy.refl w _, .inl rfl⟩
  · have hcells : ∀ j u, news[j]? = some u → w.cell? (ad.add j) = some u := by
      intro j u hu
      rcases Nat.eq_zero_or_pos m with h0 | h0
      · subst h0
        obtain rfl : news = [] := List.eq_nil_of_length_eq_zero (by simpa using hr.1)
        simp at hu
      · obtain ⟨b, off, h, _, hc⟩ := hr.2 h0
        injection h with h
        subst h
        have := hc j u hu
        by_cases hj0 : j = 0
        · subst hj0; simpa [Addr.add] using this
        · simpa [Addr.add, hj0] using this
    obtain ⟨v', w', hrun, h2, h3, _, h5⟩ := run_append_own_at (P := P) w base t ty e i z size bytes ht hi hz hsize hby hzs hsz v n xs hown ad m c news hr.1 hcells h1 h63 hbytes hbase
    exact ⟨v', w', hrun, h2, h3, h5⟩

theorem wpList_append_rd {ops : Array Oper} {rest : List Oper} {o : Oper} {a : Act} {Q : Exit → Act → World → Prop} (hgd : o.guard = none) (s x : Operand) (t : TypeId)
    (ho : o.op = .call { callee := .builtin .append, args := #[s, x], argTypes := #[t, t] })
    (base : Nat) (e : TypeId) (z : Value) (size bytes : Nat) (ht : P.underlying t = some (.slice e)) (hi : (P.info? e).map (fun i => (i.zero, i.size, i.bytes)) = some (some z, size, bytes)) (hzs : z.cells.size = size) (hsz : 0 < size)
    (v : Value) (n : Nat) (xs : List Value) (hs : a.eval s = v) (hown : w.ownsRow base e size v n xs)
    (A : Option Addr) (m c : Nat) (news : List Value) (hx : a.eval x = .slice A m c) (hr : Rd w size A m news) (h1 : ∀ u ∈ news, u.oneCell' = true)
    (h63 : n + m ≤ maxLen) (hbytes : (n + m) * bytes ≤ 140737488355328) (hbase : base ≤ w.heap.size)
    (h : ∀ v' w', w'.ownsRow base e size v' (n + m) (xs ++ news) → w.grownBy w' v.ownBlock → (v'.ownBlock = v.ownBlock ∨ v'.ownBlock = some w.heap.size) → wpList P ops Q rest (a.put o.dst v') w') : wpList P ops Q (o :: rest) a w := by
  obtain ⟨i, hi0, hz, hsize, hby⟩ := info_parts hi
  refine wpList_plain hgd fun K hK => ?_
  obtain ⟨v', w', hrun, h2, h3, h4⟩ := run_append_rd (P := P) w base t o.type e i z size bytes ht hi0 hz hsize hby hzs hsz v n xs hown A m c news hr h1 h63 hbytes hbase
  unfold Oper.wp execOp
  simp only [ho, resolve, invoke, builtin, Sem.run_bind, Sem.run_pure, Result.andThen_ok, List.map_toArray, List.map_cons, List.map_nil, hs, hx, hrun]
  exact hK _ _ (h v' w' h2 h3 h4)
end

theorem own_slice {w : World} {base : Nat} {e : TypeId} {size : Nat} {v : Value} {n : Nat} {xs : List Value} (h : w.ownsRow base e size v n xs) : ∃ A c, v = .slice A n c := by
  rcases h.2 with ⟨rfl, rfl⟩ | ⟨g, cap, cur, rfl, _⟩
  · exact ⟨_, _, rfl⟩
  · exact ⟨_, _, rfl⟩
theorem own_base {w : World} {base : Nat} {e : TypeId} {size : Nat} {v : Value} {n : Nat} {xs : List Value} (h : w.ownsRow base e size v n xs) (g : Nat) (hg : v.ownBlock = some g) : base ≤ g := by
  rcases h.2 with ⟨rfl, rfl⟩ | ⟨g', cap, cur, rfl, hb, _⟩
  · simp [Value.ownBlock] at hg
  · simp [Value.ownBlock] at hg; omega
end Go.Proofs.YtdbcbbiplkikcaaGreat

namespace Go.Proofs.YtdbcbbiplkikcaaGreat
open Go.RowKit
set_option linter.unusedVariables false

def Recs {α : Type} [Inhabited α] (enc : α → List Value) (k : Nat) (w : World) (A : Option Addr) (n : Nat) (xs : List α) : Prop :=
  xs.length = n ∧ (0 < n → ∃ b off, A = some ⟨b, off, none⟩ ∧ b < w.heap.size ∧ ∀ i, i < n → ∀ c, c < k → w.cell? ⟨b, off + i * k + c, none⟩ = some ((enc xs[i]!)[c]!))

section
variable {α : Type} {enc : α → List Value} {k n : Nat} {w : World}
def flat (enc : α → List Value) (xs : List α) : List Value := xs.flatMap enc
theorem flat_length (hk : ∀ x, (enc x).length = k) (xs : List α) : (flat enc xs).length = xs.length * k := by
  induction xs with
  | nil => simp [flat]
  | cons x xs ih =>
    have : flat enc (x :: xs) = enc x ++ flat enc xs := by simp [flat]
    rw [this, List.length_append, ih, hk, List.length_cons, Nat.add_mul]
    omega
theorem flat_append (xs ys : List α) : flat enc (xs ++ ys) = flat enc xs ++ flat enc ys := by simp [flat]
theorem flat_one (x : α) : flat enc [x] = enc x := by simp [flat]

def RecRow (enc : α → List Value) (k : Nat) (cs : Array Value) (n : Nat) (f : Nat → α) : Prop := cs.size = n * k ∧ ∀ j, j < n → ∀ c, c < k → cs[j * k + c]? = some ((enc (f j))[c]!)

theorem RecRow.congr {cs : Array Value} {f g : Nat → α} (h : RecRow enc k cs n f) (e : ∀ j, j < n → f j = g j) : RecRow enc k cs n g := ⟨h.1, fun j hj c hc => by rw [h.2 j hj c hc, e j hj]⟩
theorem RecRow.cell {cs : Array Value} {f : Nat → α} {b : Nat} {t : TypeId} (h : RecRow enc k cs n f) (hb : Bl w b t cs) {j c : Nat} (hj : j < n) (hc : c < k) : w.cell? ⟨b, j * k + c, none⟩ = some ((enc (f j))[c]!) := (hb.cell _).trans (h.2 j hj c hc)

end

section
variable {α : Type} [Inhabited α] {enc : α → List Value} {k : Nat} {w w' : World} {A : Option Addr} {n : Nat} {xs : List α}
theorem Recs.len (h : Recs enc k w A n xs) : xs.length = n := h.1
theorem Recs.nil : Recs enc k w A 0 [] := ⟨rfl, fun h => absurd h (by omega)⟩
theorem Recs.below (h : Recs enc k w A n xs) (hb : RowKit.Below w.heap.size w w') : Recs enc k w' A n xs :=
  ⟨h.1, fun hn => by
    obtain ⟨b, off, e, hlt, hc⟩ := h.2 hn
    exact ⟨b, off, e, by have := hb.size; omega, fun i hi c hcc => (hb.cell (p := ⟨b, off + i * k + c, none⟩) hlt).trans (hc i hi c hcc)⟩⟩
theorem Recs.alloc (h : Recs enc k w A n xs) (o : Obj) : Recs enc k (w.alloc o) A n xs := h.below ((Below.refl _ _).alloc (Nat.le_refl _) _)
theorem Recs.drewN (h : Recs enc k w A n xs) (m : Nat) : Recs enc k (w.drewN m) A n xs := h
theorem Recs.at_ (h : Recs enc k w A n xs) {i : Nat} (hi : i < n) : ∃ b off, A = some ⟨b, off, none⟩ ∧ b < w.heap.size ∧ ∀ c, c < k → w.cell? ⟨b, off + i * k + c, none⟩ = some ((enc xs[i]!)[c]!) := by
  obtain ⟨b, off, e, hlt, hc⟩ := h.2 (by omega)
  exact ⟨b, off, e, hlt, fun c hcc => hc i hi c hcc⟩

theorem flat_get (hk : ∀ x, (enc x).length = k) (xs : List α) (i c : Nat) (hi : i < xs.length) (hc : c < k) : (flat enc xs)[i * k + c]? = some ((enc xs[i]!)[c]!) := by
  induction xs generalizing i with
  | nil => simp at hi
  | cons x xs ih =>
    have e : flat enc (x :: xs) = enc x ++ flat enc xs := by simp [flat]
    rw [e]
    cases i with
    | zero =>
      rw [Nat.zero_mul, Nat.zero_add, List.getElem?_append_left (by rw [hk]; exact hc), List.getElem?_eq_getElem (by rw [hk]; exact hc)]
      simp [getElem!_pos, hk, hc]
    | succ i =>
      rw [List.getElem?_append_right (by rw [hk, Nat.add_mul]; omega), hk, show (i + 1) * k + c - k = i * k + c by rw [Nat.add_mul]; omega, ih i (by simpa using hi)]
      simp
theorem Recs.of_own (hk : ∀ x, (enc x).length = k) {base : Nat} {e : TypeId} {c : Nat} (h : w.ownsRow base e k (.slice A n c) n (flat enc xs)) (hl : xs.length = n) : Recs enc k w A n xs := by
  refine ⟨hl, fun hn => ?_⟩
  rcases h.2 with ⟨hv, h0⟩ | ⟨g, cap, cur, hv, _, hh, _⟩
  · omega
  · injection hv with h1 h2 h3
    subst h1
    have hlt : g < w.heap.size := by
      rcases Nat.lt_or_ge g w.heap.size with h4 | h4
      · exact h4
      · rw [Array.getElem?_eq_none h4] at hh; cases hh
    refine ⟨g, 0, rfl, hlt, fun i hi c hc => ?_⟩
    have hlt2 : i * k + c < n * k := by
      have : (i + 1) * k ≤ n * k := Nat.mul_le_mul_right _ hi
      rw [Nat.add_mul] at this
      omega
    rw [Nat.zero_add, h.cellAt (g := g) (i * k + c) hlt2, flat_get hk xs i c (by omega) hc]

theorem RecRow.own {cs : Array Value} {f : Nat → α} {b base : Nat} {t : TypeId} (hk : ∀ x, (enc x).length = k) (h : RecRow enc k cs n f) (hb : Bl w b t cs) (hg : base ≤ b) (hn : n ≤ 9223372036854775807) : w.ownsRow base t k (.slice (some ⟨b, 0, none⟩) n n) n (flat enc ((List.range n).map f)) := by
  have hfl := flat_length hk ((List.range n).map f)
  rw [List.length_map, List.length_range] at hfl
  refine ⟨hfl, .inr ⟨b, n, cs, rfl, hg, hb, Nat.le_refl _, by unfold maxLen; omega, h.1, ?_⟩⟩
  rw [← h.1, ← Array.length_toList, List.take_length]
  apply List.ext_getElem?
  intro i
  by_cases hi : i < n * k
  · have hk0 : 0 < k := by
      rcases Nat.eq_zero_or_pos k with e | e
      · rw [e] at hi; omega
      · exact e
    have e1 : i / k * k + i % k = i := by have := Nat.div_add_mod i k; rw [Nat.mul_comm] at this; exact this
    have hj : i / k < n := (Nat.div_lt_iff_lt_mul hk0).2 hi
    have hc : i % k < k := Nat.mod_lt _ hk0
    have h1 := h.2 (i / k) hj (i % k) hc
    have h2 := flat_get hk ((List.range n).map f) (i / k) (i % k) (by simpa using hj) hc
    rw [e1] at h1 h2
    rw [Array.getElem?_toList, h1, h2]
    congr 2
    simp [hj]
  · rw [List.getElem?_eq_none (by rw [Array.length_toList, h.1]; omega), List.getElem?_eq_none (by omega)]

theorem RecRow.recs {cs : Array Value} {f : Nat → α} {b : Nat} {t : TypeId} (h : RecRow enc k cs n f) (hb : Bl w b t cs) : Recs enc k w (some ⟨b, 0, none⟩) n ((List.range n).map f) :=
  ⟨by simp, fun _ => ⟨b, 0, rfl, hb.lt, fun i hi c hc => by rw [Nat.zero_add, h.cell hb hi hc]; simp [hi]⟩⟩
end

/-! ### Pairs of integers -/
def enc2 (p : Int × Int) : List Value := [.int .i64 p.1, .int .i64 p.2]
theorem enc2_len (p : Int × Int) : (enc2 p).length = 2 := rfl
theorem enc2_one (p : Int × Int) : ∀ v ∈ enc2 p, v.oneCell' = true := fun v hv => by
  simp [enc2] at hv
  rcases hv with rfl | rfl <;> rfl

theorem Recs.get2 {w : World} {A : Option Addr} {n : Nat} {xs : List (Int × Int)} (h : Recs enc2 2 w A n xs) {i : Nat} (hi : i < n) :
    ∃ b off x y, A = some ⟨b, off, none⟩ ∧ b < w.heap.size ∧ w.cell? ⟨b, off + i * 2, none⟩ = some (.int .i64 x) ∧ w.cell? ⟨b, off + i * 2 + 1, none⟩ = some (.int .i64 y) ∧ Hid (xs[i]! = (x, y)) := by
  obtain ⟨b, off, e, hlt, hc⟩ := h.at_ hi
  exact ⟨b, off, xs[i]!.1, xs[i]!.2, e, hlt, hc 0 (by omega), hc 1 (by omega), rfl⟩

theorem RecRow.put2 {cs : Array Value} {n : Nat} {f : Nat → Int × Int} (h : RecRow enc2 2 cs n f) (i : Nat) (p : Int × Int) (hi : i < n) :
    RecRow enc2 2 ((cs.setIfInBounds (i * 2) (.int .i64 p.1)).setIfInBounds (i * 2 + 1) (.int .i64 p.2)) n (fun j => if j = i then p else f j) := by
  have hs := h.1
  refine ⟨by simpa using hs, fun j hj c hc => ?_⟩
  simp only [Array.getElem?_setIfInBounds, Array.size_setIfInBounds]
  have hcc : c = 0 ∨ c = 1 := by omega
  by_cases e : j = i
  · subst e
    rcases hcc with rfl | rfl
    · rw [if_neg (by omega), if_pos (by omega), if_pos (by omega), if_pos rfl]; rfl
    · rw [if_pos rfl, if_pos (by omega), if_pos rfl]; rfl
  · rw [if_neg (by omega), if_neg (by omega), if_neg e, h.2 j hj c hc]

end Go.Proofs.YtdbcbbiplkikcaaGreat

namespace Go.Proofs.YtdbcbbiplkikcaaGreat
open Go.RowKit Go.ChangeShapes Go.WideShapes Go.Deep
set_option linter.unusedVariables false

theorem add_none (b off k : Nat) (s : Option Nat) (hs : s = none) : (⟨b, off, none⟩ : Addr).add k = ⟨b, off + k, none⟩ := by
  by_cases h0 : k = 0
  · subst h0; simp [Addr.add]
  · simp [Addr.add, h0]

end Go.Proofs.YtdbcbbiplkikcaaGreat

namespace Go.Proofs.YtdbcbbiplkikcaaGreat
set_option linter.unusedVariables false

structure Fct where
  num : Int
  kind : Int
  day : Int
  id : Int
  qty : Int
deriving Inhabited, DecidableEq

def swapF {α : Type} (f : Nat → α) (i j : Nat) : Nat → α := fun k => if k = i then f j else if k = j then f i else f k
theorem swapF_left {α : Type} (f : Nat → α) (i j : Nat) : swapF f i j i = f j := by unfold swapF; rw [if_pos rfl]
theorem swapF_right {α : Type} (f : Nat → α) (i j : Nat) : swapF f i j j = f i := by
  unfold swapF
  by_cases e : j = i
  · rw [if_pos e, e]
  · rw [if_neg e, if_pos rfl]
theorem swapF_other {α : Type} (f : Nat → α) (i j k : Nat) (h1 : k ≠ i) (h2 : k ≠ j) : swapF f i j k = f k := by unfold swapF; rw [if_neg h1, if_neg h2]

inductive Swaps {α : Type} (a b : Nat) (f : Nat → α) : (Nat → α) → Prop
  | refl : Swaps a b f f
  | step {g : Nat → α} (i j : Nat) : Swaps a b f g → a ≤ i → i < b → a ≤ j → j < b → Swaps a b f (swapF g i j)
section
variable {α : Type} {a b : Nat} {f g h : Nat → α}
theorem Swaps.trans (h1 : Swaps a b f g) (h2 : Swaps a b g h) : Swaps a b f h := by
  induction h2 with
  | refl => exact h1
  | step i j _ p q r s ih => exact .step i j ih p q r s
theorem Swaps.mono {a' b' : Nat} (h1 : Swaps a b f g) (ha : a' ≤ a) (hb : b ≤ b') : Swaps a' b' f g := by
  induction h1 with
  | refl => exact .refl
  | step i j _ p q r s ih => exact .step i j ih (by omega) (by omega) (by omega) (by omega)
theorem Swaps.out (h1 : Swaps a b f g) (k : Nat) (hk : k < a ∨ b ≤ k) : g k = f k := by
  induction h1 with
  | refl => rfl
  | step i j _ p q r s ih => rw [swapF_other _ _ _ _ (by omega) (by omega), ih]
theorem Swaps.in_ (h1 : Swaps a b f g) : ∀ k, a ≤ k → k < b → ∃ k', a ≤ k' ∧ k' < b ∧ g k = f k' := by
  induction h1 with
  | refl => exact fun k h2 h3 => ⟨k, h2, h3, rfl⟩
  | step i j _ p q r s ih =>
    intro k h2 h3
    by_cases e1 : k = i
    · subst e1; rw [swapF_left]; exact ih j r s
    · by_cases e2 : k = j
      · subst e2; rw [swapF_right]; exact ih i p q
      · rw [swapF_other _ _ _ _ e1 e2]; exact ih k h2 h3
theorem range_swap_perm (n i j : Nat) (f : Nat → α) (hi : i < n) (hj : j < n) : ((List.range n).map (swapF f i j)).Perm ((List.range n).map f) := by
  have hb : (List.range n).map (swapF f i j) = ((List.range n).map (swapF id i j)).map f := by
    rw [List.map_map]
    apply List.map_congr_left
    intro k _
    unfold swapF
    simp only [Function.comp, id]
    split
    · rfl
    · split <;> rfl
  rw [hb]
  refine List.Perm.map f ?_
  have nd : ((List.range n).map (swapF id i j)).Nodup := by
    rw [List.Nodup, List.pairwise_map]
    refine List.Pairwise.imp_of_mem ?_ (List.nodup_range (n := n))
    intro x y hx hy hne e
    apply hne
    unfold swapF at e
    simp only [id] at e
    split at e <;> split at e <;> (try split at e) <;> (try split at e) <;> omega
  refine (List.perm_ext_iff_of_nodup nd List.nodup_range).2 ?_
  intro x
  simp only [List.mem_map, List.mem_range]
  constructor
  · rintro ⟨y, hy, rfl⟩
    unfold swapF
    simp only [id]
    split
    · exact hj
    · split
      · exact hi
      · exact hy
  · intro hx
    by_cases e1 : x = i
    · subst e1; exact ⟨j, hj, by rw [swapF_right]; rfl⟩
    · by_cases e2 : x = j
      · subst e2; exact ⟨i, hi, by rw [swapF_left]; rfl⟩
      · exact ⟨x, hx, by rw [swapF_other _ _ _ _ e1 e2]; rfl⟩
theorem Swaps.perm {n : Nat} (h1 : Swaps 0 n f g) : ((List.range n).map g).Perm ((List.range n).map f) := by
  induction h1 with
  | refl => exact List.Perm.refl _
  | step i j _ p q r s ih => exact (range_swap_perm n i j _ q s).trans ih
end

def Srt (a b : Nat) (f : Nat → Fct) : Prop := ∀ i j, a ≤ i → i < j → j < b → (f i).day ≤ (f j).day
theorem Srt.mono {a b a' b' : Nat} {f : Nat → Fct} (h : Srt a b f) (ha : a ≤ a') (hb : b' ≤ b) : Srt a' b' f := fun i j h1 h2 h3 => h i j (by omega) h2 (by omega)
theorem Srt.le {a b : Nat} {f : Nat → Fct} (h : Srt a b f) {i j : Nat} (h1 : a ≤ i) (h2 : i ≤ j) (h3 : j < b) : (f i).day ≤ (f j).day := by
  rcases Nat.lt_or_ge i j with e | e
  · exact h i j h1 e h3
  · obtain rfl : i = j := by omega
    omega
theorem Srt.congr {a b : Nat} {f g : Nat → Fct} (h : Srt a b f) (e : ∀ k, a ≤ k → k < b → g k = f k) : Srt a b g := fun i j h1 h2 h3 => by
  rw [e i h1 (by omega), e j (by omega) h3]; exact h i j h1 h2 h3
theorem Srt.one {a b : Nat} {f : Nat → Fct} (h : b ≤ a + 1) : Srt a b f := fun i j h1 h2 h3 => by omega

/-! ### Insertion -/
def Ins (a i j : Nat) (g : Nat → Fct) : Prop := (∀ p q, a ≤ p → p < q → q ≤ i → p ≠ j → q ≠ j → (g p).day ≤ (g q).day) ∧ ∀ q, j < q → q ≤ i → (g j).day ≤ (g q).day
theorem Ins.start {a i : Nat} {g : Nat → Fct} (h : Srt a i g) : Ins a i i g := ⟨fun p q h1 h2 h3 h4 h5 => h p q h1 h2 (by omega), fun q h1 h2 => by omega⟩
theorem Ins.step {a i j : Nat} {g : Nat → Fct} (h : Ins a i j g) (ha : a < j) (hj : j ≤ i) (hlt : (g j).day < (g (j - 1)).day) : Ins a i (j - 1) (swapF g j (j - 1)) := by
  refine ⟨fun p q h1 h2 h3 h4 h5 => ?_, fun q h1 h2 => ?_⟩
  · by_cases e1 : p = j
    · subst e1
      rw [swapF_left, swapF_other _ _ _ _ (by omega) (by omega)]
      exact h.1 (p - 1) q (by omega) (by omega) h3 (by omega) (by omega)
    · by_cases e2 : q = j
      · subst e2
        rw [swapF_left, swapF_other _ _ _ _ (by omega) (by omega)]
        exact h.1 p (q - 1) h1 (by omega) (by omega) (by omega) (by omega)
      · rw [swapF_other _ _ _ _ e1 h4, swapF_other _ _ _ _ e2 h5]
        exact h.1 p q h1 h2 h3 e1 e2
  · rw [swapF_right]
    by_cases e : q = j
    · subst e; rw [swapF_left]; omega
    · rw [swapF_other _ _ _ _ e (by omega)]; exact h.2 q (by omega) h2
theorem Ins.done {a i j : Nat} {g : Nat → Fct} (h : Ins a i j g) (hj : j ≤ i) (he : j = a ∨ ¬ (g j).day < (g (j - 1)).day) (ha : a ≤ j) : Srt a (i + 1) g := by
  intro p q h1 h2 h3
  by_cases e1 : p = j
  · subst e1; exact h.2 q h2 (by omega)
  · by_cases e2 : q = j
    · subst e2
      rcases he with e | e
      · omega
      · by_cases e3 : p = q - 1
        · subst e3; omega
        · have := h.1 p (q - 1) h1 (by omega) (by omega) e1 (by omega); omega
    · exact h.1 p q h1 h2 (by omega) e1 e2

/-! ### Exchange of two ranges, rotation -/
def swapR (f : Nat → Fct) (a b n : Nat) : Nat → Fct := fun j => if a ≤ j ∧ j < a + n then f (j - a + b) else if b ≤ j ∧ j < b + n then f (j - b + a) else f j
theorem swapR_zero (f : Nat → Fct) (a b : Nat) : swapR f a b 0 = f := by
  funext j; unfold swapR; rw [if_neg (by omega), if_neg (by omega)]
theorem swapR_succ (f : Nat → Fct) (a b n : Nat) (h : a + n < b) : swapR f a b (n + 1) = swapF (swapR f a b n) (a + n) (b + n) := by
  funext j
  unfold swapF
  by_cases e1 : j = a + n
  · subst e1
    rw [if_pos rfl]
    unfold swapR
    rw [if_pos (by omega), if_neg (by omega), if_neg (by omega)]
    congr 1; omega
  · rw [if_neg e1]
    by_cases e2 : j = b + n
    · subst e2
      rw [if_pos rfl]
      unfold swapR
      rw [if_neg (by omega), if_pos (by omega), if_neg (by omega), if_neg (by omega)]
      congr 1; omega
    · rw [if_neg e2]
      unfold swapR
      by_cases e3 : a ≤ j ∧ j < a + n
      · rw [if_pos (by omega), if_pos e3]
      · rw [if_neg (by omega), if_neg e3]
        by_cases e4 : b ≤ j ∧ j < b + n
        · rw [if_pos (by omega), if_pos e4]
        · rw [if_neg (by omega), if_neg e4]
def rotF (f : Nat → Fct) (a m b : Nat) : Nat → Fct := fun j => if a ≤ j ∧ j < b then (if j < a + (b - m) then f (j + (m - a)) else f (j - (b - m))) else f j
theorem rot_gt (f : Nat → Fct) (m i j : Nat) (hi : i ≤ m) (h : j < i) : rotF (swapR f (m - i) m j) (m - (i - j)) m (m + j) = rotF f (m - i) m (m + j) := by
  funext k
  unfold rotF swapR
  by_cases c1 : m - i ≤ k ∧ k < m + j
  · rw [if_pos (show m - i ≤ k ∧ k < m + j from c1)]
    by_cases c2 : k < m - i + (m + j - m)
    · rw [if_pos c2, if_neg (show ¬ (m - (i - j) ≤ k ∧ k < m + j) by omega), if_pos (by omega)]
      congr 1; omega
    · rw [if_neg c2, if_pos (by omega)]
      by_cases c3 : k < m - (i - j) + (m + j - m)
      · rw [if_pos c3, if_neg (by omega), if_pos (by omega)]
        congr 1; omega
      · rw [if_neg c3, if_neg (by omega), if_neg (by omega)]
  · rw [if_neg c1, if_neg (by omega), if_neg (by omega), if_neg (by omega)]
theorem rot_lt (f : Nat → Fct) (m i j : Nat) (hi : i ≤ m) (h : i < j) : rotF (swapR f (m - i) (m + j - i) i) (m - i) m (m + (j - i)) = rotF f (m - i) m (m + j) := by
  funext k
  unfold rotF swapR
  by_cases c1 : m - i ≤ k ∧ k < m + j
  · rw [if_pos (show m - i ≤ k ∧ k < m + j from c1)]
    by_cases c2 : k < m + (j - i)
    · rw [if_pos (show m - i ≤ k ∧ k < m + (j - i) by omega)]
      by_cases c3 : k < m - i + (m + (j - i) - m)
      · rw [if_pos c3, if_neg (by omega), if_neg (by omega), if_pos (by omega)]
      · rw [if_neg c3]
        by_cases c4 : k < m - i + (m + j - m)
        · rw [if_pos c4, if_pos (by omega)]
          congr 1; omega
        · omega
    · rw [if_neg (show ¬ (m - i ≤ k ∧ k < m + (j - i)) by omega), if_neg (by omega), if_pos (by omega), if_neg (by omega)]
      congr 1; omega
  · rw [if_neg c1, if_neg (by omega), if_neg (by omega), if_neg (by omega)]
theorem rot_eq (f : Nat → Fct) (m i : Nat) (hi : i ≤ m) : swapR f (m - i) m i = rotF f (m - i) m (m + i) := by
  funext k
  unfold rotF swapR
  by_cases c1 : m - i ≤ k ∧ k < m + i
  · rw [if_pos c1]
    by_cases c2 : k < m
    · rw [if_pos (by omega), if_pos (by omega)]; congr 1; omega
    · rw [if_neg (by omega), if_pos (by omega), if_neg (by omega)]; congr 1; omega
  · rw [if_neg (by omega), if_neg (by omega), if_neg c1]

/-! ### Merging -/
def mvR (f : Nat → Fct) (a e : Nat) : Nat → Fct := fun j => if a ≤ j ∧ j < e then f (j + 1) else if j = e then f a else f j
theorem mvR_zero (f : Nat → Fct) (a : Nat) : mvR f a a = f := by
  funext j; unfold mvR; rw [if_neg (by omega)]; split
  · rename_i h; rw [h]
  · rfl
theorem mvR_succ (f : Nat → Fct) (a e : Nat) (h : a ≤ e) : swapF (mvR f a e) e (e + 1) = mvR f a (e + 1) := by
  funext j
  by_cases e1 : j = e
  · subst e1; rw [swapF_left]; unfold mvR; rw [if_neg (by omega), if_neg (by omega), if_pos (by omega)]
  · by_cases e2 : j = e + 1
    · subst e2; rw [swapF_right]; unfold mvR; rw [if_neg (by omega), if_pos rfl, if_neg (by omega), if_pos rfl]
    · rw [swapF_other _ _ _ _ e1 e2]; unfold mvR
      by_cases c : a ≤ j ∧ j < e
      · rw [if_pos c, if_pos (by omega)]
      · rw [if_neg c, if_neg e1, if_neg (by omega), if_neg e2]
theorem mvR_srt {a b i : Nat} {f : Nat → Fct} (hs : Srt (a + 1) b f) (hi : a + 1 ≤ i) (hib : i ≤ b) (h1 : ∀ q, a + 1 ≤ q → q < i → (f q).day < (f a).day) (h2 : ∀ q, i ≤ q → q < b → (f a).day ≤ (f q).day) : Srt a b (mvR f a (i - 1)) := by
  intro p q hp hpq hq
  unfold mvR
  by_cases c1 : a ≤ p ∧ p < i - 1
  · rw [if_pos c1]
    by_cases c2 : a ≤ q ∧ q < i - 1
    · rw [if_pos c2]; exact hs _ _ (by omega) (by omega) (by omega)
    · rw [if_neg c2]
      by_cases c3 : q = i - 1
      · rw [if_pos c3]; have := h1 (p + 1) (by omega) (by omega); omega
      · rw [if_neg c3]; exact hs _ _ (by omega) (by omega) (by omega)
  · rw [if_neg c1, if_neg (show ¬ (a ≤ q ∧ q < i - 1) by omega)]
    by_cases c3 : p = i - 1
    · rw [if_pos c3, if_neg (by omega)]; exact h2 q (by omega) hq
    · rw [if_neg c3, if_neg (by omega)]; exact hs _ _ (by omega) hpq hq
def mvL (f : Nat → Fct) (m e : Nat) : Nat → Fct := fun j => if j = e then f m else if e < j ∧ j ≤ m then f (j - 1) else f j
theorem mvL_zero (f : Nat → Fct) (m : Nat) : mvL f m m = f := by
  funext j; unfold mvL; split
  · rename_i h; rw [h]
  · rw [if_neg (by omega)]
theorem mvL_succ (f : Nat → Fct) (m e : Nat) (h : e ≤ m) (h0 : 0 < e) : swapF (mvL f m e) e (e - 1) = mvL f m (e - 1) := by
  funext j
  by_cases e1 : j = e
  · subst e1; rw [swapF_left]; unfold mvL; rw [if_neg (by omega), if_neg (by omega), if_neg (by omega), if_pos (by omega)]
  · by_cases e2 : j = e - 1
    · subst e2; rw [swapF_right]; unfold mvL; rw [if_pos rfl, if_pos rfl]
    · rw [swapF_other _ _ _ _ e1 e2]; unfold mvL
      rw [if_neg e1, if_neg e2]
      by_cases c : e < j ∧ j ≤ m
      · rw [if_pos c, if_pos (by omega)]
      · rw [if_neg c, if_neg (by omega)]
theorem mvL_srt {a m i : Nat} {f : Nat → Fct} (hs : Srt a m f) (hi : a ≤ i) (him : i ≤ m) (h1 : ∀ q, a ≤ q → q < i → (f q).day ≤ (f m).day) (h2 : ∀ q, i ≤ q → q < m → (f m).day < (f q).day) : Srt a (m + 1) (mvL f m i) := by
  intro p q hp hpq hq
  unfold mvL
  by_cases c1 : p = i
  · rw [if_pos c1, if_neg (by omega), if_pos (by omega)]; have := h2 (q - 1) (by omega) (by omega); omega
  · rw [if_neg c1]
    by_cases c2 : q = i
    · rw [if_pos c2, if_neg (by omega)]; exact h1 p hp (by omega)
    · rw [if_neg c2]
      by_cases c3 : i < p ∧ p ≤ m
      · rw [if_pos c3, if_pos (by omega)]; exact hs _ _ (by omega) (by omega) (by omega)
      · rw [if_neg c3]
        by_cases c4 : i < q ∧ q ≤ m
        · rw [if_pos c4]
          exact hs.le (by omega) (by omega) (by omega)
        · rw [if_neg c4]; exact hs _ _ hp hpq (by omega)
def SymLo (a m b mid lo r0 : Nat) : Prop := (mid < m ∧ lo = mid + m - b ∧ r0 = mid) ∨ (m ≤ mid ∧ lo = a ∧ r0 = m)
def SymA (f : Nat → Fct) (n lo s : Nat) : Prop := ∀ c, lo ≤ c → c < s → (f c).day ≤ (f (n - 1 - c)).day
def SymB (f : Nat → Fct) (n r r0 : Nat) : Prop := ∀ c, r ≤ c → c < r0 → (f (n - 1 - c)).day < (f c).day
section
variable {a m b mid lo r0 : Nat} {f : Nat → Fct}
theorem sym_bounds (hm : mid = (a + b) / 2) (h1 : a + 2 ≤ m) (h2 : m + 2 ≤ b) (hl : SymLo a m b mid lo r0) : a ≤ lo ∧ lo ≤ r0 ∧ r0 ≤ m ∧ r0 ≤ mid ∧ mid + m - b ≤ lo ∧ a < mid ∧ mid < b := by
  unfold SymLo at hl; omega
theorem symA_step (hm : mid = (a + b) / 2) (h1 : a + 2 ≤ m) (h2 : m + 2 ≤ b) (hl : SymLo a m b mid lo r0) (hs1 : Srt a m f) (hs2 : Srt m b f) {c : Nat} (hc : c < r0) (hlc : lo ≤ c) (ht : ¬ (f (mid + m - 1 - c)).day < (f c).day) : SymA f (mid + m) lo (c + 1) := by
  have hb := sym_bounds hm h1 h2 hl
  intro x hx hxc
  have e1 := hs1.le (i := x) (j := c) (by omega) (by omega) (by omega)
  have e2 := hs2.le (i := mid + m - 1 - c) (j := mid + m - 1 - x) (by omega) (by omega) (by omega)
  omega
theorem symB_step (hm : mid = (a + b) / 2) (h1 : a + 2 ≤ m) (h2 : m + 2 ≤ b) (hl : SymLo a m b mid lo r0) (hs1 : Srt a m f) (hs2 : Srt m b f) {c : Nat} (hc : c < r0) (hlc : lo ≤ c) (ht : (f (mid + m - 1 - c)).day < (f c).day) : SymB f (mid + m) c r0 := by
  have hb := sym_bounds hm h1 h2 hl
  intro x hx hxc
  have e1 := hs1.le (i := c) (j := x) (by omega) (by omega) (by omega)
  have e2 := hs2.le (i := mid + m - 1 - x) (j := mid + m - 1 - c) (by omega) (by omega) (by omega)
  omega
theorem sym_rot (hm : mid = (a + b) / 2) (h1 : a + 2 ≤ m) (h2 : m + 2 ≤ b) (hl : SymLo a m b mid lo r0) (hs1 : Srt a m f) (hs2 : Srt m b f) {s : Nat} (hs : lo ≤ s) (hsr : s ≤ r0) (hA : SymA f (mid + m) lo s) (hB : SymB f (mid + m) s r0) {e : Nat} (he : e = mid + m - s) :
    m ≤ e ∧ e ≤ b ∧ mid ≤ e ∧ Srt a s (rotF f s m e) ∧ Srt s mid (rotF f s m e) ∧ Srt mid e (rotF f s m e) ∧ Srt e b (rotF f s m e) ∧ ∀ x y, a ≤ x → x < mid → mid ≤ y → y < b → (rotF f s m e x).day ≤ (rotF f s m e y).day := by
  have hb := sym_bounds hm h1 h2 hl
  have g1 : ∀ x, x < s → rotF f s m e x = f x := fun x hx => by unfold rotF; rw [if_neg (by omega)]
  have g2 : ∀ x, s ≤ x → x < mid → rotF f s m e x = f (x + (m - s)) := fun x hx hy => by unfold rotF; rw [if_pos (by omega), if_pos (by omega)]
  have g3 : ∀ x, mid ≤ x → x < e → rotF f s m e x = f (x - (mid - s)) := fun x hx hy => by unfold rotF; rw [if_pos (by omega), if_neg (by omega)]; congr 1; omega
  have g4 : ∀ x, e ≤ x → rotF f s m e x = f x := fun x hx => by unfold rotF; rw [if_neg (by omega)]
  refine ⟨by omega, by unfold SymLo at hl; omega, by omega, fun i j h3 h4 h5 => ?_, fun i j h3 h4 h5 => ?_, fun i j h3 h4 h5 => ?_, fun i j h3 h4 h5 => ?_, fun x y h3 h4 h5 h6 => ?_⟩
  · rw [g1 i (by omega), g1 j h5]; exact hs1 i j h3 h4 (by omega)
  · rw [g2 i h3 (by omega), g2 j (by omega) h5]; exact hs2 _ _ (by omega) (by omega) (by unfold SymLo at hl; omega)
  · rw [g3 i h3 (by omega), g3 j (by omega) h5]; exact hs1 _ _ (by omega) (by omega) (by omega)
  · rw [g4 i h3, g4 j (by omega)]; exact hs2 _ _ (by omega) h4 h5
  · rcases Nat.lt_or_ge x s with cx | cx
    · rw [g1 x cx]
      rcases Nat.lt_or_ge y e with cy | cy
      · rw [g3 y h5 cy]; exact hs1.le h3 (by omega) (by omega)
      · rw [g4 y cy]
        -- u1 against v2
        by_cases c0 : lo ≤ s - 1
        · have k1 := hs1.le (i := x) (j := s - 1) h3 (by omega) (by omega)
          have k2 := hA (s - 1) c0 (by omega)
          have k3 := hs2.le (i := mid + m - 1 - (s - 1)) (j := y) (by omega) (by omega) h6
          omega
        · unfold SymLo at hl; omega
    · rw [g2 x cx h4]
      rcases Nat.lt_or_ge y e with cy | cy
      · rw [g3 y h5 cy]
        by_cases c0 : s < r0
        · have k1 := hs2.le (i := x + (m - s)) (j := mid + m - 1 - s) (by omega) (by omega) (by unfold SymLo at hl; omega)
          have k2 := hB s (Nat.le_refl _) c0
          have k3 := hs1.le (i := s) (j := y - (mid - s)) (by omega) (by omega) (by omega)
          omega
        · unfold SymLo at hl; omega
      · rw [g4 y cy]; exact hs2.le (by omega) (by omega) h6
end
theorem sym_final {a mid b : Nat} {g g1 g2 : Nat → Fct} (h1 : Swaps a mid g g1) (h2 : Swaps mid b g1 g2) (s1 : Srt a mid g1) (s2 : Srt mid b g2) (hc : ∀ x y, a ≤ x → x < mid → mid ≤ y → y < b → (g x).day ≤ (g y).day) : Srt a b g2 := by
  intro i j hi hij hj
  rcases Nat.lt_or_ge j mid with c | c
  · rw [h2.out i (.inl (by omega)), h2.out j (.inl c)]; exact s1 i j hi hij c
  · rcases Nat.lt_or_ge i mid with c2 | c2
    · rw [h2.out i (.inl c2)]
      obtain ⟨j', a1, a2, a3⟩ := h2.in_ j c hj
      obtain ⟨i', b1, b2, b3⟩ := h1.in_ i hi c2
      rw [a3, b3, h1.out j' (.inr a1)]
      exact hc i' j' b1 b2 a1 a2
    · exact s2 i j c2 hij hj

/-! ### Blocks -/
def Blks (bs lo n : Nat) (f : Nat → Fct) : Prop := ∀ t, lo ≤ t * bs → Srt (t * bs) (min (t * bs + bs) n) f
def Bef (bs t n : Nat) (f : Nat → Fct) : Prop := ∀ k, k < t → Srt (k * bs) (min (k * bs + bs) n) f
theorem Bef.zero (bs n : Nat) (f : Nat → Fct) : Bef bs 0 n f := fun k hk => by omega
theorem Bef.succ {bs t n : Nat} {f g : Nat → Fct} (h : Bef bs t n f) (hs : Srt (t * bs) (min (t * bs + bs) n) g) (hg : ∀ k, k < t * bs → g k = f k) : Bef bs (t + 1) n g := fun k hk => by
  by_cases e : k = t
  · subst e; exact hs
  · have hkt : k < t := by omega
    have : k * bs + bs ≤ t * bs := by
      calc k * bs + bs = (k + 1) * bs := (Nat.succ_mul k bs).symm
        _ ≤ t * bs := Nat.mul_le_mul_right bs hkt
    exact (h k hkt).congr fun x h1 h2 => hg x (by omega)
theorem Bef.all {bs t n : Nat} {f : Nat → Fct} (h : Bef bs t n f) (ht : n ≤ t * bs) : Blks bs 0 n f := fun k _ => by
  by_cases e : k < t
  · exact h k e
  · have : t * bs ≤ k * bs := Nat.mul_le_mul_right bs (by omega)
    exact Srt.one (by omega)
theorem Blks.keep {bs lo lo' n : Nat} {f g : Nat → Fct} (h : Blks bs lo n f) (hl : lo ≤ lo') (hg : ∀ k, lo' ≤ k → g k = f k) : Blks bs lo' n g := fun t ht =>
  (h t (by omega)).congr fun k h1 h2 => hg k (by omega)
theorem Blks.pair {bs lo n t : Nat} {f : Nat → Fct} (h : Blks bs lo n f) (hl : lo ≤ t * (2 * bs)) : Srt (t * (2 * bs)) (min (t * (2 * bs) + bs) n) f ∧ Srt (t * (2 * bs) + bs) (min (t * (2 * bs) + 2 * bs) n) f := by
  have e1 : t * (2 * bs) = (2 * t) * bs := by rw [← Nat.mul_assoc, Nat.mul_comm t 2]
  have e2 : t * (2 * bs) + bs = (2 * t + 1) * bs := by rw [e1]; exact (Nat.succ_mul (2 * t) bs).symm
  refine ⟨?_, ?_⟩
  · have := h (2 * t) (by rw [← e1]; exact hl)
    rw [← e1] at this; exact this
  · have := h (2 * t + 1) (by rw [← e2]; omega)
    rw [← e2, show t * (2 * bs) + bs + bs = t * (2 * bs) + 2 * bs by omega] at this; exact this
theorem Blks.whole {bs n : Nat} {f : Nat → Fct} (h : Blks bs 0 n f) (hn : n ≤ bs) : Srt 0 n f := by
  have := h 0 (Nat.zero_le _)
  rw [Nat.zero_mul, Nat.zero_add, Nat.min_eq_right hn] at this
  exact this
end Go.Proofs.YtdbcbbiplkikcaaGreat

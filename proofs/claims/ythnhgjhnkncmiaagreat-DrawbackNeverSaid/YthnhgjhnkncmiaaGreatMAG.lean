/-
  Words for memory: records, rows of the call's own; slices, charges, lots, claims in memory. No statement of the seat is proved here. No conditions.
  Contracts of the reference's goodSlice, meet, Meet, Valid and count (customsref24). No statement of the seat is proved here. Conditions: the lists read as slices of sources.
  Contracts of the reference's Valid and count (customsref24). No statement of the seat is proved here. Conditions: the lists read as slices of sources.
  The contract of the reference's join (customsref24). No statement of the seat is proved here. Conditions: the list reads as slices of sources, at most 100000 of them.
-/
import Derived.Test.YthnhgjhnkncmiaaGreatMAE
import Derived.Test.YthnhgjhnkncmiaaGreatMAB
import Derived.Deep.RegionHeld3
import Derived.Deep.RegionLaw
import Derived.Deep.DeepCutAuto
import Derived.StillTailTactics
namespace Go.Proofs.YthnhgjhnkncmiaaGreat
open Go.RowKit
set_option linter.unusedVariables false

def BRes (w : World) (b : Bool) (e : Ending) (w' : World) : Prop := e = .returned (.bool b) ∧ RowKit.Below w.heap.size w w'
def ERes (w : World) (er : Int) (e : Ending) (w' : World) : Prop := e = .returned (.int .i64 er) ∧ RowKit.Below w.heap.size w w'
def Plain (A : Option Addr) : Prop := A = none ∨ ∃ b off, A = some ⟨b, off, none⟩
theorem Recs.cells {α : Type} [Inhabited α] {enc : α → List Value} {k : Nat} (hk : ∀ x, (enc x).length = k) (hk0 : 0 < k) {w : World} {b off n : Nat} {xs : List α} (h : Recs enc k w (some ⟨b, off, none⟩) n xs) : ∀ j u, (flat enc xs)[j]? = some u → w.cell? ⟨b, off + j, none⟩ = some u := by
  intro j u hu
  have hl : (flat enc xs).length = n * k := by rw [flat_length hk, h.1]
  have hj : j < n * k := by
    rcases Nat.lt_or_ge j (n * k) with h1 | h1
    · exact h1
    · rw [List.getElem?_eq_none (by omega)] at hu; cases hu
  have hjk : j / k < n := (Nat.div_lt_iff_lt_mul hk0).2 hj
  have e1 : j / k * k + j % k = j := by have := Nat.div_add_mod j k; rw [Nat.mul_comm] at this; exact this
  have h2 := flat_get hk xs (j / k) (j % k) (by rw [h.1]; exact hjk) (Nat.mod_lt _ hk0)
  rw [e1, hu] at h2
  injection h2 with h2
  obtain ⟨b', off', e, hb, hc⟩ := h.2 (Nat.lt_of_le_of_lt (Nat.zero_le _) hjk)
  injection e with e
  injection e with e3 e4
  subst e3 e4
  have h3 := hc (j / k) hjk (j % k) (Nat.mod_lt _ hk0)
  rw [Nat.add_assoc, e1] at h3
  rw [h3, h2]
/-- A slice that reads as records, with a plain address. -/
structure RRd {α : Type} [Inhabited α] (enc : α → List Value) (k : Nat) (w : World) (A : Option Addr) (n : Nat) (xs : List α) : Prop where
  recs : Recs enc k w A n xs
  plain : Plain A
  nil : A = none → n = 0
section
variable {α : Type} [Inhabited α] {enc : α → List Value} {k n c : Nat} {w w' : World} {A : Option Addr} {xs : List α}
theorem RRd.below (h : RRd enc k w A n xs) (hb : RowKit.Below w.heap.size w w') : RRd enc k w' A n xs := ⟨h.recs.below hb, h.plain, h.nil⟩
theorem RRd.empty (enc : α → List Value) (k : Nat) (w : World) : RRd enc k w none 0 [] := ⟨Recs.nil, .inl rfl, fun _ => rfl⟩
theorem RRd.own {N : Nat} {T : TypeId} (hk : ∀ x, (enc x).length = k) (h : w.ownsRow N T k (.slice A n c) n (flat enc xs)) (hl : xs.length = n) : RRd enc k w A n xs := by
  refine ⟨Recs.of_own hk h hl, ?_, ?_⟩
  · rcases h.2 with ⟨hv, h0⟩ | ⟨g', cap, cur, hv, _⟩
    · injection hv with h5; exact .inl h5
    · injection hv with h5; exact .inr ⟨g', 0, h5⟩
  · rintro rfl
    rcases h.2 with ⟨hv, h0⟩ | ⟨g', cap, cur, hv, _⟩
    · exact h0
    · injection hv with h5; cases h5
theorem RRd.of_block (h : RRd enc k w A n xs) (hs : w.heap.size ≤ w'.heap.size) (hb : ∀ b, (Value.slice A n c).ownBlock = some b → w'.heap[b]? = w.heap[b]?) : RRd enc k w' A n xs := by
  refine ⟨⟨h.recs.1, fun h0 => ?_⟩, h.plain, h.nil⟩
  obtain ⟨b, off, e, hb', hc⟩ := h.recs.2 h0
  refine ⟨b, off, e, by omega, fun i hi c' hcc => ?_⟩
  rw [← hc i hi c' hcc]
  exact World.cell?_of_block (a := ⟨b, off + i * k + c', none⟩) (hb b (by rw [e]; rfl))
end

theorem own_boundsF {w : World} {base n c : Nat} {A : Option Addr} {e : TypeId} {size : Nat} {xs : List Value} (h : w.ownsRow base e size (.slice A n c) n xs) : n ≤ c ∧ c ≤ 9223372036854775807 := by
  rcases h.2 with ⟨hv, h0⟩ | ⟨g, cap, cur, hv, _, _, h1, h2, _⟩
  · injection hv with _ _ h3; omega
  · injection hv with _ _ h3; unfold maxLen at h2; omega
theorem own_lenK {α : Type} {enc : α → List Value} {k : Nat} (hk : ∀ x, (enc x).length = k) (hk0 : 0 < k) {w : World} {N : Nat} {T : TypeId} {A : Option Addr} {n c : Nat} {xs : List α} (h : w.ownsRow N T k (.slice A n c) n (flat enc xs)) : xs.length = n := by
  have h1 := h.1
  rw [flat_length hk] at h1
  exact Nat.eq_of_mul_eq_mul_right hk0 h1
theorem own_diff {w : World} {N M : Nat} {T U : TypeId} {k l n m : Nat} {u v : Value} {xs ys : List Value} (h : w.ownsRow N T k u n xs) (h' : w.ownsRow M U l v m ys) (hne : T ≠ U) : ∀ g, u.ownBlock = some g → some g ≠ v.ownBlock := by
  intro g hg e
  rcases h.2 with ⟨hv, _⟩ | ⟨g1, c1, r1, hv, _, hh, _⟩
  · rw [hv] at hg; cases hg
  · rw [hv] at hg
    have e1 : g1 = g := by simpa [Value.ownBlock] using hg
    rcases h'.2 with ⟨hv', _⟩ | ⟨g2, c2, r2, hv', _, hh', _⟩
    · rw [hv'] at e; cases e
    · rw [hv'] at e
      have e2 : g = g2 := by simpa [Value.ownBlock] using e
      subst e1 e2
      rw [hh] at hh'
      injection hh' with hh'
      injection hh' with _ h4
      exact hne h4
theorem flat_set {α : Type} [Inhabited α] {enc : α → List Value} {k : Nat} (hk : ∀ x, (enc x).length = k) {v : Value} {y : α} {c : Nat} (hc : c < k) : ∀ (xs : List α) (i : Nat), i < xs.length → enc y = (enc xs[i]!).set c v → flat enc (xs.set i y) = (flat enc xs).set (i * k + c) v := by
  intro xs
  induction xs with
  | nil => intro i h; cases h
  | cons x xs ih =>
    intro i h e
    cases i with
    | zero =>
      have e' : enc y = (enc x).set c v := e
      show enc y ++ flat enc xs = (enc x ++ flat enc xs).set (0 * k + c) v
      rw [Nat.zero_mul, Nat.zero_add, List.set_append_left _ _ (by rw [hk]; exact hc), e']
    | succ i =>
      have hi : i < xs.length := by simpa using h
      have e' : enc y = (enc xs[i]!).set c v := by simpa using e
      show enc x ++ flat enc (xs.set i y) = (enc x ++ flat enc xs).set ((i + 1) * k + c) v
      have h1 : (i + 1) * k + c = k + (i * k + c) := by rw [Nat.add_mul, Nat.one_mul]; omega
      rw [h1, List.set_append_right _ _ (by rw [hk]; omega), hk, Nat.add_sub_cancel_left, ih i hi e']
theorem own_setK {α : Type} [Inhabited α] {enc : α → List Value} {k : Nat} (hk : ∀ x, (enc x).length = k) {w : World} {N : Nat} {T : TypeId} {g n cap : Nat} {xs : List α} {v : Value} {y : α} {c i : Nat} (h : w.ownsRow N T k (.slice (some ⟨g, 0, none⟩) n cap) n (flat enc xs)) (hc : c < k) (hi : i < xs.length) (e : enc y = (enc xs[i]!).set c v) :
    (w.setCell ⟨g, i * k + c, none⟩ v).ownsRow N T k (.slice (some ⟨g, 0, none⟩) n cap) n (flat enc (xs.set i y)) := by
  rw [flat_set hk hc xs i hi e]
  exact (h.stored (i * k + c) v).1
/-- An owned row with an element has an address. -/
theorem own_addr {w : World} {N : Nat} {T : TypeId} {k n cap : Nat} {A : Option Addr} {xs : List Value} (h : w.ownsRow N T k (.slice A n cap) n xs) (hn : 0 < n) : ∃ g, A = some ⟨g, 0, none⟩ := by
  rcases h.2 with ⟨_, h0⟩ | ⟨g, c', cur, hv, _⟩
  · omega
  · injection hv with h5; exact ⟨g, h5⟩
theorem own_cellK {α : Type} [Inhabited α] {enc : α → List Value} {k : Nat} (hk : ∀ x, (enc x).length = k) {w : World} {N : Nat} {T : TypeId} {g n cap : Nat} {xs : List α} (h : w.ownsRow N T k (.slice (some ⟨g, 0, none⟩) n cap) n (flat enc xs)) {i c : Nat} (hi : i < xs.length) (hc : c < k) (hn : xs.length = n) : w.cell? ⟨g, i * k + c, none⟩ = some ((enc xs[i]!)[c]!) := by
  rw [h.cellAt (i * k + c) (by rw [← hn]; have := Nat.mul_le_mul_right k hi; rw [Nat.succ_mul] at this; omega), flat_get hk xs i c hi hc]
theorem get_setK {α : Type} [Inhabited α] (xs : List α) (i j : Nat) (y : α) (hi : i < xs.length) : (xs.set i y)[j]! = if i = j then y else xs[j]! := by
  by_cases e : i = j
  · subst e; rw [if_pos rfl, getElem!_pos (xs.set i y) i (by simpa using hi)]; simp
  · rw [if_neg e]
    by_cases hj : j < xs.length
    · rw [getElem!_pos (xs.set i y) j (by simpa using hj), getElem!_pos xs j hj, List.getElem_set_ne e]
    · rw [getElem!_neg (xs.set i y) j (by simpa using hj), getElem!_neg xs j hj]
theorem rd_of_recs {α : Type} [Inhabited α] {enc : α → List Value} {k : Nat} (hk : ∀ x, (enc x).length = k) (hk0 : 0 < k) {w : World} {A : Option Addr} {n : Nat} {xs : List α} (h : Recs enc k w A n xs) : Rd w k A n (flat enc xs) := by
  refine ⟨by rw [flat_length hk, h.1], fun hn => ?_⟩
  obtain ⟨b, off, e, hb, _⟩ := h.2 hn
  subst e
  exact ⟨b, off, rfl, hb, Recs.cells hk hk0 h⟩
theorem rrd_of {α : Type} [Inhabited α] {enc : α → List Value} {k : Nat} {w : World} {A : Option Addr} {n : Nat} {xs : List α} (h : Recs enc k w A n xs) (hn : 0 < n) : RRd enc k w A n xs := by
  obtain ⟨b, off, rfl, _⟩ := h.2 hn
  exact ⟨h, .inr ⟨b, off, rfl⟩, fun e => by cases e⟩
theorem recs_lit {α : Type} [Inhabited α] {enc : α → List Value} {k : Nat} (hk : ∀ x, (enc x).length = k) {w : World} {g : Nat} {T : TypeId} {xs : List α} (h : Bl w g T (flat enc xs).toArray) : Recs enc k w (some ⟨g, 0, none⟩) xs.length xs := by
  refine ⟨rfl, fun _ => ⟨g, 0, rfl, h.lt, fun i hi c hc => ?_⟩⟩
  rw [h.cell, Nat.zero_add, List.getElem?_toArray, flat_get hk xs i c hi hc]
theorem own_lit {w : World} {g base : Nat} {t : TypeId} {size n : Nat} {xs : List Value} (h : Bl w g t xs.toArray) (hb : base ≤ g) (hl : xs.length = n * size) (hn : n ≤ 1000) : w.ownsRow base t size (.slice (some ⟨g, 0, none⟩) n n) n xs :=
  ⟨hl, .inr ⟨g, n, xs.toArray, rfl, hb, h, Nat.le_refl _, by unfold maxLen; omega, by simpa using hl, by simp [← hl]⟩⟩
/-- A cell of a record that came in. -/
theorem recs_at {α : Type} [Inhabited α] {enc : α → List Value} {k : Nat} {w : World} {A : Option Addr} {n : Nat} {xs : List α} (h : Recs enc k w A n xs) {i : Nat} (hi : i < n) : ∃ b off, A = some ⟨b, off, none⟩ ∧ b < w.heap.size ∧ Hid (∀ c, c < k → w.cell? ⟨b, off + i * k + c, none⟩ = some ((enc xs[i]!)[c]!)) := by
  obtain ⟨b, off, e, hb, hc⟩ := h.2 (by omega)
  exact ⟨b, off, e, hb, fun c hcc => hc i hi c hcc⟩

def encSl (x : Sl) : List Value := [.int .i64 x.src, .int .i64 x.fr, .int .i64 x.to]
theorem encSl_len (x : Sl) : (encSl x).length = 3 := rfl
theorem encSl_one (x : Sl) : ∀ v ∈ encSl x, v.oneCell' = true := fun v hv => by
  simp [encSl] at hv
  rcases hv with rfl | rfl | rfl <;> rfl
def encCh (x : Ch) : List Value := [.int .i64 x.src, .int .i64 x.un, .int .i64 x.am]
theorem encCh_len (x : Ch) : (encCh x).length = 3 := rfl
theorem encCh_one (x : Ch) : ∀ v ∈ encCh x, v.oneCell' = true := fun v hv => by
  simp [encCh] at hv
  rcases hv with rfl | rfl | rfl <;> rfl
/-- A lot in memory: its slices' address. -/
structure Lb where
  x : Lt
  A : Option Addr
  n : Nat
  c : Nat
deriving Inhabited
def encL (b : Lb) : List Value := [.int .i64 b.x.id, .string b.x.code, .int .i64 b.x.qty, .int .i64 b.x.proc, .slice b.A b.n b.c]
theorem encL_len (b : Lb) : (encL b).length = 5 := rfl
theorem encL_one (b : Lb) : ∀ v ∈ encL b, v.oneCell' = true := fun v hv => by
  simp [encL] at hv
  rcases hv with rfl | rfl | rfl | rfl | rfl <;> rfl
/-- A claim in memory. -/
structure Cb where
  x : Clm
  A : Option Addr
  n : Nat
  c : Nat
deriving Inhabited
def encCl (b : Cb) : List Value := [.int .i64 b.x.num, .int .i64 b.x.lot, .int .i64 b.x.sch, .int .i64 b.x.qty, .int .i64 b.x.rate, .slice b.A b.n b.c]
theorem encCl_len (b : Cb) : (encCl b).length = 6 := rfl
theorem encCl_one (b : Cb) : ∀ v ∈ encCl b, v.oneCell' = true := fun v hv => by
  simp [encCl] at hv
  rcases hv with rfl | rfl | rfl | rfl | rfl | rfl <;> rfl
abbrev SlAt (w : World) (A : Option Addr) (n : Nat) (xs : List Sl) : Prop := RRd encSl 3 w A n xs
abbrev ChAt (w : World) (A : Option Addr) (n : Nat) (xs : List Ch) : Prop := RRd encCh 3 w A n xs
/-- A stock in memory. -/
structure StAt (w : World) (A : Option Addr) (n : Nat) (bs : List Lb) : Prop where
  lots : RRd encL 5 w A n bs
  sls : ∀ b ∈ bs, SlAt w b.A b.n b.x.sl ∧ b.n ≤ b.c ∧ b.c ≤ 9223372036854775807
theorem StAt.below {w w' : World} {A : Option Addr} {n : Nat} {bs : List Lb} (h : StAt w A n bs) (hb : RowKit.Below w.heap.size w w') : StAt w' A n bs := ⟨h.lots.below hb, fun b k => ⟨(h.sls b k).1.below hb, (h.sls b k).2⟩⟩
/-- Claims in memory. -/
structure ClAt (w : World) (A : Option Addr) (n : Nat) (bs : List Cb) : Prop where
  cls : RRd encCl 6 w A n bs
  sls : ∀ b ∈ bs, SlAt w b.A b.n b.x.sl ∧ b.n ≤ b.c ∧ b.c ≤ 9223372036854775807
theorem ClAt.below {w w' : World} {A : Option Addr} {n : Nat} {bs : List Cb} (h : ClAt w A n bs) (hb : RowKit.Below w.heap.size w w') : ClAt w' A n bs := ⟨h.cls.below hb, fun b k => ⟨(h.sls b k).1.below hb, (h.sls b k).2⟩⟩
theorem drewN_add {w v : World} {q : Nat} (h : v = w.drewN q) (m : Nat) : v.drewN m = w.drewN (q + m) := by
  rw [h]
  simp [World.drewN, Nat.add_assoc]
theorem set5_bl {w : World} {g : Nat} {T : TypeId} {z0 z1 z2 z3 z4 : Value} (h : Bl w g T #[z0, z1, z2, z3, z4]) (a b c d e : Value) : Bl (((((w.setCell ⟨g, 0, none⟩ a).setCell ⟨g, 1, none⟩ b).setCell ⟨g, 2, none⟩ c).setCell ⟨g, 3, none⟩ d).setCell ⟨g, 4, none⟩ e) g T #[a, b, c, d, e] := by
  have := ((((h.put 0 a).put 1 b).put 2 c).put 3 d).put 4 e
  simpa using this
theorem Bl.c0 {w : World} {g : Nat} {T : TypeId} {z0 z1 z2 z3 z4 : Value} (h : Bl w g T #[z0, z1, z2, z3, z4]) : w.cell? ⟨g, 0, none⟩ = some z0 := h.cell 0
theorem Bl.c1 {w : World} {g : Nat} {T : TypeId} {z0 z1 z2 z3 z4 : Value} (h : Bl w g T #[z0, z1, z2, z3, z4]) : w.cell? ⟨g, 1, none⟩ = some z1 := h.cell 1
theorem Bl.c2 {w : World} {g : Nat} {T : TypeId} {z0 z1 z2 z3 z4 : Value} (h : Bl w g T #[z0, z1, z2, z3, z4]) : w.cell? ⟨g, 2, none⟩ = some z2 := h.cell 2
theorem Bl.c3 {w : World} {g : Nat} {T : TypeId} {z0 z1 z2 z3 z4 : Value} (h : Bl w g T #[z0, z1, z2, z3, z4]) : w.cell? ⟨g, 3, none⟩ = some z3 := h.cell 3
theorem Bl.c4 {w : World} {g : Nat} {T : TypeId} {z0 z1 z2 z3 z4 : Value} (h : Bl w g T #[z0, z1, z2, z3, z4]) : w.cell? ⟨g, 4, none⟩ = some z4 := h.cell 4
theorem Bl.far5 {w : World} {k r : Nat} {T : TypeId} {cs : Array Value} (h : Bl w k T cs) (hne : k ≠ r) (a b c d e : Value) : Bl (((((w.setCell ⟨r, 0, none⟩ a).setCell ⟨r, 1, none⟩ b).setCell ⟨r, 2, none⟩ c).setCell ⟨r, 3, none⟩ d).setCell ⟨r, 4, none⟩ e) k T cs := ((((h.far (p := ⟨r, 0, none⟩) hne a).far (p := ⟨r, 1, none⟩) hne b).far (p := ⟨r, 2, none⟩) hne c).far (p := ⟨r, 3, none⟩) hne d).far (p := ⟨r, 4, none⟩) hne e
theorem put5 {w : World} {N r : Nat} {w' : World} (h : RowKit.Below N w w') (hr : N ≤ r) (a b c d e : Value) : RowKit.Below N w (((((w'.setCell ⟨r, 0, none⟩ a).setCell ⟨r, 1, none⟩ b).setCell ⟨r, 2, none⟩ c).setCell ⟨r, 3, none⟩ d).setCell ⟨r, 4, none⟩ e) :=
  ((((h.setCell (p := ⟨r, 0, none⟩) hr _).setCell (p := ⟨r, 1, none⟩) hr _).setCell (p := ⟨r, 2, none⟩) hr _).setCell (p := ⟨r, 3, none⟩) hr _).setCell (p := ⟨r, 4, none⟩) hr _
end Go.Proofs.YthnhgjhnkncmiaaGreat

namespace Go.Proofs.YthnhgjhnkncmiaaGreat
open Go.RowKit
set_option linter.unusedVariables false

instance (a b : List Sl) : Decidable (MeetsL a b) := inferInstanceAs (Decidable (∃ x ∈ a, ∃ y ∈ b, Meets x y))
set_option maxHeartbeats 2000000 in
theorem goodSlice_any (x : Sl) (w : World) : Calls Tryz.prog 70 #[.agg #[.int .i64 x.src, .int .i64 x.fr, .int .i64 x.to]] w (BRes w (slOk x)) := by
  have HB : Hid (RowKit.Below w.heap.size w (w.alloc (.cells #[.int .i64 x.src, .int .i64 x.fr, .int .i64 x.to] 68))) := (Below.refl _ _).alloc (Nat.le_refl _) _
  have hx := Bl.new w 68 #[.int .i64 x.src, .int .i64 x.fr, .int .i64 x.to]
  have x0 : (w.alloc (.cells #[.int .i64 x.src, .int .i64 x.fr, .int .i64 x.to] 68)).cell? ⟨w.heap.size, 0, none⟩ = some (.int .i64 x.src) := hx.cell 0
  have x1 : (w.alloc (.cells #[.int .i64 x.src, .int .i64 x.fr, .int .i64 x.to] 68)).cell? ⟨w.heap.size, 1, none⟩ = some (.int .i64 x.fr) := hx.cell 1
  have x2 : (w.alloc (.cells #[.int .i64 x.src, .int .i64 x.fr, .int .i64 x.to] 68)).cell? ⟨w.heap.size, 2, none⟩ = some (.int .i64 x.to) := hx.cell 2
  clear hx
  by_cases c0 : 1 ≤ x.src
  case neg =>
    have d0 : decide (x.src ≥ 1) = false := by simpa using c0
    have hr : slOk x = false := by simp [slOk]; omega
    rw [hr]
    clear hr c0
    go_enter Tryz.func70, Tryz.ntmps70
    go_upto_region 1 with (fail)
    go_wp2
    go_ret
    exact ⟨rfl, HB.out⟩
  case pos =>
  have d0 : decide (x.src ≥ 1) = true := by simpa using c0
  by_cases c1 : x.src ≤ 1000000
  case neg =>
    have d1 : decide (x.src ≤ 1000000) = false := by simpa using c1
    have hr : slOk x = false := by simp [slOk]; omega
    rw [hr]
    clear hr c0 c1
    go_enter Tryz.func70, Tryz.ntmps70
    go_upto_region 1 with (fail)
    go_wp2
    go_ret
    exact ⟨rfl, HB.out⟩
  case pos =>
  have d1 : decide (x.src ≤ 1000000) = true := by simpa using c1
  by_cases c2 : 0 ≤ x.fr
  case neg =>
    have d2 : decide (x.fr ≥ 0) = false := by simpa using c2
    have hr : slOk x = false := by simp [slOk]; omega
    rw [hr]
    clear hr c0 c1 c2
    go_enter Tryz.func70, Tryz.ntmps70
    go_upto_region 1 with (fail)
    go_wp2
    go_ret
    exact ⟨rfl, HB.out⟩
  case pos =>
  have d2 : decide (x.fr ≥ 0) = true := by simpa using c2
  by_cases c3 : x.fr < x.to
  case neg =>
    have d3 : decide (x.fr < x.to) = false := by simpa using c3
    have hr : slOk x = false := by simp [slOk]; omega
    rw [hr]
    clear hr c0 c1 c2 c3
    go_enter Tryz.func70, Tryz.ntmps70
    go_upto_region 1 with (fail)
    go_wp2
    go_ret
    exact ⟨rfl, HB.out⟩
  case pos =>
  have d3 : decide (x.fr < x.to) = true := by simpa using c3
  by_cases c4 : x.to ≤ 1000000000
  case neg =>
    have d4 : decide (x.to ≤ 1000000000) = false := by simpa using c4
    have hr : slOk x = false := by simp [slOk]; omega
    rw [hr]
    clear hr c0 c1 c2 c3 c4
    go_enter Tryz.func70, Tryz.ntmps70
    go_upto_region 1 with (fail)
    go_wp2
    go_ret
    exact ⟨rfl, HB.out⟩
  case pos =>
  have d4 : decide (x.to ≤ 1000000000) = true := by simpa using c4
  have hr : slOk x = true := by simp [slOk]; omega
  rw [hr]
  clear hr c0 c1 c2 c3 c4
  go_enter Tryz.func70, Tryz.ntmps70
  go_upto_region 1 with (fail)
  go_wp2
  go_ret
  exact ⟨rfl, HB.out⟩
set_option maxHeartbeats 2000000 in
theorem meet_any (x y : Sl) (w : World) : Calls Tryz.prog 26 #[.agg #[.int .i64 x.src, .int .i64 x.fr, .int .i64 x.to], .agg #[.int .i64 y.src, .int .i64 y.fr, .int .i64 y.to]] w (BRes w (decide (Meets x y))) := by
  have HB : Hid (RowKit.Below w.heap.size w ((w.alloc (.cells #[.int .i64 x.src, .int .i64 x.fr, .int .i64 x.to] 68)).alloc (.cells #[.int .i64 y.src, .int .i64 y.fr, .int .i64 y.to] 68))) := ((Below.refl _ _).alloc (Nat.le_refl _) _).alloc (by simp) _
  have hx : Bl ((w.alloc (.cells #[.int .i64 x.src, .int .i64 x.fr, .int .i64 x.to] 68)).alloc (.cells #[.int .i64 y.src, .int .i64 y.fr, .int .i64 y.to] 68)) w.heap.size 68 #[.int .i64 x.src, .int .i64 x.fr, .int .i64 x.to] := (Bl.new w _ _).alloc _
  have hy : Bl ((w.alloc (.cells #[.int .i64 x.src, .int .i64 x.fr, .int .i64 x.to] 68)).alloc (.cells #[.int .i64 y.src, .int .i64 y.fr, .int .i64 y.to] 68)) (w.heap.size + 1) 68 #[.int .i64 y.src, .int .i64 y.fr, .int .i64 y.to] := by have := Bl.new (w.alloc (.cells #[.int .i64 x.src, .int .i64 x.fr, .int .i64 x.to] 68)) 68 #[.int .i64 y.src, .int .i64 y.fr, .int .i64 y.to]; simpa using this
  have x0 : ((w.alloc (.cells #[.int .i64 x.src, .int .i64 x.fr, .int .i64 x.to] 68)).alloc (.cells #[.int .i64 y.src, .int .i64 y.fr, .int .i64 y.to] 68)).cell? ⟨w.heap.size, 0, none⟩ = some (.int .i64 x.src) := hx.cell 0
  have x1 : ((w.alloc (.cells #[.int .i64 x.src, .int .i64 x.fr, .int .i64 x.to] 68)).alloc (.cells #[.int .i64 y.src, .int .i64 y.fr, .int .i64 y.to] 68)).cell? ⟨w.heap.size, 1, none⟩ = some (.int .i64 x.fr) := hx.cell 1
  have x2 : ((w.alloc (.cells #[.int .i64 x.src, .int .i64 x.fr, .int .i64 x.to] 68)).alloc (.cells #[.int .i64 y.src, .int .i64 y.fr, .int .i64 y.to] 68)).cell? ⟨w.heap.size, 2, none⟩ = some (.int .i64 x.to) := hx.cell 2
  have y0 : ((w.alloc (.cells #[.int .i64 x.src, .int .i64 x.fr, .int .i64 x.to] 68)).alloc (.cells #[.int .i64 y.src, .int .i64 y.fr, .int .i64 y.to] 68)).cell? ⟨w.heap.size + 1, 0, none⟩ = some (.int .i64 y.src) := hy.cell 0
  have y1 : ((w.alloc (.cells #[.int .i64 x.src, .int .i64 x.fr, .int .i64 x.to] 68)).alloc (.cells #[.int .i64 y.src, .int .i64 y.fr, .int .i64 y.to] 68)).cell? ⟨w.heap.size + 1, 1, none⟩ = some (.int .i64 y.fr) := hy.cell 1
  have y2 : ((w.alloc (.cells #[.int .i64 x.src, .int .i64 x.fr, .int .i64 x.to] 68)).alloc (.cells #[.int .i64 y.src, .int .i64 y.fr, .int .i64 y.to] 68)).cell? ⟨w.heap.size + 1, 2, none⟩ = some (.int .i64 y.to) := hy.cell 2
  clear hx hy
  by_cases c0 : x.src = y.src
  case neg =>
    have d0 : (x.src == y.src) = false := by simpa using c0
    have hr : decide (Meets x y) = false := decide_eq_false (by unfold Meets; omega)
    rw [hr]
    clear hr c0
    go_enter Tryz.func26, Tryz.ntmps26
    go_upto_region 1 with (fail)
    go_wp2
    go_ret
    exact ⟨rfl, HB.out⟩
  case pos =>
  have d0 : (x.src == y.src) = true := by simpa using c0
  by_cases c1 : x.fr < y.to
  case neg =>
    have d1 : decide (x.fr < y.to) = false := by simpa using c1
    have hr : decide (Meets x y) = false := decide_eq_false (by unfold Meets; omega)
    rw [hr]
    clear hr c0 c1
    go_enter Tryz.func26, Tryz.ntmps26
    go_upto_region 1 with (fail)
    go_wp2
    go_ret
    exact ⟨rfl, HB.out⟩
  case pos =>
  have d1 : decide (x.fr < y.to) = true := by simpa using c1
  by_cases c2 : y.fr < x.to
  case neg =>
    have d2 : decide (y.fr < x.to) = false := by simpa using c2
    have hr : decide (Meets x y) = false := decide_eq_false (by unfold Meets; omega)
    rw [hr]
    clear hr c0 c1 c2
    go_enter Tryz.func26, Tryz.ntmps26
    go_upto_region 1 with (fail)
    go_wp2
    go_ret
    exact ⟨rfl, HB.out⟩
  case pos =>
  have d2 : decide (y.fr < x.to) = true := by simpa using c2
  have hr : decide (Meets x y) = true := decide_eq_true (by unfold Meets; omega)
  rw [hr]
  clear hr c0 c1 c2
  go_enter Tryz.func26, Tryz.ntmps26
  go_upto_region 1 with (fail)
  go_wp2
  go_ret
  exact ⟨rfl, HB.out⟩
theorem meetsL_step {a b : List Sl} {i k : Nat} (hi : i < a.length) (hk : k < b.length) (h : Meets a[i]! b[k]!) : MeetsL a b :=
  ⟨a[i]!, by rw [getElem!_pos a i hi]; exact List.getElem_mem hi, b[k]!, by rw [getElem!_pos b k hk]; exact List.getElem_mem hk, h⟩
theorem not_meetsL {a b : List Sl} (h : ∀ i, i < a.length → ∀ k, k < b.length → ¬ Meets a[i]! b[k]!) : ¬ MeetsL a b := by
  rintro ⟨x, hx, y, hy, hm⟩
  obtain ⟨i, hi, rfl⟩ := List.getElem_of_mem hx
  obtain ⟨k, hk, rfl⟩ := List.getElem_of_mem hy
  have := h i hi k hk
  rw [getElem!_pos a i hi, getElem!_pos b k hk] at this
  exact this hm
set_option maxRecDepth 100000 in
set_option maxHeartbeats 4000000 in
theorem Meet_any (A : Option Addr) (n c : Nat) (xs : List Sl) (B : Option Addr) (m d : Nat) (ys : List Sl) (w : World) (h : Recs encSl 3 w A n xs) (h' : Recs encSl 3 w B m ys) (hn : n ≤ 9223372036854775807) (hm : m ≤ 9223372036854775807) :
    Calls Tryz.prog 11 #[.slice A n c, .slice B m d] w (BRes w (decide (MeetsL xs ys))) := by
  have HX := Lib.hid h
  have HY := Lib.hid h'
  have HM := Lib.hid meet_any
  have hxl : xs.length = n := h.1
  have hyl : ys.length = m := h'.1
  clear h h'
  go_enter Tryz.func11, Tryz.ntmps11
  go_wp2_with fail
  go_loopw [5] (fun v wx => ∃ i : Nat, v = .int .i64 (i : Int) ∧ i ≤ n ∧ Hid (∀ j, j < i → ∀ k, k < m → ¬ Meets xs[j]! ys[k]!) ∧ Hid (RowKit.Below w.heap.size w wx)) (fun v _ => n - (intOf v).toNat)
  case atStart => exact ⟨0, rfl, Nat.zero_le _, (fun j hj => by omega), Below.refl _ _⟩
  case round =>
    obtain ⟨i, rfl, hi, HN, HB⟩ := hrel
    by_cases hlt : i < n
    case neg =>
      have dk : decide ((i : Int) < (n : Int)) = false := by simp; omega
      have hr : decide (MeetsL xs ys) = false := decide_eq_false (not_meetsL fun j hj k hk => HN.out j (by omega) k (by omega))
      have HR := Lib.hid hr
      clear hr
      go_wp2
      go_ret
      exact ⟨by rw [HR.out]; rfl, HB.out⟩
    case pos =>
    have dk : decide ((i : Int) < (n : Int)) = true := by simp; omega
    go_wp2_with fail
    go_loopw [6] (fun v wx => ∃ k : Nat, v = .int .i64 (k : Int) ∧ k ≤ m ∧ Hid (∀ j, j < k → ¬ Meets xs[i]! ys[j]!) ∧ Hid (RowKit.Below w.heap.size w wx)) (fun v _ => m - (intOf v).toNat)
    case atStart => exact ⟨0, rfl, Nat.zero_le _, (fun j hj => by omega), HB⟩
    case round =>
      clear HB
      obtain ⟨k, rfl, hk, HK, HB⟩ := hrel
      by_cases hlk : k < m
      case neg =>
        have dk : decide ((k : Int) < (m : Int)) = false := by simp; omega
        have HN2 : Hid (∀ j, j < i + 1 → ∀ k, k < m → ¬ Meets xs[j]! ys[k]!) := fun j hj q hq => by
          by_cases e : j = i
          · subst e; exact HK.out q (by omega)
          · exact HN.out j (by omega) q hq
        go_wp2_with fail
        go_roundw
        case rel => exact ⟨i + 1, by go_num, by omega, HN2, HB⟩
        case measure => simp [intOf]; omega
      case pos =>
      have dk2 : decide ((k : Int) < (m : Int)) = true := by simp; omega
      obtain ⟨b1, o1, rfl, hb1, ha⟩ := recs_at (HX.out.below HB.out) hlt
      obtain ⟨b2, o2, rfl, hb2, hb⟩ := recs_at (HY.out.below HB.out) hlk
      obtain ⟨x, hx⟩ : ∃ x, xs[i]! = x := ⟨_, rfl⟩
      obtain ⟨y, hy⟩ : ∃ y, ys[k]! = y := ⟨_, rfl⟩
      rw [hx] at ha
      rw [hy] at hb
      have a0 : wr.cell? ⟨b1, o1 + i * 3, none⟩ = some (.int .i64 x.src) := ha.out 0 (by omega)
      have a1 : wr.cell? ⟨b1, o1 + i * 3 + 1, none⟩ = some (.int .i64 x.fr) := ha.out 1 (by omega)
      have a2 : wr.cell? ⟨b1, o1 + i * 3 + 2, none⟩ = some (.int .i64 x.to) := ha.out 2 (by omega)
      have c0 : wr.cell? ⟨b2, o2 + k * 3, none⟩ = some (.int .i64 y.src) := hb.out 0 (by omega)
      have c1 : wr.cell? ⟨b2, o2 + k * 3 + 1, none⟩ = some (.int .i64 y.fr) := hb.out 1 (by omega)
      have c2 : wr.cell? ⟨b2, o2 + k * 3 + 2, none⟩ = some (.int .i64 y.to) := hb.out 2 (by omega)
      have HXI := Lib.hid hx
      have HYK := Lib.hid hy
      have hii : (i : Int) < (n : Int) := by omega
      have hiz : (0 : Int) ≤ (i : Int) := by omega
      have hki : (k : Int) < (m : Int) := by omega
      have hkz : (0 : Int) ≤ (k : Int) := by omega
      clear ha hb hx hy
      go_upto_region 7 with (fail)
      go_still_tail 8, (by kernel_rfl)
      change wpList _ _ _ _ _ wr.drew
      have HB7 : Hid (RowKit.Below w.heap.size w wr.drew) := HB.out.drew
      clear HB a0 a1 a2 c0 c1 c2
      generalize wr.drew = W7 at *
      go_wp2_with fail
      refine (HM.out x y W7).mono ?_
      rintro e w8 ⟨rfl, hb8⟩
      have HB8 : Hid (RowKit.Below w.heap.size w w8) := HB7.out.trans (hb8.mono HB7.out.size)
      clear hb8 HB7
      by_cases hmm : Meets x y
      case pos =>
        have dm : decide (Meets x y) = true := decide_eq_true hmm
        have hr : decide (MeetsL xs ys) = true := decide_eq_true (meetsL_step (i := i) (k := k) (by omega) (by omega) (by rw [HXI.out, HYK.out]; exact hmm))
        have HR := Lib.hid hr
        clear hr hmm
        rw [dm]
        go_wp2
        go_ret
        exact ⟨by rw [HR.out]; rfl, HB8.out⟩
      case neg =>
        have dm : decide (Meets x y) = false := decide_eq_false hmm
        have HK2 : Hid (∀ j, j < k + 1 → ¬ Meets xs[i]! ys[j]!) := fun j hj => by
          by_cases e : j = k
          · subst e; rw [HXI.out, HYK.out]; exact hmm
          · exact HK.out j (by omega)
        clear hmm
        rw [dm]
        go_wp2_with fail
        go_roundw
        case rel => exact ⟨k + 1, by go_num, by omega, HK2, HB8⟩
        case measure => simp [intOf]; omega
end Go.Proofs.YthnhgjhnkncmiaaGreat

namespace Go.Proofs.YthnhgjhnkncmiaaGreat
open Go.RowKit
set_option linter.unusedVariables false

/-- Some of the records of a list. -/
theorem recs_sub {α : Type} [Inhabited α] {enc : α → List Value} {k : Nat} {w : World} {b off n : Nat} {xs : List α} (h : Recs enc k w (some ⟨b, off, none⟩) n xs) {i m : Nat} (him : i + m ≤ n) : Recs enc k w (some ⟨b, off + i * k, none⟩) m ((xs.drop i).take m) := by
  have hl := h.1
  refine ⟨by rw [List.length_take, List.length_drop]; omega, fun h0 => ?_⟩
  obtain ⟨b', off', e, hb, hc⟩ := h.2 (by omega)
  injection e with e; injection e with e1 e2; subst e1 e2
  refine ⟨b, off + i * k, rfl, hb, fun j hj c hcc => ?_⟩
  have := hc (i + j) (by omega) c hcc
  rw [show off + i * k + j * k + c = off + (i + j) * k + c by rw [Nat.add_mul]; omega, this]
  rw [getElem!_pos xs (i + j) (by omega), getElem!_pos ((xs.drop i).take m) j (by rw [List.length_take, List.length_drop]; omega), List.getElem_take, List.getElem_drop]
theorem slErr_bad {l : List Sl} (h : l.length ≤ 64) {i : Nat} (hi : i < l.length) (hx : slOk l[i]! = false) : slErr l = 2 := by
  unfold slErr
  rw [if_neg (by omega), if_neg (fun hh => by have := hh l[i]! (by rw [getElem!_pos l i hi]; exact List.getElem_mem hi); rw [hx] at this; cases this)]
theorem slErr_meet {l : List Sl} (h : l.length ≤ 64) (hv : ∀ x ∈ l, slOk x = true) (hm : ¬ Apart l) : slErr l = 13 := by
  unfold slErr
  rw [if_neg (by omega), if_pos hv, if_neg hm]
theorem all_of_get29 {l : List Sl} (h : ∀ i, i < l.length → slOk l[i]! = true) : ∀ x ∈ l, slOk x = true := fun x hx => by
  obtain ⟨i, hi, rfl⟩ := List.getElem_of_mem hx
  have := h i hi
  rwa [getElem!_pos l i hi] at this
theorem meets_rest {xs : List Sl} {n k : Nat} (hl : xs.length = n) (hk : k < n) : MeetsL ((xs.drop k).take 1) ((xs.drop (k + 1)).take (n - (k + 1))) ↔ ∃ q, k < q ∧ q < n ∧ Meets xs[k]! xs[q]! := by
  have e1 : (xs.drop k).take 1 = [xs[k]!] := by
    have h1 : xs.drop k = xs[k] :: xs.drop (k + 1) := List.drop_eq_getElem_cons (by omega)
    rw [h1, getElem!_pos xs k (by omega)]; rfl
  have e2 : (xs.drop (k + 1)).take (n - (k + 1)) = xs.drop (k + 1) := List.take_of_length_le (by rw [List.length_drop]; omega)
  rw [e1, e2]
  constructor
  · rintro ⟨x, hx, y, hy, h⟩
    rw [List.mem_singleton] at hx
    subst hx
    obtain ⟨i, hi, rfl⟩ := List.getElem_of_mem hy
    rw [List.length_drop] at hi
    refine ⟨k + 1 + i, by omega, by omega, ?_⟩
    rw [getElem!_pos xs (k + 1 + i) (by omega)]
    rwa [List.getElem_drop] at h
  · rintro ⟨q, h1, h2, h3⟩
    refine ⟨xs[k]!, by simp, xs[q]!, ?_, h3⟩
    rw [getElem!_pos xs q (by omega), List.mem_drop_iff_getElem]
    exact ⟨q - (k + 1), by omega, by congr 1; omega⟩
set_option maxRecDepth 100000 in
set_option maxHeartbeats 8000000 in
theorem Valid_any (A : Option Addr) (n c : Nat) (xs : List Sl) (w : World) (h : Recs encSl 3 w A n xs) (hnc : n ≤ c) (hcm : c ≤ 9223372036854775807) :
    Calls Tryz.prog 42 #[.slice A n c] w (ERes w (slErr xs)) := by
  have HX := Lib.hid h
  have HG := Lib.hid goodSlice_any
  have HM := Lib.hid Meet_any
  have hxl : xs.length = n := h.1
  clear h
  go_enter Tryz.func42, Tryz.ntmps42
  by_cases hl : 64 < n
  case pos =>
    have dl : decide (64 < (n : Int)) = true := by simp; omega
    have hr : slErr xs = 8 := by unfold slErr; rw [if_pos (by omega)]
    go_wp2
    go_ret
    exact ⟨by rw [hr]; rfl, Below.refl _ _⟩
  case neg =>
  have dl : decide (64 < (n : Int)) = false := by simp; omega
  go_wp2_with fail
  go_loopw [3] (fun v wx => ∃ i : Nat, v = .int .i64 (i : Int) ∧ i ≤ n ∧ Hid (∀ j, j < i → slOk xs[j]! = true) ∧ Hid (RowKit.Below w.heap.size w wx)) (fun v _ => n - (intOf v).toNat)
  case atStart => exact ⟨0, rfl, Nat.zero_le _, (fun j hj => by omega), Below.refl _ _⟩
  case round =>
    obtain ⟨i, rfl, hi, HN, HB⟩ := hrel
    by_cases hlt : i < n
    case pos =>
      have dk : decide ((i : Int) < (n : Int)) = true := by simp; omega
      obtain ⟨b1, o1, rfl, hb1, ha⟩ := recs_at (HX.out.below HB.out) hlt
      obtain ⟨x, hx⟩ : ∃ x, xs[i]! = x := ⟨_, rfl⟩
      rw [hx] at ha
      have a0 : wr.cell? ⟨b1, o1 + i * 3, none⟩ = some (.int .i64 x.src) := ha.out 0 (by omega)
      have a1 : wr.cell? ⟨b1, o1 + i * 3 + 1, none⟩ = some (.int .i64 x.fr) := ha.out 1 (by omega)
      have a2 : wr.cell? ⟨b1, o1 + i * 3 + 2, none⟩ = some (.int .i64 x.to) := ha.out 2 (by omega)
      have HXI := Lib.hid hx
      have hii : (i : Int) < (n : Int) := by omega
      have hiz : (0 : Int) ≤ (i : Int) := by omega
      clear ha hx
      go_wp2_with fail
      refine (HG.out x wr).mono ?_
      rintro e w8 ⟨rfl, hb8⟩
      have HB8 : Hid (RowKit.Below w.heap.size w w8) := HB.out.trans (hb8.mono HB.out.size)
      clear hb8 HB a0 a1 a2
      cases hs : slOk x
      case false =>
        have HR := Lib.hid (slErr_bad (l := xs) (by omega) (i := i) (by omega) (by rw [HXI.out]; exact hs))
        go_wp2
        go_ret
        exact ⟨by rw [HR.out]; rfl, HB8.out⟩
      case true =>
        have HN2 : Hid (∀ j, j < i + 1 → slOk xs[j]! = true) := fun j hj => by
          by_cases e : j = i
          · subst e; rw [HXI.out]; exact hs
          · exact HN.out j (by omega)
        go_wp2_with fail
        go_roundw
        case rel => exact ⟨i + 1, by go_num, by omega, HN2, HB8⟩
        case measure => simp [intOf]; omega
    case neg =>
    have dk : decide ((i : Int) < (n : Int)) = false := by simp; omega
    have HV : Hid (∀ x ∈ xs, slOk x = true) := all_of_get29 fun j hj => HN.out j (by omega)
    clear HN
    go_wp2_with fail
    go_loopw [4] (fun v wx => ∃ i : Nat, v = .int .i64 (i : Int) ∧ i ≤ n ∧ Hid (∀ j, j < i → ∀ k, j < k → k < n → ¬ Meets xs[j]! xs[k]!) ∧ Hid (RowKit.Below w.heap.size w wx)) (fun v _ => n - (intOf v).toNat)
    case atStart => exact ⟨0, rfl, Nat.zero_le _, (fun j hj => by omega), HB⟩
    case round =>
      clear HB dk hi hlt
      obtain ⟨k, rfl, hk, HK, HB⟩ := hrel
      by_cases hlt : k < n
      case neg =>
        have dk : decide ((k : Int) < (n : Int)) = false := by simp; omega
        have HR : Hid (slErr xs = 0) := slErr_of (by omega) HV.out (apart_get.2 fun a b hab hb => HK.out a (by omega) b hab (by omega))
        go_wp2
        go_ret
        exact ⟨by rw [HR.out]; rfl, HB.out⟩
      case pos =>
      have dk : decide ((k : Int) < (n : Int)) = true := by simp; omega
      obtain ⟨b1, o1, rfl, hb1, ha⟩ := recs_at (HX.out.below HB.out) hlt
      have HB7 : Hid (RowKit.Below w.heap.size w wr.drew) := HB.out.drew
      have HS1 : Hid (Recs encSl 3 wr.drew (some ⟨b1, o1 + k * 3, none⟩) 1 ((xs.drop k).take 1)) := recs_sub (HX.out.below HB7.out) (by omega)
      obtain ⟨P, hP, HS2⟩ : ∃ P : Option Addr, (if c = k + 1 then (some ⟨b1, o1, none⟩ : Option Addr) else some ⟨b1, o1 + (k + 1) * 3, none⟩) = P ∧ Hid (Recs encSl 3 wr.drew P (n - (k + 1)) ((xs.drop (k + 1)).take (n - (k + 1)))) := by
        by_cases e : c = k + 1
        · exact ⟨some ⟨b1, o1, none⟩, by simp [e], by show Recs _ _ _ _ _ _; have h0 : n - (k + 1) = 0 := by omega
                                                      rw [h0, List.take_zero]; exact ⟨rfl, fun h1 => by omega⟩⟩
        · exact ⟨some ⟨b1, o1 + (k + 1) * 3, none⟩, by simp [e], recs_sub (HX.out.below HB7.out) (by omega)⟩
      have hw1 : IntKind.i64.wrap ((k : Int) + 1) = (k : Int) + 1 := by rw [IntKind.wrap_i64]; omega
      have htn : ((k : Int) + 1).toNat = k + 1 := by omega
      have hb2 : (0 : Int) ≤ (k : Int) + 1 := by omega
      have hb3 : (k : Int) ≤ (k : Int) + 1 := by omega
      have hb4 : (k : Int) + 1 ≤ (n : Int) := by omega
      have hb5 : (k : Int) + 1 ≤ (c : Int) := by omega
      have hkk : k ≤ n := by omega
      have hkc : ¬ (c = k) := by omega
      have hk1 : k + 1 - k = 1 := by omega
      clear ha
      go_upto_region 11 with (fail)
      go_still_tail 9, (by kernel_rfl)
      change wpList _ _ _ _ _ wr.drew
      clear HB
      generalize wr.drew = W7 at *
      go_wp2_with fail
      refine (HM.out (some ⟨b1, o1 + k * 3, none⟩) 1 (c - k) _ P (n - (k + 1)) (c - (k + 1)) _ W7 HS1.out HS2.out (by omega) (by omega)).mono ?_
      rintro e w8 ⟨rfl, hb8⟩
      have HB8 : Hid (RowKit.Below w.heap.size w w8) := HB7.out.trans (hb8.mono HB7.out.size)
      clear hb8 HB7 HS1 HS2
      by_cases hmm : MeetsL ((xs.drop k).take 1) ((xs.drop (k + 1)).take (n - (k + 1)))
      case pos =>
        have dm : decide (MeetsL ((xs.drop k).take 1) ((xs.drop (k + 1)).take (n - (k + 1)))) = true := decide_eq_true hmm
        have HR : Hid (slErr xs = 13) := slErr_meet (by omega) HV.out (fun hap => by
          obtain ⟨q, h1, h2, h3⟩ := (meets_rest hxl hlt).1 hmm
          exact apart_get.1 hap k q h1 (by omega) h3)
        clear hmm
        rw [dm]
        go_wp2
        go_ret
        exact ⟨by rw [HR.out]; rfl, HB8.out⟩
      case neg =>
        have dm : decide (MeetsL ((xs.drop k).take 1) ((xs.drop (k + 1)).take (n - (k + 1)))) = false := decide_eq_false hmm
        have HK2 : Hid (∀ j, j < k + 1 → ∀ q, j < q → q < n → ¬ Meets xs[j]! xs[q]!) := fun j hj q hq1 hq2 hm => by
          by_cases e : j = k
          · subst e; exact hmm ((meets_rest hxl hlt).2 ⟨q, hq1, hq2, hm⟩)
          · exact HK.out j (by omega) q hq1 hq2 hm
        clear hmm
        rw [dm]
        go_wp2_with fail
        go_roundw
        case rel => exact ⟨k + 1, by go_num, by omega, HK2, HB8⟩
        case measure => simp [intOf]; omega
def cnt29 (l : List Sl) : Int := (l.map fun x => x.to - x.fr).sum
theorem cnt29_take {l : List Sl} {i : Nat} (h : i < l.length) : cnt29 (l.take (i + 1)) = cnt29 (l.take i) + (l[i]!.to - l[i]!.fr) := by
  unfold cnt29
  rw [List.take_add_one, List.getElem?_eq_getElem h, getElem!_pos l i h, Option.toList_some, List.map_append, List.sum_append]
  simp
theorem cnt29_bounds {l : List Sl} (h : SlsOk l) : 0 ≤ cnt29 l ∧ cnt29 l ≤ l.length * 1000000000 := by
  unfold cnt29
  induction l with
  | nil => simp
  | cons x xs ih =>
    have hx := slOk_yes (h x (by simp))
    have := ih fun y hy => h y (by simp [hy])
    simp only [List.map_cons, List.sum_cons, List.length_cons]
    omega
set_option maxRecDepth 100000 in
set_option maxHeartbeats 4000000 in
theorem count29_any (A : Option Addr) (n c : Nat) (xs : List Sl) (w : World) (h : Recs encSl 3 w A n xs) (hv : SlsOk xs) (hn : n ≤ 1000) :
    Calls Tryz.prog 78 #[.slice A n c] w fun e w' => e = .returned (.int .i64 (cnt29 xs)) ∧ ∃ q, w' = w.drewN q := by
  have HX := Lib.hid h
  have HV := Lib.hid hv
  have hxl : xs.length = n := h.1
  clear h hv
  go_enter Tryz.func78, Tryz.ntmps78
  go_wp2_with fail
  go_loopw [3, 4] (fun s v wx => ∃ i : Nat, v = .int .i64 (i : Int) ∧ s = .int .i64 (cnt29 (xs.take i)) ∧ i ≤ n ∧ Hid (∃ q, wx = w.drewN q)) (fun _ v _ => n - (intOf v).toNat)
  case atStart => exact ⟨0, rfl, rfl, Nat.zero_le _, 0, rfl⟩
  case round =>
    obtain ⟨i, rfl, rfl, hi, q, rfl⟩ := hrel
    by_cases hlt : i < n
    case neg =>
      obtain rfl : i = n := by omega
      have dk : decide ((i : Int) < (i : Int)) = false := by simp
      have HF : Hid (cnt29 (xs.take i) = cnt29 xs) := by show _ = _; rw [List.take_of_length_le (by omega)]
      go_wp2
      go_ret
      exact ⟨by rw [← HF.out]; rfl, q, rfl⟩
    case pos =>
    have dk : decide ((i : Int) < (n : Int)) = true := by simp; omega
    obtain ⟨b1, o1, rfl, hb1, ha⟩ := recs_at HX.out hlt
    obtain ⟨x, hx⟩ : ∃ x, xs[i]! = x := ⟨_, rfl⟩
    rw [hx] at ha
    have a1 : w.cell? ⟨b1, o1 + i * 3 + 1, none⟩ = some (.int .i64 x.fr) := ha.out 1 (by omega)
    have a2 : w.cell? ⟨b1, o1 + i * 3 + 2, none⟩ = some (.int .i64 x.to) := ha.out 2 (by omega)
    have hst := cnt29_take (l := xs) (i := i) (by omega)
    rw [hx] at hst
    have hb0 := cnt29_bounds (l := xs.take i) (fun y hy => HV.out y (List.mem_of_mem_take hy))
    rw [List.length_take] at hb0
    have hxo := slOk_yes (HV.out x (by rw [← hx, getElem!_pos xs i (by omega)]; exact List.getElem_mem _))
    have HST := Lib.hid hst
    obtain ⟨s, hs⟩ : ∃ s, cnt29 (xs.take i) = s := ⟨_, rfl⟩
    rw [hs] at hb0 HST ⊢
    have hii : (i : Int) < (n : Int) := by omega
    have hiz : (0 : Int) ≤ (i : Int) := by omega
    have u1 : IntKind.i64.wrap (s + x.to) = s + x.to := IntWalk.i64_in _ (by omega)
    have u2 : IntKind.i64.wrap (s + x.to - x.fr) = s + x.to - x.fr := IntWalk.i64_in _ (by omega)
    clear ha hx hst hs hb0 hxo
    go_upto_region 5 with (fail)
    go_quiet (fail)
    go_wp2_with fail
    go_roundw
    case rel => exact ⟨i + 1, by go_num, by rw [HST.out]; congr 1; omega, by omega, q + nq, rfl⟩
    case measure => simp [intOf]; omega
end Go.Proofs.YthnhgjhnkncmiaaGreat

namespace Go.Proofs.YthnhgjhnkncmiaaGreat
open Go.RowKit
set_option linter.unusedVariables false

theorem infoSl : (Tryz.prog.info? 68).map (fun i => (i.zero, i.size, i.bytes)) = some (some (.agg #[.int .i64 0, .int .i64 0, .int .i64 0]), 3, 24) := by kernel_rfl
/-- A row of slices of the call's own. -/
def SlRes29 (w : World) (xs : List Sl) (e : Ending) (w' : World) : Prop := ∃ (B : Option Addr) (d : Nat), e = .returned (.slice B xs.length d) ∧ w'.ownsRow w.heap.size 68 3 (.slice B xs.length d) xs.length (flat encSl xs) ∧ RowKit.Below w.heap.size w w'
theorem jfold_take {xs : List Sl} {i : Nat} (h : i < xs.length) (out : List Sl) : (xs.take (i + 1)).foldl jstep out = jstep ((xs.take i).foldl jstep out) xs[i]! := by
  rw [List.take_add_one, List.getElem?_eq_getElem h, Option.toList_some, List.foldl_append, getElem!_pos xs i h]
  rfl
theorem jstep_join {out : List Sl} {x y : Sl} (h : 0 < out.length) (hy : out[out.length - 1]! = y) (hs : y.src = x.src) (ht : y.to = x.fr) : jstep out x = out.set (out.length - 1) ⟨y.src, y.fr, x.to⟩ := by
  unfold jstep
  rw [hy, if_pos ⟨by intro e; subst e; simp at h, hs, ht⟩, hs]
theorem jstep_keep {out : List Sl} {x y : Sl} (hy : 0 < out.length → out[out.length - 1]! = y ∧ ¬ (y.src = x.src ∧ y.to = x.fr)) : jstep out x = out ++ [x] := by
  unfold jstep
  rw [if_neg]
  rintro ⟨h1, h2, h3⟩
  obtain ⟨h4, h5⟩ := hy (List.length_pos_iff.2 h1)
  rw [h4] at h2 h3
  exact h5 ⟨h2, h3⟩
set_option maxRecDepth 100000 in
set_option maxHeartbeats 8000000 in
theorem join29_any (A : Option Addr) (n c : Nat) (xs : List Sl) (w : World) (h : Recs encSl 3 w A n xs) (hn : n ≤ 100000) :
    Calls Tryz.prog 82 #[.slice A n c] w (SlRes29 w (joinS xs)) := by
  have HX := Lib.hid h
  have hxl : xs.length = n := h.1
  clear h
  go_enter Tryz.func82, Tryz.ntmps82
  go_wp2_with fail
  go_loopw [3, 4] (fun s v wx => ∃ (i : Nat) (B : Option Addr) (k d : Nat) (os : List Sl), v = .int .i64 (i : Int) ∧ s = .slice B k d ∧ i ≤ n ∧ k ≤ i ∧ Hid (os = (xs.take i).foldl jstep []) ∧ Hid (os.length = k) ∧ Hid (wx.ownsRow w.heap.size 68 3 (.slice B k d) k (flat encSl os)) ∧ Hid (RowKit.Below w.heap.size w wx)) (fun _ v _ => n - (intOf v).toNat)
  case atStart => exact ⟨0, none, 0, 0, [], rfl, rfl, Nat.zero_le _, Nat.le_refl _, rfl, rfl, ⟨by simp [flat], .inl ⟨rfl, rfl⟩⟩, Below.refl _ _⟩
  case round =>
    obtain ⟨i, B, k, d, os, rfl, rfl, hi, hki, HOS, HK, HO, HB⟩ := hrel
    by_cases hlt : i < n
    case neg =>
      have dk : decide ((i : Int) < (n : Int)) = false := by simp; omega
      have HJ : Hid (os = joinS xs) := by show _ = _; rw [HOS.out, List.take_of_length_le (by omega)]; rfl
      go_wp2
      go_ret
      refine ⟨B, d, ?_, ?_, HB.out⟩
      · rw [← HJ.out, HK.out]; rfl
      · rw [← HJ.out, HK.out]; exact HO.out
    case pos =>
    have dk : decide ((i : Int) < (n : Int)) = true := by simp; omega
    obtain ⟨b1, o1, rfl, hb1, ha⟩ := recs_at (HX.out.below HB.out) hlt
    obtain ⟨x, hx⟩ : ∃ x, xs[i]! = x := ⟨_, rfl⟩
    rw [hx] at ha
    have a0 : wr.cell? ⟨b1, o1 + i * 3, none⟩ = some (.int .i64 x.src) := ha.out 0 (by omega)
    have a1 : wr.cell? ⟨b1, o1 + i * 3 + 1, none⟩ = some (.int .i64 x.fr) := ha.out 1 (by omega)
    have a2 : wr.cell? ⟨b1, o1 + i * 3 + 2, none⟩ = some (.int .i64 x.to) := ha.out 2 (by omega)
    have HST : Hid ((xs.take (i + 1)).foldl jstep [] = jstep os x) := by show _ = _; rw [jfold_take (by omega), ← HOS.out, hx]
    have hii : (i : Int) < (n : Int) := by omega
    have hiz : (0 : Int) ≤ (i : Int) := by omega
    clear ha hx HOS
    by_cases hk0 : k = 0
    case pos =>
      subst hk0
      have HJS : Hid (jstep os x = os ++ [x]) := jstep_keep (y := default) (fun h0 => by have := HK.out; omega)
      go_upto_region 6 with (fail)
      go_quiet (fail)
      have HO6 : Hid ((wr.drewN nq).ownsRow w.heap.size 68 3 (.slice B 0 d) 0 (flat encSl os)) := own_drewN HO.out nq
      have HB6 : Hid (RowKit.Below w.heap.size w (wr.drewN nq)) := below_drewN HB.out nq
      have a0 : (wr.drewN nq).cell? ⟨b1, o1 + i * 3, none⟩ = some (.int .i64 x.src) := a0
      have a1 : (wr.drewN nq).cell? ⟨b1, o1 + i * 3 + 1, none⟩ = some (.int .i64 x.fr) := a1
      have a2 : (wr.drewN nq).cell? ⟨b1, o1 + i * 3 + 2, none⟩ = some (.int .i64 x.to) := a2
      clear HO HB
      generalize wr.drewN nq = W6 at *
      have b0 : RowKit.Below w.heap.size w (W6.alloc (.cells #[.int .i64 x.src, .int .i64 x.fr, .int .i64 x.to] 68)) := HB6.out.alloc HB6.out.size _
      have HOA : Hid ((W6.alloc (.cells #[.int .i64 x.src, .int .i64 x.fr, .int .i64 x.to] 68)).ownsRow w.heap.size 68 3 (.slice B 0 d) 0 (flat encSl os)) := own_alloc HO6.out _
      have HBA := Lib.hid b0
      have HRD : Hid (Rd (W6.alloc (.cells #[.int .i64 x.src, .int .i64 x.fr, .int .i64 x.to] 68)) 3 (some ⟨W6.heap.size, 0, none⟩) 1 (encSl x)) := ⟨rfl, fun _ => ⟨W6.heap.size, 0, rfl, by simp, fun j u hu => by rw [Nat.zero_add, (show Bl (W6.alloc (.cells #[.int .i64 x.src, .int .i64 x.fr, .int .i64 x.to] 68)) W6.heap.size 68 (encSl x).toArray from Bl.new _ _ _).cell]; simpa using hu⟩⟩
      have HON := Lib.hid (encSl_one x)
      have HM1 : Hid (0 + 1 ≤ maxLen ∧ (0 + 1) * 24 ≤ 140737488355328) := ⟨by unfold maxLen; omega, by omega⟩
      clear b0
      go_wp2_with (at_builtin; refine wpList_append_rd _ rfl (.tmp 54) (.tmp 59) 34 rfl w.heap.size 68 _ 3 24 Tryz.underlying34 infoSl rfl (by decide) (.slice B 0 d) 0 (flat encSl os) rfl HOA.out (some ⟨W6.heap.size, 0, none⟩) 1 _ (encSl x) rfl HRD.out HON.out HM1.out.1 HM1.out.2 HBA.out.size ?_; intro v8 w8 ho8 hg8 hv8; obtain ⟨B8, d8, rfl⟩ := own_slice ho8)
      have hb8 : RowKit.Below w.heap.size w w8 := HBA.out.grown hg8 HBA.out.size (fun j hj => own_base HOA.out j hj)
      go_roundw
      case rel => exact ⟨i + 1, B8, 0 + 1, d8, os ++ [x], by go_num, rfl, by omega, by omega, (by show _ = _; rw [HST.out]; exact HJS.out.symm), (by show _ = _; rw [List.length_append, HK.out]; rfl), (by show World.ownsRow _ _ _ _ _ _ _; rw [flat_append, flat_one]; exact ho8), hb8⟩
      case measure => simp [intOf]; omega
    case neg =>
    have dz : decide (0 < k) = true := by simp; omega
    obtain ⟨g, hA⟩ := own_addr HO.out (by omega)
    subst hA
    obtain ⟨y, hy⟩ : ∃ y, os[k - 1]! = y := ⟨_, rfl⟩
    have hc : ∀ c, c < 3 → wr.cell? ⟨g, (k - 1) * 3 + c, none⟩ = some ((encSl y)[c]!) := fun c hc => by rw [← hy]; exact own_cellK encSl_len HO.out (by rw [HK.out]; omega) hc HK.out
    have c0 : wr.cell? ⟨g, (k - 1) * 3, none⟩ = some (.int .i64 y.src) := hc 0 (by omega)
    have c2 : wr.cell? ⟨g, (k - 1) * 3 + 2, none⟩ = some (.int .i64 y.to) := hc 2 (by omega)
    have cf2 : wr.frozen? ⟨g, (k - 1) * 3 + 2, none⟩ = false := HO.out.frozenAt _
    have hk1 : (k : Int) - 1 = ((k - 1 : Nat) : Int) := by omega
    have u1 : IntKind.i64.wrap ((k : Int) - 1) = ((k - 1 : Nat) : Int) := by rw [hk1]; exact IntWalk.i64_in _ (by omega)
    have hkk : ((k - 1 : Nat) : Int) < (k : Int) := by omega
    have hkz : (0 : Int) ≤ ((k - 1 : Nat) : Int) := by omega
    have HLY : Hid (os[os.length - 1]! = y) := by show _ = _; rw [HK.out]; exact hy
    clear hc hk1 hy
    by_cases e1 : y.src = x.src
    case neg =>
      have d1 : (y.src == x.src) = false := by simpa using e1
      have HJS : Hid (jstep os x = os ++ [x]) := jstep_keep (y := y) (fun h0 => ⟨HLY.out, fun h => e1 h.1⟩)
      clear e1
      go_upto_region 6 with (fail)
      go_quiet (fail)
      have HO6 : Hid ((wr.drewN nq).ownsRow w.heap.size 68 3 (.slice (some ⟨g, 0, none⟩) k d) k (flat encSl os)) := own_drewN HO.out nq
      have HB6 : Hid (RowKit.Below w.heap.size w (wr.drewN nq)) := below_drewN HB.out nq
      have a0 : (wr.drewN nq).cell? ⟨b1, o1 + i * 3, none⟩ = some (.int .i64 x.src) := a0
      have a1 : (wr.drewN nq).cell? ⟨b1, o1 + i * 3 + 1, none⟩ = some (.int .i64 x.fr) := a1
      have a2 : (wr.drewN nq).cell? ⟨b1, o1 + i * 3 + 2, none⟩ = some (.int .i64 x.to) := a2
      clear HO HB
      clear c0 c2 cf2
      generalize wr.drewN nq = W6 at *
      have b0 : RowKit.Below w.heap.size w (W6.alloc (.cells #[.int .i64 x.src, .int .i64 x.fr, .int .i64 x.to] 68)) := HB6.out.alloc HB6.out.size _
      have HOA : Hid ((W6.alloc (.cells #[.int .i64 x.src, .int .i64 x.fr, .int .i64 x.to] 68)).ownsRow w.heap.size 68 3 (.slice (some ⟨g, 0, none⟩) k d) k (flat encSl os)) := own_alloc HO6.out _
      have HBA := Lib.hid b0
      have HRD : Hid (Rd (W6.alloc (.cells #[.int .i64 x.src, .int .i64 x.fr, .int .i64 x.to] 68)) 3 (some ⟨W6.heap.size, 0, none⟩) 1 (encSl x)) := ⟨rfl, fun _ => ⟨W6.heap.size, 0, rfl, by simp, fun j u hu => by rw [Nat.zero_add, (show Bl (W6.alloc (.cells #[.int .i64 x.src, .int .i64 x.fr, .int .i64 x.to] 68)) W6.heap.size 68 (encSl x).toArray from Bl.new _ _ _).cell]; simpa using hu⟩⟩
      have HON := Lib.hid (encSl_one x)
      have HM1 : Hid (k + 1 ≤ maxLen ∧ (k + 1) * 24 ≤ 140737488355328) := ⟨by unfold maxLen; omega, by omega⟩
      clear b0
      go_wp2_with (at_builtin; refine wpList_append_rd _ rfl (.tmp 54) (.tmp 59) 34 rfl w.heap.size 68 _ 3 24 Tryz.underlying34 infoSl rfl (by decide) (.slice (some ⟨g, 0, none⟩) k d) k (flat encSl os) rfl HOA.out (some ⟨W6.heap.size, 0, none⟩) 1 _ (encSl x) rfl HRD.out HON.out HM1.out.1 HM1.out.2 HBA.out.size ?_; intro v8 w8 ho8 hg8 hv8; obtain ⟨B8, d8, rfl⟩ := own_slice ho8)
      have hb8 : RowKit.Below w.heap.size w w8 := HBA.out.grown hg8 HBA.out.size (fun j hj => own_base HOA.out j hj)
      go_roundw
      case rel => exact ⟨i + 1, B8, k + 1, d8, os ++ [x], by go_num, rfl, by omega, by omega, (by show _ = _; rw [HST.out]; exact HJS.out.symm), (by show _ = _; rw [List.length_append, HK.out]; rfl), (by show World.ownsRow _ _ _ _ _ _ _; rw [flat_append, flat_one]; exact ho8), hb8⟩
      case measure => simp [intOf]; omega
    case pos =>
    have d1 : (y.src == x.src) = true := by simpa using e1
    by_cases e2 : y.to = x.fr
    case neg =>
      have d2 : (y.to == x.fr) = false := by simpa using e2
      have HJS : Hid (jstep os x = os ++ [x]) := jstep_keep (y := y) (fun h0 => ⟨HLY.out, fun h => e2 h.2⟩)
      clear e1 e2
      go_upto_region 6 with (fail)
      go_quiet (fail)
      have HO6 : Hid ((wr.drewN nq).ownsRow w.heap.size 68 3 (.slice (some ⟨g, 0, none⟩) k d) k (flat encSl os)) := own_drewN HO.out nq
      have HB6 : Hid (RowKit.Below w.heap.size w (wr.drewN nq)) := below_drewN HB.out nq
      have a0 : (wr.drewN nq).cell? ⟨b1, o1 + i * 3, none⟩ = some (.int .i64 x.src) := a0
      have a1 : (wr.drewN nq).cell? ⟨b1, o1 + i * 3 + 1, none⟩ = some (.int .i64 x.fr) := a1
      have a2 : (wr.drewN nq).cell? ⟨b1, o1 + i * 3 + 2, none⟩ = some (.int .i64 x.to) := a2
      clear HO HB
      clear c0 c2 cf2
      generalize wr.drewN nq = W6 at *
      have b0 : RowKit.Below w.heap.size w (W6.alloc (.cells #[.int .i64 x.src, .int .i64 x.fr, .int .i64 x.to] 68)) := HB6.out.alloc HB6.out.size _
      have HOA : Hid ((W6.alloc (.cells #[.int .i64 x.src, .int .i64 x.fr, .int .i64 x.to] 68)).ownsRow w.heap.size 68 3 (.slice (some ⟨g, 0, none⟩) k d) k (flat encSl os)) := own_alloc HO6.out _
      have HBA := Lib.hid b0
      have HRD : Hid (Rd (W6.alloc (.cells #[.int .i64 x.src, .int .i64 x.fr, .int .i64 x.to] 68)) 3 (some ⟨W6.heap.size, 0, none⟩) 1 (encSl x)) := ⟨rfl, fun _ => ⟨W6.heap.size, 0, rfl, by simp, fun j u hu => by rw [Nat.zero_add, (show Bl (W6.alloc (.cells #[.int .i64 x.src, .int .i64 x.fr, .int .i64 x.to] 68)) W6.heap.size 68 (encSl x).toArray from Bl.new _ _ _).cell]; simpa using hu⟩⟩
      have HON := Lib.hid (encSl_one x)
      have HM1 : Hid (k + 1 ≤ maxLen ∧ (k + 1) * 24 ≤ 140737488355328) := ⟨by unfold maxLen; omega, by omega⟩
      clear b0
      go_wp2_with (at_builtin; refine wpList_append_rd _ rfl (.tmp 54) (.tmp 59) 34 rfl w.heap.size 68 _ 3 24 Tryz.underlying34 infoSl rfl (by decide) (.slice (some ⟨g, 0, none⟩) k d) k (flat encSl os) rfl HOA.out (some ⟨W6.heap.size, 0, none⟩) 1 _ (encSl x) rfl HRD.out HON.out HM1.out.1 HM1.out.2 HBA.out.size ?_; intro v8 w8 ho8 hg8 hv8; obtain ⟨B8, d8, rfl⟩ := own_slice ho8)
      have hb8 : RowKit.Below w.heap.size w w8 := HBA.out.grown hg8 HBA.out.size (fun j hj => own_base HOA.out j hj)
      go_roundw
      case rel => exact ⟨i + 1, B8, k + 1, d8, os ++ [x], by go_num, rfl, by omega, by omega, (by show _ = _; rw [HST.out]; exact HJS.out.symm), (by show _ = _; rw [List.length_append, HK.out]; rfl), (by show World.ownsRow _ _ _ _ _ _ _; rw [flat_append, flat_one]; exact ho8), hb8⟩
      case measure => simp [intOf]; omega
    case pos =>
      have d2 : (y.to == x.fr) = true := by simpa using e2
      have HJS : Hid (jstep os x = os.set (k - 1) ⟨y.src, y.fr, x.to⟩) := by
        have := jstep_join (out := os) (x := x) (by rw [HK.out]; omega) HLY.out e1 e2
        rwa [HK.out] at this
      have hkl : k - 1 < os.length := by rw [HK.out]; omega
      have HLY2 : Hid (os[k - 1]! = y) := by have := HLY.out; rwa [HK.out] at this
      clear e1 e2
      go_upto_region 6 with (fail)
      go_quiet (fail)
      have HO6 : Hid ((wr.drewN nq).ownsRow w.heap.size 68 3 (.slice (some ⟨g, 0, none⟩) k d) k (flat encSl os)) := own_drewN HO.out nq
      have HB6 : Hid (RowKit.Below w.heap.size w (wr.drewN nq)) := below_drewN HB.out nq
      have a0 : (wr.drewN nq).cell? ⟨b1, o1 + i * 3, none⟩ = some (.int .i64 x.src) := a0
      have a1 : (wr.drewN nq).cell? ⟨b1, o1 + i * 3 + 1, none⟩ = some (.int .i64 x.fr) := a1
      have a2 : (wr.drewN nq).cell? ⟨b1, o1 + i * 3 + 2, none⟩ = some (.int .i64 x.to) := a2
      clear HO HB
      have c2 : (wr.drewN nq).cell? ⟨g, (k - 1) * 3 + 2, none⟩ = some (.int .i64 y.to) := c2
      have cf2 : (wr.drewN nq).frozen? ⟨g, (k - 1) * 3 + 2, none⟩ = false := cf2
      generalize wr.drewN nq = W6 at *
      have HO7 : Hid ((W6.setCell ⟨g, (k - 1) * 3 + 2, none⟩ (.int .i64 x.to)).ownsRow w.heap.size 68 3 (.slice (some ⟨g, 0, none⟩) k d) k (flat encSl (os.set (k - 1) ⟨y.src, y.fr, x.to⟩))) := own_setK (c := 2) encSl_len HO6.out (by omega) hkl (by rw [HLY2.out]; rfl)
      have HB7 : Hid (RowKit.Below w.heap.size w (W6.setCell ⟨g, (k - 1) * 3 + 2, none⟩ (.int .i64 x.to))) := HB6.out.setCell (p := ⟨g, (k - 1) * 3 + 2, none⟩) (own_base HO6.out g rfl) _
      go_wp2_with fail
      go_roundw
      case rel => exact ⟨i + 1, some ⟨g, 0, none⟩, k, d, os.set (k - 1) ⟨y.src, y.fr, x.to⟩, by go_num, rfl, by omega, by omega, (by show _ = _; rw [HST.out]; exact HJS.out.symm), (by show _ = _; rw [List.length_set]; exact HK.out), HO7, HB7⟩
      case measure => simp [intOf]; omega
end Go.Proofs.YthnhgjhnkncmiaaGreat

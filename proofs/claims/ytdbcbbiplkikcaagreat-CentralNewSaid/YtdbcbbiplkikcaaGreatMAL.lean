/-
  Words for the central authority: what its rows hold. No statement of the seat is proved here. No conditions.
  How quotas and guarantees that came in are opened. No statement of the seat is proved here. No conditions.
  The contracts of slices.Clone at the rows of the centre. No statement of the seat is proved here. Conditions: lengths up to 100000 elements.
  The central authority in memory: as it reads, and with rows of the call's own. No statement of the seat is proved here. No conditions.
  Rows of the call's own: one cell of one element is written. No statement of the seat is proved here. No conditions.
  The contract of central.send. No statement of the seat is proved here. Conditions: rows of the call's own; at most 100000 messages.
-/
import Derived.Test.YtdbcbbiplkikcaaGreatMAK
import Derived.Test.YtdbcbbiplkikcaaGreatMAI
import Derived.Shelf.SlicesE.Clone
import Derived.Deep.AppendLies
import Derived.Test.YtdbcbbiplkikcaaGreatMAE
namespace Go.Proofs.YtdbcbbiplkikcaaGreat
open Go.RowKit
set_option linter.unusedVariables false

/-- A receipt. -/
structure Rcp where
  frm : Int
  num : Int
  err : Int
deriving Inhabited
def encRc (r : Rcp) : List Value := [.int .i64 r.frm, .int .i64 r.num, .int .i64 r.err]
theorem encRc_len (r : Rcp) : (encRc r).length = 3 := rfl
theorem encRc_one (r : Rcp) : ∀ v ∈ encRc r, v.oneCell' = true := fun v hv => by
  simp [encRc] at hv
  rcases hv with rfl | rfl | rfl <;> rfl
/-- A book: its quota, the slice of its facts and the facts. -/
structure Qb where
  q : Qt
  A : Option Addr
  n : Nat
  c : Nat
  fs : List Fct
deriving Inhabited
def encB (b : Qb) : List Value := [.int .i64 b.q.id, .int .i64 b.q.vol, .int .i64 b.q.fr, .int .i64 b.q.tod, .slice b.A b.n b.c]
theorem encB_len (b : Qb) : (encB b).length = 5 := rfl
theorem encB_one (b : Qb) : ∀ v ∈ encB b, v.oneCell' = true := fun v hv => by
  simp [encB] at hv
  rcases hv with rfl | rfl | rfl | rfl | rfl <;> rfl
/-- A guarantee: its head, the slice of its reservations and these. -/
structure Gb where
  h : Gh
  A : Option Addr
  n : Nat
  c : Nat
  us : List (Int × Int)
deriving Inhabited
def encGu (g : Gb) : List Value := [.int .i64 g.h.id, .int .i64 g.h.ref, .int .i64 g.h.lev, .slice g.A g.n g.c]
theorem encGu_len (g : Gb) : (encGu g).length = 4 := rfl
theorem encGu_one (g : Gb) : ∀ v ∈ encGu g, v.oneCell' = true := fun v hv => by
  simp [encGu] at hv
  rcases hv with rfl | rfl | rfl | rfl <;> rfl
/-- A quota. -/
def encQ (q : Qt) : List Value := [.int .i64 q.id, .int .i64 q.vol, .int .i64 q.fr, .int .i64 q.tod]
theorem encQ_len (q : Qt) : (encQ q).length = 4 := rfl
theorem encQ_one (q : Qt) : ∀ v ∈ encQ q, v.oneCell' = true := fun v hv => by
  simp [encQ] at hv
  rcases hv with rfl | rfl | rfl | rfl <;> rfl
/-- A message of the centre. -/
structure Snt where
  kind : Int
  dst : Int
  num : Int
  day : Int
  lot : Int
  oth : Int
  qty : Int
  amt : Int
deriving Inhabited
def encS (s : Snt) : List Value := [.int .i64 s.kind, .int .i64 0, .int .i64 s.dst, .int .i64 s.num, .int .i64 s.day, .int .i64 s.lot, .int .i64 s.oth, .string ByteArray.empty, .string ByteArray.empty, .int .i64 s.qty, .int .i64 s.amt, .slice none 0 0, .string ByteArray.empty]
theorem encS_len (s : Snt) : (encS s).length = 13 := rfl
theorem encS_one (s : Snt) : ∀ v ∈ encS s, v.oneCell' = true := fun v hv => by
  simp [encS] at hv
  rcases hv with rfl | rfl | rfl | rfl | rfl | rfl | rfl | rfl | rfl | rfl | rfl | rfl | rfl <;> rfl

/-- A slice that reads as records, with a plain address. -/
structure RRd {α : Type} [Inhabited α] (enc : α → List Value) (k : Nat) (w : World) (A : Option Addr) (n : Nat) (xs : List α) : Prop where
  recs : Recs enc k w A n xs
  plain : Plain A
  nil : A = none → n = 0
section
variable {α : Type} [Inhabited α] {enc : α → List Value} {k n c : Nat} {w w' : World} {A : Option Addr} {xs : List α}
theorem RRd.below (h : RRd enc k w A n xs) (hb : RowKit.Below w.heap.size w w') : RRd enc k w' A n xs := ⟨h.recs.below hb, h.plain, h.nil⟩
theorem RRd.empty (enc : α → List Value) (k : Nat) (w : World) : RRd enc k w none 0 [] := ⟨Recs.nil, .inl rfl, fun _ => rfl⟩
theorem RRd.own {N : Nat} {T : TypeId} (hk : ∀ x, (enc x).length = k) (h : w.ownsRow N T k (.slice A n c) n (flat enc xs)) (hl : xs.length = n) : RRd enc k w A n xs := by
  refine ⟨Recs.of_own hk h hl, ?_, ?_⟩
  · rcases h.2 with ⟨hv, h0⟩ | ⟨g', cap, cur, hv, _⟩
    · injection hv with h5; exact .inl h5
    · injection hv with h5; exact .inr ⟨g', 0, h5⟩
  · rintro rfl
    rcases h.2 with ⟨hv, h0⟩ | ⟨g', cap, cur, hv, _⟩
    · exact h0
    · injection hv with h5; cases h5
theorem RRd.of_block (h : RRd enc k w A n xs) (hs : w.heap.size ≤ w'.heap.size) (hb : ∀ b, (Value.slice A n c).ownBlock = some b → w'.heap[b]? = w.heap[b]?) : RRd enc k w' A n xs := by
  refine ⟨⟨h.recs.1, fun h0 => ?_⟩, h.plain, h.nil⟩
  obtain ⟨b, off, e, hb', hc⟩ := h.recs.2 h0
  refine ⟨b, off, e, by omega, fun i hi c' hcc => ?_⟩
  rw [← hc i hi c' hcc]
  exact World.cell?_of_block (a := ⟨b, off + i * k + c', none⟩) (hb b (by rw [e]; rfl))
end

/-- What quota i of New's list makes of it. -/
def newQ (qs : List Qt) (i : Nat) : Int := if qOk qs[i]! = true then (if 0 < i ∧ qs[i]!.id ≤ qs[i - 1]!.id then 9 else 0) else 2
/-- What guarantee i of New's list makes of it. -/
def newG (gs : List Gb) (i : Nat) : Int := if gErr gs[i]!.h gs[i]!.us = 0 then (if gs[i]!.us = [] then (if 0 < i ∧ gs[i]!.h.id ≤ gs[i - 1]!.h.id then 9 else 0) else 1) else gErr gs[i]!.h gs[i]!.us
/-- The error of New. -/
def newErr (qs : List Qt) (gs : List Gb) : Int := if 16 < qs.length ∨ 16 < gs.length then 8 else if firstErr (newQ qs) qs.length = 0 then firstErr (newG gs) gs.length else firstErr (newQ qs) qs.length
/-- A book without facts; a guarantee without reservations. -/
def bk0 (q : Qt) : Qb := ⟨q, none, 0, 0, []⟩
def gr0 (g : Gb) : Gb := ⟨g.h, none, 0, 0, []⟩
end Go.Proofs.YtdbcbbiplkikcaaGreat

namespace Go.Proofs.YtdbcbbiplkikcaaGreat
open Go.RowKit Go.ChangeShapes Go.WideShapes Go.Deep
set_option linter.unusedVariables false

section
variable {H : Type} {enc : TypeId × Value → H} {w : World} {base : Nat} {spare : Nat → Bool} {held : Bool}
set_option maxRecDepth 100000 in
theorem open_quotas {r : Reach} {b0 : Nat} {v : Value} {dd : DataW H} {p : List MemPlace} (hv : Value.okWide Tryz.prog w r b0 22 v) (h : DataW.Trod enc Tryz.prog w base spare held 22 v dd p) :
    ∃ (A : Option Addr) (n c : Nat) (qs : List Qt), v = .slice A n c ∧ Recs encQ 4 w A n qs ∧ n ≤ c ∧ c ≤ 9223372036854775807 ∧ (A = none → n = 0 ∧ c = 0) ∧ ∀ q ∈ qs, (Lit.int .i64 q.vol).wf = true := by
  obtain ⟨A, n, c, rfl⟩ := okWide_slice Tryz.underlying22 hv
  obtain ⟨fuel, hf⟩ := h
  obtain ⟨qs, h1, h2, h3, h4, h5⟩ := open_recs (en := encQ) (Q := fun q : Qt => (Lit.int .i64 q.vol).wf = true) (k := 4) (by omega) Tryz.underlying22 (by kernel_rfl) (fun cs' n y hlen h2 => by
    obtain ⟨xs, m, _, _, _, hxl, hf⟩ := DataW.trod_struct Tryz.underlying27 h2
    match xs, hxl, cs', hlen with
    | [y0, y1, y2, y3], _, [v0, v1, v2, v3], _ =>
      have g0 := hf 0 _ rfl
      have g1 := hf 1 _ rfl
      have g2 := hf 2 _ rfl
      have g3 := hf 3 _ rfl
      have ci : Tryz.prog.cellsOf 3 = 1 := by kernel_rfl
      simp [ci] at g0 g1 g2 g3
      obtain ⟨z0, e0, _, _⟩ := DataW.trod_int Tryz.underlying3 g0
      obtain ⟨z1, e1, _, w1⟩ := DataW.trod_int Tryz.underlying3 g1
      obtain ⟨z2, e2, _, _⟩ := DataW.trod_int Tryz.underlying3 g2
      obtain ⟨z3, e3, _, _⟩ := DataW.trod_int Tryz.underlying3 g3
      simp at e0 e1 e2 e3
      subst e0 e1 e2 e3
      exact ⟨⟨z0, z1, z2, z3⟩, rfl, w1⟩) hf
  exact ⟨A, n, c, qs, rfl, h1, h2, h3, h4, h5⟩

set_option maxRecDepth 100000 in
theorem open_guars {r : Reach} {b0 : Nat} {v : Value} {dd : DataW H} {p : List MemPlace} (hv : Value.okWide Tryz.prog w r b0 23 v) (h : DataW.Trod enc Tryz.prog w base spare held 23 v dd p) :
    ∃ (A : Option Addr) (n c : Nat) (gs : List Gb), v = .slice A n c ∧ Recs encGu 4 w A n gs ∧ n ≤ c ∧ c ≤ 9223372036854775807 ∧ (A = none → n = 0 ∧ c = 0) ∧ ∀ g ∈ gs, (Lit.int .i64 g.h.ref).wf = true ∧ Recs enc2 2 w g.A g.n g.us := by
  obtain ⟨A, n, c, rfl⟩ := okWide_slice Tryz.underlying23 hv
  obtain ⟨fuel, hf⟩ := h
  obtain ⟨gs, h1, h2, h3, h4, h5⟩ := open_recs (en := encGu) (Q := fun g : Gb => (Lit.int .i64 g.h.ref).wf = true ∧ Recs enc2 2 w g.A g.n g.us) (k := 4) (by omega) Tryz.underlying23 (by kernel_rfl) (fun cs' n y hlen h2 => by
    obtain ⟨xs, m, _, _, _, hxl, hf⟩ := DataW.trod_struct Tryz.underlying30 h2
    match xs, hxl, cs', hlen with
    | [y0, y1, y2, y3], _, [v0, v1, v2, v3], _ =>
      have g0 := hf 0 _ rfl
      have g1 := hf 1 _ rfl
      have g2 := hf 2 _ rfl
      have g3 := hf 3 _ rfl
      have ci : Tryz.prog.cellsOf 3 = 1 := by kernel_rfl
      have cr : Tryz.prog.cellsOf 28 = 1 := by kernel_rfl
      simp [ci, cr] at g0 g1 g2 g3
      obtain ⟨z0, e0, _, _⟩ := DataW.trod_int Tryz.underlying3 g0
      obtain ⟨z1, e1, _, w1⟩ := DataW.trod_int Tryz.underlying3 g1
      obtain ⟨z2, e2, _, _⟩ := DataW.trod_int Tryz.underlying3 g2
      obtain ⟨A3, n3, c3, e3⟩ := slice_cell Tryz.underlying28 g3
      simp at e0 e1 e2
      subst e0 e1 e2 e3
      obtain ⟨us, k1, _⟩ := open_pairs Tryz.underlying28 Tryz.underlying32 (by kernel_rfl) rfl rfl (by kernel_rfl) (by kernel_rfl) Tryz.underlying3 Tryz.underlying3 g3
      exact ⟨⟨⟨z0, z1, z2⟩, A3, n3, c3, us⟩, rfl, w1, k1⟩) hf
  exact ⟨A, n, c, gs, rfl, h1, h2, h3, h4, h5⟩
end
end Go.Proofs.YtdbcbbiplkikcaaGreat

namespace Go.Proofs.YtdbcbbiplkikcaaGreat
open Go.RowKit Go.Shelf
set_option linter.unusedVariables false

/-- What Clone returns: a row of the call's own. -/
def CloRes {α : Type} (enc : α → List Value) (T : TypeId) (k : Nat) (w : World) (n : Nat) (xs : List α) (e : Ending) (w' : World) : Prop := ∃ (B : Option Addr) (d : Nat), e = .returned (.slice B n d) ∧ w'.ownsRow w.heap.size T k (.slice B n d) n (flat enc xs) ∧ RowKit.Below w.heap.size w w'

theorem info37R : (Tryz.prog.info? 85).map (fun i => (i.zero, i.size, i.bytes)) = some (some (.agg #[.int .i64 0, .int .i64 0, .int .i64 0]), 3, 24) := by kernel_rfl
theorem own0R (w : World) (b : Nat) : w.ownsRow b 85 3 (.slice none 0 0) 0 (flat encRc []) := ⟨by simp [flat], .inl ⟨rfl, rfl⟩⟩
set_option maxRecDepth 100000 in
theorem cloneR_any (A : Option Addr) (n c : Nat) (xs : List Rcp) (w : World) (h : RRd encRc 3 w A n xs) (hn : n ≤ 100000) :
    Calls Tryz.prog 46 #[.slice A n c] w (CloRes encRc 85 3 w n xs) := by
  rcases h.plain with rfl | ⟨b, off, rfl⟩
  · obtain rfl : n = 0 := h.nil rfl
    obtain rfl : xs = [] := List.eq_nil_of_length_eq_zero h.recs.1
    refine (AnyE.slices_Clone_nil Tryz.cloneR 0 c w).mono ?_
    rintro e w' ⟨rfl, rfl⟩
    exact ⟨none, 0, rfl, own0R _ _, Below.refl _ _⟩
  · obtain ⟨i0, hi, hz0, hz1, hz2⟩ := info_parts info37R
    refine (AnyE.slices_Clone Tryz.cloneR i0 _ 3 24 hi hz0 hz1 hz2 rfl (by decide) Tryz.sizeOf85 b off n c (flat encRc xs) w (by rw [flat_length encRc_len, h.recs.1]) (by unfold maxLen; omega) (by omega) (Recs.cells encRc_len (by omega) h.recs) (fun u hu => by
      obtain ⟨x, _, hx⟩ := List.mem_flatMap.1 hu
      exact encRc_one x u hx)).mono ?_
    rintro e w' ⟨v', rfl, ho, _, hb⟩
    obtain ⟨B, d, rfl⟩ := own_slice ho
    exact ⟨B, d, rfl, ho, hb⟩

theorem info37B : (Tryz.prog.info? 54).map (fun i => (i.zero, i.size, i.bytes)) = some (some (.agg #[.int .i64 0, .int .i64 0, .int .i64 0, .int .i64 0, .slice none 0 0]), 5, 56) := by kernel_rfl
theorem own0B (w : World) (b : Nat) : w.ownsRow b 54 5 (.slice none 0 0) 0 (flat encB []) := ⟨by simp [flat], .inl ⟨rfl, rfl⟩⟩
set_option maxRecDepth 100000 in
theorem cloneB_any (A : Option Addr) (n c : Nat) (xs : List Qb) (w : World) (h : RRd encB 5 w A n xs) (hn : n ≤ 100000) :
    Calls Tryz.prog 47 #[.slice A n c] w (CloRes encB 54 5 w n xs) := by
  rcases h.plain with rfl | ⟨b, off, rfl⟩
  · obtain rfl : n = 0 := h.nil rfl
    obtain rfl : xs = [] := List.eq_nil_of_length_eq_zero h.recs.1
    refine (AnyE.slices_Clone_nil Tryz.cloneB 0 c w).mono ?_
    rintro e w' ⟨rfl, rfl⟩
    exact ⟨none, 0, rfl, own0B _ _, Below.refl _ _⟩
  · obtain ⟨i0, hi, hz0, hz1, hz2⟩ := info_parts info37B
    refine (AnyE.slices_Clone Tryz.cloneB i0 _ 5 56 hi hz0 hz1 hz2 rfl (by decide) Tryz.sizeOf54 b off n c (flat encB xs) w (by rw [flat_length encB_len, h.recs.1]) (by unfold maxLen; omega) (by omega) (Recs.cells encB_len (by omega) h.recs) (fun u hu => by
      obtain ⟨x, _, hx⟩ := List.mem_flatMap.1 hu
      exact encB_one x u hx)).mono ?_
    rintro e w' ⟨v', rfl, ho, _, hb⟩
    obtain ⟨B, d, rfl⟩ := own_slice ho
    exact ⟨B, d, rfl, ho, hb⟩

theorem info37G : (Tryz.prog.info? 30).map (fun i => (i.zero, i.size, i.bytes)) = some (some (.agg #[.int .i64 0, .int .i64 0, .int .i64 0, .slice none 0 0]), 4, 48) := by kernel_rfl
theorem own0G (w : World) (b : Nat) : w.ownsRow b 30 4 (.slice none 0 0) 0 (flat encGu []) := ⟨by simp [flat], .inl ⟨rfl, rfl⟩⟩
set_option maxRecDepth 100000 in
theorem cloneG_any (A : Option Addr) (n c : Nat) (xs : List Gb) (w : World) (h : RRd encGu 4 w A n xs) (hn : n ≤ 100000) :
    Calls Tryz.prog 49 #[.slice A n c] w (CloRes encGu 30 4 w n xs) := by
  rcases h.plain with rfl | ⟨b, off, rfl⟩
  · obtain rfl : n = 0 := h.nil rfl
    obtain rfl : xs = [] := List.eq_nil_of_length_eq_zero h.recs.1
    refine (AnyE.slices_Clone_nil Tryz.cloneG 0 c w).mono ?_
    rintro e w' ⟨rfl, rfl⟩
    exact ⟨none, 0, rfl, own0G _ _, Below.refl _ _⟩
  · obtain ⟨i0, hi, hz0, hz1, hz2⟩ := info_parts info37G
    refine (AnyE.slices_Clone Tryz.cloneG i0 _ 4 48 hi hz0 hz1 hz2 rfl (by decide) Tryz.sizeOf30 b off n c (flat encGu xs) w (by rw [flat_length encGu_len, h.recs.1]) (by unfold maxLen; omega) (by omega) (Recs.cells encGu_len (by omega) h.recs) (fun u hu => by
      obtain ⟨x, _, hx⟩ := List.mem_flatMap.1 hu
      exact encGu_one x u hx)).mono ?_
    rintro e w' ⟨v', rfl, ho, _, hb⟩
    obtain ⟨B, d, rfl⟩ := own_slice ho
    exact ⟨B, d, rfl, ho, hb⟩

theorem info37U : (Tryz.prog.info? 32).map (fun i => (i.zero, i.size, i.bytes)) = some (some (.agg #[.int .i64 0, .int .i64 0]), 2, 16) := by kernel_rfl
theorem own0U (w : World) (b : Nat) : w.ownsRow b 32 2 (.slice none 0 0) 0 (flat enc2 []) := ⟨by simp [flat], .inl ⟨rfl, rfl⟩⟩
set_option maxRecDepth 100000 in
theorem cloneU_any (A : Option Addr) (n c : Nat) (xs : List (Int × Int)) (w : World) (h : RRd enc2 2 w A n xs) (hn : n ≤ 100000) :
    Calls Tryz.prog 50 #[.slice A n c] w (CloRes enc2 32 2 w n xs) := by
  rcases h.plain with rfl | ⟨b, off, rfl⟩
  · obtain rfl : n = 0 := h.nil rfl
    obtain rfl : xs = [] := List.eq_nil_of_length_eq_zero h.recs.1
    refine (AnyE.slices_Clone_nil Tryz.cloneU 0 c w).mono ?_
    rintro e w' ⟨rfl, rfl⟩
    exact ⟨none, 0, rfl, own0U _ _, Below.refl _ _⟩
  · obtain ⟨i0, hi, hz0, hz1, hz2⟩ := info_parts info37U
    refine (AnyE.slices_Clone Tryz.cloneU i0 _ 2 16 hi hz0 hz1 hz2 rfl (by decide) Tryz.sizeOf32 b off n c (flat enc2 xs) w (by rw [flat_length enc2_len, h.recs.1]) (by unfold maxLen; omega) (by omega) (Recs.cells enc2_len (by omega) h.recs) (fun u hu => by
      obtain ⟨x, _, hx⟩ := List.mem_flatMap.1 hu
      exact enc2_one x u hx)).mono ?_
    rintro e w' ⟨v', rfl, ho, _, hb⟩
    obtain ⟨B, d, rfl⟩ := own_slice ho
    exact ⟨B, d, rfl, ho, hb⟩

theorem info37S : (Tryz.prog.info? 48).map (fun i => (i.zero, i.size, i.bytes)) = some (some (.agg #[.int .i64 0, .int .i64 0, .int .i64 0, .int .i64 0, .int .i64 0, .int .i64 0, .int .i64 0, .string ByteArray.empty, .string ByteArray.empty, .int .i64 0, .int .i64 0, .slice none 0 0, .string ByteArray.empty]), 13, 144) := by kernel_rfl
theorem own0S (w : World) (b : Nat) : w.ownsRow b 48 13 (.slice none 0 0) 0 (flat encS []) := ⟨by simp [flat], .inl ⟨rfl, rfl⟩⟩
set_option maxRecDepth 100000 in
theorem cloneS_any (A : Option Addr) (n c : Nat) (xs : List Snt) (w : World) (h : RRd encS 13 w A n xs) (hn : n ≤ 100000) :
    Calls Tryz.prog 51 #[.slice A n c] w (CloRes encS 48 13 w n xs) := by
  rcases h.plain with rfl | ⟨b, off, rfl⟩
  · obtain rfl : n = 0 := h.nil rfl
    obtain rfl : xs = [] := List.eq_nil_of_length_eq_zero h.recs.1
    refine (AnyE.slices_Clone_nil Tryz.cloneS 0 c w).mono ?_
    rintro e w' ⟨rfl, rfl⟩
    exact ⟨none, 0, rfl, own0S _ _, Below.refl _ _⟩
  · obtain ⟨i0, hi, hz0, hz1, hz2⟩ := info_parts info37S
    refine (AnyE.slices_Clone Tryz.cloneS i0 _ 13 144 hi hz0 hz1 hz2 rfl (by decide) Tryz.sizeOf48 b off n c (flat encS xs) w (by rw [flat_length encS_len, h.recs.1]) (by unfold maxLen; omega) (by omega) (Recs.cells encS_len (by omega) h.recs) (fun u hu => by
      obtain ⟨x, _, hx⟩ := List.mem_flatMap.1 hu
      exact encS_one x u hx)).mono ?_
    rintro e w' ⟨v', rfl, ho, _, hb⟩
    obtain ⟨B, d, rfl⟩ := own_slice ho
    exact ⟨B, d, rfl, ho, hb⟩
end Go.Proofs.YtdbcbbiplkikcaaGreat

namespace Go.Proofs.YtdbcbbiplkikcaaGreat
open Go.RowKit
set_option linter.unusedVariables false

/-- The head of a slice. -/
structure Hd where
  A : Option Addr
  n : Nat
  c : Nat
/-- The heads of the rows of the centre. -/
structure Hds where
  s : Hd
  q : Hd
  g : Hd
  k : Hd
  m : Hd
/-- What the centre knows. -/
structure Cen where
  seen : List Rcp
  qs : List Qb
  gs : List Gb
  cov : List (Int × Int)
  sent : List Snt
/-- The centre as it reads. -/
structure CenAt (w : World) (H : Hds) (C : Cen) : Prop where
  seen : RRd encRc 3 w H.s.A H.s.n C.seen
  qs : RRd encB 5 w H.q.A H.q.n C.qs
  gs : RRd encGu 4 w H.g.A H.g.n C.gs
  cov : RRd enc2 2 w H.k.A H.k.n C.cov
  sent : RRd encS 13 w H.m.A H.m.n C.sent
  facts : ∀ b ∈ C.qs, FRd w b.A b.n b.c b.fs
  uses : ∀ g ∈ C.gs, RRd enc2 2 w g.A g.n g.us
/-- The centre with rows of the call's own. -/
structure CenO (N : Nat) (w : World) (H : Hds) (C : Cen) : Prop where
  seen : w.ownsRow N 85 3 (.slice H.s.A H.s.n H.s.c) H.s.n (flat encRc C.seen)
  qs : w.ownsRow N 54 5 (.slice H.q.A H.q.n H.q.c) H.q.n (flat encB C.qs)
  gs : w.ownsRow N 30 4 (.slice H.g.A H.g.n H.g.c) H.g.n (flat encGu C.gs)
  cov : w.ownsRow N 32 2 (.slice H.k.A H.k.n H.k.c) H.k.n (flat enc2 C.cov)
  sent : w.ownsRow N 48 13 (.slice H.m.A H.m.n H.m.c) H.m.n (flat encS C.sent)
  facts : ∀ b ∈ C.qs, w.ownsRow N 122 5 (.slice b.A b.n b.c) b.n (flat encF b.fs)
  uses : ∀ g ∈ C.gs, w.ownsRow N 32 2 (.slice g.A g.n g.c) g.n (flat enc2 g.us)
/-- No reservations of a guarantee lie in the row of what is covered. -/
def CovApart (H : Hds) (C : Cen) : Prop := ∀ g ∈ C.gs, ∀ b, (Value.slice g.A g.n g.c).ownBlock = some b → (Value.slice H.k.A H.k.n H.k.c).ownBlock ≠ some b

theorem own_lenK {α : Type} {enc : α → List Value} {k : Nat} (hk : ∀ x, (enc x).length = k) (hk0 : 0 < k) {w : World} {N : Nat} {T : TypeId} {A : Option Addr} {n c : Nat} {xs : List α} (h : w.ownsRow N T k (.slice A n c) n (flat enc xs)) : xs.length = n := by
  have h1 := h.1
  rw [flat_length hk] at h1
  exact Nat.eq_of_mul_eq_mul_right hk0 h1
section
variable {N : Nat} {w w' : World} {H : Hds} {C : Cen}
theorem CenO.at_ (h : CenO N w H C) : CenAt w H C :=
  ⟨RRd.own encRc_len h.seen (own_lenK encRc_len (by omega) h.seen), RRd.own encB_len h.qs (own_lenK encB_len (by omega) h.qs), RRd.own encGu_len h.gs (own_lenK encGu_len (by omega) h.gs), RRd.own enc2_len h.cov (own_lenK enc2_len (by omega) h.cov), RRd.own encS_len h.sent (own_lenK encS_len (by omega) h.sent),
    fun b hb => FRd.own (h.facts b hb) (own_lenK encF_len (by omega) (h.facts b hb)), fun g hg => RRd.own enc2_len (h.uses g hg) (own_lenK enc2_len (by omega) (h.uses g hg))⟩
theorem CenAt.below (h : CenAt w H C) (hb : RowKit.Below w.heap.size w w') : CenAt w' H C :=
  ⟨h.seen.below hb, h.qs.below hb, h.gs.below hb, h.cov.below hb, h.sent.below hb, fun b k => (h.facts b k).below hb, fun g k => (h.uses g k).below hb⟩
/-- All that the rows need of a later world: their blocks are as they were. -/
theorem CenO.of_blocks (h : CenO N w H C) (hk : ∀ b, b < w.heap.size → w'.heap[b]? = w.heap[b]?) : CenO N w' H C :=
  ⟨own_of_block h.seen fun g e => hk g (own_lt h.seen g e), own_of_block h.qs fun g e => hk g (own_lt h.qs g e), own_of_block h.gs fun g e => hk g (own_lt h.gs g e), own_of_block h.cov fun g e => hk g (own_lt h.cov g e), own_of_block h.sent fun g e => hk g (own_lt h.sent g e),
    fun b k => own_of_block (h.facts b k) fun g e => hk g (own_lt (h.facts b k) g e), fun b k => own_of_block (h.uses b k) fun g e => hk g (own_lt (h.uses b k) g e)⟩
theorem CenO.below (h : CenO N w H C) (hb : RowKit.Below w.heap.size w w') : CenO N w' H C := h.of_blocks fun b hlt => hb.block b hlt
end
/-- Rows of different element types lie in different blocks. -/
theorem own_diff {w : World} {N M : Nat} {T U : TypeId} {k l n m : Nat} {u v : Value} {xs ys : List Value} (h : w.ownsRow N T k u n xs) (h' : w.ownsRow M U l v m ys) (hne : T ≠ U) : ∀ g, u.ownBlock = some g → some g ≠ v.ownBlock := by
  intro g hg e
  rcases h.2 with ⟨hv, _⟩ | ⟨g1, c1, r1, hv, _, hh, _⟩
  · rw [hv] at hg; cases hg
  · rw [hv] at hg
    have e1 : g1 = g := by simpa [Value.ownBlock] using hg
    rcases h'.2 with ⟨hv', _⟩ | ⟨g2, c2, r2, hv', _, hh', _⟩
    · rw [hv'] at e; cases e
    · rw [hv'] at e
      have e2 : g = g2 := by simpa [Value.ownBlock] using e
      subst e1 e2
      rw [hh] at hh'
      injection hh' with hh'
      injection hh' with _ h4
      exact hne h4
section
variable {N : Nat} {w w' : World} {H : Hds} {C : Cen}
/-- The row of what was sent has changed; nothing else has. -/
theorem CenO.sent' (h : CenO N w H C) {B : Option Addr} {n d : Nat} {xs : List Snt} (hk : ∀ b, b < w.heap.size → some b ≠ (Value.slice H.m.A H.m.n H.m.c).ownBlock → w'.heap[b]? = w.heap[b]?) (ho : w'.ownsRow N 48 13 (.slice B n d) n (flat encS xs)) : CenO N w' { H with m := ⟨B, n, d⟩ } { C with sent := xs } :=
  ⟨own_of_block h.seen fun g e => hk g (own_lt h.seen g e) (own_diff h.seen h.sent (by decide) g e), own_of_block h.qs fun g e => hk g (own_lt h.qs g e) (own_diff h.qs h.sent (by decide) g e), own_of_block h.gs fun g e => hk g (own_lt h.gs g e) (own_diff h.gs h.sent (by decide) g e), own_of_block h.cov fun g e => hk g (own_lt h.cov g e) (own_diff h.cov h.sent (by decide) g e), ho,
    fun b k => own_of_block (h.facts b k) fun g e => hk g (own_lt (h.facts b k) g e) (own_diff (h.facts b k) h.sent (by decide) g e), fun b k => own_of_block (h.uses b k) fun g e => hk g (own_lt (h.uses b k) g e) (own_diff (h.uses b k) h.sent (by decide) g e)⟩
theorem CenO.seen' (h : CenO N w H C) {B : Option Addr} {n d : Nat} {xs : List Rcp} (hk : ∀ b, b < w.heap.size → some b ≠ (Value.slice H.s.A H.s.n H.s.c).ownBlock → w'.heap[b]? = w.heap[b]?) (ho : w'.ownsRow N 85 3 (.slice B n d) n (flat encRc xs)) : CenO N w' { H with s := ⟨B, n, d⟩ } { C with seen := xs } :=
  ⟨ho, own_of_block h.qs fun g e => hk g (own_lt h.qs g e) (own_diff h.qs h.seen (by decide) g e), own_of_block h.gs fun g e => hk g (own_lt h.gs g e) (own_diff h.gs h.seen (by decide) g e), own_of_block h.cov fun g e => hk g (own_lt h.cov g e) (own_diff h.cov h.seen (by decide) g e), own_of_block h.sent fun g e => hk g (own_lt h.sent g e) (own_diff h.sent h.seen (by decide) g e),
    fun b k => own_of_block (h.facts b k) fun g e => hk g (own_lt (h.facts b k) g e) (own_diff (h.facts b k) h.seen (by decide) g e), fun b k => own_of_block (h.uses b k) fun g e => hk g (own_lt (h.uses b k) g e) (own_diff (h.uses b k) h.seen (by decide) g e)⟩
/-- The row of what is covered has changed; the reservations lie elsewhere. -/
theorem CenO.cov' (h : CenO N w H C) (ha : CovApart H C) {B : Option Addr} {n d : Nat} {xs : List (Int × Int)} (hk : ∀ b, b < w.heap.size → some b ≠ (Value.slice H.k.A H.k.n H.k.c).ownBlock → w'.heap[b]? = w.heap[b]?) (ho : w'.ownsRow N 32 2 (.slice B n d) n (flat enc2 xs)) : CenO N w' { H with k := ⟨B, n, d⟩ } { C with cov := xs } :=
  ⟨own_of_block h.seen fun g e => hk g (own_lt h.seen g e) (own_diff h.seen h.cov (by decide) g e), own_of_block h.qs fun g e => hk g (own_lt h.qs g e) (own_diff h.qs h.cov (by decide) g e), own_of_block h.gs fun g e => hk g (own_lt h.gs g e) (own_diff h.gs h.cov (by decide) g e), ho, own_of_block h.sent fun g e => hk g (own_lt h.sent g e) (own_diff h.sent h.cov (by decide) g e),
    fun b k => own_of_block (h.facts b k) fun g e => hk g (own_lt (h.facts b k) g e) (own_diff (h.facts b k) h.cov (by decide) g e), fun b k => own_of_block (h.uses b k) fun g e => hk g (own_lt (h.uses b k) g e) (fun e2 => ha b k g e e2.symm)⟩
/-- The row of the books has changed. -/
theorem CenO.qs' (h : CenO N w H C) {B : Option Addr} {n d : Nat} {xs : List Qb} (hk : ∀ b, b < w.heap.size → some b ≠ (Value.slice H.q.A H.q.n H.q.c).ownBlock → w'.heap[b]? = w.heap[b]?) (ho : w'.ownsRow N 54 5 (.slice B n d) n (flat encB xs)) (hf : ∀ b ∈ xs, w'.ownsRow N 122 5 (.slice b.A b.n b.c) b.n (flat encF b.fs)) : CenO N w' { H with q := ⟨B, n, d⟩ } { C with qs := xs } :=
  ⟨own_of_block h.seen fun g e => hk g (own_lt h.seen g e) (own_diff h.seen h.qs (by decide) g e), ho, own_of_block h.gs fun g e => hk g (own_lt h.gs g e) (own_diff h.gs h.qs (by decide) g e), own_of_block h.cov fun g e => hk g (own_lt h.cov g e) (own_diff h.cov h.qs (by decide) g e), own_of_block h.sent fun g e => hk g (own_lt h.sent g e) (own_diff h.sent h.qs (by decide) g e),
    hf, fun b k => own_of_block (h.uses b k) fun g e => hk g (own_lt (h.uses b k) g e) (own_diff (h.uses b k) h.qs (by decide) g e)⟩
/-- The row of the guarantees has changed. -/
theorem CenO.gs' (h : CenO N w H C) {B : Option Addr} {n d : Nat} {xs : List Gb} (hk : ∀ b, b < w.heap.size → some b ≠ (Value.slice H.g.A H.g.n H.g.c).ownBlock → w'.heap[b]? = w.heap[b]?) (ho : w'.ownsRow N 30 4 (.slice B n d) n (flat encGu xs)) (hu : ∀ g ∈ xs, w'.ownsRow N 32 2 (.slice g.A g.n g.c) g.n (flat enc2 g.us)) : CenO N w' { H with g := ⟨B, n, d⟩ } { C with gs := xs } :=
  ⟨own_of_block h.seen fun g e => hk g (own_lt h.seen g e) (own_diff h.seen h.gs (by decide) g e), own_of_block h.qs fun g e => hk g (own_lt h.qs g e) (own_diff h.qs h.gs (by decide) g e), ho, own_of_block h.cov fun g e => hk g (own_lt h.cov g e) (own_diff h.cov h.gs (by decide) g e), own_of_block h.sent fun g e => hk g (own_lt h.sent g e) (own_diff h.sent h.gs (by decide) g e),
    fun b k => own_of_block (h.facts b k) fun g e => hk g (own_lt (h.facts b k) g e) (own_diff (h.facts b k) h.gs (by decide) g e), hu⟩
end
end Go.Proofs.YtdbcbbiplkikcaaGreat

namespace Go.Proofs.YtdbcbbiplkikcaaGreat
open Go.RowKit
set_option linter.unusedVariables false

theorem flat_set {α : Type} [Inhabited α] {enc : α → List Value} {k : Nat} (hk : ∀ x, (enc x).length = k) {v : Value} {y : α} {c : Nat} (hc : c < k) : ∀ (xs : List α) (i : Nat), i < xs.length → enc y = (enc xs[i]!).set c v → flat enc (xs.set i y) = (flat enc xs).set (i * k + c) v := by
  intro xs
  induction xs with
  | nil => intro i h; cases h
  | cons x xs ih =>
    intro i h e
    cases i with
    | zero =>
      have e' : enc y = (enc x).set c v := e
      show enc y ++ flat enc xs = (enc x ++ flat enc xs).set (0 * k + c) v
      rw [Nat.zero_mul, Nat.zero_add, List.set_append_left _ _ (by rw [hk]; exact hc), e']
    | succ i =>
      have hi : i < xs.length := by simpa using h
      have e' : enc y = (enc xs[i]!).set c v := by simpa using e
      show enc x ++ flat enc (xs.set i y) = (enc x ++ flat enc xs).set ((i + 1) * k + c) v
      have h1 : (i + 1) * k + c = k + (i * k + c) := by rw [Nat.add_mul, Nat.one_mul]; omega
      rw [h1, List.set_append_right _ _ (by rw [hk]; omega), hk, Nat.add_sub_cancel_left, ih i hi e']
theorem own_setK {α : Type} [Inhabited α] {enc : α → List Value} {k : Nat} (hk : ∀ x, (enc x).length = k) {w : World} {N : Nat} {T : TypeId} {g n cap : Nat} {xs : List α} {v : Value} {y : α} {c i : Nat} (h : w.ownsRow N T k (.slice (some ⟨g, 0, none⟩) n cap) n (flat enc xs)) (hc : c < k) (hi : i < xs.length) (e : enc y = (enc xs[i]!).set c v) :
    (w.setCell ⟨g, i * k + c, none⟩ v).ownsRow N T k (.slice (some ⟨g, 0, none⟩) n cap) n (flat enc (xs.set i y)) := by
  rw [flat_set hk hc xs i hi e]
  exact (h.stored (i * k + c) v).1
/-- An owned row with an element has an address. -/
theorem own_addr {w : World} {N : Nat} {T : TypeId} {k n cap : Nat} {A : Option Addr} {xs : List Value} (h : w.ownsRow N T k (.slice A n cap) n xs) (hn : 0 < n) : ∃ g, A = some ⟨g, 0, none⟩ := by
  rcases h.2 with ⟨_, h0⟩ | ⟨g, c', cur, hv, _⟩
  · omega
  · injection hv with h5; exact ⟨g, h5⟩
theorem own_cellK {α : Type} [Inhabited α] {enc : α → List Value} {k : Nat} (hk : ∀ x, (enc x).length = k) {w : World} {N : Nat} {T : TypeId} {g n cap : Nat} {xs : List α} (h : w.ownsRow N T k (.slice (some ⟨g, 0, none⟩) n cap) n (flat enc xs)) {i c : Nat} (hi : i < xs.length) (hc : c < k) (hn : xs.length = n) : w.cell? ⟨g, i * k + c, none⟩ = some ((enc xs[i]!)[c]!) := by
  rw [h.cellAt (i * k + c) (by rw [← hn]; have := Nat.mul_le_mul_right k hi; rw [Nat.succ_mul] at this; omega), flat_get hk xs i c hi hc]
theorem get_setK {α : Type} [Inhabited α] (xs : List α) (i j : Nat) (y : α) (hi : i < xs.length) : (xs.set i y)[j]! = if i = j then y else xs[j]! := by
  by_cases e : i = j
  · subst e; rw [if_pos rfl, getElem!_pos (xs.set i y) i (by simpa using hi)]; simp
  · rw [if_neg e]
    by_cases hj : j < xs.length
    · rw [getElem!_pos (xs.set i y) j (by simpa using hj), getElem!_pos xs j hj, List.getElem_set_ne e]
    · rw [getElem!_neg (xs.set i y) j (by simpa using hj), getElem!_neg xs j hj]
end Go.Proofs.YtdbcbbiplkikcaaGreat

namespace Go.Proofs.YtdbcbbiplkikcaaGreat
open Go.RowKit
set_option linter.unusedVariables false

/-- A block of a centre's box is no row of it. -/
theorem CenO.far {N : Nat} {w w' : World} {H : Hds} {C : Cen} {g : Nat} {cs : Array Value} (h : CenO N w H C) (hg : Bl w g 37 cs) (hk : ∀ b, b ≠ g → w'.heap[b]? = w.heap[b]?) : CenO N w' H C :=
  ⟨own_of_block h.seen fun b e => hk b (fun e2 => own_apart h.seen hg (by decide) (by rw [e, e2])), own_of_block h.qs fun b e => hk b (fun e2 => own_apart h.qs hg (by decide) (by rw [e, e2])), own_of_block h.gs fun b e => hk b (fun e2 => own_apart h.gs hg (by decide) (by rw [e, e2])), own_of_block h.cov fun b e => hk b (fun e2 => own_apart h.cov hg (by decide) (by rw [e, e2])), own_of_block h.sent fun b e => hk b (fun e2 => own_apart h.sent hg (by decide) (by rw [e, e2])),
    fun x hx => own_of_block (h.facts x hx) fun b e => hk b (fun e2 => own_apart (h.facts x hx) hg (by decide) (by rw [e, e2])), fun x hx => own_of_block (h.uses x hx) fun b e => hk b (fun e2 => own_apart (h.uses x hx) hg (by decide) (by rw [e, e2]))⟩
theorem CenO.setC {N : Nat} {w : World} {H : Hds} {C : Cen} {g : Nat} {cs : Array Value} (h : CenO N w H C) (hg : Bl w g 37 cs) (o : Nat) (v : Value) : CenO N (w.setCell ⟨g, o, none⟩ v) H C := h.far hg fun b hb => Below.heap_setCell _ _ _ b hb
/-- What send returns. -/
def SendRes (N : Nat) (w : World) (H : Hds) (C : Cen) (kind dst day lot oth qty amt : Int) (e : Ending) (w' : World) : Prop :=
  ∃ (num : Int) (B : Option Addr) (d : Nat), e = .returned (.agg #[.slice H.s.A H.s.n H.s.c, .slice H.q.A H.q.n H.q.c, .slice H.g.A H.g.n H.g.c, .slice H.k.A H.k.n H.k.c, .slice B (H.m.n + 1) d]) ∧ CenO N w' { H with m := ⟨B, H.m.n + 1, d⟩ } { C with sent := C.sent ++ [⟨kind, dst, num, day, lot, oth, qty, amt⟩] } ∧ RowKit.Below N w w' ∧ ((Value.slice B (H.m.n + 1) d).ownBlock = (Value.slice H.m.A H.m.n H.m.c).ownBlock ∨ ∃ g, w.heap.size ≤ g ∧ (Value.slice B (H.m.n + 1) d).ownBlock = some g) ∧ ∀ b, b < w.heap.size → some b ≠ (Value.slice H.m.A H.m.n H.m.c).ownBlock → w'.heap[b]? = w.heap[b]?
theorem heap_set5 {w : World} {r b : Nat} (hb : b ≠ r) (v0 v1 v2 v3 v4 : Value) : (((((w.setCell ⟨r, 0, none⟩ v0).setCell ⟨r, 1, none⟩ v1).setCell ⟨r, 2, none⟩ v2).setCell ⟨r, 3, none⟩ v3).setCell ⟨r, 4, none⟩ v4).heap[b]? = w.heap[b]? := ((((Below.heap_setCell _ _ _ b hb).trans (Below.heap_setCell _ _ _ b hb)).trans (Below.heap_setCell _ _ _ b hb)).trans (Below.heap_setCell _ _ _ b hb)).trans (Below.heap_setCell _ _ _ b hb)

set_option maxRecDepth 100000 in
set_option maxHeartbeats 8000000 in
theorem send_any (N : Nat) (H : Hds) (C : Cen) (kind dst day lot oth qty amt : Int) (w : World) (hO : CenO N w H C) (hN : N ≤ w.heap.size) (hn : H.m.n ≤ 100000) :
    Calls Tryz.prog 77 #[.agg #[.slice H.s.A H.s.n H.s.c, .slice H.q.A H.q.n H.q.c, .slice H.g.A H.g.n H.g.c, .slice H.k.A H.k.n H.k.c, .slice H.m.A H.m.n H.m.c], .agg #[.int .i64 kind, .int .i64 0, .int .i64 dst, .int .i64 0, .int .i64 day, .int .i64 lot, .int .i64 oth, .string ByteArray.empty, .string ByteArray.empty, .int .i64 qty, .int .i64 amt, .slice none 0 0, .string ByteArray.empty]] w (SendRes N w H C kind dst day lot oth qty amt) := by
  obtain ⟨Hs, Hq, Hg, Hk, ⟨mA, mn, mc⟩⟩ := H
  have HO := Lib.hid hO
  have HN := Lib.hid hN
  have HSR := Lib.hid hO.at_.sent.recs
  simp only at hn
  clear hO hN
  obtain ⟨W0, hW0⟩ : ∃ W, W = ((w.alloc (.cells #[.slice Hs.A Hs.n Hs.c, .slice Hq.A Hq.n Hq.c, .slice Hg.A Hg.n Hg.c, .slice Hk.A Hk.n Hk.c, .slice mA mn mc] 37)).alloc (.cells #[.int .i64 kind, .int .i64 0, .int .i64 dst, .int .i64 0, .int .i64 day, .int .i64 lot, .int .i64 oth, .string ByteArray.empty, .string ByteArray.empty, .int .i64 qty, .int .i64 amt, .slice none 0 0, .string ByteArray.empty] 48)).alloc (.cells #[.slice none 0 0, .slice none 0 0, .slice none 0 0, .slice none 0 0, .slice none 0 0] 37) := ⟨_, rfl⟩
  have hx0 : Bl W0 w.heap.size 37 #[.slice Hs.A Hs.n Hs.c, .slice Hq.A Hq.n Hq.c, .slice Hg.A Hg.n Hg.c, .slice Hk.A Hk.n Hk.c, .slice mA mn mc] := by rw [hW0]; exact ((Bl.new w _ _).alloc _).alloc _
  have hm0 : Bl W0 (w.heap.size + 1) 48 #[.int .i64 kind, .int .i64 0, .int .i64 dst, .int .i64 0, .int .i64 day, .int .i64 lot, .int .i64 oth, .string ByteArray.empty, .string ByteArray.empty, .int .i64 qty, .int .i64 amt, .slice none 0 0, .string ByteArray.empty] := by rw [hW0]; have := (Bl.new (w.alloc (.cells #[.slice Hs.A Hs.n Hs.c, .slice Hq.A Hq.n Hq.c, .slice Hg.A Hg.n Hg.c, .slice Hk.A Hk.n Hk.c, .slice mA mn mc] 37)) 48 #[.int .i64 kind, .int .i64 0, .int .i64 dst, .int .i64 0, .int .i64 day, .int .i64 lot, .int .i64 oth, .string ByteArray.empty, .string ByteArray.empty, .int .i64 qty, .int .i64 amt, .slice none 0 0, .string ByteArray.empty]).alloc (.cells #[.slice none 0 0, .slice none 0 0, .slice none 0 0, .slice none 0 0, .slice none 0 0] 37); simpa using this
  have hr0 : Bl W0 (w.heap.size + 1 + 1) 37 #[.slice none 0 0, .slice none 0 0, .slice none 0 0, .slice none 0 0, .slice none 0 0] := by rw [hW0]; have := Bl.new ((w.alloc (.cells #[.slice Hs.A Hs.n Hs.c, .slice Hq.A Hq.n Hq.c, .slice Hg.A Hg.n Hg.c, .slice Hk.A Hk.n Hk.c, .slice mA mn mc] 37)).alloc (.cells #[.int .i64 kind, .int .i64 0, .int .i64 dst, .int .i64 0, .int .i64 day, .int .i64 lot, .int .i64 oth, .string ByteArray.empty, .string ByteArray.empty, .int .i64 qty, .int .i64 amt, .slice none 0 0, .string ByteArray.empty] 48)) 37 #[.slice none 0 0, .slice none 0 0, .slice none 0 0, .slice none 0 0, .slice none 0 0]; simpa using this
  have hb0 : RowKit.Below w.heap.size w W0 := by rw [hW0]; exact (((Below.refl _ _).alloc (Nat.le_refl _) _).alloc (by simp) _).alloc (by simp; omega) _
  go_enter Tryz.func77, Tryz.ntmps77
  go_upto_region 1 with (fail)
  rw [← hW0]
  clear hW0
  have n3 : W0.cell? ⟨w.heap.size + 1, 3, none⟩ = some (.int .i64 0) := hm0.cell 3
  have nf : W0.frozen? ⟨w.heap.size + 1, 3, none⟩ = false := hm0.free 3
  have hm1 : Bl (W0.setCell ⟨w.heap.size + 1, 3, none⟩ (.int .i64 1)) (w.heap.size + 1) 48 #[.int .i64 kind, .int .i64 0, .int .i64 dst, .int .i64 1, .int .i64 day, .int .i64 lot, .int .i64 oth, .string ByteArray.empty, .string ByteArray.empty, .int .i64 qty, .int .i64 amt, .slice none 0 0, .string ByteArray.empty] := by have := hm0.put 3 (.int .i64 1); simpa using this
  have hx1 := hx0.far (p := ⟨w.heap.size + 1, 3, none⟩) (by simp) (.int .i64 1)
  have hr1 := hr0.far (p := ⟨w.heap.size + 1, 3, none⟩) (by simp) (.int .i64 1)
  have hb1 : RowKit.Below w.heap.size w (W0.setCell ⟨w.heap.size + 1, 3, none⟩ (.int .i64 1)) := hb0.setCell (p := ⟨w.heap.size + 1, 3, none⟩) (by simp) _
  go_upto_region 2 with (fail)
  clear n3 nf hm0 hx0 hr0 hb0
  generalize W0.setCell ⟨w.heap.size + 1, 3, none⟩ (.int .i64 1) = W1 at *
  have x4 : W1.cell? ⟨w.heap.size, 4, none⟩ = some (.slice mA mn mc) := hx1.c4
  go_wp2_with fail
  go_loopw [11] (fun i wx => ∃ (k : Nat) (num : Int), k ≤ mn ∧ i = .int .i64 k ∧ 1 ≤ num ∧ num ≤ (k : Int) + 1 ∧ Hid (Bl wx w.heap.size 37 #[.slice Hs.A Hs.n Hs.c, .slice Hq.A Hq.n Hq.c, .slice Hg.A Hg.n Hg.c, .slice Hk.A Hk.n Hk.c, .slice mA mn mc]) ∧ Hid (Bl wx (w.heap.size + 1) 48 #[.int .i64 kind, .int .i64 0, .int .i64 dst, .int .i64 num, .int .i64 day, .int .i64 lot, .int .i64 oth, .string ByteArray.empty, .string ByteArray.empty, .int .i64 qty, .int .i64 amt, .slice none 0 0, .string ByteArray.empty]) ∧ Hid (Bl wx (w.heap.size + 1 + 1) 37 #[.slice none 0 0, .slice none 0 0, .slice none 0 0, .slice none 0 0, .slice none 0 0]) ∧ Hid (RowKit.Below w.heap.size w wx)) (fun i _ => mn - (intOf i).toNat)
  case atStart => exact ⟨0, 1, Nat.zero_le _, rfl, by omega, by omega, hx1, hm1, hr1, hb1⟩
  case round =>
    clear x4 hx1 hm1 hr1 hb1
    obtain ⟨k, num, hk, rfl, hn1, hn2, HX, HM, HR, HB⟩ := hrel
    by_cases hlt : k < mn
    · obtain ⟨b, off, hA, hbl, hc⟩ := (HSR.out.below HB.out).at_ hlt
      obtain ⟨x, hxx⟩ : ∃ x, C.sent[k]! = x := ⟨_, rfl⟩
      rw [hxx] at hc
      subst hA
      have hki : (k : Int) < mn := by omega
      have a0 : wr.cell? ⟨b, off + k * 13, none⟩ = some (.int .i64 x.kind) := hc 0 (by omega)
      have a1 : wr.cell? ⟨b, off + k * 13 + 1, none⟩ = some (.int .i64 0) := hc 1 (by omega)
      have a2 : wr.cell? ⟨b, off + k * 13 + 2, none⟩ = some (.int .i64 x.dst) := hc 2 (by omega)
      have a3 : wr.cell? ⟨b, off + k * 13 + 3, none⟩ = some (.int .i64 x.num) := hc 3 (by omega)
      have a4 : wr.cell? ⟨b, off + k * 13 + 4, none⟩ = some (.int .i64 x.day) := hc 4 (by omega)
      have a5 : wr.cell? ⟨b, off + k * 13 + 5, none⟩ = some (.int .i64 x.lot) := hc 5 (by omega)
      have a6 : wr.cell? ⟨b, off + k * 13 + 6, none⟩ = some (.int .i64 x.oth) := hc 6 (by omega)
      have a7 : wr.cell? ⟨b, off + k * 13 + 7, none⟩ = some (.string ByteArray.empty) := hc 7 (by omega)
      have a8 : wr.cell? ⟨b, off + k * 13 + 8, none⟩ = some (.string ByteArray.empty) := hc 8 (by omega)
      have a9 : wr.cell? ⟨b, off + k * 13 + 9, none⟩ = some (.int .i64 x.qty) := hc 9 (by omega)
      have a10 : wr.cell? ⟨b, off + k * 13 + 10, none⟩ = some (.int .i64 x.amt) := hc 10 (by omega)
      have a11 : wr.cell? ⟨b, off + k * 13 + 11, none⟩ = some (.slice none 0 0) := hc 11 (by omega)
      have a12 : wr.cell? ⟨b, off + k * 13 + 12, none⟩ = some (.string ByteArray.empty) := hc 12 (by omega)
      have hy4 := Bl.new wr 48 #[.int .i64 x.kind, .int .i64 0, .int .i64 x.dst, .int .i64 x.num, .int .i64 x.day, .int .i64 x.lot, .int .i64 x.oth, .string ByteArray.empty, .string ByteArray.empty, .int .i64 x.qty, .int .i64 x.amt, .slice none 0 0, .string ByteArray.empty]
      have HX4 := Lib.hid (HX.out.alloc (.cells #[.int .i64 x.kind, .int .i64 0, .int .i64 x.dst, .int .i64 x.num, .int .i64 x.day, .int .i64 x.lot, .int .i64 x.oth, .string ByteArray.empty, .string ByteArray.empty, .int .i64 x.qty, .int .i64 x.amt, .slice none 0 0, .string ByteArray.empty] 48))
      have HM4 := Lib.hid (HM.out.alloc (.cells #[.int .i64 x.kind, .int .i64 0, .int .i64 x.dst, .int .i64 x.num, .int .i64 x.day, .int .i64 x.lot, .int .i64 x.oth, .string ByteArray.empty, .string ByteArray.empty, .int .i64 x.qty, .int .i64 x.amt, .slice none 0 0, .string ByteArray.empty] 48))
      have HR4 := Lib.hid (HR.out.alloc (.cells #[.int .i64 x.kind, .int .i64 0, .int .i64 x.dst, .int .i64 x.num, .int .i64 x.day, .int .i64 x.lot, .int .i64 x.oth, .string ByteArray.empty, .string ByteArray.empty, .int .i64 x.qty, .int .i64 x.amt, .slice none 0 0, .string ByteArray.empty] 48))
      have HB4 : Hid (RowKit.Below w.heap.size w (wr.alloc (.cells #[.int .i64 x.kind, .int .i64 0, .int .i64 x.dst, .int .i64 x.num, .int .i64 x.day, .int .i64 x.lot, .int .i64 x.oth, .string ByteArray.empty, .string ByteArray.empty, .int .i64 x.qty, .int .i64 x.amt, .slice none 0 0, .string ByteArray.empty] 48))) := HB.out.alloc HB.out.size _
      clear hc hxx hbl HX HM HR HB
      go_upto_region 5 with (fail)
      clear a0 a1 a2 a3 a4 a5 a6 a7 a8 a9 a10 a11 a12
      generalize wr.alloc (.cells #[.int .i64 x.kind, .int .i64 0, .int .i64 x.dst, .int .i64 x.num, .int .i64 x.day, .int .i64 x.lot, .int .i64 x.oth, .string ByteArray.empty, .string ByteArray.empty, .int .i64 x.qty, .int .i64 x.amt, .slice none 0 0, .string ByteArray.empty] 48) = W4 at *
      generalize wr.heap.size = g4 at *
      have y2 : W4.cell? ⟨g4, 2, none⟩ = some (.int .i64 x.dst) := hy4.cell 2
      have m2 : W4.cell? ⟨w.heap.size + 1, 2, none⟩ = some (.int .i64 dst) := HM4.out.cell 2
      have m3 : W4.cell? ⟨w.heap.size + 1, 3, none⟩ = some (.int .i64 num) := HM4.out.cell 3
      have mf : W4.frozen? ⟨w.heap.size + 1, 3, none⟩ = false := HM4.out.free 3
      by_cases g : x.dst = dst
      · have b1 : (x.dst == dst) = true := by simpa using g
        have u1 : IntKind.i64.wrap (num + 1) = num + 1 := IntWalk.i64_in _ (by omega)
        have HM5 : Hid (Bl (W4.setCell ⟨w.heap.size + 1, 3, none⟩ (.int .i64 (num + 1))) (w.heap.size + 1) 48 #[.int .i64 kind, .int .i64 0, .int .i64 dst, .int .i64 (num + 1), .int .i64 day, .int .i64 lot, .int .i64 oth, .string ByteArray.empty, .string ByteArray.empty, .int .i64 qty, .int .i64 amt, .slice none 0 0, .string ByteArray.empty]) := by show Bl _ _ _ _; have := HM4.out.put 3 (.int .i64 (num + 1)); simpa using this
        have HX5 := Lib.hid (HX4.out.far (p := ⟨w.heap.size + 1, 3, none⟩) (by simp) (.int .i64 (num + 1)))
        have HR5 := Lib.hid (HR4.out.far (p := ⟨w.heap.size + 1, 3, none⟩) (by simp) (.int .i64 (num + 1)))
        have HB5 : Hid (RowKit.Below w.heap.size w (W4.setCell ⟨w.heap.size + 1, 3, none⟩ (.int .i64 (num + 1)))) := HB4.out.setCell (p := ⟨w.heap.size + 1, 3, none⟩) (by simp) _
        clear g
        go_wp2_with fail
        go_roundw
        case rel => exact ⟨k + 1, num + 1, by omega, by go_num, by omega, by omega, HX5, HM5, HR5, HB5⟩
        case measure => simp [intOf]; omega
      · have b1 : (x.dst == dst) = false := by simpa using g
        clear g
        go_wp2_with fail
        go_roundw
        case rel => exact ⟨k + 1, num, by omega, by go_num, by omega, by omega, HX4, HM4, HR4, HB4⟩
        case measure => simp [intOf]; omega
    · obtain rfl : mn = k := by omega
      have HOA := Lib.hid ((HO.out.below HB.out).below ((Below.refl _ _).alloc (Nat.le_refl _) (.cells #[.int .i64 kind, .int .i64 0, .int .i64 dst, .int .i64 num, .int .i64 day, .int .i64 lot, .int .i64 oth, .string ByteArray.empty, .string ByteArray.empty, .int .i64 qty, .int .i64 amt, .slice none 0 0, .string ByteArray.empty] 48)))
      have HRD : Hid (Rd (wr.alloc (.cells #[.int .i64 kind, .int .i64 0, .int .i64 dst, .int .i64 num, .int .i64 day, .int .i64 lot, .int .i64 oth, .string ByteArray.empty, .string ByteArray.empty, .int .i64 qty, .int .i64 amt, .slice none 0 0, .string ByteArray.empty] 48)) 13 (some ⟨wr.heap.size, 0, none⟩) 1 (encS ⟨kind, dst, num, day, lot, oth, qty, amt⟩)) := rd_new wr 48 (encS ⟨kind, dst, num, day, lot, oth, qty, amt⟩)
      have HON : Hid (∀ u ∈ encS ⟨kind, dst, num, day, lot, oth, qty, amt⟩, u.oneCell' = true) := encS_one _
      have HM1 : Hid (mn + 1 ≤ maxLen ∧ (mn + 1) * 144 ≤ 140737488355328) := ⟨by unfold maxLen; omega, by omega⟩
      have HBA : Hid (RowKit.Below N w (wr.alloc (.cells #[.int .i64 kind, .int .i64 0, .int .i64 dst, .int .i64 num, .int .i64 day, .int .i64 lot, .int .i64 oth, .string ByteArray.empty, .string ByteArray.empty, .int .i64 qty, .int .i64 amt, .slice none 0 0, .string ByteArray.empty] 48))) := (HB.out.mono HN.out).alloc (Nat.le_trans HN.out HB.out.size) _
      have HNS : Hid (N ≤ (wr.alloc (.cells #[.int .i64 kind, .int .i64 0, .int .i64 dst, .int .i64 num, .int .i64 day, .int .i64 lot, .int .i64 oth, .string ByteArray.empty, .string ByteArray.empty, .int .i64 qty, .int .i64 amt, .slice none 0 0, .string ByteArray.empty] 48)).heap.size) := Nat.le_trans HN.out HBA.out.size
      have HSO := Lib.hid HOA.out.sent
      have HXA := Lib.hid (HX.out.alloc (.cells #[.int .i64 kind, .int .i64 0, .int .i64 dst, .int .i64 num, .int .i64 day, .int .i64 lot, .int .i64 oth, .string ByteArray.empty, .string ByteArray.empty, .int .i64 qty, .int .i64 amt, .slice none 0 0, .string ByteArray.empty] 48))
      have HRA := Lib.hid (HR.out.alloc (.cells #[.int .i64 kind, .int .i64 0, .int .i64 dst, .int .i64 num, .int .i64 day, .int .i64 lot, .int .i64 oth, .string ByteArray.empty, .string ByteArray.empty, .int .i64 qty, .int .i64 amt, .slice none 0 0, .string ByteArray.empty] 48))
      have x4 : wr.cell? ⟨w.heap.size, 4, none⟩ = some (.slice mA mn mc) := HX.out.c4
      have m0 : wr.cell? ⟨w.heap.size + 1, 0, none⟩ = some (.int .i64 kind) := HM.out.cell 0
      have m1 : wr.cell? ⟨w.heap.size + 1, 1, none⟩ = some (.int .i64 0) := HM.out.cell 1
      have m2 : wr.cell? ⟨w.heap.size + 1, 2, none⟩ = some (.int .i64 dst) := HM.out.cell 2
      have m3 : wr.cell? ⟨w.heap.size + 1, 3, none⟩ = some (.int .i64 num) := HM.out.cell 3
      have m4 : wr.cell? ⟨w.heap.size + 1, 4, none⟩ = some (.int .i64 day) := HM.out.cell 4
      have m5 : wr.cell? ⟨w.heap.size + 1, 5, none⟩ = some (.int .i64 lot) := HM.out.cell 5
      have m6 : wr.cell? ⟨w.heap.size + 1, 6, none⟩ = some (.int .i64 oth) := HM.out.cell 6
      have m7 : wr.cell? ⟨w.heap.size + 1, 7, none⟩ = some (.string ByteArray.empty) := HM.out.cell 7
      have m8 : wr.cell? ⟨w.heap.size + 1, 8, none⟩ = some (.string ByteArray.empty) := HM.out.cell 8
      have m9 : wr.cell? ⟨w.heap.size + 1, 9, none⟩ = some (.int .i64 qty) := HM.out.cell 9
      have m10 : wr.cell? ⟨w.heap.size + 1, 10, none⟩ = some (.int .i64 amt) := HM.out.cell 10
      have m11 : wr.cell? ⟨w.heap.size + 1, 11, none⟩ = some (.slice none 0 0) := HM.out.cell 11
      have m12 : wr.cell? ⟨w.heap.size + 1, 12, none⟩ = some (.string ByteArray.empty) := HM.out.cell 12
      go_wp2_with (at_builtin; refine wpList_append_rd _ rfl (.tmp 26) (.tmp 28) 35 rfl N 48 _ 13 144 Tryz.underlying35 info37S rfl (by decide) (.slice mA mn mc) mn (flat encS C.sent) rfl HSO.out (some ⟨wr.heap.size, 0, none⟩) 1 _ (encS ⟨kind, dst, num, day, lot, oth, qty, amt⟩) rfl HRD.out HON.out HM1.out.1 HM1.out.2 HNS.out ?_; intro v8 w8 ho8 hg8 hv8; obtain ⟨B8, d8, rfl⟩ := own_slice ho8; have HO8 := Lib.hid (HOA.out.sent' (fun b hlt hne => hg8.block b hlt hne) (xs := C.sent ++ [⟨kind, dst, num, day, lot, oth, qty, amt⟩]) (by rw [flat_append, flat_one]; exact ho8)); have HB8 : Hid (RowKit.Below N w w8) := HBA.out.grown hg8 HNS.out (fun j hj => own_base HSO.out j hj); have HX8 : Hid (Bl w8 w.heap.size 37 #[.slice Hs.A Hs.n Hs.c, .slice Hq.A Hq.n Hq.c, .slice Hg.A Hg.n Hg.c, .slice Hk.A Hk.n Hk.c, .slice mA mn mc]) := (hg8.block _ HXA.out.lt (fun e => own_apart HSO.out HXA.out (by decide) e)).trans HXA.out; have HR8 : Hid (Bl w8 (w.heap.size + 1 + 1) 37 #[.slice none 0 0, .slice none 0 0, .slice none 0 0, .slice none 0 0, .slice none 0 0]) := (hg8.block _ HRA.out.lt (fun e => own_apart HSO.out HRA.out (by decide) e)).trans HRA.out; have HV8 := Lib.hid hv8; have HG8 := Lib.hid hg8; clear hv8; have q0 := HX8.out.c0; have q1 := HX8.out.c1; have q2 := HX8.out.c2; have q3 := HX8.out.c3; have q4 := HX8.out.c4; have qf := HX8.out.free 4; have r0 := HR8.out.c0; have r1 := HR8.out.c1; have r2 := HR8.out.c2; have r3 := HR8.out.c3; have r4 := HR8.out.c4; have rf0 := HR8.out.free 0; have rf1 := HR8.out.free 1; have rf2 := HR8.out.free 2; have rf3 := HR8.out.free 3; have rf4 := HR8.out.free 4)
      all_goals (
        have HX9 : Hid (Bl (w8.setCell ⟨w.heap.size, 4, none⟩ (.slice B8 (mn + 1) d8)) (w.heap.size + 1 + 1) 37 #[.slice none 0 0, .slice none 0 0, .slice none 0 0, .slice none 0 0, .slice none 0 0]) := HR8.out.far (p := ⟨w.heap.size, 4, none⟩) (by simp; omega) _
        have HO9 := Lib.hid (HO8.out.setC HX8.out 4 (.slice B8 (mn + 1) d8))
        have HB9 : Hid (RowKit.Below N w (w8.setCell ⟨w.heap.size, 4, none⟩ (.slice B8 (mn + 1) d8))) := HB8.out.setCell (p := ⟨w.heap.size, 4, none⟩) HN.out _
        refine bodyPost_ret (v := .agg #[.slice Hs.A Hs.n Hs.c, .slice Hq.A Hq.n Hq.c, .slice Hg.A Hg.n Hg.c, .slice Hk.A Hk.n Hk.c, .slice B8 (mn + 1) d8]) (by simp [results, Tryz.results77, go_sem, r0, r1, r2, r3, r4]) rfl ?_
        exact ⟨num, B8, d8, rfl, HO9.out.far HX9.out (fun b hb => ((((Below.heap_setCell _ _ _ b hb).trans (Below.heap_setCell _ _ _ b hb)).trans (Below.heap_setCell _ _ _ b hb)).trans (Below.heap_setCell _ _ _ b hb)).trans (Below.heap_setCell _ _ _ b hb)), put5 HB9.out (Nat.le_trans HN.out (by omega)) _ _ _ _ _, HV8.out.imp id (fun e => ⟨_, Nat.le_trans HB.out.size (by simp), e⟩), fun b hb hne => (heap_set5 (by omega) _ _ _ _ _).trans ((Below.heap_setCell _ _ _ b (by simp; omega)).trans ((HG8.out.block b (by have := HB.out.size; simp; omega) hne).trans ((Below.heap_alloc wr _ b (by have := HB.out.size; omega)).trans (HB.out.block b hb))))⟩)
end Go.Proofs.YtdbcbbiplkikcaaGreat

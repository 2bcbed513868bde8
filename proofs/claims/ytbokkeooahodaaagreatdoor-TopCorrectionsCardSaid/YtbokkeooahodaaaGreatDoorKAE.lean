/-
  Words for memory: rows of strings, duty expressions, rows of measures. No statement of the seat is proved here. No conditions.
  Mathematics of a tally and of a difference: a map keyed by accounts and the list of its keys. No statement of the seat is proved here. Conditions: kinds and measures are machine integers.
  A region that draws its order: one invariant for all orders, each operation shown once. No statement of the seat is proved here.
-/
import Derived.Test.YtbokkeooahodaaaGreatDoorKAB
import Derived.Test.YtbokkeooahodaaaGreatDoorKAD
import Derived.Maps.Own
import Derived.Maps.OwnOps
import Derived.Maps.OwnSet
import Derived.Maps.Views
import Derived.DeepKeys4
import Derived.OrdersHeld
import Derived.Below
namespace Go.Proofs.YtbokkeooahodaaaGreatDoor
open Go.RowKit
set_option linter.unusedVariables false

def encS (s : ByteArray) : List Value := [.string s]
theorem encS_len (s : ByteArray) : (encS s).length = 1 := rfl
def Sr (w : World) (A : Option Addr) (n : Nat) (l : List ByteArray) : Prop := Recs encS 1 w A n l ∧ n ≤ 1000000 ∧ ∀ i, i < n → l[i]!.size ≤ 1000000
theorem Sr.below {w w' : World} {A : Option Addr} {n : Nat} {l : List ByteArray} (h : Sr w A n l) (hb : RowKit.Below w.heap.size w w') : Sr w' A n l := ⟨h.1.below hb, h.2⟩
theorem Sr.len {w : World} {A : Option Addr} {n : Nat} {l : List ByteArray} (h : Sr w A n l) : l.length = n := h.1.1
theorem Sr.nil {w : World} {A : Option Addr} : Sr w A 0 [] := ⟨Recs.nil, by omega, fun i hi => by omega⟩
theorem Sr.get {w : World} {A : Option Addr} {n : Nat} {l : List ByteArray} (h : Sr w A n l) {i : Nat} (hi : i < n) :
    ∃ b off s, A = some ⟨b, off, none⟩ ∧ b < w.heap.size ∧ w.cell? ⟨b, off + i, none⟩ = some (.string s) ∧ s.size ≤ 1000000 ∧ Hid (l[i]! = s) := by
  obtain ⟨b, off, e, hlt, hc⟩ := h.1.at_ hi
  have := hc 0 (by omega)
  rw [Nat.mul_one, Nat.add_zero] at this
  exact ⟨b, off, l[i]!, e, hlt, this, h.2.2 i hi, rfl⟩

def duA (d : Du) : Array Value := #[.int .i64 d.rate, .int .i64 d.am, .int .i64 d.per, .bool d.hm, .int .i64 d.most, .bool d.hl, .int .i64 d.least]
structure MsA where
  m : Ms
  A : Option Addr
  n : Nat
  c : Nat
deriving Inhabited
def encM (x : MsA) : List Value := [.int .i64 x.m.id, .int .i64 x.m.kind, .string x.m.pre, .slice x.A x.n x.c, .int .i64 x.m.co, .int .i64 x.m.fr, .int .i64 x.m.til, .int .i64 x.m.reg, .int .i64 x.m.du.rate, .int .i64 x.m.du.am, .int .i64 x.m.du.per, .bool x.m.du.hm, .int .i64 x.m.du.most, .bool x.m.du.hl, .int .i64 x.m.du.least]
theorem encM_len (x : MsA) : (encM x).length = 15 := rfl
theorem encM_one (x : MsA) : ∀ v ∈ encM x, v.oneCell' = true := fun v hv => by
  simp only [encM, List.mem_cons, List.not_mem_nil, or_false] at hv
  rcases hv with rfl | rfl | rfl | rfl | rfl | rfl | rfl | rfl | rfl | rfl | rfl | rfl | rfl | rfl | rfl <;> rfl
def msA (x : MsA) : Array Value := #[.int .i64 x.m.id, .int .i64 x.m.kind, .string x.m.pre, .slice x.A x.n x.c, .int .i64 x.m.co, .int .i64 x.m.fr, .int .i64 x.m.til, .int .i64 x.m.reg, .int .i64 x.m.du.rate, .int .i64 x.m.du.am, .int .i64 x.m.du.per, .bool x.m.du.hm, .int .i64 x.m.du.most, .bool x.m.du.hl, .int .i64 x.m.du.least]
def MsR (w : World) (A : Option Addr) (n : Nat) (xs : List MsA) : Prop := Recs encM 15 w A n xs ∧ n ≤ 1000000 ∧ ∀ i, i < n → Sr w xs[i]!.A xs[i]!.n xs[i]!.m.orgs ∧ xs[i]!.m.pre.size ≤ 1000000
theorem MsR.below {w w' : World} {A : Option Addr} {n : Nat} {xs : List MsA} (h : MsR w A n xs) (hb : RowKit.Below w.heap.size w w') : MsR w' A n xs := ⟨h.1.below hb, h.2.1, fun i hi => ⟨(h.2.2 i hi).1.below hb, (h.2.2 i hi).2⟩⟩
theorem MsR.len {w : World} {A : Option Addr} {n : Nat} {xs : List MsA} (h : MsR w A n xs) : xs.length = n := h.1.1
theorem MsR.nil {w : World} {A : Option Addr} : MsR w A 0 [] := ⟨Recs.nil, by omega, fun i hi => by omega⟩
def MsCells (w : World) (b o : Nat) (x : MsA) : Prop :=
  w.cell? ⟨b, o, none⟩ = some (.int .i64 x.m.id) ∧ w.cell? ⟨b, o + 1, none⟩ = some (.int .i64 x.m.kind) ∧ w.cell? ⟨b, o + 2, none⟩ = some (.string x.m.pre) ∧ w.cell? ⟨b, o + 3, none⟩ = some (.slice x.A x.n x.c) ∧ w.cell? ⟨b, o + 4, none⟩ = some (.int .i64 x.m.co) ∧ w.cell? ⟨b, o + 5, none⟩ = some (.int .i64 x.m.fr) ∧ w.cell? ⟨b, o + 6, none⟩ = some (.int .i64 x.m.til) ∧ w.cell? ⟨b, o + 7, none⟩ = some (.int .i64 x.m.reg) ∧ w.cell? ⟨b, o + 8, none⟩ = some (.int .i64 x.m.du.rate) ∧ w.cell? ⟨b, o + 9, none⟩ = some (.int .i64 x.m.du.am) ∧ w.cell? ⟨b, o + 10, none⟩ = some (.int .i64 x.m.du.per) ∧ w.cell? ⟨b, o + 11, none⟩ = some (.bool x.m.du.hm) ∧ w.cell? ⟨b, o + 12, none⟩ = some (.int .i64 x.m.du.most) ∧ w.cell? ⟨b, o + 13, none⟩ = some (.bool x.m.du.hl) ∧ w.cell? ⟨b, o + 14, none⟩ = some (.int .i64 x.m.du.least)
theorem MsR.get {w : World} {A : Option Addr} {n : Nat} {xs : List MsA} (h : MsR w A n xs) {i : Nat} (hi : i < n) :
    ∃ b off x, A = some ⟨b, off, none⟩ ∧ b < w.heap.size ∧ MsCells w b (off + i * 15) x ∧ Sr w x.A x.n x.m.orgs ∧ x.m.pre.size ≤ 1000000 ∧ Hid (xs[i]! = x) := by
  obtain ⟨b, off, e, hlt, hc⟩ := h.1.at_ hi
  exact ⟨b, off, xs[i]!, e, hlt, ⟨hc 0 (by omega), hc 1 (by omega), hc 2 (by omega), hc 3 (by omega), hc 4 (by omega), hc 5 (by omega), hc 6 (by omega), hc 7 (by omega), hc 8 (by omega), hc 9 (by omega), hc 10 (by omega), hc 11 (by omega), hc 12 (by omega), hc 13 (by omega), hc 14 (by omega)⟩, (h.2.2 i hi).1, (h.2.2 i hi).2, rfl⟩
def msL (xs : List MsA) : List Ms := xs.map (·.m)
theorem msL_len (xs : List MsA) : (msL xs).length = xs.length := by simp [msL]
theorem msL_get (xs : List MsA) (i : Nat) : (msL xs)[i]! = xs[i]!.m := by
  unfold msL
  rw [List.getElem!_eq_getElem?_getD, List.getElem!_eq_getElem?_getD, List.getElem?_map]
  cases xs[i]? <;> rfl
end Go.Proofs.YtbokkeooahodaaaGreatDoor

namespace Go.Proofs.YtbokkeooahodaaaGreatDoor
open Go.RowKit Go.Maps
set_option linter.unusedVariables false

def InK (a : Int) : Prop := -9223372036854775808 ≤ a ∧ a ≤ 9223372036854775807
theorem InK.wf {a : Int} (h : InK a) : (Lit.int .i64 a).wf = true := by
  obtain ⟨h1, h2⟩ := h
  have e1 : IntKind.i64.min = -9223372036854775808 := by decide
  have e2 : IntKind.i64.max = 9223372036854775807 := by decide
  simp [Lit.wf, e1, e2]
  omega
def keyL (k m : Int) : Lit := .string (keyBytes [.int .i64 k, .int .i64 m])
set_option maxRecDepth 100000 in
theorem accLaid : laidOutB Tryz.prog = true := by kernel_rfl
set_option maxRecDepth 100000 in
theorem accRow : (83 : TypeId) < Tryz.prog.types.size := of_decide_eq_true (by kernel_rfl)
set_option maxRecDepth 100000 in
theorem accWide : (match Tryz.prog.underlying 83 with | some (.array _ _) | some (.struct _) => true | _ => false) = true := by kernel_rfl
set_option maxRecDepth 100000 in
theorem accLaw : Keyed Tryz.prog 83 := Keyed.of_law (deep_law_laid accLaid (m := 2) (by omega) accRow (by kernel_rfl) accWide)
set_option maxRecDepth 100000 in
theorem accType : Tryz.prog.keyType 83 = true := by kernel_rfl
set_option maxRecDepth 100000 in
theorem accFormed (a b : Int) : (Value.agg #[.int .i64 a, .int .i64 b]).formed Tryz.prog 83 = true := by
  kernel_rfl
theorem intLits (d : Nat) {a : Int} (ha : InK a) : Tryz.prog.keyLits (d + 1) 3 [.int .i64 a] = some [.int .i64 a] := by
  unfold Program.keyLits
  rw [Tryz.underlying3]
  simp [ha.wf]
set_option maxRecDepth 100000 in
theorem accCells : Tryz.prog.cellsOf 83 = 2 := by kernel_rfl
set_option maxRecDepth 100000 in
theorem intCells : Tryz.prog.cellsOf 3 = 1 := by kernel_rfl
theorem accLits (d : Nat) {a b : Int} (ha : InK a) (hb : InK b) : Tryz.prog.keyLits (d + 2) 83 [.int .i64 a, .int .i64 b] = some [.int .i64 a, .int .i64 b] := by
  unfold Program.keyLits
  rw [Tryz.underlying83]
  simp [accCells, intCells, intLits d ha, intLits d hb]
theorem accKey {a b : Int} (ha : InK a) (hb : InK b) : keyOf Tryz.prog 83 (.agg #[.int .i64 a, .int .i64 b]) = some (keyL a b) := by
  obtain ⟨d, hd⟩ : ∃ d, Tryz.prog.types.size + 1 = d + 2 := ⟨Tryz.prog.types.size - 1, by have h : 0 < Tryz.prog.types.size := Nat.lt_of_le_of_lt (Nat.zero_le _) accRow; omega⟩
  have h1 := accLits d ha hb
  rw [← hd] at h1
  have h2 := accType
  have h3 := accFormed a b
  unfold keyOf
  rw [Tryz.underlying83]
  simp only [h2, h3, Bool.and_self, if_true]
  show Option.map _ (Tryz.prog.keyLits (Tryz.prog.types.size + 1) 83 [.int .i64 a, .int .i64 b]) = _
  rw [h1]
  rfl
theorem keyL_ne {a b c d : Int} (ha : InK a) (hb : InK b) (hc : InK c) (hd : InK d) (h : (a, b) ≠ (c, d)) : keyL a b ≠ keyL c d := fun e => by
  have h1 := accKey ha hb
  have h2 := accKey hc hd
  rw [e] at h1
  have := accLaw.inj h1 h2
  simp at this
  exact h (by rw [this.1, this.2])
theorem keyL_key (a b : Int) : WideAt.IsKeyLit (keyL a b) := trivial

def negD (d : Dl) : Dl := { d with amt := -d.amt }
theorem totA_neg (l : List Dl) (k m : Int) : totA (l.map negD) k m = - totA l k m := by
  induction l with
  | nil => rfl
  | cons x l ih => rw [List.map_cons, totA_cons, totA_cons, ih]; simp only [negD]; split <;> omega
structure TlOk (es : List Dl) (ks : List (Int × Int)) (D : DataW Unit) : Prop where
  nodup : ks.Nodup
  mem : ∀ k m : Int, (k, m) ∈ ks ↔ ∃ e ∈ es, e.kind = k ∧ e.meas = m
  has : ∀ k m : Int, InK k → InK m → Maps.has D (keyL k m) = decide ((k, m) ∈ ks)
  at_ : ∀ k m : Int, InK k → InK m → D.atKey (keyL k m) (.lit (.int .i64 0)) = .lit (.int .i64 (totA es k m))
  small : ∀ p ∈ ks, InK p.1 ∧ InK p.2
  isMap : Maps.IsMap D
theorem TlOk.start : TlOk [] [] (.map []) := ⟨List.nodup_nil, fun k m => ⟨fun h => (by cases h), fun ⟨e, h, _⟩ => (by cases h)⟩, fun _ _ _ _ => by simp [Maps.has], fun _ _ _ _ => rfl, fun p h => (by cases h), ⟨_, rfl⟩⟩
section
variable {es : List Dl} {ks : List (Int × Int)} {D : DataW Unit}
theorem tot_snoc (es : List Dl) (e : Dl) (k m : Int) : totA (es ++ [e]) k m = totA es k m + if e.kind = k ∧ e.meas = m then e.amt else 0 := by
  rw [totA_append, totA_cons, totA_nil]; omega
theorem TlOk.putAt (h : TlOk es ks D) (e : Dl) (hk : InK e.kind) (hm : InK e.meas) (k m : Int) (h1 : InK k) (h2 : InK m) :
    (D.put (keyL e.kind e.meas) (.lit (.int .i64 (totA es e.kind e.meas + e.amt)))).atKey (keyL k m) (.lit (.int .i64 0)) = .lit (.int .i64 (totA (es ++ [e]) k m)) := by
  rw [tot_snoc]
  by_cases he : e.kind = k ∧ e.meas = m
  · obtain ⟨rfl, rfl⟩ := he
    rw [atKey_put_same h.isMap (keyL_key _ _), if_pos ⟨rfl, rfl⟩]
  · rw [atKey_put_other (keyL_ne h1 h2 hk hm (fun x => he (by injection x with x y; exact ⟨x.symm, y.symm⟩))), if_neg he, h.at_ k m h1 h2, Int.add_zero]
theorem TlOk.known (h : TlOk es ks D) (e : Dl) (hk : InK e.kind) (hm : InK e.meas) (hin : (e.kind, e.meas) ∈ ks) : TlOk (es ++ [e]) ks (D.put (keyL e.kind e.meas) (.lit (.int .i64 (totA es e.kind e.meas + e.amt)))) := by
  refine ⟨h.nodup, fun k m => ⟨fun x => ?_, fun x => ?_⟩, fun k m h1 h2 => ?_, fun k m h1 h2 => h.putAt e hk hm k m h1 h2, h.small, h.isMap.put _ _⟩
  · obtain ⟨y, hy, h3⟩ := (h.mem k m).1 x
    exact ⟨y, by simp [hy], h3⟩
  · obtain ⟨y, hy, h3, h4⟩ := x
    rcases List.mem_append.1 hy with hy | hy
    · exact (h.mem k m).2 ⟨y, hy, h3, h4⟩
    · rw [List.mem_singleton] at hy
      subst hy h3 h4
      exact hin
  · by_cases he : e.kind = k ∧ e.meas = m
    · obtain ⟨rfl, rfl⟩ := he
      rw [has_put_same h.isMap (keyL_key _ _)]
      simp [hin]
    · rw [has_put_other (keyL_ne h1 h2 hk hm (fun x => he (by injection x with x y; exact ⟨x.symm, y.symm⟩))), h.has k m h1 h2]
theorem TlOk.fresh (h : TlOk es ks D) (e : Dl) (hk : InK e.kind) (hm : InK e.meas) (hin : (e.kind, e.meas) ∉ ks) : TlOk (es ++ [e]) (ks ++ [(e.kind, e.meas)]) (D.put (keyL e.kind e.meas) (.lit (.int .i64 (totA es e.kind e.meas + e.amt)))) := by
  refine ⟨?_, fun k m => ⟨fun x => ?_, fun x => ?_⟩, fun k m h1 h2 => ?_, fun k m h1 h2 => h.putAt e hk hm k m h1 h2, fun p hp => ?_, h.isMap.put _ _⟩
  · rw [List.nodup_append]
    refine ⟨h.nodup, by simp, fun a ha b hb => ?_⟩
    rw [List.mem_singleton] at hb
    subst hb
    exact fun x => hin (x ▸ ha)
  · rcases List.mem_append.1 x with x | x
    · obtain ⟨y, hy, h3⟩ := (h.mem k m).1 x
      exact ⟨y, by simp [hy], h3⟩
    · rw [List.mem_singleton] at x
      injection x with x y
      exact ⟨e, by simp, x.symm, y.symm⟩
  · obtain ⟨y, hy, h3, h4⟩ := x
    rcases List.mem_append.1 hy with hy | hy
    · exact List.mem_append.2 (.inl ((h.mem k m).2 ⟨y, hy, h3, h4⟩))
    · rw [List.mem_singleton] at hy
      subst hy h3 h4
      simp
  · by_cases he : e.kind = k ∧ e.meas = m
    · obtain ⟨rfl, rfl⟩ := he
      rw [has_put_same h.isMap (keyL_key _ _)]
      simp
    · rw [has_put_other (keyL_ne h1 h2 hk hm (fun x => he (by injection x with x y; exact ⟨x.symm, y.symm⟩))), h.has k m h1 h2]
      have : (k, m) ≠ (e.kind, e.meas) := fun x => he (by injection x with x y; exact ⟨x.symm, y.symm⟩)
      simp [this]
  · rcases List.mem_append.1 hp with hp | hp
    · exact h.small p hp
    · rw [List.mem_singleton] at hp
      subst hp
      exact ⟨hk, hm⟩
def lineOf (es : List Dl) (p : Int × Int) : List Dl := if totA es p.1 p.2 = 0 then [] else [⟨p.1, p.2, 0, 0, totA es p.1 p.2⟩]
def diffOf (es : List Dl) (ks : List (Int × Int)) : List Dl := ks.flatMap (lineOf es)
theorem diffOf_snoc (es : List Dl) (ks : List (Int × Int)) (p : Int × Int) : diffOf es (ks ++ [p]) = diffOf es ks ++ lineOf es p := by simp [diffOf]
theorem totA_line (es : List Dl) (p : Int × Int) (k m : Int) : totA (lineOf es p) k m = if p.1 = k ∧ p.2 = m then totA es k m else 0 := by
  unfold lineOf
  by_cases h0 : totA es p.1 p.2 = 0
  · rw [if_pos h0, totA_nil]
    split
    · next h => rw [← h.1, ← h.2, h0]
    · rfl
  · rw [if_neg h0, totA_cons, totA_nil]
    simp only [Int.add_zero]
    split
    · next h => rw [← h.1, ← h.2]
    · rfl
theorem totA_diffOf (es : List Dl) {ks : List (Int × Int)} (hn : ks.Nodup) (k m : Int) : totA (diffOf es ks) k m = if (k, m) ∈ ks then totA es k m else 0 := by
  induction ks with
  | nil => rfl
  | cons p ks ih =>
    rw [List.nodup_cons] at hn
    have e : diffOf es (p :: ks) = lineOf es p ++ diffOf es ks := by simp [diffOf]
    rw [e, totA_append, totA_line, ih hn.2]
    by_cases h1 : p.1 = k ∧ p.2 = m
    · have hp : p = (k, m) := by rw [← h1.1, ← h1.2]
      have hni : (k, m) ∉ ks := fun x => hn.1 (hp ▸ x)
      rw [if_pos h1, if_neg hni, if_pos (by rw [hp]; exact List.mem_cons_self), Int.add_zero]
    · have hp : (k, m) ≠ p := fun x => h1 (by rw [← x]; exact ⟨rfl, rfl⟩)
      rw [if_neg h1, Int.zero_add]
      by_cases h2 : (k, m) ∈ ks
      · rw [if_pos h2, if_pos (List.mem_cons_of_mem _ h2)]
      · rw [if_neg h2, if_neg (fun x => by rcases List.mem_cons.1 x with x | x; exact hp x; exact h2 x)]
theorem diff_tot (h : TlOk es ks D) {ks' : List (Int × Int)} (hp : ks'.Perm ks) (k m : Int) : totA (diffOf es ks') k m = totA es k m := by
  rw [totA_diffOf es (hp.nodup_iff.2 h.nodup)]
  by_cases h1 : (k, m) ∈ ks
  · rw [if_pos (hp.mem_iff.2 h1)]
  · rw [if_neg (fun x => h1 (hp.mem_iff.1 x))]
    have h2 : ∀ e ∈ es, ¬ (e.kind = k ∧ e.meas = m) := fun e he x => h1 ((h.mem k m).2 ⟨e, he, x⟩)
    unfold totA
    rw [List.filter_eq_nil_iff.2]
    · rfl
    · intro e he x
      simp only [Bool.and_eq_true, decide_eq_true_eq] at x
      exact h2 e he x
theorem tot_bound {es : List Dl} {B : Int} (hB : 0 ≤ B) (h : ∀ e ∈ es, -B ≤ e.amt ∧ e.amt ≤ B) (k m : Int) : -(B * es.length) ≤ totA es k m ∧ totA es k m ≤ B * es.length := by
  induction es with
  | nil => simp [totA_nil]
  | cons x l ih =>
    have h1 := ih (fun e he => h e (List.mem_cons_of_mem _ he))
    have h2 := h x List.mem_cons_self
    have e : B * ((x :: l).length : Int) = B * (l.length : Int) + B := by simp [Int.mul_add]
    rw [totA_cons, e]
    split <;> omega
end
end Go.Proofs.YtbokkeooahodaaaGreatDoor

namespace Go.Proofs.YtbokkeooahodaaaGreatDoor
open Go.RowKit
set_option linter.unusedVariables false

section
variable {P : Program} {ops : Array Oper} {Q : Exit → Act → World → Prop} {md : Region.Mode}

theorem count_set {l : List Bool} {i : Nat} (h : l[i]? = some false) : (l.set i true).count false + 1 = l.count false := by
  induction l generalizing i with
  | nil => simp at h
  | cons x xs ih =>
    cases i with
    | zero => simp at h; subst h; simp
    | succ i => simp at h; have := ih h; simp [List.count_cons]; omega

theorem wpAny_of_inv (I : Array Bool → Act → World → Prop)
    (hs : ∀ listed a w, I listed a w → listed.size = ops.size)
    (hdone : ∀ listed a w, I listed a w → Region.ready md ops listed = [] → Q .normal a w)
    (hstep : ∀ listed a w i, I listed a w → i ∈ Region.ready md ops listed → wpOp P ops Q i (I (listed.setIfInBounds i true)) a w) :
    ∀ (fuel : Nat) (listed : Array Bool) (a : Act) (w : World), I listed a w → listed.toList.count false ≤ fuel → wpAny P md ops Q fuel listed a w := by
  have hun : ∀ (listed : Array Bool) (i : Nat), i ∈ Region.ready md ops listed → listed.toList[i]? = some false := fun listed i hi => by
    have := (mem_ready.1 hi).1
    rcases Nat.lt_or_ge i listed.size with h | h
    · simp [h] at this ⊢; exact this
    · simp [Array.getD, Nat.not_lt.2 h] at this
  intro fuel
  induction fuel with
  | zero =>
    intro listed a w hI hc
    have hr : Region.ready md ops listed = [] := by
      cases hr : Region.ready md ops listed with
      | nil => rfl
      | cons i is =>
        have := count_set (hun listed i (by rw [hr]; simp))
        omega
    exact ⟨hr, hdone _ _ _ hI hr⟩
  | succ fuel ih =>
    intro listed a w hI hc
    refine ⟨fun hr => hdone _ _ _ hI hr, fun i hi => ?_⟩
    refine wpOp_mono (fun a' w' h => ih _ _ _ h ?_) (hstep _ _ _ i hI hi)
    have := count_set (hun listed i hi)
    simp
    omega

end

structure Job where
  dst : Option Tmp
  deps : List Nat
  eats : List Nat

def putJ : List (Nat × Job) → (Nat → Bool) → (Nat → Value) → Act → Act
  | [], _, _, a => a
  | (i, j) :: r, L, vs, a => putJ r L vs (if L i then a.put j.dst (vs i) else a)

def number (js : List Job) : Nat → List (Nat × Job)
  | k => match js with
    | [] => []
    | j :: r => (k, j) :: number r (k + 1)

theorem mem_number {js : List Job} {k i : Nat} {j : Job} (h : (i, j) ∈ number js k) : k ≤ i ∧ js[i - k]? = some j := by
  induction js generalizing k with
  | nil => simp [number] at h
  | cons x xs ih =>
    simp [number] at h
    rcases h with ⟨rfl, rfl⟩ | h
    · simp
    · have := ih h
      refine ⟨by omega, ?_⟩
      rw [show i - k = (i - (k + 1)) + 1 by omega]
      simpa using this.2
theorem number_mem {js : List Job} {k i : Nat} {j : Job} (h : js[i]? = some j) : (k + i, j) ∈ number js k := by
  induction js generalizing k i with
  | nil => simp at h
  | cons x xs ih =>
    cases i with
    | zero => simp at h; subst h; simp [number]
    | succ i => simp at h; have := ih (k := k + 1) h; simp [number]; rw [show k + (i + 1) = k + 1 + i by omega]; exact this

def dstsOk : List (Nat × Job) → Bool
  | [] => true
  | (i, j) :: r => (r.all fun p => p.1 != i && (match j.dst with | some d => p.2.dst != some d | none => true)) && dstsOk r

theorem dstsOk_cons {i : Nat} {j : Job} {r : List (Nat × Job)} (h : dstsOk ((i, j) :: r) = true) : (∀ p ∈ r, p.1 ≠ i ∧ ∀ d, j.dst = some d → p.2.dst ≠ some d) ∧ dstsOk r = true := by
  simp only [dstsOk, Bool.and_eq_true, List.all_eq_true] at h
  refine ⟨fun p hp => ?_, h.2⟩
  have := h.1 p hp
  simp only [bne_iff_ne, ne_eq] at this
  refine ⟨this.1, fun d hd => ?_⟩
  have h2 := this.2
  rw [hd] at h2
  simpa using h2

theorem putJ_put {l : List (Nat × Job)} (hl : dstsOk l = true) (L : Nat → Bool) (vs : Nat → Value) (d : Option Tmp) (v : Value) (a : Act) (hd : ∀ p ∈ l, ∀ e, d = some e → p.2.dst ≠ some e) :
    putJ l L vs (a.put d v) = (putJ l L vs a).put d v := by
  induction l generalizing a with
  | nil => rfl
  | cons p r ih =>
    obtain ⟨i, j⟩ := p
    have h1 := dstsOk_cons hl
    simp only [putJ]
    rw [← ih h1.2 _ (fun p hp => hd p (List.mem_cons_of_mem _ hp))]
    congr 1
    split
    · exact Act.put_comm a (x := d) (y := j.dst) v (vs i) (fun e he => hd (i, j) (List.mem_cons_self ..) e he)
    · rfl
theorem putJ_congr {l : List (Nat × Job)} {L L' : Nat → Bool} {vs vs' : Nat → Value} {a : Act} (h : ∀ p ∈ l, L p.1 = L' p.1 ∧ (L p.1 = true → vs p.1 = vs' p.1)) : putJ l L vs a = putJ l L' vs' a := by
  induction l generalizing a with
  | nil => rfl
  | cons p r ih =>
    obtain ⟨i, j⟩ := p
    have h1 := h (i, j) (List.mem_cons_self ..)
    simp only [putJ]
    rw [← h1.1]
    cases hL : L i with
    | false => simp only [Bool.false_eq_true, if_false]; exact ih fun p hp => h p (List.mem_cons_of_mem _ hp)
    | true => simp only [if_true]; rw [h1.2 hL]; exact ih fun p hp => h p (List.mem_cons_of_mem _ hp)
theorem putJ_step {l : List (Nat × Job)} (hl : dstsOk l = true) {L : Nat → Bool} {vs : Nat → Value} {a : Act} {i : Nat} {j : Job} (hi : (i, j) ∈ l) (hL : L i = false) (v : Value) :
    putJ l (fun k => if k = i then true else L k) (fun k => if k = i then v else vs k) a = (putJ l L vs a).put j.dst v := by
  induction l generalizing a with
  | nil => cases hi
  | cons p r ih =>
    obtain ⟨k, q⟩ := p
    have h1 := dstsOk_cons hl
    rcases List.mem_cons.1 hi with e | hr
    · injection e with e1 e2
      subst e1 e2
      simp only [putJ, hL, if_true, Bool.false_eq_true, if_false]
      rw [← putJ_put h1.2 L vs j.dst v a (fun p hp => (h1.1 p hp).2)]
      exact putJ_congr fun p hp => by simp [(h1.1 p hp).1]
    · have hne : k ≠ i := fun e => (h1.1 _ hr).1 e.symm
      simp only [putJ, hne, if_false]
      exact ih h1.2 hr
theorem putJ_free' {l : List (Nat × Job)} {L : Nat → Bool} {vs : Nat → Value} {a : Act} {t : Tmp} (h : ∀ p ∈ l, p.2.dst = some t → L p.1 = false) : (putJ l L vs a).eval (.tmp t) = a.eval (.tmp t) := by
  induction l generalizing a with
  | nil => rfl
  | cons p r ih =>
    obtain ⟨k, q⟩ := p
    simp only [putJ]
    rw [ih fun p hp => h p (List.mem_cons_of_mem _ hp)]
    cases hL : L k with
    | false => rfl
    | true =>
      simp only [if_true]
      refine Act.eval_put fun d hd e => ?_
      injection e with e
      have := h (k, q) (List.mem_cons_self ..) (by rw [hd, e])
      simp only at this
      rw [hL] at this; cases this
theorem putJ_free {l : List (Nat × Job)} {L : Nat → Bool} {vs : Nat → Value} {a : Act} {x : Operand} (h : ∀ p ∈ l, ∀ d, p.2.dst = some d → x ≠ .tmp d) : (putJ l L vs a).eval x = a.eval x := by
  induction l generalizing a with
  | nil => rfl
  | cons p r ih =>
    obtain ⟨k, q⟩ := p
    simp only [putJ]
    rw [ih fun p hp => h p (List.mem_cons_of_mem _ hp)]
    split
    · exact Act.eval_put fun d hd => h (k, q) (List.mem_cons_self ..) d hd
    · rfl
theorem eval_put_self {a : Act} {d : Tmp} {v : Value} (hd : d < a.tmps.size) : (a.put (some d) v).eval (.tmp d) = v := by
  simp [Act.put, Act.eval, hd]
theorem put_size (a : Act) (d : Option Tmp) (v : Value) : (a.put d v).tmps.size = a.tmps.size := by
  cases d <;> simp [Act.put]
theorem putJ_at {l : List (Nat × Job)} (hl : dstsOk l = true) {L : Nat → Bool} {vs : Nat → Value} {a : Act} {i : Nat} {j : Job} (hi : (i, j) ∈ l) (hL : L i = true) {d : Tmp} (hd : j.dst = some d) (hsz : d < a.tmps.size) :
    (putJ l L vs a).eval (.tmp d) = vs i := by
  induction l generalizing a with
  | nil => cases hi
  | cons p r ih =>
    obtain ⟨k, q⟩ := p
    have h1 := dstsOk_cons hl
    simp only [putJ]
    rcases List.mem_cons.1 hi with e | hr
    · injection e with e1 e2
      subst e1 e2
      rw [putJ_free fun p hp e he h => ?_]
      · rw [hL, if_pos rfl, hd]; exact eval_put_self hsz
      · injection h with h
        exact (h1.1 p hp).2 d hd (by rw [he, h])
    · refine ih h1.2 hr ?_
      split
      · rw [put_size]; exact hsz
      · exact hsz

def fitsJ (ops : Array Oper) (js : List Job) : Bool :=
  ops.size == js.length && dstsOk (number js 0) &&
  (number js 0).all fun p =>
    (match ops[p.1]? with
      | some o => (match p.2.dst, o.dst with | some d, some e => d == e | none, none => true | _, _ => false) && o.guard.isNone &&
          (o.after.toList.all fun e => !Region.binds .any e || decide (e.on < p.1)) &&
          p.2.deps.all (fun d => o.after.toList.any fun e => Region.binds .any e && e.on == d)
      | none => false) &&
    p.2.eats.all (fun d => p.2.deps.contains d) &&
    (number js 0).all (fun q => q.1 == p.1 || p.2.eats.all fun d => !q.2.eats.contains d)

theorem fitsJ_spec {ops : Array Oper} {js : List Job} (h : fitsJ ops js = true) :
    ops.size = js.length ∧ dstsOk (number js 0) = true ∧ ∀ i j, js[i]? = some j → ∃ o, ops[i]? = some o ∧ o.dst = j.dst ∧ o.guard = none ∧
      (∀ e ∈ o.after, Region.binds .any e = true → e.on < i) ∧ (∀ d ∈ j.deps, ∃ e ∈ o.after, Region.binds .any e = true ∧ e.on = d) ∧
      (∀ d ∈ j.eats, d ∈ j.deps) ∧ ∀ k q, js[k]? = some q → k ≠ i → ∀ d ∈ j.eats, d ∉ q.eats := by
  unfold fitsJ at h
  simp only [Bool.and_eq_true, List.all_eq_true, beq_iff_eq] at h
  obtain ⟨⟨h1, h2⟩, h3⟩ := h
  refine ⟨h1, h2, fun i j hj => ?_⟩
  have hm : (i, j) ∈ number js 0 := by have := number_mem (k := 0) hj; rwa [Nat.zero_add] at this
  obtain ⟨⟨h4, h5⟩, h6⟩ := h3 _ hm
  cases ho : ops[i]? with
  | none => simp only [ho] at h4; cases h4
  | some o =>
    simp only [ho, Bool.and_eq_true] at h4
    obtain ⟨⟨⟨h7, h8⟩, h9⟩, h10⟩ := h4
    refine ⟨o, rfl, ?_, ?_, fun e he hb => ?_, fun d hd => ?_, fun d hd => ?_, fun k q hk hne d hd => ?_⟩
    · cases ha : o.dst <;> cases hb : j.dst <;> simp [ha, hb] at h7 ⊢
      exact h7.symm
    · simpa using h8
    · simp only [List.all_eq_true] at h9
      have := h9 e (by simpa using he)
      simpa [hb] using this
    · simp only [List.all_eq_true] at h10
      have := h10 d hd
      simp only [List.any_eq_true] at this
      obtain ⟨e, he, h11⟩ := this
      simp only [Bool.and_eq_true, beq_iff_eq] at h11
      exact ⟨e, by simpa using he, h11.1, h11.2⟩
    · have := h5 d hd
      simpa using this
    · have := h6 (k, q) (by have := number_mem (k := 0) hk; rwa [Nat.zero_add] at this)
      simp only [Bool.or_eq_true, beq_iff_eq, hne, false_or, List.all_eq_true] at this
      simpa using this d hd

def dv (js : List Job) (i : Nat) (vs : Nat → Value) : List Value := match js[i]? with | some j => j.deps.map vs | none => []
theorem dv_some {js : List Job} {i : Nat} {j : Job} (h : js[i]? = some j) (vs : Nat → Value) : dv js i vs = j.deps.map vs := by simp [dv, h]
theorem dv_congr {js : List Job} {i : Nat} {vs vs' : Nat → Value} (h : ∀ j, js[i]? = some j → ∀ d ∈ j.deps, vs d = vs' d) : dv js i vs = dv js i vs' := by
  unfold dv
  cases hj : js[i]? with
  | none => rfl
  | some j => exact List.map_congr_left fun d hd => h j hj d hd

section
variable (P : Program) (ops : Array Oper) (Q : Exit → Act → World → Prop) (js : List Job) (a0 : Act) (w0 : World)
variable (fact : Nat → List Value → Value → Prop) (res : Nat → List Value → Value → List Nat → World → Prop)

def waits (js : List Job) : Nat → Nat → Nat → Bool
  | 0, _, _ => false
  | f + 1, k, i => match js[k]? with | some j => j.deps.any fun d => d == i || waits js f d i | none => false
theorem waits_listed {js : List Job} {L : Nat → Bool} (h : ∀ k j, js[k]? = some j → L k = true → ∀ d ∈ j.deps, L d = true) : ∀ (f k i : Nat), waits js f k i = true → L k = true → L i = true := by
  intro f
  induction f with
  | zero => intro k i h1; cases h1
  | succ f ih =>
    intro k i h1 hL
    unfold waits at h1
    cases hj : js[k]? with
    | none => rw [hj] at h1; cases h1
    | some j =>
      rw [hj] at h1
      simp only [List.any_eq_true, Bool.or_eq_true, beq_iff_eq] at h1
      obtain ⟨d, hd, h2⟩ := h1
      have h3 := h k j hj hL d hd
      rcases h2 with rfl | h2
      · exact h3
      · exact ih d i h2 h3
structure Finds (i0 : Nat) (j : Job) (a : Act) (w : World) (vs : Nat → Value) (fp : Nat → List Nat) : Prop where
  below : RowKit.Below w0.heap.size w0 w
  old : ∀ t : Tmp, (∀ k q, js[k]? = some q → q.dst = some t → waits js js.length k i0 = true) → a.eval (.tmp t) = a0.eval (.tmp t)
  dep : ∀ i ∈ j.deps, ∀ q, js[i]? = some q → (∀ d, q.dst = some d → a.eval (.tmp d) = vs i)
  val : ∀ i ∈ j.deps, fact i (dv js i vs) (vs i)
  mem : ∀ i ∈ j.eats, res i (dv js i vs) (vs i) (fp i) w
  own : ∀ i ∈ j.eats, ∀ g ∈ fp i, w0.heap.size ≤ g ∧ g < w.heap.size
  apart : ∀ i ∈ j.eats, ∀ k ∈ j.eats, i ≠ k → ∀ g ∈ fp i, g ∉ fp k

structure Leaves (i : Nat) (j : Job) (w : World) (vs : Nat → Value) (fp : Nat → List Nat) (v : Value) (f : List Nat) (w' : World) : Prop where
  below : RowKit.Below w0.heap.size w0 w'
  size : w.heap.size ≤ w'.heap.size
  block : ∀ g, g < w.heap.size → (∀ k ∈ j.eats, g ∉ fp k) → w'.heap[g]? = w.heap[g]?
  val : fact i (j.deps.map vs) v
  mem : res i (j.deps.map vs) v f w'
  own : ∀ g ∈ f, g < w'.heap.size ∧ ((∃ k ∈ j.eats, g ∈ fp k) ∨ w.heap.size ≤ g)

def StepJ (i : Nat) : Prop :=
  ∀ j o, js[i]? = some j → ops[i]? = some o → ∀ (a : Act) (w : World) (vs : Nat → Value) (fp : Nat → List Nat) (K : Act → World → Prop),
    Finds js a0 w0 fact res i j a w vs fp →
    (∀ v w' f, Leaves w0 fact res i j w vs fp v f w' → K (a.put o.dst v) w') → Oper.wp P o a w K Q

structure InvJ (listed : Array Bool) (a : Act) (w : World) (vs : Nat → Value) (fp : Nat → List Nat) : Prop where
  size : listed.size = ops.size
  frame : a = putJ (number js 0) (fun i => listed.getD i false) vs a0
  below : RowKit.Below w0.heap.size w0 w
  deps : ∀ i j, js[i]? = some j → listed.getD i false = true → ∀ d ∈ j.deps, listed.getD d false = true
  val : ∀ i, listed.getD i false = true → fact i (dv js i vs) (vs i)
  mem : ∀ i, listed.getD i false = true → (∀ k q, js[k]? = some q → listed.getD k false = true → i ∉ q.eats) → res i (dv js i vs) (vs i) (fp i) w ∧ ∀ g ∈ fp i, w0.heap.size ≤ g ∧ g < w.heap.size
  apart : ∀ i k, listed.getD i false = true → listed.getD k false = true → (∀ l q, js[l]? = some q → listed.getD l false = true → i ∉ q.eats) → (∀ l q, js[l]? = some q → listed.getD l false = true → k ∉ q.eats) → i ≠ k → ∀ g ∈ fp i, g ∉ fp k

end

theorem getD_set_eq (l : Array Bool) {i : Nat} (h : i < l.size) (k : Nat) : (l.setIfInBounds i true).getD k false = if k = i then true else l.getD k false := by
  by_cases e : k = i
  · subst e; simp [h]
  · rw [if_neg e]
    simp [Ne.symm e, Array.getD_eq_getD_getElem?]

theorem wp_region_sep {P : Program} {ops : Array Oper} {Q : Exit → Act → World → Prop} {a0 : Act} {w0 : World} {id : Nat} (js : List Job) (fact : Nat → List Value → Value → Prop) (res : Nat → List Value → Value → List Nat → World → Prop)
    (hm : P.follows .mixedOrders = true) (hfit : fitsJ ops js = true) (hsz : ∀ q ∈ js, ∀ d, q.dst = some d → d < a0.tmps.size)
    (hloc : ∀ i l v f w w', RowKit.Below w0.heap.size w0 w → RowKit.Below w0.heap.size w0 w' → w.heap.size ≤ w'.heap.size → (∀ g ∈ f, w0.heap.size ≤ g ∧ g < w.heap.size ∧ w'.heap[g]? = w.heap[g]?) → res i l v f w → res i l v f w')
    (hstep : ∀ i, i < js.length → StepJ P ops Q js a0 w0 fact res i)
    (hfin : ∀ w vs fp, InvJ ops js a0 w0 fact res (Array.replicate ops.size true) (putJ (number js 0) (fun _ => true) vs a0) w vs fp → Q .normal (putJ (number js 0) (fun _ => true) vs a0) w) :
    (Code.region id ops true).wp P Q a0 w0 := by
  obtain ⟨hlen, hdst, hjob⟩ := fitsJ_spec hfit
  refine wp_region_any hm ?_
  refine wpAny_of_inv (fun listed a w => ∃ vs fp, InvJ ops js a0 w0 fact res listed a w vs fp) (fun _ _ _ ⟨_, _, h⟩ => h.size) ?_ ?_ _ _ _ _ ⟨fun _ => undef, fun _ => [], ?_⟩ (by simp)
  · rintro listed a w ⟨vs, fp, h⟩ hr
    have hall : ∀ i, i < ops.size → listed.getD i false = true := by
      intro i
      induction i using Nat.strongRecOn with
      | ind i ih =>
        intro hi
        cases hL : listed.getD i false with
        | true => rfl
        | false =>
          exfalso
          obtain ⟨o, ho, _, _, h4, _⟩ := hjob i (js[i]'(by omega)) (List.getElem?_eq_getElem _)
          have : i ∈ Region.ready .any ops listed := by
            rw [mem_ready]
            refine ⟨?_, o, ho, fun e he hb => ih e.on (h4 e he hb) (by have := h4 e he hb; omega)⟩
            have hs := h.size
            simp [Array.getD, hs, hi] at hL ⊢
            exact hL
          rw [hr] at this
          cases this
    have hlst : listed = Array.replicate ops.size true := by
      apply Array.ext
      · simp [h.size]
      · intro i h1 h2
        have := hall i (by rw [← h.size]; exact h1)
        simp [h1] at this ⊢
        exact this
    subst hlst
    have hfr : a = putJ (number js 0) (fun _ => true) vs a0 := by
      rw [h.frame]
      refine putJ_congr fun p hp => ⟨?_, fun _ => rfl⟩
      have := mem_number hp
      rw [Nat.sub_zero] at this
      have hlt : p.1 < js.length := (List.getElem?_eq_some_iff.1 this.2).1
      simp [hlen, hlt]
    subst hfr
    exact hfin _ _ _ h
  · rintro listed a w i ⟨vs, fp, h⟩ hi
    obtain ⟨hun, o, ho, haft⟩ := mem_ready.1 hi
    have hil : i < ops.size := (Array.getElem?_eq_some_iff.1 ho).1
    have hL : listed.getD i false = false := by
      have hs := h.size
      simp [Array.getD, hs, hil] at hun ⊢
      exact hun
    obtain ⟨j, hj⟩ : ∃ j, js[i]? = some j := ⟨_, List.getElem?_eq_getElem (by omega)⟩
    obtain ⟨o', ho', hd, hg, _, hdep, heat, honly⟩ := hjob i j hj
    rw [ho] at ho'
    injection ho' with ho'
    subst ho'
    have hjm : (i, j) ∈ number js 0 := by have := number_mem (k := 0) hj; rwa [Nat.zero_add] at this
    have hdl : ∀ d ∈ j.deps, listed.getD d false = true := fun d hd => by
      obtain ⟨e, he, hb, rfl⟩ := hdep d hd
      exact haft e he hb
    have heatl : ∀ d ∈ j.eats, ∀ k q, js[k]? = some q → listed.getD k false = true → d ∉ q.eats := fun d hd k q hk hkl => honly k q hk (fun e => by rw [e, hL] at hkl; cases hkl) d hd
    unfold wpOp
    simp only [ho]
    rw [if_pos (by simp [Region.wanted, hg])]
    refine .inl (hstep i (by omega) j o hj ho a w vs fp _ ?_ ?_)
    · refine ⟨h.below, fun t ht => ?_, fun k hk q hq d hd => ?_, fun k hk => h.val k (hdl k hk), fun k hk => (h.mem k (hdl k (heat k hk)) (heatl k hk)).1, fun k hk => (h.mem k (hdl k (heat k hk)) (heatl k hk)).2, fun k hk l hl hne => h.apart k l (hdl k (heat k hk)) (hdl l (heat l hl)) (heatl k hk) (heatl l hl) hne⟩
      · rw [h.frame]
        refine putJ_free' fun p hp hd => ?_
        have := mem_number hp
        rw [Nat.sub_zero] at this
        have hw := ht p.1 p.2 this.2 hd
        cases hp1 : listed.getD p.1 false with
        | false => rfl
        | true => have := waits_listed (L := fun i => listed.getD i false) (fun k j hj hk => h.deps k j hj hk) _ _ _ hw hp1; rw [hL] at this; cases this
      · rw [h.frame]
        have hm2 : (k, q) ∈ number js 0 := by have := number_mem (k := 0) hq; rwa [Nat.zero_add] at this
        exact putJ_at hdst hm2 (hdl k hk) hd (hsz q (List.mem_of_getElem? hq) d hd)
    · intro v w' f hl
      refine ⟨fun k => if k = i then v else vs k, fun k => if k = i then f else fp k, ?_⟩
      have hset := fun k => getD_set_eq listed (by rw [h.size]; exact hil : i < listed.size) k
      have halive : ∀ k, k ≠ i → (listed.setIfInBounds i true).getD k false = true → (∀ l q, js[l]? = some q → (listed.setIfInBounds i true).getD l false = true → k ∉ q.eats) → listed.getD k false = true ∧ (∀ l q, js[l]? = some q → listed.getD l false = true → k ∉ q.eats) ∧ k ∉ j.eats := fun k hk h1 h2 => by
        rw [hset, if_neg hk] at h1
        refine ⟨h1, fun l q hq hql => h2 l q hq (by rw [hset]; split <;> simp [hql]), h2 i j hj (by rw [hset, if_pos rfl])⟩
      -- what nobody takes over is apart from what is taken over
      have hap : ∀ k, listed.getD k false = true → (∀ l q, js[l]? = some q → listed.getD l false = true → k ∉ q.eats) → k ∉ j.eats → ∀ g ∈ fp k, ∀ l ∈ j.eats, g ∉ fp l := fun k h1 h2 h3 g hg l hl =>
        h.apart k l h1 (hdl l (heat l hl)) h2 (heatl l hl) (fun e => h3 (by rw [e]; exact hl)) g hg
      have hdv : ∀ k, k = i ∨ listed.getD k false = true → dv js k (fun k => if k = i then v else vs k) = dv js k vs := fun k hk => dv_congr fun q hq d hd2 => by
        have h1 : listed.getD d false = true := by
          rcases hk with rfl | hk
          · rw [hj] at hq; injection hq with hq; subst hq; exact hdl d hd2
          · exact h.deps k q hq hk d hd2
        have h2 : d ≠ i := fun e => by rw [e, hL] at h1; cases h1
        simp [h2]
      refine ⟨by simp [h.size], ?_, hl.below, fun k q hq hk d hd2 => ?_, fun k hk => ?_, fun k hk hal => ?_, fun k l hk hl2 hak hal hne => ?_⟩
      · rw [h.frame, hd, ← putJ_step hdst hjm hL v]
        refine putJ_congr fun p hp => ⟨?_, fun _ => rfl⟩
        rw [hset]
      · rw [hset]
        split
        · rfl
        · by_cases e : k = i
          · subst e; rw [hj] at hq; injection hq with hq; subst hq; exact hdl d hd2
          · rw [hset, if_neg e] at hk; exact h.deps k q hq hk d hd2
      · by_cases e : k = i
        · subst e
          rw [hdv k (.inl rfl), dv_some hj]
          simpa using hl.val
        · rw [hset, if_neg e] at hk
          rw [hdv k (.inr hk)]
          simp only [e, if_false]
          exact h.val k hk
      · by_cases e : k = i
        · subst e
          rw [hdv k (.inl rfl), dv_some hj]
          simp only [if_true]
          refine ⟨hl.mem, fun g hg => ⟨?_, (hl.own g hg).1⟩⟩
          rcases (hl.own g hg).2 with ⟨m, hm1, hm2⟩ | h3
          · exact ((h.mem m (hdl m (heat m hm1)) (heatl m hm1)).2 g hm2).1
          · exact Nat.le_trans h.below.size h3
        · obtain ⟨h1, h2, h3⟩ := halive k e hk hal
          rw [hdv k (.inr h1)]
          simp only [e, if_false]
          have h4 := h.mem k h1 h2
          refine ⟨hloc k _ _ _ w w' h.below hl.below hl.size (fun g hg => ⟨(h4.2 g hg).1, (h4.2 g hg).2, hl.block g (h4.2 g hg).2 fun l hl2 => hap k h1 h2 h3 g hg l hl2⟩) h4.1, fun g hg => ⟨(h4.2 g hg).1, Nat.lt_of_lt_of_le (h4.2 g hg).2 hl.size⟩⟩
      · -- apart
        have key : ∀ k, k ≠ i → (listed.setIfInBounds i true).getD k false = true → (∀ l q, js[l]? = some q → (listed.setIfInBounds i true).getD l false = true → k ∉ q.eats) → ∀ g ∈ f, g ∉ fp k := fun k hki h1 h2 g hg hgk => by
          obtain ⟨h3, h4, h5⟩ := halive k hki h1 h2
          rcases (hl.own g hg).2 with ⟨m, hm1, hm2⟩ | h6
          · exact hap k h3 h4 h5 g hgk m hm1 hm2
          · have := ((h.mem k h3 h4).2 g hgk).2; omega
        by_cases e1 : k = i
        · subst e1
          have e2 : l ≠ k := fun e => hne e.symm
          simp only [if_true, e2, if_false]
          exact key l e2 hl2 hal
        · by_cases e2 : l = i
          · subst e2
            simp only [if_true, e1, if_false]
            intro g hg hg2
            exact key k e1 hk hak g hg2 hg
          · simp only [e1, e2, if_false]
            obtain ⟨h3, h4, _⟩ := halive k e1 hk hak
            obtain ⟨h5, h6, _⟩ := halive l e2 hl2 hal
            exact h.apart k l h3 h5 h4 h6 hne
  · have hnone : ∀ i, (Array.replicate ops.size false).getD i false = false := fun i => by
      simp [Array.getD]
    refine ⟨by simp, ?_, (RowKit.Below.refl _ _).drew, fun i j hj hi => ?_, fun i hi => ?_, fun i hi => ?_, fun i k hi => ?_⟩
    · symm
      have : ∀ l : List (Nat × Job), putJ l (fun i => (Array.replicate ops.size false).getD i false) (fun _ => undef) a0 = a0 := fun l => by
        induction l with
        | nil => rfl
        | cons p r ih =>
          obtain ⟨k, q⟩ := p
          simp only [putJ]
          rw [if_neg (by rw [hnone]; simp)]
          exact ih
      exact this _
    · rw [hnone] at hi; cases hi
    · rw [hnone] at hi; cases hi
    · rw [hnone] at hi; cases hi
    · rw [hnone] at hi; cases hi

theorem InvJ.fin {ops : Array Oper} {js : List Job} {a0 : Act} {w0 : World} {fact : Nat → List Value → Value → Prop} {res : Nat → List Value → Value → List Nat → World → Prop} {a : Act} {w : World} {vs : Nat → Value} {fp : Nat → List Nat}
    (h : InvJ ops js a0 w0 fact res (Array.replicate ops.size true) a w vs fp) (i : Nat) (hi : i < ops.size) : fact i (dv js i vs) (vs i) := h.val i (by simp [hi])
theorem InvJ.finM {ops : Array Oper} {js : List Job} {a0 : Act} {w0 : World} {fact : Nat → List Value → Value → Prop} {res : Nat → List Value → Value → List Nat → World → Prop} {a : Act} {w : World} {vs : Nat → Value} {fp : Nat → List Nat}
    (h : InvJ ops js a0 w0 fact res (Array.replicate ops.size true) a w vs fp) (i : Nat) (hi : i < ops.size) (hu : (js.all fun q => !q.eats.contains i) = true) : res i (dv js i vs) (vs i) (fp i) w ∧ ∀ g ∈ fp i, w0.heap.size ≤ g ∧ g < w.heap.size :=
  h.mem i (by simp [hi]) fun k q hq _ hm => by
    rw [List.all_eq_true] at hu
    have := hu q (List.mem_of_getElem? hq)
    simp at this
    exact this hm

/-! The same by rows: an operation's job, what is known of its value, what memory it holds. -/
structure Row where
  job : Job
  fact : List Value → Value → Prop
  res : List Value → Value → List Nat → World → Prop
def rj (rows : List Row) : List Job := rows.map (·.job)
def rf (rows : List Row) (i : Nat) : List Value → Value → Prop := match rows[i]? with | some r => r.fact | none => fun _ _ => True
def rr (rows : List Row) (i : Nat) : List Value → Value → List Nat → World → Prop := match rows[i]? with | some r => r.res | none => fun _ _ _ _ => True
def Loc (w0 : World) (R : List Value → Value → List Nat → World → Prop) : Prop :=
  ∀ l v f w w', RowKit.Below w0.heap.size w0 w → RowKit.Below w0.heap.size w0 w' → w.heap.size ≤ w'.heap.size → (∀ g ∈ f, w0.heap.size ≤ g ∧ g < w.heap.size ∧ w'.heap[g]? = w.heap[g]?) → R l v f w → R l v f w'
def Locs (w0 : World) : List Row → Prop
  | [] => True
  | r :: rs => Loc w0 r.res ∧ Locs w0 rs
theorem Locs.at_ {w0 : World} {rows : List Row} (h : Locs w0 rows) : ∀ r ∈ rows, Loc w0 r.res := by
  induction rows with
  | nil => intro r hr; cases hr
  | cons x xs ih =>
    intro r hr
    rcases List.mem_cons.1 hr with rfl | hr
    · exact h.1
    · exact ih h.2 r hr
def StepsJ (P : Program) (ops : Array Oper) (Q : Exit → Act → World → Prop) (rows : List Row) (a0 : Act) (w0 : World) : List Row → Nat → Prop
  | [], _ => True
  | r :: rs, k => StepJ P ops Q (rj rows) a0 w0 (rf rows) (rr rows) k ∧ StepsJ P ops Q rows a0 w0 rs (k + 1)
theorem StepsJ.at_ {P : Program} {ops : Array Oper} {Q : Exit → Act → World → Prop} {rows : List Row} {a0 : Act} {w0 : World} {rs : List Row} {k : Nat} (h : StepsJ P ops Q rows a0 w0 rs k) (i : Nat) (hi : i < rs.length) : StepJ P ops Q (rj rows) a0 w0 (rf rows) (rr rows) (k + i) := by
  induction rs generalizing k i with
  | nil => cases hi
  | cons x xs ih =>
    cases i with
    | zero => exact h.1
    | succ i => have := ih h.2 i (by simpa using hi); rwa [show k + (i + 1) = k + 1 + i by omega]
def slotsOk (js : List Job) (n : Nat) : Bool := js.all fun q => match q.dst with | some d => decide (d < n) | none => true

theorem wp_region_rows {P : Program} {ops : Array Oper} {Q : Exit → Act → World → Prop} {a0 : Act} {w0 : World} {id : Nat} (rows : List Row)
    (hm : P.follows .mixedOrders = true) (hfit : fitsJ ops (rj rows) = true) (hsz : slotsOk (rj rows) a0.tmps.size = true)
    (hloc : Locs w0 rows) (hstep : StepsJ P ops Q rows a0 w0 rows 0)
    (hfin : ∀ w vs fp, InvJ ops (rj rows) a0 w0 (rf rows) (rr rows) (Array.replicate ops.size true) (putJ (number (rj rows) 0) (fun _ => true) vs a0) w vs fp → Q .normal (putJ (number (rj rows) 0) (fun _ => true) vs a0) w) :
    (Code.region id ops true).wp P Q a0 w0 := by
  refine wp_region_sep (rj rows) (rf rows) (rr rows) hm hfit (fun q hq d hd => ?_) (fun i l v f w w' h1 h2 h3 h4 h5 => ?_) (fun i hi => ?_) hfin
  · unfold slotsOk at hsz
    rw [List.all_eq_true] at hsz
    have := hsz q hq
    rw [hd] at this
    simpa using this
  · unfold rr at h5 ⊢
    cases hr : rows[i]? with
    | none => trivial
    | some r =>
      simp only [hr] at h5 ⊢
      exact hloc.at_ r (List.mem_of_getElem? hr) l v f w w' h1 h2 h3 h4 h5
  · have := hstep.at_ i (by simpa [rj] using hi)
    rwa [Nat.zero_add] at this

section
variable {P : Program} {ops : Array Oper} {Q : Exit → Act → World → Prop} {js : List Job} {a0 : Act} {w0 : World} {fact : Nat → List Value → Value → Prop} {res : Nat → List Value → Value → List Nat → World → Prop}

theorem step_of {i : Nat} {j : Job} {o : Oper} (hj : js[i]? = some j) (ho : ops[i]? = some o)
    (h : ∀ (a : Act) (w : World) (vs : Nat → Value) (fp : Nat → List Nat) (K : Act → World → Prop), Finds js a0 w0 fact res i j a w vs fp →
      (∀ v w' f, Leaves w0 fact res i j w vs fp v f w' → K (a.put o.dst v) w') → Oper.wp P o a w K Q) : StepJ P ops Q js a0 w0 fact res i := fun j' o' hj' ho' => by
  rw [hj] at hj'; injection hj' with hj'; subst hj'
  rw [ho] at ho'; injection ho' with ho'; subst ho'
  exact h
variable {i : Nat} {j : Job} {a : Act} {w : World} {vs : Nat → Value} {fp : Nat → List Nat}
theorem Finds.ev (h : Finds js a0 w0 fact res i j a w vs fp) (k d : Nat) (hk : j.deps.contains k = true) (hd : (js[k]?).bind (·.dst) = some d) : a.eval (.tmp d) = vs k := by
  cases hq : js[k]? with
  | none => rw [hq] at hd; cases hd
  | some q => rw [hq] at hd; exact h.dep k (by simpa using hk) q hq d hd
def oldOk (js : List Job) (i t : Nat) : Bool := (number js 0).all fun p => p.2.dst != some t || waits js js.length p.1 i
theorem Finds.at_ (h : Finds js a0 w0 fact res i j a w vs fp) (t : Nat) (ht : oldOk js i t = true) : a.eval (.tmp t) = a0.eval (.tmp t) :=
  h.old t fun k q hq e => by
    unfold oldOk at ht
    rw [List.all_eq_true] at ht
    have hm := number_mem (k := 0) hq
    rw [Nat.zero_add] at hm
    have := ht _ hm
    simp only [e, bne_self_eq_false, Bool.false_or] at this
    exact this
theorem Finds.va (h : Finds js a0 w0 fact res i j a w vs fp) (k : Nat) (hk : j.deps.contains k = true) : fact k (dv js k vs) (vs k) := h.val k (by simpa using hk)
theorem Finds.me (h : Finds js a0 w0 fact res i j a w vs fp) (k : Nat) (hk : j.eats.contains k = true) : res k (dv js k vs) (vs k) (fp k) w := h.mem k (by simpa using hk)
variable {v : Value} {f : List Nat} {w' : World}
theorem Finds.only (h : Finds js a0 w0 fact res i j a w vs fp) (h1 : fact i (j.deps.map vs) v) (h2 : res i (j.deps.map vs) v [] w) : Leaves w0 fact res i j w vs fp v [] w :=
  ⟨h.below, Nat.le_refl _, fun _ _ _ => rfl, h1, h2, fun g hg => by cases hg⟩
theorem Finds.hand (h : Finds js a0 w0 fact res i j a w vs fp) (k : Nat) (hk' : j.eats.contains k = true) (h1 : fact i (j.deps.map vs) v) (h2 : res i (j.deps.map vs) v (fp k) w) : Leaves w0 fact res i j w vs fp v (fp k) w :=
  have hk : k ∈ j.eats := by simpa using hk'
  ⟨h.below, Nat.le_refl _, fun _ _ _ => rfl, h1, h2, fun g hg => ⟨(h.own k hk g hg).2, .inl ⟨k, hk, hg⟩⟩⟩
theorem Finds.made (h : Finds js a0 w0 fact res i j a w vs fp) (o : Obj) (h1 : fact i (j.deps.map vs) v) (h2 : res i (j.deps.map vs) v [w.heap.size] (w.alloc o)) : Leaves w0 fact res i j w vs fp v [w.heap.size] (w.alloc o) :=
  ⟨h.below.alloc h.below.size o, by simp, fun g hg _ => Below.heap_alloc w o g hg, h1, h2, fun g hg => by
    rw [List.mem_singleton] at hg; subst hg; exact ⟨by simp, .inr (Nat.le_refl _)⟩⟩
theorem Finds.under (h : Finds js a0 w0 fact res i j a w vs fp) (hb : RowKit.Below w.heap.size w w') (h1 : fact i (j.deps.map vs) v) (h2 : res i (j.deps.map vs) v f w') (h3 : ∀ g ∈ f, w.heap.size ≤ g ∧ g < w'.heap.size) : Leaves w0 fact res i j w vs fp v f w' :=
  ⟨h.below.trans (hb.mono h.below.size), hb.size, fun g hg _ => hb.block g hg, h1, h2, fun g hg => ⟨(h3 g hg).2, .inr (h3 g hg).1⟩⟩
theorem Finds.grown (h : Finds js a0 w0 fact res i j a w vs fp) {u : Value} (k : Nat) (hk' : j.eats.contains k = true) (hf : fp k = u.ownBlock.toList) (hg : w.grownBy w' u.ownBlock) (hv : v.ownBlock = u.ownBlock ∨ v.ownBlock = some w.heap.size)
    (hl : ∀ g, v.ownBlock = some g → g < w'.heap.size) (h1 : fact i (j.deps.map vs) v) (h2 : res i (j.deps.map vs) v v.ownBlock.toList w') : Leaves w0 fact res i j w vs fp v v.ownBlock.toList w' := by
  have hk : k ∈ j.eats := by simpa using hk'
  refine ⟨h.below.grown hg h.below.size (fun g hg => ((h.own k hk g) (by rw [hf, hg]; simp)).1), hg.size, fun g hgl hne => hg.block g hgl (fun e => hne k hk (by rw [hf, ← e]; simp)), h1, h2, fun g hgm => ?_⟩
  have hgv : v.ownBlock = some g := by simpa using hgm
  refine ⟨hl g hgv, ?_⟩
  rcases hv with e | e
  · exact .inl ⟨k, hk, by rw [hf, ← e, hgv]; simp⟩
  · rw [hgv] at e; injection e with e; exact .inr (by omega)
end
end Go.Proofs.YtbokkeooahodaaaGreatDoor

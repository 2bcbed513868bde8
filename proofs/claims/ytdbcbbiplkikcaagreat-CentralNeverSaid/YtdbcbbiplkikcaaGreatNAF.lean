/-
  What the three maps of quotabook.requestsOf say, and laws of a look-up at facts and at bools. No statement of the seat is proved here. No conditions beyond those typed.
  Words and laws for quotabook.requestsOf. No statement of the seat is proved here. Conditions: at most 1000 facts whose numbers are small.
  The comparisons of requests and the sort of a row of requests. No statement of the seat is proved here. Conditions: at most 1000 requests.
-/
import Derived.Test.YtdbcbbiplkikcaaGreatNAE
import Derived.Maps.Own
import Derived.Maps.OwnOps
import Derived.Maps.OwnSet
import Derived.Maps.Views
import Derived.Maps.RangeWalk
namespace Go.Proofs.YtdbcbbiplkikcaaGreat
open Go.RowKit Go.Maps
set_option linter.unusedVariables false

def fctV (x : Fct) : Value := .agg #[.int .i64 x.num, .int .i64 x.kind, .int .i64 x.day, .int .i64 x.id, .int .i64 x.qty]
def fctD (x : Fct) : DataW Unit := .agg [.lit (.int .i64 x.num), .lit (.int .i64 x.kind), .lit (.int .i64 x.day), .lit (.int .i64 x.id), .lit (.int .i64 x.qty)]
theorem fctV_inj {x y : Fct} (h : fctV x = fctV y) : x = y := by
  cases x; cases y
  simp [fctV] at h
  obtain ⟨h1, h2, h3, h4, h5⟩ := h
  subst h1 h2 h3 h4 h5
  rfl
theorem fctD_inj {x y : Fct} (h : fctD x = fctD y) : x = y := by
  cases x; cases y
  simp [fctD] at h
  obtain ⟨h1, h2, h3, h4, h5⟩ := h
  subst h1 h2 h3 h4 h5
  rfl
open Classical in
noncomputable def fctElem (v : Value) : Option (DataW Unit × List MemPlace) := if h : ∃ x, v = fctV x then some (fctD h.choose, []) else none
theorem fctElem_mk (x : Fct) : fctElem (fctV x) = some (fctD x, []) := by
  have h : ∃ y, fctV x = fctV y := ⟨x, rfl⟩
  unfold fctElem
  rw [dif_pos h, ← fctV_inj h.choose_spec]
theorem fctElem_inv {v : Value} {z : DataW Unit × List MemPlace} (h : fctElem v = some z) : ∃ x, v = fctV x ∧ z = (fctD x, []) := by
  unfold fctElem at h
  split at h
  · rename_i h1
    exact ⟨h1.choose, h1.choose_spec, by injection h with h; exact h.symm⟩
  · cases h
theorem plainElem_bool_inv {P : Program} {e : TypeId} (he : P.underlying e = some .bool) {v : Value} {z : DataW Unit × List MemPlace} (h : plainElem P e v = some z) : ∃ b, v = .bool b ∧ z = (.lit (.bool b), []) := by
  unfold plainElem at h
  rw [he] at h
  cases v <;> simp at h
  subst h
  exact ⟨_, rfl, rfl⟩
section
variable {P : Program} (w : World) {ops : Array Oper} {rest : List Oper} {o : Oper} {a : Act} {Q : Exit → Act → World → Prop}
theorem wpList_lookup_own_bool (hg : o.guard = none) (m x : Operand) (t : TypeId) (hop : o.op = Op.lookup t m x false)
    (k e : TypeId) (K : Keyed P k) (ht : P.underlying t = some (.map k e)) (he : P.underlying e = some .bool) (hz : (zeroValue e).run P w = .ok (.bool false) w) (b n : Nat) (D : DataW Unit)
    (hm : a.eval m = .map (some b)) (hown : w.ownsMap P k (plainElem P e) b n D) (key : Value) (kl : Lit) (hx : a.eval x = key) (hkey : keyOf P k key = some kl)
    (hK : ∀ c : Bool, D.atKey kl (.lit (.bool false)) = .lit (.bool c) → wpList P ops Q rest (a.put o.dst (.bool c)) w) :
    wpList P ops Q (o :: rest) a w := by
  refine wpList_plain hg fun K' hK' => ?_
  obtain ⟨v, ps, hrun, hv⟩ := hown.lookup K ht hz (plainElem_bool he false) hkey
  obtain ⟨c, rfl, hc⟩ := plainElem_bool_inv he hv
  unfold Oper.wp
  simp [execOp, hop, hm, hx, hrun, Result.andThen]
  exact hK' _ _ (hK c (congrArg Prod.fst hc))
theorem wpList_lookup_own_fct (hg : o.guard = none) (m x : Operand) (t : TypeId) (hop : o.op = Op.lookup t m x true)
    (k e : TypeId) (K : Keyed P k) (ht : P.underlying t = some (.map k e)) (hz : (zeroValue e).run P w = .ok (.agg #[.int .i64 0, .int .i64 0, .int .i64 0, .int .i64 0, .int .i64 0]) w) (b n : Nat) (D : DataW Unit)
    (hm : a.eval m = .map (some b)) (hown : w.ownsMap P k fctElem b n D) (key : Value) (kl : Lit) (hx : a.eval x = key) (hkey : keyOf P k key = some kl)
    (hK : ∀ c : Fct, wpList P ops Q rest (a.put o.dst (.tuple #[.agg #[.int .i64 c.num, .int .i64 c.kind, .int .i64 c.day, .int .i64 c.id, .int .i64 c.qty], .bool (Maps.has D kl)])) w) :
    wpList P ops Q (o :: rest) a w :=
  wpList_lookup_own_ok w hg m x t hop k e K ht fctElem hz (fctD ⟨0, 0, 0, 0, 0⟩) [] (fctElem_mk ⟨0, 0, 0, 0, 0⟩) b n D hm hown key kl hx hkey (fun v ps hv => by
    obtain ⟨c, rfl, hc⟩ := fctElem_inv hv
    exact hK c)
end

/-! ### What the facts say -/
def askOf (fs : List Fct) (id : Int) : Option Fct := fs.find? (fun f => f.kind == 1 && f.id == id)
def retOf (fs : List Fct) (id : Int) : Int := ((fs.filter (fun f => f.kind == 2 && f.id == id)).map (·.qty)).sum
def wdOf (fs : List Fct) (id : Int) : Bool := fs.any (fun f => f.kind == 3 && f.id == id)
theorem askOf_snoc (fs : List Fct) (x : Fct) (id : Int) : askOf (fs ++ [x]) id = match askOf fs id with | some y => some y | none => if x.kind == 1 && x.id == id then some x else none := by
  unfold askOf
  rw [List.find?_append]
  cases h : fs.find? (fun f => f.kind == 1 && f.id == id)
  · by_cases e : (x.kind == 1 && x.id == id) = true <;> simp [e]
  · simp
theorem retOf_snoc (fs : List Fct) (x : Fct) (id : Int) : retOf (fs ++ [x]) id = retOf fs id + if x.kind == 2 && x.id == id then x.qty else 0 := by
  unfold retOf
  rw [List.filter_append]
  by_cases e : (x.kind == 2 && x.id == id) = true
  · rw [if_pos e]; simp [e]
  · rw [if_neg e]; simp [e]
theorem wdOf_snoc (fs : List Fct) (x : Fct) (id : Int) : wdOf (fs ++ [x]) id = (wdOf fs id || (x.kind == 3 && x.id == id)) := by
  unfold wdOf
  rw [List.any_append]
  simp
structure Maps3 (fs : List Fct) (D1 D2 D3 : DataW Unit) : Prop where
  ask : ∀ id : Int, Maps.has D1 (.int .i64 id) = (askOf fs id).isSome
  at_ : ∀ (id : Int) (x : Fct), askOf fs id = some x → ∀ z, D1.atKey (.int .i64 id) z = fctD x
  ret : ∀ id : Int, D2.atKey (.int .i64 id) (.lit (.int .i64 0)) = .lit (.int .i64 (retOf fs id))
  wd : ∀ id : Int, D3.atKey (.int .i64 id) (.lit (.bool false)) = .lit (.bool (wdOf fs id))
theorem key_lit (a : Int) : WideAt.IsKeyLit (.int .i64 a) := trivial
theorem lit_ne {a b : Int} (h : a ≠ b) : (Lit.int .i64 a) ≠ .int .i64 b := fun e => h (by injection e)
section
variable {fs : List Fct} {D1 D2 D3 : DataW Unit} {x : Fct}
theorem Maps3.start : Maps3 [] (.map []) (.map []) (.map []) := ⟨fun _ => rfl, fun _ _ h => (by cases h), fun _ => rfl, fun _ => rfl⟩
theorem Maps3.skip (h : Maps3 fs D1 D2 D3) (h1 : x.kind = 1 → (askOf fs x.id).isSome = true) (h2 : x.kind ≠ 2) (h3 : x.kind ≠ 3) : Maps3 (fs ++ [x]) D1 D2 D3 := by
  have e1 : ∀ id, askOf (fs ++ [x]) id = askOf fs id := fun id => by
    rw [askOf_snoc]
    cases e : askOf fs id
    · show (if _ then _ else _) = _
      rw [if_neg]
      intro hc
      rw [Bool.and_eq_true] at hc
      have k1 : x.kind = 1 := by simpa using hc.1
      have k2 : x.id = id := by simpa using hc.2
      have := h1 k1
      rw [k2, e] at this
      cases this
    · rfl
  refine ⟨fun id => by rw [e1, h.ask], fun id y hy z => h.at_ id y (by rw [← e1]; exact hy) z, fun id => ?_, fun id => ?_⟩
  · rw [retOf_snoc, if_neg (by simp; intro k; exact absurd k h2), h.ret, Int.add_zero]
  · rw [wdOf_snoc, show (x.kind == 3) = false by simpa using h3, Bool.false_and, Bool.or_false, h.wd]
theorem Maps3.asked (h : Maps3 fs D1 D2 D3) (hm : Maps.IsMap D1) (h1 : x.kind = 1) (h0 : askOf fs x.id = none) : Maps3 (fs ++ [x]) (D1.put (.int .i64 x.id) (fctD x)) D2 D3 := by
  refine ⟨fun id => ?_, fun id y hy z => ?_, fun id => ?_, fun id => ?_⟩
  · by_cases e : id = x.id
    · subst e
      rw [has_put_same hm (key_lit _), askOf_snoc, h0]
      simp [h1]
    · rw [has_put_other (lit_ne e), h.ask, askOf_snoc]
      cases askOf fs id
      · simp [show (x.id == id) = false by simpa using fun k => e k.symm]
      · rfl
  · by_cases e : id = x.id
    · subst e
      rw [askOf_snoc, h0] at hy
      simp [h1] at hy
      subst hy
      exact atKey_put_same hm (key_lit _) _ _
    · rw [atKey_put_other (lit_ne e)]
      refine h.at_ id y ?_ z
      rw [askOf_snoc] at hy
      cases ha : askOf fs id
      · rw [ha] at hy
        simp [show (x.id == id) = false by simpa using fun k => e k.symm] at hy
      · rw [ha] at hy
        exact hy
  · rw [retOf_snoc, if_neg (by simp [h1]), h.ret, Int.add_zero]
  · rw [wdOf_snoc, h1]; simpa using h.wd id
theorem Maps3.returned (h : Maps3 fs D1 D2 D3) (hm : Maps.IsMap D2) (h1 : x.kind = 2) : Maps3 (fs ++ [x]) D1 (D2.put (.int .i64 x.id) (.lit (.int .i64 (retOf fs x.id + x.qty)))) D3 := by
  have e1 : ∀ id, askOf (fs ++ [x]) id = askOf fs id := fun id => by
    rw [askOf_snoc]; cases askOf fs id <;> simp [h1]
  refine ⟨fun id => by rw [e1, h.ask], fun id y hy z => h.at_ id y (by rw [← e1]; exact hy) z, fun id => ?_, fun id => ?_⟩
  · by_cases e : id = x.id
    · subst e
      rw [atKey_put_same hm (key_lit _), retOf_snoc]
      simp [h1]
    · rw [atKey_put_other (lit_ne e), h.ret, retOf_snoc, if_neg (by simp; intro _ k; exact e k.symm), Int.add_zero]
  · rw [wdOf_snoc, h1]; simpa using h.wd id
theorem Maps3.withdrawn (h : Maps3 fs D1 D2 D3) (hm : Maps.IsMap D3) (h1 : x.kind = 3) : Maps3 (fs ++ [x]) D1 D2 (D3.put (.int .i64 x.id) (.lit (.bool true))) := by
  have e1 : ∀ id, askOf (fs ++ [x]) id = askOf fs id := fun id => by
    rw [askOf_snoc]; cases askOf fs id <;> simp [h1]
  refine ⟨fun id => by rw [e1, h.ask], fun id y hy z => h.at_ id y (by rw [← e1]; exact hy) z, fun id => ?_, fun id => ?_⟩
  · rw [retOf_snoc, if_neg (by simp [h1]), h.ret, Int.add_zero]
  · by_cases e : id = x.id
    · subst e
      rw [atKey_put_same hm (key_lit _), wdOf_snoc]
      simp [h1]
    · rw [atKey_put_other (lit_ne e), h.wd, wdOf_snoc, show (x.id == id) = false by simpa using fun k => e k.symm, Bool.and_false, Bool.or_false]
end
def FOk (x : Fct) : Prop := 0 ≤ x.num ∧ x.num ≤ 1000000000 ∧ 1 ≤ x.kind ∧ x.kind ≤ 4 ∧ 0 ≤ x.day ∧ x.day ≤ 36524 ∧ 0 ≤ x.id ∧ x.id ≤ 1000000 ∧ 0 ≤ x.qty ∧ x.qty ≤ 1000000000
theorem ret_bounds {fs : List Fct} (h : ∀ x ∈ fs, FOk x) (id : Int) : 0 ≤ retOf fs id ∧ retOf fs id ≤ (fs.length : Int) * 1000000000 := by
  induction fs with
  | nil => simp [retOf]
  | cons x fs ih =>
    have h1 := ih fun y hy => h y (List.mem_cons_of_mem _ hy)
    have h2 := h x (List.mem_cons_self ..)
    unfold FOk at h2
    unfold retOf at h1 ⊢
    rw [List.filter_cons]
    split
    · simp; omega
    · simp; omega
end Go.Proofs.YtdbcbbiplkikcaaGreat

namespace Go.Proofs.YtdbcbbiplkikcaaGreat
open Go.RowKit Go.Maps
set_option linter.unusedVariables false

theorem klawI : Keyed Tryz.prog 3 := int_keyed Tryz.underlying3
theorem zeroF (w : World) : (zeroValue 122).run Tryz.prog w = .ok (.agg #[.int .i64 0, .int .i64 0, .int .i64 0, .int .i64 0, .int .i64 0]) w := by kernel_rfl
theorem zeroI (w : World) : (zeroValue 3).run Tryz.prog w = .ok (.int .i64 0) w := by kernel_rfl
theorem zeroB (w : World) : (zeroValue 4).run Tryz.prog w = .ok (.bool false) w := by kernel_rfl
theorem wf_small {a : Int} (h0 : -9223372036854775808 ≤ a) (h1 : a ≤ 9223372036854775807) : (Lit.int .i64 a).wf = true := Go.WalkArith.wf_i64 ⟨h0, h1⟩
def Own3 (w : World) (b n : Nat) (D1 D2 D3 : DataW Unit) : Prop := w.ownsMap Tryz.prog 3 fctElem b n D1 ∧ w.ownsMap Tryz.prog 3 (plainElem Tryz.prog 3) (b + 1) n D2 ∧ w.ownsMap Tryz.prog 3 (plainElem Tryz.prog 4) (b + 2) n D3
theorem Own3.alloc {w : World} {b n : Nat} {D1 D2 D3 : DataW Unit} (h : Own3 w b n D1 D2 D3) (o : Obj) : Own3 (w.alloc o) b n D1 D2 D3 := ⟨h.1.alloc o, h.2.1.alloc o, h.2.2.alloc o⟩
theorem Own3.mono {w : World} {b n m : Nat} {D1 D2 D3 : DataW Unit} (h : Own3 w b n D1 D2 D3) (hn : n ≤ m) : Own3 w b m D1 D2 D3 := ⟨h.1.mono hn, h.2.1.mono hn, h.2.2.mono hn⟩
theorem Own3.kept {w w' : World} {b n : Nat} {D1 D2 D3 : DataW Unit} {row : Option Nat} (h : Own3 w b n D1 D2 D3) (hg : w.grownBy w' row) (hr : ∀ j, row = some j → b + 3 ≤ j) : Own3 w' b n D1 D2 D3 :=
  ⟨h.1.kept hg (fun e => by have := hr b e.symm; omega), h.2.1.kept hg (fun e => by have := hr (b + 1) e.symm; omega), h.2.2.kept hg (fun e => by have := hr (b + 2) e.symm; omega)⟩
theorem Own3.up1 {w w' : World} {b n : Nat} {D1 D2 D3 D : DataW Unit} (h : Own3 w b n D1 D2 D3) (ho : w'.ownsMap Tryz.prog 3 fctElem b (n + 1) D) (hg : w.grownBy w' (some b)) : Own3 w' b (n + 1) D D2 D3 :=
  ⟨ho, (h.2.1.kept hg (fun e => by injection e; omega)).mono (by omega), (h.2.2.kept hg (fun e => by injection e; omega)).mono (by omega)⟩
theorem Own3.up2 {w w' : World} {b n : Nat} {D1 D2 D3 D : DataW Unit} (h : Own3 w b n D1 D2 D3) (ho : w'.ownsMap Tryz.prog 3 (plainElem Tryz.prog 3) (b + 1) (n + 1) D) (hg : w.grownBy w' (some (b + 1))) : Own3 w' b (n + 1) D1 D D3 :=
  ⟨(h.1.kept hg (fun e => by injection e; omega)).mono (by omega), ho, (h.2.2.kept hg (fun e => by injection e; omega)).mono (by omega)⟩
theorem Own3.up3 {w w' : World} {b n : Nat} {D1 D2 D3 D : DataW Unit} (h : Own3 w b n D1 D2 D3) (ho : w'.ownsMap Tryz.prog 3 (plainElem Tryz.prog 4) (b + 2) (n + 1) D) (hg : w.grownBy w' (some (b + 2))) : Own3 w' b (n + 1) D1 D2 D :=
  ⟨(h.1.kept hg (fun e => by injection e; omega)).mono (by omega), (h.2.1.kept hg (fun e => by injection e; omega)).mono (by omega), ho⟩
theorem lit_eq {a b : Int} (h : (DataW.lit (.int .i64 a) : DataW Unit) = .lit (.int .i64 b)) : a = b := by injection h with h; injection h
theorem lit_eqB {a b : Bool} (h : (DataW.lit (.bool a) : DataW Unit) = .lit (.bool b)) : a = b := by injection h with h; injection h
theorem Own3.made (w : World) : Own3 (((w.alloc (.map #[] 0)).alloc (.map #[] 0)).alloc (.map #[] 0)) w.heap.size 0 (.map []) (.map []) (.map []) := by
  refine ⟨((World.ownsMap_made w _ _ _).alloc _).alloc _, ?_, ?_⟩
  · have := (World.ownsMap_made (w.alloc (.map #[] 0)) Tryz.prog 3 (plainElem (H := Unit) Tryz.prog 3)).alloc (.map #[] 0)
    simpa using this
  · have := World.ownsMap_made ((w.alloc (.map #[] 0)).alloc (.map #[] 0)) Tryz.prog 3 (plainElem (H := Unit) Tryz.prog 4)
    simpa using this

structure Rq where
  id : Int
  day : Int
  avail : Int
  asked : Int
  req : Int
  grant : Int
deriving Inhabited, DecidableEq
def encR (x : Rq) : List Value := [.int .i64 x.id, .int .i64 x.day, .int .i64 x.avail, .int .i64 x.asked, .int .i64 x.req, .int .i64 x.grant]
theorem encR_len (x : Rq) : (encR x).length = 6 := rfl
theorem encR_one (x : Rq) : ∀ v ∈ encR x, v.oneCell' = true := fun v hv => by
  simp [encR] at hv
  rcases hv with rfl | rfl | rfl | rfl | rfl | rfl <;> rfl
theorem infoR : (Tryz.prog.info? 264).map (fun i => (i.zero, i.size, i.bytes)) = some (some (.agg #[.int .i64 0, .int .i64 0, .int .i64 0, .int .i64 0, .int .i64 0, .int .i64 0]), 6, 48) := by kernel_rfl
def effOf (fs : List Fct) (id q : Int) : Int := if wdOf fs id then 0 else max (q - retOf fs id) 0
def rqOf (fs : List Fct) (id : Int) : Rq := match askOf fs id with | some f => ⟨id, f.day, 0, 0, effOf fs id f.qty, 0⟩ | none => ⟨id, 0, 0, 0, 0, 0⟩
theorem own_nilR (w : World) (b : Nat) : w.ownsRow b 264 6 (.slice none 0 0) 0 (flat encR []) := ⟨by simp [flat], .inl ⟨rfl, rfl⟩⟩
structure Coll (fs : List Fct) (rs : List Rq) (left : Lit → Bool) : Prop where
  nodup : (rs.map (·.id)).Nodup
  mem : ∀ id : Int, (∃ r ∈ rs, r.id = id) ↔ ((askOf fs id).isSome = true ∧ left (.int .i64 id) = false)
  val : ∀ r ∈ rs, r = rqOf fs r.id
theorem ask_of_at {fs : List Fct} {D1 D2 D3 : DataW Unit} (h : Maps3 fs D1 D2 D3) {x : Int} {c : Fct} (hat : ∀ zd, D1.atKey (.int .i64 x) zd = fctD c) : askOf fs x = some c := by
  have h1 := has_true_of_atKey hat
  rw [h.ask x] at h1
  cases e : askOf fs x
  · rw [e] at h1; cases h1
  · rename_i c'
    have := h.at_ x c' e .nil
    rw [hat .nil] at this
    rw [fctD_inj this]
theorem ask_mem {fs : List Fct} {x : Int} {c : Fct} (h : askOf fs x = some c) : c ∈ fs ∧ c.kind = 1 ∧ c.id = x := by
  have h1 := List.find?_some h
  rw [Bool.and_eq_true] at h1
  exact ⟨List.mem_of_find?_eq_some h, by simpa using h1.1, by simpa using h1.2⟩
theorem Coll.start {fs : List Fct} {left : Lit → Bool} (h : ∀ id : Int, left (.int .i64 id) = (askOf fs id).isSome) : Coll fs [] left :=
  ⟨List.nodup_nil, fun id => ⟨(by rintro ⟨r, hr, _⟩; cases hr), (by rintro ⟨h1, h2⟩; rw [h id, h1] at h2; cases h2)⟩, fun r hr => (by cases hr)⟩
theorem same_int (a b : Int) : (Lit.int .i64 a).sameKey (.int .i64 b) = decide (a = b) := by
  by_cases e : a = b
  · subst e; rw [WideAt.sameKey_self (key_lit _)]; simp
  · rw [sameKey_ne (lit_ne e)]; simp [e]
theorem Coll.step {fs : List Fct} {rs : List Rq} {left : Lit → Bool} (h : Coll fs rs left) {x : Int} {c : Fct} (hl : left (.int .i64 x) = true) (ha : askOf fs x = some c) : Coll fs (rs ++ [⟨x, c.day, 0, 0, effOf fs x c.qty, 0⟩]) (fun z => left z && !z.sameKey (.int .i64 x)) := by
  have hnot : ¬ ∃ r ∈ rs, r.id = x := fun hx => by
    have := ((h.mem x).1 hx).2
    rw [hl] at this; cases this
  refine ⟨?_, fun id => ?_, fun r hr => ?_⟩
  · rw [List.map_append, List.nodup_append]
    refine ⟨h.nodup, by simp, ?_⟩
    intro a ha b hb e
    obtain ⟨r, hr, rfl⟩ := List.mem_map.1 ha
    have : b = x := by simpa using hb
    exact hnot ⟨r, hr, by rw [e, this]⟩
  · show _ ↔ _ ∧ (left _ && !(Lit.int .i64 id).sameKey (.int .i64 x)) = false
    rw [same_int]
    constructor
    · rintro ⟨r, hr, rfl⟩
      rcases List.mem_append.1 hr with hr | hr
      · obtain ⟨h1, h2⟩ := (h.mem r.id).1 ⟨r, hr, rfl⟩
        exact ⟨h1, by rw [h2]; rfl⟩
      · have : r = ⟨x, c.day, 0, 0, effOf fs x c.qty, 0⟩ := by simpa using hr
        subst this
        exact ⟨by show (askOf fs x).isSome = true; rw [ha]; rfl, by simp⟩
    · rintro ⟨h1, h2⟩
      by_cases e : id = x
      · exact ⟨_, List.mem_append.2 (.inr (List.mem_singleton.2 rfl)), e.symm⟩
      · rw [decide_eq_false e, Bool.not_false, Bool.and_true] at h2
        obtain ⟨r, hr, hid⟩ := (h.mem id).2 ⟨h1, h2⟩
        exact ⟨r, List.mem_append.2 (.inl hr), hid⟩
  · rcases List.mem_append.1 hr with hr | hr
    · exact h.val r hr
    · have : r = ⟨x, c.day, 0, 0, effOf fs x c.qty, 0⟩ := by simpa using hr
      subst this
      unfold rqOf
      rw [ha]
section
variable {P : Program} (w : World) {ops : Array Oper} {rest : List Oper} {o : Oper} {a : Act} {Q : Exit → Act → World → Prop}
theorem wpList_next_fct (hg : o.guard = none) (it : Operand) (hop : o.op = Op.next it false) (k : TypeId) (K : Keyed P k) (hk : P.underlying k = some (.int .i64))
    (b r n : Nat) (D : DataW Unit) (left : Lit → Bool) (cnt : Nat) (hit : a.eval it = .pointer (some ⟨r, 0, none⟩)) (h : w.ranges P k fctElem b r n D left cnt)
    (hDone : cnt = 0 → (∀ kl, left kl = false) → wpList P ops Q rest (a.put o.dst (.tuple #[.bool false])) w)
    (hMore : ∀ (x : Int) (c : Fct) (w' : World) (cnt' : Nat), (Lit.int .i64 x).wf = true → left (.int .i64 x) = true → (∀ zd, D.atKey (.int .i64 x) zd = fctD c) → w'.ranges P k fctElem b r n D (fun z => left z && !z.sameKey (.int .i64 x)) cnt' → cnt' < cnt →
      w.grownBy w' (some r) → w'.heap.size = w.heap.size → (Instr.entry (.pointer (some ⟨r, 0, none⟩))).run P w' = .ok (.tuple #[.int .i64 x, .agg #[.int .i64 c.num, .int .i64 c.kind, .int .i64 c.day, .int .i64 c.id, .int .i64 c.qty]]) w' →
      wpList P ops Q rest (a.put o.dst (.tuple #[.bool true, .int .i64 x, .agg #[.int .i64 c.num, .int .i64 c.kind, .int .i64 c.day, .int .i64 c.id, .int .i64 c.qty]])) w') :
    wpList P ops Q (o :: rest) a w :=
  wpList_next_ranges w hg it hop k K fctElem (Value.int .i64) fctV (fun key kl hkey => by obtain ⟨x, rfl, _⟩ := Maps.keyOf_int_inv hk hkey; exact ⟨x, rfl⟩) (fun v y hv => by obtain ⟨c, rfl, _⟩ := fctElem_inv hv; exact ⟨c, rfl⟩)
    b r n D left cnt hit h hDone (fun x c kl y w' cnt' hkey hlk hv hat hrg hlt hgr hsz hen => by
      obtain ⟨x', ex, rfl, hwx⟩ := Maps.keyOf_int_inv hk hkey
      cases ex
      obtain ⟨c', ec, rfl⟩ := fctElem_inv hv
      obtain rfl := fctV_inj ec
      exact hMore x c w' cnt' hwx hlk hat hrg hlt hgr hsz hen)
end
end Go.Proofs.YtdbcbbiplkikcaaGreat

namespace Go.Proofs.YtdbcbbiplkikcaaGreat
open Go.RowKit Go.Shelf Go.Lib Go.Sort
set_option linter.unusedVariables false

set_option maxHeartbeats 1000000 in
theorem cmpOr_any (g : Nat) (a b : Int) (w : World) (h0 : w.cell? ⟨g, 0, none⟩ = some (.int .i64 a)) (h1 : w.cell? ⟨g, 1, none⟩ = some (.int .i64 b)) :
    Calls Tryz.prog 70 #[.slice (some ⟨g, 0, none⟩) 2 2] w fun e w' => e = .returned (.int .i64 (if a = 0 then b else a)) ∧ w = w' := by
  by_cases ha : a = 0
  · subst ha
    rw [if_pos rfl]
    by_cases hb : b = 0
    · subst hb
      go_enter Tryz.func70, Tryz.ntmps70
      go_wp2
      refine wp_loop_rounds 3 ?_
      rw [rounds_succ]
      go_wp2
      rw [rounds_succ]
      go_wp2
      rw [rounds_succ]
      go_wp2
      go_ret
      exact ⟨rfl, rfl⟩
    · have b1 : (b != 0) = true := by simpa using hb
      clear hb
      go_enter Tryz.func70, Tryz.ntmps70
      go_wp2
      refine wp_loop_rounds 2 ?_
      rw [rounds_succ]
      go_wp2
      rw [rounds_succ]
      go_wp2
      go_ret
      exact ⟨rfl, rfl⟩
  · have b1 : (a != 0) = true := by simpa using ha
    rw [if_neg ha]
    clear ha
    go_enter Tryz.func70, Tryz.ntmps70
    go_wp2
    refine wp_loop_rounds 1 ?_
    rw [rounds_succ]
    go_wp2
    go_ret
    exact ⟨rfl, rfl⟩

def cmpR (x y : Rq) : Int := if Lib.compareInt x.day y.day = 0 then Lib.compareInt x.id y.id else Lib.compareInt x.day y.day
def cmpI (x y : Rq) : Int := Lib.compareInt x.id y.id

set_option maxRecDepth 100000 in
set_option maxHeartbeats 4000000 in
theorem cmpR_any (x y : Rq) (W : World) :
    Calls Tryz.prog 187 #[.agg #[.int .i64 x.id, .int .i64 x.day, .int .i64 x.avail, .int .i64 x.asked, .int .i64 x.req, .int .i64 x.grant], .agg #[.int .i64 y.id, .int .i64 y.day, .int .i64 y.avail, .int .i64 y.asked, .int .i64 y.req, .int .i64 y.grant]] W
    fun e w' => e = .returned (.int .i64 (cmpR x y)) ∧ ∃ q os', w' = grow (W.drewN q) os' := by
  unfold cmpR
  have H1 := Lib.hid (fun w => Tryz.cmp_Compare_int x.day y.day w)
  have H2 := Lib.hid (fun w => Tryz.cmp_Compare_int x.id y.id w)
  generalize Lib.compareInt x.day y.day = r1 at *
  generalize Lib.compareInt x.id y.id = r2 at *
  have HOR : Hid (∀ (w' : World) (g : Nat), w'.heap.size = g → Calls Tryz.prog 70 #[.slice (some ⟨g, 0, none⟩) 2 2] (w'.alloc (.cells #[.int .i64 r1, .int .i64 r2] 3)).drew (fun e w9 => e = .returned (.int .i64 (if r1 = 0 then r2 else r1)) ∧ (w'.alloc (.cells #[.int .i64 r1, .int .i64 r2] 3)).drew = w9)) := fun w' g hg => by
    subst hg
    exact cmpOr_any _ r1 r2 _ ((Bl.new w' _ _).cell 0) ((Bl.new w' _ _).cell 1)
  generalize (if r1 = 0 then r2 else r1) = r at *
  have HB1 := (Bl.new W 264 #[.int .i64 x.id, .int .i64 x.day, .int .i64 x.avail, .int .i64 x.asked, .int .i64 x.req, .int .i64 x.grant]).alloc (.cells #[.int .i64 y.id, .int .i64 y.day, .int .i64 y.avail, .int .i64 y.asked, .int .i64 y.req, .int .i64 y.grant] 264)
  have HB2 := Bl.new (W.alloc (.cells #[.int .i64 x.id, .int .i64 x.day, .int .i64 x.avail, .int .i64 x.asked, .int .i64 x.req, .int .i64 x.grant] 264)) 264 #[.int .i64 y.id, .int .i64 y.day, .int .i64 y.avail, .int .i64 y.asked, .int .i64 y.req, .int .i64 y.grant]
  have HG : Hid ((W.alloc (.cells #[.int .i64 x.id, .int .i64 x.day, .int .i64 x.avail, .int .i64 x.asked, .int .i64 x.req, .int .i64 x.grant] 264)).alloc (.cells #[.int .i64 y.id, .int .i64 y.day, .int .i64 y.avail, .int .i64 y.asked, .int .i64 y.req, .int .i64 y.grant] 264) = grow W #[.cells #[.int .i64 x.id, .int .i64 x.day, .int .i64 x.avail, .int .i64 x.asked, .int .i64 x.req, .int .i64 x.grant] 264, .cells #[.int .i64 y.id, .int .i64 y.day, .int .i64 y.avail, .int .i64 y.asked, .int .i64 y.req, .int .i64 y.grant] 264]) := by
    show _ = _
    rw [alloc_eq_grow, alloc_eq_grow, grow_grow]; rfl
  have hz : (W.alloc (.cells #[.int .i64 x.id, .int .i64 x.day, .int .i64 x.avail, .int .i64 x.asked, .int .i64 x.req, .int .i64 x.grant] 264)).heap.size = W.heap.size + 1 := by simp
  rw [hz] at HB2
  clear hz
  go_enter Tryz.func187, Tryz.ntmps187
  go_upto_region 1 with (fail)
  generalize (W.alloc (.cells #[.int .i64 x.id, .int .i64 x.day, .int .i64 x.avail, .int .i64 x.asked, .int .i64 x.req, .int .i64 x.grant] 264)).alloc (.cells #[.int .i64 y.id, .int .i64 y.day, .int .i64 y.avail, .int .i64 y.asked, .int .i64 y.req, .int .i64 y.grant] 264) = W2 at *
  have g1 : W.heap.size < W2.heap.size := HB1.lt
  have g2 : W.heap.size + 1 < W2.heap.size := HB2.lt
  have p0 : W2.cell? ⟨W.heap.size, 0, none⟩ = some (.int .i64 x.id) := HB1.cell 0
  have p1 : W2.cell? ⟨W.heap.size, 1, none⟩ = some (.int .i64 x.day) := HB1.cell 1
  have r0 : W2.cell? ⟨W.heap.size + 1, 0, none⟩ = some (.int .i64 y.id) := HB2.cell 0
  have r1' : W2.cell? ⟨W.heap.size + 1, 1, none⟩ = some (.int .i64 y.day) := HB2.cell 1
  clear HB1 HB2
  generalize W.heap.size + 1 = k2 at *
  generalize W.heap.size = k1 at *
  go_region_held3 (fun w' => w'.cell? ⟨k1, 0, none⟩ = some (.int .i64 x.id) ∧ w'.cell? ⟨k1, 1, none⟩ = some (.int .i64 x.day) ∧ w'.cell? ⟨k2, 0, none⟩ = some (.int .i64 y.id) ∧ w'.cell? ⟨k2, 1, none⟩ = some (.int .i64 y.day))
    (first
      | go_keep)
    (first
      | (go_at_call 71; (first | (with_reducible refine (H1.out _).mono ?_) | (with_reducible refine (H2.out _).mono ?_)); rintro e w' ⟨rfl, rfl⟩)
      | (go_at_call 70; refine (HOR.out _ _ ?_).mono ?_; (rfl); rintro e w' ⟨rfl, rfl⟩))
  all_goals
    go_wp2
    go_ret
    exact ⟨rfl, 1, _, by rw [HG.out, alloc_eq_grow, grow_grow]; rfl⟩

set_option maxRecDepth 100000 in
set_option maxHeartbeats 4000000 in
theorem cmpI_any (x y : Rq) (W : World) :
    Calls Tryz.prog 177 #[.agg #[.int .i64 x.id, .int .i64 x.day, .int .i64 x.avail, .int .i64 x.asked, .int .i64 x.req, .int .i64 x.grant], .agg #[.int .i64 y.id, .int .i64 y.day, .int .i64 y.avail, .int .i64 y.asked, .int .i64 y.req, .int .i64 y.grant]] W
    fun e w' => e = .returned (.int .i64 (cmpI x y)) ∧ ∃ q os', w' = grow (W.drewN q) os' := by
  unfold cmpI
  have H2 := Lib.hid (fun w => Tryz.cmp_Compare_int x.id y.id w)
  generalize Lib.compareInt x.id y.id = r2 at *
  go_enter Tryz.func177, Tryz.ntmps177
  go_wp2_with fail
  refine (H2.out _).mono ?_
  rintro e w1 ⟨rfl, rfl⟩
  go_wp2
  go_ret
  exact ⟨rfl, 0, _, by rw [alloc_eq_grow, alloc_eq_grow, grow_grow]; rfl⟩

theorem ltR (x y : Rq) : ltOf cmpR x y = decide (x.day < y.day ∨ (x.day = y.day ∧ x.id < y.id)) := by
  unfold ltOf cmpR Lib.compareInt
  by_cases h1 : x.day < y.day
  · simp [h1]
  · by_cases h2 : y.day < x.day
    · have : ¬ x.day = y.day := by omega
      simp [h1, h2, this]
    · have : x.day = y.day := by omega
      simp [this]
      by_cases h3 : x.id < y.id
      · simp [h3]
      · by_cases h4 : y.id < x.id <;> simp [h3, h4]
theorem ltI (x y : Rq) : ltOf cmpI x y = decide (x.id < y.id) := by
  unfold ltOf cmpI Lib.compareInt
  by_cases h3 : x.id < y.id
  · simp [h3]
  · by_cases h4 : y.id < x.id <;> simp [h3, h4]
theorem swoR : SWO (ltOf cmpR) where
  irrefl x := by rw [ltR]; simp
  trans x y z h1 h2 := by rw [ltR] at *; simp at *; omega
  ntrans x y z h1 h2 := by rw [ltR] at *; simp at *; omega
theorem swoI : SWO (ltOf cmpI) where
  irrefl x := by rw [ltI]; simp
  trans x y z h1 h2 := by rw [ltI] at *; simp at *; omega
  ntrans x y z h1 h2 := by rw [ltI] at *; simp at *; omega

/-! ### A row of records with its room -/
def RowK {α : Type} (enc : α → List Value) (k : Nat) (arr : Array Value) (n : Nat) (f : Nat → α) : Prop := ∀ j, j < n → ∀ c, c < k → arr[j * k + c]? = some ((enc (f j))[c]!)
theorem own_rowK {α : Type} [Inhabited α] {enc : α → List Value} {k : Nat} (hk : ∀ x, (enc x).length = k) {w : World} {base n c : Nat} {t : TypeId} {A : Option Addr} {xs : List α} (h : w.ownsRow base t k (.slice A n c) n (flat enc xs)) (hl : xs.length = n) (hn : 0 < n) :
    ∃ g arr, A = some ⟨g, 0, none⟩ ∧ base ≤ g ∧ Bl w g t arr ∧ RowK enc k arr n (fun i => xs[i]!) ∧ Hid (arr.size = c * k) ∧ n ≤ c ∧ Hid (c ≤ maxLen) := by
  rcases h.2 with ⟨_, h0⟩ | ⟨g, cap, cur, hv, hb, hh, h1, h2, h3, h4⟩
  · omega
  · injection hv with e1 e2 e3
    subst e3
    refine ⟨g, cur, e1, hb, hh, fun j hj q hq => ?_, h3, h1, h2⟩
    have := flat_get hk xs j q (by omega) hq
    have hlt : j * k + q < n * k := by
      have := Nat.mul_le_mul_right k (show j + 1 ≤ n from hj)
      rw [Nat.add_mul, Nat.one_mul] at this
      omega
    rw [← h4, List.getElem?_take, if_pos hlt, Array.getElem?_toList] at this
    exact this
theorem own_of_rowK {α : Type} [Inhabited α] {enc : α → List Value} {k : Nat} (hk : ∀ x, (enc x).length = k) (hk0 : 0 < k) {w : World} {base g n c : Nat} {t : TypeId} {arr : Array Value} {f : Nat → α} (hb : Bl w g t arr) (h : RowK enc k arr n f) (hg : base ≤ g) (hs : arr.size = c * k) (hn : n ≤ c) (hc : c ≤ maxLen) : w.ownsRow base t k (.slice (some ⟨g, 0, none⟩) n c) n (flat enc ((List.range n).map f)) := by
  have hfl := flat_length hk ((List.range n).map f)
  rw [List.length_map, List.length_range] at hfl
  refine ⟨hfl, .inr ⟨g, c, arr, rfl, hg, hb, hn, hc, hs, ?_⟩⟩
  apply List.ext_getElem?
  intro i
  rw [List.getElem?_take]
  by_cases hi : i < n * k
  · have e1 : i / k * k + i % k = i := by have := Nat.div_add_mod i k; rw [Nat.mul_comm] at this; exact this
    have hj : i / k < n := (Nat.div_lt_iff_lt_mul hk0).2 hi
    have hc : i % k < k := Nat.mod_lt _ hk0
    have h1 := h (i / k) hj (i % k) hc
    have h2 := flat_get hk ((List.range n).map f) (i / k) (i % k) (by simpa using hj) hc
    rw [e1] at h1 h2
    rw [if_pos hi, Array.getElem?_toList, h1, h2]
    congr 2
    simp [hj]
  · rw [if_neg hi, List.getElem?_eq_none (by omega)]
theorem sortWorld_block {α : Type} [Inhabited α] (enc : α → List Value) (k : Nat) (w : World) (g q : Nat) (d : Array α) (os : Array Obj) {t : TypeId} {arr : Array Value} (h : Bl w g t arr) :
    Bl (sortWorldK enc k w g 0 q d os) g t (putCells id 0 (flatK enc k d) arr) ∧ (∀ j, j < w.heap.size → j ≠ g → (sortWorldK enc k w g 0 q d os).heap[j]? = w.heap[j]?) ∧ w.heap.size ≤ (sortWorldK enc k w g 0 q d os).heap.size ∧ (sortWorldK enc k w g 0 q d os).os = w.os ∧ (sortWorldK enc k w g 0 q d os).tape = w.tape ∧ (sortWorldK enc k w g 0 q d os).output = w.output := by
  have hlt := h.lt
  unfold Bl at h
  refine ⟨?_, fun j hj hne => ?_, ?_, rfl, rfl, rfl⟩
  · unfold Bl sortWorldK grow putRowK putRow mapBlock Sort.ahead
    rw [Array.getElem?_append_left (by simpa using hlt), Array.getElem?_modify, if_pos rfl, h]
    rfl
  · unfold sortWorldK grow putRowK putRow mapBlock Sort.ahead
    rw [Array.getElem?_append_left (by simpa using hj), Array.getElem?_modify, if_neg (fun e => hne e.symm)]
  · unfold sortWorldK grow putRowK putRow mapBlock Sort.ahead
    simp
theorem putCells_row {α : Type} [Inhabited α] {enc : α → List Value} {k n : Nat} (hk0 : 0 < k) (d : Array α) (arr : Array Value) (hd : d.size = n) (hs : n * k ≤ arr.size) : RowK enc k (putCells id 0 (flatK enc k d) arr) n (fun i => d[i]!) ∧ (putCells id 0 (flatK enc k d) arr).size = arr.size := by
  refine ⟨fun j hj c hc => ?_, by simp [putCells]⟩
  have hlt : j * k + c < n * k := by
    have := Nat.mul_le_mul_right k (show j + 1 ≤ n from hj)
    rw [Nat.add_mul, Nat.one_mul] at this
    omega
  have e1 : (j * k + c) / k = j := by
    rw [Nat.mul_comm, Nat.mul_add_div hk0, Nat.div_eq_of_lt hc, Nat.add_zero]
  have e2 : (j * k + c) % k = c := by
    rw [Nat.mul_comm, Nat.mul_add_mod, Nat.mod_eq_of_lt hc]
  unfold putCells
  rw [Array.getElem?_mapIdx, Array.getElem?_eq_getElem (by omega), Option.map_some]
  rw [if_pos (by rw [size_flatK, hd]; omega), Nat.sub_zero, get_flatK _ _ _ _ (by rw [hd]; exact hlt), e1, e2]
  rfl
theorem holds_rowK {α : Type} [Inhabited α] {enc : α → List Value} {k n : Nat} (hk0 : 0 < k) {w : World} {g : Nat} {t : TypeId} {arr : Array Value} {d : Array α} (hb : Bl w g t arr) (h : RowK enc k arr n (fun i => d[i]!)) (hd : d.size = n) : HoldsK enc k w g 0 d := by
  intro i hi
  rw [size_flatK, hd] at hi
  rw [get_flatK _ _ _ _ (by rw [hd]; exact hi), Nat.zero_add]
  refine ⟨?_, hb.free _⟩
  rw [hb.cell]
  have hj : i / k < n := (Nat.div_lt_iff_lt_mul hk0).2 hi
  have := h (i / k) hj (i % k) (Nat.mod_lt _ hk0)
  rw [show i / k * k + i % k = i by have := Nat.div_add_mod i k; rw [Nat.mul_comm] at this; exact this] at this
  rw [this]
  rfl

def SortRes (w : World) (base : Nat) (lt : Rq → Rq → Bool) (v : Value) (n : Nat) (rs : List Rq) (e : Ending) (w' : World) : Prop := e = .returned (.tuple #[]) ∧ ∃ rs', rs'.Perm rs ∧ (∀ i j, i < j → j < n → lt rs'[j]! rs'[i]! = false) ∧ w'.ownsRow base 264 6 v n (flat encR rs') ∧ RowKit.Below base w w'

theorem sortR_any (A : Option Addr) (n c base : Nat) (rs : List Rq) (w : World) (h : w.ownsRow base 264 6 (.slice A n c) n (flat encR rs)) (hl : rs.length = n) (hn : n ≤ 1000) (hb : base ≤ w.heap.size) :
    Calls Tryz.prog 176 #[.slice A n c, .func (.func 187) #[] #[]] w (SortRes w base (ltOf cmpR) (.slice A n c) n rs) := by
  by_cases h0 : n = 0
  · subst h0
    obtain rfl : rs = [] := List.eq_nil_of_length_eq_zero hl
    refine (AnyF.slices_SortFunc_none Tryz.sortR A c (.func (.func 187) #[] #[]) w).mono ?_
    rintro e w1 ⟨rfl, rfl⟩
    exact ⟨rfl, [], List.Perm.refl _, fun i j h1 h2 => by omega, h, RowKit.Below.refl _ _⟩
  · obtain ⟨g, arr, rfl, hg, hB, hR, hs, hnc, hm⟩ := own_rowK encR_len h hl (by omega)
    have eg : ∀ args w, (callFunc 187 args).run Tryz.prog w = .ok (.enter 187 args) w := enters_of Tryz.func187 (by kernel_rfl) rfl
    have hd : rs.toArray.size = n := by simpa using hl
    have hH : HoldsK encR 6 w g 0 rs.toArray := holds_rowK (by omega) hB (fun j hj c hc => by have := hR j hj c hc; simpa using this) hd
    have hcon := AnyQ.slices_SortFunc Tryz.sortR 6 Tryz.isAgg264 Tryz.sizeOf264 encR encR_len encR_one cmpR swoR 187 #[] g 0 c rs.toArray w eg (fun m os dk _ x y => cmpR_any x y _) hH hB.lt (by rw [hd]; omega)
    rw [hd] at hcon
    refine hcon.mono ?_
    rintro e w1 ⟨rfl, d', q, os, hp, hs2, rfl⟩
    obtain ⟨hp1, _, hp3⟩ := hp
    rw [hd] at hp1
    obtain ⟨k1, k2, k3, k4, k5, k6⟩ := sortWorld_block encR 6 w g q d' os hB
    have hsz : n * 6 ≤ arr.size := by rw [hs.out]; exact Nat.mul_le_mul_right 6 hnc
    obtain ⟨r1, r2⟩ := putCells_row (enc := encR) (k := 6) (by omega) d' arr hp1 hsz
    have ho := own_of_rowK (base := base) encR_len (by omega) k1 r1 hg (by rw [r2]; exact hs.out) hnc hm.out
    have hlist : (List.range n).map (fun i => d'[i]!) = d'.toList := by
      apply List.ext_getElem
      · simp [hp1]
      · intro i h1 h2
        rw [List.getElem_map, List.getElem_range, getElem!_pos d' i (by simpa using h2), Array.getElem_toList]
    rw [hlist] at ho
    refine ⟨rfl, d'.toList, ?_, fun i j h1 h2 => ?_, ho, ⟨k4, k5, k6, k3, fun j hj => k2 j (by omega) (by omega)⟩⟩
    · have e1 : (d'.extract 0 n).toList = d'.toList := by rw [← hp1]; simp
      have e2 : (rs.toArray.extract 0 n).toList = rs := by rw [← hd]; simp
      rw [e1, e2] at hp3
      exact hp3
    · have := hs2 i j (Nat.zero_le _) h1 h2
      rw [getElem!_pos d' j (by omega), getElem!_pos d' i (by omega)] at this
      rw [getElem!_pos d'.toList j (by simpa [hp1] using h2), getElem!_pos d'.toList i (by simp [hp1]; omega), Array.getElem_toList, Array.getElem_toList]
      exact this

theorem sortI_any (A : Option Addr) (n c base : Nat) (rs : List Rq) (w : World) (h : w.ownsRow base 264 6 (.slice A n c) n (flat encR rs)) (hl : rs.length = n) (hn : n ≤ 1000) (hb : base ≤ w.heap.size) :
    Calls Tryz.prog 176 #[.slice A n c, .func (.func 177) #[] #[]] w (SortRes w base (ltOf cmpI) (.slice A n c) n rs) := by
  by_cases h0 : n = 0
  · subst h0
    obtain rfl : rs = [] := List.eq_nil_of_length_eq_zero hl
    refine (AnyF.slices_SortFunc_none Tryz.sortR A c (.func (.func 177) #[] #[]) w).mono ?_
    rintro e w1 ⟨rfl, rfl⟩
    exact ⟨rfl, [], List.Perm.refl _, fun i j h1 h2 => by omega, h, RowKit.Below.refl _ _⟩
  · obtain ⟨g, arr, rfl, hg, hB, hR, hs, hnc, hm⟩ := own_rowK encR_len h hl (by omega)
    have eg : ∀ args w, (callFunc 177 args).run Tryz.prog w = .ok (.enter 177 args) w := enters_of Tryz.func177 (by kernel_rfl) rfl
    have hd : rs.toArray.size = n := by simpa using hl
    have hH : HoldsK encR 6 w g 0 rs.toArray := holds_rowK (by omega) hB (fun j hj c hc => by have := hR j hj c hc; simpa using this) hd
    have hcon := AnyQ.slices_SortFunc Tryz.sortR 6 Tryz.isAgg264 Tryz.sizeOf264 encR encR_len encR_one cmpI swoI 177 #[] g 0 c rs.toArray w eg (fun m os dk _ x y => cmpI_any x y _) hH hB.lt (by rw [hd]; omega)
    rw [hd] at hcon
    refine hcon.mono ?_
    rintro e w1 ⟨rfl, d', q, os, hp, hs2, rfl⟩
    obtain ⟨hp1, _, hp3⟩ := hp
    rw [hd] at hp1
    obtain ⟨k1, k2, k3, k4, k5, k6⟩ := sortWorld_block encR 6 w g q d' os hB
    have hsz : n * 6 ≤ arr.size := by rw [hs.out]; exact Nat.mul_le_mul_right 6 hnc
    obtain ⟨r1, r2⟩ := putCells_row (enc := encR) (k := 6) (by omega) d' arr hp1 hsz
    have ho := own_of_rowK (base := base) encR_len (by omega) k1 r1 hg (by rw [r2]; exact hs.out) hnc hm.out
    have hlist : (List.range n).map (fun i => d'[i]!) = d'.toList := by
      apply List.ext_getElem
      · simp [hp1]
      · intro i h1 h2
        rw [List.getElem_map, List.getElem_range, getElem!_pos d' i (by simpa using h2), Array.getElem_toList]
    rw [hlist] at ho
    refine ⟨rfl, d'.toList, ?_, fun i j h1 h2 => ?_, ho, ⟨k4, k5, k6, k3, fun j hj => k2 j (by omega) (by omega)⟩⟩
    · have e1 : (d'.extract 0 n).toList = d'.toList := by rw [← hp1]; simp
      have e2 : (rs.toArray.extract 0 n).toList = rs := by rw [← hd]; simp
      rw [e1, e2] at hp3
      exact hp3
    · have := hs2 i j (Nat.zero_le _) h1 h2
      rw [getElem!_pos d' j (by omega), getElem!_pos d' i (by omega)] at this
      rw [getElem!_pos d'.toList j (by simpa [hp1] using h2), getElem!_pos d'.toList i (by simp [hp1]; omega), Array.getElem_toList, Array.getElem_toList]
      exact this
end Go.Proofs.YtdbcbbiplkikcaaGreat

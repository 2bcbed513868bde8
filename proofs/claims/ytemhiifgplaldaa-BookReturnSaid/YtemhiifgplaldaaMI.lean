/-
  What the three maps of quotabook.requestsOf say, and laws of a look-up at facts and at bools. No statement of the seat is proved here. No conditions beyond those typed.
  Words and laws for quotabook.requestsOf. No statement of the seat is proved here. Conditions: at most 1000 facts whose numbers are small.
  The comparisons of requests and the sort of a row of requests. No statement of the seat is proved here. Conditions: at most 1000 requests.
  The contract of quotabook.requestsOf. No statement of the seat is proved here. Conditions: at most 1000 facts whose numbers are small.
-/
import Derived.Test.YtemhiifgplaldaaMH
import Derived.Maps.Own
import Derived.Maps.OwnOps
import Derived.Maps.OwnSet
import Derived.Maps.Views
import Derived.Maps.RangeWalk
namespace Go.Proofs.Ytemhiifgplaldaa
open Go.RowKit Go.Maps
set_option linter.unusedVariables false

def fctV (x : Fct) : Value := .agg #[.int .i64 x.num, .int .i64 x.kind, .int .i64 x.day, .int .i64 x.id, .int .i64 x.qty]
def fctD (x : Fct) : DataW Unit := .agg [.lit (.int .i64 x.num), .lit (.int .i64 x.kind), .lit (.int .i64 x.day), .lit (.int .i64 x.id), .lit (.int .i64 x.qty)]
theorem fctV_inj {x y : Fct} (h : fctV x = fctV y) : x = y := by
  cases x; cases y
  simp [fctV] at h
  obtain ⟨h1, h2, h3, h4, h5⟩ := h
  subst h1 h2 h3 h4 h5
  rfl
theorem fctD_inj {x y : Fct} (h : fctD x = fctD y) : x = y := by
  cases x; cases y
  simp [fctD] at h
  obtain ⟨h1, h2, h3, h4, h5⟩ := h
  subst h1 h2 h3 h4 h5
  rfl
open Classical in
/-- How a fact is read as an element of a map. -/
noncomputable def fctElem (v : Value) : Option (DataW Unit × List MemPlace) := if h : ∃ x, v = fctV x then some (fctD h.choose, []) else none
theorem fctElem_mk (x : Fct) : fctElem (fctV x) = some (fctD x, []) := by
  have h : ∃ y, fctV x = fctV y := ⟨x, rfl⟩
  unfold fctElem
  rw [dif_pos h, ← fctV_inj h.choose_spec]
theorem fctElem_inv {v : Value} {z : DataW Unit × List MemPlace} (h : fctElem v = some z) : ∃ x, v = fctV x ∧ z = (fctD x, []) := by
  unfold fctElem at h
  split at h
  · rename_i h1
    exact ⟨h1.choose, h1.choose_spec, by injection h with h; exact h.symm⟩
  · cases h
theorem plainElem_bool_inv {P : Program} {e : TypeId} (he : P.underlying e = some .bool) {v : Value} {z : DataW Unit × List MemPlace} (h : plainElem P e v = some z) : ∃ b, v = .bool b ∧ z = (.lit (.bool b), []) := by
  unfold plainElem at h
  rw [he] at h
  cases v <;> simp at h
  subst h
  exact ⟨_, rfl, rfl⟩
section
variable {P : Program} (w : World) {ops : Array Oper} {rest : List Oper} {o : Oper} {a : Act} {Q : Exit → Act → World → Prop}
/-- 'm[k]' at elements of type bool. -/
theorem wpList_lookup_own_bool (hg : o.guard = none) (m x : Operand) (t : TypeId) (hop : o.op = Op.lookup t m x false)
    (k e : TypeId) (K : Keyed P k) (ht : P.underlying t = some (.map k e)) (he : P.underlying e = some .bool) (hz : (zeroValue e).run P w = .ok (.bool false) w) (b n : Nat) (D : DataW Unit)
    (hm : a.eval m = .map (some b)) (hown : w.ownsMap P k (plainElem P e) b n D) (key : Value) (kl : Lit) (hx : a.eval x = key) (hkey : keyOf P k key = some kl)
    (hK : ∀ c : Bool, D.atKey kl (.lit (.bool false)) = .lit (.bool c) → wpList P ops Q rest (a.put o.dst (.bool c)) w) :
    wpList P ops Q (o :: rest) a w := by
  refine wpList_plain hg fun K' hK' => ?_
  obtain ⟨v, ps, hrun, hv⟩ := hown.lookup K ht hz (plainElem_bool he false) hkey
  obtain ⟨c, rfl, hc⟩ := plainElem_bool_inv he hv
  unfold Oper.wp
  simp [execOp, hop, hm, hx, hrun, Result.andThen]
  exact hK' _ _ (hK c (congrArg Prod.fst hc))
/-- 'v, ok := m[k]' at facts. -/
theorem wpList_lookup_own_fct (hg : o.guard = none) (m x : Operand) (t : TypeId) (hop : o.op = Op.lookup t m x true)
    (k e : TypeId) (K : Keyed P k) (ht : P.underlying t = some (.map k e)) (hz : (zeroValue e).run P w = .ok (.agg #[.int .i64 0, .int .i64 0, .int .i64 0, .int .i64 0, .int .i64 0]) w) (b n : Nat) (D : DataW Unit)
    (hm : a.eval m = .map (some b)) (hown : w.ownsMap P k fctElem b n D) (key : Value) (kl : Lit) (hx : a.eval x = key) (hkey : keyOf P k key = some kl)
    (hK : ∀ c : Fct, wpList P ops Q rest (a.put o.dst (.tuple #[.agg #[.int .i64 c.num, .int .i64 c.kind, .int .i64 c.day, .int .i64 c.id, .int .i64 c.qty], .bool (Maps.has D kl)])) w) :
    wpList P ops Q (o :: rest) a w :=
  wpList_lookup_own_ok w hg m x t hop k e K ht fctElem hz (fctD ⟨0, 0, 0, 0, 0⟩) [] (fctElem_mk ⟨0, 0, 0, 0, 0⟩) b n D hm hown key kl hx hkey (fun v ps hv => by
    obtain ⟨c, rfl, hc⟩ := fctElem_inv hv
    exact hK c)
end

/-! ### What the facts say -/
/-- The request with an ID: the first one. -/
def askOf (fs : List Fct) (id : Int) : Option Fct := fs.find? (fun f => f.kind == 1 && f.id == id)
def retOf (fs : List Fct) (id : Int) : Int := ((fs.filter (fun f => f.kind == 2 && f.id == id)).map (·.qty)).sum
def wdOf (fs : List Fct) (id : Int) : Bool := fs.any (fun f => f.kind == 3 && f.id == id)
theorem askOf_snoc (fs : List Fct) (x : Fct) (id : Int) : askOf (fs ++ [x]) id = match askOf fs id with | some y => some y | none => if x.kind == 1 && x.id == id then some x else none := by
  unfold askOf
  rw [List.find?_append]
  cases h : fs.find? (fun f => f.kind == 1 && f.id == id)
  · by_cases e : (x.kind == 1 && x.id == id) = true <;> simp [e]
  · simp
theorem retOf_snoc (fs : List Fct) (x : Fct) (id : Int) : retOf (fs ++ [x]) id = retOf fs id + if x.kind == 2 && x.id == id then x.qty else 0 := by
  unfold retOf
  rw [List.filter_append]
  by_cases e : (x.kind == 2 && x.id == id) = true
  · rw [if_pos e]; simp [e]
  · rw [if_neg e]; simp [e]
theorem wdOf_snoc (fs : List Fct) (x : Fct) (id : Int) : wdOf (fs ++ [x]) id = (wdOf fs id || (x.kind == 3 && x.id == id)) := by
  unfold wdOf
  rw [List.any_append]
  simp
/-- The three maps say what the facts say. -/
structure Maps3 (fs : List Fct) (D1 D2 D3 : DataW Unit) : Prop where
  ask : ∀ id : Int, Maps.has D1 (.int .i64 id) = (askOf fs id).isSome
  at_ : ∀ (id : Int) (x : Fct), askOf fs id = some x → ∀ z, D1.atKey (.int .i64 id) z = fctD x
  ret : ∀ id : Int, D2.atKey (.int .i64 id) (.lit (.int .i64 0)) = .lit (.int .i64 (retOf fs id))
  wd : ∀ id : Int, D3.atKey (.int .i64 id) (.lit (.bool false)) = .lit (.bool (wdOf fs id))
theorem key_lit (a : Int) : WideAt.IsKeyLit (.int .i64 a) := trivial
theorem lit_ne {a b : Int} (h : a ≠ b) : (Lit.int .i64 a) ≠ .int .i64 b := fun e => h (by injection e)
section
variable {fs : List Fct} {D1 D2 D3 : DataW Unit} {x : Fct}
theorem Maps3.start : Maps3 [] (.map []) (.map []) (.map []) := ⟨fun _ => rfl, fun _ _ h => (by cases h), fun _ => rfl, fun _ => rfl⟩
/-- A fact that is no request, no return and no withdrawal, or a request of an ID that is known. -/
theorem Maps3.skip (h : Maps3 fs D1 D2 D3) (h1 : x.kind = 1 → (askOf fs x.id).isSome = true) (h2 : x.kind ≠ 2) (h3 : x.kind ≠ 3) : Maps3 (fs ++ [x]) D1 D2 D3 := by
  have e1 : ∀ id, askOf (fs ++ [x]) id = askOf fs id := fun id => by
    rw [askOf_snoc]
    cases e : askOf fs id
    · show (if _ then _ else _) = _
      rw [if_neg]
      intro hc
      rw [Bool.and_eq_true] at hc
      have k1 : x.kind = 1 := by simpa using hc.1
      have k2 : x.id = id := by simpa using hc.2
      have := h1 k1
      rw [k2, e] at this
      cases this
    · rfl
  refine ⟨fun id => by rw [e1, h.ask], fun id y hy z => h.at_ id y (by rw [← e1]; exact hy) z, fun id => ?_, fun id => ?_⟩
  · rw [retOf_snoc, if_neg (by simp; intro k; exact absurd k h2), h.ret, Int.add_zero]
  · rw [wdOf_snoc, show (x.kind == 3) = false by simpa using h3, Bool.false_and, Bool.or_false, h.wd]
theorem Maps3.asked (h : Maps3 fs D1 D2 D3) (hm : Maps.IsMap D1) (h1 : x.kind = 1) (h0 : askOf fs x.id = none) : Maps3 (fs ++ [x]) (D1.put (.int .i64 x.id) (fctD x)) D2 D3 := by
  refine ⟨fun id => ?_, fun id y hy z => ?_, fun id => ?_, fun id => ?_⟩
  · by_cases e : id = x.id
    · subst e
      rw [has_put_same hm (key_lit _), askOf_snoc, h0]
      simp [h1]
    · rw [has_put_other (lit_ne e), h.ask, askOf_snoc]
      cases askOf fs id
      · simp [show (x.id == id) = false by simpa using fun k => e k.symm]
      · rfl
  · by_cases e : id = x.id
    · subst e
      rw [askOf_snoc, h0] at hy
      simp [h1] at hy
      subst hy
      exact atKey_put_same hm (key_lit _) _ _
    · rw [atKey_put_other (lit_ne e)]
      refine h.at_ id y ?_ z
      rw [askOf_snoc] at hy
      cases ha : askOf fs id
      · rw [ha] at hy
        simp [show (x.id == id) = false by simpa using fun k => e k.symm] at hy
      · rw [ha] at hy
        exact hy
  · rw [retOf_snoc, if_neg (by simp [h1]), h.ret, Int.add_zero]
  · rw [wdOf_snoc, h1]; simpa using h.wd id
theorem Maps3.returned (h : Maps3 fs D1 D2 D3) (hm : Maps.IsMap D2) (h1 : x.kind = 2) : Maps3 (fs ++ [x]) D1 (D2.put (.int .i64 x.id) (.lit (.int .i64 (retOf fs x.id + x.qty)))) D3 := by
  have e1 : ∀ id, askOf (fs ++ [x]) id = askOf fs id := fun id => by
    rw [askOf_snoc]; cases askOf fs id <;> simp [h1]
  refine ⟨fun id => by rw [e1, h.ask], fun id y hy z => h.at_ id y (by rw [← e1]; exact hy) z, fun id => ?_, fun id => ?_⟩
  · by_cases e : id = x.id
    · subst e
      rw [atKey_put_same hm (key_lit _), retOf_snoc]
      simp [h1]
    · rw [atKey_put_other (lit_ne e), h.ret, retOf_snoc, if_neg (by simp; intro _ k; exact e k.symm), Int.add_zero]
  · rw [wdOf_snoc, h1]; simpa using h.wd id
theorem Maps3.withdrawn (h : Maps3 fs D1 D2 D3) (hm : Maps.IsMap D3) (h1 : x.kind = 3) : Maps3 (fs ++ [x]) D1 D2 (D3.put (.int .i64 x.id) (.lit (.bool true))) := by
  have e1 : ∀ id, askOf (fs ++ [x]) id = askOf fs id := fun id => by
    rw [askOf_snoc]; cases askOf fs id <;> simp [h1]
  refine ⟨fun id => by rw [e1, h.ask], fun id y hy z => h.at_ id y (by rw [← e1]; exact hy) z, fun id => ?_, fun id => ?_⟩
  · rw [retOf_snoc, if_neg (by simp [h1]), h.ret, Int.add_zero]
  · by_cases e : id = x.id
    · subst e
      rw [atKey_put_same hm (key_lit _), wdOf_snoc]
      simp [h1]
    · rw [atKey_put_other (lit_ne e), h.wd, wdOf_snoc, show (x.id == id) = false by simpa using fun k => e k.symm, Bool.and_false, Bool.or_false]
end
/-- A fact whose numbers are small. -/
def FOk (x : Fct) : Prop := 0 ≤ x.num ∧ x.num ≤ 1000000000 ∧ 1 ≤ x.kind ∧ x.kind ≤ 4 ∧ 0 ≤ x.day ∧ x.day ≤ 36524 ∧ 0 ≤ x.id ∧ x.id ≤ 1000000 ∧ 0 ≤ x.qty ∧ x.qty ≤ 1000000000
theorem ret_bounds {fs : List Fct} (h : ∀ x ∈ fs, FOk x) (id : Int) : 0 ≤ retOf fs id ∧ retOf fs id ≤ (fs.length : Int) * 1000000000 := by
  induction fs with
  | nil => simp [retOf]
  | cons x fs ih =>
    have h1 := ih fun y hy => h y (List.mem_cons_of_mem _ hy)
    have h2 := h x (List.mem_cons_self ..)
    unfold FOk at h2
    unfold retOf at h1 ⊢
    rw [List.filter_cons]
    split
    · simp; omega
    · simp; omega
end Go.Proofs.Ytemhiifgplaldaa

namespace Go.Proofs.Ytemhiifgplaldaa
open Go.RowKit Go.Maps
set_option linter.unusedVariables false

theorem klawI : Keyed Try.prog 3 := int_keyed Try.underlying3
theorem zeroF (w : World) : (zeroValue 39).run Try.prog w = .ok (.agg #[.int .i64 0, .int .i64 0, .int .i64 0, .int .i64 0, .int .i64 0]) w := by kernel_rfl
theorem zeroI (w : World) : (zeroValue 3).run Try.prog w = .ok (.int .i64 0) w := by kernel_rfl
theorem zeroB (w : World) : (zeroValue 4).run Try.prog w = .ok (.bool false) w := by kernel_rfl
theorem wf_small {a : Int} (h0 : -9223372036854775808 ≤ a) (h1 : a ≤ 9223372036854775807) : (Lit.int .i64 a).wf = true := Go.WalkArith.wf_i64 ⟨h0, h1⟩
/-- The three maps of a world. -/
def Own3 (w : World) (b n : Nat) (D1 D2 D3 : DataW Unit) : Prop := w.ownsMap Try.prog 3 fctElem b n D1 ∧ w.ownsMap Try.prog 3 (plainElem Try.prog 3) (b + 1) n D2 ∧ w.ownsMap Try.prog 3 (plainElem Try.prog 4) (b + 2) n D3
theorem Own3.alloc {w : World} {b n : Nat} {D1 D2 D3 : DataW Unit} (h : Own3 w b n D1 D2 D3) (o : Obj) : Own3 (w.alloc o) b n D1 D2 D3 := ⟨h.1.alloc o, h.2.1.alloc o, h.2.2.alloc o⟩
theorem Own3.mono {w : World} {b n m : Nat} {D1 D2 D3 : DataW Unit} (h : Own3 w b n D1 D2 D3) (hn : n ≤ m) : Own3 w b m D1 D2 D3 := ⟨h.1.mono hn, h.2.1.mono hn, h.2.2.mono hn⟩
theorem Own3.kept {w w' : World} {b n : Nat} {D1 D2 D3 : DataW Unit} {row : Option Nat} (h : Own3 w b n D1 D2 D3) (hg : w.grownBy w' row) (hr : ∀ j, row = some j → b + 3 ≤ j) : Own3 w' b n D1 D2 D3 :=
  ⟨h.1.kept hg (fun e => by have := hr b e.symm; omega), h.2.1.kept hg (fun e => by have := hr (b + 1) e.symm; omega), h.2.2.kept hg (fun e => by have := hr (b + 2) e.symm; omega)⟩
theorem Own3.up1 {w w' : World} {b n : Nat} {D1 D2 D3 D : DataW Unit} (h : Own3 w b n D1 D2 D3) (ho : w'.ownsMap Try.prog 3 fctElem b (n + 1) D) (hg : w.grownBy w' (some b)) : Own3 w' b (n + 1) D D2 D3 :=
  ⟨ho, (h.2.1.kept hg (fun e => by injection e; omega)).mono (by omega), (h.2.2.kept hg (fun e => by injection e; omega)).mono (by omega)⟩
theorem Own3.up2 {w w' : World} {b n : Nat} {D1 D2 D3 D : DataW Unit} (h : Own3 w b n D1 D2 D3) (ho : w'.ownsMap Try.prog 3 (plainElem Try.prog 3) (b + 1) (n + 1) D) (hg : w.grownBy w' (some (b + 1))) : Own3 w' b (n + 1) D1 D D3 :=
  ⟨(h.1.kept hg (fun e => by injection e; omega)).mono (by omega), ho, (h.2.2.kept hg (fun e => by injection e; omega)).mono (by omega)⟩
theorem Own3.up3 {w w' : World} {b n : Nat} {D1 D2 D3 D : DataW Unit} (h : Own3 w b n D1 D2 D3) (ho : w'.ownsMap Try.prog 3 (plainElem Try.prog 4) (b + 2) (n + 1) D) (hg : w.grownBy w' (some (b + 2))) : Own3 w' b (n + 1) D1 D2 D :=
  ⟨(h.1.kept hg (fun e => by injection e; omega)).mono (by omega), (h.2.1.kept hg (fun e => by injection e; omega)).mono (by omega), ho⟩
theorem lit_eq {a b : Int} (h : (DataW.lit (.int .i64 a) : DataW Unit) = .lit (.int .i64 b)) : a = b := by injection h with h; injection h
theorem lit_eqB {a b : Bool} (h : (DataW.lit (.bool a) : DataW Unit) = .lit (.bool b)) : a = b := by injection h with h; injection h
theorem Own3.made (w : World) : Own3 (((w.alloc (.map #[] 0)).alloc (.map #[] 0)).alloc (.map #[] 0)) w.heap.size 0 (.map []) (.map []) (.map []) := by
  refine ⟨((World.ownsMap_made w _ _ _).alloc _).alloc _, ?_, ?_⟩
  · have := (World.ownsMap_made (w.alloc (.map #[] 0)) Try.prog 3 (plainElem (H := Unit) Try.prog 3)).alloc (.map #[] 0)
    simpa using this
  · have := World.ownsMap_made ((w.alloc (.map #[] 0)).alloc (.map #[] 0)) Try.prog 3 (plainElem (H := Unit) Try.prog 4)
    simpa using this

/-- A request with the reason of its grant. -/
structure Rq where
  id : Int
  day : Int
  avail : Int
  asked : Int
  req : Int
  grant : Int
deriving Inhabited, DecidableEq
def encR (x : Rq) : List Value := [.int .i64 x.id, .int .i64 x.day, .int .i64 x.avail, .int .i64 x.asked, .int .i64 x.req, .int .i64 x.grant]
theorem encR_len (x : Rq) : (encR x).length = 6 := rfl
theorem encR_one (x : Rq) : ∀ v ∈ encR x, v.oneCell' = true := fun v hv => by
  simp [encR] at hv
  rcases hv with rfl | rfl | rfl | rfl | rfl | rfl <;> rfl
theorem infoR : (Try.prog.info? 84).map (fun i => (i.zero, i.size, i.bytes)) = some (some (.agg #[.int .i64 0, .int .i64 0, .int .i64 0, .int .i64 0, .int .i64 0, .int .i64 0]), 6, 48) := by kernel_rfl
/-- What the request with an ID comes to. -/
def effOf (fs : List Fct) (id q : Int) : Int := if wdOf fs id then 0 else max (q - retOf fs id) 0
def rqOf (fs : List Fct) (id : Int) : Rq := match askOf fs id with | some f => ⟨id, f.day, 0, 0, effOf fs id f.qty, 0⟩ | none => ⟨id, 0, 0, 0, 0, 0⟩
theorem own_nilR (w : World) (b : Nat) : w.ownsRow b 84 6 (.slice none 0 0) 0 (flat encR []) := ⟨by simp [flat], .inl ⟨rfl, rfl⟩⟩
/-- What has been collected while 'left' says which keys are still to come. -/
structure Coll (fs : List Fct) (rs : List Rq) (left : Lit → Bool) : Prop where
  nodup : (rs.map (·.id)).Nodup
  mem : ∀ id : Int, (∃ r ∈ rs, r.id = id) ↔ ((askOf fs id).isSome = true ∧ left (.int .i64 id) = false)
  val : ∀ r ∈ rs, r = rqOf fs r.id
theorem ask_of_at {fs : List Fct} {D1 D2 D3 : DataW Unit} (h : Maps3 fs D1 D2 D3) {x : Int} {c : Fct} (hat : ∀ zd, D1.atKey (.int .i64 x) zd = fctD c) : askOf fs x = some c := by
  have h1 := has_true_of_atKey hat
  rw [h.ask x] at h1
  cases e : askOf fs x
  · rw [e] at h1; cases h1
  · rename_i c'
    have := h.at_ x c' e .nil
    rw [hat .nil] at this
    rw [fctD_inj this]
theorem ask_mem {fs : List Fct} {x : Int} {c : Fct} (h : askOf fs x = some c) : c ∈ fs ∧ c.kind = 1 ∧ c.id = x := by
  have h1 := List.find?_some h
  rw [Bool.and_eq_true] at h1
  exact ⟨List.mem_of_find?_eq_some h, by simpa using h1.1, by simpa using h1.2⟩
theorem Coll.start {fs : List Fct} {left : Lit → Bool} (h : ∀ id : Int, left (.int .i64 id) = (askOf fs id).isSome) : Coll fs [] left :=
  ⟨List.nodup_nil, fun id => ⟨(by rintro ⟨r, hr, _⟩; cases hr), (by rintro ⟨h1, h2⟩; rw [h id, h1] at h2; cases h2)⟩, fun r hr => (by cases hr)⟩
theorem same_int (a b : Int) : (Lit.int .i64 a).sameKey (.int .i64 b) = decide (a = b) := by
  by_cases e : a = b
  · subst e; rw [WideAt.sameKey_self (key_lit _)]; simp
  · rw [sameKey_ne (lit_ne e)]; simp [e]
theorem Coll.step {fs : List Fct} {rs : List Rq} {left : Lit → Bool} (h : Coll fs rs left) {x : Int} {c : Fct} (hl : left (.int .i64 x) = true) (ha : askOf fs x = some c) : Coll fs (rs ++ [⟨x, c.day, 0, 0, effOf fs x c.qty, 0⟩]) (fun z => left z && !z.sameKey (.int .i64 x)) := by
  have hnot : ¬ ∃ r ∈ rs, r.id = x := fun hx => by
    have := ((h.mem x).1 hx).2
    rw [hl] at this; cases this
  refine ⟨?_, fun id => ?_, fun r hr => ?_⟩
  · rw [List.map_append, List.nodup_append]
    refine ⟨h.nodup, by simp, ?_⟩
    intro a ha b hb e
    obtain ⟨r, hr, rfl⟩ := List.mem_map.1 ha
    have : b = x := by simpa using hb
    exact hnot ⟨r, hr, by rw [e, this]⟩
  · show _ ↔ _ ∧ (left _ && !(Lit.int .i64 id).sameKey (.int .i64 x)) = false
    rw [same_int]
    constructor
    · rintro ⟨r, hr, rfl⟩
      rcases List.mem_append.1 hr with hr | hr
      · obtain ⟨h1, h2⟩ := (h.mem r.id).1 ⟨r, hr, rfl⟩
        exact ⟨h1, by rw [h2]; rfl⟩
      · have : r = ⟨x, c.day, 0, 0, effOf fs x c.qty, 0⟩ := by simpa using hr
        subst this
        exact ⟨by show (askOf fs x).isSome = true; rw [ha]; rfl, by simp⟩
    · rintro ⟨h1, h2⟩
      by_cases e : id = x
      · exact ⟨_, List.mem_append.2 (.inr (List.mem_singleton.2 rfl)), e.symm⟩
      · rw [decide_eq_false e, Bool.not_false, Bool.and_true] at h2
        obtain ⟨r, hr, hid⟩ := (h.mem id).2 ⟨h1, h2⟩
        exact ⟨r, List.mem_append.2 (.inl hr), hid⟩
  · rcases List.mem_append.1 hr with hr | hr
    · exact h.val r hr
    · have : r = ⟨x, c.day, 0, 0, effOf fs x c.qty, 0⟩ := by simpa using hr
      subst this
      unfold rqOf
      rw [ha]
section
variable {P : Program} (w : World) {ops : Array Oper} {rest : List Oper} {o : Oper} {a : Act} {Q : Exit → Act → World → Prop}
/-- The step of a range over a map of facts. -/
theorem wpList_next_fct (hg : o.guard = none) (it : Operand) (hop : o.op = Op.next it false) (k : TypeId) (K : Keyed P k) (hk : P.underlying k = some (.int .i64))
    (b r n : Nat) (D : DataW Unit) (left : Lit → Bool) (cnt : Nat) (hit : a.eval it = .pointer (some ⟨r, 0, none⟩)) (h : w.ranges P k fctElem b r n D left cnt)
    (hDone : cnt = 0 → (∀ kl, left kl = false) → wpList P ops Q rest (a.put o.dst (.tuple #[.bool false])) w)
    (hMore : ∀ (x : Int) (c : Fct) (w' : World) (cnt' : Nat), (Lit.int .i64 x).wf = true → left (.int .i64 x) = true → (∀ zd, D.atKey (.int .i64 x) zd = fctD c) → w'.ranges P k fctElem b r n D (fun z => left z && !z.sameKey (.int .i64 x)) cnt' → cnt' < cnt →
      w.grownBy w' (some r) → w'.heap.size = w.heap.size → (Instr.entry (.pointer (some ⟨r, 0, none⟩))).run P w' = .ok (.tuple #[.int .i64 x, .agg #[.int .i64 c.num, .int .i64 c.kind, .int .i64 c.day, .int .i64 c.id, .int .i64 c.qty]]) w' →
      wpList P ops Q rest (a.put o.dst (.tuple #[.bool true, .int .i64 x, .agg #[.int .i64 c.num, .int .i64 c.kind, .int .i64 c.day, .int .i64 c.id, .int .i64 c.qty]])) w') :
    wpList P ops Q (o :: rest) a w :=
  wpList_next_ranges w hg it hop k K fctElem (Value.int .i64) fctV (fun key kl hkey => by obtain ⟨x, rfl, _⟩ := Maps.keyOf_int_inv hk hkey; exact ⟨x, rfl⟩) (fun v y hv => by obtain ⟨c, rfl, _⟩ := fctElem_inv hv; exact ⟨c, rfl⟩)
    b r n D left cnt hit h hDone (fun x c kl y w' cnt' hkey hlk hv hat hrg hlt hgr hsz hen => by
      obtain ⟨x', ex, rfl, hwx⟩ := Maps.keyOf_int_inv hk hkey
      cases ex
      obtain ⟨c', ec, rfl⟩ := fctElem_inv hv
      obtain rfl := fctV_inj ec
      exact hMore x c w' cnt' hwx hlk hat hrg hlt hgr hsz hen)
end
end Go.Proofs.Ytemhiifgplaldaa

namespace Go.Proofs.Ytemhiifgplaldaa
open Go.RowKit Go.Shelf Go.Lib Go.Sort
set_option linter.unusedVariables false

set_option maxHeartbeats 1000000 in
theorem cmpOr_any (g : Nat) (a b : Int) (w : World) (h0 : w.cell? ⟨g, 0, none⟩ = some (.int .i64 a)) (h1 : w.cell? ⟨g, 1, none⟩ = some (.int .i64 b)) :
    Calls Try.prog 51 #[.slice (some ⟨g, 0, none⟩) 2 2] w fun e w' => e = .returned (.int .i64 (if a = 0 then b else a)) ∧ w = w' := by
  by_cases ha : a = 0
  · subst ha
    rw [if_pos rfl]
    by_cases hb : b = 0
    · subst hb
      go_enter Try.func51, Try.ntmps51
      go_wp2
      refine wp_loop_rounds 3 ?_
      rw [rounds_succ]
      go_wp2
      rw [rounds_succ]
      go_wp2
      rw [rounds_succ]
      go_wp2
      go_ret
      exact ⟨rfl, rfl⟩
    · have b1 : (b != 0) = true := by simpa using hb
      clear hb
      go_enter Try.func51, Try.ntmps51
      go_wp2
      refine wp_loop_rounds 2 ?_
      rw [rounds_succ]
      go_wp2
      rw [rounds_succ]
      go_wp2
      go_ret
      exact ⟨rfl, rfl⟩
  · have b1 : (a != 0) = true := by simpa using ha
    rw [if_neg ha]
    clear ha
    go_enter Try.func51, Try.ntmps51
    go_wp2
    refine wp_loop_rounds 1 ?_
    rw [rounds_succ]
    go_wp2
    go_ret
    exact ⟨rfl, rfl⟩

/-- The comparison by day and ID. -/
def cmpR (x y : Rq) : Int := if Lib.compareInt x.day y.day = 0 then Lib.compareInt x.id y.id else Lib.compareInt x.day y.day
/-- The comparison by ID. -/
def cmpI (x y : Rq) : Int := Lib.compareInt x.id y.id

set_option maxRecDepth 100000 in
set_option maxHeartbeats 4000000 in
theorem cmpR_any (x y : Rq) (W : World) :
    Calls Try.prog 50 #[.agg #[.int .i64 x.id, .int .i64 x.day, .int .i64 x.avail, .int .i64 x.asked, .int .i64 x.req, .int .i64 x.grant], .agg #[.int .i64 y.id, .int .i64 y.day, .int .i64 y.avail, .int .i64 y.asked, .int .i64 y.req, .int .i64 y.grant]] W
    fun e w' => e = .returned (.int .i64 (cmpR x y)) ∧ ∃ q os', w' = grow (W.drewN q) os' := by
  unfold cmpR
  have H1 := Lib.hid (fun w => Try.cmp_Compare_int x.day y.day w)
  have H2 := Lib.hid (fun w => Try.cmp_Compare_int x.id y.id w)
  generalize Lib.compareInt x.day y.day = r1 at *
  generalize Lib.compareInt x.id y.id = r2 at *
  have HOR : Hid (∀ (w' : World) (g : Nat), w'.heap.size = g → Calls Try.prog 51 #[.slice (some ⟨g, 0, none⟩) 2 2] (w'.alloc (.cells #[.int .i64 r1, .int .i64 r2] 3)).drew (fun e w9 => e = .returned (.int .i64 (if r1 = 0 then r2 else r1)) ∧ (w'.alloc (.cells #[.int .i64 r1, .int .i64 r2] 3)).drew = w9)) := fun w' g hg => by
    subst hg
    exact cmpOr_any _ r1 r2 _ ((Bl.new w' _ _).cell 0) ((Bl.new w' _ _).cell 1)
  generalize (if r1 = 0 then r2 else r1) = r at *
  have HB1 := (Bl.new W 84 #[.int .i64 x.id, .int .i64 x.day, .int .i64 x.avail, .int .i64 x.asked, .int .i64 x.req, .int .i64 x.grant]).alloc (.cells #[.int .i64 y.id, .int .i64 y.day, .int .i64 y.avail, .int .i64 y.asked, .int .i64 y.req, .int .i64 y.grant] 84)
  have HB2 := Bl.new (W.alloc (.cells #[.int .i64 x.id, .int .i64 x.day, .int .i64 x.avail, .int .i64 x.asked, .int .i64 x.req, .int .i64 x.grant] 84)) 84 #[.int .i64 y.id, .int .i64 y.day, .int .i64 y.avail, .int .i64 y.asked, .int .i64 y.req, .int .i64 y.grant]
  have HG : Hid ((W.alloc (.cells #[.int .i64 x.id, .int .i64 x.day, .int .i64 x.avail, .int .i64 x.asked, .int .i64 x.req, .int .i64 x.grant] 84)).alloc (.cells #[.int .i64 y.id, .int .i64 y.day, .int .i64 y.avail, .int .i64 y.asked, .int .i64 y.req, .int .i64 y.grant] 84) = grow W #[.cells #[.int .i64 x.id, .int .i64 x.day, .int .i64 x.avail, .int .i64 x.asked, .int .i64 x.req, .int .i64 x.grant] 84, .cells #[.int .i64 y.id, .int .i64 y.day, .int .i64 y.avail, .int .i64 y.asked, .int .i64 y.req, .int .i64 y.grant] 84]) := by
    show _ = _
    rw [alloc_eq_grow, alloc_eq_grow, grow_grow]; rfl
  have hz : (W.alloc (.cells #[.int .i64 x.id, .int .i64 x.day, .int .i64 x.avail, .int .i64 x.asked, .int .i64 x.req, .int .i64 x.grant] 84)).heap.size = W.heap.size + 1 := by simp
  rw [hz] at HB2
  clear hz
  go_enter Try.func50, Try.ntmps50
  go_upto_region 1 with (fail)
  generalize (W.alloc (.cells #[.int .i64 x.id, .int .i64 x.day, .int .i64 x.avail, .int .i64 x.asked, .int .i64 x.req, .int .i64 x.grant] 84)).alloc (.cells #[.int .i64 y.id, .int .i64 y.day, .int .i64 y.avail, .int .i64 y.asked, .int .i64 y.req, .int .i64 y.grant] 84) = W2 at *
  have g1 : W.heap.size < W2.heap.size := HB1.lt
  have g2 : W.heap.size + 1 < W2.heap.size := HB2.lt
  have p0 : W2.cell? ⟨W.heap.size, 0, none⟩ = some (.int .i64 x.id) := HB1.cell 0
  have p1 : W2.cell? ⟨W.heap.size, 1, none⟩ = some (.int .i64 x.day) := HB1.cell 1
  have r0 : W2.cell? ⟨W.heap.size + 1, 0, none⟩ = some (.int .i64 y.id) := HB2.cell 0
  have r1' : W2.cell? ⟨W.heap.size + 1, 1, none⟩ = some (.int .i64 y.day) := HB2.cell 1
  clear HB1 HB2
  generalize W.heap.size + 1 = k2 at *
  generalize W.heap.size = k1 at *
  go_region_held3 (fun w' => w'.cell? ⟨k1, 0, none⟩ = some (.int .i64 x.id) ∧ w'.cell? ⟨k1, 1, none⟩ = some (.int .i64 x.day) ∧ w'.cell? ⟨k2, 0, none⟩ = some (.int .i64 y.id) ∧ w'.cell? ⟨k2, 1, none⟩ = some (.int .i64 y.day))
    (first
      | go_keep)
    (first
      | (go_at_call 36; (first | (with_reducible refine (H1.out _).mono ?_) | (with_reducible refine (H2.out _).mono ?_)); rintro e w' ⟨rfl, rfl⟩)
      | (go_at_call 51; refine (HOR.out _ _ ?_).mono ?_; (rfl); rintro e w' ⟨rfl, rfl⟩))
  all_goals
    go_wp2
    go_ret
    exact ⟨rfl, 1, _, by rw [HG.out, alloc_eq_grow, grow_grow]; rfl⟩

set_option maxRecDepth 100000 in
set_option maxHeartbeats 4000000 in
theorem cmpI_any (x y : Rq) (W : World) :
    Calls Try.prog 48 #[.agg #[.int .i64 x.id, .int .i64 x.day, .int .i64 x.avail, .int .i64 x.asked, .int .i64 x.req, .int .i64 x.grant], .agg #[.int .i64 y.id, .int .i64 y.day, .int .i64 y.avail, .int .i64 y.asked, .int .i64 y.req, .int .i64 y.grant]] W
    fun e w' => e = .returned (.int .i64 (cmpI x y)) ∧ ∃ q os', w' = grow (W.drewN q) os' := by
  unfold cmpI
  have H2 := Lib.hid (fun w => Try.cmp_Compare_int x.id y.id w)
  generalize Lib.compareInt x.id y.id = r2 at *
  go_enter Try.func48, Try.ntmps48
  go_wp2_with fail
  refine (H2.out _).mono ?_
  rintro e w1 ⟨rfl, rfl⟩
  go_wp2
  go_ret
  exact ⟨rfl, 0, _, by rw [alloc_eq_grow, alloc_eq_grow, grow_grow]; rfl⟩

theorem ltR (x y : Rq) : ltOf cmpR x y = decide (x.day < y.day ∨ (x.day = y.day ∧ x.id < y.id)) := by
  unfold ltOf cmpR Lib.compareInt
  by_cases h1 : x.day < y.day
  · simp [h1]
  · by_cases h2 : y.day < x.day
    · have : ¬ x.day = y.day := by omega
      simp [h1, h2, this]
    · have : x.day = y.day := by omega
      simp [this]
      by_cases h3 : x.id < y.id
      · simp [h3]
      · by_cases h4 : y.id < x.id <;> simp [h3, h4]
theorem ltI (x y : Rq) : ltOf cmpI x y = decide (x.id < y.id) := by
  unfold ltOf cmpI Lib.compareInt
  by_cases h3 : x.id < y.id
  · simp [h3]
  · by_cases h4 : y.id < x.id <;> simp [h3, h4]
theorem swoR : SWO (ltOf cmpR) where
  irrefl x := by rw [ltR]; simp
  trans x y z h1 h2 := by rw [ltR] at *; simp at *; omega
  ntrans x y z h1 h2 := by rw [ltR] at *; simp at *; omega
theorem swoI : SWO (ltOf cmpI) where
  irrefl x := by rw [ltI]; simp
  trans x y z h1 h2 := by rw [ltI] at *; simp at *; omega
  ntrans x y z h1 h2 := by rw [ltI] at *; simp at *; omega

/-! ### A row of records with its room -/
/-- The first n records of a block. -/
def RowK {α : Type} (enc : α → List Value) (k : Nat) (arr : Array Value) (n : Nat) (f : Nat → α) : Prop := ∀ j, j < n → ∀ c, c < k → arr[j * k + c]? = some ((enc (f j))[c]!)
theorem own_rowK {α : Type} [Inhabited α] {enc : α → List Value} {k : Nat} (hk : ∀ x, (enc x).length = k) {w : World} {base n c : Nat} {t : TypeId} {A : Option Addr} {xs : List α} (h : w.ownsRow base t k (.slice A n c) n (flat enc xs)) (hl : xs.length = n) (hn : 0 < n) :
    ∃ g arr, A = some ⟨g, 0, none⟩ ∧ base ≤ g ∧ Bl w g t arr ∧ RowK enc k arr n (fun i => xs[i]!) ∧ Hid (arr.size = c * k) ∧ n ≤ c ∧ Hid (c ≤ maxLen) := by
  rcases h.2 with ⟨_, h0⟩ | ⟨g, cap, cur, hv, hb, hh, h1, h2, h3, h4⟩
  · omega
  · injection hv with e1 e2 e3
    subst e3
    refine ⟨g, cur, e1, hb, hh, fun j hj q hq => ?_, h3, h1, h2⟩
    have := flat_get hk xs j q (by omega) hq
    have hlt : j * k + q < n * k := by
      have := Nat.mul_le_mul_right k (show j + 1 ≤ n from hj)
      rw [Nat.add_mul, Nat.one_mul] at this
      omega
    rw [← h4, List.getElem?_take, if_pos hlt, Array.getElem?_toList] at this
    exact this
theorem own_of_rowK {α : Type} [Inhabited α] {enc : α → List Value} {k : Nat} (hk : ∀ x, (enc x).length = k) (hk0 : 0 < k) {w : World} {base g n c : Nat} {t : TypeId} {arr : Array Value} {f : Nat → α} (hb : Bl w g t arr) (h : RowK enc k arr n f) (hg : base ≤ g) (hs : arr.size = c * k) (hn : n ≤ c) (hc : c ≤ maxLen) : w.ownsRow base t k (.slice (some ⟨g, 0, none⟩) n c) n (flat enc ((List.range n).map f)) := by
  have hfl := flat_length hk ((List.range n).map f)
  rw [List.length_map, List.length_range] at hfl
  refine ⟨hfl, .inr ⟨g, c, arr, rfl, hg, hb, hn, hc, hs, ?_⟩⟩
  apply List.ext_getElem?
  intro i
  rw [List.getElem?_take]
  by_cases hi : i < n * k
  · have e1 : i / k * k + i % k = i := by have := Nat.div_add_mod i k; rw [Nat.mul_comm] at this; exact this
    have hj : i / k < n := (Nat.div_lt_iff_lt_mul hk0).2 hi
    have hc : i % k < k := Nat.mod_lt _ hk0
    have h1 := h (i / k) hj (i % k) hc
    have h2 := flat_get hk ((List.range n).map f) (i / k) (i % k) (by simpa using hj) hc
    rw [e1] at h1 h2
    rw [if_pos hi, Array.getElem?_toList, h1, h2]
    congr 2
    simp [hj]
  · rw [if_neg hi, List.getElem?_eq_none (by omega)]
/-- What the sort leaves of the blocks. -/
theorem sortWorld_block {α : Type} [Inhabited α] (enc : α → List Value) (k : Nat) (w : World) (g q : Nat) (d : Array α) (os : Array Obj) {t : TypeId} {arr : Array Value} (h : Bl w g t arr) :
    Bl (sortWorldK enc k w g 0 q d os) g t (putCells id 0 (flatK enc k d) arr) ∧ (∀ j, j < w.heap.size → j ≠ g → (sortWorldK enc k w g 0 q d os).heap[j]? = w.heap[j]?) ∧ w.heap.size ≤ (sortWorldK enc k w g 0 q d os).heap.size ∧ (sortWorldK enc k w g 0 q d os).os = w.os ∧ (sortWorldK enc k w g 0 q d os).tape = w.tape ∧ (sortWorldK enc k w g 0 q d os).output = w.output := by
  have hlt := h.lt
  unfold Bl at h
  refine ⟨?_, fun j hj hne => ?_, ?_, rfl, rfl, rfl⟩
  · unfold Bl sortWorldK grow putRowK putRow mapBlock Sort.ahead
    rw [Array.getElem?_append_left (by simpa using hlt), Array.getElem?_modify, if_pos rfl, h]
    rfl
  · unfold sortWorldK grow putRowK putRow mapBlock Sort.ahead
    rw [Array.getElem?_append_left (by simpa using hj), Array.getElem?_modify, if_neg (fun e => hne e.symm)]
  · unfold sortWorldK grow putRowK putRow mapBlock Sort.ahead
    simp
theorem putCells_row {α : Type} [Inhabited α] {enc : α → List Value} {k n : Nat} (hk0 : 0 < k) (d : Array α) (arr : Array Value) (hd : d.size = n) (hs : n * k ≤ arr.size) : RowK enc k (putCells id 0 (flatK enc k d) arr) n (fun i => d[i]!) ∧ (putCells id 0 (flatK enc k d) arr).size = arr.size := by
  refine ⟨fun j hj c hc => ?_, by simp [putCells]⟩
  have hlt : j * k + c < n * k := by
    have := Nat.mul_le_mul_right k (show j + 1 ≤ n from hj)
    rw [Nat.add_mul, Nat.one_mul] at this
    omega
  have e1 : (j * k + c) / k = j := by
    rw [Nat.mul_comm, Nat.mul_add_div hk0, Nat.div_eq_of_lt hc, Nat.add_zero]
  have e2 : (j * k + c) % k = c := by
    rw [Nat.mul_comm, Nat.mul_add_mod, Nat.mod_eq_of_lt hc]
  unfold putCells
  rw [Array.getElem?_mapIdx, Array.getElem?_eq_getElem (by omega), Option.map_some]
  rw [if_pos (by rw [size_flatK, hd]; omega), Nat.sub_zero, get_flatK _ _ _ _ (by rw [hd]; exact hlt), e1, e2]
  rfl
theorem holds_rowK {α : Type} [Inhabited α] {enc : α → List Value} {k n : Nat} (hk0 : 0 < k) {w : World} {g : Nat} {t : TypeId} {arr : Array Value} {d : Array α} (hb : Bl w g t arr) (h : RowK enc k arr n (fun i => d[i]!)) (hd : d.size = n) : HoldsK enc k w g 0 d := by
  intro i hi
  rw [size_flatK, hd] at hi
  rw [get_flatK _ _ _ _ (by rw [hd]; exact hi), Nat.zero_add]
  refine ⟨?_, hb.free _⟩
  rw [hb.cell]
  have hj : i / k < n := (Nat.div_lt_iff_lt_mul hk0).2 hi
  have := h (i / k) hj (i % k) (Nat.mod_lt _ hk0)
  rw [show i / k * k + i % k = i by have := Nat.div_add_mod i k; rw [Nat.mul_comm] at this; exact this] at this
  rw [this]
  rfl

/-- What a sort of a row of the call's own leaves. -/
def SortRes (w : World) (base : Nat) (lt : Rq → Rq → Bool) (v : Value) (n : Nat) (rs : List Rq) (e : Ending) (w' : World) : Prop := e = .returned (.tuple #[]) ∧ ∃ rs', rs'.Perm rs ∧ (∀ i j, i < j → j < n → lt rs'[j]! rs'[i]! = false) ∧ w'.ownsRow base 84 6 v n (flat encR rs') ∧ RowKit.Below base w w'

theorem sortR_any (A : Option Addr) (n c base : Nat) (rs : List Rq) (w : World) (h : w.ownsRow base 84 6 (.slice A n c) n (flat encR rs)) (hl : rs.length = n) (hn : n ≤ 1000) (hb : base ≤ w.heap.size) :
    Calls Try.prog 47 #[.slice A n c, .func (.func 50) #[] #[]] w (SortRes w base (ltOf cmpR) (.slice A n c) n rs) := by
  by_cases h0 : n = 0
  · subst h0
    obtain rfl : rs = [] := List.eq_nil_of_length_eq_zero hl
    refine (AnyF.slices_SortFunc_none Try.sortR A c (.func (.func 50) #[] #[]) w).mono ?_
    rintro e w1 ⟨rfl, rfl⟩
    exact ⟨rfl, [], List.Perm.refl _, fun i j h1 h2 => by omega, h, RowKit.Below.refl _ _⟩
  · obtain ⟨g, arr, rfl, hg, hB, hR, hs, hnc, hm⟩ := own_rowK encR_len h hl (by omega)
    have eg : ∀ args w, (callFunc 50 args).run Try.prog w = .ok (.enter 50 args) w := enters_of Try.func50 (by kernel_rfl) rfl
    have hd : rs.toArray.size = n := by simpa using hl
    have hH : HoldsK encR 6 w g 0 rs.toArray := holds_rowK (by omega) hB (fun j hj c hc => by have := hR j hj c hc; simpa using this) hd
    have hcon := AnyQ.slices_SortFunc Try.sortR 6 Try.isAgg84 Try.sizeOf84 encR encR_len encR_one cmpR swoR 50 #[] g 0 c rs.toArray w eg (fun m os dk _ x y => cmpR_any x y _) hH hB.lt (by rw [hd]; omega)
    rw [hd] at hcon
    refine hcon.mono ?_
    rintro e w1 ⟨rfl, d', q, os, hp, hs2, rfl⟩
    obtain ⟨hp1, _, hp3⟩ := hp
    rw [hd] at hp1
    obtain ⟨k1, k2, k3, k4, k5, k6⟩ := sortWorld_block encR 6 w g q d' os hB
    have hsz : n * 6 ≤ arr.size := by rw [hs.out]; exact Nat.mul_le_mul_right 6 hnc
    obtain ⟨r1, r2⟩ := putCells_row (enc := encR) (k := 6) (by omega) d' arr hp1 hsz
    have ho := own_of_rowK (base := base) encR_len (by omega) k1 r1 hg (by rw [r2]; exact hs.out) hnc hm.out
    have hlist : (List.range n).map (fun i => d'[i]!) = d'.toList := by
      apply List.ext_getElem
      · simp [hp1]
      · intro i h1 h2
        rw [List.getElem_map, List.getElem_range, getElem!_pos d' i (by simpa using h2), Array.getElem_toList]
    rw [hlist] at ho
    refine ⟨rfl, d'.toList, ?_, fun i j h1 h2 => ?_, ho, ⟨k4, k5, k6, k3, fun j hj => k2 j (by omega) (by omega)⟩⟩
    · have e1 : (d'.extract 0 n).toList = d'.toList := by rw [← hp1]; simp
      have e2 : (rs.toArray.extract 0 n).toList = rs := by rw [← hd]; simp
      rw [e1, e2] at hp3
      exact hp3
    · have := hs2 i j (Nat.zero_le _) h1 h2
      rw [getElem!_pos d' j (by omega), getElem!_pos d' i (by omega)] at this
      rw [getElem!_pos d'.toList j (by simpa [hp1] using h2), getElem!_pos d'.toList i (by simp [hp1]; omega), Array.getElem_toList, Array.getElem_toList]
      exact this

theorem sortI_any (A : Option Addr) (n c base : Nat) (rs : List Rq) (w : World) (h : w.ownsRow base 84 6 (.slice A n c) n (flat encR rs)) (hl : rs.length = n) (hn : n ≤ 1000) (hb : base ≤ w.heap.size) :
    Calls Try.prog 47 #[.slice A n c, .func (.func 48) #[] #[]] w (SortRes w base (ltOf cmpI) (.slice A n c) n rs) := by
  by_cases h0 : n = 0
  · subst h0
    obtain rfl : rs = [] := List.eq_nil_of_length_eq_zero hl
    refine (AnyF.slices_SortFunc_none Try.sortR A c (.func (.func 48) #[] #[]) w).mono ?_
    rintro e w1 ⟨rfl, rfl⟩
    exact ⟨rfl, [], List.Perm.refl _, fun i j h1 h2 => by omega, h, RowKit.Below.refl _ _⟩
  · obtain ⟨g, arr, rfl, hg, hB, hR, hs, hnc, hm⟩ := own_rowK encR_len h hl (by omega)
    have eg : ∀ args w, (callFunc 48 args).run Try.prog w = .ok (.enter 48 args) w := enters_of Try.func48 (by kernel_rfl) rfl
    have hd : rs.toArray.size = n := by simpa using hl
    have hH : HoldsK encR 6 w g 0 rs.toArray := holds_rowK (by omega) hB (fun j hj c hc => by have := hR j hj c hc; simpa using this) hd
    have hcon := AnyQ.slices_SortFunc Try.sortR 6 Try.isAgg84 Try.sizeOf84 encR encR_len encR_one cmpI swoI 48 #[] g 0 c rs.toArray w eg (fun m os dk _ x y => cmpI_any x y _) hH hB.lt (by rw [hd]; omega)
    rw [hd] at hcon
    refine hcon.mono ?_
    rintro e w1 ⟨rfl, d', q, os, hp, hs2, rfl⟩
    obtain ⟨hp1, _, hp3⟩ := hp
    rw [hd] at hp1
    obtain ⟨k1, k2, k3, k4, k5, k6⟩ := sortWorld_block encR 6 w g q d' os hB
    have hsz : n * 6 ≤ arr.size := by rw [hs.out]; exact Nat.mul_le_mul_right 6 hnc
    obtain ⟨r1, r2⟩ := putCells_row (enc := encR) (k := 6) (by omega) d' arr hp1 hsz
    have ho := own_of_rowK (base := base) encR_len (by omega) k1 r1 hg (by rw [r2]; exact hs.out) hnc hm.out
    have hlist : (List.range n).map (fun i => d'[i]!) = d'.toList := by
      apply List.ext_getElem
      · simp [hp1]
      · intro i h1 h2
        rw [List.getElem_map, List.getElem_range, getElem!_pos d' i (by simpa using h2), Array.getElem_toList]
    rw [hlist] at ho
    refine ⟨rfl, d'.toList, ?_, fun i j h1 h2 => ?_, ho, ⟨k4, k5, k6, k3, fun j hj => k2 j (by omega) (by omega)⟩⟩
    · have e1 : (d'.extract 0 n).toList = d'.toList := by rw [← hp1]; simp
      have e2 : (rs.toArray.extract 0 n).toList = rs := by rw [← hd]; simp
      rw [e1, e2] at hp3
      exact hp3
    · have := hs2 i j (Nat.zero_le _) h1 h2
      rw [getElem!_pos d' j (by omega), getElem!_pos d' i (by omega)] at this
      rw [getElem!_pos d'.toList j (by simpa [hp1] using h2), getElem!_pos d'.toList i (by simp [hp1]; omega), Array.getElem_toList, Array.getElem_toList]
      exact this
end Go.Proofs.Ytemhiifgplaldaa

namespace Go.Proofs.Ytemhiifgplaldaa
open Go.RowKit Go.Maps
set_option linter.unusedVariables false

/-- The requests that the facts ask for, in order of day and ID. -/
structure ReqList (fs : List Fct) (rs : List Rq) : Prop where
  nodup : (rs.map (·.id)).Nodup
  mem : ∀ id : Int, (∃ r ∈ rs, r.id = id) ↔ (askOf fs id).isSome = true
  val : ∀ r ∈ rs, r = rqOf fs r.id
  srt : ∀ i j, i < j → j < rs.length → (rs[i]!.day < rs[j]!.day ∨ (rs[i]!.day = rs[j]!.day ∧ rs[i]!.id < rs[j]!.id))
theorem nodup_get {rs : List Rq} (h : (rs.map (·.id)).Nodup) {i j : Nat} (hij : i < j) (hj : j < rs.length) : rs[i]!.id ≠ rs[j]!.id := by
  rw [getElem!_pos rs i (by omega), getElem!_pos rs j hj]
  have := List.pairwise_iff_getElem.1 h i j (by simp; omega) (by simpa using hj) hij
  simpa using this
theorem reqList_of {fs : List Fct} {rs rs' : List Rq} {left : Lit → Bool} (h : Coll fs rs left) (hl : ∀ kl, left kl = false) (hp : rs'.Perm rs) (hs : ∀ i j, i < j → j < rs.length → Go.Proofs.ltOf cmpR rs'[j]! rs'[i]! = false) : ReqList fs rs' := by
  have hn : (rs'.map (·.id)).Nodup := (hp.map (·.id)).nodup_iff.2 h.nodup
  refine ⟨hn, fun id => ?_, fun r hr => h.val r (hp.mem_iff.1 hr), fun i j hij hj => ?_⟩
  · rw [← show ((askOf fs id).isSome = true ∧ left (.int .i64 id) = false) ↔ (askOf fs id).isSome = true from ⟨fun x => x.1, fun x => ⟨x, hl _⟩⟩, ← h.mem id]
    constructor
    · rintro ⟨r, hr, e⟩; exact ⟨r, hp.mem_iff.1 hr, e⟩
    · rintro ⟨r, hr, e⟩; exact ⟨r, hp.mem_iff.2 hr, e⟩
  · have h1 := hs i j hij (by rw [← hp.length_eq]; exact hj)
    rw [ltR] at h1
    have h2 := nodup_get hn hij hj
    have h3 := of_decide_eq_false h1
    omega
/-- What requestsOf returns. -/
def ReqRes (w : World) (fs : List Fct) (e : Ending) (w' : World) : Prop := ∃ (B : Option Addr) (m d : Nat) (rs : List Rq), e = .returned (.slice B m d) ∧ rs.length = m ∧ m ≤ fs.length ∧ ReqList fs rs ∧ w'.ownsRow w.heap.size 84 6 (.slice B m d) m (flat encR rs) ∧ RowKit.Below w.heap.size w w'

set_option maxRecDepth 100000 in
set_option maxHeartbeats 8000000 in
theorem requestsOf_any (A : Option Addr) (n c : Nat) (fs : List Fct) (w : World) (h : Recs encF 5 w A n fs) (hn : n ≤ 1000) (hf : ∀ x ∈ fs, FOk x) :
    Calls Try.prog 44 #[.slice A n c] w (ReqRes w fs) := by
  have HL := Lib.hid h.1
  have HF := Lib.hid hf
  have hmm := @run_makeMap Try.prog
  have HM0 := Lib.hid (Own3.made w)
  have HB0 : Hid (RowKit.Below w.heap.size w (((w.alloc (.map #[] 0)).alloc (.map #[] 0)).alloc (.map #[] 0))) := (((Below.refl _ _).alloc (Nat.le_refl _) _).alloc (by simp) _).alloc (by simp; omega) _
  clear hf
  go_enter Try.func44, Try.ntmps44
  go_wp2
  clear hmm
  go_loopw [19] (fun i wx => ∃ (k : Nat) (D1 D2 D3 : DataW Unit), k ≤ n ∧ i = .int .i64 k ∧ Own3 wx w.heap.size k D1 D2 D3 ∧ Hid (Maps3 (fs.take k) D1 D2 D3) ∧ w.heap.size + 3 ≤ wx.heap.size ∧ RowKit.Below w.heap.size w wx) (fun i _ => n - (intOf i).toNat)
  case atStart => exact ⟨0, _, _, _, Nat.zero_le _, rfl, HM0.out, Maps3.start, by simp, HB0.out⟩
  case round =>
    clear HM0 HB0
    obtain ⟨k, D1, D2, D3, hk, rfl, hO, HM, hsz, hb⟩ := hrel
    by_cases hlt : k < n
    · obtain ⟨b, off, x, hA, hbl, c0, c1, c2, c3, c4, HX⟩ := (h.below hb).getF hlt
      subst hA
      have HTK : Hid (fs.take (k + 1) = fs.take k ++ [x]) := by
        show _ = _
        rw [take_succ_get fs k (by have := HL.out; omega), HX.out]
      have hok : FOk x := by
        have := HF.out fs[k]! (by rw [getElem!_pos fs k (by have := HL.out; omega)]; exact List.getElem_mem _)
        rwa [HX.out] at this
      unfold FOk at hok
      obtain ⟨o1, o2, o3, o4, o5, o6, o7, o8, o9, o10⟩ := hok
      have HKEY : Hid (keyOf Try.prog 3 (.int .i64 x.id) = some (.int .i64 x.id)) := keyOf_int_mk Try.underlying3 (wf_small (by omega) (by omega))
      have HRB := Lib.hid (ret_bounds (fs := fs.take k) (fun y hy => HF.out y (List.mem_of_mem_take hy)) x.id)
      have hb4 : RowKit.Below w.heap.size w (wr.alloc (.cells #[.int .i64 x.num, .int .i64 x.kind, .int .i64 x.day, .int .i64 x.id, .int .i64 x.qty] 39)) := hb.alloc hb.size _
      have hx4 := Bl.new wr 39 #[.int .i64 x.num, .int .i64 x.kind, .int .i64 x.day, .int .i64 x.id, .int .i64 x.qty]
      have HO4 := Lib.hid (hO.alloc (.cells #[.int .i64 x.num, .int .i64 x.kind, .int .i64 x.day, .int .i64 x.id, .int .i64 x.qty] 39))
      have hs4 : w.heap.size + 3 ≤ (wr.alloc (.cells #[.int .i64 x.num, .int .i64 x.kind, .int .i64 x.day, .int .i64 x.id, .int .i64 x.qty] 39)).heap.size := by simp; omega
      clear hO
      go_upto_region 7 with (fail)
      clear c0 c1 c2 c3 c4
      have hgw := hb.size
      generalize wr.alloc (.cells #[.int .i64 x.num, .int .i64 x.kind, .int .i64 x.day, .int .i64 x.id, .int .i64 x.qty] 39) = W4 at *
      generalize wr.heap.size = g4 at *
      have q0 : W4.cell? ⟨g4, 0, none⟩ = some (.int .i64 x.num) := hx4.cell 0
      have q1 : W4.cell? ⟨g4, 1, none⟩ = some (.int .i64 x.kind) := hx4.cell 1
      have q2 : W4.cell? ⟨g4, 2, none⟩ = some (.int .i64 x.day) := hx4.cell 2
      have q3 : W4.cell? ⟨g4, 3, none⟩ = some (.int .i64 x.id) := hx4.cell 3
      have q4 : W4.cell? ⟨g4, 4, none⟩ = some (.int .i64 x.qty) := hx4.cell 4
      have l4 := hx4.lt
      clear hb hbl
      rcases (show x.kind = 1 ∨ x.kind = 2 ∨ x.kind = 3 ∨ x.kind = 4 by omega) with hkd | hkd | hkd | hkd
      · have b1 : (x.kind == 1) = true := by simpa using hkd
        obtain ⟨hs, hhs⟩ : ∃ b, Maps.has D1 (.int .i64 x.id) = b := ⟨_, rfl⟩
        have HHS := Lib.hid hhs
        have HKD := Lib.hid hkd
        cases hs
        · have HP : Hid (Maps3 (fs.take (k + 1)) (D1.put (.int .i64 x.id) (fctD x)) D2 D3) := by
            show Maps3 _ _ _ _
            rw [HTK.out]
            refine HM.out.asked HO4.out.1.isMap HKD.out ?_
            have := HM.out.ask x.id
            rw [HHS.out] at this
            cases e : askOf (fs.take k) x.id
            · rfl
            · rw [e] at this; cases this
          clear hkd HKD
          go_wp2_with (first
            | (at_lookup; refine wpList_lookup_own_fct _ rfl _ _ 93 rfl 3 39 klawI Try.underlying93 (zeroF _) w.heap.size k _ rfl HO4.out.1 _ _ rfl HKEY.out ?_; intro cc)
            | (at_mapUpdate; refine wpList_mapUpdate_own _ rfl _ _ _ 93 rfl 3 39 klawI Try.underlying93 _ w.heap.size k _ rfl (HO4.out.1.alloc (.cells #[.int .i64 cc.num, .int .i64 cc.kind, .int .i64 cc.day, .int .i64 cc.id, .int .i64 cc.qty] 39)) (by unfold maxLen; omega) _ _ _ rfl rfl HKEY.out _ [] (fctElem_mk x) ?_; intro w6 ho6 hg6))
          have HO6 := Lib.hid ((HO4.out.alloc (.cells #[.int .i64 cc.num, .int .i64 cc.kind, .int .i64 cc.day, .int .i64 cc.id, .int .i64 cc.qty] 39)).up1 ho6 hg6)
          have HB6 : Hid (RowKit.Below w.heap.size w w6) := (hb4.alloc hb4.size _).grown hg6 (by simp; omega) (fun j hj => by cases hj; exact Nat.le_refl _)
          have HS6 : Hid (w.heap.size + 3 ≤ w6.heap.size) := by have := hg6.size; simp at this; show _ ≤ _; omega
          clear ho6 hg6
          go_roundw
          case rel => exact ⟨k + 1, _, _, _, by omega, by go_num, HO6.out, HP, HS6.out, HB6.out⟩
          case measure => simp [intOf]; omega
        · have HP : Hid (Maps3 (fs.take (k + 1)) D1 D2 D3) := by
            show Maps3 _ _ _ _
            rw [HTK.out]
            refine HM.out.skip (fun _ => ?_) (by rw [HKD.out]; omega) (by rw [HKD.out]; omega)
            rw [← HM.out.ask x.id, HHS.out]
          clear hkd HKD
          go_wp2_with (first
            | (at_lookup; refine wpList_lookup_own_fct _ rfl _ _ 93 rfl 3 39 klawI Try.underlying93 (zeroF _) w.heap.size k _ rfl HO4.out.1 _ _ rfl HKEY.out ?_; intro cc)
            | fail)
          go_roundw
          case rel => exact ⟨k + 1, D1, D2, D3, by omega, by go_num, (HO4.out.alloc _).mono (by omega), HP, by simp; omega, hb4.alloc hb4.size _⟩
          case measure => simp [intOf]; omega
      · have b1 : (x.kind == 1) = false := by simp; omega
        have b2 : (x.kind == 2) = true := by simpa using hkd
        have HP : Hid (Maps3 (fs.take (k + 1)) D1 (D2.put (.int .i64 x.id) (.lit (.int .i64 (retOf (fs.take k) x.id + x.qty)))) D3) := by
          show Maps3 _ _ _ _
          rw [HTK.out]
          exact HM.out.returned HO4.out.2.1.isMap hkd
        have hr0 := HRB.out.1
        have hr1 : retOf (fs.take k) x.id ≤ 1000000000000 := by
          have h1 := HRB.out.2
          have h2 : (fs.take k).length ≤ 1000 := by rw [List.length_take]; omega
          have h3 : ((fs.take k).length : Int) ≤ 1000 := by omega
          omega
        have HRE := Lib.hid (HM.out.ret x.id)
        generalize retOf (fs.take k) x.id = rv at *
        clear hkd
        go_wp2_with (first
          | (at_lookup; refine wpList_lookup_own_int _ rfl _ _ 88 rfl 3 3 .i64 klawI Try.underlying88 Try.underlying3 (zeroI _) (w.heap.size + 1) k _ rfl HO4.out.2.1 _ _ rfl HKEY.out ?_; intro c9 hat hwc; obtain rfl : rv = c9 := lit_eq (HRE.out.symm.trans hat); clear hat hwc)
          | (at_mapUpdate; refine wpList_mapUpdate_own _ rfl _ _ _ 88 rfl 3 3 klawI Try.underlying88 _ (w.heap.size + 1) k _ rfl HO4.out.2.1 (by unfold maxLen; omega) _ _ _ rfl rfl HKEY.out _ [] (plainElem_int Try.underlying3 (wf_small (by omega) (by omega))) ?_; intro w6 ho6 hg6))
        have HO6 := Lib.hid (HO4.out.up2 ho6 hg6)
        have HB6 : Hid (RowKit.Below w.heap.size w w6) := hb4.grown hg6 hb4.size (fun j hj => by cases hj; omega)
        have HS6 : Hid (w.heap.size + 3 ≤ w6.heap.size) := Nat.le_trans hs4 hg6.size
        clear ho6 hg6
        go_roundw
        case rel => exact ⟨k + 1, _, _, _, by omega, by go_num, HO6.out, HP, HS6.out, HB6.out⟩
        case measure => simp [intOf]; omega
      · have b1 : (x.kind == 1) = false := by simp; omega
        have b2 : (x.kind == 2) = false := by simp; omega
        have b3 : (x.kind == 3) = true := by simpa using hkd
        have HP : Hid (Maps3 (fs.take (k + 1)) D1 D2 (D3.put (.int .i64 x.id) (.lit (.bool true)))) := by
          show Maps3 _ _ _ _
          rw [HTK.out]
          exact HM.out.withdrawn HO4.out.2.2.isMap hkd
        clear hkd
        go_wp2_with (first
          | (at_mapUpdate; refine wpList_mapUpdate_own _ rfl _ _ _ 94 rfl 3 4 klawI Try.underlying94 _ (w.heap.size + 2) k _ rfl HO4.out.2.2 (by unfold maxLen; omega) _ _ _ rfl rfl HKEY.out _ [] (plainElem_bool Try.underlying4 true) ?_; intro w6 ho6 hg6)
          | fail)
        have HO6 := Lib.hid (HO4.out.up3 ho6 hg6)
        have HB6 : Hid (RowKit.Below w.heap.size w w6) := hb4.grown hg6 hb4.size (fun j hj => by cases hj; omega)
        have HS6 : Hid (w.heap.size + 3 ≤ w6.heap.size) := Nat.le_trans hs4 hg6.size
        clear ho6 hg6
        go_roundw
        case rel => exact ⟨k + 1, _, _, _, by omega, by go_num, HO6.out, HP, HS6.out, HB6.out⟩
        case measure => simp [intOf]; omega
      · have b1 : (x.kind == 1) = false := by simp; omega
        have b2 : (x.kind == 2) = false := by simp; omega
        have b3 : (x.kind == 3) = false := by simp; omega
        have HP : Hid (Maps3 (fs.take (k + 1)) D1 D2 D3) := by
          show Maps3 _ _ _ _
          rw [HTK.out]
          exact HM.out.skip (fun e => by omega) (by omega) (by omega)
        clear hkd
        go_wp2_with fail
        go_roundw
        case rel => exact ⟨k + 1, D1, D2, D3, by omega, by go_num, HO4.out.mono (by omega), HP, hs4, hb4⟩
        case measure => simp [intOf]; omega
    · obtain rfl : n = k := by omega
      rw [List.take_of_length_le (by have := HL.out; omega)] at HM
      clear hlt hk
      have HO2 := Lib.hid hO
      go_wp2_with (first
        | (at_range; refine wpList_range_own _ rfl _ 93 rfl 3 39 klawI Try.underlying93 _ w.heap.size n _ rfl HO2.out.1 ?_; intro w0 hrg0 hg0 hs0)
        | fail)
      go_frame
      have HB0 : Hid (RowKit.Below w.heap.size w w0) := hb.grown hg0 hb.size (fun j hj => by cases hj)
      have HO0 := Lib.hid (HO2.out.kept hg0 (fun j hj => by cases hj))
      have HSZ : Hid (Maps.size D1 ≤ n) := HO2.out.1.size_le
      have hr3 : w.heap.size + 3 ≤ wr.heap.size := hsz
      have hr4 : wr.heap.size + 1 ≤ w0.heap.size := by omega
      generalize wr.heap.size = rb at *
      clear hO HO2 hg0 hs0 hb
      go_loopw [10] (fun v wx => ∃ (left : Lit → Bool) (cnt : Nat) (B : Option Addr) (m d : Nat) (rs : List Rq), v = .slice B m d ∧ wx.ranges Try.prog 3 fctElem w.heap.size rb n D1 left cnt ∧ wx.ownsMap Try.prog 3 (plainElem Try.prog 3) (w.heap.size + 1) n D2 ∧ wx.ownsMap Try.prog 3 (plainElem Try.prog 4) (w.heap.size + 2) n D3 ∧ Hid (Coll fs rs left) ∧ Hid (rs.length = m) ∧ m + cnt ≤ n ∧ wx.ownsRow w0.heap.size 84 6 (.slice B m d) m (flat encR rs) ∧ w0.heap.size ≤ wx.heap.size ∧ RowKit.Below w.heap.size w wx) (fun _ wx => wx.rangeLeft w.heap.size rb)
      case atStart => exact ⟨_, _, none, 0, 0, [], rfl, hrg0, HO0.out.2.1, HO0.out.2.2, Coll.start (fun id => HM.out.ask id), rfl, by have := HSZ.out; omega, own_nilR _ _, Nat.le_refl _, HB0.out⟩
      case round =>
        clear hrg0 HO0 HB0 HSZ
        obtain ⟨left, cnt, B, m, d, rs, rfl, hrg, hm2, hm3, HC, HRL, hmc, ho, hws, hb⟩ := hrel
        have hrgL := Lib.hid hrg.left_eq
        go_wp2_with (first
          | (at_next; refine wpList_next_fct _ rfl _ rfl 3 klawI Try.underlying3 w.heap.size rb n _ _ _ rfl hrg ?_ ?_)
          | fail)
        · intro _ hl0
          have HL0 := Lib.hid hl0
          have HS := Lib.hid (sortR_any B m d w0.heap.size rs wr ho HRL.out (by omega) hws)
          have hww : w.heap.size ≤ w0.heap.size := by omega
          clear hl0 hrg hm2 hm3 ho hrgL
          go_wp2_with fail
          refine HS.out.mono ?_
          rintro e w1 ⟨rfl, rs', hp, hs, ho1, hb1⟩
          have HRQ := Lib.hid (reqList_of HC.out HL0.out hp (fun i j h1 h2 => hs i j h1 (by rw [← HRL.out]; exact h2)))
          have HPL : Hid (rs'.length = m) := hp.length_eq.trans HRL.out
          have HO1 := Lib.hid (own_mono ho1 hww)
          have HB1 := Lib.hid (hb.trans (hb1.mono hww))
          clear hp hs ho1 hb1 HS
          go_wp2
          go_ret
          exact ⟨B, m, d, rs', rfl, HPL.out, by have := HL.out; omega, HRQ.out, HO1.out, HB1.out⟩
        · intro x c w1 cnt1 hwx hlx hat hrg1 hlt hg1 hs1 hen
          have HAS := Lib.hid (ask_of_at HM.out hat)
          have hmem := ask_mem HAS.out
          have hok := HF.out c hmem.1
          unfold FOk at hok
          obtain ⟨o1, o2, o3, o4, o5, o6, o7, o8, o9, o10⟩ := hok
          have HKEY : Hid (keyOf Try.prog 3 (.int .i64 x) = some (.int .i64 x)) := keyOf_int_mk Try.underlying3 hwx
          have HRB := ret_bounds HF.out x
          have hr0 := HRB.1
          have hr1 : retOf fs x ≤ 1000000000000 := by
            have h1 := HRB.2
            have h2 : (fs.length : Int) ≤ 1000 := by have := HL.out; omega
            omega
          have HRE := Lib.hid (HM.out.ret x)
          have HWD := Lib.hid (HM.out.wd x)
          have HCS := Lib.hid (HC.out.step hlx HAS.out)
          have hb1 : RowKit.Below w.heap.size w w1 := hb.grown hg1 hb.size (fun j hj => by cases hj; omega)
          have hm2' := hm2.kept hg1 (fun e => by injection e; omega)
          have hm3' := hm3.kept hg1 (fun e => by injection e; omega)
          have ho1 := own_of_block ho (fun g hg => hg1.block g (own_lt ho g hg) (fun e => by have := own_base ho g hg; injection e; omega))
          have HE : Hid (effOf fs x c.qty = if wdOf fs x then 0 else max (c.qty - retOf fs x) 0) := rfl
          generalize retOf fs x = rv at *
          obtain ⟨wv, hwv⟩ : ∃ b, wdOf fs x = b := ⟨_, rfl⟩
          rw [hwv] at HWD HE
          clear hwv hmem hat hwx hlx ho hm2 hm3 hrg hg1 HRB hb HC
          have hx4 : Bl (w1.alloc (.cells #[.int .i64 c.num, .int .i64 c.kind, .int .i64 c.day, .int .i64 c.id, .int .i64 c.qty] 39)) wr.heap.size 39 #[.int .i64 c.num, .int .i64 c.kind, .int .i64 c.day, .int .i64 c.id, .int .i64 c.qty] := by
            rw [← hs1]
            exact Bl.new w1 _ _
          have hrg4 := hrg1.alloc (.cells #[.int .i64 c.num, .int .i64 c.kind, .int .i64 c.day, .int .i64 c.id, .int .i64 c.qty] 39)
          have hm24 := hm2'.alloc (.cells #[.int .i64 c.num, .int .i64 c.kind, .int .i64 c.day, .int .i64 c.id, .int .i64 c.qty] 39)
          have hm34 := hm3'.alloc (.cells #[.int .i64 c.num, .int .i64 c.kind, .int .i64 c.day, .int .i64 c.id, .int .i64 c.qty] 39)
          have ho4 := own_alloc ho1 (.cells #[.int .i64 c.num, .int .i64 c.kind, .int .i64 c.day, .int .i64 c.id, .int .i64 c.qty] 39)
          have hb4 : RowKit.Below w.heap.size w (w1.alloc (.cells #[.int .i64 c.num, .int .i64 c.kind, .int .i64 c.day, .int .i64 c.id, .int .i64 c.qty] 39)) := hb1.alloc hb1.size _
          have hw4 : w0.heap.size ≤ (w1.alloc (.cells #[.int .i64 c.num, .int .i64 c.kind, .int .i64 c.day, .int .i64 c.id, .int .i64 c.qty] 39)).heap.size := by simp; omega
          clear hrg1 hm2' hm3' ho1 hb1
          have HLE : Hid (wr.rangeLeft w.heap.size rb = cnt) := hrgL.out
          clear hrgL
          go_upto_region 21 with (fail)
          generalize w1.alloc (.cells #[.int .i64 c.num, .int .i64 c.kind, .int .i64 c.day, .int .i64 c.id, .int .i64 c.qty] 39) = W4 at *
          clear hs1
          generalize wr.heap.size = g4 at *
          have q2 : W4.cell? ⟨g4, 2, none⟩ = some (.int .i64 c.day) := hx4.cell 2
          have q4 : W4.cell? ⟨g4, 4, none⟩ = some (.int .i64 c.qty) := hx4.cell 4
          have l4 := hx4.lt
          have HR4 := Lib.hid hrg4
          have HM2 := Lib.hid hm24
          have HM3 := Lib.hid hm34
          have HO4 := Lib.hid ho4
          clear hx4 hen hrg4 hm24 hm34 ho4
          cases wv
          · rw [if_neg (by simp)] at HE
            rw [HE.out] at HCS
            have HOE := Lib.hid (own_alloc HO4.out (.cells #[.int .i64 x, .int .i64 c.day, .int .i64 0, .int .i64 0, .int .i64 (max (c.qty - rv) 0), .int .i64 0] 84))
            have HRX := Lib.hid (HR4.out.alloc (.cells #[.int .i64 x, .int .i64 c.day, .int .i64 0, .int .i64 0, .int .i64 (max (c.qty - rv) 0), .int .i64 0] 84))
            have HX2 := Lib.hid (HM2.out.alloc (.cells #[.int .i64 x, .int .i64 c.day, .int .i64 0, .int .i64 0, .int .i64 (max (c.qty - rv) 0), .int .i64 0] 84))
            have HX3 := Lib.hid (HM3.out.alloc (.cells #[.int .i64 x, .int .i64 c.day, .int .i64 0, .int .i64 0, .int .i64 (max (c.qty - rv) 0), .int .i64 0] 84))
            have HRD : Hid (Rd (W4.alloc (.cells #[.int .i64 x, .int .i64 c.day, .int .i64 0, .int .i64 0, .int .i64 (max (c.qty - rv) 0), .int .i64 0] 84)) 6 (some ⟨W4.heap.size, 0, none⟩) 1 (encR (⟨x, c.day, 0, 0, (max (c.qty - rv) 0), 0⟩ : Rq))) := rd_new W4 84 (encR (⟨x, c.day, 0, 0, (max (c.qty - rv) 0), 0⟩ : Rq))
            have HON : Hid (∀ u ∈ encR (⟨x, c.day, 0, 0, (max (c.qty - rv) 0), 0⟩ : Rq), u.oneCell' = true) := encR_one _
            have HM1 : Hid (m + 1 ≤ maxLen ∧ (m + 1) * 48 ≤ 140737488355328) := ⟨by unfold maxLen; omega, by omega⟩
            have HBA : Hid (RowKit.Below w.heap.size w (W4.alloc (.cells #[.int .i64 x, .int .i64 c.day, .int .i64 0, .int .i64 0, .int .i64 (max (c.qty - rv) 0), .int .i64 0] 84))) := hb4.alloc hb4.size _
            have HWA : Hid (w0.heap.size ≤ (W4.alloc (.cells #[.int .i64 x, .int .i64 c.day, .int .i64 0, .int .i64 0, .int .i64 (max (c.qty - rv) 0), .int .i64 0] 84)).heap.size) := by show _ ≤ _; simp; omega
            have HOB := Lib.hid (fun j hj => own_base HO4.out j hj)
            go_wp2_with (first
              | (at_lookup; refine wpList_lookup_own_int _ rfl _ _ 88 rfl 3 3 .i64 klawI Try.underlying88 Try.underlying3 (zeroI _) (w.heap.size + 1) n _ rfl HM2.out _ _ rfl HKEY.out ?_; intro c9 hat hwc; obtain rfl : rv = c9 := lit_eq (HRE.out.symm.trans hat); clear hat hwc)
              | (at_lookup; refine wpList_lookup_own_bool _ rfl _ _ 94 rfl 3 4 klawI Try.underlying94 Try.underlying4 (zeroB _) (w.heap.size + 2) n _ rfl HM3.out _ _ rfl HKEY.out ?_; intro c9 hat; obtain rfl : false = c9 := lit_eqB (HWD.out.symm.trans hat); clear hat)
              | (at_builtin; refine wpList_append_rd _ rfl (.tmp 72) (.tmp 79) 80 rfl w0.heap.size 84 _ 6 48 Try.underlying80 infoR rfl (by decide) (.slice B m d) m (flat encR rs) rfl HOE.out (some ⟨W4.heap.size, 0, none⟩) 1 _ (encR (⟨x, c.day, 0, 0, (max (c.qty - rv) 0), 0⟩ : Rq)) rfl HRD.out HON.out HM1.out.1 HM1.out.2 HWA.out ?_; intro v6 w6 ho6 hg6 _; obtain ⟨B6, d6, rfl⟩ := own_slice ho6))
            have HR6 := Lib.hid (HRX.out.kept hg6 (fun e => by have := HOB.out _ e.symm; omega) (fun e => by have := HOB.out _ e.symm; omega))
            have HM26 := Lib.hid (HX2.out.kept hg6 (fun e => by have := HOB.out _ e.symm; omega))
            have HM36 := Lib.hid (HX3.out.kept hg6 (fun e => by have := HOB.out _ e.symm; omega))
            have HB6 : Hid (RowKit.Below w.heap.size w w6) := HBA.out.grown hg6 HBA.out.size (fun j hj => by have := HOB.out j hj; omega)
            have HW6 : Hid (w0.heap.size ≤ w6.heap.size) := Nat.le_trans HWA.out hg6.size
            have HO6 : Hid (w6.ownsRow w0.heap.size 84 6 (.slice B6 (m + 1) d6) (m + 1) (flat encR (rs ++ [(⟨x, c.day, 0, 0, (max (c.qty - rv) 0), 0⟩ : Rq)]))) := by
              show World.ownsRow _ _ _ _ _ _ _
              rw [flat_append, flat_one]
              exact ho6
            clear ho6 hg6
            go_roundw
            case rel => exact ⟨_, cnt1, B6, m + 1, d6, _, rfl, HR6.out, HM26.out, HM36.out, HCS, by show _ = _; rw [List.length_append, HRL.out]; rfl, by omega, HO6.out, HW6.out, HB6.out⟩
            case measure => rw [HR6.out.left_eq, HLE.out]; exact hlt
          · rw [if_pos rfl] at HE
            rw [HE.out] at HCS
            have HOE := Lib.hid (own_alloc HO4.out (.cells #[.int .i64 x, .int .i64 c.day, .int .i64 0, .int .i64 0, .int .i64 0, .int .i64 0] 84))
            have HRX := Lib.hid (HR4.out.alloc (.cells #[.int .i64 x, .int .i64 c.day, .int .i64 0, .int .i64 0, .int .i64 0, .int .i64 0] 84))
            have HX2 := Lib.hid (HM2.out.alloc (.cells #[.int .i64 x, .int .i64 c.day, .int .i64 0, .int .i64 0, .int .i64 0, .int .i64 0] 84))
            have HX3 := Lib.hid (HM3.out.alloc (.cells #[.int .i64 x, .int .i64 c.day, .int .i64 0, .int .i64 0, .int .i64 0, .int .i64 0] 84))
            have HRD : Hid (Rd (W4.alloc (.cells #[.int .i64 x, .int .i64 c.day, .int .i64 0, .int .i64 0, .int .i64 0, .int .i64 0] 84)) 6 (some ⟨W4.heap.size, 0, none⟩) 1 (encR (⟨x, c.day, 0, 0, 0, 0⟩ : Rq))) := rd_new W4 84 (encR (⟨x, c.day, 0, 0, 0, 0⟩ : Rq))
            have HON : Hid (∀ u ∈ encR (⟨x, c.day, 0, 0, 0, 0⟩ : Rq), u.oneCell' = true) := encR_one _
            have HM1 : Hid (m + 1 ≤ maxLen ∧ (m + 1) * 48 ≤ 140737488355328) := ⟨by unfold maxLen; omega, by omega⟩
            have HBA : Hid (RowKit.Below w.heap.size w (W4.alloc (.cells #[.int .i64 x, .int .i64 c.day, .int .i64 0, .int .i64 0, .int .i64 0, .int .i64 0] 84))) := hb4.alloc hb4.size _
            have HWA : Hid (w0.heap.size ≤ (W4.alloc (.cells #[.int .i64 x, .int .i64 c.day, .int .i64 0, .int .i64 0, .int .i64 0, .int .i64 0] 84)).heap.size) := by show _ ≤ _; simp; omega
            have HOB := Lib.hid (fun j hj => own_base HO4.out j hj)
            go_wp2_with (first
              | (at_lookup; refine wpList_lookup_own_int _ rfl _ _ 88 rfl 3 3 .i64 klawI Try.underlying88 Try.underlying3 (zeroI _) (w.heap.size + 1) n _ rfl HM2.out _ _ rfl HKEY.out ?_; intro c9 hat hwc; obtain rfl : rv = c9 := lit_eq (HRE.out.symm.trans hat); clear hat hwc)
              | (at_lookup; refine wpList_lookup_own_bool _ rfl _ _ 94 rfl 3 4 klawI Try.underlying94 Try.underlying4 (zeroB _) (w.heap.size + 2) n _ rfl HM3.out _ _ rfl HKEY.out ?_; intro c9 hat; obtain rfl : true = c9 := lit_eqB (HWD.out.symm.trans hat); clear hat)
              | (at_builtin; refine wpList_append_rd _ rfl (.tmp 72) (.tmp 79) 80 rfl w0.heap.size 84 _ 6 48 Try.underlying80 infoR rfl (by decide) (.slice B m d) m (flat encR rs) rfl HOE.out (some ⟨W4.heap.size, 0, none⟩) 1 _ (encR (⟨x, c.day, 0, 0, 0, 0⟩ : Rq)) rfl HRD.out HON.out HM1.out.1 HM1.out.2 HWA.out ?_; intro v6 w6 ho6 hg6 _; obtain ⟨B6, d6, rfl⟩ := own_slice ho6))
            have HR6 := Lib.hid (HRX.out.kept hg6 (fun e => by have := HOB.out _ e.symm; omega) (fun e => by have := HOB.out _ e.symm; omega))
            have HM26 := Lib.hid (HX2.out.kept hg6 (fun e => by have := HOB.out _ e.symm; omega))
            have HM36 := Lib.hid (HX3.out.kept hg6 (fun e => by have := HOB.out _ e.symm; omega))
            have HB6 : Hid (RowKit.Below w.heap.size w w6) := HBA.out.grown hg6 HBA.out.size (fun j hj => by have := HOB.out j hj; omega)
            have HW6 : Hid (w0.heap.size ≤ w6.heap.size) := Nat.le_trans HWA.out hg6.size
            have HO6 : Hid (w6.ownsRow w0.heap.size 84 6 (.slice B6 (m + 1) d6) (m + 1) (flat encR (rs ++ [(⟨x, c.day, 0, 0, 0, 0⟩ : Rq)]))) := by
              show World.ownsRow _ _ _ _ _ _ _
              rw [flat_append, flat_one]
              exact ho6
            clear ho6 hg6
            go_roundw
            case rel => exact ⟨_, cnt1, B6, m + 1, d6, _, rfl, HR6.out, HM26.out, HM36.out, HCS, by show _ = _; rw [List.length_append, HRL.out]; rfl, by omega, HO6.out, HW6.out, HB6.out⟩
            case measure => rw [HR6.out.left_eq, HLE.out]; exact hlt
end Go.Proofs.Ytemhiifgplaldaa

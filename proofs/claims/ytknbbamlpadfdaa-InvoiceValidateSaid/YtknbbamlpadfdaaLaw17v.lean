/-
  The walk of the law InvoiceValidate. No statement of the seat is proved here. Conditions: the slices read as integers and as records.
-/
import Derived.Test.YtknbbamlpadfdaaLaw17o
namespace Go.Proofs.Ytknbbamlpadfdaa
open Go.RowKit
set_option linter.unusedVariables false

theorem own_thru2 {wA w4 : World} {base : Nat} {e t : TypeId} {size n g : Nat} {v : Value} {xs : List Value} {cs : Array Value} (h : wA.ownsRow base e size v n xs) (hb : Bl wA g t cs) (hne : e ≠ t) (hg : wA.grownBy w4 (some g)) : w4.ownsRow base e size v n xs :=
  own_of_block h fun k hk => hg.block k (own_lt h k hk) (fun e => own_apart h hb hne ((hk.trans e).symm))

/-- The first m pairs of a block. -/
def Row2 (arr : Array Value) (m : Nat) (f : Nat → Int × Int) : Prop := ∀ j, j < m → ∀ c, c < 2 → arr[j * 2 + c]? = some ((enc2 (f j))[c]!)
theorem Row2.set {arr : Array Value} {m : Nat} {f : Nat → Int × Int} (h : Row2 arr m f) (i c0 : Nat) (hi : i < m) (hc0 : c0 < 2) (x : Int × Int) (v : Value) (hv : ∀ c, c < 2 → (enc2 x)[c]! = if c = c0 then v else (enc2 (f i))[c]!) : Row2 (arr.setIfInBounds (i * 2 + c0) v) m (fun j => if j = i then x else f j) := by
  have hs : i * 2 + c0 < arr.size := by
    rcases Nat.lt_or_ge (i * 2 + c0) arr.size with h1 | h1
    · exact h1
    · have := h i hi c0 hc0
      rw [Array.getElem?_eq_none h1] at this
      cases this
  intro j hj c hc
  show _ = some ((enc2 (if j = i then x else f j))[c]!)
  rw [Array.getElem?_setIfInBounds]
  by_cases e : i * 2 + c0 = j * 2 + c
  · obtain rfl : i = j := by omega
    obtain rfl : c0 = c := by omega
    rw [if_pos rfl, if_pos hs, if_pos rfl, hv c0 hc, if_pos rfl]
  · rw [if_neg e]
    by_cases e2 : j = i
    · subst e2
      rw [if_pos rfl, hv c hc, if_neg (by omega), h j hj c hc]
    · rw [if_neg e2, h j hj c hc]
theorem Row5.set {arr : Array Value} {m : Nat} {f : Nat → Chg} (h : Row5 arr m f) (i c0 : Nat) (hi : i < m) (hc0 : c0 < 5) (x : Chg) (v : Value) (hv : ∀ c, c < 5 → (encC x)[c]! = if c = c0 then v else (encC (f i))[c]!) : Row5 (arr.setIfInBounds (i * 5 + c0) v) m (fun j => if j = i then x else f j) := by
  have hs : i * 5 + c0 < arr.size := by
    rcases Nat.lt_or_ge (i * 5 + c0) arr.size with h1 | h1
    · exact h1
    · have := h i hi c0 hc0
      rw [Array.getElem?_eq_none h1] at this
      cases this
  intro j hj c hc
  show _ = some ((encC (if j = i then x else f j))[c]!)
  rw [Array.getElem?_setIfInBounds]
  by_cases e : i * 5 + c0 = j * 5 + c
  · obtain rfl : i = j := by omega
    obtain rfl : c0 = c := by omega
    rw [if_pos rfl, if_pos hs, if_pos rfl, hv c0 hc, if_pos rfl]
  · rw [if_neg e]
    by_cases e2 : j = i
    · subst e2
      rw [if_pos rfl, hv c hc, if_neg (by omega), h j hj c hc]
    · rw [if_neg e2, h j hj c hc]
theorem Row2.recs {w : World} {arr : Array Value} {m g : Nat} {t : TypeId} {f : Nat → Int × Int} (h : Row2 arr m f) (hb : Bl w g t arr) : Recs enc2 2 w (some ⟨g, 0, none⟩) m ((List.range m).map f) :=
  ⟨by simp, fun _ => ⟨g, 0, rfl, hb.lt, fun i hi c hc => by rw [Nat.zero_add, hb.cell, h i hi c hc]; simp [hi]⟩⟩
theorem own_row2 {w : World} {base m d : Nat} {B : Option Addr} {t : TypeId} {cs : List (Int × Int)} (h : w.ownsRow base t 2 (.slice B m d) m (flat enc2 cs)) (hl : cs.length = m) (hm : 0 < m) :
    ∃ g arr, B = some ⟨g, 0, none⟩ ∧ base ≤ g ∧ Bl w g t arr ∧ Row2 arr m (fun i => cs[i]!) := by
  rcases h.2 with ⟨_, h0⟩ | ⟨g, cap, cur, hv, hb, hh, h1, h2, h3, h4⟩
  · omega
  · injection hv with e1 e2 e3
    refine ⟨g, cur, e1, hb, hh, fun j hj c hc => ?_⟩
    have := flat_get enc2_len cs j c (by omega) hc
    rw [← h4, List.getElem?_take, if_pos (by omega), Array.getElem?_toList] at this
    exact this
theorem own_far {w : World} {base : Nat} {e t : TypeId} {size n g : Nat} {v : Value} {xs : List Value} {cs : Array Value} (h : w.ownsRow base e size v n xs) (hb : Bl w g t cs) (hne : e ≠ t) (o : Nat) (u : Value) : (w.setCell ⟨g, o, none⟩ u).ownsRow base e size v n xs :=
  own_of_block h fun k hk => Below.heap_setCell w _ _ k (fun e => own_apart h hb hne (by rw [hk]; exact congrArg some (show g = k from e.symm)))
/-- What the switch leaves: two slices of records, the invoice's block, nothing written below. -/
def Sw (w : World) (gx : Nat) (cu : ByteArray) (X Y : Value) (l cc : Value) (wx : World) : Prop :=
  ∃ (La : Option Addr) (n lc : Nat) (ls : List (Int × Int)) (Ca : Option Addr) (m ca : Nat) (cs : List Chg) (dd : Int), l = .slice La n lc ∧ cc = .slice Ca m ca ∧ Recs enc2 2 wx La n ls ∧ n ≤ 1000 ∧ Recs encC 5 wx Ca m cs ∧ m ≤ 1000 ∧ Off gx La n ∧ Off gx Ca m ∧ Bl wx gx 25 #[.string cu, .int .i64 dd, X, Y] ∧ RowKit.Below w.heap.size w wx
theorem sw_charge {w W : World} {base gx g m ca n lc : Nat} {La : Option Addr} {cs : List Chg} {ls : List (Int × Int)} {arr : Array Value} {f : Nat → Chg} {cu : ByteArray} {X Y : Value} {dd : Int}
    (hb : Bl W g 33 arr) (h5 : Row5 arr m f) (hol : W.ownsRow base 35 2 (.slice La n lc) n (flat enc2 ls)) (hln : ls.length = n) (hn : n ≤ 1000) (hm : m ≤ 1000) (hx : Bl W gx 25 #[.string cu, .int .i64 dd, X, Y]) (hgx : gx < base) (hg : base ≤ g) (hB : RowKit.Below w.heap.size w W) (hw : w.heap.size ≤ gx)
    (i c0 : Nat) (hi : i < m) (hc0 : c0 < 5) (x : Chg) (v : Value) (hv : ∀ c, c < 5 → (encC x)[c]! = if c = c0 then v else (encC (f i))[c]!) : Sw w gx cu X Y (.slice La n lc) (.slice (some ⟨g, 0, none⟩) m ca) (W.setCell ⟨g, i * 5 + c0, none⟩ v) :=
  ⟨La, n, lc, ls, some ⟨g, 0, none⟩, m, ca, _, dd, rfl, rfl, Recs.of_own enc2_len (own_far hol hb (by decide) _ _) hln, hn, (h5.set i c0 hi hc0 x v hv).recs (hb.put _ _), hm, own_off hol hgx, fun _ b off e => by injection e with e; injection e with e1; omega, hx.far (p := ⟨g, _, none⟩) (by show gx ≠ g; omega) _, hB.setCell (p := ⟨g, _, none⟩) (by show w.heap.size ≤ g; omega) _⟩
theorem sw_line {w W : World} {base gx g m ca n lc : Nat} {Ca : Option Addr} {cs : List Chg} {ls : List (Int × Int)} {arr : Array Value} {f : Nat → Int × Int} {cu : ByteArray} {X Y : Value} {dd : Int}
    (hb : Bl W g 35 arr) (h2 : Row2 arr n f) (hoc : W.ownsRow base 33 5 (.slice Ca m ca) m (flat encC cs)) (hln : cs.length = m) (hn : n ≤ 1000) (hm : m ≤ 1000) (hx : Bl W gx 25 #[.string cu, .int .i64 dd, X, Y]) (hgx : gx < base) (hg : base ≤ g) (hB : RowKit.Below w.heap.size w W) (hw : w.heap.size ≤ gx)
    (i c0 : Nat) (hi : i < n) (hc0 : c0 < 2) (x : Int × Int) (v : Value) (hv : ∀ c, c < 2 → (enc2 x)[c]! = if c = c0 then v else (enc2 (f i))[c]!) : Sw w gx cu X Y (.slice (some ⟨g, 0, none⟩) n lc) (.slice Ca m ca) (W.setCell ⟨g, i * 2 + c0, none⟩ v) :=
  ⟨some ⟨g, 0, none⟩, n, lc, _, Ca, m, ca, cs, dd, rfl, rfl, (h2.set i c0 hi hc0 x v hv).recs (hb.put _ _), hn, Recs.of_own encC_len (own_far hoc hb (by decide) _ _) hln, hm, fun _ b off e => by injection e with e; injection e with e1; omega, own_off hoc hgx, hx.far (p := ⟨g, _, none⟩) (by show gx ≠ g; omega) _, hB.setCell (p := ⟨g, _, none⟩) (by show w.heap.size ≤ g; omega) _⟩
theorem hvL0 (p : Int × Int) (v : Int) : ∀ c, c < 2 → (enc2 (v, p.2))[c]! = if c = 0 then .int .i64 v else (enc2 p)[c]! := fun c hc => by
  rcases (show c = 0 ∨ c = 1 by omega) with rfl | rfl
  · rw [if_pos rfl]; rfl
  · rw [if_neg (by omega)]; rfl
theorem hvL1 (p : Int × Int) (v : Int) : ∀ c, c < 2 → (enc2 (p.1, v))[c]! = if c = 1 then .int .i64 v else (enc2 p)[c]! := fun c hc => by
  rcases (show c = 0 ∨ c = 1 by omega) with rfl | rfl
  · rw [if_neg (by omega)]; rfl
  · rw [if_pos rfl]; rfl
theorem hvC0 (p : Chg) (v : Int) : ∀ c, c < 5 → (encC { p with kind := v })[c]! = if c = 0 then .int .i64 v else (encC p)[c]! := fun c hc => by
  rcases (show c = 0 ∨ c = 1 ∨ c = 2 ∨ c = 3 ∨ c = 4 by omega) with rfl | rfl | rfl | rfl | rfl
  · rw [if_pos rfl]; rfl
  · rw [if_neg (by omega)]; rfl
  · rw [if_neg (by omega)]; rfl
  · rw [if_neg (by omega)]; rfl
  · rw [if_neg (by omega)]; rfl
theorem hvC1 (p : Chg) (v : Int) : ∀ c, c < 5 → (encC { p with amt := v })[c]! = if c = 1 then .int .i64 v else (encC p)[c]! := fun c hc => by
  rcases (show c = 0 ∨ c = 1 ∨ c = 2 ∨ c = 3 ∨ c = 4 by omega) with rfl | rfl | rfl | rfl | rfl
  · rw [if_neg (by omega)]; rfl
  · rw [if_pos rfl]; rfl
  · rw [if_neg (by omega)]; rfl
  · rw [if_neg (by omega)]; rfl
  · rw [if_neg (by omega)]; rfl
theorem hvC3 (p : Chg) (v : Int) : ∀ c, c < 5 → (encC { p with basis := v })[c]! = if c = 3 then .int .i64 v else (encC p)[c]! := fun c hc => by
  rcases (show c = 0 ∨ c = 1 ∨ c = 2 ∨ c = 3 ∨ c = 4 by omega) with rfl | rfl | rfl | rfl | rfl
  · rw [if_neg (by omega)]; rfl
  · rw [if_neg (by omega)]; rfl
  · rw [if_neg (by omega)]; rfl
  · rw [if_pos rfl]; rfl
  · rw [if_neg (by omega)]; rfl
theorem hvC4 (p : Chg) (v : Int) : ∀ c, c < 5 → (encC { p with line := v })[c]! = if c = 4 then .int .i64 v else (encC p)[c]! := fun c hc => by
  rcases (show c = 0 ∨ c = 1 ∨ c = 2 ∨ c = 3 ∨ c = 4 by omega) with rfl | rfl | rfl | rfl | rfl
  · rw [if_neg (by omega)]; rfl
  · rw [if_neg (by omega)]; rfl
  · rw [if_neg (by omega)]; rfl
  · rw [if_neg (by omega)]; rfl
  · rw [if_pos rfl]; rfl
theorem sw_charge0 {w W : World} {base gx g m ca n lc : Nat} {La : Option Addr} {cs : List Chg} {ls : List (Int × Int)} {arr : Array Value} {f : Nat → Chg} {cu : ByteArray} {X Y : Value} {dd : Int}
    (hb : Bl W g 33 arr) (h5 : Row5 arr m f) (hol : W.ownsRow base 35 2 (.slice La n lc) n (flat enc2 ls)) (hln : ls.length = n) (hn : n ≤ 1000) (hm : m ≤ 1000) (hx : Bl W gx 25 #[.string cu, .int .i64 dd, X, Y]) (hgx : gx < base) (hg : base ≤ g) (hB : RowKit.Below w.heap.size w W) (hw : w.heap.size ≤ gx)
    (i : Nat) (hi : i < m) (v : Int) : Sw w gx cu X Y (.slice La n lc) (.slice (some ⟨g, 0, none⟩) m ca) (W.setCell ⟨g, i * 5, none⟩ (.int .i64 v)) :=
  sw_charge (cs := cs) hb h5 hol hln hn hm hx hgx hg hB hw i 0 hi (by omega) { f i with kind := v } (.int .i64 v) (hvC0 (f i) v)
theorem sw_charge1 {w W : World} {base gx g m ca n lc : Nat} {La : Option Addr} {cs : List Chg} {ls : List (Int × Int)} {arr : Array Value} {f : Nat → Chg} {cu : ByteArray} {X Y : Value} {dd : Int}
    (hb : Bl W g 33 arr) (h5 : Row5 arr m f) (hol : W.ownsRow base 35 2 (.slice La n lc) n (flat enc2 ls)) (hln : ls.length = n) (hn : n ≤ 1000) (hm : m ≤ 1000) (hx : Bl W gx 25 #[.string cu, .int .i64 dd, X, Y]) (hgx : gx < base) (hg : base ≤ g) (hB : RowKit.Below w.heap.size w W) (hw : w.heap.size ≤ gx)
    (i : Nat) (hi : i < m) (v : Int) : Sw w gx cu X Y (.slice La n lc) (.slice (some ⟨g, 0, none⟩) m ca) (W.setCell ⟨g, i * 5 + 1, none⟩ (.int .i64 v)) :=
  sw_charge (cs := cs) hb h5 hol hln hn hm hx hgx hg hB hw i 1 hi (by omega) { f i with amt := v } (.int .i64 v) (hvC1 (f i) v)
theorem sw_charge3 {w W : World} {base gx g m ca n lc : Nat} {La : Option Addr} {cs : List Chg} {ls : List (Int × Int)} {arr : Array Value} {f : Nat → Chg} {cu : ByteArray} {X Y : Value} {dd : Int}
    (hb : Bl W g 33 arr) (h5 : Row5 arr m f) (hol : W.ownsRow base 35 2 (.slice La n lc) n (flat enc2 ls)) (hln : ls.length = n) (hn : n ≤ 1000) (hm : m ≤ 1000) (hx : Bl W gx 25 #[.string cu, .int .i64 dd, X, Y]) (hgx : gx < base) (hg : base ≤ g) (hB : RowKit.Below w.heap.size w W) (hw : w.heap.size ≤ gx)
    (i : Nat) (hi : i < m) (v : Int) : Sw w gx cu X Y (.slice La n lc) (.slice (some ⟨g, 0, none⟩) m ca) (W.setCell ⟨g, i * 5 + 3, none⟩ (.int .i64 v)) :=
  sw_charge (cs := cs) hb h5 hol hln hn hm hx hgx hg hB hw i 3 hi (by omega) { f i with basis := v } (.int .i64 v) (hvC3 (f i) v)
theorem sw_charge4 {w W : World} {base gx g m ca n lc : Nat} {La : Option Addr} {cs : List Chg} {ls : List (Int × Int)} {arr : Array Value} {f : Nat → Chg} {cu : ByteArray} {X Y : Value} {dd : Int}
    (hb : Bl W g 33 arr) (h5 : Row5 arr m f) (hol : W.ownsRow base 35 2 (.slice La n lc) n (flat enc2 ls)) (hln : ls.length = n) (hn : n ≤ 1000) (hm : m ≤ 1000) (hx : Bl W gx 25 #[.string cu, .int .i64 dd, X, Y]) (hgx : gx < base) (hg : base ≤ g) (hB : RowKit.Below w.heap.size w W) (hw : w.heap.size ≤ gx)
    (i : Nat) (hi : i < m) (v : Int) : Sw w gx cu X Y (.slice La n lc) (.slice (some ⟨g, 0, none⟩) m ca) (W.setCell ⟨g, i * 5 + 4, none⟩ (.int .i64 v)) :=
  sw_charge (cs := cs) hb h5 hol hln hn hm hx hgx hg hB hw i 4 hi (by omega) { f i with line := v } (.int .i64 v) (hvC4 (f i) v)
theorem sw_line0 {w W : World} {base gx g m ca n lc : Nat} {Ca : Option Addr} {cs : List Chg} {ls : List (Int × Int)} {arr : Array Value} {f : Nat → Int × Int} {cu : ByteArray} {X Y : Value} {dd : Int}
    (hb : Bl W g 35 arr) (h2 : Row2 arr n f) (hoc : W.ownsRow base 33 5 (.slice Ca m ca) m (flat encC cs)) (hln : cs.length = m) (hn : n ≤ 1000) (hm : m ≤ 1000) (hx : Bl W gx 25 #[.string cu, .int .i64 dd, X, Y]) (hgx : gx < base) (hg : base ≤ g) (hB : RowKit.Below w.heap.size w W) (hw : w.heap.size ≤ gx)
    (i : Nat) (hi : i < n) (v : Int) : Sw w gx cu X Y (.slice (some ⟨g, 0, none⟩) n lc) (.slice Ca m ca) (W.setCell ⟨g, i * 2, none⟩ (.int .i64 v)) :=
  sw_line (ls := ls) hb h2 hoc hln hn hm hx hgx hg hB hw i 0 hi (by omega) (v, (f i).2) (.int .i64 v) (hvL0 (f i) v)
theorem sw_line1 {w W : World} {base gx g m ca n lc : Nat} {Ca : Option Addr} {cs : List Chg} {ls : List (Int × Int)} {arr : Array Value} {f : Nat → Int × Int} {cu : ByteArray} {X Y : Value} {dd : Int}
    (hb : Bl W g 35 arr) (h2 : Row2 arr n f) (hoc : W.ownsRow base 33 5 (.slice Ca m ca) m (flat encC cs)) (hln : cs.length = m) (hn : n ≤ 1000) (hm : m ≤ 1000) (hx : Bl W gx 25 #[.string cu, .int .i64 dd, X, Y]) (hgx : gx < base) (hg : base ≤ g) (hB : RowKit.Below w.heap.size w W) (hw : w.heap.size ≤ gx)
    (i : Nat) (hi : i < n) (v : Int) : Sw w gx cu X Y (.slice (some ⟨g, 0, none⟩) n lc) (.slice Ca m ca) (W.setCell ⟨g, i * 2 + 1, none⟩ (.int .i64 v)) :=
  sw_line (ls := ls) hb h2 hoc hln hn hm hx hgx hg hB hw i 1 hi (by omega) ((f i).1, v) (.int .i64 v) (hvL1 (f i) v)
theorem and_one_any (x : Int) : bits .and .i64 x 1 = 0 ∨ bits .and .i64 x 1 = 1 := by
  have h2 : (BitVec.ofInt 64 (1 : Int)).toNat = 1 := by decide
  have e : bits .and .i64 x 1 = IntKind.i64.wrap (((BitVec.ofInt 64 x).toNat % 2 : Nat) : Int) := by
    show IntKind.i64.wrap ((BitVec.ofInt 64 x &&& BitVec.ofInt 64 (1 : Int)).toNat : Int) = _
    rw [BitVec.toNat_and, h2, Nat.and_one_is_mod]
  rw [e, IntKind.wrap_i64]
  omega
/-- The number of elements that a slice says. -/
def slLen : Value → Nat
  | .slice _ n _ => n
  | _ => 0
theorem get_app_any (cs : List Chg) (x : Chg) (i : Nat) (hi : i < cs.length) : (cs ++ [x])[i]! = cs[i]! := by
  rw [getElem!_pos _ i (by simp; omega), getElem!_pos cs i hi, List.getElem_append_left hi]
theorem own_cap {w : World} {base n c : Nat} {A : Option Addr} {e : TypeId} {size : Nat} {xs : List Value} (h : w.ownsRow base e size (.slice A n c) n xs) (hn : 0 < n) : n ≤ c ∧ c ≤ 9223372036854775807 := by
  rcases h.2 with ⟨_, h0⟩ | ⟨g, cap, cur, hv, hb, hh, h1, h2, h3, h4⟩
  · omega
  · injection hv with e1 e2 e3
    subst e3
    unfold maxLen at h2
    exact ⟨h1, h2⟩
theorem own_one (w : World) {base : Nat} (hb : base ≤ w.heap.size) (x : Chg) : (w.alloc (.cells #[.int .i64 x.kind, .int .i64 x.amt, .string x.cur, .int .i64 x.basis, .int .i64 x.line] 33)).ownsRow base 33 5 (.slice (some ⟨w.heap.size, 0, none⟩) 1 1) 1 (flat encC [x]) :=
  ⟨by rw [flat_one]; rfl, .inr ⟨w.heap.size, 1, _, rfl, hb, Bl.new w _ _, Nat.le_refl _, by unfold maxLen; omega, rfl, by rw [flat_one]; rfl⟩⟩

set_option maxRecDepth 100000 in
set_option maxHeartbeats 16000000 in
theorem walkInvoiceValidate (cu : ByteArray) (day : Int) (A B : Option Addr) (n c m d : Nat) (ls : List (Int × Int)) (cs : List Chg) (A1 : Option Addr) (n1 c1 : Nat) (ys : List Int) (which at_ nn : Int) (w : World)
    (h : Recs enc2 2 w A n ls) (hn : n ≤ c) (hc : c ≤ 9223372036854775807) (hA : A = none → n = 0 ∧ c = 0)
    (h2 : Recs encC 5 w B m cs) (hm : m ≤ d) (hd : d ≤ 9223372036854775807) (hB : B = none → m = 0 ∧ d = 0)
    (h1 : Ints w A1 n1 ys) (hl1 : n1 ≤ c1) (hc1 : c1 ≤ 9223372036854775807) :
    Calls Try.prog 3 #[.agg #[.string cu, .int .i64 day, .slice A n c, .slice B m d], .slice A1 n1 c1, .int .i64 which, .int .i64 at_, .int .i64 nn] w fun e w' => e = .returned (.bool true) ∧ RowKit.Below w.heap.size w w' := by
  have HF := Lib.hid (fun w => few_any cu day A B n c m d w hn hc hA hm hd hB)
  have hlt := h.take (m := min n 105) (by omega)
  have hct := h2.take (m := min m 55) (by omega)
  obtain ⟨n', hn'⟩ : ∃ k, min n 105 = k := ⟨_, rfl⟩
  obtain ⟨m', hm'⟩ : ∃ k, min m 55 = k := ⟨_, rfl⟩
  rw [hn'] at hlt HF
  rw [hm'] at hct HF
  have e2 : n' ≤ 105 := by omega
  have e3 : m' ≤ 55 := by omega
  have hb0 : RowKit.Below w.heap.size w (w.alloc (.cells #[.string cu, .int .i64 day, .slice A n c, .slice B m d] 25)) := (Below.refl _ _).alloc (Nat.le_refl _) _
  have hx0 := Bl.new w 25 #[.string cu, .int .i64 day, .slice A n c, .slice B m d]
  clear hn' hm' h h2 hA hB
  go_enter Try.func3, Try.ntmps3
  go_upto_region 1 with (fail)
  generalize w.alloc (.cells #[.string cu, .int .i64 day, .slice A n c, .slice B m d] 25) = W0 at *
  have p0 : W0.cell? ⟨w.heap.size, 0, none⟩ = some (.string cu) := hx0.cell 0
  have p1 : W0.cell? ⟨w.heap.size, 1, none⟩ = some (.int .i64 day) := hx0.cell 1
  have p2 : W0.cell? ⟨w.heap.size, 2, none⟩ = some (.slice A n c) := hx0.cell 2
  have p3 : W0.cell? ⟨w.heap.size, 3, none⟩ = some (.slice B m d) := hx0.cell 3
  go_wp2_with fail
  refine (HF.out _).mono ?_
  rintro e w1 ⟨rfl, hb1⟩
  have hx1 := hx0.keep hb1
  have q0 : w1.cell? ⟨w.heap.size, 0, none⟩ = some (.string cu) := hx1.cell 0
  have q1 : w1.cell? ⟨w.heap.size, 1, none⟩ = some (.int .i64 day) := hx1.cell 1
  have q2 : w1.cell? ⟨w.heap.size, 2, none⟩ = some (.slice A n c) := hx1.cell 2
  have q3 : w1.cell? ⟨w.heap.size, 3, none⟩ = some (.slice B m d) := hx1.cell 3
  have f0 : w1.frozen? ⟨w.heap.size, 0, none⟩ = false := hx1.free 0
  have f1 : w1.frozen? ⟨w.heap.size, 1, none⟩ = false := hx1.free 1
  have f2 : w1.frozen? ⟨w.heap.size, 2, none⟩ = false := hx1.free 2
  have f3 : w1.frozen? ⟨w.heap.size, 3, none⟩ = false := hx1.free 3
  have HX : Hid (Bl ((((w1.setCell ⟨w.heap.size, 0, none⟩ (.string cu)).setCell ⟨w.heap.size, 1, none⟩ (.int .i64 day)).setCell ⟨w.heap.size, 2, none⟩ (.slice A n' c)).setCell ⟨w.heap.size, 3, none⟩ (.slice B m' d)) w.heap.size 25 #[.string cu, .int .i64 day, .slice A n' c, .slice B m' d]) := by
    have := (((hx1.put 0 (.string cu)).put 1 (.int .i64 day)).put 2 (.slice A n' c)).put 3 (.slice B m' d)
    show Bl _ _ _ _
    simpa using this
  have hB1 : RowKit.Below w.heap.size w ((((w1.setCell ⟨w.heap.size, 0, none⟩ (.string cu)).setCell ⟨w.heap.size, 1, none⟩ (.int .i64 day)).setCell ⟨w.heap.size, 2, none⟩ (.slice A n' c)).setCell ⟨w.heap.size, 3, none⟩ (.slice B m' d)) := ((((hb0.trans (hb1.mono hb0.size)).setCell (p := ⟨w.heap.size, 0, none⟩) (Nat.le_refl _) _).setCell (p := ⟨w.heap.size, 1, none⟩) (Nat.le_refl _) _).setCell (p := ⟨w.heap.size, 2, none⟩) (Nat.le_refl _) _).setCell (p := ⟨w.heap.size, 3, none⟩) (Nat.le_refl _) _
  go_upto_region 2 with (fail)
  generalize ((((w1.setCell ⟨w.heap.size, 0, none⟩ (.string cu)).setCell ⟨w.heap.size, 1, none⟩ (.int .i64 day)).setCell ⟨w.heap.size, 2, none⟩ (.slice A n' c)).setCell ⟨w.heap.size, 3, none⟩ (.slice B m' d)) = W1 at *
  clear hx0 hx1 hb0 hb1 p0 p1 p2 p3 q0 q1 q2 q3 f0 f1 f2 f3 HF
  go_wp2_with fail
  refine (invoice_any A1 n1 c1 ys W1 (h1.below hB1) hl1 hc1).mono ?_
  rintro e w3 ⟨cu3, day3, A3, n3, c3, B3, m3, d3, ls3, cs3, rfl, hcu3, hie, hn3, hm3, hcs, hln, hcm, hol, hoc, hb3⟩
  have HIE := Lib.hid hie
  have HLN := Lib.hid hln
  have HCM := Lib.hid hcm
  have r1 := Recs.of_own enc2_len hol hln
  have r2 := Recs.of_own encC_len hoc hcm
  have s1 := Rd.of_own hol
  have s2 := Rd.of_own hoc
  have hal : RowKit.Below w3.heap.size w3 (w3.alloc (.cells #[.string cu3, .int .i64 day3, .slice A3 n3 c3, .slice B3 m3 d3] 25)) := (Below.refl _ _).alloc (Nat.le_refl _) _
  have hx4 := Bl.new w3 25 #[.string cu3, .int .i64 day3, .slice A3 n3 c3, .slice B3 m3 d3]
  have hraw4 := (HX.out.keep hb3).keep hal
  have hB3 := hB1.trans (hb3.mono hB1.size)
  have hB4 := hB3.trans (hal.mono hB3.size)
  have hr1 := r1.below hal
  have hr2 := r2.below hal
  have hs1 := s1.keep hal
  have hs2 := s2.keep hal
  have ha1 := hlt.below hB4
  have ha2 := hct.below hB4
  have hg34 := hx4.lt
  have hg3w := hB3.size
  clear hie hcs hln hcm hol hoc r1 r2 s1 s2 HX hB1 hb3 hB3 hal hlt hct hcu3
  go_upto_region 3 with (fail)
  generalize w3.alloc (.cells #[.string cu3, .int .i64 day3, .slice A3 n3 c3, .slice B3 m3 d3] 25) = W4 at *
  generalize w3.heap.size = gx at *
  have q0 : W4.cell? ⟨w.heap.size, 0, none⟩ = some (.string cu) := hraw4.cell 0
  have q1 : W4.cell? ⟨w.heap.size, 1, none⟩ = some (.int .i64 day) := hraw4.cell 1
  have q2 : W4.cell? ⟨w.heap.size, 2, none⟩ = some (.slice A n' c) := hraw4.cell 2
  have q3 : W4.cell? ⟨w.heap.size, 3, none⟩ = some (.slice B m' d) := hraw4.cell 3
  have p0 : W4.cell? ⟨gx, 0, none⟩ = some (.string cu3) := hx4.cell 0
  have p1 : W4.cell? ⟨gx, 1, none⟩ = some (.int .i64 day3) := hx4.cell 1
  have p2 : W4.cell? ⟨gx, 2, none⟩ = some (.slice A3 n3 c3) := hx4.cell 2
  have p3 : W4.cell? ⟨gx, 3, none⟩ = some (.slice B3 m3 d3) := hx4.cell 3
  obtain ⟨er, her⟩ : ∃ er, invErr day (ls.take n') (cs.take m') = er := ⟨_, rfl⟩
  have HV1 : Hid (∀ wx, RowKit.Below W4.heap.size W4 wx → Calls Try.prog 11 #[.agg #[.string cu, .int .i64 day, .slice A n' c, .slice B m' d]] wx (fun e w' => e = .returned (.int .i64 er) ∧ RowKit.Below W4.heap.size W4 w')) := fun wx hb => by
    have := validate17_any cu day A B n' c m' d _ _ wx (ha1.below hb) (by omega) (ha2.below hb) (by omega)
    rw [her] at this
    exact this.mono fun e w' ⟨h1, h2⟩ => ⟨h1, hb.trans (h2.mono hb.size)⟩
  have HV2 : Hid (∀ wx, RowKit.Below W4.heap.size W4 wx → Calls Try.prog 12 #[.agg #[.string cu, .int .i64 day, .slice A n' c, .slice B m' d]] wx (fun e w' => e = .returned (.int .i64 er) ∧ RowKit.Below W4.heap.size W4 w')) := fun wx hb => by
    have := rinvoice_any cu day A B n' c m' d _ _ wx (ha1.below hb) (by omega) (ha2.below hb) (by omega)
    rw [her] at this
    exact this.mono fun e w' ⟨h1, h2⟩ => ⟨h1, hb.trans (h2.mono hb.size)⟩
  have HV3 : Hid (∀ wx, RowKit.Below W4.heap.size W4 wx → Calls Try.prog 11 #[.agg #[.string cu3, .int .i64 day3, .slice A3 n3 c3, .slice B3 m3 d3]] wx (fun e w' => e = .returned (.int .i64 0) ∧ RowKit.Below W4.heap.size W4 w')) := fun wx hb => by
    have := validate17_any cu3 day3 A3 B3 n3 c3 m3 d3 _ _ wx (hr1.below hb) (by omega) (hr2.below hb) (by omega)
    rw [HIE.out] at this
    exact this.mono fun e w' ⟨h1, h2⟩ => ⟨h1, hb.trans (h2.mono hb.size)⟩
  have HB0 : Hid (RowKit.Below W4.heap.size W4 W4.drew) := (Below.refl _ _).drew
  have HBX := Lib.hid hx4
  have HBR := Lib.hid hraw4
  have gl1 := hx4.lt
  have gl2 := hraw4.lt
  clear her hx4 hraw4
  go_cut [29] (fun v wx => v = .bool false ∧ RowKit.Below W4.heap.size W4 wx)
  case first =>
    go_region_held3 (fun w' => w'.cell? ⟨w.heap.size, 0, none⟩ = some (.string cu) ∧ w'.cell? ⟨w.heap.size, 1, none⟩ = some (.int .i64 day) ∧ w'.cell? ⟨w.heap.size, 2, none⟩ = some (.slice A n' c) ∧ w'.cell? ⟨w.heap.size, 3, none⟩ = some (.slice B m' d) ∧ w'.cell? ⟨gx, 0, none⟩ = some (.string cu3) ∧ w'.cell? ⟨gx, 1, none⟩ = some (.int .i64 day3) ∧ w'.cell? ⟨gx, 2, none⟩ = some (.slice A3 n3 c3) ∧ w'.cell? ⟨gx, 3, none⟩ = some (.slice B3 m3 d3))
      (first
        | go_keep
        | exact ⟨(HBR.out.keep hb5.out).cell 0, (HBR.out.keep hb5.out).cell 1, (HBR.out.keep hb5.out).cell 2, (HBR.out.keep hb5.out).cell 3, (HBX.out.keep hb5.out).cell 0, (HBX.out.keep hb5.out).cell 1, (HBX.out.keep hb5.out).cell 2, (HBX.out.keep hb5.out).cell 3⟩)
      (first
        | (go_at_call 11; with_reducible (refine (HV1.out _ ?_).mono ?_); with_reducible (first | exact HB0.out | exact hb5.out); rintro e w5 ⟨rfl, hb5'⟩; have hb5 := Lib.hid hb5'; clear hb5')
        | (go_at_call 12; with_reducible (refine (HV2.out _ ?_).mono ?_); with_reducible (first | exact HB0.out | exact hb5.out); rintro e w5 ⟨rfl, hb5'⟩; have hb5 := Lib.hid hb5'; clear hb5')
        | (go_at_call 11; with_reducible (refine (HV3.out _ ?_).mono ?_); with_reducible (first | exact HB0.out | exact hb5.out); rintro e w5 ⟨rfl, hb5'⟩; have hb5 := Lib.hid hb5'; clear hb5'))
    all_goals (go_wp2_with fail; go_meet; exact ⟨rfl, hb5.out⟩)
  case rest =>
    obtain ⟨rfl, hb5⟩ := hcut
    obtain ⟨W5, rfl⟩ : ∃ W, W = wc := ⟨_, rfl⟩
    have hB5 := hB4.trans (hb5.mono hB4.size)
    have HBX5 := Lib.hid (HBX.out.keep hb5)
    have HS1 := Lib.hid (hs1.keep hb5)
    have HS2 := Lib.hid (hs2.keep hb5)
    have hgw : w.heap.size ≤ gx := hg3w
    clear q0 q1 q2 q3 p0 p1 p2 p3 HV1 HV2 HV3 HB0 HBX HBR hb5 hs1 hs2 ha1 ha2 hr1 hr2 hB4 gl1 gl2 hg34
    have p2 : W5.cell? ⟨gx, 2, none⟩ = some (.slice A3 n3 c3) := HBX5.out.cell 2
    have p3 : W5.cell? ⟨gx, 3, none⟩ = some (.slice B3 m3 d3) := HBX5.out.cell 3
    have l5 : gx < W5.heap.size := HBX5.out.lt
    have HN1 : Hid (∀ u ∈ flat enc2 ls3, u.oneCell' = true) := fun u hu => by
      obtain ⟨x, _, hx⟩ := List.mem_flatMap.1 hu
      exact enc2_one x u hx
    have HN2 : Hid (∀ u ∈ flat encC cs3, u.oneCell' = true) := fun u hu => by
      obtain ⟨x, _, hx⟩ := List.mem_flatMap.1 hu
      exact encC_one x u hx
    have HM1 : Hid (0 + n3 ≤ maxLen ∧ (0 + n3) * 16 ≤ 140737488355328) := ⟨by unfold maxLen; omega, by omega⟩
    have HM2 : Hid (0 + m3 ≤ maxLen ∧ (0 + m3) * 48 ≤ 140737488355328) := ⟨by unfold maxLen; omega, by omega⟩
    go_upto_region 5 with (fail)
    go_cut [12, 13] (fun l cc wx => ∃ (La : Option Addr) (lc : Nat) (Ca : Option Addr) (ca : Nat), l = .slice La n3 lc ∧ cc = .slice Ca m3 ca ∧ wx.ownsRow W5.heap.size 35 2 (.slice La n3 lc) n3 (flat enc2 ls3) ∧ wx.ownsRow W5.heap.size 33 5 (.slice Ca m3 ca) m3 (flat encC cs3) ∧ RowKit.Below W5.heap.size W5 wx)
    case first =>
      go_region_held3 (fun w' => w'.cell? ⟨gx, 2, none⟩ = some (.slice A3 n3 c3) ∧ w'.cell? ⟨gx, 3, none⟩ = some (.slice B3 m3 d3))
        (first
          | go_keep
          | exact ⟨HX7.out.cell 2, HX7.out.cell 3⟩
          | exact ⟨HX6.out.cell 2, HX6.out.cell 3⟩)
        (first
          | (refine step_append_rd _ (by rfl) (.tmp 30) (.tmp 32) _ (by rfl) W5.heap.size 35 _ 2 16 Try.underlying22 infoL rfl (by decide) (.slice (some ⟨W5.heap.size, 0, none⟩) 0 0) 0 [] (by rfl) (own_empty (Bl.new W5 _ _).drew (Nat.le_refl _)) A3 n3 c3 (flat enc2 ls3) (by rfl) ((HS1.out.alloc _).drew) HN1.out HM1.out.1 HM1.out.2 (by simp) ?_; intro v6 w6 ho6 hg6; rw [Nat.zero_add, List.nil_append] at ho6; obtain ⟨A6, d6, rfl⟩ := own_slice ho6; have HFL := Lib.hid ho6; have HB6 : Hid (RowKit.Below W5.heap.size W5 w6) := ((Below.refl W5.heap.size W5).alloc (Nat.le_refl _) _).drew.grown hg6 (by simp) (by intro k hk; simp [Value.ownBlock] at hk; omega); have HX6 := Lib.hid (HBX5.out.keep HB6.out); have l6 : gx < w6.heap.size := HX6.out.lt; have h6 := HB6.out.size)
          | (refine step_append_rd _ (by rfl) (.tmp 30) (.tmp 32) _ (by rfl) W5.heap.size 35 _ 2 16 Try.underlying22 infoL rfl (by decide) (.slice (some ⟨W5.heap.size, 0, none⟩) 0 0) 0 [] (by rfl) (own_empty ((Bl.new W5 _ _).alloc _).drew (Nat.le_refl _)) A3 n3 c3 (flat enc2 ls3) (by rfl) (((HS1.out.alloc _).alloc _).drew) HN1.out HM1.out.1 HM1.out.2 (by simp; omega) ?_; intro v6 w6 ho6 hg6; rw [Nat.zero_add, List.nil_append] at ho6; obtain ⟨A6, d6, rfl⟩ := own_slice ho6; have HFL := Lib.hid ho6; have HB6 : Hid (RowKit.Below W5.heap.size W5 w6) := (((Below.refl W5.heap.size W5).alloc (Nat.le_refl _) _).alloc (by simp) _).drew.grown hg6 (by simp; omega) (by intro k hk; simp [Value.ownBlock] at hk; omega); have HX6 := Lib.hid (HBX5.out.keep HB6.out); have l6 : gx < w6.heap.size := HX6.out.lt; have h6 := HB6.out.size; have HObC := Lib.hid ((Bl.new1 W5 _ _ _).drew.thru hg6 (by simp [Value.ownBlock])))
          | (refine step_append_rd _ (by rfl) (.tmp 30) (.tmp 32) _ (by rfl) W5.heap.size 35 _ 2 16 Try.underlying22 infoL rfl (by decide) (.slice (some ⟨W5.heap.size + 1, 0, none⟩) 0 0) 0 [] (by rfl) (own_empty (Bl.new1 W5 _ _ _).drew (Nat.le_succ _)) A3 n3 c3 (flat enc2 ls3) (by rfl) (((HS1.out.alloc _).alloc _).drew) HN1.out HM1.out.1 HM1.out.2 (by simp; omega) ?_; intro v6 w6 ho6 hg6; rw [Nat.zero_add, List.nil_append] at ho6; obtain ⟨A6, d6, rfl⟩ := own_slice ho6; have HFL := Lib.hid ho6; have HB6 : Hid (RowKit.Below W5.heap.size W5 w6) := (((Below.refl W5.heap.size W5).alloc (Nat.le_refl _) _).alloc (by simp) _).drew.grown hg6 (by simp; omega) (by intro k hk; simp [Value.ownBlock] at hk; omega); have HX6 := Lib.hid (HBX5.out.keep HB6.out); have l6 : gx < w6.heap.size := HX6.out.lt; have h6 := HB6.out.size; have HObC := Lib.hid (((Bl.new W5 _ _).alloc _).drew.thru hg6 (by simp [Value.ownBlock])))
          | (refine step_append_rd _ (by rfl) (.tmp 34) (.tmp 36) _ (by rfl) W5.heap.size 33 _ 5 48 Try.underlying23 infoC rfl (by decide) (.slice (some ⟨W5.heap.size, 0, none⟩) 0 0) 0 [] (by rfl) (own_empty (Bl.new W5 _ _).drew (Nat.le_refl _)) B3 m3 d3 (flat encC cs3) (by rfl) ((HS2.out.alloc _).drew) HN2.out HM2.out.1 HM2.out.2 (by simp) ?_; intro v6 w6 ho6 hg6; rw [Nat.zero_add, List.nil_append] at ho6; obtain ⟨A6, d6, rfl⟩ := own_slice ho6; have HFC := Lib.hid ho6; have HB6 : Hid (RowKit.Below W5.heap.size W5 w6) := ((Below.refl W5.heap.size W5).alloc (Nat.le_refl _) _).drew.grown hg6 (by simp) (by intro k hk; simp [Value.ownBlock] at hk; omega); have HX6 := Lib.hid (HBX5.out.keep HB6.out); have l6 : gx < w6.heap.size := HX6.out.lt; have h6 := HB6.out.size)
          | (refine step_append_rd _ (by rfl) (.tmp 34) (.tmp 36) _ (by rfl) W5.heap.size 33 _ 5 48 Try.underlying23 infoC rfl (by decide) (.slice (some ⟨W5.heap.size, 0, none⟩) 0 0) 0 [] (by rfl) (own_empty ((Bl.new W5 _ _).alloc _).drew (Nat.le_refl _)) B3 m3 d3 (flat encC cs3) (by rfl) (((HS2.out.alloc _).alloc _).drew) HN2.out HM2.out.1 HM2.out.2 (by simp; omega) ?_; intro v6 w6 ho6 hg6; rw [Nat.zero_add, List.nil_append] at ho6; obtain ⟨A6, d6, rfl⟩ := own_slice ho6; have HFC := Lib.hid ho6; have HB6 : Hid (RowKit.Below W5.heap.size W5 w6) := (((Below.refl W5.heap.size W5).alloc (Nat.le_refl _) _).alloc (by simp) _).drew.grown hg6 (by simp; omega) (by intro k hk; simp [Value.ownBlock] at hk; omega); have HX6 := Lib.hid (HBX5.out.keep HB6.out); have l6 : gx < w6.heap.size := HX6.out.lt; have h6 := HB6.out.size; have HObL := Lib.hid ((Bl.new1 W5 _ _ _).drew.thru hg6 (by simp [Value.ownBlock])))
          | (refine step_append_rd _ (by rfl) (.tmp 34) (.tmp 36) _ (by rfl) W5.heap.size 33 _ 5 48 Try.underlying23 infoC rfl (by decide) (.slice (some ⟨W5.heap.size + 1, 0, none⟩) 0 0) 0 [] (by rfl) (own_empty (Bl.new1 W5 _ _ _).drew (Nat.le_succ _)) B3 m3 d3 (flat encC cs3) (by rfl) (((HS2.out.alloc _).alloc _).drew) HN2.out HM2.out.1 HM2.out.2 (by simp; omega) ?_; intro v6 w6 ho6 hg6; rw [Nat.zero_add, List.nil_append] at ho6; obtain ⟨A6, d6, rfl⟩ := own_slice ho6; have HFC := Lib.hid ho6; have HB6 : Hid (RowKit.Below W5.heap.size W5 w6) := (((Below.refl W5.heap.size W5).alloc (Nat.le_refl _) _).alloc (by simp) _).drew.grown hg6 (by simp; omega) (by intro k hk; simp [Value.ownBlock] at hk; omega); have HX6 := Lib.hid (HBX5.out.keep HB6.out); have l6 : gx < w6.heap.size := HX6.out.lt; have h6 := HB6.out.size; have HObL := Lib.hid (((Bl.new W5 _ _).alloc _).drew.thru hg6 (by simp [Value.ownBlock])))
          | (refine step_append_rd _ (by rfl) (.tmp 34) (.tmp 36) _ (by rfl) W5.heap.size 33 _ 5 48 Try.underlying23 infoC rfl (by decide) (.slice (some ⟨w6.heap.size, 0, none⟩) 0 0) 0 [] (by rfl) (own_empty (Bl.new w6 _ _) h6) B3 m3 d3 (flat encC cs3) (by rfl) ((HS2.out.keep HB6.out).alloc _) HN2.out HM2.out.1 HM2.out.2 (by simp; omega) ?_; intro v7 w7 ho7 hg7; rw [Nat.zero_add, List.nil_append] at ho7; obtain ⟨A7, d7, rfl⟩ := own_slice ho7; have HGC := Lib.hid ho7; have HGL := Lib.hid (own_thru2 (own_alloc HFL.out _) (Bl.new w6 _ _) (by decide) hg7); have HB7 : Hid (RowKit.Below W5.heap.size W5 w7) := (HB6.out.alloc h6 _).grown hg7 (by simp; omega) (by intro k hk; simp [Value.ownBlock] at hk; omega); have HX7 := Lib.hid (HBX5.out.keep HB7.out); have l7 : gx < w7.heap.size := HX7.out.lt)
          | (refine step_append_rd _ (by rfl) (.tmp 34) (.tmp 36) _ (by rfl) W5.heap.size 33 _ 5 48 Try.underlying23 infoC rfl (by decide) (.slice (some ⟨W5.heap.size + 1, 0, none⟩) 0 0) 0 [] (by rfl) (own_empty HObC.out (by omega)) B3 m3 d3 (flat encC cs3) (by rfl) (HS2.out.keep HB6.out) HN2.out HM2.out.1 HM2.out.2 (h6) ?_; intro v7 w7 ho7 hg7; rw [Nat.zero_add, List.nil_append] at ho7; obtain ⟨A7, d7, rfl⟩ := own_slice ho7; have HGC := Lib.hid ho7; have HGL := Lib.hid (own_thru2 HFL.out HObC.out (by decide) hg7); have HB7 : Hid (RowKit.Below W5.heap.size W5 w7) := HB6.out.grown hg7 h6 (by intro k hk; simp [Value.ownBlock] at hk; omega); have HX7 := Lib.hid (HBX5.out.keep HB7.out); have l7 : gx < w7.heap.size := HX7.out.lt)
          | (refine step_append_rd _ (by rfl) (.tmp 34) (.tmp 36) _ (by rfl) W5.heap.size 33 _ 5 48 Try.underlying23 infoC rfl (by decide) (.slice (some ⟨W5.heap.size, 0, none⟩) 0 0) 0 [] (by rfl) (own_empty HObC.out (by omega)) B3 m3 d3 (flat encC cs3) (by rfl) (HS2.out.keep HB6.out) HN2.out HM2.out.1 HM2.out.2 (h6) ?_; intro v7 w7 ho7 hg7; rw [Nat.zero_add, List.nil_append] at ho7; obtain ⟨A7, d7, rfl⟩ := own_slice ho7; have HGC := Lib.hid ho7; have HGL := Lib.hid (own_thru2 HFL.out HObC.out (by decide) hg7); have HB7 : Hid (RowKit.Below W5.heap.size W5 w7) := HB6.out.grown hg7 h6 (by intro k hk; simp [Value.ownBlock] at hk; omega); have HX7 := Lib.hid (HBX5.out.keep HB7.out); have l7 : gx < w7.heap.size := HX7.out.lt)
          | (refine step_append_rd _ (by rfl) (.tmp 30) (.tmp 32) _ (by rfl) W5.heap.size 35 _ 2 16 Try.underlying22 infoL rfl (by decide) (.slice (some ⟨w6.heap.size, 0, none⟩) 0 0) 0 [] (by rfl) (own_empty (Bl.new w6 _ _) h6) A3 n3 c3 (flat enc2 ls3) (by rfl) ((HS1.out.keep HB6.out).alloc _) HN1.out HM1.out.1 HM1.out.2 (by simp; omega) ?_; intro v7 w7 ho7 hg7; rw [Nat.zero_add, List.nil_append] at ho7; obtain ⟨A7, d7, rfl⟩ := own_slice ho7; have HGL := Lib.hid ho7; have HGC := Lib.hid (own_thru2 (own_alloc HFC.out _) (Bl.new w6 _ _) (by decide) hg7); have HB7 : Hid (RowKit.Below W5.heap.size W5 w7) := (HB6.out.alloc h6 _).grown hg7 (by simp; omega) (by intro k hk; simp [Value.ownBlock] at hk; omega); have HX7 := Lib.hid (HBX5.out.keep HB7.out); have l7 : gx < w7.heap.size := HX7.out.lt)
          | (refine step_append_rd _ (by rfl) (.tmp 30) (.tmp 32) _ (by rfl) W5.heap.size 35 _ 2 16 Try.underlying22 infoL rfl (by decide) (.slice (some ⟨W5.heap.size + 1, 0, none⟩) 0 0) 0 [] (by rfl) (own_empty HObL.out (by omega)) A3 n3 c3 (flat enc2 ls3) (by rfl) (HS1.out.keep HB6.out) HN1.out HM1.out.1 HM1.out.2 (h6) ?_; intro v7 w7 ho7 hg7; rw [Nat.zero_add, List.nil_append] at ho7; obtain ⟨A7, d7, rfl⟩ := own_slice ho7; have HGL := Lib.hid ho7; have HGC := Lib.hid (own_thru2 HFC.out HObL.out (by decide) hg7); have HB7 : Hid (RowKit.Below W5.heap.size W5 w7) := HB6.out.grown hg7 h6 (by intro k hk; simp [Value.ownBlock] at hk; omega); have HX7 := Lib.hid (HBX5.out.keep HB7.out); have l7 : gx < w7.heap.size := HX7.out.lt)
          | (refine step_append_rd _ (by rfl) (.tmp 30) (.tmp 32) _ (by rfl) W5.heap.size 35 _ 2 16 Try.underlying22 infoL rfl (by decide) (.slice (some ⟨W5.heap.size, 0, none⟩) 0 0) 0 [] (by rfl) (own_empty HObL.out (by omega)) A3 n3 c3 (flat enc2 ls3) (by rfl) (HS1.out.keep HB6.out) HN1.out HM1.out.1 HM1.out.2 (h6) ?_; intro v7 w7 ho7 hg7; rw [Nat.zero_add, List.nil_append] at ho7; obtain ⟨A7, d7, rfl⟩ := own_slice ho7; have HGL := Lib.hid ho7; have HGC := Lib.hid (own_thru2 HFC.out HObL.out (by decide) hg7); have HB7 : Hid (RowKit.Below W5.heap.size W5 w7) := HB6.out.grown hg7 h6 (by intro k hk; simp [Value.ownBlock] at hk; omega); have HX7 := Lib.hid (HBX5.out.keep HB7.out); have l7 : gx < w7.heap.size := HX7.out.lt)
          | fail)
      all_goals (go_wp2_with fail; go_meet; exact ⟨_, _, _, _, rfl, rfl, HGL.out, HGC.out, HB7.out⟩)
    case rest =>
      obtain ⟨La, lc, Ca, ca, rfl, rfl, hol, hoc, hb6⟩ := hcut
      obtain ⟨W6, rfl⟩ : ∃ W, W = wc := ⟨_, rfl⟩
      have hn0 : 0 < n3 := by have := (invErr_zero HIE.out).1; rw [HLN.out] at this; exact this
      have hnz : (n3 : Int) ≠ 0 := by omega
      obtain ⟨kk, hk⟩ : ∃ p : Nat, at_ % (n3 : Int) = (p : Int) := ⟨(at_ % (n3 : Int)).toNat, by have := Int.emod_nonneg at_ hnz; omega⟩
      have hkn : kk < n3 := by have := Int.emod_lt_of_pos at_ (show (0 : Int) < n3 by omega); omega
      have HWk := fun w => within_any at_ (n3 : Int) w (by omega) (by omega)
      rw [hk] at HWk
      have HWk := Lib.hid HWk
      have HOL := Lib.hid hol
      have HOC := Lib.hid hoc
      clear hk hnz hol hoc p2 p3 HN1 HN2 HM1 HM2 HS1 HS2 l5
      go_wp2_with fail
      refine (HWk.out _).mono ?_
      rintro e w7 ⟨rfl, rfl⟩
      clear HWk
      go_upto_if 44 with (fail)
      go_cut [13, 15] (fun cc j wx => ∃ (Ca : Option Addr) (ca mm : Nat) (cs : List Chg) (jj : Nat), cc = .slice Ca mm ca ∧ j = .int .i64 jj ∧ jj < mm ∧ mm ≤ 5 ∧ cs.length = mm ∧ wx.ownsRow W5.heap.size 33 5 (.slice Ca mm ca) mm (flat encC cs) ∧ wx.ownsRow W5.heap.size 35 2 (.slice La n3 lc) n3 (flat enc2 ls3) ∧ RowKit.Below W5.heap.size W5 wx)
      case first =>
        by_cases hm0 : 0 < m3
        · have hm0i : (0 : Int) < (m3 : Int) := by omega
          have hnz : (m3 : Int) ≠ 0 := by omega
          obtain ⟨jj, hk⟩ : ∃ p : Nat, at_ % (m3 : Int) = (p : Int) := ⟨(at_ % (m3 : Int)).toNat, by have := Int.emod_nonneg at_ hnz; omega⟩
          have hjm : jj < m3 := by have := Int.emod_lt_of_pos at_ hm0i; omega
          have HWk := fun w => within_any at_ (m3 : Int) w (by omega) (by omega)
          rw [hk] at HWk
          have HWk := Lib.hid HWk
          clear hk hnz
          go_wp2_with fail
          refine (HWk.out _).mono ?_
          rintro e w7 ⟨rfl, rfl⟩
          go_wp2_with fail
          go_meet
          exact ⟨Ca, ca, m3, cs3, jj, rfl, rfl, hjm, hm3, HCM.out, HOC.out, HOL.out, hb6⟩
        · obtain rfl : m3 = 0 := by omega
          go_wp2_with fail
          go_meet
          exact ⟨some ⟨W6.heap.size, 0, none⟩, 1, 1, [⟨1, 0, ⟨#[]⟩, 1, 0⟩], 0, rfl, rfl, by omega, by omega, rfl, own_one W6 hb6.size _, own_alloc HOL.out _, hb6.alloc hb6.size _⟩
      case rest =>
        clear HOC HOL hb6 HCM hm3
        obtain ⟨Cb, cb, mm, csb, jj, rfl, rfl, hjm, hmm, hcl, hoc, hol, hb7⟩ := hcut
        obtain ⟨W7, rfl⟩ : ∃ W, W = wc := ⟨_, rfl⟩
        have hs0 := Int.emod_nonneg which (show (9 : Int) ≠ 0 by omega)
        have hs1 := Int.emod_lt_of_pos which (show (0 : Int) < 9 by omega)
        have HW9 := Lib.hid (fun w => within_any which 9 w (by omega) (by omega))
        have HW12 := Lib.hid (fun w => within_any nn 12 w (by omega) (by omega))
        have HW6 := Lib.hid (fun w => within_any nn 6 w (by omega) (by omega))
        have HWn := Lib.hid (fun w => within_any nn 9 w (by omega) (by omega))
        have h120 := Int.emod_nonneg nn (show (12 : Int) ≠ 0 by omega)
        have h121 := Int.emod_lt_of_pos nn (show (0 : Int) < 12 by omega)
        have h60 := Int.emod_nonneg nn (show (6 : Int) ≠ 0 by omega)
        have h61 := Int.emod_lt_of_pos nn (show (0 : Int) < 6 by omega)
        have h90 := Int.emod_nonneg nn (show (9 : Int) ≠ 0 by omega)
        have h91 := Int.emod_lt_of_pos nn (show (0 : Int) < 9 by omega)
        generalize which % 9 = sw at *
        generalize nn % 12 = n12 at *
        generalize nn % 6 = n6 at *
        generalize nn % 9 = n9 at *
        obtain ⟨gC, arrC, rfl, hgC, HBC, HR5⟩ := own_row5 hoc hcl (by omega)
        obtain ⟨gL, arrL, rfl, hgL, HBL, HR2⟩ := own_row2 hol HLN.out hn0
        have hbx := HBX5.out.keep hb7
        have hB7 := hB5.trans (hb7.mono hB5.size)
        have hg5 := HBX5.out.lt
        have HOL := Lib.hid hol
        have HOC := Lib.hid hoc
        clear hol hoc
        go_wp2_with fail
        refine (HW9.out _).mono ?_
        rintro e w8 ⟨rfl, rfl⟩
        clear HW9
        go_upto_block 0 with (fail)
        have hki : (kk : Int) < (n3 : Int) := by omega
        have hji : (jj : Int) < (mm : Int) := by omega
        obtain ⟨lp, hlp⟩ : ∃ x, ls3[kk]! = x := ⟨_, rfl⟩
        obtain ⟨cp, hcp⟩ : ∃ x, csb[jj]! = x := ⟨_, rfl⟩
        have HLP := Lib.hid hlp
        have HCP := Lib.hid hcp
        have HRL := Lib.hid HR2
        have HRC := Lib.hid HR5
        clear hlp hcp HR2 HR5
        go_cut [12, 13] (fun l cc wx => Sw w gx cu3 (.slice A3 n3 c3) (.slice B3 m3 d3) l cc wx)
        case first =>
          by_cases g0 : sw = 0
          · have b0 : (sw == 0) = true := by simpa using g0
            clear g0
            have d1 : W7.cell? ⟨gx, 1, none⟩ = some (.int .i64 day3) := hbx.cell 1
            have fd1 : W7.frozen? ⟨gx, 1, none⟩ = false := hbx.free 1
            have HXX : Hid (Bl (W7.setCell ⟨gx, 1, none⟩ (.int .i64 nn)) gx 25 #[.string cu3, .int .i64 nn, .slice A3 n3 c3, .slice B3 m3 d3]) := by
              have := hbx.put 1 (.int .i64 nn)
              show Bl _ _ _ _
              simpa using this
            go_wp2_with fail
            go_meet
            exact ⟨_, n3, lc, ls3, _, mm, cb, csb, nn, rfl, rfl, Recs.of_own enc2_len (own_far HOL.out hbx (by decide) _ _) HLN.out, by omega, Recs.of_own encC_len (own_far HOC.out hbx (by decide) _ _) hcl, by omega, own_off HOL.out hg5, own_off HOC.out hg5, HXX.out, hB7.setCell (p := ⟨gx, 1, none⟩) hgw _⟩
          have b0 : (sw == 0) = false := by simpa using g0
          clear g0
          by_cases g1 : sw = 1
          · have b1 : (sw == 1) = true := by simpa using g1
            clear g1
            have d1 : W7.cell? ⟨gL, kk * 2, none⟩ = some (.int .i64 lp.1) := (HBL.cell _).trans ((HRL.out kk hkn 0 (by omega)).trans (by show some _ = some _; rw [← HLP.out]; rfl))
            have fd1 : W7.frozen? ⟨gL, kk * 2, none⟩ = false := HBL.free _
            go_wp2_with fail
            go_meet
            exact sw_line0 (ls := ls3) HBL HRL.out HOC.out hcl (by omega) (by omega) hbx hg5 hgL hB7 hgw kk hkn nn
          have b1 : (sw == 1) = false := by simpa using g1
          clear g1
          by_cases g2 : sw = 2
          · have b2 : (sw == 2) = true := by simpa using g2
            clear g2
            have d1 : W7.cell? ⟨gL, kk * 2 + 1, none⟩ = some (.int .i64 lp.2) := (HBL.cell _).trans ((HRL.out kk hkn 1 (by omega)).trans (by show some _ = some _; rw [← HLP.out]; rfl))
            have fd1 : W7.frozen? ⟨gL, kk * 2 + 1, none⟩ = false := HBL.free _
            go_wp2_with fail
            go_meet
            exact sw_line1 (ls := ls3) HBL HRL.out HOC.out hcl (by omega) (by omega) hbx hg5 hgL hB7 hgw kk hkn nn
          have b2 : (sw == 2) = false := by simpa using g2
          clear g2
          by_cases g3 : sw = 3
          · have b3 : (sw == 3) = true := by simpa using g3
            clear g3
            have d1 : W7.cell? ⟨gC, jj * 5, none⟩ = some (.int .i64 cp.kind) := (HBC.cell _).trans ((HRC.out jj hjm 0 (by omega)).trans (by show some _ = some _; rw [← HCP.out]; rfl))
            have fd1 : W7.frozen? ⟨gC, jj * 5, none⟩ = false := HBC.free _
            go_wp2_with fail
            refine (HW12.out _).mono ?_
            rintro e w8 ⟨rfl, rfl⟩
            go_wp2_with fail
            go_meet
            exact sw_charge0 (cs := csb) HBC HRC.out HOL.out HLN.out (by omega) (by omega) hbx hg5 hgC hB7 hgw jj hjm (n12 - 1)
          have b3 : (sw == 3) = false := by simpa using g3
          clear g3
          by_cases g4 : sw = 4
          · have b4 : (sw == 4) = true := by simpa using g4
            clear g4
            have d1 : W7.cell? ⟨gC, jj * 5 + 3, none⟩ = some (.int .i64 cp.basis) := (HBC.cell _).trans ((HRC.out jj hjm 3 (by omega)).trans (by show some _ = some _; rw [← HCP.out]; rfl))
            have fd1 : W7.frozen? ⟨gC, jj * 5 + 3, none⟩ = false := HBC.free _
            go_wp2_with fail
            refine (HW6.out _).mono ?_
            rintro e w8 ⟨rfl, rfl⟩
            go_wp2_with fail
            go_meet
            exact sw_charge3 (cs := csb) HBC HRC.out HOL.out HLN.out (by omega) (by omega) hbx hg5 hgC hB7 hgw jj hjm (n6 - 1)
          have b4 : (sw == 4) = false := by simpa using g4
          clear g4
          by_cases g5 : sw = 5
          · have b5 : (sw == 5) = true := by simpa using g5
            clear g5
            have d1 : W7.cell? ⟨gC, jj * 5 + 1, none⟩ = some (.int .i64 cp.amt) := (HBC.cell _).trans ((HRC.out jj hjm 1 (by omega)).trans (by show some _ = some _; rw [← HCP.out]; rfl))
            have fd1 : W7.frozen? ⟨gC, jj * 5 + 1, none⟩ = false := HBC.free _
            go_wp2_with fail
            go_meet
            exact sw_charge1 (cs := csb) HBC HRC.out HOL.out HLN.out (by omega) (by omega) hbx hg5 hgC hB7 hgw jj hjm nn
          have b5 : (sw == 5) = false := by simpa using g5
          clear g5
          by_cases g6 : sw = 6
          · have b6 : (sw == 6) = true := by simpa using g6
            clear g6
            have d1 : W7.cell? ⟨gC, jj * 5 + 4, none⟩ = some (.int .i64 cp.line) := (HBC.cell _).trans ((HRC.out jj hjm 4 (by omega)).trans (by show some _ = some _; rw [← HCP.out]; rfl))
            have fd1 : W7.frozen? ⟨gC, jj * 5 + 4, none⟩ = false := HBC.free _
            go_wp2_with fail
            refine (HWn.out _).mono ?_
            rintro e w8 ⟨rfl, rfl⟩
            go_wp2_with fail
            go_meet
            exact sw_charge4 (cs := csb) HBC HRC.out HOL.out HLN.out (by omega) (by omega) hbx hg5 hgC hB7 hgw jj hjm (n9 - 1)
          have b6 : (sw == 6) = false := by simpa using g6
          clear g6
          by_cases g7 : sw = 7
          · have b7 : (sw == 7) = true := by simpa using g7
            clear g7
            go_wp2_with fail
            go_meet
            exact ⟨none, 0, 0, [], _, mm, cb, csb, day3, rfl, rfl, Recs.nil, by omega, Recs.of_own encC_len HOC.out hcl, by omega, (fun h => absurd h (by omega)), own_off HOC.out hg5, hbx, hB7⟩
          have b7 : (sw == 7) = false := by simpa using g7
          clear g7
          have HBXX := Lib.hid hbx
          clear HBL HBC HRL HRC HLP HCP hbx HW12 HW6 HWn
          have hb57 := hB5.size
          go_wp2_with fail
          go_loopw [13] (fun v wx => ∃ (Cx : Option Addr) (cx mx : Nat) (csx : List Chg), v = .slice Cx mx cx ∧ jj < mx ∧ mx ≤ 51 ∧ Hid (csx.length = mx) ∧ wx.ownsRow W5.heap.size 33 5 (.slice Cx mx cx) mx (flat encC csx) ∧ wx.ownsRow W5.heap.size 35 2 (.slice (some ⟨gL, 0, none⟩) n3 lc) n3 (flat enc2 ls3) ∧ Bl wx gx 25 #[.string cu3, .int .i64 day3, .slice A3 n3 c3, .slice B3 m3 d3] ∧ W5.heap.size ≤ wx.heap.size ∧ RowKit.Below w.heap.size w wx) (fun v _ => 51 - slLen v)
          case atStart => exact ⟨_, cb, mm, csb, rfl, hjm, by omega, hcl, HOC.out, HOL.out, HBXX.out, hb7.size, hB7⟩
          case round =>
            clear HOC HOL HBXX hb7 hB7 hcl
            obtain ⟨Cx, cx, mx, csx, rfl, hjx, hmx, HLX, hox, holx, hbxx, hsx, hBx⟩ := hrel
            by_cases hlt : mx < 51
            · obtain ⟨gX, arrX, rfl, hgX, HBX, HRX⟩ := own_row5 hox HLX.out (by omega)
              have hjxi : (jj : Int) < mx := by omega
              have hmi : (mx : Int) < 51 := by omega
              obtain ⟨xp, hxp⟩ : ∃ x, csx[jj]! = x := ⟨_, rfl⟩
              have kp : ∀ c, c < 5 → wr.cell? ⟨gX, jj * 5 + c, none⟩ = some ((encC xp)[c]!) := fun c hc => (HBX.cell _).trans (by rw [HRX jj hjx c hc, ← hxp])
              have a0 : wr.cell? ⟨gX, jj * 5, none⟩ = some (.int .i64 xp.kind) := kp 0 (by omega)
              have a1 : wr.cell? ⟨gX, jj * 5 + 1, none⟩ = some (.int .i64 xp.amt) := kp 1 (by omega)
              have a2 : wr.cell? ⟨gX, jj * 5 + 2, none⟩ = some (.string xp.cur) := kp 2 (by omega)
              have a3 : wr.cell? ⟨gX, jj * 5 + 3, none⟩ = some (.int .i64 xp.basis) := kp 3 (by omega)
              have a4 : wr.cell? ⟨gX, jj * 5 + 4, none⟩ = some (.int .i64 xp.line) := kp 4 (by omega)
              have HOE := Lib.hid (own_alloc hox (.cells #[.int .i64 xp.kind, .int .i64 xp.amt, .string xp.cur, .int .i64 xp.basis, .int .i64 xp.line] 33))
              have HOL := Lib.hid (own_alloc holx (.cells #[.int .i64 xp.kind, .int .i64 xp.amt, .string xp.cur, .int .i64 xp.basis, .int .i64 xp.line] 33))
              have HBE := Lib.hid (HBX.alloc (.cells #[.int .i64 xp.kind, .int .i64 xp.amt, .string xp.cur, .int .i64 xp.basis, .int .i64 xp.line] 33))
              have HBI := Lib.hid (hbxx.alloc (.cells #[.int .i64 xp.kind, .int .i64 xp.amt, .string xp.cur, .int .i64 xp.basis, .int .i64 xp.line] 33))
              have HRD : Hid (Rd (wr.alloc (.cells #[.int .i64 xp.kind, .int .i64 xp.amt, .string xp.cur, .int .i64 xp.basis, .int .i64 xp.line] 33)) 5 (some ⟨wr.heap.size, 0, none⟩) 1 (encC xp)) := rd_new wr 33 (encC xp)
              have HON : Hid (∀ u ∈ encC xp, u.oneCell' = true) := encC_one xp
              have HM1 : Hid (mx + 1 ≤ maxLen ∧ (mx + 1) * 48 ≤ 140737488355328) := ⟨by unfold maxLen; omega, by omega⟩
              have HSZ : Hid (W5.heap.size ≤ (wr.alloc (.cells #[.int .i64 xp.kind, .int .i64 xp.amt, .string xp.cur, .int .i64 xp.basis, .int .i64 xp.line] 33)).heap.size) := by show _ ≤ _; simp; omega
              have HBA : Hid (RowKit.Below w.heap.size w (wr.alloc (.cells #[.int .i64 xp.kind, .int .i64 xp.amt, .string xp.cur, .int .i64 xp.basis, .int .i64 xp.line] 33))) := hBx.alloc hBx.size _
              clear hxp kp HBX HRX hox holx hbxx
              go_wp2_with (at_builtin; refine wpList_append_rd _ rfl (.tmp 56) (.tmp 61) 23 rfl W5.heap.size 33 _ 5 48 Try.underlying23 infoC rfl (by decide) (.slice (some ⟨gX, 0, none⟩) mx cx) mx (flat encC csx) rfl HOE.out (some ⟨wr.heap.size, 0, none⟩) 1 _ (encC xp) rfl HRD.out HON.out HM1.out.1 HM1.out.2 HSZ.out ?_; intro v6 w6 ho6 hg6 _; obtain ⟨B6, d6, rfl⟩ := own_slice ho6)
              have HL6 := Lib.hid (own_thru2 HOL.out HBE.out (by decide) hg6)
              have HB6 := Lib.hid (HBI.out.thru hg6 (by intro e; simp [Value.ownBlock] at e; omega))
              have HS6 : Hid (W5.heap.size ≤ w6.heap.size) := Nat.le_trans HSZ.out hg6.size
              have HW6 : Hid (RowKit.Below w.heap.size w w6) := HBA.out.grown hg6 HBA.out.size (by intro g hg; simp [Value.ownBlock] at hg; omega)
              have HO6 : Hid (w6.ownsRow W5.heap.size 33 5 (.slice B6 (mx + 1) d6) (mx + 1) (flat encC (csx ++ [xp]))) := by
                show World.ownsRow _ _ _ _ _ _ _
                rw [flat_append, flat_one]
                exact ho6
              clear ho6 hg6
              go_roundw
              case rel => exact ⟨B6, d6, mx + 1, csx ++ [xp], rfl, by omega, by omega, by show _ = _; rw [List.length_append, HLX.out]; rfl, HO6.out, HL6.out, HB6.out, HS6.out, HW6.out⟩
              case measure => simp [slLen]; omega
            · obtain rfl : mx = 51 := by omega
              obtain ⟨gX, arrX, rfl, hgX, HBX, HRX⟩ := own_row5 hox HLX.out (by omega)
              have hcap := own_cap hox (by omega)
              have hc1 : (51 : Int) ≤ cx := by omega
              have hc2 : (50 : Int) ≤ cx := by omega
              have hc3 : (cx : Int) ≤ 9223372036854775807 := by omega
              have HRC := Lib.hid (Recs.of_own encC_len hox HLX.out)
              have HOF := Lib.hid (own_off hox hg5)
              have HOFL := Lib.hid (own_off holx hg5)
              have HRL := Lib.hid (Recs.of_own enc2_len holx HLN.out)
              have HBI := Lib.hid hbxx
              clear hox holx hbxx HBX HRX
              rcases and_one_any nn with hkb | hkb
              · go_wp2_with fail
                go_meet
                exact ⟨_, n3, lc, ls3, _, 50, cx, csx.take 50, day3, rfl, rfl, HRL.out, by omega, HRC.out.take (by omega), by omega, HOFL.out, fun _ b off e => HOF.out (by omega) b off e, HBI.out, hBx⟩
              · go_wp2_with fail
                go_meet
                exact ⟨_, n3, lc, ls3, _, 51, cx, csx.take 51, day3, rfl, rfl, HRL.out, by omega, HRC.out.take (by omega), by omega, HOFL.out, fun _ b off e => HOF.out (by omega) b off e, HBI.out, hBx⟩
        case rest =>
          obtain ⟨La, nl, lc2, lsF, Ca, mc, ca2, csF, dd, rfl, rfl, r1, hn9, r2, hm9, o1, o2, hbx9, hB9⟩ := hcut
          obtain ⟨W8, rfl⟩ : ∃ W, W = wc := ⟨_, rfl⟩
          have x2 : W8.cell? ⟨gx, 2, none⟩ = some (.slice A3 n3 c3) := hbx9.cell 2
          have x3 : W8.cell? ⟨gx, 3, none⟩ = some (.slice B3 m3 d3) := hbx9.cell 3
          have y2 : W8.frozen? ⟨gx, 2, none⟩ = false := hbx9.free 2
          have y3 : W8.frozen? ⟨gx, 3, none⟩ = false := hbx9.free 3
          have HXX : Hid (Bl ((W8.setCell ⟨gx, 2, none⟩ (.slice La nl lc2)).setCell ⟨gx, 3, none⟩ (.slice Ca mc ca2)) gx 25 #[.string cu3, .int .i64 dd, .slice La nl lc2, .slice Ca mc ca2]) := by
            have := (hbx9.put 2 (.slice La nl lc2)).put 3 (.slice Ca mc ca2)
            show Bl _ _ _ _
            simpa using this
          have t1 := (r1.far o1 2 (.slice La nl lc2)).far o1 3 (.slice Ca mc ca2)
          have t2 := (r2.far o2 2 (.slice La nl lc2)).far o2 3 (.slice Ca mc ca2)
          have hB10 := (hB9.setCell (p := ⟨gx, 2, none⟩) hgw (.slice La nl lc2)).setCell (p := ⟨gx, 3, none⟩) hgw (.slice Ca mc ca2)
          clear r1 r2 hbx9 hB9 HOL HOC HBC HBL hbx hB7 hb7 HW12 HW6 HWn h120 h121 h60 h61 h90 h91 hs0 hs1 HBX5
          go_upto_region 31 with (fail)
          generalize (W8.setCell ⟨gx, 2, none⟩ (.slice La nl lc2)).setCell ⟨gx, 3, none⟩ (.slice Ca mc ca2) = W9 at *
          have q0 : W9.cell? ⟨gx, 0, none⟩ = some (.string cu3) := HXX.out.cell 0
          have q1 : W9.cell? ⟨gx, 1, none⟩ = some (.int .i64 dd) := HXX.out.cell 1
          have q2 : W9.cell? ⟨gx, 2, none⟩ = some (.slice La nl lc2) := HXX.out.cell 2
          have q3 : W9.cell? ⟨gx, 3, none⟩ = some (.slice Ca mc ca2) := HXX.out.cell 3
          have lx := HXX.out.lt
          obtain ⟨ef, hef⟩ : ∃ er, invErr dd lsF csF = er := ⟨_, rfl⟩
          have HV1 : Hid (∀ wx, RowKit.Below W9.heap.size W9 wx → Calls Try.prog 11 #[.agg #[.string cu3, .int .i64 dd, .slice La nl lc2, .slice Ca mc ca2]] wx (fun e w' => e = .returned (.int .i64 ef) ∧ RowKit.Below W9.heap.size W9 w')) := fun wx hb => by
            have := validate17_any cu3 dd La Ca nl lc2 mc ca2 _ _ wx (t1.below hb) (by omega) (t2.below hb) (by omega)
            rw [hef] at this
            exact this.mono fun e w' ⟨h1, h2⟩ => ⟨h1, hb.trans (h2.mono hb.size)⟩
          have HV2 : Hid (∀ wx, RowKit.Below W9.heap.size W9 wx → Calls Try.prog 12 #[.agg #[.string cu3, .int .i64 dd, .slice La nl lc2, .slice Ca mc ca2]] wx (fun e w' => e = .returned (.int .i64 ef) ∧ RowKit.Below W9.heap.size W9 w')) := fun wx hb => by
            have := rinvoice_any cu3 dd La Ca nl lc2 mc ca2 _ _ wx (t1.below hb) (by omega) (t2.below hb) (by omega)
            rw [hef] at this
            exact this.mono fun e w' ⟨h1, h2⟩ => ⟨h1, hb.trans (h2.mono hb.size)⟩
          have HV3 : Hid (∀ wx, RowKit.Below W9.heap.size W9 wx → Calls Try.prog 14 #[] wx (fun e w' => e = .returned (.bool true) ∧ RowKit.Below W9.heap.size W9 w')) := fun wx hb => (awake17_any wx).mono fun e w' ⟨h1, h2⟩ => ⟨h1, hb.trans (h2.mono hb.size)⟩
          have HB0 : Hid (RowKit.Below W9.heap.size W9 W9.drew) := (Below.refl _ _).drew
          clear hef t1 t2 x2 x3 y2 y3
          go_region_held3 (fun w' => w'.cell? ⟨gx, 0, none⟩ = some (.string cu3) ∧ w'.cell? ⟨gx, 1, none⟩ = some (.int .i64 dd) ∧ w'.cell? ⟨gx, 2, none⟩ = some (.slice La nl lc2) ∧ w'.cell? ⟨gx, 3, none⟩ = some (.slice Ca mc ca2))
            (first
              | go_keep
              | exact ⟨(HXX.out.keep hb5.out).cell 0, (HXX.out.keep hb5.out).cell 1, (HXX.out.keep hb5.out).cell 2, (HXX.out.keep hb5.out).cell 3⟩)
            (first
              | (go_at_call 11; with_reducible (refine (HV1.out _ ?_).mono ?_); with_reducible (first | exact HB0.out | exact hb5.out); rintro e w5 ⟨rfl, hb5'⟩; have hb5 := Lib.hid hb5'; clear hb5')
              | (go_at_call 12; with_reducible (refine (HV2.out _ ?_).mono ?_); with_reducible (first | exact HB0.out | exact hb5.out); rintro e w5 ⟨rfl, hb5'⟩; have hb5 := Lib.hid hb5'; clear hb5')
              | (go_at_call 14; with_reducible (refine (HV3.out _ ?_).mono ?_); with_reducible (first | exact HB0.out | exact hb5.out); rintro e w5 ⟨rfl, hb5'⟩; have hb5 := Lib.hid hb5'; clear hb5'))
          all_goals
            (go_wp2
             go_ret
             exact ⟨rfl, hB10.trans (hb5.out.mono hB10.size)⟩)
end Go.Proofs.Ytknbbamlpadfdaa

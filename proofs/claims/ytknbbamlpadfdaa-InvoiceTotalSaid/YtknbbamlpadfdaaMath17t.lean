/-
  The plain mathematics of the law InvoiceTotal. No statement of the seat is proved here. No conditions beyond those typed.
-/
import Derived.Test.YtknbbamlpadfdaaMath17b
import Derived.Test.YtknbbamlpadfdaaTot17
namespace Go.Proofs.Ytknbbamlpadfdaa
set_option linter.unusedVariables false

/-- Two lists of charges that differ at most in basis and line. -/
def Sim (cs cs' : List Chg) : Prop := cs'.length = cs.length ∧ ∀ i, i < cs.length → cs'[i]!.kind = cs[i]!.kind ∧ cs'[i]!.amt = cs[i]!.amt ∧ cs'[i]!.cur = cs[i]!.cur
theorem Sim.refl (cs : List Chg) : Sim cs cs := ⟨rfl, fun _ _ => ⟨rfl, rfl, rfl⟩⟩
theorem Sim.set {cs cs' : List Chg} {m : Nat} (h : Sim cs cs') (hm : cs.length = m) (i : Nat) (x : Chg) (hi : i < m) (h1 : x.kind = cs'[i]!.kind) (h2 : x.amt = cs'[i]!.amt) (h3 : x.cur = cs'[i]!.cur) (f : Nat → Chg) (hf : ∀ j, j < m → f j = if j = i then x else cs'[j]!) : Sim cs ((List.range m).map f) := by
  refine ⟨by simp [hm], fun j hj => ?_⟩
  have e : ((List.range m).map f)[j]! = f j := by
    rw [getElem!_pos _ j (by simpa [← hm] using hj)]
    rw [List.getElem_map, List.getElem_range]
  rw [e, hf j (by omega)]
  by_cases x : j = i
  · subst x
    rw [if_pos rfl, h1, h2, h3]
    exact h.2 j hj
  · rw [if_neg x]
    exact h.2 j hj
theorem Sim.curs {cs cs' : List Chg} (h : Sim cs cs') (hc : ∀ x ∈ cs, x.cur.size = 3) : ∀ x ∈ cs', x.cur.size = 3 := fun x hx => by
  obtain ⟨i, hi, rfl⟩ := List.getElem_of_mem hx
  have := (h.2 i (by rw [← h.1]; exact hi)).2.2
  rw [getElem!_pos cs' i hi, getElem!_pos cs i (by rw [← h.1]; exact hi)] at this
  rw [this]
  exact hc _ (List.getElem_mem _)
/-- What the law's flag says behind k charges. -/
def okT (t : List Exch) (cur : List UInt8) (day : Int) (ls : List (Int × Int)) (cs : List Chg) : Nat → Bool
  | 0 => convErr t (pricesOf ls).sum cur day == 0
  | k + 1 => okT t cur day ls cs k && (convErr t cs[k]!.amt cs[k]!.cur.toList day == 0 || cs[k]!.kind == 9)
def wantT (t : List Exch) (cur : List UInt8) (day : Int) (ls : List (Int × Int)) (cs : List Chg) (k : Nat) : Int := convOut t (pricesOf ls).sum cur day + sumN k (fun i => signed t day cs[i]!)
theorem wantT_succ {t : List Exch} {cur : List UInt8} {day : Int} {ls : List (Int × Int)} {cs : List Chg} (k : Nat) : wantT t cur day ls cs (k + 1) = wantT t cur day ls cs k + signed t day cs[k]! := by
  unfold wantT; rw [sumN_succ]; omega
theorem signed_bounds {t : List Exch} {day : Int} {c : Chg} (h : 0 ≤ c.amt) : -1000000000000 ≤ signed t day c ∧ signed t day c ≤ 1000000000000 := by
  have := convOut_bounds (xs := t) (amt := c.amt) (c := c.cur.toList) (day := day) h
  unfold signed
  split
  · omega
  · split <;> omega
theorem wantT_bounds {t : List Exch} {cur : List UInt8} {day : Int} {ls : List (Int × Int)} {cs : List Chg} (h : linesOk ls) (hc : chgsOk ls.length cs) (k : Nat) (hk : k ≤ cs.length) : -((k : Int) * 1000000000000) ≤ wantT t cur day ls cs k ∧ wantT t cur day ls cs k ≤ ((k : Int) + 1) * 1000000000000 := by
  induction k with
  | zero =>
    have := convOut_bounds (xs := t) (amt := (pricesOf ls).sum) (c := cur) (day := day) (prices_sum_nonneg h)
    unfold wantT
    rw [sumN_zero]
    omega
  | succ k ih =>
    have h1 := ih (by omega)
    have h2 := signed_bounds (t := t) (day := day) (c := cs[k]!) (by have := hc k (by omega); unfold chgOk at this; omega)
    rw [wantT_succ]
    omega
theorem okT_true {t : List Exch} {cur : List UInt8} {day : Int} {ls : List (Int × Int)} {cs : List Chg} (h0 : convErr t (pricesOf ls).sum cur day = 0) : ∀ k, (∀ i, i < k → chgErr t day cs i = 0) → okT t cur day ls cs k = true := by
  intro k
  induction k with
  | zero => intro _; rw [okT, h0]; rfl
  | succ k ih =>
    intro h
    rw [okT, ih fun i hi => h i (by omega)]
    have := h k (by omega)
    unfold chgErr at this
    split at this
    · rename_i e; rw [e]; simp
    · rw [this]; simp
/-- The law: where Total is defined, the flag stands and the total is what the law has added up. -/
theorem tot_law {t : List Exch} {cur : List UInt8} {day : Int} {ls : List (Int × Int)} {cs cs' : List Chg} (h : Sim cs cs') (hz : totErr t cur day ls cs' = 0) : okT t cur day ls cs cs.length = true ∧ totOut t cur day ls cs' = wantT t cur day ls cs cs.length := by
  have hv : valErr t cur day ls cs' = 0 := by
    unfold totErr at hz
    split at hz
    · omega
    · omega
  obtain ⟨h1, h2, h3, h4, h5⟩ := valErr_zero hv
  obtain ⟨i1, i2, i3, i4, i5, i6, i7⟩ := invErr_zero h1
  have hc : ∀ i, i < cs.length → chgErr t day cs i = 0 := fun i hi => by
    have a := h4 i (by rw [h.1]; exact hi)
    obtain ⟨e1, e2, e3⟩ := h.2 i hi
    unfold chgErr at a ⊢
    rw [e1, e2, e3] at a
    exact a
  refine ⟨okT_true h3 _ hc, ?_⟩
  unfold totOut
  rw [if_pos hz, valOut_sum hv, vals_sum i6 i1 i7 _ (Nat.le_refl _), h.1]
  unfold wantT
  rw [sumN_congr (g := fun i => signed t day cs[i]!) fun i hi => by
    obtain ⟨e1, e2, e3⟩ := h.2 i hi
    unfold signed
    rw [e1, e2, e3]]
end Go.Proofs.Ytknbbamlpadfdaa

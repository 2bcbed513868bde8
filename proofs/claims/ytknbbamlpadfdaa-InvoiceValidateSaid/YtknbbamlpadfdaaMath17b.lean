/-
  The plain mathematics of the laws InvoiceBuying and InvoiceOrder. No statement of the seat is proved here. No conditions beyond those typed.
-/
import Derived.Test.YtknbbamlpadfdaaMath17
namespace Go.Proofs.Ytknbbamlpadfdaa
set_option linter.unusedVariables false

section
variable {t : List Exch} {cur : List UInt8} {day : Int} {ls : List (Int × Int)} {cs cs' : List Chg}
theorem get_app_left (cs : List Chg) (xs : List Chg) (i : Nat) (hi : i < cs.length) : (cs ++ xs)[i]! = cs[i]! := by
  rw [getElem!_pos _ i (by simp; omega), getElem!_pos cs i hi, List.getElem_append_left hi]
theorem get_app_right (cs : List Chg) (xs : List Chg) (i : Nat) (hi : i < xs.length) : (cs ++ xs)[cs.length + i]! = xs[i]! := by
  rw [getElem!_pos _ _ (by simp; omega), getElem!_pos xs i hi, List.getElem_append_right (by omega)]
  congr 1
  omega

/-- Two lists of charges give the same result if they do wherever the sum of the prices can be converted. -/
theorem val_same' (hi : invErr day ls cs = invErr day ls cs') (h : convErr t (pricesOf ls).sum cur day = 0 → firstErr (chgErr t day cs) cs.length = firstErr (chgErr t day cs') cs'.length ∧ ∀ j, j < ls.length → valTo t cur day ls cs cs.length j = valTo t cur day ls cs' cs'.length j) :
    valErr t cur day ls cs = valErr t cur day ls cs' ∧ valOut t cur day ls cs = valOut t cur day ls cs' := by
  by_cases hc : convErr t (pricesOf ls).sum cur day = 0
  · exact val_same hi (h hc).1 (h hc).2
  · have e : valErr t cur day ls cs = valErr t cur day ls cs' := by
      unfold valErr
      rw [hi, if_pos hc, if_pos hc]
    refine ⟨e, ?_⟩
    have hn : valErr t cur day ls cs ≠ 0 := fun x => hc (valErr_zero x).2.2.1
    unfold valOut
    rw [if_neg hn, if_neg (by rw [← e]; exact hn)]

theorem inv_app (h : invErr day ls cs = 0) (xs : List Chg) (hx : ∀ i, i < xs.length → chgOk ls.length xs[i]!) (hl : cs.length + xs.length ≤ 50) : invErr day ls (cs ++ xs) = 0 := by
  obtain ⟨h1, h2, h3, h4, h5, h6, h7⟩ := invErr_zero h
  refine invErr_ok h1 h2 (by simp; omega) h4 h5 h6 (fun i hi => ?_)
  by_cases e : i < cs.length
  · rw [get_app_left _ _ _ e]; exact h7 i e
  · obtain ⟨k, rfl⟩ : ∃ k, i = cs.length + k := ⟨i - cs.length, by omega⟩
    rw [get_app_right _ _ _ (by simp at hi; omega)]
    exact hx k (by simp at hi; omega)

/-- Charges behind the others that are in order and add nothing change nothing. -/
theorem val_app (h : invErr day ls cs = 0) (xs : List Chg) (hx : ∀ i, i < xs.length → chgOk ls.length xs[i]!) (hl : cs.length + xs.length ≤ 50)
    (he : convErr t (pricesOf ls).sum cur day = 0 → (∀ i, i < xs.length → chgErr t day xs i = 0) ∧ ∀ j, j < ls.length → sumN xs.length (fun i => contrib t day ls j xs[i]!) = 0) :
    valErr t cur day ls (cs ++ xs) = valErr t cur day ls cs ∧ valOut t cur day ls (cs ++ xs) = valOut t cur day ls cs := by
  refine val_same' (by rw [inv_app h xs hx hl, h]) (fun hc => ⟨?_, fun j hj => ?_⟩)
  · rw [List.length_append, firstErr_app]
    · exact firstErr_congr fun i hi => by unfold chgErr; rw [get_app_left _ _ _ hi]
    · intro i h1 h2
      obtain ⟨k, rfl⟩ : ∃ k, i = cs.length + k := ⟨i - cs.length, by omega⟩
      have := (he hc).1 k (by omega)
      unfold chgErr at this ⊢
      rw [get_app_right _ _ _ (by omega)]
      exact this
  · have hs : ∀ m, m ≤ xs.length → sumN (cs.length + m) (fun i => contrib t day ls j (cs ++ xs)[i]!) = sumN cs.length (fun i => contrib t day ls j cs[i]!) + sumN m (fun i => contrib t day ls j xs[i]!) := by
      intro m
      induction m with
      | zero => intro _; rw [sumN_zero, Nat.add_zero]; rw [sumN_congr (fun i hi => by rw [get_app_left _ _ _ hi])]; omega
      | succ m ih => intro hm; rw [← Nat.add_assoc, sumN_succ, ih (by omega), sumN_succ, get_app_right _ _ _ (by omega)]; omega
    unfold valTo
    rw [List.length_append, hs _ (Nat.le_refl _), (he hc).2 j hj]
    omega

/-- A charge of the kind ChargeBuying changes nothing. -/
theorem val_buying (h : invErr day ls cs = 0) (a : Int) (cc : ByteArray) (h0 : 0 ≤ a) (h1 : a < 1000000) (hl : cs.length ≤ 40) :
    valErr t cur day ls (cs ++ [⟨9, a, cc, 1, 0⟩]) = valErr t cur day ls cs ∧ valOut t cur day ls (cs ++ [⟨9, a, cc, 1, 0⟩]) = valOut t cur day ls cs := by
  refine val_app h [⟨9, a, cc, 1, 0⟩] (fun i hi => ?_) (by simp; omega) (fun _ => ⟨fun i hi => ?_, fun j hj => ?_⟩)
  · have : i = 0 := by simpa using hi
    subst this
    unfold chgOk
    simp
    omega
  · have : i = 0 := by simpa using hi
    subst this
    unfold chgErr
    simp
  · rw [List.length_singleton, sumN_succ, sumN_zero]
    unfold contrib
    simp

/-- A charge and its deduction cancel each other. -/
theorem val_cancel (h : invErr day ls cs = 0) (a : Int) (cc : ByteArray) (hcc : cc.toList = eur) (h0 : 0 ≤ a) (h1 : a < 1000000) (hl : cs.length ≤ 40) :
    valErr t cur day ls (cs ++ [⟨1, a, cc, 2, 0⟩, ⟨6, a, cc, 2, 0⟩]) = valErr t cur day ls cs ∧ valOut t cur day ls (cs ++ [⟨1, a, cc, 2, 0⟩, ⟨6, a, cc, 2, 0⟩]) = valOut t cur day ls cs := by
  refine val_app h [⟨1, a, cc, 2, 0⟩, ⟨6, a, cc, 2, 0⟩] (fun i hi => ?_) (by simp; omega) (fun hc => ⟨fun i hi => ?_, fun j hj => ?_⟩)
  · have : i = 0 ∨ i = 1 := by simp at hi; omega
    rcases this with rfl | rfl <;> (unfold chgOk; simp; omega)
  · have hv := conv_eur (t := t) (day := day) (a := a) h0 (by omega) (at_eur (conv_at hc))
    have : i = 0 ∨ i = 1 := by simp at hi; omega
    rcases this with rfl | rfl <;> (unfold chgErr; simp; rw [hcc]; exact hv.1)
  · show sumN 2 _ = 0
    rw [sumN_succ, sumN_succ, sumN_zero]
    unfold contrib partV
    simp
    omega

/-- Two charges exchanged. -/
theorem val_swap (hv : valErr t cur day ls cs = 0) (p q : Nat) (hp : p < cs.length) (hq : q < cs.length) (hl : cs'.length = cs.length) (hg : ∀ i, i < cs.length → cs'[i]! = if i = p then cs[q]! else if i = q then cs[p]! else cs[i]!) :
    valErr t cur day ls cs' = 0 ∧ valOut t cur day ls cs = valOut t cur day ls cs' := by
  obtain ⟨h1, h2, h3, h4, h5⟩ := valErr_zero hv
  obtain ⟨i1, i2, i3, i4, i5, i6, i7⟩ := invErr_zero h1
  have e1 : invErr day ls cs' = 0 := invErr_ok i1 i2 (by omega) i4 i5 i6 (fun i hi => by
    rw [hg i (by omega)]
    split
    · exact i7 q hq
    · split
      · exact i7 p hp
      · exact i7 i (by omega))
  have e2 : ∀ i, i < cs'.length → chgErr t day cs' i = 0 := fun i hi => by
    unfold chgErr
    rw [hg i (by omega)]
    have hA := h4 p hp
    have hB := h4 q hq
    have hC := h4 i (by omega)
    unfold chgErr at hA hB hC
    split
    · exact hB
    · split
      · exact hA
      · exact hC
  have hs := val_same (t := t) (cur := cur) (day := day) (ls := ls) (cs := cs) (cs' := cs') (by rw [h1, e1]) (by rw [firstErr_zero h4, firstErr_zero e2]) (fun j hj => by
    unfold valTo
    rw [hl]
    have := sumN_swap cs.length (fun i => contrib t day ls j cs[i]!) p q hp hq
    rw [← this]
    have e : sumN cs.length (fun i => contrib t day ls j cs'[i]!) = sumN cs.length (fun i => if i = p then contrib t day ls j cs[q]! else if i = q then contrib t day ls j cs[p]! else contrib t day ls j cs[i]!) := sumN_congr fun i hi => by
      rw [hg i hi]
      split
      · rfl
      · split <;> rfl
    rw [e])
  exact ⟨by rw [← hs.1]; exact hv, hs.2⟩
end
end Go.Proofs.Ytknbbamlpadfdaa

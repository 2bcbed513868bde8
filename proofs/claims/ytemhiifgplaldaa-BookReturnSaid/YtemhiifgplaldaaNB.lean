/-
  The settlement depends on what is asked for alone; returning a quantity. No statement of the seat is proved here.
  A withdrawn request changes no other grant. No statement of the seat is proved here.
-/
import Derived.Test.YtemhiifgplaldaaMV
import Derived.Test.YtemhiifgplaldaaMN
namespace Go.Proofs.Ytemhiifgplaldaa
set_option linter.unusedVariables false

/-- The facts about an ID. -/
def ofId (fs : List Fct) (id : Int) : List Fct := fs.filter fun f => f.id == id
theorem ask_ofId (fs : List Fct) (id : Int) : askOf fs id = (ofId fs id).find? fun f => f.kind == 1 := by
  unfold askOf ofId
  rw [List.find?_filter]
  congr 1
  funext f
  cases f.kind == 1 <;> cases f.id == id <;> rfl
theorem ret_ofId (fs : List Fct) (id : Int) : retOf fs id = (((ofId fs id).filter fun f => f.kind == 2).map (·.qty)).sum := by
  unfold retOf ofId
  rw [List.filter_filter]
theorem wd_ofId (fs : List Fct) (id : Int) : wdOf fs id = (ofId fs id).any fun f => f.kind == 3 := by
  unfold wdOf ofId
  rw [List.any_filter]
  congr 1
  funext f
  cases f.kind == 3 <;> cases f.id == id <;> rfl
theorem rq_ofId {fs fs' : List Fct} {id : Int} (h : ofId fs id = ofId fs' id) : rqOf fs id = rqOf fs' id ∧ askOf fs id = askOf fs' id := by
  have h1 : askOf fs id = askOf fs' id := by rw [ask_ofId, ask_ofId, h]
  refine ⟨?_, h1⟩
  unfold rqOf effOf
  rw [h1, ret_ofId, ret_ofId, wd_ofId, wd_ofId, h]
/-- Parts of facts in order with the same members are one. -/
theorem filter_ext {fs fs' : List Fct} (h : numAsc fs) (h' : numAsc fs') (p : Fct → Bool) (hm : ∀ x, p x = true → (x ∈ fs ↔ x ∈ fs')) : fs.filter p = fs'.filter p := by
  refine numAsc_ext (numAsc_pair.2 ((numAsc_pair.1 h).filter p)) (numAsc_pair.2 ((numAsc_pair.1 h').filter p)) fun x => ?_
  rw [List.mem_filter, List.mem_filter]
  constructor
  · rintro ⟨a, b⟩; exact ⟨(hm x b).1 a, b⟩
  · rintro ⟨a, b⟩; exact ⟨(hm x b).2 a, b⟩
theorem ReqList.congr {fs fs' : List Fct} {rs : List Rq} (hq : ∀ id, rqOf fs id = rqOf fs' id) (hs : ∀ id, (askOf fs id).isSome = (askOf fs' id).isSome) (h : ReqList fs rs) : ReqList fs' rs :=
  ⟨h.nodup, fun id => by rw [← hs id]; exact h.mem id, fun r hr => by rw [← hq]; exact h.val r hr, h.srt⟩
theorem Settled.congr {fs fs' : List Fct} {vol : Int} {gs : List Rq} {bal : Int} (hq : ∀ id, rqOf fs id = rqOf fs' id) (hs : ∀ id, (askOf fs id).isSome = (askOf fs' id).isSome) (ht : trOf fs = trOf fs') (h : Settled fs vol gs bal) : Settled fs' vol gs bal := by
  obtain ⟨rs, F, h1, h2, h3, h4, h5⟩ := h
  exact ⟨rs, F, h1.congr hq hs, by rw [← ht]; exact h2, h3, h4, by rw [← ht]; exact h5⟩
/-- A return is the same as having asked for less. -/
theorem return_same {l fa fb : List Fct} {D ask back vol : Int} {ga gb : List Rq} {ba bb : Int} (hl : ∀ x ∈ l, x.id ≤ 8) (h0 : 0 ≤ back) (h1 : back ≤ ask)
    (pa : fa.Perm ((⟨101, 2, 0, 50, back⟩ : Fct) :: (l ++ [⟨100, 1, D, 50, ask⟩]))) (aa : numAsc fa) (pb : fb.Perm (l ++ [(⟨100, 1, D, 50, ask - back⟩ : Fct)])) (ab : numAsc fb) (sa : Settled fa vol ga ba) (sb : Settled fb vol gb bb) : ga = gb ∧ ba = bb := by
  have ma : ∀ x, x ∈ fa ↔ (x = ⟨101, 2, 0, 50, back⟩ ∨ x ∈ l ∨ x = ⟨100, 1, D, 50, ask⟩) := fun x => by rw [pa.mem_iff]; simp
  have mb : ∀ x, x ∈ fb ↔ (x ∈ l ∨ x = ⟨100, 1, D, 50, ask - back⟩) := fun x => by rw [pb.mem_iff]; simp
  have hid : ∀ id, id ≠ 50 → ofId fa id = ofId fb id := fun id hne => by
    refine filter_ext aa ab _ fun x hx => ?_
    have hx' : x.id = id := by simpa using hx
    rw [ma, mb]
    constructor
    · rintro (rfl | h | rfl)
      · exact absurd hx'.symm hne
      · exact .inl h
      · exact absurd hx'.symm hne
    · rintro (h | rfl)
      · exact .inr (.inl h)
      · exact absurd hx'.symm hne
  have ea : ofId fa 50 = [⟨100, 1, D, 50, ask⟩, ⟨101, 2, 0, 50, back⟩] := by
    refine numAsc_ext (numAsc_pair.2 ((numAsc_pair.1 aa).filter _)) (numAsc_pair.2 (by simp)) fun x => ?_
    unfold ofId
    rw [List.mem_filter, ma]
    constructor
    · rintro ⟨rfl | h | rfl, e⟩
      · simp
      · have := hl x h; have e' : x.id = 50 := by simpa using e
        omega
      · simp
    · intro h
      simp at h
      rcases h with rfl | rfl <;> simp
  have eb : ofId fb 50 = [⟨100, 1, D, 50, ask - back⟩] := by
    refine numAsc_ext (numAsc_pair.2 ((numAsc_pair.1 ab).filter _)) (numAsc_pair.2 (by simp)) fun x => ?_
    unfold ofId
    rw [List.mem_filter, mb]
    constructor
    · rintro ⟨h | rfl, e⟩
      · have := hl x h; have e' : x.id = 50 := by simpa using e
        omega
      · simp
    · intro h
      simp at h
      subst h; simp
  have a50 : askOf fa 50 = some ⟨100, 1, D, 50, ask⟩ := by rw [ask_ofId, ea]; rfl
  have b50 : askOf fb 50 = some ⟨100, 1, D, 50, ask - back⟩ := by rw [ask_ofId, eb]; rfl
  have hq50 : rqOf fa 50 = rqOf fb 50 := by
    unfold rqOf
    rw [a50, b50]
    have w1 : wdOf fa 50 = false := by rw [wd_ofId, ea]; rfl
    have w2 : wdOf fb 50 = false := by rw [wd_ofId, eb]; rfl
    have r1 : retOf fa 50 = back := by rw [ret_ofId, ea]; simp
    have r2 : retOf fb 50 = 0 := by rw [ret_ofId, eb]; simp
    unfold effOf
    simp only [w1, w2, r1, r2]
    simp
  have hq : ∀ id, rqOf fa id = rqOf fb id := fun id => by
    by_cases e : id = 50
    · subst e; exact hq50
    · exact (rq_ofId (hid id e)).1
  have hs : ∀ id, (askOf fa id).isSome = (askOf fb id).isSome := fun id => by
    by_cases e : id = 50
    · subst e; rw [a50, b50]; rfl
    · rw [(rq_ofId (hid id e)).2]
  have ht : trOf fa = trOf fb := by
    refine filter_ext aa ab _ fun x hx => ?_
    have hx' : x.kind = 4 := by simpa using hx
    rw [ma, mb]
    constructor
    · rintro (rfl | h | rfl)
      · simp at hx'
      · exact .inl h
      · simp at hx'
    · rintro (h | rfl)
      · exact .inr (.inl h)
      · simp at hx'
  exact (sa.congr hq hs ht).unique sb
end Go.Proofs.Ytemhiifgplaldaa

namespace Go.Proofs.Ytemhiifgplaldaa
set_option linter.unusedVariables false

theorem runD_ids {fs : List Fct} {vol : Int} {gs : List Rq} {bal : Int} (h : Settled fs vol gs bal) {id : Int} (hn : askOf fs id = none) : ∀ g ∈ gs, g.id ≠ id := fun g hg e => by
  obtain ⟨f, h1, _⟩ := h.asked hg
  rw [e, hn] at h1
  cases h1
theorem withdrawn_same {l fa fb : List Fct} {id0 vol : Int} {ga gb : List Rq} {ba bb : Int} (hok : ∀ x ∈ l, FOk x) (hi1 : ∀ x ∈ l, x.kind = 1 → 1 ≤ x.id) (h4 : ∀ x ∈ l, x.kind = 4 → x.id = 0) (hid0 : 1 ≤ id0) (hid1 : id0 ≤ 1000000) (hv : 0 ≤ vol)
    (pa : fa.Perm (l ++ [(⟨100, 3, 7, id0, 0⟩ : Fct)])) (aa : numAsc fa) (pb : fb.Perm (l.filter fun x => x.kind == 4 || x.id != id0)) (ab : numAsc fb) (sa : Settled fa vol ga ba) (sb : Settled fb vol gb bb) :
    (∀ g ∈ ga, g.id = id0 → g.grant = 0) ∧ (∀ g ∈ ga, g.id ≠ id0 → ∃ g' ∈ gb, g'.id = g.id ∧ g'.grant = g.grant) ∧ ga.length = gb.length + (ga.filter fun g => g.id == id0).length ∧ ba = bb := by
  have ma : ∀ x, x ∈ fa ↔ (x ∈ l ∨ x = ⟨100, 3, 7, id0, 0⟩) := fun x => by rw [pa.mem_iff]; simp
  have mb : ∀ x, x ∈ fb ↔ (x ∈ l ∧ (x.kind = 4 ∨ x.id ≠ id0)) := fun x => by rw [pb.mem_iff, List.mem_filter]; simp
  have hid : ∀ id, id ≠ id0 → ofId fa id = ofId fb id := fun id hne => by
    refine filter_ext aa ab _ fun x hx => ?_
    have hx' : x.id = id := by simpa using hx
    rw [ma, mb]
    constructor
    · rintro (h | rfl)
      · exact ⟨h, .inr (by rw [hx']; exact hne)⟩
      · exact absurd hx'.symm hne
    · rintro ⟨h, _⟩
      exact .inl h
  have b0 : askOf fb id0 = none := by
    unfold askOf
    rw [List.find?_eq_none]
    intro x hx hp
    have hp' : x.kind = 1 ∧ x.id = id0 := by simpa using hp
    rcases ((mb x).1 hx).2 with h | h
    · omega
    · exact h hp'.2
  have w0 : wdOf fa id0 = true := by
    unfold wdOf
    rw [List.any_eq_true]
    exact ⟨_, (ma _).2 (.inr rfl), by simp⟩
  have ht : trOf fa = trOf fb := by
    refine filter_ext aa ab _ fun x hx => ?_
    have hx' : x.kind = 4 := by simpa using hx
    rw [ma, mb]
    constructor
    · rintro (h | rfl)
      · exact ⟨h, .inl hx'⟩
      · simp at hx'
    · rintro ⟨h, _⟩
      exact .inl h
  have hnb := runD_ids sb b0
  cases ha : askOf fa id0 with
  | none =>
    have hq : ∀ id, rqOf fa id = rqOf fb id := fun id => by
      by_cases e : id = id0
      · subst e; unfold rqOf; rw [ha, b0]
      · exact (rq_ofId (hid id e)).1
    have hs : ∀ id, (askOf fa id).isSome = (askOf fb id).isSome := fun id => by
      by_cases e : id = id0
      · subst e; rw [ha, b0]
      · rw [(rq_ofId (hid id e)).2]
    obtain ⟨rfl, rfl⟩ := (sa.congr hq hs ht).unique sb
    refine ⟨fun g hg e => absurd e (hnb g hg), fun g hg _ => ⟨g, hg, rfl, rfl⟩, ?_, rfl⟩
    rw [List.filter_eq_nil_iff.2 (fun g hg => by simpa using hnb g hg)]
    rfl
  | some f0 =>
    obtain ⟨rs, h1, h2, h3, h5⟩ := settled_list.1 sa
    obtain ⟨z, hz, hzid⟩ := (h1.mem id0).2 (by rw [ha]; rfl)
    have hzr : z.req = 0 := by
      have := congrArg Rq.req (h1.val z hz)
      rw [this, hzid]
      unfold rqOf
      rw [ha]
      show effOf fa id0 f0.qty = 0
      unfold effOf
      rw [w0]; rfl
    obtain ⟨xs, ys, rfl⟩ := List.append_of_mem hz
    have hnd := h1.nodup
    rw [List.map_append, List.map_cons, List.nodup_append, List.nodup_cons] at hnd
    have hne : ∀ r ∈ xs ++ ys, r.id ≠ id0 := fun r hr e => by
      rcases List.mem_append.1 hr with h | h
      · exact hnd.2.2 r.id (List.mem_map.2 ⟨r, h, rfl⟩) z.id (by simp) (by rw [e, hzid])
      · exact hnd.2.1.1 (List.mem_map.2 ⟨r, h, by rw [e, hzid]⟩)
    have hpw := pairwise_of_get (lt := fun a b : Rq => a.day < b.day ∨ (a.day = b.day ∧ a.id < b.id)) h1.srt
    have hb1 : ReqList fb (xs ++ ys) := by
      have hsub : (xs ++ ys).Sublist (xs ++ z :: ys) := List.Sublist.append (List.Sublist.refl _) (List.sublist_cons_self _ _)
      refine ⟨?_, fun id => ?_, fun r hr => ?_, fun i j hij hj => ?_⟩
      · exact (hsub.map _).nodup h1.nodup
      · by_cases e : id = id0
        · subst e
          constructor
          · rintro ⟨r, hr, e2⟩; exact absurd e2 (hne r hr)
          · intro h; rw [b0] at h; cases h
        · rw [← (rq_ofId (hid id e)).2, ← h1.mem id]
          constructor
          · rintro ⟨r, hr, e2⟩; exact ⟨r, hsub.subset hr, e2⟩
          · rintro ⟨r, hr, e2⟩
            rcases List.mem_append.1 hr with h | h
            · exact ⟨r, by simp [h], e2⟩
            · rcases List.mem_cons.1 h with rfl | h
              · exact absurd (e2.symm.trans hzid) e
              · exact ⟨r, by simp [h], e2⟩
      · rw [← (rq_ofId (hid r.id (hne r hr))).1]
        exact h1.val r (hsub.subset hr)
      · have := List.pairwise_iff_getElem.1 (hpw.sublist hsub) i j (by omega) hj hij
        rwa [getElem!_pos _ i (by omega), getElem!_pos _ j hj]
    obtain ⟨rs2, k1, k2, k3, k5⟩ := settled_list.1 sb
    obtain rfl := k1.unique hb1
    have hfa : ∀ x ∈ fa, FOk x ∧ (x.kind = 1 → 1 ≤ x.id) := fun x hx => by
      rcases (ma x).1 hx with h | rfl
      · exact ⟨hok x h, hi1 x h⟩
      · exact ⟨by unfold FOk; simp; omega, fun h => by simp at h⟩
    have hq : ∀ y ∈ trOf fa, 0 ≤ y.qty := fun y hy => by
      have := (hfa y (List.mem_filter.1 hy).1).1
      unfold FOk at this; omega
    have hup : DaysUp (xs ++ z :: ys) := hpw.imp fun {a b} hab => by omega
    have hrq : ∀ x ∈ xs ++ z :: ys, 0 ≤ x.req := fun x hx => by
      obtain ⟨k, hk, rfl⟩ := List.getElem_of_mem hx
      have := rq_ok h1 (fun x hx => (hfa x hx).1) (fun x hx => (hfa x hx).2) k hk
      rw [getElem!_pos _ k hk] at this
      exact this.2.2.1
    obtain ⟨xs', ys', z', r1, r2, r3, r4, r5⟩ := runD_ins (trSum (trOf fa)) (trSum_mono hq) (xs ++ z :: ys).length xs ys z vol (Nat.le_refl _) hup hzr (fun x hx => hrq x (by simp at hx ⊢; rcases hx with h | h <;> simp [h])) (fun x _ => by have := trSum_nonneg hq x.day; omega)
    rw [r1] at h2
    have hfu := runD_fuel (trSum (trOf fa)) (xs ++ z :: ys).length (xs ++ ys).length (xs ++ ys) vol (by simp) (Nat.le_refl _)
    rw [← ht, ← hfu, r2] at k2
    have hz' : z'.id = id0 := r3.trans hzid
    refine ⟨fun g hg e => ?_, fun g hg e => ?_, ?_, ?_⟩
    · rcases List.mem_append.1 (h2.mem_iff.1 hg) with h | h
      · exact absurd e (hnb g (k2.mem_iff.2 (by simp [h])))
      · rcases List.mem_cons.1 h with rfl | h
        · exact r4
        · exact absurd e (hnb g (k2.mem_iff.2 (by simp [h])))
    · rcases List.mem_append.1 (h2.mem_iff.1 hg) with h | h
      · exact ⟨g, k2.mem_iff.2 (by simp [h]), rfl, rfl⟩
      · rcases List.mem_cons.1 h with rfl | h
        · exact absurd hz' e
        · exact ⟨g, k2.mem_iff.2 (by simp [h]), rfl, rfl⟩
    · have e1 : (ga.filter fun g => g.id == id0).Perm [z'] := by
        refine (h2.filter _).trans ?_
        rw [List.filter_append, List.filter_cons_of_pos (by simp [hz']), List.filter_eq_nil_iff.2 (fun g hg => by simpa using hnb g (k2.mem_iff.2 (by simp [hg]))), List.filter_eq_nil_iff.2 (fun g hg => by simpa using hnb g (k2.mem_iff.2 (by simp [hg])))]
        exact .refl _
      rw [e1.length_eq, h2.length_eq, k2.length_eq]
      simp
      omega
    · rw [h5, k5, ← ht, ← hfu, r5]
end Go.Proofs.Ytemhiifgplaldaa

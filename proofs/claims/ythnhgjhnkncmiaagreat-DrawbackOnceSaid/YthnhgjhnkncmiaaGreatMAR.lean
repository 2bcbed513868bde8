/-
  A region that draws its order and calls functions that change one block that was there before; every operation keeps a relation between its worlds: one invariant for all orders. No statement of the seat is proved here.
  Contract of an estate's Act (customsmade): a sound estate stays sound. No statement of the seat is proved here. Conditions: the estate's box and the Source's lie in memory of the call that makes the estate.
  Words for the drawn regions of an estate's Act that are walked by rows. No statement of the seat is proved here. No conditions.
  An estate's Act, case by case (group a). No statement of the seat is proved here. Conditions: as for Act.
-/
import Derived.Test.YthnhgjhnkncmiaaGreatMAF
import Derived.Test.YthnhgjhnkncmiaaGreatMAQ
import Derived.Deep.RegionHeld3
import Derived.Deep.CutBlock
namespace Go.Proofs.YthnhgjhnkncmiaaGreat
open Go.RowKit
set_option linter.unusedVariables false

/-- A relation that new memory keeps. -/
structure KtOk (kt : World → World → Prop) : Prop where
  refl : ∀ w, kt w w
  below : ∀ w w', RowKit.Below w.heap.size w w' → kt w w'
section
variable (kt : World → World → Prop) (gK : Nat) (zz : Option Obj → Prop) (P : Program) (ops : Array Oper) (Q : Exit → Act → World → Prop) (js : List Job) (a0 : Act) (w0 : World)
variable (fact : Nat → List Value → Value → Prop) (res : Nat → List Value → Value → List Nat → World → Prop)

/-- What the operation must leave. -/
structure LeavesT (i : Nat) (j : Job) (w : World) (vs : Nat → Value) (fp : Nat → List Nat) (v : Value) (f : List Nat) (w' : World) : Prop where
  below : RelK gK zz w0 w'
  kt : kt w w'
  size : w.heap.size ≤ w'.heap.size
  block : ∀ g, g ≠ gK → g < w.heap.size → (∀ k ∈ j.eats, g ∉ fp k) → w'.heap[g]? = w.heap[g]?
  val : fact i (j.deps.map vs) v
  mem : res i (j.deps.map vs) v f w'
  own : ∀ g ∈ f, g < w'.heap.size ∧ ((∃ k ∈ j.eats, g ∈ fp k) ∨ w.heap.size ≤ g)

/-- One operation is shown. -/
def StepJT (i : Nat) : Prop :=
  ∀ j o, js[i]? = some j → ops[i]? = some o → ∀ (a : Act) (w : World) (vs : Nat → Value) (fp : Nat → List Nat) (K : Act → World → Prop),
    FindsK gK zz js a0 w0 fact res i j a w vs fp →
    (∀ v w' f, LeavesT kt gK zz w0 fact res i j w vs fp v f w' → K (a.put o.dst v) w') → Oper.wp P o a w K Q

end
theorem wp_region_sepT {kt : World → World → Prop} {gK : Nat} {zz : Option Obj → Prop} {P : Program} {ops : Array Oper} {Q : Exit → Act → World → Prop} {a0 : Act} {w0 : World} {id : Nat} (js : List Job) (fact : Nat → List Value → Value → Prop) (res : Nat → List Value → Value → List Nat → World → Prop)
    (hst : RelK gK zz w0 w0.drew) (hm : P.follows .mixedOrders = true) (hfit : fitsJ ops js = true) (hsz : ∀ q ∈ js, ∀ d, q.dst = some d → d < a0.tmps.size)
    (hloc : ∀ i l v f w w', RelK gK zz w0 w → RelK gK zz w0 w' → w.heap.size ≤ w'.heap.size → kt w w' → (∀ g ∈ f, w0.heap.size ≤ g ∧ g < w.heap.size ∧ w'.heap[g]? = w.heap[g]?) → res i l v f w → res i l v f w')
    (hstep : ∀ i, i < js.length → StepJT kt gK zz P ops Q js a0 w0 fact res i)
    (hfin : ∀ w vs fp, InvJK gK zz ops js a0 w0 fact res (Array.replicate ops.size true) (putJ (number js 0) (fun _ => true) vs a0) w vs fp → Q .normal (putJ (number js 0) (fun _ => true) vs a0) w) :
    (Code.region id ops true).wp P Q a0 w0 := by
  obtain ⟨hlen, hdst, hjob⟩ := fitsJ_spec hfit
  refine wp_region_any hm ?_
  refine wpAny_of_inv (fun listed a w => ∃ vs fp, InvJK gK zz ops js a0 w0 fact res listed a w vs fp) (fun _ _ _ ⟨_, _, h⟩ => h.size) ?_ ?_ _ _ _ _ ⟨fun _ => undef, fun _ => [], ?_⟩ (by simp)
  · rintro listed a w ⟨vs, fp, h⟩ hr
    have hall : ∀ i, i < ops.size → listed.getD i false = true := by
      intro i
      induction i using Nat.strongRecOn with
      | ind i ih =>
        intro hi
        cases hL : listed.getD i false with
        | true => rfl
        | false =>
          exfalso
          obtain ⟨o, ho, _, _, h4, _⟩ := hjob i (js[i]'(by omega)) (List.getElem?_eq_getElem _)
          have : i ∈ Region.ready .any ops listed := by
            rw [mem_ready]
            refine ⟨?_, o, ho, fun e he hb => ih e.on (h4 e he hb) (by have := h4 e he hb; omega)⟩
            have hs := h.size
            simp [Array.getD, hs, hi] at hL ⊢
            exact hL
          rw [hr] at this
          cases this
    have hlst : listed = Array.replicate ops.size true := by
      apply Array.ext
      · simp [h.size]
      · intro i h1 h2
        have := hall i (by rw [← h.size]; exact h1)
        simp [h1] at this ⊢
        exact this
    subst hlst
    have hfr : a = putJ (number js 0) (fun _ => true) vs a0 := by
      rw [h.frame]
      refine putJ_congr fun p hp => ⟨?_, fun _ => rfl⟩
      have := mem_number hp
      rw [Nat.sub_zero] at this
      have hlt : p.1 < js.length := (List.getElem?_eq_some_iff.1 this.2).1
      simp [hlen, hlt]
    subst hfr
    exact hfin _ _ _ h
  · rintro listed a w i ⟨vs, fp, h⟩ hi
    obtain ⟨hun, o, ho, haft⟩ := mem_ready.1 hi
    have hil : i < ops.size := (Array.getElem?_eq_some_iff.1 ho).1
    have hL : listed.getD i false = false := by
      have hs := h.size
      simp [Array.getD, hs, hil] at hun ⊢
      exact hun
    obtain ⟨j, hj⟩ : ∃ j, js[i]? = some j := ⟨_, List.getElem?_eq_getElem (by omega)⟩
    obtain ⟨o', ho', hd, hg, _, hdep, heat, honly⟩ := hjob i j hj
    rw [ho] at ho'
    injection ho' with ho'
    subst ho'
    have hjm : (i, j) ∈ number js 0 := by have := number_mem (k := 0) hj; rwa [Nat.zero_add] at this
    have hdl : ∀ d ∈ j.deps, listed.getD d false = true := fun d hd => by
      obtain ⟨e, he, hb, rfl⟩ := hdep d hd
      exact haft e he hb
    have heatl : ∀ d ∈ j.eats, ∀ k q, js[k]? = some q → listed.getD k false = true → d ∉ q.eats := fun d hd k q hk hkl => honly k q hk (fun e => by rw [e, hL] at hkl; cases hkl) d hd
    unfold wpOp
    simp only [ho]
    rw [if_pos (by simp [Region.wanted, hg])]
    refine .inl (hstep i (by omega) j o hj ho a w vs fp _ ?_ ?_)
    · refine ⟨h.below, fun t ht => ?_, fun k hk q hq d hd => ?_, fun k hk => h.val k (hdl k hk), fun k hk => (h.mem k (hdl k (heat k hk)) (heatl k hk)).1, fun k hk => (h.mem k (hdl k (heat k hk)) (heatl k hk)).2, fun k hk l hl hne => h.apart k l (hdl k (heat k hk)) (hdl l (heat l hl)) (heatl k hk) (heatl l hl) hne⟩
      · rw [h.frame]
        refine putJ_free' fun p hp hd => ?_
        have := mem_number hp
        rw [Nat.sub_zero] at this
        have hw := ht p.1 p.2 this.2 hd
        cases hp1 : listed.getD p.1 false with
        | false => rfl
        | true => have := waits_listed (L := fun i => listed.getD i false) (fun k j hj hk => h.deps k j hj hk) _ _ _ hw hp1; rw [hL] at this; cases this
      · rw [h.frame]
        have hm2 : (k, q) ∈ number js 0 := by have := number_mem (k := 0) hq; rwa [Nat.zero_add] at this
        exact putJ_at hdst hm2 (hdl k hk) hd (hsz q (List.mem_of_getElem? hq) d hd)
    · intro v w' f hl
      refine ⟨fun k => if k = i then v else vs k, fun k => if k = i then f else fp k, ?_⟩
      have hset := fun k => getD_set_eq listed (by rw [h.size]; exact hil : i < listed.size) k
      have halive : ∀ k, k ≠ i → (listed.setIfInBounds i true).getD k false = true → (∀ l q, js[l]? = some q → (listed.setIfInBounds i true).getD l false = true → k ∉ q.eats) → listed.getD k false = true ∧ (∀ l q, js[l]? = some q → listed.getD l false = true → k ∉ q.eats) ∧ k ∉ j.eats := fun k hk h1 h2 => by
        rw [hset, if_neg hk] at h1
        refine ⟨h1, fun l q hq hql => h2 l q hq (by rw [hset]; split <;> simp [hql]), h2 i j hj (by rw [hset, if_pos rfl])⟩
      -- what nobody takes over is apart from what is taken over
      have hap : ∀ k, listed.getD k false = true → (∀ l q, js[l]? = some q → listed.getD l false = true → k ∉ q.eats) → k ∉ j.eats → ∀ g ∈ fp k, ∀ l ∈ j.eats, g ∉ fp l := fun k h1 h2 h3 g hg l hl =>
        h.apart k l h1 (hdl l (heat l hl)) h2 (heatl l hl) (fun e => h3 (by rw [e]; exact hl)) g hg
      have hdv : ∀ k, k = i ∨ listed.getD k false = true → dv js k (fun k => if k = i then v else vs k) = dv js k vs := fun k hk => dv_congr fun q hq d hd2 => by
        have h1 : listed.getD d false = true := by
          rcases hk with rfl | hk
          · rw [hj] at hq; injection hq with hq; subst hq; exact hdl d hd2
          · exact h.deps k q hq hk d hd2
        have h2 : d ≠ i := fun e => by rw [e, hL] at h1; cases h1
        simp [h2]
      refine ⟨by simp [h.size], ?_, hl.below, fun k q hq hk d hd2 => ?_, fun k hk => ?_, fun k hk hal => ?_, fun k l hk hl2 hak hal hne => ?_⟩
      · rw [h.frame, hd, ← putJ_step hdst hjm hL v]
        refine putJ_congr fun p hp => ⟨?_, fun _ => rfl⟩
        rw [hset]
      · rw [hset]
        split
        · rfl
        · by_cases e : k = i
          · subst e; rw [hj] at hq; injection hq with hq; subst hq; exact hdl d hd2
          · rw [hset, if_neg e] at hk; exact h.deps k q hq hk d hd2
      · by_cases e : k = i
        · subst e
          rw [hdv k (.inl rfl), dv_some hj]
          simpa using hl.val
        · rw [hset, if_neg e] at hk
          rw [hdv k (.inr hk)]
          simp only [e, if_false]
          exact h.val k hk
      · by_cases e : k = i
        · subst e
          rw [hdv k (.inl rfl), dv_some hj]
          simp only [if_true]
          refine ⟨hl.mem, fun g hg => ⟨?_, (hl.own g hg).1⟩⟩
          rcases (hl.own g hg).2 with ⟨m, hm1, hm2⟩ | h3
          · exact ((h.mem m (hdl m (heat m hm1)) (heatl m hm1)).2 g hm2).1
          · exact Nat.le_trans h.below.size h3
        · obtain ⟨h1, h2, h3⟩ := halive k e hk hal
          rw [hdv k (.inr h1)]
          simp only [e, if_false]
          have h4 := h.mem k h1 h2
          refine ⟨hloc k _ _ _ w w' h.below hl.below hl.size hl.kt (fun g hg => ⟨(h4.2 g hg).1, (h4.2 g hg).2, hl.block g (h.below.ne (h4.2 g hg).1) (h4.2 g hg).2 fun l hl2 => hap k h1 h2 h3 g hg l hl2⟩) h4.1, fun g hg => ⟨(h4.2 g hg).1, Nat.lt_of_lt_of_le (h4.2 g hg).2 hl.size⟩⟩
      · -- apart
        have key : ∀ k, k ≠ i → (listed.setIfInBounds i true).getD k false = true → (∀ l q, js[l]? = some q → (listed.setIfInBounds i true).getD l false = true → k ∉ q.eats) → ∀ g ∈ f, g ∉ fp k := fun k hki h1 h2 g hg hgk => by
          obtain ⟨h3, h4, h5⟩ := halive k hki h1 h2
          rcases (hl.own g hg).2 with ⟨m, hm1, hm2⟩ | h6
          · exact hap k h3 h4 h5 g hgk m hm1 hm2
          · have := ((h.mem k h3 h4).2 g hgk).2; omega
        by_cases e1 : k = i
        · subst e1
          have e2 : l ≠ k := fun e => hne e.symm
          simp only [if_true, e2, if_false]
          exact key l e2 hl2 hal
        · by_cases e2 : l = i
          · subst e2
            simp only [if_true, e1, if_false]
            intro g hg hg2
            exact key k e1 hk hak g hg2 hg
          · simp only [e1, e2, if_false]
            obtain ⟨h3, h4, _⟩ := halive k e1 hk hak
            obtain ⟨h5, h6, _⟩ := halive l e2 hl2 hal
            exact h.apart k l h3 h5 h4 h6 hne
  · have hnone : ∀ i, (Array.replicate ops.size false).getD i false = false := fun i => by
      simp [Array.getD]
    refine ⟨by simp, ?_, hst, fun i j hj hi => ?_, fun i hi => ?_, fun i hi => ?_, fun i k hi => ?_⟩
    · symm
      have : ∀ l : List (Nat × Job), putJ l (fun i => (Array.replicate ops.size false).getD i false) (fun _ => undef) a0 = a0 := fun l => by
        induction l with
        | nil => rfl
        | cons p r ih =>
          obtain ⟨k, q⟩ := p
          simp only [putJ]
          rw [if_neg (by rw [hnone]; simp)]
          exact ih
      exact this _
    · rw [hnone] at hi; cases hi
    · rw [hnone] at hi; cases hi
    · rw [hnone] at hi; cases hi
    · rw [hnone] at hi; cases hi

/-- What is said of the memory that an operation holds stays true while nobody else writes it. -/
def LocT (kt : World → World → Prop) (gK : Nat) (zz : Option Obj → Prop) (w0 : World) (R : List Value → Value → List Nat → World → Prop) : Prop :=
  ∀ l v f w w', RelK gK zz w0 w → RelK gK zz w0 w' → w.heap.size ≤ w'.heap.size → kt w w' → (∀ g ∈ f, w0.heap.size ≤ g ∧ g < w.heap.size ∧ w'.heap[g]? = w.heap[g]?) → R l v f w → R l v f w'
def LocsT (kt : World → World → Prop) (gK : Nat) (zz : Option Obj → Prop) (w0 : World) : List Row → Prop
  | [] => True
  | r :: rs => LocT kt gK zz w0 r.res ∧ LocsT kt gK zz w0 rs
theorem LocsT.at_ {kt : World → World → Prop} {gK : Nat} {zz : Option Obj → Prop} {w0 : World} {rows : List Row} (h : LocsT kt gK zz w0 rows) : ∀ r ∈ rows, LocT kt gK zz w0 r.res := by
  induction rows with
  | nil => intro r hr; cases hr
  | cons x xs ih =>
    intro r hr
    rcases List.mem_cons.1 hr with rfl | hr
    · exact h.1
    · exact ih h.2 r hr
def StepsJT (kt : World → World → Prop) (gK : Nat) (zz : Option Obj → Prop) (P : Program) (ops : Array Oper) (Q : Exit → Act → World → Prop) (rows : List Row) (a0 : Act) (w0 : World) : List Row → Nat → Prop
  | [], _ => True
  | r :: rs, k => StepJT kt gK zz P ops Q (rj rows) a0 w0 (rf rows) (rr rows) k ∧ StepsJT kt gK zz P ops Q rows a0 w0 rs (k + 1)
theorem StepsJT.at_ {kt : World → World → Prop} {gK : Nat} {zz : Option Obj → Prop} {P : Program} {ops : Array Oper} {Q : Exit → Act → World → Prop} {rows : List Row} {a0 : Act} {w0 : World} {rs : List Row} {k : Nat} (h : StepsJT kt gK zz P ops Q rows a0 w0 rs k) (i : Nat) (hi : i < rs.length) : StepJT kt gK zz P ops Q (rj rows) a0 w0 (rf rows) (rr rows) (k + i) := by
  induction rs generalizing k i with
  | nil => cases hi
  | cons x xs ih =>
    cases i with
    | zero => exact h.1
    | succ i => have := ih h.2 i (by simpa using hi); rwa [show k + (i + 1) = k + 1 + i by omega]
theorem wp_region_rowsT {kt : World → World → Prop} {gK : Nat} {zz : Option Obj → Prop} {P : Program} {ops : Array Oper} {Q : Exit → Act → World → Prop} {a0 : Act} {w0 : World} {id : Nat} (rows : List Row)
    (hst : RelK gK zz w0 w0.drew) (hm : P.follows .mixedOrders = true) (hfit : fitsJ ops (rj rows) = true) (hsz : slotsOk (rj rows) a0.tmps.size = true)
    (hloc : LocsT kt gK zz w0 rows) (hstep : StepsJT kt gK zz P ops Q rows a0 w0 rows 0)
    (hfin : ∀ w vs fp, InvJK gK zz ops (rj rows) a0 w0 (rf rows) (rr rows) (Array.replicate ops.size true) (putJ (number (rj rows) 0) (fun _ => true) vs a0) w vs fp → Q .normal (putJ (number (rj rows) 0) (fun _ => true) vs a0) w) :
    (Code.region id ops true).wp P Q a0 w0 := by
  refine wp_region_sepT (kt := kt) (rj rows) (rf rows) (rr rows) hst hm hfit (fun q hq d hd => ?_) (fun i l v f w w' h1 h2 h3 h3t h4 h5 => ?_) (fun i hi => ?_) hfin
  · unfold slotsOk at hsz
    rw [List.all_eq_true] at hsz
    have := hsz q hq
    rw [hd] at this
    simpa using this
  · unfold rr at h5 ⊢
    cases hr : rows[i]? with
    | none => trivial
    | some r =>
      simp only [hr] at h5 ⊢
      exact hloc.at_ r (List.mem_of_getElem? hr) l v f w w' h1 h2 h3 h3t h4 h5
  · have := hstep.at_ i (by simpa [rj] using hi)
    rwa [Nat.zero_add] at this

section
variable {kt : World → World → Prop} {gK : Nat} {zz : Option Obj → Prop} {P : Program} {ops : Array Oper} {Q : Exit → Act → World → Prop} {js : List Job} {a0 : Act} {w0 : World} {fact : Nat → List Value → Value → Prop} {res : Nat → List Value → Value → List Nat → World → Prop}

theorem step_ofT {i : Nat} {j : Job} {o : Oper} (hj : js[i]? = some j) (ho : ops[i]? = some o)
    (h : ∀ (a : Act) (w : World) (vs : Nat → Value) (fp : Nat → List Nat) (K : Act → World → Prop), FindsK gK zz js a0 w0 fact res i j a w vs fp →
      (∀ v w' f, LeavesT kt gK zz w0 fact res i j w vs fp v f w' → K (a.put o.dst v) w') → Oper.wp P o a w K Q) : StepJT kt gK zz P ops Q js a0 w0 fact res i := fun j' o' hj' ho' => by
  rw [hj] at hj'; injection hj' with hj'; subst hj'
  rw [ho] at ho'; injection ho' with ho'; subst ho'
  exact h
variable {i : Nat} {j : Job} {a : Act} {w : World} {vs : Nat → Value} {fp : Nat → List Nat}
variable {v : Value} {f : List Nat} {w' : World}
/-- An operation that only yields a value. -/
theorem FindsK.onlyT (h : FindsK gK zz js a0 w0 fact res i j a w vs fp) (ht : KtOk kt) (h1 : fact i (j.deps.map vs) v) (h2 : res i (j.deps.map vs) v [] w) : LeavesT kt gK zz w0 fact res i j w vs fp v [] w :=
  ⟨h.below, ht.refl _, Nat.le_refl _, fun _ _ _ _ => rfl, h1, h2, fun g hg => by cases hg⟩
/-- An operation that only yields a value and hands the memory of another one on. -/
theorem FindsK.handT (h : FindsK gK zz js a0 w0 fact res i j a w vs fp) (k : Nat) (hk' : j.eats.contains k = true) (ht : KtOk kt) (h1 : fact i (j.deps.map vs) v) (h2 : res i (j.deps.map vs) v (fp k) w) : LeavesT kt gK zz w0 fact res i j w vs fp v (fp k) w :=
  have hk : k ∈ j.eats := by simpa using hk'
  ⟨h.below, ht.refl _, Nat.le_refl _, fun _ _ _ _ => rfl, h1, h2, fun g hg => ⟨(h.own k hk g hg).2, .inl ⟨k, hk, hg⟩⟩⟩
/-- An operation that makes a block. -/
theorem FindsK.madeT (h : FindsK gK zz js a0 w0 fact res i j a w vs fp) (o : Obj) (ht : KtOk kt) (h1 : fact i (j.deps.map vs) v) (h2 : res i (j.deps.map vs) v [w.heap.size] (w.alloc o)) : LeavesT kt gK zz w0 fact res i j w vs fp v [w.heap.size] (w.alloc o) :=
  ⟨h.below.alloc o, ht.below _ _ ((Below.refl _ _).alloc (Nat.le_refl _) o), by simp, fun g _ hg _ => Below.heap_alloc w o g hg, h1, h2, fun g hg => by
    rw [List.mem_singleton] at hg; subst hg; exact ⟨by simp, .inr (Nat.le_refl _)⟩⟩
/-- An operation that leaves all blocks as they are but those that it takes over. -/
theorem FindsK.underT (h : FindsK gK zz js a0 w0 fact res i j a w vs fp) (hb : RowKit.Below w.heap.size w w') (ht : KtOk kt) (h1 : fact i (j.deps.map vs) v) (h2 : res i (j.deps.map vs) v f w') (h3 : ∀ g ∈ f, w.heap.size ≤ g ∧ g < w'.heap.size) : LeavesT kt gK zz w0 fact res i j w vs fp v f w' :=
  ⟨h.below.under hb, ht.below _ _ hb, hb.size, fun g _ hg _ => hb.block g hg, h1, h2, fun g hg => ⟨(h3 g hg).2, .inr (h3 g hg).1⟩⟩
end
/-- A call that changes the block gK alone. -/
theorem FindsK.callT {kt : World → World → Prop} {gK : Nat} {zz : Option Obj → Prop} {js : List Job} {a0 : Act} {w0 : World} {fact : Nat → List Value → Value → Prop} {res : Nat → List Value → Value → List Nat → World → Prop} {i : Nat} {j : Job} {a : Act} {w w' : World} {vs : Nat → Value} {fp : Nat → List Nat} {v : Value}
    (h : FindsK gK zz js a0 w0 fact res i j a w vs fp) (ho : Only gK w w') (hz : zz w'.heap[gK]?) (ht : kt w w') (h1 : fact i (j.deps.map vs) v) (h2 : res i (j.deps.map vs) v [] w') : LeavesT kt gK zz w0 fact res i j w vs fp v [] w' :=
  ⟨h.below.only ho hz, ht, by rw [ho.size]; exact Nat.le_refl _, fun g hg _ _ => ho.block g hg, h1, h2, fun g hg => by cases hg⟩
abbrev NoFT : List Value → Value → Prop := fun _ _ => True
abbrev NoRT : List Value → Value → List Nat → World → Prop := fun _ _ _ _ => True
theorem NoRT.loc {kt : World → World → Prop} {gK : Nat} {zz : Option Obj → Prop} {w0 : World} : LocT kt gK zz w0 NoRT := fun _ _ _ _ _ _ _ _ _ _ _ => trivial
/-- A slice written out. -/
def LitRT (T : TypeId) (cs : Array Value) (n : Nat) : List Value → Value → List Nat → World → Prop := fun _ v f w => ∃ g, v = .slice (some ⟨g, 0, none⟩) n n ∧ f = [g] ∧ Bl w g T cs
theorem LitRT.loc {kt : World → World → Prop} {gK : Nat} {zz : Option Obj → Prop} {w0 : World} {T : TypeId} {n : Nat} {cs : Array Value} : LocT kt gK zz w0 (LitRT T cs n) := by
  rintro l v f w w' h1 h2 h3 h3t h4 ⟨g, rfl, rfl, h5⟩
  exact ⟨g, rfl, rfl, (h4 g (by simp)).2.2.trans h5⟩
/-- A box. -/
def PtrRT (T : TypeId) (cs : Array Value) : List Value → Value → List Nat → World → Prop := fun _ v f w => ∃ g, v = .pointer (some ⟨g, 0, none⟩) ∧ f = [g] ∧ Bl w g T cs
theorem PtrRT.loc {kt : World → World → Prop} {gK : Nat} {zz : Option Obj → Prop} {w0 : World} {T : TypeId} {cs : Array Value} : LocT kt gK zz w0 (PtrRT T cs) := by
  rintro l v f w w' h1 h2 h3 h3t h4 ⟨g, rfl, rfl, h5⟩
  exact ⟨g, rfl, rfl, (h4 g (by simp)).2.2.trans h5⟩
end Go.Proofs.YthnhgjhnkncmiaaGreat

namespace Go.Proofs.YthnhgjhnkncmiaaGreat
open Go.RowKit
set_option linter.unusedVariables false

/-- An estate in memory. -/
structure EsM (w0 wx : World) (gx gs : Nat) (LA : Option Addr) (m lc J : Nat) (A : Option Addr) (n c : Nat) (bs : List Lb) (B : Option Addr) (k d : Nat) (cs : List Ch) (free : Int) : Prop where
  bx : Bl wx gx 26 #[.slice A n c, .slice B k d, .int .i64 free]
  src : Src wx gs LA m lc J
  jm : J ≤ m
  st : StM wx A n c bs
  own : wx.ownsRow w0.heap.size 61 3 (.slice B k d) k (flat encCh cs)
  kl : cs.length = k
  ok : EstOk (lotsOf bs) cs free
  below : RowKit.Below w0.heap.size w0 wx
  base : w0.heap.size ≤ gx ∧ w0.heap.size ≤ gs
def ActS (w0 : World) (gx gs : Nat) (LA : Option Addr) (m lc I k : Nat) (free : Int) (w' : World) : Prop := ∃ (J : Nat) (A : Option Addr) (n c : Nat) (bs : List Lb) (B : Option Addr) (k' d : Nat) (cs : List Ch) (free' : Int), EsM w0 w' gx gs LA m lc J A n c bs B k' d cs free' ∧ nextI m I ≤ J ∧ free ≤ free' ∧ free' ≤ free + 2 ∧ (k' = k ∨ k' = k + 1 ∧ nextI m (nextI m I) ≤ J)
theorem bl_inj {w : World} {g h : Nat} {T U : TypeId} {cs ds : Array Value} (h1 : Bl w g T cs) (h2 : Bl w h U ds) (hne : T ≠ U) : g ≠ h := fun e => by
  subst e
  have : (some (.cells cs T (0, 0)) : Option Obj) = some (.cells ds U (0, 0)) := h1.symm.trans h2
  injection this with this
  injection this with _ h4
  exact hne h4
section
variable {w0 wx w' : World} {gx gs : Nat} {LA : Option Addr} {m lc J : Nat} {A : Option Addr} {n c : Nat} {bs : List Lb} {B : Option Addr} {k d : Nat} {cs : List Ch} {free : Int}
theorem EsM.ne (h : EsM w0 wx gx gs LA m lc J A n c bs B k d cs free) : gx ≠ gs := bl_inj h.bx h.src (by decide)
/-- Only the Source has gone on, and new memory was made. -/
theorem EsM.kp {J' : Nat} (h : EsM w0 wx gx gs LA m lc J A n c bs B k d cs free) (hk : Kp gs wx w') (hs : Src w' gs LA m lc J') (hj : J' ≤ m) : EsM w0 w' gx gs LA m lc J' A n c bs B k d cs free :=
  ⟨hk.bl h.bx h.ne, hs, hj, h.st.keeps (Keeps.kp hk h.src (by decide) (by decide)), own_of_block h.own fun g hg => hk.block g (own_lt h.own g hg) (fun e => own_far29 h.own h.src (by decide) (hg.trans (congrArg some e))), h.kl, h.ok, hk.under h.below h.below.size h.base.2, h.base⟩
theorem Only.kp {g : Nat} {a b : World} (h : Only g a b) : Kp g a b := ⟨h.os, h.tape, h.output, by rw [h.size]; exact Nat.le_refl _, fun k _ hg => h.block k hg⟩
theorem EsM.only (h : EsM w0 wx gx gs LA m lc J A n c bs B k d cs free) (ho : Only gs wx w') (hs : Src w' gs LA m lc (nextI m J)) : EsM w0 w' gx gs LA m lc (nextI m J) A n c bs B k d cs free := h.kp ho.kp hs (nextI_le m J h.jm)
theorem EsM.under (h : EsM w0 wx gx gs LA m lc J A n c bs B k d cs free) (hb : RowKit.Below wx.heap.size wx w') : EsM w0 w' gx gs LA m lc J A n c bs B k d cs free := h.kp ((Kp.refl gs wx).below hb) ((hb.block gs h.src.lt).trans h.src) h.jm
end
/-- The same estate while the Source goes on. -/
def EsW (w0 : World) (gx gs : Nat) (LA : Option Addr) (m lc J0 : Nat) (A : Option Addr) (n c : Nat) (bs : List Lb) (B : Option Addr) (k d : Nat) (cs : List Ch) (free : Int) (wx : World) : Prop := ∃ J, J0 ≤ J ∧ EsM w0 wx gx gs LA m lc J A n c bs B k d cs free
/-- What is known of Next. -/
def NextC (w0 : World) (gs : Nat) (LA : Option Addr) (m lc : Nat) : Prop := ∀ (q : Int) (J : Nat) (wx : World), Src wx gs LA m lc J → RowKit.Below w0.heap.size w0 wx → 0 < q → q ≤ 4000000000000000000 → Calls Tryz.prog 10 #[.pointer (some ⟨gs, 0, none⟩), .int .i64 q] wx fun e w' => ∃ v : Int, e = .returned (.int .i64 v) ∧ 0 ≤ v ∧ v < q ∧ Only gs wx w' ∧ Src w' gs LA m lc (nextI m J)
section
variable {w0 wx w' : World} {gx gs : Nat} {LA : Option Addr} {m lc J0 : Nat} {A : Option Addr} {n c : Nat} {bs : List Lb} {B : Option Addr} {k d : Nat} {cs : List Ch} {free : Int}
theorem EsW.s (h : EsW w0 gx gs LA m lc J0 A n c bs B k d cs free wx) : wx.cell? ⟨gx, 0, none⟩ = some (.slice A n c) ∧ wx.cell? ⟨gx, 2, none⟩ = some (.int .i64 free) ∧ EsW w0 gx gs LA m lc J0 A n c bs B k d cs free wx := by
  obtain ⟨J, hJ, h1⟩ := h
  exact ⟨h1.bx.cell 0, h1.bx.cell 2, J, hJ, h1⟩
theorem EsW.under (h : EsW w0 gx gs LA m lc J0 A n c bs B k d cs free wx) (hb : RowKit.Below wx.heap.size wx w') : EsW w0 gx gs LA m lc J0 A n c bs B k d cs free w' := by
  obtain ⟨J, hJ, h1⟩ := h
  exact ⟨J, hJ, h1.under hb⟩
theorem EsW.drew (h : EsW w0 gx gs LA m lc J0 A n c bs B k d cs free wx) : EsW w0 gx gs LA m lc J0 A n c bs B k d cs free wx.drew := h.under (Below.refl _ _).drew
theorem EsW.alloc (h : EsW w0 gx gs LA m lc J0 A n c bs B k d cs free wx) (o : Obj) : EsW w0 gx gs LA m lc J0 A n c bs B k d cs free (wx.alloc o) := h.under ((Below.refl _ _).alloc (Nat.le_refl _) o)
theorem EsW.nx (hN : NextC w0 gs LA m lc) {q : Int} (h1 : 0 < q) (h2 : q ≤ 4000000000000000000) (h : EsW w0 gx gs LA m lc J0 A n c bs B k d cs free wx) : Calls Tryz.prog 10 #[.pointer (some ⟨gs, 0, none⟩), .int .i64 q] wx fun e w' => ∃ v : Nat, e = .returned (.int .i64 (v : Int)) ∧ (v : Int) < q ∧ Only gs wx w' ∧ EsW w0 gx gs LA m lc J0 A n c bs B k d cs free w' := by
  obtain ⟨J, hJ, h3⟩ := h
  refine (hN q J wx h3.src h3.below h1 h2).mono ?_
  rintro e w' ⟨v, rfl, hv0, hv1, ho, hs⟩
  refine ⟨v.toNat, by rw [show ((v.toNat : Nat) : Int) = v by omega], by omega, ho, nextI m J, Nat.le_trans hJ (nextI_ge m J), h3.only ho hs⟩
theorem EsW.any (h : EsW w0 gx gs LA m lc J0 A n c bs B k d cs free wx) (q : Int) : Calls Tryz.prog 50 #[.pointer (some ⟨gx, 0, none⟩), .int .i64 q] wx fun e w' => ∃ v : Int, e = .returned (.int .i64 v) ∧ (∃ z, w' = wx.drewN z) ∧ EsW w0 gx gs LA m lc J0 A n c bs B k d cs free w' := by
  obtain ⟨J, hJ, h3⟩ := h
  have hl := h3.st.len
  have hf := h3.ok.few
  refine (any29_any gx A n c bs _ _ q wx h3.bx h3.st.st.lots.recs (by omega)).mono ?_
  rintro e w' ⟨v, rfl, z, rfl⟩
  exact ⟨v, rfl, ⟨z, rfl⟩, J, hJ, h3.under (below_drewN (Below.refl _ _) z)⟩
theorem str_at {g v : Nat} (h : Bl wx g 9 #[.string (goodS 49), .string (goodS 50), .string (goodS 51), .string (goodS 52)]) (hv : v < 3) : ∃ s, code8 s ∧ wx.cell? ⟨g, v, none⟩ = some (.string s) := by
  have hc : v = 0 ∨ v = 1 ∨ v = 2 := by omega
  rcases hc with rfl | rfl | rfl
  · exact ⟨_, goodS_49, h.cell 0⟩
  · exact ⟨_, goodS_50, h.cell 1⟩
  · exact ⟨_, goodS_51, h.cell 2⟩
/-- Goods alone. -/
theorem EsW.goods (h : EsW w0 gx gs LA m lc J0 A n c bs B k d cs free wx) : Calls Tryz.prog 48 #[] wx fun e w' => ∃ g : Nat, e = .returned (.slice (some ⟨g, 0, none⟩) 4 4) ∧ Bl w' g 9 #[.string (goodS 49), .string (goodS 50), .string (goodS 51), .string (goodS 52)] ∧ EsW w0 gx gs LA m lc J0 A n c bs B k d cs free w' :=
  (Goods_any wx).mono fun e w' ⟨h1, h2, h3⟩ => ⟨_, h1, h2, h.under h3⟩
/-- Goods behind Next. -/
theorem EsW.goodsv (h : EsW w0 gx gs LA m lc J0 A n c bs B k d cs free wx) {v : Nat} (hv : (v : Int) < 3) : Calls Tryz.prog 48 #[] wx fun e w' => ∃ (g : Nat) (s : ByteArray), e = .returned (.slice (some ⟨g, 0, none⟩) 4 4) ∧ code8 s ∧ w'.cell? ⟨g, v, none⟩ = some (.string s) ∧ EsW w0 gx gs LA m lc J0 A n c bs B k d cs free w' :=
  h.goods.mono fun e w' ⟨g, h1, h2, h3⟩ => by
    obtain ⟨s, hs, hc⟩ := str_at h2 (v := v) (by omega)
    exact ⟨g, s, h1, hs, hc, h3⟩
/-- Next behind Goods. -/
theorem EsW.nxg (hN : NextC w0 gs LA m lc) (h : EsW w0 gx gs LA m lc J0 A n c bs B k d cs free wx) {g : Nat} (hg : Bl wx g 9 #[.string (goodS 49), .string (goodS 50), .string (goodS 51), .string (goodS 52)]) : Calls Tryz.prog 10 #[.pointer (some ⟨gs, 0, none⟩), .int .i64 3] wx fun e w' => ∃ (v : Nat) (s : ByteArray), e = .returned (.int .i64 (v : Int)) ∧ (v : Int) < 3 ∧ code8 s ∧ w'.cell? ⟨g, v, none⟩ = some (.string s) ∧ EsW w0 gx gs LA m lc J0 A n c bs B k d cs free w' := by
  have hne : g ≠ gs := by obtain ⟨J, hJ, h3⟩ := h; exact bl_inj hg h3.src (by decide)
  refine (EsW.nx hN (by decide) (by decide) h).mono ?_
  rintro e w' ⟨v, rfl, hv, ho, h3⟩
  obtain ⟨s, hs, hc⟩ := str_at ((ho.block g hne).trans hg) (v := v) (by omega)
  exact ⟨v, s, rfl, hv, hs, hc, h3⟩
theorem EsW.present (h : EsW w0 gx gs LA m lc J0 A n c bs B k d cs free wx) {s : ByteArray} (hs : code8 s) (q : Int) : Calls Tryz.prog 47 #[.slice A n c, .int .i64 free, .string s, .int .i64 q] wx fun e w' => ∃ (B2 : Option Addr) (d2 : Nat) (er : Int) (bs2 : List Lb), e = .returned (.tuple #[.slice B2 bs2.length d2, .int .i64 er]) ∧ (er = 0 → StM w' B2 bs2.length d2 bs2 ∧ EstOk (lotsOf bs2) (cs ++ [⟨free, q, 0⟩]) (free + 1)) ∧ EsW w0 gx gs LA m lc J0 A n c bs B k d cs free w' := by
  obtain ⟨J, hJ, h3⟩ := h
  refine (Present_any A n c bs cs free q s wx h3.st h3.ok hs).mono ?_
  rintro e w' ⟨B2, d2, er, bs2, rfl, hr, hb⟩
  exact ⟨B2, d2, er, bs2, rfl, hr, J, hJ, h3.under hb⟩
end
abbrev L12 : List Int := [6, 8, 5, 7, 11, 12, 9, 10, 14, 2, 3, 13]
abbrev O12 : Obj := .cells #[.int .i64 6, .int .i64 8, .int .i64 5, .int .i64 7, .int .i64 11, .int .i64 12, .int .i64 9, .int .i64 10, .int .i64 14, .int .i64 2, .int .i64 3, .int .i64 13] 3
abbrev ActOk (a : Int) : Prop := 1 ≤ a ∧ a ≤ 14 ∧ a ≠ 4
theorem act_at {wx : World} {g v : Nat} (h : Bl wx g 3 #[.int .i64 6, .int .i64 8, .int .i64 5, .int .i64 7, .int .i64 11, .int .i64 12, .int .i64 9, .int .i64 10, .int .i64 14, .int .i64 2, .int .i64 3, .int .i64 13]) (hv : v < 12) : ∃ a, ActOk a ∧ wx.cell? ⟨g, v, none⟩ = some (.int .i64 a) := by
  have hc : v = 0 ∨ v = 1 ∨ v = 2 ∨ v = 3 ∨ v = 4 ∨ v = 5 ∨ v = 6 ∨ v = 7 ∨ v = 8 ∨ v = 9 ∨ v = 10 ∨ v = 11 := by omega
  rcases hc with rfl | rfl | rfl | rfl | rfl | rfl | rfl | rfl | rfl | rfl | rfl | rfl
  · exact ⟨6, by decide, h.cell 0⟩
  · exact ⟨8, by decide, h.cell 1⟩
  · exact ⟨5, by decide, h.cell 2⟩
  · exact ⟨7, by decide, h.cell 3⟩
  · exact ⟨11, by decide, h.cell 4⟩
  · exact ⟨12, by decide, h.cell 5⟩
  · exact ⟨9, by decide, h.cell 6⟩
  · exact ⟨10, by decide, h.cell 7⟩
  · exact ⟨14, by decide, h.cell 8⟩
  · exact ⟨2, by decide, h.cell 9⟩
  · exact ⟨3, by decide, h.cell 10⟩
  · exact ⟨13, by decide, h.cell 11⟩
section
variable {w0 wx w' : World} {gx gs : Nat} {LA : Option Addr} {m lc J0 : Nat} {A : Option Addr} {n c : Nat} {bs : List Lb} {B : Option Addr} {k d : Nat} {cs : List Ch} {free : Int}
abbrev BL12 (wx : World) (g : Nat) : Prop := Bl wx g 3 #[.int .i64 6, .int .i64 8, .int .i64 5, .int .i64 7, .int .i64 11, .int .i64 12, .int .i64 9, .int .i64 10, .int .i64 14, .int .i64 2, .int .i64 3, .int .i64 13]
/-- Next where the actions lie there already. -/
theorem EsW.nxb (hN : NextC w0 gs LA m lc) {q : Int} (h1 : 0 < q) (h2 : q ≤ 4000000000000000000) (h : EsW w0 gx gs LA m lc J0 A n c bs B k d cs free wx) {g : Nat} (hg : BL12 wx g) : Calls Tryz.prog 10 #[.pointer (some ⟨gs, 0, none⟩), .int .i64 q] wx fun e w' => ∃ v : Nat, e = .returned (.int .i64 (v : Int)) ∧ (v : Int) < q ∧ BL12 w' g ∧ EsW w0 gx gs LA m lc J0 A n c bs B k d cs free w' := by
  have hne : g ≠ gs := by obtain ⟨J, hJ, h3⟩ := h; exact bl_inj hg h3.src (by decide)
  refine (EsW.nx hN h1 h2 h).mono ?_
  rintro e w' ⟨v, rfl, hv, ho, h3⟩
  exact ⟨v, rfl, hv, (ho.block g hne).trans hg, h3⟩
theorem EsW.nxa (hN : NextC w0 gs LA m lc) (h : EsW w0 gx gs LA m lc J0 A n c bs B k d cs free wx) {g : Nat} (hg : BL12 wx g) : Calls Tryz.prog 10 #[.pointer (some ⟨gs, 0, none⟩), .int .i64 12] wx fun e w' => ∃ (v : Nat) (a : Int), e = .returned (.int .i64 (v : Int)) ∧ (v : Int) < 12 ∧ ActOk a ∧ w'.cell? ⟨g, v, none⟩ = some (.int .i64 a) ∧ EsW w0 gx gs LA m lc J0 A n c bs B k d cs free w' := by
  refine (EsW.nxb hN (by decide) (by decide) h hg).mono ?_
  rintro e w' ⟨v, rfl, hv, hb, h3⟩
  obtain ⟨a, ha, hc⟩ := act_at hb (v := v) (by omega)
  exact ⟨v, a, rfl, hv, ha, hc, h3⟩
/-- Next, the actions written out behind it. -/
theorem EsW.nxl (hN : NextC w0 gs LA m lc) (h : EsW w0 gx gs LA m lc J0 A n c bs B k d cs free wx) : Calls Tryz.prog 10 #[.pointer (some ⟨gs, 0, none⟩), .int .i64 12] wx fun e w' => ∃ (v : Nat) (a : Int), e = .returned (.int .i64 (v : Int)) ∧ (v : Int) < 12 ∧ ActOk a ∧ (w'.alloc O12).cell? ⟨w'.heap.size, v, none⟩ = some (.int .i64 a) ∧ EsW w0 gx gs LA m lc J0 A n c bs B k d cs free w' := by
  refine (EsW.nx hN (by decide) (by decide) h).mono ?_
  rintro e w' ⟨v, rfl, hv, ho, h3⟩
  obtain ⟨a, ha, hc⟩ := act_at (Bl.new w' _ _) (v := v) (by omega)
  exact ⟨v, a, rfl, hv, ha, hc, h3⟩
theorem EsW.anyb (h : EsW w0 gx gs LA m lc J0 A n c bs B k d cs free wx) (q : Int) {g : Nat} (hg : BL12 wx g) : Calls Tryz.prog 50 #[.pointer (some ⟨gx, 0, none⟩), .int .i64 q] wx fun e w' => ∃ v : Int, e = .returned (.int .i64 v) ∧ BL12 w' g ∧ EsW w0 gx gs LA m lc J0 A n c bs B k d cs free w' := by
  refine (EsW.any h q).mono ?_
  rintro e w' ⟨v, rfl, ⟨z, rfl⟩, h3⟩
  exact ⟨v, rfl, hg, h3⟩
theorem EsW.move (h : EsW w0 gx gs LA m lc J0 A n c bs B k d cs free wx) (id : Int) {a : Int} (ha : ActOk a) : Calls Tryz.prog 49 #[.slice A n c, .int .i64 id, .int .i64 a] wx fun e w' => ∃ (B2 : Option Addr) (d2 : Nat) (er : Int) (bs2 : List Lb), e = .returned (.tuple #[.slice B2 bs2.length d2, .int .i64 er]) ∧ (er = 0 → StM w' B2 bs2.length d2 bs2 ∧ EstOk (lotsOf bs2) cs (free + 0)) ∧ EsW w0 gx gs LA m lc J0 A n c bs B k d cs free w' := by
  obtain ⟨J, hJ, h3⟩ := h
  refine (Move_any A n c bs cs free id a wx h3.st h3.ok ha.1 ha.2.1 ha.2.2).mono ?_
  rintro e w' ⟨B2, d2, er, bs2, rfl, hr, hb⟩
  exact ⟨B2, d2, er, bs2, rfl, (by rw [Int.add_zero]; exact hr), J, hJ, h3.under hb⟩
end
section
variable {w0 wx w' : World} {gx gs : Nat} {LA : Option Addr} {m lc J0 : Nat} {A : Option Addr} {n c : Nat} {bs : List Lb} {B : Option Addr} {k d : Nat} {cs : List Ch} {free : Int}
/-- Next leaves blocks of other types. -/
theorem EsW.nxt (hN : NextC w0 gs LA m lc) {q : Int} (h1 : 0 < q) (h2 : q ≤ 4000000000000000000) (h : EsW w0 gx gs LA m lc J0 A n c bs B k d cs free wx) {g : Nat} {T : TypeId} {ds : Array Value} (hg : Bl wx g T ds) (hT : T ≠ 31) : Calls Tryz.prog 10 #[.pointer (some ⟨gs, 0, none⟩), .int .i64 q] wx fun e w' => ∃ v : Nat, e = .returned (.int .i64 (v : Int)) ∧ (v : Int) < q ∧ Bl w' g T ds ∧ EsW w0 gx gs LA m lc J0 A n c bs B k d cs free w' := by
  have hne : g ≠ gs := by obtain ⟨J, hJ, h3⟩ := h; exact bl_inj hg h3.src hT
  refine (EsW.nx hN h1 h2 h).mono ?_
  rintro e w' ⟨v, rfl, hv, ho, h3⟩
  exact ⟨v, rfl, hv, (ho.block g hne).trans hg, h3⟩
theorem EsW.split (h : EsW w0 gx gs LA m lc J0 A n c bs B k d cs free wx) {g : Nat} {a b : Int} (hg : Bl wx g 94 #[.int .i64 free, .int .i64 a, .int .i64 (free + 1), .int .i64 b]) (id me : Int) : Calls Tryz.prog 52 #[.slice A n c, .int .i64 id, .slice (some ⟨g, 0, none⟩) 2 2, .int .i64 me] wx fun e w' => ∃ (B2 : Option Addr) (d2 : Nat) (er : Int) (bs2 : List Lb), e = .returned (.tuple #[.slice B2 bs2.length d2, .int .i64 er]) ∧ (er = 0 → StM w' B2 bs2.length d2 bs2 ∧ EstOk (lotsOf bs2) cs (free + 2)) ∧ EsW w0 gx gs LA m lc J0 A n c bs B k d cs free w' := by
  obtain ⟨J, hJ, h3⟩ := h
  refine (Split_any A n c bs cs free (free + 2) id me (some ⟨g, 0, none⟩) 2 2 [(free, a), (free + 1, b)] wx h3.st h3.ok (recs_lit (enc := enc2) (k := 2) (xs := [(free, a), (free + 1, b)]) (fun _ => rfl) hg) (by decide) (by simp; omega) (fun q hq => by simp at hq; rcases hq with rfl | rfl <;> simp <;> omega) (by omega)).mono ?_
  rintro e w' ⟨B2, d2, er, bs2, rfl, hr, hb⟩
  exact ⟨B2, d2, er, bs2, rfl, hr, J, hJ, h3.under hb⟩
theorem EsW.merge (h : EsW w0 gx gs LA m lc J0 A n c bs B k d cs free wx) {g : Nat} {a b : Int} (hg : Bl wx g 3 #[.int .i64 a, .int .i64 b]) : Calls Tryz.prog 53 #[.slice A n c, .slice (some ⟨g, 0, none⟩) 2 2, .int .i64 free] wx fun e w' => ∃ (B2 : Option Addr) (d2 : Nat) (er : Int) (bs2 : List Lb), e = .returned (.tuple #[.slice B2 bs2.length d2, .int .i64 er]) ∧ (er = 0 → StM w' B2 bs2.length d2 bs2 ∧ EstOk (lotsOf bs2) cs (free + 1)) ∧ EsW w0 gx gs LA m lc J0 A n c bs B k d cs free w' := by
  obtain ⟨J, hJ, h3⟩ := h
  refine (Merge_any A n c bs cs free (some ⟨g, 0, none⟩) 2 2 [a, b] wx h3.st h3.ok (ints_lit (cs := [a, b]) hg) (by decide) (by decide) (by decide)).mono ?_
  rintro e w' ⟨B2, d2, er, bs2, rfl, hr, hb⟩
  exact ⟨B2, d2, er, bs2, rfl, hr, J, hJ, h3.under hb⟩
end
/-- The numbers of a recipe's outputs. -/
def outL (free : Int) (j : Nat) : List Int := (List.range j).map fun (i : Nat) => free + (i : Int)
theorem outL_len (free : Int) (j : Nat) : (outL free j).length = j := by simp [outL]
theorem outL_succ (free : Int) (j : Nat) : outL free (j + 1) = outL free j ++ [free + (j : Int)] := by
  unfold outL
  rw [List.range_succ, List.map_append]
  rfl
theorem outL_mem {free : Int} {j : Nat} : ∀ o ∈ outL free j, free ≤ o ∧ o < free + (j : Int) := fun o ho => by
  obtain ⟨i, hi, rfl⟩ := List.mem_map.1 ho
  have := List.mem_range.1 hi
  omega
theorem outL_asc (free : Int) (j : Nat) : (outL free j).Pairwise (· < ·) := by
  induction j with
  | zero => simp [outL]
  | succ j ih =>
    rw [outL_succ, List.pairwise_append]
    refine ⟨ih, List.pairwise_singleton _ _, fun a ha b hb => ?_⟩
    rw [List.mem_singleton] at hb
    subst hb
    exact (outL_mem a ha).2
section
variable {w0 wx w' : World} {gx gs : Nat} {LA : Option Addr} {m lc J0 : Nat} {A : Option Addr} {n c : Nat} {bs : List Lb} {B : Option Addr} {k d : Nat} {cs : List Ch} {free : Int}
theorem EsW.grown {N kk nn : Nat} {v : Value} {ys : List Value} (h : EsW w0 gx gs LA m lc J0 A n c bs B k d cs free wx) (ho : wx.ownsRow N 3 kk v nn ys) (hN : w0.heap.size ≤ N) (hg : wx.grownBy w' v.ownBlock) : EsW w0 gx gs LA m lc J0 A n c bs B k d cs free w' := by
  obtain ⟨J, hJ, h1⟩ := h
  exact ⟨J, hJ, (hg.block gx h1.bx.lt (fun e => own_far29 ho h1.bx (by decide) e.symm)).trans h1.bx, (hg.block gs h1.src.lt (fun e => own_far29 ho h1.src (by decide) e.symm)).trans h1.src, h1.jm, h1.st.keeps (Keeps.grown hg ho (by decide) (by decide)), own_other h1.own ho (by decide) hg, h1.kl, h1.ok, h1.below.grown hg h1.below.size (fun j hj => Nat.le_trans hN (own_base ho j hj)), h1.base⟩
theorem EsW.process (h : EsW w0 gx gs LA m lc J0 A n c bs B k d cs free wx) {rid : Int} {IA : Option Addr} {ni ci : Nat} {ins : List Nd} {OA : Option Addr} {no co : Nat} {outs : List Nd} {SA : Option Addr} {ns cs2 : Nat} {sc : List Int} (hat : RcAt wx IA ni ci ins OA no co outs SA ns cs2 sc) (hrk : RcOk rid ins outs sc) (bt : Int) {P : Option Addr} {mm pc : Nat} {xs2 : List Int} (hxs : Ints wx P mm xs2) (hm : mm ≤ 2 ∧ mm ≤ pc ∧ pc ≤ 9223372036854775807) {O : Option Addr} {oc : Nat} (hos : Ints wx O no (outL free no)) (hoc : no ≤ oc ∧ oc ≤ 9223372036854775807) :
    Calls Tryz.prog 55 #[.slice A n c, .agg #[.int .i64 rid, .slice IA ni ci, .slice OA no co, .slice SA ns cs2], .int .i64 bt, .slice P mm pc, .slice O no oc] wx fun e w' => ∃ (B2 : Option Addr) (d2 : Nat) (er : Int) (bs2 : List Lb), e = .returned (.tuple #[.slice B2 bs2.length d2, .int .i64 er]) ∧ (er = 0 → StM w' B2 bs2.length d2 bs2 ∧ EstOk (lotsOf bs2) cs (free + (no : Int))) ∧ RowKit.Below wx.heap.size wx w' := by
  obtain ⟨J, hJ, h3⟩ := h
  refine (Process_any A n c bs cs free (free + (no : Int)) rid IA ni ci ins OA no co outs SA ns cs2 sc bt P mm pc xs2 O oc (outL free no) wx h3.st h3.ok hat hrk hxs hm.1 hm.2.1 hm.2.2 hos hoc.1 hoc.2 (outL_asc free no) (fun o ho => outL_mem o ho) (by omega)).mono ?_
  rintro e w' ⟨B2, d2, er, bs2, rfl, hr, hb⟩
  exact ⟨B2, d2, er, bs2, rfl, hr, hb⟩
end
theorem own_lit29 {w : World} {g base : Nat} {t : TypeId} {size n : Nat} {xs : List Value} (h : Bl w g t xs.toArray) (hb : base ≤ g) (hl : xs.length = n * size) (hn : n ≤ 1000) : w.ownsRow base t size (.slice (some ⟨g, 0, none⟩) n n) n xs :=
  ⟨hl, .inr ⟨g, n, xs.toArray, rfl, hb, h, Nat.le_refl _, by unfold maxLen; omega, by simpa using hl, by simp [← hl]⟩⟩
theorem infoCh : (Tryz.prog.info? 61).map (fun i => (i.zero, i.size, i.bytes)) = some (some (.agg #[.int .i64 0, .int .i64 0, .int .i64 0]), 3, 24) := by kernel_rfl
/-- What the switch leaves: the next stock, the error, the numbers used; the estate still with its old stock. -/
def ActM (w0 w : World) (gx gs : Nat) (LA : Option Addr) (m lc I : Nat) (A : Option Addr) (n c : Nat) (bs : List Lb) (B : Option Addr) (k d : Nat) (cs : List Ch) (free : Int) (nx er us : Value) (wx : World) : Prop :=
  ∃ (J : Nat) (A' : Option Addr) (n' c' : Nat) (bs' : List Lb) (ev u : Int) (B' : Option Addr) (k' d' : Nat) (cs' : List Ch), nx = .slice A' n' c' ∧ er = .int .i64 ev ∧ us = .int .i64 u ∧ 0 ≤ u ∧ u ≤ 2 ∧ nextI m I ≤ J ∧ J ≤ m ∧
    Bl wx gx 26 #[.slice A n c, .slice B' k' d', .int .i64 free] ∧ Src wx gs LA m lc J ∧ wx.ownsRow w0.heap.size 61 3 (.slice B' k' d') k' (flat encCh cs') ∧ cs'.length = k' ∧ RowKit.Below w0.heap.size w0 wx ∧
    (ev = 0 → StM wx A' n' c' bs' ∧ EstOk (lotsOf bs') cs' (free + u) ∧ (k' = k ∨ k' = k + 1 ∧ nextI m (nextI m I) ≤ J)) ∧ (ev ≠ 0 → StM wx A n c bs ∧ cs' = cs ∧ k' = k)
section
variable {w0 w wx wp w8 : World} {gx gs : Nat} {LA : Option Addr} {m lc I J : Nat} {A : Option Addr} {n c : Nat} {bs : List Lb} {B : Option Addr} {k d : Nat} {cs : List Ch} {free : Int}
/-- An act that was refused. -/
theorem ActM.no {A' : Option Addr} {n' c' : Nat} {er u : Int} (h : EsM w0 wx gx gs LA m lc J A n c bs B k d cs free) (hJ : nextI m I ≤ J) (he : er ≠ 0) (h0 : 0 ≤ u) (h2 : u ≤ 2) : ActM w0 w gx gs LA m lc I A n c bs B k d cs free (.slice A' n' c') (.int .i64 er) (.int .i64 u) wx :=
  ⟨J, A', n', c', bs, er, u, B, k, d, cs, rfl, rfl, rfl, h0, h2, hJ, h.jm, h.bx, h.src, h.own, h.kl, h.below, fun e => absurd e he, fun _ => ⟨h.st, rfl, rfl⟩⟩
/-- An act that made another stock out of the sources that there are. -/
theorem ActM.yes {A' : Option Addr} {n' c' : Nat} {bs' : List Lb} {er u : Int} (h : EsM w0 wx gx gs LA m lc J A n c bs B k d cs free) (hJ : nextI m I ≤ J) (h0 : 0 ≤ u) (h2 : u ≤ 2) (hok : er = 0 → StM wx A' n' c' bs' ∧ EstOk (lotsOf bs') cs (free + u)) : ActM w0 w gx gs LA m lc I A n c bs B k d cs free (.slice A' n' c') (.int .i64 er) (.int .i64 u) wx :=
  ⟨J, A', n', c', bs', er, u, B, k, d, cs, rfl, rfl, rfl, h0, h2, hJ, h.jm, h.bx, h.src, h.own, h.kl, h.below, fun e => ⟨(hok e).1, (hok e).2, .inl rfl⟩, fun _ => ⟨h.st, rfl, rfl⟩⟩
/-- A presentation: the sources have grown. -/
theorem ActM.pres {B2 : Option Addr} {n2 d2 : Nat} {bs2 : List Lb} {q : Int} (h : EsM w0 wp gx gs LA m lc J A n c bs B k d cs free) (o : Obj) (hst : StM wp B2 n2 d2 bs2) (he : EstOk (lotsOf bs2) (cs ++ [⟨free, q, 0⟩]) (free + 1)) {B8 : Option Addr} {d8 : Nat}
    (ho8 : w8.ownsRow w0.heap.size 61 3 (.slice B8 (k + 1) d8) (k + 1) (flat encCh cs ++ encCh ⟨free, q, 0⟩)) (hg8 : (wp.drew.alloc o).grownBy w8 (Value.slice B k d).ownBlock) (hJ : nextI m (nextI m I) ≤ J) :
    ActM w0 w gx gs LA m lc I A n c bs B k d cs free (.slice B2 n2 d2) (.int .i64 0) (.int .i64 1) (w8.setCell ⟨gx, 1, none⟩ (.slice B8 (k + 1) d8)) := by
  have hb : RowKit.Below wp.heap.size wp (wp.drew.alloc o) := (Below.refl _ _).drew.alloc (Nat.le_refl _) _
  have h1 := h.under hb
  have hbx : Bl w8 gx 26 #[.slice A n c, .slice B k d, .int .i64 free] := (hg8.block gx h1.bx.lt (fun e => own_far29 h1.own h1.bx (by decide) e.symm)).trans h1.bx
  have hsr : Src w8 gs LA m lc J := (hg8.block gs h1.src.lt (fun e => own_far29 h1.own h1.src (by decide) e.symm)).trans h1.src
  have hkp : Kp gx w8 (w8.setCell ⟨gx, 1, none⟩ (.slice B8 (k + 1) d8)) := (Kp.refl gx w8).put 1 _
  have hbw : RowKit.Below w0.heap.size w0 w8 := h1.below.grown hg8 h1.below.size (fun j hj => own_base h1.own j hj)
  have hks : Keeps wp (w8.setCell ⟨gx, 1, none⟩ (.slice B8 (k + 1) d8)) := ((Keeps.of_below hb).trans (Keeps.grown hg8 h1.own (by decide) (by decide))).trans (Keeps.kp hkp hbx (by decide) (by decide))
  refine ⟨J, B2, n2, d2, bs2, 0, 1, B8, k + 1, d8, cs ++ [⟨free, q, 0⟩], rfl, rfl, rfl, by omega, by omega, Nat.le_trans (nextI_ge m _) hJ, h.jm, ?_, hkp.bl hsr (fun e => h.ne e.symm), ?_, by rw [List.length_append, h.kl]; rfl, hkp.under hbw hbw.size h.base.1, fun _ => ⟨hst.keeps hks, he, .inr ⟨rfl, hJ⟩⟩, fun e => absurd rfl e⟩
  · have := hbx.put 1 (.slice B8 (k + 1) d8)
    simpa using this
  · rw [flat_append, flat_one]
    exact own_of_block ho8 fun g hg => hkp.block g (own_lt ho8 g hg) (fun e => own_far29 ho8 hbx (by decide) (hg.trans (congrArg some e)))
end
end Go.Proofs.YthnhgjhnkncmiaaGreat

namespace Go.Proofs.YthnhgjhnkncmiaaGreat
open Go.RowKit
set_option linter.unusedVariables false

/-- The Source's place lies between J0 and m. -/
def zEs (LA : Option Addr) (m lc J0 : Nat) (o : Option Obj) : Prop := ∃ J : Nat, J0 ≤ J ∧ J ≤ m ∧ o = some (.cells #[.slice LA m lc, .int .i64 J] 31 (0, 0))
theorem keepsOk : KtOk Keeps := ⟨fun w => Keeps.of_below (Below.refl _ _), fun _ _ h => Keeps.of_below h⟩
section
variable {w0 w wx w' : World} {gx gs : Nat} {LA : Option Addr} {m lc J J0 : Nat} {A : Option Addr} {n c : Nat} {bs : List Lb} {B : Option Addr} {k d : Nat} {cs : List Ch} {free : Int}
theorem EsW.zs (h : EsW w0 gx gs LA m lc J0 A n c bs B k d cs free wx) : zEs LA m lc J0 wx.heap[gs]? := by
  obtain ⟨J, hJ, h1⟩ := h
  exact ⟨J, hJ, h1.jm, h1.src⟩
theorem EsM.ofR (h : EsM w0 w gx gs LA m lc J A n c bs B k d cs free) (hR : RelK gs (zEs LA m lc J0) w wx) : EsW w0 gx gs LA m lc J0 A n c bs B k d cs free wx := by
  obtain ⟨J', h1, h2, h3⟩ := hR.is
  exact ⟨J', h1, h.kp hR.kp h3 h2⟩
theorem EsW.keeps (h : EsW w0 gx gs LA m lc J0 A n c bs B k d cs free wx) (ho : Only gs wx w') : Keeps wx w' := by
  obtain ⟨J, hJ, h1⟩ := h
  exact Keeps.kp ho.kp h1.src (by decide) (by decide)
end
/-- The address of an element of a slice written out. -/
def AdrRT (T : TypeId) (cs : Array Value) (n : Nat) : List Value → Value → List Nat → World → Prop := fun _ v f w => ∃ (g j : Nat), v = .pointer (some ⟨g, j, none⟩) ∧ j < n ∧ f = [g] ∧ Bl w g T cs
theorem AdrRT.loc {kt : World → World → Prop} {gK : Nat} {zz : Option Obj → Prop} {w0 : World} {T : TypeId} {cs : Array Value} {n : Nat} : LocT kt gK zz w0 (AdrRT T cs n) := by
  rintro l v f w w' h1 h2 h3 h3t h4 ⟨g, j, rfl, hj, rfl, h5⟩
  exact ⟨g, j, rfl, hj, rfl, (h4 g (by simp)).2.2.trans h5⟩
/-- What an act on a stock returned. -/
def ActRT (R : List Lt → Prop) : List Value → Value → List Nat → World → Prop := fun _ v _ w => ∃ (B2 : Option Addr) (d2 : Nat) (er : Int) (bs2 : List Lb), v = .tuple #[.slice B2 bs2.length d2, .int .i64 er] ∧ (er = 0 → StM w B2 bs2.length d2 bs2 ∧ R (lotsOf bs2))
theorem ActRT.loc {gK : Nat} {zz : Option Obj → Prop} {w0 : World} {R : List Lt → Prop} : LocT Keeps gK zz w0 (ActRT R) := by
  rintro l v f w w' h1 h2 h3 h3t h4 ⟨B2, d2, er, bs2, rfl, h5⟩
  exact ⟨B2, d2, er, bs2, rfl, fun e => ⟨(h5 e).1.keeps h3t, (h5 e).2⟩⟩
abbrev TupF : List Value → Value → Prop := fun _ v => ∃ x y, v = .tuple #[x, y]
abbrev MvTF : List Value → Value → Prop := fun l v => l[0]? = some v ∧ ∃ x y, v = .tuple #[x, y]
abbrev Ex0F : List Value → Value → Prop := fun l v => ∃ x y, l[0]? = some (.tuple #[x, y]) ∧ v = x
abbrev Ex1F : List Value → Value → Prop := fun l v => ∃ x y, l[0]? = some (.tuple #[x, y]) ∧ v = y
abbrev SameF : List Value → Value → Prop := fun l v => l[0]? = some v
end Go.Proofs.YthnhgjhnkncmiaaGreat

namespace Go.Proofs.YthnhgjhnkncmiaaGreat
open Go.RowKit
set_option linter.unusedVariables false
set_option maxRecDepth 100000 in
set_option maxHeartbeats 64000000 in
theorem Act_v0 (w0 w : World) (gx gs : Nat) (LA : Option Addr) (m lc I : Nat) (xs : List Int) (A : Option Addr) (n c : Nat) (bs : List Lb) (B : Option Addr) (k d : Nat) (cs : List Ch) (free : Int) (h : EsM w0 w gx gs LA m lc I A n c bs B k d cs free) (hI : Ints w0 LA m xs) (hv8 : nextV xs m I 8 = 0) (hm : m ≤ 1000000) (hf : free ≤ 100000) (hk : k ≤ 1000) :
    Calls Tryz.prog 25 #[.pointer (some ⟨gx, 0, none⟩), .pointer (some ⟨gs, 0, none⟩)] w fun e w' => e = .returned (.tuple #[]) ∧ ActS w0 gx gs LA m lc I k free w' := by
  have HES := Lib.hid h
  have HN : Hid (NextC w0 gs LA m lc) := fun q J wx hS hb h1 h2 =>
    (next_any gs LA m lc J xs q w0 wx hS hI hb h.base.2 hm h1 h2).mono fun e w' ⟨h3, h4, h5⟩ => ⟨_, h3, (nextV_bounds xs m J q h1).1, (nextV_bounds xs m J q h1).2, h4, h5⟩
  have HSM : Hid (∀ (J : Nat) (wx : World), Src wx gs LA m lc J → RowKit.Below w0.heap.size w0 wx → Calls Tryz.prog 37 #[.pointer (some ⟨gs, 0, none⟩), .int .i64 30, .int .i64 100000] wx (SmlRes wx gs LA m lc J 100000)) := fun J wx hS hb => small29_any gs LA m lc J xs 30 100000 w0 wx hS hI hb h.base.2 hm (by decide) (by decide) (by decide)
  have hc0 : w.cell? ⟨gx, 0, none⟩ = some (.slice A n c) := h.bx.cell 0
  clear h
  go_enter Tryz.func25, Tryz.ntmps25
  go_upto_region 3 with (fail)
  go_wp2_with fail
  refine (next_any gs LA m lc I xs 8 w0 w HES.out.src hI HES.out.below HES.out.base.2 hm (by decide) (by decide)).mono ?_
  rintro e w1 ⟨rfl, ho1, hs1⟩
  rw [hv8]
  go_upto_block 0 with fail
  have HE1 : Hid (EsM w0 w1 gx gs LA m lc (nextI m I) A n c bs B k d cs free) := HES.out.only ho1 hs1
  clear ho1 hs1 hc0
  go_cut [4, 5, 6] (fun nx er us wx => ActM w0 w gx gs LA m lc I A n c bs B k d cs free nx er us wx)
  case rest =>
    obtain ⟨J, A', n', c', bs', ev, u, B', k', d', cs', rfl, rfl, rfl, hu0, hu1, hJ0, hJ1, hbx, hsr, hown, hkl, hbw, hok, hbad⟩ := hcut
    have HBX := Lib.hid hbx
    have HSR := Lib.hid hsr
    have HOW := Lib.hid hown
    have HBW := Lib.hid hbw
    have HOK := Lib.hid hok
    have HBAD := Lib.hid hbad
    have hgg : gx ≠ gs := HE1.out.ne
    clear hbx hsr hown hbw hok hbad
    cases de : (ev == 0)
    case false =>
      have hne : ev ≠ 0 := by simpa using de
      have HNE := Lib.hid hne
      clear hne
      go_wp2
      go_end0
      obtain ⟨h1, h2, h3⟩ := HBAD.out HNE.out
      subst h2 h3
      exact ⟨rfl, J, A, n, c, bs, B', _, d', _, free, ⟨HBX.out, HSR.out, hJ1, h1, HOW.out, hkl, HES.out.ok, HBW.out, HES.out.base⟩, hJ0, by omega, by omega, .inl rfl⟩
    case true =>
      obtain rfl : ev = 0 := by simpa using de
      clear de
      obtain ⟨h1, h2, h3⟩ := HOK.out rfl
      have H1 := Lib.hid h1
      have H2 := Lib.hid h2
      have H3 := Lib.hid h3
      clear h1 h2 h3
      have c0 : wc.cell? ⟨gx, 0, none⟩ = some (.slice A n c) := HBX.out.cell 0
      have c2 : wc.cell? ⟨gx, 2, none⟩ = some (.int .i64 free) := HBX.out.cell 2
      have f0 : wc.frozen? ⟨gx, 0, none⟩ = false := HBX.out.free 0
      have f2 : wc.frozen? ⟨gx, 2, none⟩ = false := HBX.out.free 2
      have hfp := HES.out.ok.pos
      have u1 : IntKind.i64.wrap (free + u) = free + u := IntWalk.i64_in _ (by omega)
      have HX2 : Hid (Bl ((wc.setCell ⟨gx, 0, none⟩ (.slice A' n' c')).setCell ⟨gx, 2, none⟩ (.int .i64 (free + u))) gx 26 #[.slice A' n' c', .slice B' k' d', .int .i64 (free + u)]) := by
        show Bl _ _ _ _
        have := (HBX.out.put 0 (.slice A' n' c')).put 2 (.int .i64 (free + u))
        simpa using this
      have HKP : Hid (Kp gx wc ((wc.setCell ⟨gx, 0, none⟩ (.slice A' n' c')).setCell ⟨gx, 2, none⟩ (.int .i64 (free + u)))) := ((Kp.refl gx wc).put 0 _).put 2 _
      go_wp2
      go_end0
      refine ⟨rfl, J, A', n', c', bs', B', k', d', cs', free + u, ⟨HX2.out, HKP.out.bl HSR.out (fun e => hgg e.symm), hJ1, H1.out.keeps (Keeps.kp HKP.out HBX.out (by decide) (by decide)), own_of_block HOW.out fun g hg => HKP.out.block g (own_lt HOW.out g hg) (fun e => own_far29 HOW.out HBX.out (by decide) (hg.trans (congrArg some e))), hkl, H2.out, HKP.out.under HBW.out HBW.out.size HES.out.base.1, HES.out.base⟩, hJ0, by omega, by omega, H3.out⟩
  case first =>
    · go_wp2_with fail
      refine (HSM.out (nextI m I) w1 HE1.out.src HE1.out.below).mono ?_
      rintro e w2 ⟨q, J2, rfl, hq0, hq1, hJ2, hJm, ho2, hs2⟩
      have HE2 : Hid (EsM w0 w2 gx gs LA m lc J2 A n c bs B k d cs free) := HE1.out.kp ho2.kp hs2 (hJm HE1.out.jm)
      have HJ2 := Lib.hid hJ2
      have u1 : IntKind.i64.wrap (1 + q) = 1 + q := IntWalk.i64_in _ (by omega)
      clear ho2 hs2 hJm hJ2
      go_upto_region 20 with (fail)
      clear u1
      obtain ⟨q1, hq1'⟩ : ∃ q1, 1 + q = q1 := ⟨_, rfl⟩
      rw [hq1']
      have HEW : Hid (∀ wx, RelK gs (zEs LA m lc J2) w2 wx → EsW w0 gx gs LA m lc J2 A n c bs B k d cs free wx) := fun wx hR => HE2.out.ofR hR
      have hst : RelK gs (zEs LA m lc J2) w2 w2.drew := RelK.start HE2.out.src.lt ⟨_, Nat.le_refl _, HE2.out.jm, HE2.out.src⟩
      refine wp_region_rowsT (kt := Keeps) (gK := gs) (zz := zEs LA m lc J2) [
        ⟨⟨some 104, [], []⟩, fun _ v => v = .pointer (some ⟨gx, 0, none⟩), NoRT⟩,
        ⟨⟨some 105, [0], []⟩, fun _ v => v = .pointer (some ⟨gx, 0, none⟩), NoRT⟩,
        ⟨⟨some 106, [1], []⟩, fun _ v => v = .pointer (some ⟨gx, 0, none⟩), NoRT⟩,
        ⟨⟨some 107, [2], []⟩, fun _ v => v = .slice A n c, NoRT⟩,
        ⟨⟨some 108, [], []⟩, fun _ v => v = .pointer (some ⟨gx, 0, none⟩), NoRT⟩,
        ⟨⟨some 109, [4], []⟩, fun _ v => v = .pointer (some ⟨gx, 0, none⟩), NoRT⟩,
        ⟨⟨some 110, [5], []⟩, fun _ v => v = .pointer (some ⟨gx, 2, none⟩), NoRT⟩,
        ⟨⟨some 111, [6], []⟩, fun _ v => v = .int .i64 free, NoRT⟩,
        ⟨⟨some 112, [], []⟩, NoFT, LitRT 9 #[.string (goodS 49), .string (goodS 50), .string (goodS 51), .string (goodS 52)] 4⟩,
        ⟨⟨some 113, [], []⟩, fun _ v => v = .pointer (some ⟨gs, 0, none⟩), NoRT⟩,
        ⟨⟨some 114, [9], []⟩, fun _ v => ∃ x : Nat, v = .int .i64 (x : Int) ∧ (x : Int) < 3, NoRT⟩,
        ⟨⟨some 115, [8, 10], [8]⟩, NoFT, AdrRT 9 #[.string (goodS 49), .string (goodS 50), .string (goodS 51), .string (goodS 52)] 3⟩,
        ⟨⟨some 116, [11], [11]⟩, fun _ v => ∃ s, code8 s ∧ v = .string s, NoRT⟩,
        ⟨⟨some 117, [], []⟩, fun _ v => v = .int .i64 q1, NoRT⟩,
        ⟨⟨some 118, [3, 7, 12, 13], []⟩, TupF, ActRT (fun s => EstOk s (cs ++ [⟨free, q1, 0⟩]) (free + 1))⟩,
        ⟨⟨some 103, [14], []⟩, MvTF, NoRT⟩,
        ⟨⟨some 119, [15], []⟩, Ex0F, NoRT⟩,
        ⟨⟨some 120, [15], []⟩, Ex1F, NoRT⟩,
        ⟨⟨some 4, [16], []⟩, SameF, NoRT⟩,
        ⟨⟨some 5, [17], []⟩, SameF, NoRT⟩] hst (by kernel_rfl) (by kernel_rfl) (by kernel_rfl) ⟨NoRT.loc, NoRT.loc, NoRT.loc, NoRT.loc, NoRT.loc, NoRT.loc, NoRT.loc, NoRT.loc, LitRT.loc, NoRT.loc, NoRT.loc, AdrRT.loc, NoRT.loc, NoRT.loc, ActRT.loc (R := fun s => EstOk s (cs ++ [⟨free, q1, 0⟩]) (free + 1)), NoRT.loc, NoRT.loc, NoRT.loc, NoRT.loc, NoRT.loc, trivial⟩ ⟨?r0, ?r1, ?r2, ?r3, ?r4, ?r5, ?r6, ?r7, ?r8, ?r9, ?r10, ?r11, ?r12, ?r13, ?r14, ?r15, ?r16, ?r17, ?r18, ?r19, trivial⟩ ?fin
      case r0 =>
        refine step_ofT rfl rfl ?_
        intro a wx vs fp K hF hK
        exact op_move rfl (hF.at_ 0 rfl) (hK _ _ _ (hF.onlyT keepsOk rfl trivial))
      case r1 =>
        refine step_ofT rfl rfl ?_
        intro a wx vs fp K hF hK
        have e1 : a.eval (.tmp 104) = .pointer (some ⟨gx, 0, none⟩) := (hF.ev 0 104 rfl rfl).trans (hF.va 0 rfl)
        refine op_value (v := .pointer (some ⟨gx, 0, none⟩)) ?_ (hK _ _ _ (hF.onlyT keepsOk rfl trivial))
        clear hF hK
        generalize a.eval = ρ at *
        go_simp
      case r2 =>
        refine step_ofT rfl rfl ?_
        intro a wx vs fp K hF hK
        have e1 : a.eval (.tmp 105) = .pointer (some ⟨gx, 0, none⟩) := (hF.ev 1 105 rfl rfl).trans (hF.va 1 rfl)
        refine op_value (v := .pointer (some ⟨gx, 0, none⟩)) ?_ (hK _ _ _ (hF.onlyT keepsOk rfl trivial))
        clear hF hK
        generalize a.eval = ρ at *
        go_simp
      case r3 =>
        refine step_ofT rfl rfl ?_
        intro a wx vs fp K hF hK
        have e1 : a.eval (.tmp 106) = .pointer (some ⟨gx, 0, none⟩) := (hF.ev 2 106 rfl rfl).trans (hF.va 2 rfl)
        have mc := (EsW.s (HEW.out wx hF.below)).1
        refine op_value (v := .slice A n c) ?_ (hK _ _ _ (hF.onlyT keepsOk rfl trivial))
        clear hF hK
        generalize a.eval = ρ at *
        go_simp
      case r4 =>
        refine step_ofT rfl rfl ?_
        intro a wx vs fp K hF hK
        exact op_move rfl (hF.at_ 0 rfl) (hK _ _ _ (hF.onlyT keepsOk rfl trivial))
      case r5 =>
        refine step_ofT rfl rfl ?_
        intro a wx vs fp K hF hK
        have e1 : a.eval (.tmp 108) = .pointer (some ⟨gx, 0, none⟩) := (hF.ev 4 108 rfl rfl).trans (hF.va 4 rfl)
        refine op_value (v := .pointer (some ⟨gx, 0, none⟩)) ?_ (hK _ _ _ (hF.onlyT keepsOk rfl trivial))
        clear hF hK
        generalize a.eval = ρ at *
        go_simp
      case r6 =>
        refine step_ofT rfl rfl ?_
        intro a wx vs fp K hF hK
        have e1 : a.eval (.tmp 109) = .pointer (some ⟨gx, 0, none⟩) := (hF.ev 5 109 rfl rfl).trans (hF.va 5 rfl)
        refine op_value (v := .pointer (some ⟨gx, 2, none⟩)) ?_ (hK _ _ _ (hF.onlyT keepsOk rfl trivial))
        clear hF hK
        generalize a.eval = ρ at *
        go_simp
      case r7 =>
        refine step_ofT rfl rfl ?_
        intro a wx vs fp K hF hK
        have e1 : a.eval (.tmp 110) = .pointer (some ⟨gx, 2, none⟩) := (hF.ev 6 110 rfl rfl).trans (hF.va 6 rfl)
        have mc := (EsW.s (HEW.out wx hF.below)).2.1
        refine op_value (v := .int .i64 free) ?_ (hK _ _ _ (hF.onlyT keepsOk rfl trivial))
        clear hF hK
        generalize a.eval = ρ at *
        go_simp
      case r8 =>
        refine step_ofT rfl rfl ?_
        intro a wx vs fp K hF hK
        refine op_call (vals := #[]) rfl (by kernel_rfl) (by simp) ?_
        exact (Goods_any wx).mono fun e w' ⟨h1, h2, h3⟩ => ⟨_, h1, hK _ _ [wx.heap.size] (hF.underT h3 keepsOk trivial ⟨_, rfl, rfl, h2⟩ (fun g hg => by rw [List.mem_singleton] at hg; subst hg; exact ⟨Nat.le_refl _, h2.lt⟩))⟩
      case r9 =>
        refine step_ofT rfl rfl ?_
        intro a wx vs fp K hF hK
        exact op_move rfl (hF.at_ 1 rfl) (hK _ _ _ (hF.onlyT keepsOk rfl trivial))
      case r10 =>
        refine step_ofT rfl rfl ?_
        intro a wx vs fp K hF hK
        have hv : vs 9 = .pointer (some ⟨gs, 0, none⟩) := hF.va 9 rfl
        refine op_call (vals := #[.pointer (some ⟨gs, 0, none⟩), .int .i64 3]) rfl (by kernel_rfl) ?_ ?_
        · simp only [List.map_toArray, List.map_cons, List.map_nil, hF.ev 9 113 rfl rfl, hv]
          rfl
        · have hes := HEW.out wx hF.below
          exact (EsW.nx HN.out (q := 3) (by decide) (by decide) hes).mono fun e w' ⟨x, h1, h2, h3, h4⟩ => ⟨_, h1, hK _ _ _ (hF.callT h3 (EsW.zs h4) (EsW.keeps hes h3) ⟨x, rfl, h2⟩ trivial)⟩
      case r11 =>
        refine step_ofT rfl rfl ?_
        intro a wx vs fp K hF hK
        have hm : LitRT 9 #[.string (goodS 49), .string (goodS 50), .string (goodS 51), .string (goodS 52)] 4 [] (vs 8) (fp 8) wx := hF.me 8 rfl
        obtain ⟨g, hg, hfg, hbl⟩ := hm
        obtain ⟨x, hx, hx1⟩ : ∃ x : Nat, vs 10 = .int .i64 (x : Int) ∧ (x : Int) < 3 := hF.va 10 rfl
        have e1 : a.eval (.tmp 112) = .slice (some ⟨g, 0, none⟩) 4 4 := (hF.ev 8 112 rfl rfl).trans hg
        have e2 : a.eval (.tmp 114) = .int .i64 (x : Int) := (hF.ev 10 114 rfl rfl).trans hx
        have hj : x < 4 := by omega
        have hj2 : (x : Int) < 4 := by omega
        have hj0 : (0 : Int) ≤ (x : Int) := by omega
        refine op_value (v := .pointer (some ⟨g, x, none⟩)) ?_ (hK _ _ _ (hF.handT 8 rfl keepsOk trivial ⟨g, x, rfl, by omega, hfg, hbl⟩))
        clear hF hK
        generalize a.eval = ρ at *
        go_simp
      case r12 =>
        refine step_ofT rfl rfl ?_
        intro a wx vs fp K hF hK
        have hm : AdrRT 9 #[.string (goodS 49), .string (goodS 50), .string (goodS 51), .string (goodS 52)] 3 [vs 8, vs 10] (vs 11) (fp 11) wx := hF.me 11 rfl
        obtain ⟨g, j, hg, hj, hfg, hbl⟩ := hm
        obtain ⟨s, hs, mc⟩ := str_at hbl hj
        have e1 : a.eval (.tmp 115) = .pointer (some ⟨g, j, none⟩) := (hF.ev 11 115 rfl rfl).trans hg
        refine op_value (v := .string s) ?_ (hK _ _ _ (hF.onlyT keepsOk ⟨s, hs, rfl⟩ trivial))
        clear hF hK hbl
        generalize a.eval = ρ at *
        go_simp
      case r13 =>
        refine step_ofT rfl rfl ?_
        intro a wx vs fp K hF hK
        exact op_move rfl (hF.at_ 7 rfl) (hK _ _ _ (hF.onlyT keepsOk rfl trivial))
      case r14 =>
        refine step_ofT rfl rfl ?_
        intro a wx vs fp K hF hK
        have h1 : vs 3 = .slice A n c := hF.va 3 rfl
        have h2 : vs 7 = .int .i64 free := hF.va 7 rfl
        obtain ⟨s, hs, h3⟩ : ∃ s, code8 s ∧ vs 12 = .string s := hF.va 12 rfl
        have h4 : vs 13 = .int .i64 q1 := hF.va 13 rfl
        refine op_call (vals := #[.slice A n c, .int .i64 free, .string s, .int .i64 q1]) rfl (by kernel_rfl) ?_ ?_
        · simp only [List.map_toArray, List.map_cons, List.map_nil, hF.ev 3 107 rfl rfl, hF.ev 7 111 rfl rfl, hF.ev 12 116 rfl rfl, hF.ev 13 117 rfl rfl, h1, h2, h3, h4]
        · obtain ⟨J, hJ, hes⟩ := HEW.out wx hF.below
          exact (Present_any A n c bs cs free q1 s wx hes.st hes.ok hs).mono fun e w' ⟨B2, d2, er, bs2, k1, k2, k3⟩ => ⟨_, k1, hK _ _ [] (hF.underT k3 keepsOk ⟨_, _, rfl⟩ ⟨B2, d2, er, bs2, rfl, k2⟩ (fun g hg => by cases hg))⟩
      case r15 =>
        refine step_ofT rfl rfl ?_
        intro a wx vs fp K hF hK
        have hm : ∃ x y, vs 14 = .tuple #[x, y] := hF.va 14 rfl
        exact op_move rfl (hF.ev 14 118 rfl rfl) (hK _ _ _ (hF.onlyT keepsOk ⟨rfl, hm⟩ trivial))
      case r16 =>
        refine step_ofT rfl rfl ?_
        intro a wx vs fp K hF hK
        have hm : MvTF [vs 14] (vs 15) := hF.va 15 rfl
        obtain ⟨_, x, y, hv⟩ := hm
        exact op_extract rfl ((hF.ev 15 103 rfl rfl).trans hv) rfl (hK _ _ _ (hF.onlyT keepsOk ⟨x, y, congrArg some hv, rfl⟩ trivial))
      case r17 =>
        refine step_ofT rfl rfl ?_
        intro a wx vs fp K hF hK
        have hm : MvTF [vs 14] (vs 15) := hF.va 15 rfl
        obtain ⟨_, x, y, hv⟩ := hm
        exact op_extract rfl ((hF.ev 15 103 rfl rfl).trans hv) rfl (hK _ _ _ (hF.onlyT keepsOk ⟨x, y, congrArg some hv, rfl⟩ trivial))
      case r18 =>
        refine step_ofT rfl rfl ?_
        intro a wx vs fp K hF hK
        exact op_assign rfl (hF.ev 16 119 rfl rfl) (hK _ _ _ (hF.onlyT keepsOk rfl trivial))
      case r19 =>
        refine step_ofT rfl rfl ?_
        intro a wx vs fp K hF hK
        exact op_assign rfl (hF.ev 17 120 rfl rfl) (hK _ _ _ (hF.onlyT keepsOk rfl trivial))
      case fin =>
        intro wz vs fp hI
        have hM : ActRT (fun s => EstOk s (cs ++ [⟨free, q1, 0⟩]) (free + 1)) [vs 3, vs 7, vs 12, vs 13] (vs 14) (fp 14) wz := (hI.finM 14 (by decide) rfl).1
        have f1 : MvTF [vs 14] (vs 15) := hI.fin 15 (by decide)
        have f2 : Ex0F [vs 15] (vs 16) := hI.fin 16 (by decide)
        have f3 : Ex1F [vs 15] (vs 17) := hI.fin 17 (by decide)
        have f4 : vs 16 = vs 18 := Option.some.inj (hI.fin 18 (by decide))
        have f5 : vs 17 = vs 19 := Option.some.inj (hI.fin 19 (by decide))
        have hkp := HEW.out wz hI.below
        obtain ⟨B2, d2, er, bs2, h14, hr⟩ := hM
        obtain ⟨x, y, g2, g3⟩ := f2
        obtain ⟨x', y', g4, g5⟩ := f3
        have g1 := f1.1
        simp only [List.getElem?_cons_zero, Option.some.injEq] at g1 g2 g4
        have h18 : vs 18 = .slice B2 bs2.length d2 := by
          have e := g1.trans g2
          rw [h14] at e
          injection e with e
          have e2 := congrArg (·[0]!) e
          rw [← f4, g3]
          exact e2.symm
        have h19 : vs 19 = .int .i64 er := by
          have e := g1.trans g4
          rw [h14] at e
          injection e with e
          have e2 := congrArg (·[1]!) e
          rw [← f5, g5]
          exact e2.symm
        have HR := Lib.hid hr
        have HKP := Lib.hid hkp
        clear hI f1 f4 f5 g1 g2 g3 g4 g5 h14 hr hkp hst
        simp only [rj, number, putJ, List.map_cons, List.map_nil, if_true, Act.put, List.setIfInBounds_toArray, List.set_cons_zero, List.set_cons_succ, h18, h19]
        generalize vs 0 = zv0
        generalize vs 1 = zv1
        generalize vs 2 = zv2
        generalize vs 3 = zv3
        generalize vs 4 = zv4
        generalize vs 5 = zv5
        generalize vs 6 = zv6
        generalize vs 7 = zv7
        generalize vs 8 = zv8
        generalize vs 9 = zv9
        generalize vs 10 = zv10
        generalize vs 11 = zv11
        generalize vs 12 = zv12
        generalize vs 13 = zv13
        generalize vs 14 = zv14
        generalize vs 15 = zv15
        generalize vs 16 = zv16
        generalize vs 17 = zv17
        obtain ⟨J, hJ, hP⟩ := HKP.out
        have HP := Lib.hid hP
        have hJJ : nextI m (nextI m I) ≤ J := Nat.le_trans HJ2.out hJ
        have hJ1 : nextI m I ≤ J := Nat.le_trans (nextI_ge m _) hJJ
        clear hJ hP
        by_cases he : er = 0
        · have d1 : (er == 0) = true := by simpa using he
          obtain ⟨hst, hok⟩ := HR.out he
          have HST := Lib.hid hst
          have HOK := Lib.hid hok
          subst he
          clear hst hok d1
          have HOA : Hid ((wz.drew.alloc (.cells #[.int .i64 free, .int .i64 q1, .int .i64 0] 61)).ownsRow w0.heap.size 61 3 (.slice B k d) k (flat encCh cs)) := own_alloc (w := wz.drew) HP.out.own _
          have HRD : Hid (Rd (wz.drew.alloc (.cells #[.int .i64 free, .int .i64 q1, .int .i64 0] 61)) 3 (some ⟨wz.drew.heap.size, 0, none⟩) 1 (encCh ⟨free, q1, 0⟩)) := rd_bl (xs := encCh ⟨free, q1, 0⟩) (Bl.new _ _ _) rfl
          have HON := Lib.hid (encCh_one ⟨free, q1, 0⟩)
          have HM1 : Hid (k + 1 ≤ maxLen ∧ (k + 1) * 24 ≤ 140737488355328) := ⟨by unfold maxLen; omega, by omega⟩
          have HSZ : Hid (w0.heap.size ≤ (wz.drew.alloc (.cells #[.int .i64 free, .int .i64 q1, .int .i64 0] 61)).heap.size) := Nat.le_trans HP.out.below.size (by simp)
          have HXG : Hid (∀ w8, (wz.drew.alloc (.cells #[.int .i64 free, .int .i64 q1, .int .i64 0] 61)).grownBy w8 (Value.slice B k d).ownBlock → Bl w8 gx 26 #[.slice A n c, .slice B k d, .int .i64 free]) := fun w8 hg => by
            have hbx : Bl (wz.drew.alloc (.cells #[.int .i64 free, .int .i64 q1, .int .i64 0] 61)) gx 26 #[.slice A n c, .slice B k d, .int .i64 free] := Bl.alloc (w := wz.drew) HP.out.bx _
            exact (hg.block gx hbx.lt (fun e => own_far29 HOA.out hbx (by decide) e.symm)).trans hbx
          have x0 : wz.cell? ⟨gx, 0, none⟩ = some (.slice A n c) := HP.out.bx.cell 0
          have x1 : wz.cell? ⟨gx, 1, none⟩ = some (.slice B k d) := HP.out.bx.cell 1
          have x2 : wz.cell? ⟨gx, 2, none⟩ = some (.int .i64 free) := HP.out.bx.cell 2
          have x1a : (wz.alloc (.cells #[.int .i64 free, .int .i64 q1, .int .i64 0] 61)).cell? ⟨gx, 1, none⟩ = some (.slice B k d) := (Bl.alloc HP.out.bx _).cell 1
          have x2a : (wz.alloc (.cells #[.int .i64 free, .int .i64 q1, .int .i64 0] 61)).cell? ⟨gx, 2, none⟩ = some (.int .i64 free) := (Bl.alloc HP.out.bx _).cell 2
          go_upto_region 22 with (fail)
          go_region_law (refine step_append_rd _ rfl (.tmp 127) (.tmp 134) 24 rfl w0.heap.size 61 _ 3 24 Tryz.underlying24 infoCh rfl (by decide) (.slice B k d) k _ rfl HOA.out (some ⟨wz.drew.heap.size, 0, none⟩) 1 _ (encCh ⟨free, q1, 0⟩) rfl HRD.out HON.out HM1.out.1 HM1.out.2 HSZ.out ?_; intro v8 w8 ho8 hg8; obtain ⟨B8, d8, rfl⟩ := own_slice ho8; have y8 : w8.cell? ⟨gx, 1, none⟩ = some (.slice B k d) := (HXG.out _ hg8).cell 1; have f8 : w8.frozen? ⟨gx, 1, none⟩ = false := (HXG.out _ hg8).free 1)
          all_goals
            go_wp2_with fail
            go_meet
            exact ActM.pres HP.out _ HST.out HOK.out ho8 hg8 hJJ
        · have d1 : (er == 0) = false := by simpa using he
          have HEN := Lib.hid he
          clear he
          go_wp2_with fail
          go_meet
          exact ActM.no HP.out hJ1 HEN.out (by decide) (by decide)
set_option maxRecDepth 100000 in
set_option maxHeartbeats 64000000 in
theorem Act_v1 (w0 w : World) (gx gs : Nat) (LA : Option Addr) (m lc I : Nat) (xs : List Int) (A : Option Addr) (n c : Nat) (bs : List Lb) (B : Option Addr) (k d : Nat) (cs : List Ch) (free : Int) (h : EsM w0 w gx gs LA m lc I A n c bs B k d cs free) (hI : Ints w0 LA m xs) (hv8 : nextV xs m I 8 = 1) (hm : m ≤ 1000000) (hf : free ≤ 100000) (hk : k ≤ 1000) :
    Calls Tryz.prog 25 #[.pointer (some ⟨gx, 0, none⟩), .pointer (some ⟨gs, 0, none⟩)] w fun e w' => e = .returned (.tuple #[]) ∧ ActS w0 gx gs LA m lc I k free w' := by
  have HES := Lib.hid h
  have HN : Hid (NextC w0 gs LA m lc) := fun q J wx hS hb h1 h2 =>
    (next_any gs LA m lc J xs q w0 wx hS hI hb h.base.2 hm h1 h2).mono fun e w' ⟨h3, h4, h5⟩ => ⟨_, h3, (nextV_bounds xs m J q h1).1, (nextV_bounds xs m J q h1).2, h4, h5⟩
  have HSM : Hid (∀ (J : Nat) (wx : World), Src wx gs LA m lc J → RowKit.Below w0.heap.size w0 wx → Calls Tryz.prog 37 #[.pointer (some ⟨gs, 0, none⟩), .int .i64 30, .int .i64 100000] wx (SmlRes wx gs LA m lc J 100000)) := fun J wx hS hb => small29_any gs LA m lc J xs 30 100000 w0 wx hS hI hb h.base.2 hm (by decide) (by decide) (by decide)
  have hc0 : w.cell? ⟨gx, 0, none⟩ = some (.slice A n c) := h.bx.cell 0
  clear h
  go_enter Tryz.func25, Tryz.ntmps25
  go_upto_region 3 with (fail)
  go_wp2_with fail
  refine (next_any gs LA m lc I xs 8 w0 w HES.out.src hI HES.out.below HES.out.base.2 hm (by decide) (by decide)).mono ?_
  rintro e w1 ⟨rfl, ho1, hs1⟩
  rw [hv8]
  go_upto_block 0 with fail
  have HE1 : Hid (EsM w0 w1 gx gs LA m lc (nextI m I) A n c bs B k d cs free) := HES.out.only ho1 hs1
  clear ho1 hs1 hc0
  go_cut [4, 5, 6] (fun nx er us wx => ActM w0 w gx gs LA m lc I A n c bs B k d cs free nx er us wx)
  case rest =>
    obtain ⟨J, A', n', c', bs', ev, u, B', k', d', cs', rfl, rfl, rfl, hu0, hu1, hJ0, hJ1, hbx, hsr, hown, hkl, hbw, hok, hbad⟩ := hcut
    have HBX := Lib.hid hbx
    have HSR := Lib.hid hsr
    have HOW := Lib.hid hown
    have HBW := Lib.hid hbw
    have HOK := Lib.hid hok
    have HBAD := Lib.hid hbad
    have hgg : gx ≠ gs := HE1.out.ne
    clear hbx hsr hown hbw hok hbad
    cases de : (ev == 0)
    case false =>
      have hne : ev ≠ 0 := by simpa using de
      have HNE := Lib.hid hne
      clear hne
      go_wp2
      go_end0
      obtain ⟨h1, h2, h3⟩ := HBAD.out HNE.out
      subst h2 h3
      exact ⟨rfl, J, A, n, c, bs, B', _, d', _, free, ⟨HBX.out, HSR.out, hJ1, h1, HOW.out, hkl, HES.out.ok, HBW.out, HES.out.base⟩, hJ0, by omega, by omega, .inl rfl⟩
    case true =>
      obtain rfl : ev = 0 := by simpa using de
      clear de
      obtain ⟨h1, h2, h3⟩ := HOK.out rfl
      have H1 := Lib.hid h1
      have H2 := Lib.hid h2
      have H3 := Lib.hid h3
      clear h1 h2 h3
      have c0 : wc.cell? ⟨gx, 0, none⟩ = some (.slice A n c) := HBX.out.cell 0
      have c2 : wc.cell? ⟨gx, 2, none⟩ = some (.int .i64 free) := HBX.out.cell 2
      have f0 : wc.frozen? ⟨gx, 0, none⟩ = false := HBX.out.free 0
      have f2 : wc.frozen? ⟨gx, 2, none⟩ = false := HBX.out.free 2
      have hfp := HES.out.ok.pos
      have u1 : IntKind.i64.wrap (free + u) = free + u := IntWalk.i64_in _ (by omega)
      have HX2 : Hid (Bl ((wc.setCell ⟨gx, 0, none⟩ (.slice A' n' c')).setCell ⟨gx, 2, none⟩ (.int .i64 (free + u))) gx 26 #[.slice A' n' c', .slice B' k' d', .int .i64 (free + u)]) := by
        show Bl _ _ _ _
        have := (HBX.out.put 0 (.slice A' n' c')).put 2 (.int .i64 (free + u))
        simpa using this
      have HKP : Hid (Kp gx wc ((wc.setCell ⟨gx, 0, none⟩ (.slice A' n' c')).setCell ⟨gx, 2, none⟩ (.int .i64 (free + u)))) := ((Kp.refl gx wc).put 0 _).put 2 _
      go_wp2
      go_end0
      refine ⟨rfl, J, A', n', c', bs', B', k', d', cs', free + u, ⟨HX2.out, HKP.out.bl HSR.out (fun e => hgg e.symm), hJ1, H1.out.keeps (Keeps.kp HKP.out HBX.out (by decide) (by decide)), own_of_block HOW.out fun g hg => HKP.out.block g (own_lt HOW.out g hg) (fun e => own_far29 HOW.out HBX.out (by decide) (hg.trans (congrArg some e))), hkl, H2.out, HKP.out.under HBW.out HBW.out.size HES.out.base.1, HES.out.base⟩, hJ0, by omega, by omega, H3.out⟩
  case first =>
    · go_wp2_with fail
      refine (HSM.out (nextI m I) w1 HE1.out.src HE1.out.below).mono ?_
      rintro e w2 ⟨q, J2, rfl, hq0, hq1, hJ2, hJm, ho2, hs2⟩
      have HE2 : Hid (EsM w0 w2 gx gs LA m lc J2 A n c bs B k d cs free) := HE1.out.kp ho2.kp hs2 (hJm HE1.out.jm)
      have HJ2 := Lib.hid hJ2
      have u1 : IntKind.i64.wrap (1 + q) = 1 + q := IntWalk.i64_in _ (by omega)
      clear ho2 hs2 hJm hJ2
      go_upto_region 20 with (fail)
      clear u1
      obtain ⟨q1, hq1'⟩ : ∃ q1, 1 + q = q1 := ⟨_, rfl⟩
      rw [hq1']
      have HEW : Hid (∀ wx, RelK gs (zEs LA m lc J2) w2 wx → EsW w0 gx gs LA m lc J2 A n c bs B k d cs free wx) := fun wx hR => HE2.out.ofR hR
      have hst : RelK gs (zEs LA m lc J2) w2 w2.drew := RelK.start HE2.out.src.lt ⟨_, Nat.le_refl _, HE2.out.jm, HE2.out.src⟩
      refine wp_region_rowsT (kt := Keeps) (gK := gs) (zz := zEs LA m lc J2) [
        ⟨⟨some 104, [], []⟩, fun _ v => v = .pointer (some ⟨gx, 0, none⟩), NoRT⟩,
        ⟨⟨some 105, [0], []⟩, fun _ v => v = .pointer (some ⟨gx, 0, none⟩), NoRT⟩,
        ⟨⟨some 106, [1], []⟩, fun _ v => v = .pointer (some ⟨gx, 0, none⟩), NoRT⟩,
        ⟨⟨some 107, [2], []⟩, fun _ v => v = .slice A n c, NoRT⟩,
        ⟨⟨some 108, [], []⟩, fun _ v => v = .pointer (some ⟨gx, 0, none⟩), NoRT⟩,
        ⟨⟨some 109, [4], []⟩, fun _ v => v = .pointer (some ⟨gx, 0, none⟩), NoRT⟩,
        ⟨⟨some 110, [5], []⟩, fun _ v => v = .pointer (some ⟨gx, 2, none⟩), NoRT⟩,
        ⟨⟨some 111, [6], []⟩, fun _ v => v = .int .i64 free, NoRT⟩,
        ⟨⟨some 112, [], []⟩, NoFT, LitRT 9 #[.string (goodS 49), .string (goodS 50), .string (goodS 51), .string (goodS 52)] 4⟩,
        ⟨⟨some 113, [], []⟩, fun _ v => v = .pointer (some ⟨gs, 0, none⟩), NoRT⟩,
        ⟨⟨some 114, [9], []⟩, fun _ v => ∃ x : Nat, v = .int .i64 (x : Int) ∧ (x : Int) < 3, NoRT⟩,
        ⟨⟨some 115, [8, 10], [8]⟩, NoFT, AdrRT 9 #[.string (goodS 49), .string (goodS 50), .string (goodS 51), .string (goodS 52)] 3⟩,
        ⟨⟨some 116, [11], [11]⟩, fun _ v => ∃ s, code8 s ∧ v = .string s, NoRT⟩,
        ⟨⟨some 117, [], []⟩, fun _ v => v = .int .i64 q1, NoRT⟩,
        ⟨⟨some 118, [3, 7, 12, 13], []⟩, TupF, ActRT (fun s => EstOk s (cs ++ [⟨free, q1, 0⟩]) (free + 1))⟩,
        ⟨⟨some 103, [14], []⟩, MvTF, NoRT⟩,
        ⟨⟨some 119, [15], []⟩, Ex0F, NoRT⟩,
        ⟨⟨some 120, [15], []⟩, Ex1F, NoRT⟩,
        ⟨⟨some 4, [16], []⟩, SameF, NoRT⟩,
        ⟨⟨some 5, [17], []⟩, SameF, NoRT⟩] hst (by kernel_rfl) (by kernel_rfl) (by kernel_rfl) ⟨NoRT.loc, NoRT.loc, NoRT.loc, NoRT.loc, NoRT.loc, NoRT.loc, NoRT.loc, NoRT.loc, LitRT.loc, NoRT.loc, NoRT.loc, AdrRT.loc, NoRT.loc, NoRT.loc, ActRT.loc (R := fun s => EstOk s (cs ++ [⟨free, q1, 0⟩]) (free + 1)), NoRT.loc, NoRT.loc, NoRT.loc, NoRT.loc, NoRT.loc, trivial⟩ ⟨?r0, ?r1, ?r2, ?r3, ?r4, ?r5, ?r6, ?r7, ?r8, ?r9, ?r10, ?r11, ?r12, ?r13, ?r14, ?r15, ?r16, ?r17, ?r18, ?r19, trivial⟩ ?fin
      case r0 =>
        refine step_ofT rfl rfl ?_
        intro a wx vs fp K hF hK
        exact op_move rfl (hF.at_ 0 rfl) (hK _ _ _ (hF.onlyT keepsOk rfl trivial))
      case r1 =>
        refine step_ofT rfl rfl ?_
        intro a wx vs fp K hF hK
        have e1 : a.eval (.tmp 104) = .pointer (some ⟨gx, 0, none⟩) := (hF.ev 0 104 rfl rfl).trans (hF.va 0 rfl)
        refine op_value (v := .pointer (some ⟨gx, 0, none⟩)) ?_ (hK _ _ _ (hF.onlyT keepsOk rfl trivial))
        clear hF hK
        generalize a.eval = ρ at *
        go_simp
      case r2 =>
        refine step_ofT rfl rfl ?_
        intro a wx vs fp K hF hK
        have e1 : a.eval (.tmp 105) = .pointer (some ⟨gx, 0, none⟩) := (hF.ev 1 105 rfl rfl).trans (hF.va 1 rfl)
        refine op_value (v := .pointer (some ⟨gx, 0, none⟩)) ?_ (hK _ _ _ (hF.onlyT keepsOk rfl trivial))
        clear hF hK
        generalize a.eval = ρ at *
        go_simp
      case r3 =>
        refine step_ofT rfl rfl ?_
        intro a wx vs fp K hF hK
        have e1 : a.eval (.tmp 106) = .pointer (some ⟨gx, 0, none⟩) := (hF.ev 2 106 rfl rfl).trans (hF.va 2 rfl)
        have mc := (EsW.s (HEW.out wx hF.below)).1
        refine op_value (v := .slice A n c) ?_ (hK _ _ _ (hF.onlyT keepsOk rfl trivial))
        clear hF hK
        generalize a.eval = ρ at *
        go_simp
      case r4 =>
        refine step_ofT rfl rfl ?_
        intro a wx vs fp K hF hK
        exact op_move rfl (hF.at_ 0 rfl) (hK _ _ _ (hF.onlyT keepsOk rfl trivial))
      case r5 =>
        refine step_ofT rfl rfl ?_
        intro a wx vs fp K hF hK
        have e1 : a.eval (.tmp 108) = .pointer (some ⟨gx, 0, none⟩) := (hF.ev 4 108 rfl rfl).trans (hF.va 4 rfl)
        refine op_value (v := .pointer (some ⟨gx, 0, none⟩)) ?_ (hK _ _ _ (hF.onlyT keepsOk rfl trivial))
        clear hF hK
        generalize a.eval = ρ at *
        go_simp
      case r6 =>
        refine step_ofT rfl rfl ?_
        intro a wx vs fp K hF hK
        have e1 : a.eval (.tmp 109) = .pointer (some ⟨gx, 0, none⟩) := (hF.ev 5 109 rfl rfl).trans (hF.va 5 rfl)
        refine op_value (v := .pointer (some ⟨gx, 2, none⟩)) ?_ (hK _ _ _ (hF.onlyT keepsOk rfl trivial))
        clear hF hK
        generalize a.eval = ρ at *
        go_simp
      case r7 =>
        refine step_ofT rfl rfl ?_
        intro a wx vs fp K hF hK
        have e1 : a.eval (.tmp 110) = .pointer (some ⟨gx, 2, none⟩) := (hF.ev 6 110 rfl rfl).trans (hF.va 6 rfl)
        have mc := (EsW.s (HEW.out wx hF.below)).2.1
        refine op_value (v := .int .i64 free) ?_ (hK _ _ _ (hF.onlyT keepsOk rfl trivial))
        clear hF hK
        generalize a.eval = ρ at *
        go_simp
      case r8 =>
        refine step_ofT rfl rfl ?_
        intro a wx vs fp K hF hK
        refine op_call (vals := #[]) rfl (by kernel_rfl) (by simp) ?_
        exact (Goods_any wx).mono fun e w' ⟨h1, h2, h3⟩ => ⟨_, h1, hK _ _ [wx.heap.size] (hF.underT h3 keepsOk trivial ⟨_, rfl, rfl, h2⟩ (fun g hg => by rw [List.mem_singleton] at hg; subst hg; exact ⟨Nat.le_refl _, h2.lt⟩))⟩
      case r9 =>
        refine step_ofT rfl rfl ?_
        intro a wx vs fp K hF hK
        exact op_move rfl (hF.at_ 1 rfl) (hK _ _ _ (hF.onlyT keepsOk rfl trivial))
      case r10 =>
        refine step_ofT rfl rfl ?_
        intro a wx vs fp K hF hK
        have hv : vs 9 = .pointer (some ⟨gs, 0, none⟩) := hF.va 9 rfl
        refine op_call (vals := #[.pointer (some ⟨gs, 0, none⟩), .int .i64 3]) rfl (by kernel_rfl) ?_ ?_
        · simp only [List.map_toArray, List.map_cons, List.map_nil, hF.ev 9 113 rfl rfl, hv]
          rfl
        · have hes := HEW.out wx hF.below
          exact (EsW.nx HN.out (q := 3) (by decide) (by decide) hes).mono fun e w' ⟨x, h1, h2, h3, h4⟩ => ⟨_, h1, hK _ _ _ (hF.callT h3 (EsW.zs h4) (EsW.keeps hes h3) ⟨x, rfl, h2⟩ trivial)⟩
      case r11 =>
        refine step_ofT rfl rfl ?_
        intro a wx vs fp K hF hK
        have hm : LitRT 9 #[.string (goodS 49), .string (goodS 50), .string (goodS 51), .string (goodS 52)] 4 [] (vs 8) (fp 8) wx := hF.me 8 rfl
        obtain ⟨g, hg, hfg, hbl⟩ := hm
        obtain ⟨x, hx, hx1⟩ : ∃ x : Nat, vs 10 = .int .i64 (x : Int) ∧ (x : Int) < 3 := hF.va 10 rfl
        have e1 : a.eval (.tmp 112) = .slice (some ⟨g, 0, none⟩) 4 4 := (hF.ev 8 112 rfl rfl).trans hg
        have e2 : a.eval (.tmp 114) = .int .i64 (x : Int) := (hF.ev 10 114 rfl rfl).trans hx
        have hj : x < 4 := by omega
        have hj2 : (x : Int) < 4 := by omega
        have hj0 : (0 : Int) ≤ (x : Int) := by omega
        refine op_value (v := .pointer (some ⟨g, x, none⟩)) ?_ (hK _ _ _ (hF.handT 8 rfl keepsOk trivial ⟨g, x, rfl, by omega, hfg, hbl⟩))
        clear hF hK
        generalize a.eval = ρ at *
        go_simp
      case r12 =>
        refine step_ofT rfl rfl ?_
        intro a wx vs fp K hF hK
        have hm : AdrRT 9 #[.string (goodS 49), .string (goodS 50), .string (goodS 51), .string (goodS 52)] 3 [vs 8, vs 10] (vs 11) (fp 11) wx := hF.me 11 rfl
        obtain ⟨g, j, hg, hj, hfg, hbl⟩ := hm
        obtain ⟨s, hs, mc⟩ := str_at hbl hj
        have e1 : a.eval (.tmp 115) = .pointer (some ⟨g, j, none⟩) := (hF.ev 11 115 rfl rfl).trans hg
        refine op_value (v := .string s) ?_ (hK _ _ _ (hF.onlyT keepsOk ⟨s, hs, rfl⟩ trivial))
        clear hF hK hbl
        generalize a.eval = ρ at *
        go_simp
      case r13 =>
        refine step_ofT rfl rfl ?_
        intro a wx vs fp K hF hK
        exact op_move rfl (hF.at_ 7 rfl) (hK _ _ _ (hF.onlyT keepsOk rfl trivial))
      case r14 =>
        refine step_ofT rfl rfl ?_
        intro a wx vs fp K hF hK
        have h1 : vs 3 = .slice A n c := hF.va 3 rfl
        have h2 : vs 7 = .int .i64 free := hF.va 7 rfl
        obtain ⟨s, hs, h3⟩ : ∃ s, code8 s ∧ vs 12 = .string s := hF.va 12 rfl
        have h4 : vs 13 = .int .i64 q1 := hF.va 13 rfl
        refine op_call (vals := #[.slice A n c, .int .i64 free, .string s, .int .i64 q1]) rfl (by kernel_rfl) ?_ ?_
        · simp only [List.map_toArray, List.map_cons, List.map_nil, hF.ev 3 107 rfl rfl, hF.ev 7 111 rfl rfl, hF.ev 12 116 rfl rfl, hF.ev 13 117 rfl rfl, h1, h2, h3, h4]
        · obtain ⟨J, hJ, hes⟩ := HEW.out wx hF.below
          exact (Present_any A n c bs cs free q1 s wx hes.st hes.ok hs).mono fun e w' ⟨B2, d2, er, bs2, k1, k2, k3⟩ => ⟨_, k1, hK _ _ [] (hF.underT k3 keepsOk ⟨_, _, rfl⟩ ⟨B2, d2, er, bs2, rfl, k2⟩ (fun g hg => by cases hg))⟩
      case r15 =>
        refine step_ofT rfl rfl ?_
        intro a wx vs fp K hF hK
        have hm : ∃ x y, vs 14 = .tuple #[x, y] := hF.va 14 rfl
        exact op_move rfl (hF.ev 14 118 rfl rfl) (hK _ _ _ (hF.onlyT keepsOk ⟨rfl, hm⟩ trivial))
      case r16 =>
        refine step_ofT rfl rfl ?_
        intro a wx vs fp K hF hK
        have hm : MvTF [vs 14] (vs 15) := hF.va 15 rfl
        obtain ⟨_, x, y, hv⟩ := hm
        exact op_extract rfl ((hF.ev 15 103 rfl rfl).trans hv) rfl (hK _ _ _ (hF.onlyT keepsOk ⟨x, y, congrArg some hv, rfl⟩ trivial))
      case r17 =>
        refine step_ofT rfl rfl ?_
        intro a wx vs fp K hF hK
        have hm : MvTF [vs 14] (vs 15) := hF.va 15 rfl
        obtain ⟨_, x, y, hv⟩ := hm
        exact op_extract rfl ((hF.ev 15 103 rfl rfl).trans hv) rfl (hK _ _ _ (hF.onlyT keepsOk ⟨x, y, congrArg some hv, rfl⟩ trivial))
      case r18 =>
        refine step_ofT rfl rfl ?_
        intro a wx vs fp K hF hK
        exact op_assign rfl (hF.ev 16 119 rfl rfl) (hK _ _ _ (hF.onlyT keepsOk rfl trivial))
      case r19 =>
        refine step_ofT rfl rfl ?_
        intro a wx vs fp K hF hK
        exact op_assign rfl (hF.ev 17 120 rfl rfl) (hK _ _ _ (hF.onlyT keepsOk rfl trivial))
      case fin =>
        intro wz vs fp hI
        have hM : ActRT (fun s => EstOk s (cs ++ [⟨free, q1, 0⟩]) (free + 1)) [vs 3, vs 7, vs 12, vs 13] (vs 14) (fp 14) wz := (hI.finM 14 (by decide) rfl).1
        have f1 : MvTF [vs 14] (vs 15) := hI.fin 15 (by decide)
        have f2 : Ex0F [vs 15] (vs 16) := hI.fin 16 (by decide)
        have f3 : Ex1F [vs 15] (vs 17) := hI.fin 17 (by decide)
        have f4 : vs 16 = vs 18 := Option.some.inj (hI.fin 18 (by decide))
        have f5 : vs 17 = vs 19 := Option.some.inj (hI.fin 19 (by decide))
        have hkp := HEW.out wz hI.below
        obtain ⟨B2, d2, er, bs2, h14, hr⟩ := hM
        obtain ⟨x, y, g2, g3⟩ := f2
        obtain ⟨x', y', g4, g5⟩ := f3
        have g1 := f1.1
        simp only [List.getElem?_cons_zero, Option.some.injEq] at g1 g2 g4
        have h18 : vs 18 = .slice B2 bs2.length d2 := by
          have e := g1.trans g2
          rw [h14] at e
          injection e with e
          have e2 := congrArg (·[0]!) e
          rw [← f4, g3]
          exact e2.symm
        have h19 : vs 19 = .int .i64 er := by
          have e := g1.trans g4
          rw [h14] at e
          injection e with e
          have e2 := congrArg (·[1]!) e
          rw [← f5, g5]
          exact e2.symm
        have HR := Lib.hid hr
        have HKP := Lib.hid hkp
        clear hI f1 f4 f5 g1 g2 g3 g4 g5 h14 hr hkp hst
        simp only [rj, number, putJ, List.map_cons, List.map_nil, if_true, Act.put, List.setIfInBounds_toArray, List.set_cons_zero, List.set_cons_succ, h18, h19]
        generalize vs 0 = zv0
        generalize vs 1 = zv1
        generalize vs 2 = zv2
        generalize vs 3 = zv3
        generalize vs 4 = zv4
        generalize vs 5 = zv5
        generalize vs 6 = zv6
        generalize vs 7 = zv7
        generalize vs 8 = zv8
        generalize vs 9 = zv9
        generalize vs 10 = zv10
        generalize vs 11 = zv11
        generalize vs 12 = zv12
        generalize vs 13 = zv13
        generalize vs 14 = zv14
        generalize vs 15 = zv15
        generalize vs 16 = zv16
        generalize vs 17 = zv17
        obtain ⟨J, hJ, hP⟩ := HKP.out
        have HP := Lib.hid hP
        have hJJ : nextI m (nextI m I) ≤ J := Nat.le_trans HJ2.out hJ
        have hJ1 : nextI m I ≤ J := Nat.le_trans (nextI_ge m _) hJJ
        clear hJ hP
        by_cases he : er = 0
        · have d1 : (er == 0) = true := by simpa using he
          obtain ⟨hst, hok⟩ := HR.out he
          have HST := Lib.hid hst
          have HOK := Lib.hid hok
          subst he
          clear hst hok d1
          have HOA : Hid ((wz.drew.alloc (.cells #[.int .i64 free, .int .i64 q1, .int .i64 0] 61)).ownsRow w0.heap.size 61 3 (.slice B k d) k (flat encCh cs)) := own_alloc (w := wz.drew) HP.out.own _
          have HRD : Hid (Rd (wz.drew.alloc (.cells #[.int .i64 free, .int .i64 q1, .int .i64 0] 61)) 3 (some ⟨wz.drew.heap.size, 0, none⟩) 1 (encCh ⟨free, q1, 0⟩)) := rd_bl (xs := encCh ⟨free, q1, 0⟩) (Bl.new _ _ _) rfl
          have HON := Lib.hid (encCh_one ⟨free, q1, 0⟩)
          have HM1 : Hid (k + 1 ≤ maxLen ∧ (k + 1) * 24 ≤ 140737488355328) := ⟨by unfold maxLen; omega, by omega⟩
          have HSZ : Hid (w0.heap.size ≤ (wz.drew.alloc (.cells #[.int .i64 free, .int .i64 q1, .int .i64 0] 61)).heap.size) := Nat.le_trans HP.out.below.size (by simp)
          have HXG : Hid (∀ w8, (wz.drew.alloc (.cells #[.int .i64 free, .int .i64 q1, .int .i64 0] 61)).grownBy w8 (Value.slice B k d).ownBlock → Bl w8 gx 26 #[.slice A n c, .slice B k d, .int .i64 free]) := fun w8 hg => by
            have hbx : Bl (wz.drew.alloc (.cells #[.int .i64 free, .int .i64 q1, .int .i64 0] 61)) gx 26 #[.slice A n c, .slice B k d, .int .i64 free] := Bl.alloc (w := wz.drew) HP.out.bx _
            exact (hg.block gx hbx.lt (fun e => own_far29 HOA.out hbx (by decide) e.symm)).trans hbx
          have x0 : wz.cell? ⟨gx, 0, none⟩ = some (.slice A n c) := HP.out.bx.cell 0
          have x1 : wz.cell? ⟨gx, 1, none⟩ = some (.slice B k d) := HP.out.bx.cell 1
          have x2 : wz.cell? ⟨gx, 2, none⟩ = some (.int .i64 free) := HP.out.bx.cell 2
          have x1a : (wz.alloc (.cells #[.int .i64 free, .int .i64 q1, .int .i64 0] 61)).cell? ⟨gx, 1, none⟩ = some (.slice B k d) := (Bl.alloc HP.out.bx _).cell 1
          have x2a : (wz.alloc (.cells #[.int .i64 free, .int .i64 q1, .int .i64 0] 61)).cell? ⟨gx, 2, none⟩ = some (.int .i64 free) := (Bl.alloc HP.out.bx _).cell 2
          go_upto_region 22 with (fail)
          go_region_law (refine step_append_rd _ rfl (.tmp 127) (.tmp 134) 24 rfl w0.heap.size 61 _ 3 24 Tryz.underlying24 infoCh rfl (by decide) (.slice B k d) k _ rfl HOA.out (some ⟨wz.drew.heap.size, 0, none⟩) 1 _ (encCh ⟨free, q1, 0⟩) rfl HRD.out HON.out HM1.out.1 HM1.out.2 HSZ.out ?_; intro v8 w8 ho8 hg8; obtain ⟨B8, d8, rfl⟩ := own_slice ho8; have y8 : w8.cell? ⟨gx, 1, none⟩ = some (.slice B k d) := (HXG.out _ hg8).cell 1; have f8 : w8.frozen? ⟨gx, 1, none⟩ = false := (HXG.out _ hg8).free 1)
          all_goals
            go_wp2_with fail
            go_meet
            exact ActM.pres HP.out _ HST.out HOK.out ho8 hg8 hJJ
        · have d1 : (er == 0) = false := by simpa using he
          have HEN := Lib.hid he
          clear he
          go_wp2_with fail
          go_meet
          exact ActM.no HP.out hJ1 HEN.out (by decide) (by decide)
end Go.Proofs.YthnhgjhnkncmiaaGreat

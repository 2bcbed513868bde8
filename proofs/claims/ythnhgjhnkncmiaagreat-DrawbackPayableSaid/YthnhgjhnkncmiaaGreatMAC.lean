/-
  A region that draws its order: one invariant for all orders, each operation shown once. No statement of the seat is proved here.
  The laws of single operations for regions that draw their order. No statement of the seat is proved here.
  The arithmetic of math/bits.Div64 (division of 128 bits by 64, digit by digit), in plain numbers. No statement of the seat is proved here. No conditions beyond those typed.
  Contract of math/bits.Div64: quotient and remainder of 128 bits by 64. No statement of the seat is proved here. Conditions: the divisor is above the head.
-/
import Derived.OrdersHeld
import Derived.Below
import Derived.Test.YthnhgjhnkncmiaaGreatMAA
import Derived.Lib.Hide
import Derived.Test.YthnhgjhnkncmiaaGreatProg
import Derived.BigQuiet
import Derived.Deep.QuietTactic
import Derived.WalkLawsBesides
import Derived.Laws.Bits64b
namespace Go.Proofs.YthnhgjhnkncmiaaGreat
open Go.RowKit
set_option linter.unusedVariables false

section
variable {P : Program} {ops : Array Oper} {Q : Exit → Act → World → Prop} {md : Region.Mode}

theorem count_set {l : List Bool} {i : Nat} (h : l[i]? = some false) : (l.set i true).count false + 1 = l.count false := by
  induction l generalizing i with
  | nil => simp at h
  | cons x xs ih =>
    cases i with
    | zero => simp at h; subst h; simp
    | succ i => simp at h; have := ih h; simp [List.count_cons]; omega

/-- An invariant that every operation that may come up keeps. -/
theorem wpAny_of_inv (I : Array Bool → Act → World → Prop)
    (hs : ∀ listed a w, I listed a w → listed.size = ops.size)
    (hdone : ∀ listed a w, I listed a w → Region.ready md ops listed = [] → Q .normal a w)
    (hstep : ∀ listed a w i, I listed a w → i ∈ Region.ready md ops listed → wpOp P ops Q i (I (listed.setIfInBounds i true)) a w) :
    ∀ (fuel : Nat) (listed : Array Bool) (a : Act) (w : World), I listed a w → listed.toList.count false ≤ fuel → wpAny P md ops Q fuel listed a w := by
  have hun : ∀ (listed : Array Bool) (i : Nat), i ∈ Region.ready md ops listed → listed.toList[i]? = some false := fun listed i hi => by
    have := (mem_ready.1 hi).1
    rcases Nat.lt_or_ge i listed.size with h | h
    · simp [h] at this ⊢; exact this
    · simp [Array.getD, Nat.not_lt.2 h] at this
  intro fuel
  induction fuel with
  | zero =>
    intro listed a w hI hc
    have hr : Region.ready md ops listed = [] := by
      cases hr : Region.ready md ops listed with
      | nil => rfl
      | cons i is =>
        have := count_set (hun listed i (by rw [hr]; simp))
        omega
    exact ⟨hr, hdone _ _ _ hI hr⟩
  | succ fuel ih =>
    intro listed a w hI hc
    refine ⟨fun hr => hdone _ _ _ hI hr, fun i hi => ?_⟩
    refine wpOp_mono (fun a' w' h => ih _ _ _ h ?_) (hstep _ _ _ i hI hi)
    have := count_set (hun listed i hi)
    simp
    omega

end

/-- What is known of an operation without looking into it: its slot, the operations whose values it reads, those whose memory it takes over. -/
structure Job where
  dst : Option Tmp
  deps : List Nat
  eats : List Nat

/-- The frame behind the operations that have come up. -/
def putJ : List (Nat × Job) → (Nat → Bool) → (Nat → Value) → Act → Act
  | [], _, _, a => a
  | (i, j) :: r, L, vs, a => putJ r L vs (if L i then a.put j.dst (vs i) else a)

def number (js : List Job) : Nat → List (Nat × Job)
  | k => match js with
    | [] => []
    | j :: r => (k, j) :: number r (k + 1)

theorem mem_number {js : List Job} {k i : Nat} {j : Job} (h : (i, j) ∈ number js k) : k ≤ i ∧ js[i - k]? = some j := by
  induction js generalizing k with
  | nil => simp [number] at h
  | cons x xs ih =>
    simp [number] at h
    rcases h with ⟨rfl, rfl⟩ | h
    · simp
    · have := ih h
      refine ⟨by omega, ?_⟩
      rw [show i - k = (i - (k + 1)) + 1 by omega]
      simpa using this.2
theorem number_mem {js : List Job} {k i : Nat} {j : Job} (h : js[i]? = some j) : (k + i, j) ∈ number js k := by
  induction js generalizing k i with
  | nil => simp at h
  | cons x xs ih =>
    cases i with
    | zero => simp at h; subst h; simp [number]
    | succ i => simp at h; have := ih (k := k + 1) h; simp [number]; rw [show k + (i + 1) = k + 1 + i by omega]; exact this

/-- No two operations of the list have the same slot. -/
def dstsOk : List (Nat × Job) → Bool
  | [] => true
  | (i, j) :: r => (r.all fun p => p.1 != i && (match j.dst with | some d => p.2.dst != some d | none => true)) && dstsOk r

theorem dstsOk_cons {i : Nat} {j : Job} {r : List (Nat × Job)} (h : dstsOk ((i, j) :: r) = true) : (∀ p ∈ r, p.1 ≠ i ∧ ∀ d, j.dst = some d → p.2.dst ≠ some d) ∧ dstsOk r = true := by
  simp only [dstsOk, Bool.and_eq_true, List.all_eq_true] at h
  refine ⟨fun p hp => ?_, h.2⟩
  have := h.1 p hp
  simp only [bne_iff_ne, ne_eq] at this
  refine ⟨this.1, fun d hd => ?_⟩
  have h2 := this.2
  rw [hd] at h2
  simpa using h2

theorem putJ_put {l : List (Nat × Job)} (hl : dstsOk l = true) (L : Nat → Bool) (vs : Nat → Value) (d : Option Tmp) (v : Value) (a : Act) (hd : ∀ p ∈ l, ∀ e, d = some e → p.2.dst ≠ some e) :
    putJ l L vs (a.put d v) = (putJ l L vs a).put d v := by
  induction l generalizing a with
  | nil => rfl
  | cons p r ih =>
    obtain ⟨i, j⟩ := p
    have h1 := dstsOk_cons hl
    simp only [putJ]
    rw [← ih h1.2 _ (fun p hp => hd p (List.mem_cons_of_mem _ hp))]
    congr 1
    split
    · exact Act.put_comm a (x := d) (y := j.dst) v (vs i) (fun e he => hd (i, j) (List.mem_cons_self ..) e he)
    · rfl
theorem putJ_congr {l : List (Nat × Job)} {L L' : Nat → Bool} {vs vs' : Nat → Value} {a : Act} (h : ∀ p ∈ l, L p.1 = L' p.1 ∧ (L p.1 = true → vs p.1 = vs' p.1)) : putJ l L vs a = putJ l L' vs' a := by
  induction l generalizing a with
  | nil => rfl
  | cons p r ih =>
    obtain ⟨i, j⟩ := p
    have h1 := h (i, j) (List.mem_cons_self ..)
    simp only [putJ]
    rw [← h1.1]
    cases hL : L i with
    | false => simp only [Bool.false_eq_true, if_false]; exact ih fun p hp => h p (List.mem_cons_of_mem _ hp)
    | true => simp only [if_true]; rw [h1.2 hL]; exact ih fun p hp => h p (List.mem_cons_of_mem _ hp)
/-- One operation more. -/
theorem putJ_step {l : List (Nat × Job)} (hl : dstsOk l = true) {L : Nat → Bool} {vs : Nat → Value} {a : Act} {i : Nat} {j : Job} (hi : (i, j) ∈ l) (hL : L i = false) (v : Value) :
    putJ l (fun k => if k = i then true else L k) (fun k => if k = i then v else vs k) a = (putJ l L vs a).put j.dst v := by
  induction l generalizing a with
  | nil => cases hi
  | cons p r ih =>
    obtain ⟨k, q⟩ := p
    have h1 := dstsOk_cons hl
    rcases List.mem_cons.1 hi with e | hr
    · injection e with e1 e2
      subst e1 e2
      simp only [putJ, hL, if_true, Bool.false_eq_true, if_false]
      rw [← putJ_put h1.2 L vs j.dst v a (fun p hp => (h1.1 p hp).2)]
      exact putJ_congr fun p hp => by simp [(h1.1 p hp).1]
    · have hne : k ≠ i := fun e => (h1.1 _ hr).1 e.symm
      simp only [putJ, hne, if_false]
      exact ih h1.2 hr
theorem putJ_free' {l : List (Nat × Job)} {L : Nat → Bool} {vs : Nat → Value} {a : Act} {t : Tmp} (h : ∀ p ∈ l, p.2.dst = some t → L p.1 = false) : (putJ l L vs a).eval (.tmp t) = a.eval (.tmp t) := by
  induction l generalizing a with
  | nil => rfl
  | cons p r ih =>
    obtain ⟨k, q⟩ := p
    simp only [putJ]
    rw [ih fun p hp => h p (List.mem_cons_of_mem _ hp)]
    cases hL : L k with
    | false => rfl
    | true =>
      simp only [if_true]
      refine Act.eval_put fun d hd e => ?_
      injection e with e
      have := h (k, q) (List.mem_cons_self ..) (by rw [hd, e])
      simp only at this
      rw [hL] at this; cases this
theorem putJ_free {l : List (Nat × Job)} {L : Nat → Bool} {vs : Nat → Value} {a : Act} {x : Operand} (h : ∀ p ∈ l, ∀ d, p.2.dst = some d → x ≠ .tmp d) : (putJ l L vs a).eval x = a.eval x := by
  induction l generalizing a with
  | nil => rfl
  | cons p r ih =>
    obtain ⟨k, q⟩ := p
    simp only [putJ]
    rw [ih fun p hp => h p (List.mem_cons_of_mem _ hp)]
    split
    · exact Act.eval_put fun d hd => h (k, q) (List.mem_cons_self ..) d hd
    · rfl
theorem eval_put_self {a : Act} {d : Tmp} {v : Value} (hd : d < a.tmps.size) : (a.put (some d) v).eval (.tmp d) = v := by
  simp [Act.put, Act.eval, hd]
theorem put_size (a : Act) (d : Option Tmp) (v : Value) : (a.put d v).tmps.size = a.tmps.size := by
  cases d <;> simp [Act.put]
theorem putJ_size {l : List (Nat × Job)} {L : Nat → Bool} {vs : Nat → Value} {a : Act} : (putJ l L vs a).tmps.size = a.tmps.size := by
  induction l generalizing a with
  | nil => rfl
  | cons p r ih =>
    obtain ⟨k, q⟩ := p
    simp only [putJ]
    rw [ih]
    split
    · exact put_size ..
    · rfl
theorem putJ_at {l : List (Nat × Job)} (hl : dstsOk l = true) {L : Nat → Bool} {vs : Nat → Value} {a : Act} {i : Nat} {j : Job} (hi : (i, j) ∈ l) (hL : L i = true) {d : Tmp} (hd : j.dst = some d) (hsz : d < a.tmps.size) :
    (putJ l L vs a).eval (.tmp d) = vs i := by
  induction l generalizing a with
  | nil => cases hi
  | cons p r ih =>
    obtain ⟨k, q⟩ := p
    have h1 := dstsOk_cons hl
    simp only [putJ]
    rcases List.mem_cons.1 hi with e | hr
    · injection e with e1 e2
      subst e1 e2
      rw [putJ_free fun p hp e he h => ?_]
      · rw [hL, if_pos rfl, hd]; exact eval_put_self hsz
      · injection h with h
        exact (h1.1 p hp).2 d hd (by rw [he, h])
    · refine ih h1.2 hr ?_
      split
      · rw [put_size]; exact hsz
      · exact hsz

/-- The bookkeeping fits the region. -/
def fitsJ (ops : Array Oper) (js : List Job) : Bool :=
  ops.size == js.length && dstsOk (number js 0) &&
  (number js 0).all fun p =>
    (match ops[p.1]? with
      | some o => (match p.2.dst, o.dst with | some d, some e => d == e | none, none => true | _, _ => false) && o.guard.isNone &&
          (o.after.toList.all fun e => !Region.binds .any e || decide (e.on < p.1)) &&
          p.2.deps.all (fun d => o.after.toList.any fun e => Region.binds .any e && e.on == d)
      | none => false) &&
    p.2.eats.all (fun d => p.2.deps.contains d) &&
    (number js 0).all (fun q => q.1 == p.1 || p.2.eats.all fun d => !q.2.eats.contains d)

theorem fitsJ_spec {ops : Array Oper} {js : List Job} (h : fitsJ ops js = true) :
    ops.size = js.length ∧ dstsOk (number js 0) = true ∧ ∀ i j, js[i]? = some j → ∃ o, ops[i]? = some o ∧ o.dst = j.dst ∧ o.guard = none ∧
      (∀ e ∈ o.after, Region.binds .any e = true → e.on < i) ∧ (∀ d ∈ j.deps, ∃ e ∈ o.after, Region.binds .any e = true ∧ e.on = d) ∧
      (∀ d ∈ j.eats, d ∈ j.deps) ∧ ∀ k q, js[k]? = some q → k ≠ i → ∀ d ∈ j.eats, d ∉ q.eats := by
  unfold fitsJ at h
  simp only [Bool.and_eq_true, List.all_eq_true, beq_iff_eq] at h
  obtain ⟨⟨h1, h2⟩, h3⟩ := h
  refine ⟨h1, h2, fun i j hj => ?_⟩
  have hm : (i, j) ∈ number js 0 := by have := number_mem (k := 0) hj; rwa [Nat.zero_add] at this
  obtain ⟨⟨h4, h5⟩, h6⟩ := h3 _ hm
  cases ho : ops[i]? with
  | none => simp only [ho] at h4; cases h4
  | some o =>
    simp only [ho, Bool.and_eq_true] at h4
    obtain ⟨⟨⟨h7, h8⟩, h9⟩, h10⟩ := h4
    refine ⟨o, rfl, ?_, ?_, fun e he hb => ?_, fun d hd => ?_, fun d hd => ?_, fun k q hk hne d hd => ?_⟩
    · cases ha : o.dst <;> cases hb : j.dst <;> simp [ha, hb] at h7 ⊢
      exact h7.symm
    · simpa using h8
    · simp only [List.all_eq_true] at h9
      have := h9 e (by simpa using he)
      simpa [hb] using this
    · simp only [List.all_eq_true] at h10
      have := h10 d hd
      simp only [List.any_eq_true] at this
      obtain ⟨e, he, h11⟩ := this
      simp only [Bool.and_eq_true, beq_iff_eq] at h11
      exact ⟨e, by simpa using he, h11.1, h11.2⟩
    · have := h5 d hd
      simpa using this
    · have := h6 (k, q) (by have := number_mem (k := 0) hk; rwa [Nat.zero_add] at this)
      simp only [Bool.or_eq_true, beq_iff_eq, hne, false_or, List.all_eq_true] at this
      simpa using this d hd

/-- The values that operation number i reads. -/
def dv (js : List Job) (i : Nat) (vs : Nat → Value) : List Value := match js[i]? with | some j => j.deps.map vs | none => []
theorem dv_some {js : List Job} {i : Nat} {j : Job} (h : js[i]? = some j) (vs : Nat → Value) : dv js i vs = j.deps.map vs := by simp [dv, h]
theorem dv_congr {js : List Job} {i : Nat} {vs vs' : Nat → Value} (h : ∀ j, js[i]? = some j → ∀ d ∈ j.deps, vs d = vs' d) : dv js i vs = dv js i vs' := by
  unfold dv
  cases hj : js[i]? with
  | none => rfl
  | some j => exact List.map_congr_left fun d hd => h j hj d hd

section
variable (P : Program) (ops : Array Oper) (Q : Exit → Act → World → Prop) (js : List Job) (a0 : Act) (w0 : World)
variable (fact : Nat → List Value → Value → Prop) (res : Nat → List Value → Value → List Nat → World → Prop)

/-- Operation k comes behind operation i. -/
def waits (js : List Job) : Nat → Nat → Nat → Bool
  | 0, _, _ => false
  | f + 1, k, i => match js[k]? with | some j => j.deps.any fun d => d == i || waits js f d i | none => false
theorem waits_listed {js : List Job} {L : Nat → Bool} (h : ∀ k j, js[k]? = some j → L k = true → ∀ d ∈ j.deps, L d = true) : ∀ (f k i : Nat), waits js f k i = true → L k = true → L i = true := by
  intro f
  induction f with
  | zero => intro k i h1; cases h1
  | succ f ih =>
    intro k i h1 hL
    unfold waits at h1
    cases hj : js[k]? with
    | none => rw [hj] at h1; cases h1
    | some j =>
      rw [hj] at h1
      simp only [List.any_eq_true, Bool.or_eq_true, beq_iff_eq] at h1
      obtain ⟨d, hd, h2⟩ := h1
      have h3 := h k j hj hL d hd
      rcases h2 with rfl | h2
      · exact h3
      · exact ih d i h2 h3
/-- What the operation finds: the frame, the world, what is known of the values that it reads, the memory that it takes over. -/
structure Finds (i0 : Nat) (j : Job) (a : Act) (w : World) (vs : Nat → Value) (fp : Nat → List Nat) : Prop where
  below : RowKit.Below w0.heap.size w0 w
  old : ∀ t : Tmp, (∀ k q, js[k]? = some q → q.dst = some t → waits js js.length k i0 = true) → a.eval (.tmp t) = a0.eval (.tmp t)
  dep : ∀ i ∈ j.deps, ∀ q, js[i]? = some q → (∀ d, q.dst = some d → a.eval (.tmp d) = vs i)
  val : ∀ i ∈ j.deps, fact i (dv js i vs) (vs i)
  mem : ∀ i ∈ j.eats, res i (dv js i vs) (vs i) (fp i) w
  own : ∀ i ∈ j.eats, ∀ g ∈ fp i, w0.heap.size ≤ g ∧ g < w.heap.size
  apart : ∀ i ∈ j.eats, ∀ k ∈ j.eats, i ≠ k → ∀ g ∈ fp i, g ∉ fp k

/-- What the operation must leave. -/
structure Leaves (i : Nat) (j : Job) (w : World) (vs : Nat → Value) (fp : Nat → List Nat) (v : Value) (f : List Nat) (w' : World) : Prop where
  below : RowKit.Below w0.heap.size w0 w'
  size : w.heap.size ≤ w'.heap.size
  block : ∀ g, g < w.heap.size → (∀ k ∈ j.eats, g ∉ fp k) → w'.heap[g]? = w.heap[g]?
  val : fact i (j.deps.map vs) v
  mem : res i (j.deps.map vs) v f w'
  own : ∀ g ∈ f, g < w'.heap.size ∧ ((∃ k ∈ j.eats, g ∈ fp k) ∨ w.heap.size ≤ g)

/-- One operation is shown. -/
def StepJ (i : Nat) : Prop :=
  ∀ j o, js[i]? = some j → ops[i]? = some o → ∀ (a : Act) (w : World) (vs : Nat → Value) (fp : Nat → List Nat) (K : Act → World → Prop),
    Finds js a0 w0 fact res i j a w vs fp →
    (∀ v w' f, Leaves w0 fact res i j w vs fp v f w' → K (a.put o.dst v) w') → Oper.wp P o a w K Q

/-- What holds when some operations have come up. -/
structure InvJ (listed : Array Bool) (a : Act) (w : World) (vs : Nat → Value) (fp : Nat → List Nat) : Prop where
  size : listed.size = ops.size
  frame : a = putJ (number js 0) (fun i => listed.getD i false) vs a0
  below : RowKit.Below w0.heap.size w0 w
  deps : ∀ i j, js[i]? = some j → listed.getD i false = true → ∀ d ∈ j.deps, listed.getD d false = true
  val : ∀ i, listed.getD i false = true → fact i (dv js i vs) (vs i)
  mem : ∀ i, listed.getD i false = true → (∀ k q, js[k]? = some q → listed.getD k false = true → i ∉ q.eats) → res i (dv js i vs) (vs i) (fp i) w ∧ ∀ g ∈ fp i, w0.heap.size ≤ g ∧ g < w.heap.size
  apart : ∀ i k, listed.getD i false = true → listed.getD k false = true → (∀ l q, js[l]? = some q → listed.getD l false = true → i ∉ q.eats) → (∀ l q, js[l]? = some q → listed.getD l false = true → k ∉ q.eats) → i ≠ k → ∀ g ∈ fp i, g ∉ fp k

end

theorem getD_set_self {l : Array Bool} {i : Nat} (h : i < l.size) : (l.setIfInBounds i true).getD i false = true := by simp [h]
theorem getD_set_eq (l : Array Bool) {i : Nat} (h : i < l.size) (k : Nat) : (l.setIfInBounds i true).getD k false = if k = i then true else l.getD k false := by
  by_cases e : k = i
  · subst e; simp [h]
  · rw [if_neg e]
    simp [Ne.symm e, Array.getD_eq_getD_getElem?]

theorem wp_region_sep {P : Program} {ops : Array Oper} {Q : Exit → Act → World → Prop} {a0 : Act} {w0 : World} {id : Nat} (js : List Job) (fact : Nat → List Value → Value → Prop) (res : Nat → List Value → Value → List Nat → World → Prop)
    (hm : P.follows .mixedOrders = true) (hfit : fitsJ ops js = true) (hsz : ∀ q ∈ js, ∀ d, q.dst = some d → d < a0.tmps.size)
    (hloc : ∀ i l v f w w', RowKit.Below w0.heap.size w0 w → RowKit.Below w0.heap.size w0 w' → w.heap.size ≤ w'.heap.size → (∀ g ∈ f, w0.heap.size ≤ g ∧ g < w.heap.size ∧ w'.heap[g]? = w.heap[g]?) → res i l v f w → res i l v f w')
    (hstep : ∀ i, i < js.length → StepJ P ops Q js a0 w0 fact res i)
    (hfin : ∀ w vs fp, InvJ ops js a0 w0 fact res (Array.replicate ops.size true) (putJ (number js 0) (fun _ => true) vs a0) w vs fp → Q .normal (putJ (number js 0) (fun _ => true) vs a0) w) :
    (Code.region id ops true).wp P Q a0 w0 := by
  obtain ⟨hlen, hdst, hjob⟩ := fitsJ_spec hfit
  refine wp_region_any hm ?_
  refine wpAny_of_inv (fun listed a w => ∃ vs fp, InvJ ops js a0 w0 fact res listed a w vs fp) (fun _ _ _ ⟨_, _, h⟩ => h.size) ?_ ?_ _ _ _ _ ⟨fun _ => undef, fun _ => [], ?_⟩ (by simp)
  · rintro listed a w ⟨vs, fp, h⟩ hr
    have hall : ∀ i, i < ops.size → listed.getD i false = true := by
      intro i
      induction i using Nat.strongRecOn with
      | ind i ih =>
        intro hi
        cases hL : listed.getD i false with
        | true => rfl
        | false =>
          exfalso
          obtain ⟨o, ho, _, _, h4, _⟩ := hjob i (js[i]'(by omega)) (List.getElem?_eq_getElem _)
          have : i ∈ Region.ready .any ops listed := by
            rw [mem_ready]
            refine ⟨?_, o, ho, fun e he hb => ih e.on (h4 e he hb) (by have := h4 e he hb; omega)⟩
            have hs := h.size
            simp [Array.getD, hs, hi] at hL ⊢
            exact hL
          rw [hr] at this
          cases this
    have hlst : listed = Array.replicate ops.size true := by
      apply Array.ext
      · simp [h.size]
      · intro i h1 h2
        have := hall i (by rw [← h.size]; exact h1)
        simp [h1] at this ⊢
        exact this
    subst hlst
    have hfr : a = putJ (number js 0) (fun _ => true) vs a0 := by
      rw [h.frame]
      refine putJ_congr fun p hp => ⟨?_, fun _ => rfl⟩
      have := mem_number hp
      rw [Nat.sub_zero] at this
      have hlt : p.1 < js.length := (List.getElem?_eq_some_iff.1 this.2).1
      simp [hlen, hlt]
    subst hfr
    exact hfin _ _ _ h
  · rintro listed a w i ⟨vs, fp, h⟩ hi
    obtain ⟨hun, o, ho, haft⟩ := mem_ready.1 hi
    have hil : i < ops.size := (Array.getElem?_eq_some_iff.1 ho).1
    have hL : listed.getD i false = false := by
      have hs := h.size
      simp [Array.getD, hs, hil] at hun ⊢
      exact hun
    obtain ⟨j, hj⟩ : ∃ j, js[i]? = some j := ⟨_, List.getElem?_eq_getElem (by omega)⟩
    obtain ⟨o', ho', hd, hg, _, hdep, heat, honly⟩ := hjob i j hj
    rw [ho] at ho'
    injection ho' with ho'
    subst ho'
    have hjm : (i, j) ∈ number js 0 := by have := number_mem (k := 0) hj; rwa [Nat.zero_add] at this
    have hdl : ∀ d ∈ j.deps, listed.getD d false = true := fun d hd => by
      obtain ⟨e, he, hb, rfl⟩ := hdep d hd
      exact haft e he hb
    have heatl : ∀ d ∈ j.eats, ∀ k q, js[k]? = some q → listed.getD k false = true → d ∉ q.eats := fun d hd k q hk hkl => honly k q hk (fun e => by rw [e, hL] at hkl; cases hkl) d hd
    unfold wpOp
    simp only [ho]
    rw [if_pos (by simp [Region.wanted, hg])]
    refine .inl (hstep i (by omega) j o hj ho a w vs fp _ ?_ ?_)
    · refine ⟨h.below, fun t ht => ?_, fun k hk q hq d hd => ?_, fun k hk => h.val k (hdl k hk), fun k hk => (h.mem k (hdl k (heat k hk)) (heatl k hk)).1, fun k hk => (h.mem k (hdl k (heat k hk)) (heatl k hk)).2, fun k hk l hl hne => h.apart k l (hdl k (heat k hk)) (hdl l (heat l hl)) (heatl k hk) (heatl l hl) hne⟩
      · rw [h.frame]
        refine putJ_free' fun p hp hd => ?_
        have := mem_number hp
        rw [Nat.sub_zero] at this
        have hw := ht p.1 p.2 this.2 hd
        cases hp1 : listed.getD p.1 false with
        | false => rfl
        | true => have := waits_listed (L := fun i => listed.getD i false) (fun k j hj hk => h.deps k j hj hk) _ _ _ hw hp1; rw [hL] at this; cases this
      · rw [h.frame]
        have hm2 : (k, q) ∈ number js 0 := by have := number_mem (k := 0) hq; rwa [Nat.zero_add] at this
        exact putJ_at hdst hm2 (hdl k hk) hd (hsz q (List.mem_of_getElem? hq) d hd)
    · intro v w' f hl
      refine ⟨fun k => if k = i then v else vs k, fun k => if k = i then f else fp k, ?_⟩
      have hset := fun k => getD_set_eq listed (by rw [h.size]; exact hil : i < listed.size) k
      have halive : ∀ k, k ≠ i → (listed.setIfInBounds i true).getD k false = true → (∀ l q, js[l]? = some q → (listed.setIfInBounds i true).getD l false = true → k ∉ q.eats) → listed.getD k false = true ∧ (∀ l q, js[l]? = some q → listed.getD l false = true → k ∉ q.eats) ∧ k ∉ j.eats := fun k hk h1 h2 => by
        rw [hset, if_neg hk] at h1
        refine ⟨h1, fun l q hq hql => h2 l q hq (by rw [hset]; split <;> simp [hql]), h2 i j hj (by rw [hset, if_pos rfl])⟩
      -- what nobody takes over is apart from what is taken over
      have hap : ∀ k, listed.getD k false = true → (∀ l q, js[l]? = some q → listed.getD l false = true → k ∉ q.eats) → k ∉ j.eats → ∀ g ∈ fp k, ∀ l ∈ j.eats, g ∉ fp l := fun k h1 h2 h3 g hg l hl =>
        h.apart k l h1 (hdl l (heat l hl)) h2 (heatl l hl) (fun e => h3 (by rw [e]; exact hl)) g hg
      have hdv : ∀ k, k = i ∨ listed.getD k false = true → dv js k (fun k => if k = i then v else vs k) = dv js k vs := fun k hk => dv_congr fun q hq d hd2 => by
        have h1 : listed.getD d false = true := by
          rcases hk with rfl | hk
          · rw [hj] at hq; injection hq with hq; subst hq; exact hdl d hd2
          · exact h.deps k q hq hk d hd2
        have h2 : d ≠ i := fun e => by rw [e, hL] at h1; cases h1
        simp [h2]
      refine ⟨by simp [h.size], ?_, hl.below, fun k q hq hk d hd2 => ?_, fun k hk => ?_, fun k hk hal => ?_, fun k l hk hl2 hak hal hne => ?_⟩
      · rw [h.frame, hd, ← putJ_step hdst hjm hL v]
        refine putJ_congr fun p hp => ⟨?_, fun _ => rfl⟩
        rw [hset]
      · rw [hset]
        split
        · rfl
        · by_cases e : k = i
          · subst e; rw [hj] at hq; injection hq with hq; subst hq; exact hdl d hd2
          · rw [hset, if_neg e] at hk; exact h.deps k q hq hk d hd2
      · by_cases e : k = i
        · subst e
          rw [hdv k (.inl rfl), dv_some hj]
          simpa using hl.val
        · rw [hset, if_neg e] at hk
          rw [hdv k (.inr hk)]
          simp only [e, if_false]
          exact h.val k hk
      · by_cases e : k = i
        · subst e
          rw [hdv k (.inl rfl), dv_some hj]
          simp only [if_true]
          refine ⟨hl.mem, fun g hg => ⟨?_, (hl.own g hg).1⟩⟩
          rcases (hl.own g hg).2 with ⟨m, hm1, hm2⟩ | h3
          · exact ((h.mem m (hdl m (heat m hm1)) (heatl m hm1)).2 g hm2).1
          · exact Nat.le_trans h.below.size h3
        · obtain ⟨h1, h2, h3⟩ := halive k e hk hal
          rw [hdv k (.inr h1)]
          simp only [e, if_false]
          have h4 := h.mem k h1 h2
          refine ⟨hloc k _ _ _ w w' h.below hl.below hl.size (fun g hg => ⟨(h4.2 g hg).1, (h4.2 g hg).2, hl.block g (h4.2 g hg).2 fun l hl2 => hap k h1 h2 h3 g hg l hl2⟩) h4.1, fun g hg => ⟨(h4.2 g hg).1, Nat.lt_of_lt_of_le (h4.2 g hg).2 hl.size⟩⟩
      · -- apart
        have key : ∀ k, k ≠ i → (listed.setIfInBounds i true).getD k false = true → (∀ l q, js[l]? = some q → (listed.setIfInBounds i true).getD l false = true → k ∉ q.eats) → ∀ g ∈ f, g ∉ fp k := fun k hki h1 h2 g hg hgk => by
          obtain ⟨h3, h4, h5⟩ := halive k hki h1 h2
          rcases (hl.own g hg).2 with ⟨m, hm1, hm2⟩ | h6
          · exact hap k h3 h4 h5 g hgk m hm1 hm2
          · have := ((h.mem k h3 h4).2 g hgk).2; omega
        by_cases e1 : k = i
        · subst e1
          have e2 : l ≠ k := fun e => hne e.symm
          simp only [if_true, e2, if_false]
          exact key l e2 hl2 hal
        · by_cases e2 : l = i
          · subst e2
            simp only [if_true, e1, if_false]
            intro g hg hg2
            exact key k e1 hk hak g hg2 hg
          · simp only [e1, e2, if_false]
            obtain ⟨h3, h4, _⟩ := halive k e1 hk hak
            obtain ⟨h5, h6, _⟩ := halive l e2 hl2 hal
            exact h.apart k l h3 h5 h4 h6 hne
  · have hnone : ∀ i, (Array.replicate ops.size false).getD i false = false := fun i => by
      simp [Array.getD]
    refine ⟨by simp, ?_, (RowKit.Below.refl _ _).drew, fun i j hj hi => ?_, fun i hi => ?_, fun i hi => ?_, fun i k hi => ?_⟩
    · symm
      have : ∀ l : List (Nat × Job), putJ l (fun i => (Array.replicate ops.size false).getD i false) (fun _ => undef) a0 = a0 := fun l => by
        induction l with
        | nil => rfl
        | cons p r ih =>
          obtain ⟨k, q⟩ := p
          simp only [putJ]
          rw [if_neg (by rw [hnone]; simp)]
          exact ih
      exact this _
    · rw [hnone] at hi; cases hi
    · rw [hnone] at hi; cases hi
    · rw [hnone] at hi; cases hi
    · rw [hnone] at hi; cases hi

/-- What is known at the end of a region. -/
theorem InvJ.fin {ops : Array Oper} {js : List Job} {a0 : Act} {w0 : World} {fact : Nat → List Value → Value → Prop} {res : Nat → List Value → Value → List Nat → World → Prop} {a : Act} {w : World} {vs : Nat → Value} {fp : Nat → List Nat}
    (h : InvJ ops js a0 w0 fact res (Array.replicate ops.size true) a w vs fp) (i : Nat) (hi : i < ops.size) : fact i (dv js i vs) (vs i) := h.val i (by simp [hi])
theorem InvJ.finM {ops : Array Oper} {js : List Job} {a0 : Act} {w0 : World} {fact : Nat → List Value → Value → Prop} {res : Nat → List Value → Value → List Nat → World → Prop} {a : Act} {w : World} {vs : Nat → Value} {fp : Nat → List Nat}
    (h : InvJ ops js a0 w0 fact res (Array.replicate ops.size true) a w vs fp) (i : Nat) (hi : i < ops.size) (hu : (js.all fun q => !q.eats.contains i) = true) : res i (dv js i vs) (vs i) (fp i) w ∧ ∀ g ∈ fp i, w0.heap.size ≤ g ∧ g < w.heap.size :=
  h.mem i (by simp [hi]) fun k q hq _ hm => by
    rw [List.all_eq_true] at hu
    have := hu q (List.mem_of_getElem? hq)
    simp at this
    exact this hm

/-! The same by rows: an operation's job, what is known of its value, what memory it holds. -/
structure Row where
  job : Job
  fact : List Value → Value → Prop
  res : List Value → Value → List Nat → World → Prop
def rj (rows : List Row) : List Job := rows.map (·.job)
def rf (rows : List Row) (i : Nat) : List Value → Value → Prop := match rows[i]? with | some r => r.fact | none => fun _ _ => True
def rr (rows : List Row) (i : Nat) : List Value → Value → List Nat → World → Prop := match rows[i]? with | some r => r.res | none => fun _ _ _ _ => True
/-- What is said of the memory that an operation holds stays true while nobody else writes it. -/
def Loc (w0 : World) (R : List Value → Value → List Nat → World → Prop) : Prop :=
  ∀ l v f w w', RowKit.Below w0.heap.size w0 w → RowKit.Below w0.heap.size w0 w' → w.heap.size ≤ w'.heap.size → (∀ g ∈ f, w0.heap.size ≤ g ∧ g < w.heap.size ∧ w'.heap[g]? = w.heap[g]?) → R l v f w → R l v f w'
def Locs (w0 : World) : List Row → Prop
  | [] => True
  | r :: rs => Loc w0 r.res ∧ Locs w0 rs
theorem Locs.at_ {w0 : World} {rows : List Row} (h : Locs w0 rows) : ∀ r ∈ rows, Loc w0 r.res := by
  induction rows with
  | nil => intro r hr; cases hr
  | cons x xs ih =>
    intro r hr
    rcases List.mem_cons.1 hr with rfl | hr
    · exact h.1
    · exact ih h.2 r hr
def StepsJ (P : Program) (ops : Array Oper) (Q : Exit → Act → World → Prop) (rows : List Row) (a0 : Act) (w0 : World) : List Row → Nat → Prop
  | [], _ => True
  | r :: rs, k => StepJ P ops Q (rj rows) a0 w0 (rf rows) (rr rows) k ∧ StepsJ P ops Q rows a0 w0 rs (k + 1)
theorem StepsJ.at_ {P : Program} {ops : Array Oper} {Q : Exit → Act → World → Prop} {rows : List Row} {a0 : Act} {w0 : World} {rs : List Row} {k : Nat} (h : StepsJ P ops Q rows a0 w0 rs k) (i : Nat) (hi : i < rs.length) : StepJ P ops Q (rj rows) a0 w0 (rf rows) (rr rows) (k + i) := by
  induction rs generalizing k i with
  | nil => cases hi
  | cons x xs ih =>
    cases i with
    | zero => exact h.1
    | succ i => have := ih h.2 i (by simpa using hi); rwa [show k + (i + 1) = k + 1 + i by omega]
/-- The slots exist. -/
def slotsOk (js : List Job) (n : Nat) : Bool := js.all fun q => match q.dst with | some d => decide (d < n) | none => true

theorem wp_region_rows {P : Program} {ops : Array Oper} {Q : Exit → Act → World → Prop} {a0 : Act} {w0 : World} {id : Nat} (rows : List Row)
    (hm : P.follows .mixedOrders = true) (hfit : fitsJ ops (rj rows) = true) (hsz : slotsOk (rj rows) a0.tmps.size = true)
    (hloc : Locs w0 rows) (hstep : StepsJ P ops Q rows a0 w0 rows 0)
    (hfin : ∀ w vs fp, InvJ ops (rj rows) a0 w0 (rf rows) (rr rows) (Array.replicate ops.size true) (putJ (number (rj rows) 0) (fun _ => true) vs a0) w vs fp → Q .normal (putJ (number (rj rows) 0) (fun _ => true) vs a0) w) :
    (Code.region id ops true).wp P Q a0 w0 := by
  refine wp_region_sep (rj rows) (rf rows) (rr rows) hm hfit (fun q hq d hd => ?_) (fun i l v f w w' h1 h2 h3 h4 h5 => ?_) (fun i hi => ?_) hfin
  · unfold slotsOk at hsz
    rw [List.all_eq_true] at hsz
    have := hsz q hq
    rw [hd] at this
    simpa using this
  · unfold rr at h5 ⊢
    cases hr : rows[i]? with
    | none => trivial
    | some r =>
      simp only [hr] at h5 ⊢
      exact hloc.at_ r (List.mem_of_getElem? hr) l v f w w' h1 h2 h3 h4 h5
  · have := hstep.at_ i (by simpa [rj] using hi)
    rwa [Nat.zero_add] at this

section
variable {P : Program} {ops : Array Oper} {Q : Exit → Act → World → Prop} {js : List Job} {a0 : Act} {w0 : World} {fact : Nat → List Value → Value → Prop} {res : Nat → List Value → Value → List Nat → World → Prop}

theorem step_of {i : Nat} {j : Job} {o : Oper} (hj : js[i]? = some j) (ho : ops[i]? = some o)
    (h : ∀ (a : Act) (w : World) (vs : Nat → Value) (fp : Nat → List Nat) (K : Act → World → Prop), Finds js a0 w0 fact res i j a w vs fp →
      (∀ v w' f, Leaves w0 fact res i j w vs fp v f w' → K (a.put o.dst v) w') → Oper.wp P o a w K Q) : StepJ P ops Q js a0 w0 fact res i := fun j' o' hj' ho' => by
  rw [hj] at hj'; injection hj' with hj'; subst hj'
  rw [ho] at ho'; injection ho' with ho'; subst ho'
  exact h
variable {i : Nat} {j : Job} {a : Act} {w : World} {vs : Nat → Value} {fp : Nat → List Nat}
theorem Finds.ev (h : Finds js a0 w0 fact res i j a w vs fp) (k d : Nat) (hk : j.deps.contains k = true) (hd : (js[k]?).bind (·.dst) = some d) : a.eval (.tmp d) = vs k := by
  cases hq : js[k]? with
  | none => rw [hq] at hd; cases hd
  | some q => rw [hq] at hd; exact h.dep k (by simpa using hk) q hq d hd
/-- The slot is written by no operation that may have come up. -/
def oldOk (js : List Job) (i t : Nat) : Bool := (number js 0).all fun p => p.2.dst != some t || waits js js.length p.1 i
theorem Finds.at_ (h : Finds js a0 w0 fact res i j a w vs fp) (t : Nat) (ht : oldOk js i t = true) : a.eval (.tmp t) = a0.eval (.tmp t) :=
  h.old t fun k q hq e => by
    unfold oldOk at ht
    rw [List.all_eq_true] at ht
    have hm := number_mem (k := 0) hq
    rw [Nat.zero_add] at hm
    have := ht _ hm
    simp only [e, bne_self_eq_false, Bool.false_or] at this
    exact this
theorem Finds.va (h : Finds js a0 w0 fact res i j a w vs fp) (k : Nat) (hk : j.deps.contains k = true) : fact k (dv js k vs) (vs k) := h.val k (by simpa using hk)
theorem Finds.me (h : Finds js a0 w0 fact res i j a w vs fp) (k : Nat) (hk : j.eats.contains k = true) : res k (dv js k vs) (vs k) (fp k) w := h.mem k (by simpa using hk)
variable {v : Value} {f : List Nat} {w' : World}
/-- An operation that only yields a value. -/
theorem Finds.only (h : Finds js a0 w0 fact res i j a w vs fp) (h1 : fact i (j.deps.map vs) v) (h2 : res i (j.deps.map vs) v [] w) : Leaves w0 fact res i j w vs fp v [] w :=
  ⟨h.below, Nat.le_refl _, fun _ _ _ => rfl, h1, h2, fun g hg => by cases hg⟩
/-- An operation that only yields a value and hands the memory of another one on. -/
theorem Finds.hand (h : Finds js a0 w0 fact res i j a w vs fp) (k : Nat) (hk' : j.eats.contains k = true) (h1 : fact i (j.deps.map vs) v) (h2 : res i (j.deps.map vs) v (fp k) w) : Leaves w0 fact res i j w vs fp v (fp k) w :=
  have hk : k ∈ j.eats := by simpa using hk'
  ⟨h.below, Nat.le_refl _, fun _ _ _ => rfl, h1, h2, fun g hg => ⟨(h.own k hk g hg).2, .inl ⟨k, hk, hg⟩⟩⟩
/-- An operation that makes a block. -/
theorem Finds.made (h : Finds js a0 w0 fact res i j a w vs fp) (o : Obj) (h1 : fact i (j.deps.map vs) v) (h2 : res i (j.deps.map vs) v [w.heap.size] (w.alloc o)) : Leaves w0 fact res i j w vs fp v [w.heap.size] (w.alloc o) :=
  ⟨h.below.alloc h.below.size o, by simp, fun g hg _ => Below.heap_alloc w o g hg, h1, h2, fun g hg => by
    rw [List.mem_singleton] at hg; subst hg; exact ⟨by simp, .inr (Nat.le_refl _)⟩⟩
/-- An operation that leaves all blocks as they are but those that it takes over. -/
theorem Finds.under (h : Finds js a0 w0 fact res i j a w vs fp) (hb : RowKit.Below w.heap.size w w') (h1 : fact i (j.deps.map vs) v) (h2 : res i (j.deps.map vs) v f w') (h3 : ∀ g ∈ f, w.heap.size ≤ g ∧ g < w'.heap.size) : Leaves w0 fact res i j w vs fp v f w' :=
  ⟨h.below.trans (hb.mono h.below.size), hb.size, fun g hg _ => hb.block g hg, h1, h2, fun g hg => ⟨(h3 g hg).2, .inr (h3 g hg).1⟩⟩
/-- An append onto a row of the call's own. -/
theorem Finds.grown (h : Finds js a0 w0 fact res i j a w vs fp) {u : Value} (k : Nat) (hk' : j.eats.contains k = true) (hf : fp k = u.ownBlock.toList) (hg : w.grownBy w' u.ownBlock) (hv : v.ownBlock = u.ownBlock ∨ v.ownBlock = some w.heap.size)
    (hl : ∀ g, v.ownBlock = some g → g < w'.heap.size) (h1 : fact i (j.deps.map vs) v) (h2 : res i (j.deps.map vs) v v.ownBlock.toList w') : Leaves w0 fact res i j w vs fp v v.ownBlock.toList w' := by
  have hk : k ∈ j.eats := by simpa using hk'
  refine ⟨h.below.grown hg h.below.size (fun g hg => ((h.own k hk g) (by rw [hf, hg]; simp)).1), hg.size, fun g hgl hne => hg.block g hgl (fun e => hne k hk (by rw [hf, ← e]; simp)), h1, h2, fun g hgm => ?_⟩
  have hgv : v.ownBlock = some g := by simpa using hgm
  refine ⟨hl g hgv, ?_⟩
  rcases hv with e | e
  · exact .inl ⟨k, hk, by rw [hf, ← e, hgv]; simp⟩
  · rw [hgv] at e; injection e with e; exact .inr (by omega)
end
end Go.Proofs.YthnhgjhnkncmiaaGreat

namespace Go.Proofs.YthnhgjhnkncmiaaGreat
open Go.RowKit
set_option linter.unusedVariables false

section
variable {P : Program} {o : Oper} {a : Act} {w : World} {K : Act → World → Prop} {Q : Exit → Act → World → Prop}

theorem op_value {v : Value} {w' : World} (h : (execOp a.eval o).run P w = .ok (.value v) w') (hK : K (a.put o.dst v) w') : o.wp P a w K Q := by
  unfold Oper.wp; rw [h]; exact hK
theorem op_skip {w' : World} (h : (execOp a.eval o).run P w = .ok .skip w') (hK : K (a.put o.dst undef) w') : o.wp P a w K Q := by
  unfold Oper.wp; rw [h]; exact hK
theorem op_move {x : Operand} {v : Value} (ho : o.op = .move x) (hx : a.eval x = v) (hK : K (a.put o.dst v) w) : o.wp P a w K Q :=
  op_value (by simp only [execOp, ho, hx]; rfl) hK
theorem op_assign {x : Operand} {v : Value} (ho : o.op = .assign x) (hx : a.eval x = v) (hK : K (a.put o.dst v) w) : o.wp P a w K Q :=
  op_value (by simp only [execOp, ho, hx]; rfl) hK
theorem op_append (s x : Operand) (t : TypeId)
    (ho : o.op = .call { callee := .builtin .append, args := #[s, x], argTypes := #[t, t] })
    (base : Nat) (e : TypeId) (z : Value) (size bytes : Nat) (ht : P.underlying t = some (.slice e)) (hi : (P.info? e).map (fun i => (i.zero, i.size, i.bytes)) = some (some z, size, bytes)) (hzs : z.cells.size = size) (hsz : 0 < size)
    (v : Value) (n : Nat) (xs : List Value) (hs : a.eval s = v) (hown : w.ownsRow base e size v n xs)
    (A : Option Addr) (m c : Nat) (news : List Value) (hx : a.eval x = .slice A m c) (hr : Rd w size A m news) (h1 : ∀ u ∈ news, u.oneCell' = true)
    (h63 : n + m ≤ maxLen) (hbytes : (n + m) * bytes ≤ 140737488355328) (hbase : base ≤ w.heap.size)
    (h : ∀ v' w', w'.ownsRow base e size v' (n + m) (xs ++ news) → w.grownBy w' v.ownBlock → (v'.ownBlock = v.ownBlock ∨ v'.ownBlock = some w.heap.size) → K (a.put o.dst v') w') : o.wp P a w K Q := by
  obtain ⟨i, hi0, hz, hsize, hby⟩ := info_parts hi
  obtain ⟨v', w', hrun, h2, h3, h4⟩ := run_append_rd (P := P) w base t o.type e i z size bytes ht hi0 hz hsize hby hzs hsz v n xs hown A m c news hr h1 h63 hbytes hbase
  unfold Oper.wp execOp
  simp only [ho, resolve, invoke, builtin, Sem.run_bind, Sem.run_pure, Result.andThen_ok, List.map_toArray, List.map_cons, List.map_nil, hs, hx, hrun]
  exact h v' w' h2 h3 h4
/-- A function of the program with a body. -/
def hasBody (P : Program) (f : FuncId) : Bool := match P.funcs[f]? with | some fn => fn.name != "runtime.NumGoroutine" && fn.body.isSome | none => false
theorem op_call {f : FuncId} {xs : Array Operand} {ts : Array TypeId} {vals : Array Value} (ho : o.op = .call { callee := .value (.func f), args := xs, argTypes := ts }) (hf : hasBody P f = true) (hx : xs.map a.eval = vals)
    (hc : Calls P f vals w fun e w' => ∃ v, e = .returned v ∧ K (a.put o.dst v) w') : o.wp P a w K Q := by
  unfold Oper.wp
  have : (execOp a.eval o).run P w = .ok (.enter f vals) w := by
    unfold hasBody at hf
    simp only [execOp, ho, resolve, hx, Act.eval, Deferred.ofValue, invoke, callFunc]
    cases hp : P.funcs[f]? with
    | none => rw [hp] at hf; cases hf
    | some fn =>
      rw [hp] at hf
      simp only [Bool.and_eq_true, bne_iff_ne] at hf
      have h2 : fn.body.isNone = false := by cases hb : fn.body <;> simp [hb] at hf ⊢
      simp [Sem.run_bind, hp, hf.1]
      intro h3
      rw [h3] at h2; cases h2
  rw [this]
  exact hc.mono fun e w' ⟨v, h1, h2⟩ => by subst h1; exact h2
theorem op_extract {x : Operand} {k : Nat} {vs : Array Value} {v : Value} (ho : o.op = .extract x k) (hx : a.eval x = .tuple vs) (hv : vs[k]? = some v) (hK : K (a.put o.dst v) w) : o.wp P a w K Q :=
  op_value (by simp only [execOp, ho, hx, Instr.extract]; simp [hv]) hK
end

/-! Slices of slices. -/
theorem addr_add0 (A : Option Addr) : A.map (·.add 0) = A := by
  cases A with
  | none => rfl
  | some a => simp [Addr.add]
theorem run_hi {P : Program} {t e : TypeId} {size : Nat} (ht : P.underlying t = some (.slice e)) (hi : (P.info? e).map (·.size) = some size) (A : Option Addr) (n c k : Nat) (hk : k ≤ c) (w : World) :
    (Instr.sliceAt t (.slice A n c) none (some (.int .i64 (k : Int))) none).run P w = .ok (.slice A k c) w := by
  cases hinfo : P.info? e with
  | none => rw [hinfo] at hi; cases hi
  | some i =>
    have h2 := run_sliceBound (P := P) w .i64 (k : Int) c .sliceAcap (by omega) (by omega)
    simp [Instr.sliceAt, Instr.slice, Instr.sliceBounds, run_underlying ht, sizeOf, typeInfo, hinfo, h2, addr_add0]
theorem run_lo {P : Program} {t e : TypeId} {size : Nat} (ht : P.underlying t = some (.slice e)) (hi : (P.info? e).map (·.size) = some size) (A : Option Addr) (n c k : Nat) (hk : k ≤ n) (w : World) :
    (Instr.sliceAt t (.slice A n c) (some (.int .i64 (k : Int))) none none).run P w = .ok (.slice (if c = k then A else A.map (·.add (k * size))) (n - k) (c - k)) w := by
  cases hinfo : P.info? e with
  | none => rw [hinfo] at hi; cases hi
  | some i =>
    rw [hinfo] at hi
    injection hi with hi
    have h2 := run_sliceBound (P := P) w .i64 (k : Int) n .sliceB (by omega) (by omega)
    simp [Instr.sliceAt, Instr.slice, Instr.sliceBounds, run_underlying ht, sizeOf, typeInfo, hinfo, h2, hi]
section
variable {P : Program} {o : Oper} {a : Act} {w : World} {K : Act → World → Prop} {Q : Exit → Act → World → Prop}
theorem op_hi {t e : TypeId} {size : Nat} {x y : Operand} {A : Option Addr} {n c k : Nat} (ho : o.op = .slice t x none (some y) none) (ht : P.underlying t = some (.slice e)) (hi : (P.info? e).map (·.size) = some size)
    (hx : a.eval x = .slice A n c) (hy : a.eval y = .int .i64 (k : Int)) (hk : k ≤ c) (hK : K (a.put o.dst (.slice A k c)) w) : o.wp P a w K Q :=
  op_value (by simp only [execOp, ho, hx, hy, Option.map_some, Option.map_none, Sem.run_bind, run_hi ht hi A n c k hk w]; rfl) hK
theorem op_lo {t e : TypeId} {size : Nat} {x y : Operand} {A : Option Addr} {n c k : Nat} (ho : o.op = .slice t x (some y) none none) (ht : P.underlying t = some (.slice e)) (hi : (P.info? e).map (·.size) = some size)
    (hx : a.eval x = .slice A n c) (hy : a.eval y = .int .i64 (k : Int)) (hk : k ≤ n) (hK : K (a.put o.dst (.slice (if c = k then A else A.map (·.add (k * size))) (n - k) (c - k))) w) : o.wp P a w K Q :=
  op_value (by simp only [execOp, ho, hx, hy, Option.map_some, Option.map_none, Sem.run_bind, run_lo ht hi A n c k hk w]; rfl) hK
end
theorem Rd.take {w : World} {size : Nat} {A : Option Addr} {n : Nat} {xs : List Value} (h : Rd w size A n xs) {k : Nat} (hk : k ≤ n) : Rd w size A k (xs.take (k * size)) := by
  refine ⟨by rw [List.length_take, h.1]; exact Nat.min_eq_left (Nat.mul_le_mul_right _ hk), fun h0 => ?_⟩
  obtain ⟨b, off, e, hb, hc⟩ := h.2 (by omega)
  refine ⟨b, off, e, hb, fun j u hu => hc j u ?_⟩
  rw [List.getElem?_take] at hu
  split at hu
  · exact hu
  · cases hu
theorem Rd.drop {w : World} {size : Nat} {A : Option Addr} {n : Nat} {xs : List Value} (h : Rd w size A n xs) {k c : Nat} (hk : k ≤ n) (hc : n ≤ c) : Rd w size (if c = k then A else A.map (·.add (k * size))) (n - k) (xs.drop (k * size)) := by
  refine ⟨by rw [List.length_drop, h.1, Nat.sub_mul], fun h0 => ?_⟩
  obtain ⟨b, off, e, hb, hcl⟩ := h.2 (by omega)
  rw [if_neg (by omega), e]
  refine ⟨b, off + k * size, by by_cases e0 : k * size = 0 <;> simp [Addr.add, e0], hb, fun j u hu => ?_⟩
  rw [List.getElem?_drop] at hu
  have := hcl _ u hu
  rwa [← Nat.add_assoc] at this
end Go.Proofs.YthnhgjhnkncmiaaGreat

namespace Go.Proofs.YthnhgjhnkncmiaaGreat
namespace DivMath

/-- The correction loop's invariant: q is not below the true digit, and q and rhat split the head. -/
structure Inv (u n1 n0 l q r : Int) : Prop where
  split : q * n1 + r = u
  above : (u * 4294967296 + l) / (n1 * 4294967296 + n0) ≤ q
  small : r < 4294967296
  pos : 0 ≤ r
  qpos : 0 ≤ q

/-- What is known of the divisor's halves and of the dividend's. -/
structure Dom (u n1 n0 l : Int) : Prop where
  n1l : 2147483648 ≤ n1
  n1h : n1 < 4294967296
  n0l : 0 ≤ n0
  n0h : n0 < 4294967296
  ll : 0 ≤ l
  lh : l < 4294967296
  ul : 0 ≤ u
  uh : u < n1 * 4294967296 + n0

variable {u n1 n0 l q r : Int}

theorem start (d : Dom u n1 n0 l) : Inv u n1 n0 l (u / n1) (u - u / n1 * n1) := by
  obtain ⟨d1, d2, d3, d4, d5, d6, d7, d8⟩ := d
  have h1 := Int.mul_ediv_add_emod u n1
  have h2 := Int.emod_lt_of_pos u (show 0 < n1 by omega)
  have h2' := Int.emod_nonneg u (show n1 ≠ 0 by omega)
  have h3 : u / n1 * n1 = n1 * (u / n1) := Int.mul_comm _ _
  have hq0 : 0 ≤ u / n1 := Int.ediv_nonneg d7 (by omega)
  refine ⟨by omega, ?_, by omega, by omega, hq0⟩
  have hlt : u * 4294967296 + l < (u / n1 + 1) * (n1 * 4294967296 + n0) := by
    have h4 : (u / n1 + 1) * (n1 * 4294967296 + n0) = (n1 * (u / n1) + n1) * 4294967296 + (u / n1 + 1) * n0 := by grind
    have h7 : 0 ≤ (u / n1 + 1) * n0 := Int.mul_nonneg (by omega) d3
    rw [h4]
    omega
  have := (Int.ediv_lt_iff_lt_mul (show 0 < n1 * 4294967296 + n0 by omega)).2 hlt
  omega

theorem le_top (h : Inv u n1 n0 l q r) (d : Dom u n1 n0 l) : q ≤ 4294967297 := by
  obtain ⟨d1, d2, d3, d4, d5, d6, d7, d8⟩ := d
  have hs := h.split
  have hp := h.pos
  rcases Int.lt_or_le 4294967297 q with hq | hq
  · exfalso
    have : 4294967298 * n1 ≤ q * n1 := Int.mul_le_mul_of_nonneg_right hq (by omega)
    omega
  · exact hq

theorem prod (h : Inv u n1 n0 l q r) : q * (n1 * 4294967296 + n0) + r * 4294967296 = u * 4294967296 + q * n0 := by
  have hs := h.split
  rw [← hs]
  grind

theorem digit_lt (d : Dom u n1 n0 l) : (u * 4294967296 + l) / (n1 * 4294967296 + n0) < 4294967296 := by
  obtain ⟨d1, d2, d3, d4, d5, d6, d7, d8⟩ := d
  exact (Int.ediv_lt_iff_lt_mul (by omega)).2 (by omega)

theorem digit_nonneg (d : Dom u n1 n0 l) : 0 ≤ (u * 4294967296 + l) / (n1 * 4294967296 + n0) := by
  obtain ⟨d1, d2, d3, d4, d5, d6, d7, d8⟩ := d
  exact Int.ediv_nonneg (by omega) (by omega)

/-- The loop's test holds: the digit is too great by at least one. -/
theorem down (h : Inv u n1 n0 l q r) (d : Dom u n1 n0 l) (ht : 4294967296 ≤ q ∨ 4294967296 * r + l < q * n0) :
    (u * 4294967296 + l) / (n1 * 4294967296 + n0) + 1 ≤ q := by
  rcases ht with ht | ht
  · have := digit_lt d; omega
  · have hp := prod h
    obtain ⟨d1, d2, d3, d4, d5, d6, d7, d8⟩ := d
    exact (Int.ediv_lt_iff_lt_mul (by omega)).2 (by omega)

theorem one_le (h : Inv u n1 n0 l q r) (d : Dom u n1 n0 l) (ht : 4294967296 ≤ q ∨ 4294967296 * r + l < q * n0) : 1 ≤ q := by
  have := down h d ht
  have := digit_nonneg d
  omega

theorem step (h : Inv u n1 n0 l q r) (d : Dom u n1 n0 l) (ht : 4294967296 ≤ q ∨ 4294967296 * r + l < q * n0) (hr : r + n1 < 4294967296) : Inv u n1 n0 l (q - 1) (r + n1) := by
  have hd := down h d ht
  have h1 := one_le h d ht
  have hs := h.split
  have hp := h.pos
  have hn := d.n1l
  refine ⟨?_, by omega, hr, by omega, by omega⟩
  rw [Int.sub_mul]
  omega

/-- It ends because the test fails. -/
theorem ends (h : Inv u n1 n0 l q r) (d : Dom u n1 n0 l) (h2 : q * n0 ≤ 4294967296 * r + l) : q = (u * 4294967296 + l) / (n1 * 4294967296 + n0) := by
  have hp := prod h
  obtain ⟨d1, d2, d3, d4, d5, d6, d7, d8⟩ := d
  have hle : q ≤ (u * 4294967296 + l) / (n1 * 4294967296 + n0) := (Int.le_ediv_iff_mul_le (by omega)).2 (by omega)
  have := h.above
  omega

/-- It ends by the break. -/
theorem breaks (h : Inv u n1 n0 l q r) (d : Dom u n1 n0 l) (ht : 4294967296 ≤ q ∨ 4294967296 * r + l < q * n0) (hr : 4294967296 ≤ r + n1) :
    q - 1 = (u * 4294967296 + l) / (n1 * 4294967296 + n0) := by
  have hd := down h d ht
  have htop := le_top h d
  have hp := prod h
  obtain ⟨d1, d2, d3, d4, d5, d6, d7, d8⟩ := d
  have h1 : (q - 1) * n0 ≤ 4294967296 * n0 := Int.mul_le_mul_of_nonneg_right (by omega) d3
  have e1 : (q - 1) * (n1 * 4294967296 + n0) = q * (n1 * 4294967296 + n0) - (n1 * 4294967296 + n0) := by grind
  have e2 : (q - 1) * n0 = q * n0 - n0 := by grind
  have hle : q - 1 ≤ (u * 4294967296 + l) / (n1 * 4294967296 + n0) := (Int.le_ediv_iff_mul_le (by omega)).2 (by omega)
  omega

/-- Two digits make the quotient. -/
theorem join {U Y u un1 un0 q1 u21 q0 : Int} (hY : 0 < Y) (hU : U = u * 18446744073709551616 + un1 * 4294967296 + un0) (hq1 : q1 = (u * 4294967296 + un1) / Y) (hu21 : u21 = (u * 4294967296 + un1) % Y)
    (hq0 : q0 = (u21 * 4294967296 + un0) / Y) : U / Y = q1 * 4294967296 + q0 ∧ U % Y = (u21 * 4294967296 + un0) % Y := by
  have h1 := Int.mul_ediv_add_emod (u * 4294967296 + un1) Y
  rw [← hq1, ← hu21] at h1
  have h2 : U = (u21 * 4294967296 + un0) + Y * (q1 * 4294967296) := by grind
  rw [h2, Int.add_mul_ediv_left _ _ (by omega), Int.add_mul_emod_self_left, ← hq0]
  exact ⟨by omega, rfl⟩

end DivMath
end Go.Proofs.YthnhgjhnkncmiaaGreat

namespace Go.Proofs.YthnhgjhnkncmiaaGreat
open Go.RowKit
set_option linter.unusedVariables false

set_option maxRecDepth 10000 in
set_option maxHeartbeats 4000000 in
/-- The walk, every number under a name of its own. -/
theorem div64_core (hi lo y Y n1 n0 a b u un10 un1 un0 q p r qd c1 c2 c3 u21 qq pp rr qe d1 d2 d3 d4 rem : Int) (s : Nat) (w : World) (h1 : hi < y) (h2 : y ≤ 18446744073709551615) (h3 : lo ≤ 18446744073709551615) (h30 : 0 ≤ lo) (h0 : 0 < hi) (hs : s ≤ 63)
   (hlz : ∀ w : World, Calls Tryz.prog 120 #[.int .u64 y] w fun e w' => e = .returned (.int .i64 s) ∧ w = w')
   (e1 : IntKind.u64.wrap (y * 2 ^ s) = Y) (e2 : Y / 4294967296 = n1) (e3 : bits .and .u64 Y 4294967295 = n0) (e4 : IntKind.u64.wrap (hi * 2 ^ s) = a) (e5 : lo / 2 ^ (64 - s) = b)
   (e6 : bits .or .u64 a b = u) (e7 : IntKind.u64.wrap (lo * 2 ^ s) = un10) (e8 : un10 / 4294967296 = un1) (e9 : bits .and .u64 un10 4294967295 = un0)
   (e10 : u / n1 = q) (e11 : IntKind.u64.wrap (q * n1) = p) (e12 : u - p = r)
   (hpu : 0 ≤ p ∧ p ≤ u) (hq : q ≤ 4294967297) (hq00 : 0 ≤ q) (hu : u ≤ 18446744073709551615) (D : DivMath.Dom u n1 n0 un1) (HI : DivMath.Inv u n1 n0 un1 q r) (hY0 : 0 ≤ Y) (hY : Y ≤ 18446744073709551615) (h10 : 0 ≤ un10) (h10' : un10 ≤ 18446744073709551615)
   (hqd : Hid (qd = (u * 4294967296 + un1) / (n1 * 4294967296 + n0))) (hqd0 : 0 ≤ qd) (hqd' : qd < 4294967296)
   (f1 : IntKind.u64.wrap (u * 4294967296) = c1) (f2 : IntKind.u64.wrap (c1 + un1) = c2) (f3 : IntKind.u64.wrap (qd * Y) = c3) (f4 : IntKind.u64.wrap (c2 - c3) = u21)
   (e10' : u21 / n1 = qq) (e11' : IntKind.u64.wrap (qq * n1) = pp) (e12' : u21 - pp = rr) (hu' : u21 ≤ 18446744073709551615) (hu0' : 0 ≤ u21) (hpu' : 0 ≤ pp ∧ pp ≤ u21) (hq' : qq ≤ 4294967297) (hq00' : 0 ≤ qq) (DD : DivMath.Dom u21 n1 n0 un0) (HI' : DivMath.Inv u21 n1 n0 un0 qq rr)
   (hqe : Hid (qe = (u21 * 4294967296 + un0) / (n1 * 4294967296 + n0))) (hqe0 : 0 ≤ qe) (hqe' : qe < 4294967296)
   (g1 : IntKind.u64.wrap (u21 * 4294967296) = d1) (g2 : IntKind.u64.wrap (d1 + un0) = d2) (g3 : IntKind.u64.wrap (qe * Y) = d3) (g4 : IntKind.u64.wrap (d2 - d3) = d4) (g5 : d4 / 2 ^ s = rem) :
    Calls Tryz.prog 117 #[.int .u64 hi, .int .u64 lo, .int .u64 y] w fun e w' => e = .returned (.tuple #[.int .u64 (qd * 4294967296 + qe), .int .u64 rem]) ∧ w = w' := by
  have b1 : (y == 0) = false := by simp; omega
  have b2 : (hi == 0) = false := by simp; omega
  have z1 := D.n1l
  have z2 := D.n1h
  have z30 := D.n0l
  have z3 := D.n0h
  have z40 := D.ll
  have z4 := D.lh
  have z50 := DD.ll
  have z5 := DD.lh
  have zu := D.ul
  have b3 : (n1 == 0) = false := by simp; omega
  go_enter Tryz.func117, Tryz.ntmps117
  go_wp2_with (go_at_call 120; refine (hlz _).mono ?_; rintro e w' ⟨rfl, rfl⟩)
  clear e1 e2 e3 e4 e5 e6 e7 e8 e9 b1 b2 hlz h1 h2 h3 h0 h30
  go_loop [15, 16] (fun x z => ∃ q r : Int, DivMath.Inv u n1 n0 un1 q r ∧ q ≤ 4294967297 ∧ x = .int .u64 q ∧ z = .int .u64 r) (fun x _ => (intOf x).toNat)
  case atStart => exact ⟨q, r, HI, hq, (by first | rfl | simp only [e10]), (by first | rfl | simp only [e12])⟩
  case round =>
    clear HI hq hpu e10 e11 e12
    obtain ⟨q, r, HI, hq, rfl, rfl⟩ := hrel
    have hr := HI.small
    have hr0 := HI.pos
    have hq0 := HI.qpos
    by_cases t1 : 4294967296 ≤ q
    · have HT := Lib.hid (show 4294967296 ≤ q ∨ 4294967296 * r + un1 < q * n0 from Or.inl t1)
      have hq1 := DivMath.one_le HI D HT.out
      by_cases t2 : r + n1 < 4294967296
      · have HS := DivMath.step HI D HT.out t2
        go_wp2
        go_round
        case rel => exact ⟨q - 1, r + n1, HS, by omega, rfl, rfl⟩
        case measure => simp [intOf]; omega
      · have E : q - 1 = qd := (DivMath.breaks HI D HT.out (by omega)).trans hqd.out.symm
        go_wp2
        clear f1 f2 f3 f4
        go_loop [18, 16] (fun x z => ∃ q r : Int, DivMath.Inv u21 n1 n0 un0 q r ∧ q ≤ 4294967297 ∧ x = .int .u64 q ∧ z = .int .u64 r) (fun x _ => (intOf x).toNat)
        case atStart => exact ⟨qq, rr, HI', hq', (by first | rfl | simp only [e10']), (by first | rfl | simp only [e12'])⟩
        case round =>
          clear HI hq HI' hr hr0 hq0 e10' e11' e12'
          obtain ⟨q, r, HI, hq, rfl, rfl⟩ := hrel
          have hr := HI.small
          have hr0 := HI.pos
          have hq0 := HI.qpos
          by_cases t1 : 4294967296 ≤ q
          · have HT := Lib.hid (show 4294967296 ≤ q ∨ 4294967296 * r + un0 < q * n0 from Or.inl t1)
            have hq1 := DivMath.one_le HI DD HT.out
            by_cases t2 : r + n1 < 4294967296
            · have HS := DivMath.step HI DD HT.out t2
              go_wp2
              go_round
              case rel => exact ⟨q - 1, r + n1, HS, by omega, rfl, rfl⟩
              case measure => simp [intOf]; omega
            · have E : q - 1 = qe := (DivMath.breaks HI DD HT.out (by omega)).trans hqe.out.symm
              go_wp2
              go_ret2
              exact ⟨rfl, rfl⟩

          · obtain ⟨x, hx⟩ : ∃ x, q * n0 = x := ⟨_, rfl⟩
            have hx0 : 0 ≤ x := by rw [← hx]; exact Int.mul_nonneg hq0 z30
            have hx1 : x ≤ 18446744073709551615 := by
              have h1 : q * n0 ≤ 4294967295 * n0 := Int.mul_le_mul_of_nonneg_right (by omega) z30
              omega
            have HX := Lib.hid hx
            by_cases t3 : 4294967296 * r + un0 < x
            · have HT := Lib.hid (show 4294967296 ≤ q ∨ 4294967296 * r + un0 < q * n0 from Or.inr (by rw [hx]; exact t3))
              have hq1 := DivMath.one_le HI DD HT.out
              by_cases t2 : r + n1 < 4294967296
              · have HS := DivMath.step HI DD HT.out t2
                go_wp2
                go_round
                case rel => exact ⟨q - 1, r + n1, HS, by omega, rfl, rfl⟩
                case measure => simp [intOf]; omega
              · have E : q - 1 = qe := (DivMath.breaks HI DD HT.out (by omega)).trans hqe.out.symm
                go_wp2
                go_ret2
                exact ⟨rfl, rfl⟩

            · obtain rfl : q = qe := (DivMath.ends HI DD (by rw [hx]; omega)).trans hqe.out.symm
              go_wp2
              go_ret2
              exact ⟨rfl, rfl⟩


    · obtain ⟨x, hx⟩ : ∃ x, q * n0 = x := ⟨_, rfl⟩
      have hx0 : 0 ≤ x := by rw [← hx]; exact Int.mul_nonneg hq0 z30
      have hx1 : x ≤ 18446744073709551615 := by
        have h1 : q * n0 ≤ 4294967295 * n0 := Int.mul_le_mul_of_nonneg_right (by omega) z30
        omega
      have HX := Lib.hid hx
      by_cases t3 : 4294967296 * r + un1 < x
      · have HT := Lib.hid (show 4294967296 ≤ q ∨ 4294967296 * r + un1 < q * n0 from Or.inr (by rw [hx]; exact t3))
        have hq1 := DivMath.one_le HI D HT.out
        by_cases t2 : r + n1 < 4294967296
        · have HS := DivMath.step HI D HT.out t2
          go_wp2
          go_round
          case rel => exact ⟨q - 1, r + n1, HS, by omega, rfl, rfl⟩
          case measure => simp [intOf]; omega
        · have E : q - 1 = qd := (DivMath.breaks HI D HT.out (by omega)).trans hqd.out.symm
          go_wp2
          clear f1 f2 f3 f4
          go_loop [18, 16] (fun x z => ∃ q r : Int, DivMath.Inv u21 n1 n0 un0 q r ∧ q ≤ 4294967297 ∧ x = .int .u64 q ∧ z = .int .u64 r) (fun x _ => (intOf x).toNat)
          case atStart => exact ⟨qq, rr, HI', hq', (by first | rfl | simp only [e10']), (by first | rfl | simp only [e12'])⟩
          case round =>
            clear HI hq HI' hr hr0 hq0 e10' e11' e12'
            obtain ⟨q, r, HI, hq, rfl, rfl⟩ := hrel
            have hr := HI.small
            have hr0 := HI.pos
            have hq0 := HI.qpos
            by_cases t1 : 4294967296 ≤ q
            · have HT := Lib.hid (show 4294967296 ≤ q ∨ 4294967296 * r + un0 < q * n0 from Or.inl t1)
              have hq1 := DivMath.one_le HI DD HT.out
              by_cases t2 : r + n1 < 4294967296
              · have HS := DivMath.step HI DD HT.out t2
                go_wp2
                go_round
                case rel => exact ⟨q - 1, r + n1, HS, by omega, rfl, rfl⟩
                case measure => simp [intOf]; omega
              · have E : q - 1 = qe := (DivMath.breaks HI DD HT.out (by omega)).trans hqe.out.symm
                go_wp2
                go_ret2
                exact ⟨rfl, rfl⟩

            · obtain ⟨x, hx⟩ : ∃ x, q * n0 = x := ⟨_, rfl⟩
              have hx0 : 0 ≤ x := by rw [← hx]; exact Int.mul_nonneg hq0 z30
              have hx1 : x ≤ 18446744073709551615 := by
                have h1 : q * n0 ≤ 4294967295 * n0 := Int.mul_le_mul_of_nonneg_right (by omega) z30
                omega
              have HX := Lib.hid hx
              by_cases t3 : 4294967296 * r + un0 < x
              · have HT := Lib.hid (show 4294967296 ≤ q ∨ 4294967296 * r + un0 < q * n0 from Or.inr (by rw [hx]; exact t3))
                have hq1 := DivMath.one_le HI DD HT.out
                by_cases t2 : r + n1 < 4294967296
                · have HS := DivMath.step HI DD HT.out t2
                  go_wp2
                  go_round
                  case rel => exact ⟨q - 1, r + n1, HS, by omega, rfl, rfl⟩
                  case measure => simp [intOf]; omega
                · have E : q - 1 = qe := (DivMath.breaks HI DD HT.out (by omega)).trans hqe.out.symm
                  go_wp2
                  go_ret2
                  exact ⟨rfl, rfl⟩

              · obtain rfl : q = qe := (DivMath.ends HI DD (by rw [hx]; omega)).trans hqe.out.symm
                go_wp2
                go_ret2
                exact ⟨rfl, rfl⟩


      · obtain rfl : q = qd := (DivMath.ends HI D (by rw [hx]; omega)).trans hqd.out.symm
        go_wp2
        clear f1 f2 f3 f4
        go_loop [18, 16] (fun x z => ∃ q r : Int, DivMath.Inv u21 n1 n0 un0 q r ∧ q ≤ 4294967297 ∧ x = .int .u64 q ∧ z = .int .u64 r) (fun x _ => (intOf x).toNat)
        case atStart => exact ⟨qq, rr, HI', hq', (by first | rfl | simp only [e10']), (by first | rfl | simp only [e12'])⟩
        case round =>
          clear HI hq HI' hr hr0 hq0 e10' e11' e12'
          obtain ⟨q, r, HI, hq, rfl, rfl⟩ := hrel
          have hr := HI.small
          have hr0 := HI.pos
          have hq0 := HI.qpos
          by_cases t1 : 4294967296 ≤ q
          · have HT := Lib.hid (show 4294967296 ≤ q ∨ 4294967296 * r + un0 < q * n0 from Or.inl t1)
            have hq1 := DivMath.one_le HI DD HT.out
            by_cases t2 : r + n1 < 4294967296
            · have HS := DivMath.step HI DD HT.out t2
              go_wp2
              go_round
              case rel => exact ⟨q - 1, r + n1, HS, by omega, rfl, rfl⟩
              case measure => simp [intOf]; omega
            · have E : q - 1 = qe := (DivMath.breaks HI DD HT.out (by omega)).trans hqe.out.symm
              go_wp2
              go_ret2
              exact ⟨rfl, rfl⟩

          · obtain ⟨x, hx⟩ : ∃ x, q * n0 = x := ⟨_, rfl⟩
            have hx0 : 0 ≤ x := by rw [← hx]; exact Int.mul_nonneg hq0 z30
            have hx1 : x ≤ 18446744073709551615 := by
              have h1 : q * n0 ≤ 4294967295 * n0 := Int.mul_le_mul_of_nonneg_right (by omega) z30
              omega
            have HX := Lib.hid hx
            by_cases t3 : 4294967296 * r + un0 < x
            · have HT := Lib.hid (show 4294967296 ≤ q ∨ 4294967296 * r + un0 < q * n0 from Or.inr (by rw [hx]; exact t3))
              have hq1 := DivMath.one_le HI DD HT.out
              by_cases t2 : r + n1 < 4294967296
              · have HS := DivMath.step HI DD HT.out t2
                go_wp2
                go_round
                case rel => exact ⟨q - 1, r + n1, HS, by omega, rfl, rfl⟩
                case measure => simp [intOf]; omega
              · have E : q - 1 = qe := (DivMath.breaks HI DD HT.out (by omega)).trans hqe.out.symm
                go_wp2
                go_ret2
                exact ⟨rfl, rfl⟩

            · obtain rfl : q = qe := (DivMath.ends HI DD (by rw [hx]; omega)).trans hqe.out.symm
              go_wp2
              go_ret2
              exact ⟨rfl, rfl⟩


end Go.Proofs.YthnhgjhnkncmiaaGreat

/-
  A region that draws its order: one invariant for all orders, each operation shown once. No statement of the seat is proved here.
  The laws of single operations for regions that draw their order. No statement of the seat is proved here.
  The contracts of guarantee.search, guarantee.Required and guarantee.splice, and of central.covering. No statement of the seat is proved here. Conditions: reservations that read as pairs.
-/
import Derived.OrdersHeld
import Derived.Below
import Derived.Test.YtdbcbbiplkikcaaGreatNAA
import Derived.Test.YtdbcbbiplkikcaaGreatNAT
import Derived.Test.YtdbcbbiplkikcaaGreatNAD
import Derived.Test.YtdbcbbiplkikcaaGreatNAK
import Derived.OwnWalk
namespace Go.Proofs.YtdbcbbiplkikcaaGreat
open Go.RowKit
set_option linter.unusedVariables false

section
variable {P : Program} {ops : Array Oper} {Q : Exit → Act → World → Prop} {md : Region.Mode}

theorem count_set {l : List Bool} {i : Nat} (h : l[i]? = some false) : (l.set i true).count false + 1 = l.count false := by
  induction l generalizing i with
  | nil => simp at h
  | cons x xs ih =>
    cases i with
    | zero => simp at h; subst h; simp
    | succ i => simp at h; have := ih h; simp [List.count_cons]; omega

theorem wpAny_of_inv (I : Array Bool → Act → World → Prop)
    (hs : ∀ listed a w, I listed a w → listed.size = ops.size)
    (hdone : ∀ listed a w, I listed a w → Region.ready md ops listed = [] → Q .normal a w)
    (hstep : ∀ listed a w i, I listed a w → i ∈ Region.ready md ops listed → wpOp P ops Q i (I (listed.setIfInBounds i true)) a w) :
    ∀ (fuel : Nat) (listed : Array Bool) (a : Act) (w : World), I listed a w → listed.toList.count false ≤ fuel → wpAny P md ops Q fuel listed a w := by
  have hun : ∀ (listed : Array Bool) (i : Nat), i ∈ Region.ready md ops listed → listed.toList[i]? = some false := fun listed i hi => by
    have := (mem_ready.1 hi).1
    rcases Nat.lt_or_ge i listed.size with h | h
    · simp [h] at this ⊢; exact this
    · simp [Array.getD, Nat.not_lt.2 h] at this
  intro fuel
  induction fuel with
  | zero =>
    intro listed a w hI hc
    have hr : Region.ready md ops listed = [] := by
      cases hr : Region.ready md ops listed with
      | nil => rfl
      | cons i is =>
        have := count_set (hun listed i (by rw [hr]; simp))
        omega
    exact ⟨hr, hdone _ _ _ hI hr⟩
  | succ fuel ih =>
    intro listed a w hI hc
    refine ⟨fun hr => hdone _ _ _ hI hr, fun i hi => ?_⟩
    refine wpOp_mono (fun a' w' h => ih _ _ _ h ?_) (hstep _ _ _ i hI hi)
    have := count_set (hun listed i hi)
    simp
    omega

end

structure Job where
  dst : Option Tmp
  deps : List Nat
  eats : List Nat

def putJ : List (Nat × Job) → (Nat → Bool) → (Nat → Value) → Act → Act
  | [], _, _, a => a
  | (i, j) :: r, L, vs, a => putJ r L vs (if L i then a.put j.dst (vs i) else a)

def number (js : List Job) : Nat → List (Nat × Job)
  | k => match js with
    | [] => []
    | j :: r => (k, j) :: number r (k + 1)

theorem mem_number {js : List Job} {k i : Nat} {j : Job} (h : (i, j) ∈ number js k) : k ≤ i ∧ js[i - k]? = some j := by
  induction js generalizing k with
  | nil => simp [number] at h
  | cons x xs ih =>
    simp [number] at h
    rcases h with ⟨rfl, rfl⟩ | h
    · simp
    · have := ih h
      refine ⟨by omega, ?_⟩
      rw [show i - k = (i - (k + 1)) + 1 by omega]
      simpa using this.2
theorem number_mem {js : List Job} {k i : Nat} {j : Job} (h : js[i]? = some j) : (k + i, j) ∈ number js k := by
  induction js generalizing k i with
  | nil => simp at h
  | cons x xs ih =>
    cases i with
    | zero => simp at h; subst h; simp [number]
    | succ i => simp at h; have := ih (k := k + 1) h; simp [number]; rw [show k + (i + 1) = k + 1 + i by omega]; exact this

def dstsOk : List (Nat × Job) → Bool
  | [] => true
  | (i, j) :: r => (r.all fun p => p.1 != i && (match j.dst with | some d => p.2.dst != some d | none => true)) && dstsOk r

theorem dstsOk_cons {i : Nat} {j : Job} {r : List (Nat × Job)} (h : dstsOk ((i, j) :: r) = true) : (∀ p ∈ r, p.1 ≠ i ∧ ∀ d, j.dst = some d → p.2.dst ≠ some d) ∧ dstsOk r = true := by
  simp only [dstsOk, Bool.and_eq_true, List.all_eq_true] at h
  refine ⟨fun p hp => ?_, h.2⟩
  have := h.1 p hp
  simp only [bne_iff_ne, ne_eq] at this
  refine ⟨this.1, fun d hd => ?_⟩
  have h2 := this.2
  rw [hd] at h2
  simpa using h2

theorem putJ_put {l : List (Nat × Job)} (hl : dstsOk l = true) (L : Nat → Bool) (vs : Nat → Value) (d : Option Tmp) (v : Value) (a : Act) (hd : ∀ p ∈ l, ∀ e, d = some e → p.2.dst ≠ some e) :
    putJ l L vs (a.put d v) = (putJ l L vs a).put d v := by
  induction l generalizing a with
  | nil => rfl
  | cons p r ih =>
    obtain ⟨i, j⟩ := p
    have h1 := dstsOk_cons hl
    simp only [putJ]
    rw [← ih h1.2 _ (fun p hp => hd p (List.mem_cons_of_mem _ hp))]
    congr 1
    split
    · exact Act.put_comm a (x := d) (y := j.dst) v (vs i) (fun e he => hd (i, j) (List.mem_cons_self ..) e he)
    · rfl
theorem putJ_congr {l : List (Nat × Job)} {L L' : Nat → Bool} {vs vs' : Nat → Value} {a : Act} (h : ∀ p ∈ l, L p.1 = L' p.1 ∧ (L p.1 = true → vs p.1 = vs' p.1)) : putJ l L vs a = putJ l L' vs' a := by
  induction l generalizing a with
  | nil => rfl
  | cons p r ih =>
    obtain ⟨i, j⟩ := p
    have h1 := h (i, j) (List.mem_cons_self ..)
    simp only [putJ]
    rw [← h1.1]
    cases hL : L i with
    | false => simp only [Bool.false_eq_true, if_false]; exact ih fun p hp => h p (List.mem_cons_of_mem _ hp)
    | true => simp only [if_true]; rw [h1.2 hL]; exact ih fun p hp => h p (List.mem_cons_of_mem _ hp)
theorem putJ_step {l : List (Nat × Job)} (hl : dstsOk l = true) {L : Nat → Bool} {vs : Nat → Value} {a : Act} {i : Nat} {j : Job} (hi : (i, j) ∈ l) (hL : L i = false) (v : Value) :
    putJ l (fun k => if k = i then true else L k) (fun k => if k = i then v else vs k) a = (putJ l L vs a).put j.dst v := by
  induction l generalizing a with
  | nil => cases hi
  | cons p r ih =>
    obtain ⟨k, q⟩ := p
    have h1 := dstsOk_cons hl
    rcases List.mem_cons.1 hi with e | hr
    · injection e with e1 e2
      subst e1 e2
      simp only [putJ, hL, if_true, Bool.false_eq_true, if_false]
      rw [← putJ_put h1.2 L vs j.dst v a (fun p hp => (h1.1 p hp).2)]
      exact putJ_congr fun p hp => by simp [(h1.1 p hp).1]
    · have hne : k ≠ i := fun e => (h1.1 _ hr).1 e.symm
      simp only [putJ, hne, if_false]
      exact ih h1.2 hr
theorem putJ_free' {l : List (Nat × Job)} {L : Nat → Bool} {vs : Nat → Value} {a : Act} {t : Tmp} (h : ∀ p ∈ l, p.2.dst = some t → L p.1 = false) : (putJ l L vs a).eval (.tmp t) = a.eval (.tmp t) := by
  induction l generalizing a with
  | nil => rfl
  | cons p r ih =>
    obtain ⟨k, q⟩ := p
    simp only [putJ]
    rw [ih fun p hp => h p (List.mem_cons_of_mem _ hp)]
    cases hL : L k with
    | false => rfl
    | true =>
      simp only [if_true]
      refine Act.eval_put fun d hd e => ?_
      injection e with e
      have := h (k, q) (List.mem_cons_self ..) (by rw [hd, e])
      simp only at this
      rw [hL] at this; cases this
theorem putJ_free {l : List (Nat × Job)} {L : Nat → Bool} {vs : Nat → Value} {a : Act} {x : Operand} (h : ∀ p ∈ l, ∀ d, p.2.dst = some d → x ≠ .tmp d) : (putJ l L vs a).eval x = a.eval x := by
  induction l generalizing a with
  | nil => rfl
  | cons p r ih =>
    obtain ⟨k, q⟩ := p
    simp only [putJ]
    rw [ih fun p hp => h p (List.mem_cons_of_mem _ hp)]
    split
    · exact Act.eval_put fun d hd => h (k, q) (List.mem_cons_self ..) d hd
    · rfl
theorem eval_put_self {a : Act} {d : Tmp} {v : Value} (hd : d < a.tmps.size) : (a.put (some d) v).eval (.tmp d) = v := by
  simp [Act.put, Act.eval, hd]
theorem put_size (a : Act) (d : Option Tmp) (v : Value) : (a.put d v).tmps.size = a.tmps.size := by
  cases d <;> simp [Act.put]
theorem putJ_at {l : List (Nat × Job)} (hl : dstsOk l = true) {L : Nat → Bool} {vs : Nat → Value} {a : Act} {i : Nat} {j : Job} (hi : (i, j) ∈ l) (hL : L i = true) {d : Tmp} (hd : j.dst = some d) (hsz : d < a.tmps.size) :
    (putJ l L vs a).eval (.tmp d) = vs i := by
  induction l generalizing a with
  | nil => cases hi
  | cons p r ih =>
    obtain ⟨k, q⟩ := p
    have h1 := dstsOk_cons hl
    simp only [putJ]
    rcases List.mem_cons.1 hi with e | hr
    · injection e with e1 e2
      subst e1 e2
      rw [putJ_free fun p hp e he h => ?_]
      · rw [hL, if_pos rfl, hd]; exact eval_put_self hsz
      · injection h with h
        exact (h1.1 p hp).2 d hd (by rw [he, h])
    · refine ih h1.2 hr ?_
      split
      · rw [put_size]; exact hsz
      · exact hsz

def fitsJ (ops : Array Oper) (js : List Job) : Bool :=
  ops.size == js.length && dstsOk (number js 0) &&
  (number js 0).all fun p =>
    (match ops[p.1]? with
      | some o => (match p.2.dst, o.dst with | some d, some e => d == e | none, none => true | _, _ => false) && o.guard.isNone &&
          (o.after.toList.all fun e => !Region.binds .any e || decide (e.on < p.1)) &&
          p.2.deps.all (fun d => o.after.toList.any fun e => Region.binds .any e && e.on == d)
      | none => false) &&
    p.2.eats.all (fun d => p.2.deps.contains d) &&
    (number js 0).all (fun q => q.1 == p.1 || p.2.eats.all fun d => !q.2.eats.contains d)

theorem fitsJ_spec {ops : Array Oper} {js : List Job} (h : fitsJ ops js = true) :
    ops.size = js.length ∧ dstsOk (number js 0) = true ∧ ∀ i j, js[i]? = some j → ∃ o, ops[i]? = some o ∧ o.dst = j.dst ∧ o.guard = none ∧
      (∀ e ∈ o.after, Region.binds .any e = true → e.on < i) ∧ (∀ d ∈ j.deps, ∃ e ∈ o.after, Region.binds .any e = true ∧ e.on = d) ∧
      (∀ d ∈ j.eats, d ∈ j.deps) ∧ ∀ k q, js[k]? = some q → k ≠ i → ∀ d ∈ j.eats, d ∉ q.eats := by
  unfold fitsJ at h
  simp only [Bool.and_eq_true, List.all_eq_true, beq_iff_eq] at h
  obtain ⟨⟨h1, h2⟩, h3⟩ := h
  refine ⟨h1, h2, fun i j hj => ?_⟩
  have hm : (i, j) ∈ number js 0 := by have := number_mem (k := 0) hj; rwa [Nat.zero_add] at this
  obtain ⟨⟨h4, h5⟩, h6⟩ := h3 _ hm
  cases ho : ops[i]? with
  | none => simp only [ho] at h4; cases h4
  | some o =>
    simp only [ho, Bool.and_eq_true] at h4
    obtain ⟨⟨⟨h7, h8⟩, h9⟩, h10⟩ := h4
    refine ⟨o, rfl, ?_, ?_, fun e he hb => ?_, fun d hd => ?_, fun d hd => ?_, fun k q hk hne d hd => ?_⟩
    · cases ha : o.dst <;> cases hb : j.dst <;> simp [ha, hb] at h7 ⊢
      exact h7.symm
    · simpa using h8
    · simp only [List.all_eq_true] at h9
      have := h9 e (by simpa using he)
      simpa [hb] using this
    · simp only [List.all_eq_true] at h10
      have := h10 d hd
      simp only [List.any_eq_true] at this
      obtain ⟨e, he, h11⟩ := this
      simp only [Bool.and_eq_true, beq_iff_eq] at h11
      exact ⟨e, by simpa using he, h11.1, h11.2⟩
    · have := h5 d hd
      simpa using this
    · have := h6 (k, q) (by have := number_mem (k := 0) hk; rwa [Nat.zero_add] at this)
      simp only [Bool.or_eq_true, beq_iff_eq, hne, false_or, List.all_eq_true] at this
      simpa using this d hd

def dv (js : List Job) (i : Nat) (vs : Nat → Value) : List Value := match js[i]? with | some j => j.deps.map vs | none => []
theorem dv_some {js : List Job} {i : Nat} {j : Job} (h : js[i]? = some j) (vs : Nat → Value) : dv js i vs = j.deps.map vs := by simp [dv, h]
theorem dv_congr {js : List Job} {i : Nat} {vs vs' : Nat → Value} (h : ∀ j, js[i]? = some j → ∀ d ∈ j.deps, vs d = vs' d) : dv js i vs = dv js i vs' := by
  unfold dv
  cases hj : js[i]? with
  | none => rfl
  | some j => exact List.map_congr_left fun d hd => h j hj d hd

section
variable (P : Program) (ops : Array Oper) (Q : Exit → Act → World → Prop) (js : List Job) (a0 : Act) (w0 : World)
variable (fact : Nat → List Value → Value → Prop) (res : Nat → List Value → Value → List Nat → World → Prop)

def waits (js : List Job) : Nat → Nat → Nat → Bool
  | 0, _, _ => false
  | f + 1, k, i => match js[k]? with | some j => j.deps.any fun d => d == i || waits js f d i | none => false
theorem waits_listed {js : List Job} {L : Nat → Bool} (h : ∀ k j, js[k]? = some j → L k = true → ∀ d ∈ j.deps, L d = true) : ∀ (f k i : Nat), waits js f k i = true → L k = true → L i = true := by
  intro f
  induction f with
  | zero => intro k i h1; cases h1
  | succ f ih =>
    intro k i h1 hL
    unfold waits at h1
    cases hj : js[k]? with
    | none => rw [hj] at h1; cases h1
    | some j =>
      rw [hj] at h1
      simp only [List.any_eq_true, Bool.or_eq_true, beq_iff_eq] at h1
      obtain ⟨d, hd, h2⟩ := h1
      have h3 := h k j hj hL d hd
      rcases h2 with rfl | h2
      · exact h3
      · exact ih d i h2 h3
structure Finds (i0 : Nat) (j : Job) (a : Act) (w : World) (vs : Nat → Value) (fp : Nat → List Nat) : Prop where
  below : RowKit.Below w0.heap.size w0 w
  old : ∀ t : Tmp, (∀ k q, js[k]? = some q → q.dst = some t → waits js js.length k i0 = true) → a.eval (.tmp t) = a0.eval (.tmp t)
  dep : ∀ i ∈ j.deps, ∀ q, js[i]? = some q → (∀ d, q.dst = some d → a.eval (.tmp d) = vs i)
  val : ∀ i ∈ j.deps, fact i (dv js i vs) (vs i)
  mem : ∀ i ∈ j.eats, res i (dv js i vs) (vs i) (fp i) w
  own : ∀ i ∈ j.eats, ∀ g ∈ fp i, w0.heap.size ≤ g ∧ g < w.heap.size
  apart : ∀ i ∈ j.eats, ∀ k ∈ j.eats, i ≠ k → ∀ g ∈ fp i, g ∉ fp k

structure Leaves (i : Nat) (j : Job) (w : World) (vs : Nat → Value) (fp : Nat → List Nat) (v : Value) (f : List Nat) (w' : World) : Prop where
  below : RowKit.Below w0.heap.size w0 w'
  size : w.heap.size ≤ w'.heap.size
  block : ∀ g, g < w.heap.size → (∀ k ∈ j.eats, g ∉ fp k) → w'.heap[g]? = w.heap[g]?
  val : fact i (j.deps.map vs) v
  mem : res i (j.deps.map vs) v f w'
  own : ∀ g ∈ f, g < w'.heap.size ∧ ((∃ k ∈ j.eats, g ∈ fp k) ∨ w.heap.size ≤ g)

def StepJ (i : Nat) : Prop :=
  ∀ j o, js[i]? = some j → ops[i]? = some o → ∀ (a : Act) (w : World) (vs : Nat → Value) (fp : Nat → List Nat) (K : Act → World → Prop),
    Finds js a0 w0 fact res i j a w vs fp →
    (∀ v w' f, Leaves w0 fact res i j w vs fp v f w' → K (a.put o.dst v) w') → Oper.wp P o a w K Q

structure InvJ (listed : Array Bool) (a : Act) (w : World) (vs : Nat → Value) (fp : Nat → List Nat) : Prop where
  size : listed.size = ops.size
  frame : a = putJ (number js 0) (fun i => listed.getD i false) vs a0
  below : RowKit.Below w0.heap.size w0 w
  deps : ∀ i j, js[i]? = some j → listed.getD i false = true → ∀ d ∈ j.deps, listed.getD d false = true
  val : ∀ i, listed.getD i false = true → fact i (dv js i vs) (vs i)
  mem : ∀ i, listed.getD i false = true → (∀ k q, js[k]? = some q → listed.getD k false = true → i ∉ q.eats) → res i (dv js i vs) (vs i) (fp i) w ∧ ∀ g ∈ fp i, w0.heap.size ≤ g ∧ g < w.heap.size
  apart : ∀ i k, listed.getD i false = true → listed.getD k false = true → (∀ l q, js[l]? = some q → listed.getD l false = true → i ∉ q.eats) → (∀ l q, js[l]? = some q → listed.getD l false = true → k ∉ q.eats) → i ≠ k → ∀ g ∈ fp i, g ∉ fp k

end

theorem getD_set_eq (l : Array Bool) {i : Nat} (h : i < l.size) (k : Nat) : (l.setIfInBounds i true).getD k false = if k = i then true else l.getD k false := by
  by_cases e : k = i
  · subst e; simp [h]
  · rw [if_neg e]
    simp [Ne.symm e, Array.getD_eq_getD_getElem?]

theorem InvJ.fin {ops : Array Oper} {js : List Job} {a0 : Act} {w0 : World} {fact : Nat → List Value → Value → Prop} {res : Nat → List Value → Value → List Nat → World → Prop} {a : Act} {w : World} {vs : Nat → Value} {fp : Nat → List Nat}
    (h : InvJ ops js a0 w0 fact res (Array.replicate ops.size true) a w vs fp) (i : Nat) (hi : i < ops.size) : fact i (dv js i vs) (vs i) := h.val i (by simp [hi])
theorem InvJ.finM {ops : Array Oper} {js : List Job} {a0 : Act} {w0 : World} {fact : Nat → List Value → Value → Prop} {res : Nat → List Value → Value → List Nat → World → Prop} {a : Act} {w : World} {vs : Nat → Value} {fp : Nat → List Nat}
    (h : InvJ ops js a0 w0 fact res (Array.replicate ops.size true) a w vs fp) (i : Nat) (hi : i < ops.size) (hu : (js.all fun q => !q.eats.contains i) = true) : res i (dv js i vs) (vs i) (fp i) w ∧ ∀ g ∈ fp i, w0.heap.size ≤ g ∧ g < w.heap.size :=
  h.mem i (by simp [hi]) fun k q hq _ hm => by
    rw [List.all_eq_true] at hu
    have := hu q (List.mem_of_getElem? hq)
    simp at this
    exact this hm

/-! The same by rows: an operation's job, what is known of its value, what memory it holds. -/
structure Row where
  job : Job
  fact : List Value → Value → Prop
  res : List Value → Value → List Nat → World → Prop
def rj (rows : List Row) : List Job := rows.map (·.job)
def rf (rows : List Row) (i : Nat) : List Value → Value → Prop := match rows[i]? with | some r => r.fact | none => fun _ _ => True
def rr (rows : List Row) (i : Nat) : List Value → Value → List Nat → World → Prop := match rows[i]? with | some r => r.res | none => fun _ _ _ _ => True
def Loc (w0 : World) (R : List Value → Value → List Nat → World → Prop) : Prop :=
  ∀ l v f w w', RowKit.Below w0.heap.size w0 w → RowKit.Below w0.heap.size w0 w' → w.heap.size ≤ w'.heap.size → (∀ g ∈ f, w0.heap.size ≤ g ∧ g < w.heap.size ∧ w'.heap[g]? = w.heap[g]?) → R l v f w → R l v f w'
def Locs (w0 : World) : List Row → Prop
  | [] => True
  | r :: rs => Loc w0 r.res ∧ Locs w0 rs
theorem Locs.at_ {w0 : World} {rows : List Row} (h : Locs w0 rows) : ∀ r ∈ rows, Loc w0 r.res := by
  induction rows with
  | nil => intro r hr; cases hr
  | cons x xs ih =>
    intro r hr
    rcases List.mem_cons.1 hr with rfl | hr
    · exact h.1
    · exact ih h.2 r hr
def StepsJ (P : Program) (ops : Array Oper) (Q : Exit → Act → World → Prop) (rows : List Row) (a0 : Act) (w0 : World) : List Row → Nat → Prop
  | [], _ => True
  | r :: rs, k => StepJ P ops Q (rj rows) a0 w0 (rf rows) (rr rows) k ∧ StepsJ P ops Q rows a0 w0 rs (k + 1)
theorem StepsJ.at_ {P : Program} {ops : Array Oper} {Q : Exit → Act → World → Prop} {rows : List Row} {a0 : Act} {w0 : World} {rs : List Row} {k : Nat} (h : StepsJ P ops Q rows a0 w0 rs k) (i : Nat) (hi : i < rs.length) : StepJ P ops Q (rj rows) a0 w0 (rf rows) (rr rows) (k + i) := by
  induction rs generalizing k i with
  | nil => cases hi
  | cons x xs ih =>
    cases i with
    | zero => exact h.1
    | succ i => have := ih h.2 i (by simpa using hi); rwa [show k + (i + 1) = k + 1 + i by omega]
def slotsOk (js : List Job) (n : Nat) : Bool := js.all fun q => match q.dst with | some d => decide (d < n) | none => true

section
variable {P : Program} {ops : Array Oper} {Q : Exit → Act → World → Prop} {js : List Job} {a0 : Act} {w0 : World} {fact : Nat → List Value → Value → Prop} {res : Nat → List Value → Value → List Nat → World → Prop}

variable {i : Nat} {j : Job} {a : Act} {w : World} {vs : Nat → Value} {fp : Nat → List Nat}
theorem Finds.ev (h : Finds js a0 w0 fact res i j a w vs fp) (k d : Nat) (hk : j.deps.contains k = true) (hd : (js[k]?).bind (·.dst) = some d) : a.eval (.tmp d) = vs k := by
  cases hq : js[k]? with
  | none => rw [hq] at hd; cases hd
  | some q => rw [hq] at hd; exact h.dep k (by simpa using hk) q hq d hd
def oldOk (js : List Job) (i t : Nat) : Bool := (number js 0).all fun p => p.2.dst != some t || waits js js.length p.1 i
theorem Finds.at_ (h : Finds js a0 w0 fact res i j a w vs fp) (t : Nat) (ht : oldOk js i t = true) : a.eval (.tmp t) = a0.eval (.tmp t) :=
  h.old t fun k q hq e => by
    unfold oldOk at ht
    rw [List.all_eq_true] at ht
    have hm := number_mem (k := 0) hq
    rw [Nat.zero_add] at hm
    have := ht _ hm
    simp only [e, bne_self_eq_false, Bool.false_or] at this
    exact this
theorem Finds.va (h : Finds js a0 w0 fact res i j a w vs fp) (k : Nat) (hk : j.deps.contains k = true) : fact k (dv js k vs) (vs k) := h.val k (by simpa using hk)
theorem Finds.me (h : Finds js a0 w0 fact res i j a w vs fp) (k : Nat) (hk : j.eats.contains k = true) : res k (dv js k vs) (vs k) (fp k) w := h.mem k (by simpa using hk)
variable {v : Value} {f : List Nat} {w' : World}
theorem Finds.only (h : Finds js a0 w0 fact res i j a w vs fp) (h1 : fact i (j.deps.map vs) v) (h2 : res i (j.deps.map vs) v [] w) : Leaves w0 fact res i j w vs fp v [] w :=
  ⟨h.below, Nat.le_refl _, fun _ _ _ => rfl, h1, h2, fun g hg => by cases hg⟩
theorem Finds.hand (h : Finds js a0 w0 fact res i j a w vs fp) (k : Nat) (hk' : j.eats.contains k = true) (h1 : fact i (j.deps.map vs) v) (h2 : res i (j.deps.map vs) v (fp k) w) : Leaves w0 fact res i j w vs fp v (fp k) w :=
  have hk : k ∈ j.eats := by simpa using hk'
  ⟨h.below, Nat.le_refl _, fun _ _ _ => rfl, h1, h2, fun g hg => ⟨(h.own k hk g hg).2, .inl ⟨k, hk, hg⟩⟩⟩
theorem Finds.made (h : Finds js a0 w0 fact res i j a w vs fp) (o : Obj) (h1 : fact i (j.deps.map vs) v) (h2 : res i (j.deps.map vs) v [w.heap.size] (w.alloc o)) : Leaves w0 fact res i j w vs fp v [w.heap.size] (w.alloc o) :=
  ⟨h.below.alloc h.below.size o, by simp, fun g hg _ => Below.heap_alloc w o g hg, h1, h2, fun g hg => by
    rw [List.mem_singleton] at hg; subst hg; exact ⟨by simp, .inr (Nat.le_refl _)⟩⟩
theorem Finds.under (h : Finds js a0 w0 fact res i j a w vs fp) (hb : RowKit.Below w.heap.size w w') (h1 : fact i (j.deps.map vs) v) (h2 : res i (j.deps.map vs) v f w') (h3 : ∀ g ∈ f, w.heap.size ≤ g ∧ g < w'.heap.size) : Leaves w0 fact res i j w vs fp v f w' :=
  ⟨h.below.trans (hb.mono h.below.size), hb.size, fun g hg _ => hb.block g hg, h1, h2, fun g hg => ⟨(h3 g hg).2, .inr (h3 g hg).1⟩⟩
theorem Finds.grown (h : Finds js a0 w0 fact res i j a w vs fp) {u : Value} (k : Nat) (hk' : j.eats.contains k = true) (hf : fp k = u.ownBlock.toList) (hg : w.grownBy w' u.ownBlock) (hv : v.ownBlock = u.ownBlock ∨ v.ownBlock = some w.heap.size)
    (hl : ∀ g, v.ownBlock = some g → g < w'.heap.size) (h1 : fact i (j.deps.map vs) v) (h2 : res i (j.deps.map vs) v v.ownBlock.toList w') : Leaves w0 fact res i j w vs fp v v.ownBlock.toList w' := by
  have hk : k ∈ j.eats := by simpa using hk'
  refine ⟨h.below.grown hg h.below.size (fun g hg => ((h.own k hk g) (by rw [hf, hg]; simp)).1), hg.size, fun g hgl hne => hg.block g hgl (fun e => hne k hk (by rw [hf, ← e]; simp)), h1, h2, fun g hgm => ?_⟩
  have hgv : v.ownBlock = some g := by simpa using hgm
  refine ⟨hl g hgv, ?_⟩
  rcases hv with e | e
  · exact .inl ⟨k, hk, by rw [hf, ← e, hgv]; simp⟩
  · rw [hgv] at e; injection e with e; exact .inr (by omega)
end
end Go.Proofs.YtdbcbbiplkikcaaGreat

namespace Go.Proofs.YtdbcbbiplkikcaaGreat
open Go.RowKit
set_option linter.unusedVariables false

section
variable {P : Program} {o : Oper} {a : Act} {w : World} {K : Act → World → Prop} {Q : Exit → Act → World → Prop}

theorem op_value {v : Value} {w' : World} (h : (execOp a.eval o).run P w = .ok (.value v) w') (hK : K (a.put o.dst v) w') : o.wp P a w K Q := by
  unfold Oper.wp; rw [h]; exact hK
theorem op_skip {w' : World} (h : (execOp a.eval o).run P w = .ok .skip w') (hK : K (a.put o.dst undef) w') : o.wp P a w K Q := by
  unfold Oper.wp; rw [h]; exact hK
theorem op_move {x : Operand} {v : Value} (ho : o.op = .move x) (hx : a.eval x = v) (hK : K (a.put o.dst v) w) : o.wp P a w K Q :=
  op_value (by simp only [execOp, ho, hx]; rfl) hK
def hasBody (P : Program) (f : FuncId) : Bool := match P.funcs[f]? with | some fn => fn.name != "runtime.NumGoroutine" && fn.body.isSome | none => false
theorem op_call {f : FuncId} {xs : Array Operand} {ts : Array TypeId} {vals : Array Value} (ho : o.op = .call { callee := .value (.func f), args := xs, argTypes := ts }) (hf : hasBody P f = true) (hx : xs.map a.eval = vals)
    (hc : Calls P f vals w fun e w' => ∃ v, e = .returned v ∧ K (a.put o.dst v) w') : o.wp P a w K Q := by
  unfold Oper.wp
  have : (execOp a.eval o).run P w = .ok (.enter f vals) w := by
    unfold hasBody at hf
    simp only [execOp, ho, resolve, hx, Act.eval, Deferred.ofValue, invoke, callFunc]
    cases hp : P.funcs[f]? with
    | none => rw [hp] at hf; cases hf
    | some fn =>
      rw [hp] at hf
      simp only [Bool.and_eq_true, bne_iff_ne] at hf
      have h2 : fn.body.isNone = false := by cases hb : fn.body <;> simp [hb] at hf ⊢
      simp [Sem.run_bind, hp, hf.1]
      intro h3
      rw [h3] at h2; cases h2
  rw [this]
  exact hc.mono fun e w' ⟨v, h1, h2⟩ => by subst h1; exact h2
end

/-! Slices of slices. -/
theorem addr_add0 (A : Option Addr) : A.map (·.add 0) = A := by
  cases A with
  | none => rfl
  | some a => simp [Addr.add]
theorem run_hi {P : Program} {t e : TypeId} {size : Nat} (ht : P.underlying t = some (.slice e)) (hi : (P.info? e).map (·.size) = some size) (A : Option Addr) (n c k : Nat) (hk : k ≤ c) (w : World) :
    (Instr.sliceAt t (.slice A n c) none (some (.int .i64 (k : Int))) none).run P w = .ok (.slice A k c) w := by
  cases hinfo : P.info? e with
  | none => rw [hinfo] at hi; cases hi
  | some i =>
    have h2 := run_sliceBound (P := P) w .i64 (k : Int) c .sliceAcap (by omega) (by omega)
    simp [Instr.sliceAt, Instr.slice, Instr.sliceBounds, run_underlying ht, sizeOf, typeInfo, hinfo, h2, addr_add0]
theorem run_lo {P : Program} {t e : TypeId} {size : Nat} (ht : P.underlying t = some (.slice e)) (hi : (P.info? e).map (·.size) = some size) (A : Option Addr) (n c k : Nat) (hk : k ≤ n) (w : World) :
    (Instr.sliceAt t (.slice A n c) (some (.int .i64 (k : Int))) none none).run P w = .ok (.slice (if c = k then A else A.map (·.add (k * size))) (n - k) (c - k)) w := by
  cases hinfo : P.info? e with
  | none => rw [hinfo] at hi; cases hi
  | some i =>
    rw [hinfo] at hi
    injection hi with hi
    have h2 := run_sliceBound (P := P) w .i64 (k : Int) n .sliceB (by omega) (by omega)
    simp [Instr.sliceAt, Instr.slice, Instr.sliceBounds, run_underlying ht, sizeOf, typeInfo, hinfo, h2, hi]
section
variable {P : Program} {o : Oper} {a : Act} {w : World} {K : Act → World → Prop} {Q : Exit → Act → World → Prop}
end
theorem Rd.take {w : World} {size : Nat} {A : Option Addr} {n : Nat} {xs : List Value} (h : Rd w size A n xs) {k : Nat} (hk : k ≤ n) : Rd w size A k (xs.take (k * size)) := by
  refine ⟨by rw [List.length_take, h.1]; exact Nat.min_eq_left (Nat.mul_le_mul_right _ hk), fun h0 => ?_⟩
  obtain ⟨b, off, e, hb, hc⟩ := h.2 (by omega)
  refine ⟨b, off, e, hb, fun j u hu => hc j u ?_⟩
  rw [List.getElem?_take] at hu
  split at hu
  · exact hu
  · cases hu
theorem Rd.drop {w : World} {size : Nat} {A : Option Addr} {n : Nat} {xs : List Value} (h : Rd w size A n xs) {k c : Nat} (hk : k ≤ n) (hc : n ≤ c) : Rd w size (if c = k then A else A.map (·.add (k * size))) (n - k) (xs.drop (k * size)) := by
  refine ⟨by rw [List.length_drop, h.1, Nat.sub_mul], fun h0 => ?_⟩
  obtain ⟨b, off, e, hb, hcl⟩ := h.2 (by omega)
  rw [if_neg (by omega), e]
  refine ⟨b, off + k * size, by by_cases e0 : k * size = 0 <;> simp [Addr.add, e0], hb, fun j u hu => ?_⟩
  rw [List.getElem?_drop] at hu
  have := hcl _ u hu
  rwa [← Nat.add_assoc] at this
end Go.Proofs.YtdbcbbiplkikcaaGreat

namespace Go.Proofs.YtdbcbbiplkikcaaGreat
open Go.RowKit
set_option linter.unusedVariables false

set_option maxRecDepth 100000 in
set_option maxHeartbeats 2000000 in
theorem search37_any (A : Option Addr) (n c : Nat) (us : List (Int × Int)) (t : Int) (w : World) (h : Recs enc2 2 w A n us) (hn : n ≤ 1000000) (ha : uAsc us) :
    Calls Tryz.prog 116 #[.slice A n c, .int .i64 t] w (BsU w us t) := by
  have HC := Lib.hid (bsearchS_any A n c us t w h hn ha)
  clear h ha
  go_enter Tryz.func116, Tryz.ntmps116
  go_wp2_with fail
  refine HC.out.mono ?_
  rintro e w1 ⟨I, b, rfl, h1, h2, h3, h4, h5⟩
  have H1 := Lib.hid h1
  have H2 := Lib.hid h2
  have H3 := Lib.hid h3
  have H4 := Lib.hid h4
  clear h1 h2 h3 h4 HC
  go_wp2
  go_ret2
  exact ⟨I, b, rfl, H1.out, H2.out, H3.out, H4.out, h5⟩
set_option maxRecDepth 100000 in
set_option maxHeartbeats 2000000 in
theorem covering37_any (H : Hds) (us : List (Int × Int)) (t : Int) (w : World) (h : Recs enc2 2 w H.k.A H.k.n us) (hn : H.k.n ≤ 1000000) (ha : uAsc us) :
    Calls Tryz.prog 84 #[.agg #[.slice H.s.A H.s.n H.s.c, .slice H.q.A H.q.n H.q.c, .slice H.g.A H.g.n H.g.c, .slice H.k.A H.k.n H.k.c, .slice H.m.A H.m.n H.m.c], .int .i64 t] w (BsU w us t) := by
  obtain ⟨Hs, Hq, Hg, ⟨kA, kn, kc⟩, Hm⟩ := H
  have hx := Bl.new w 37 #[.slice Hs.A Hs.n Hs.c, .slice Hq.A Hq.n Hq.c, .slice Hg.A Hg.n Hg.c, .slice kA kn kc, .slice Hm.A Hm.n Hm.c]
  have hb0 : RowKit.Below w.heap.size w (w.alloc (.cells #[.slice Hs.A Hs.n Hs.c, .slice Hq.A Hq.n Hq.c, .slice Hg.A Hg.n Hg.c, .slice kA kn kc, .slice Hm.A Hm.n Hm.c] 37)) := (Below.refl _ _).alloc (Nat.le_refl _) _
  have HC := Lib.hid (bsearchV_any kA kn kc us t _ (h.below hb0) hn ha)
  clear h ha
  go_enter Tryz.func84, Tryz.ntmps84
  go_upto_region 1 with (fail)
  generalize w.alloc (.cells #[.slice Hs.A Hs.n Hs.c, .slice Hq.A Hq.n Hq.c, .slice Hg.A Hg.n Hg.c, .slice kA kn kc, .slice Hm.A Hm.n Hm.c] 37) = W0 at *
  have x3 : W0.cell? ⟨w.heap.size, 3, none⟩ = some (.slice kA kn kc) := hx.cell 3
  have HB0 := Lib.hid hb0
  clear hx hb0
  go_wp2_with fail
  refine HC.out.mono ?_
  rintro e w1 ⟨I, b, rfl, h1, h2, h3, h4, h5⟩
  have H1 := Lib.hid h1
  have H2 := Lib.hid h2
  have H3 := Lib.hid h3
  have H4 := Lib.hid h4
  have H5 := Lib.hid (HB0.out.trans (h5.mono HB0.out.size))
  clear h1 h2 h3 h4 h5 HC x3
  go_wp2
  go_ret2
  exact ⟨I, b, rfl, H1.out, H2.out, H3.out, H4.out, H5.out⟩

theorem divOut_req (a l : Int) (h0 : 0 ≤ a) (h1 : a ≤ 1000000000000) (h2 : 0 ≤ l) (h3 : l ≤ 1000000) : ∃ r, divOut (a * l) 1000000 1 = (r, 0) ∧ 0 ≤ r ∧ r ≤ 1000000000000 := by
  have p0 : 0 ≤ a * l := Int.mul_nonneg h0 h2
  have p1 : a * l ≤ 1000000000000 * 1000000 := Int.mul_le_mul h1 h3 h2 (by omega)
  generalize a * l = x at *
  have q1 : x / 18446744073709551616 = 0 := by omega
  unfold divOut
  rw [if_neg (by omega), q1, if_neg (by omega)]
  split
  · rename_i hr
    have : 0 < x % 1000000 := by simpa [raisedB] using hr
    rw [if_neg (by omega)]
    exact ⟨_, rfl, by omega, by omega⟩
  · exact ⟨_, rfl, by omega, by omega⟩
set_option maxRecDepth 100000 in
set_option maxHeartbeats 2000000 in
theorem required37_any (g : Gh) (A : Option Addr) (n c : Nat) (amt : Int) (w : World) (hg : ghOk g = true) (h0 : 0 ≤ amt) (h1 : amt ≤ 1000000000000) :
    Calls Tryz.prog 117 #[.agg #[.int .i64 g.id, .int .i64 g.ref, .int .i64 g.lev, .slice A n c], .int .i64 amt] w fun e w' => ∃ r : Int, e = .returned (.tuple #[.int .i64 r, .int .i64 0]) ∧ Hid (0 ≤ r ∧ r ≤ 1000000000000) ∧ RowKit.Below w.heap.size w w' := by
  obtain ⟨_, _, _, _, hl0, hl1⟩ := ghOk_yes hg
  obtain ⟨r, hr, hr0, hr1⟩ := divOut_req amt g.lev h0 h1 hl0 hl1
  have HMD : Hid (∀ w, Calls Tryz.prog 158 #[.int .u64 amt, .int .u64 g.lev, .int .u64 1000000, .int .i64 1] w fun e w' => e = .returned (.tuple #[.int .u64 r, .int .i64 0]) ∧ RowKit.Below w.heap.size w w') := fun w => (mulDiv_any amt g.lev 1000000 1 w h0 (by omega) hl0 (by omega) (by omega) (by omega)).mono fun e w' ⟨h1, h2⟩ => ⟨by rw [h1, hr], h2⟩
  have HR : Hid (0 ≤ r ∧ r ≤ 1000000000000) := ⟨hr0, hr1⟩
  have hx := Bl.new w 30 #[.int .i64 g.id, .int .i64 g.ref, .int .i64 g.lev, .slice A n c]
  have hb0 : RowKit.Below w.heap.size w (w.alloc (.cells #[.int .i64 g.id, .int .i64 g.ref, .int .i64 g.lev, .slice A n c] 30)) := (Below.refl _ _).alloc (Nat.le_refl _) _
  have d1 : decide (g.lev < 0) = false := by simp; omega
  have d2 : decide (1000000 < g.lev) = false := by simp; omega
  have d3 : decide (amt < 0) = false := by simp; omega
  have d4 : decide (1000000000000 < amt) = false := by simp; omega
  have v1 : IntKind.u64.wrap amt = amt := by rw [IntKind.wrap_u64]; omega
  have v2 : IntKind.u64.wrap g.lev = g.lev := by rw [IntKind.wrap_u64]; omega
  have v3 : IntKind.i64.wrap r = r := IntWalk.i64_in _ (by omega)
  clear hr hg
  go_enter Tryz.func117, Tryz.ntmps117
  go_upto_region 1 with (fail)
  generalize w.alloc (.cells #[.int .i64 g.id, .int .i64 g.ref, .int .i64 g.lev, .slice A n c] 30) = W0 at *
  have x2 : W0.cell? ⟨w.heap.size, 2, none⟩ = some (.int .i64 g.lev) := hx.cell 2
  have HB0 := Lib.hid hb0
  clear hx hb0
  go_wp2_with fail
  refine (HMD.out _).mono ?_
  rintro e w1 ⟨rfl, hb1⟩
  have HB1 := Lib.hid (HB0.out.trans (hb1.mono HB0.out.size))
  clear hb1 x2
  go_wp2
  go_ret2
  exact ⟨r, rfl, HR, HB1.out⟩

def SpRes (w : World) (us : List (Int × Int)) (e : Ending) (w' : World) : Prop := ∃ (B : Option Addr) (d : Nat), e = .returned (.slice B us.length d) ∧ w'.ownsRow w.heap.size 32 2 (.slice B us.length d) us.length (flat enc2 us) ∧ RowKit.Below w.heap.size w w'
theorem flat2_take (us : List (Int × Int)) (I : Nat) : (flat enc2 us).take (I * 2) = flat enc2 (us.take I) := by
  by_cases h : I ≤ us.length
  · conv => lhs; rw [← List.take_append_drop I us, flat_append]
    rw [List.take_left' (by rw [flat_length enc2_len, List.length_take]; omega)]
  · rw [List.take_of_length_le (by rw [flat_length enc2_len]; omega), List.take_of_length_le (by omega)]
theorem flat2_drop (us : List (Int × Int)) (I : Nat) : (flat enc2 us).drop (I * 2) = flat enc2 (us.drop I) := by
  by_cases h : I ≤ us.length
  · conv => lhs; rw [← List.take_append_drop I us, flat_append]
    rw [List.drop_left' (by rw [flat_length enc2_len, List.length_take]; omega)]
  · rw [List.drop_eq_nil_of_le (by rw [flat_length enc2_len]; omega), List.drop_eq_nil_of_le (by omega)]; rfl
theorem flat2_one (us : List (Int × Int)) : ∀ v ∈ flat enc2 us, v.oneCell' = true := fun u hu => by
  obtain ⟨x, _, hx⟩ := List.mem_flatMap.1 hu
  exact enc2_one x u hx
set_option maxRecDepth 100000 in
set_option maxHeartbeats 4000000 in
theorem splice37_any (A : Option Addr) (n c I J : Nat) (us : List (Int × Int)) (X : Option Addr) (m d : Nat) (xs : List (Int × Int)) (w : World) (h : Rd w 2 A n (flat enc2 us)) (hl : us.length = n) (hx : Rd w 2 X m (flat enc2 xs)) (hxl : xs.length = m) (hn : n ≤ 1000) (hm : m ≤ 10) (hc : n ≤ c) (hI : I ≤ J) (hJ : J ≤ n) :
    Calls Tryz.prog 118 #[.slice A n c, .int .i64 I, .int .i64 J, .slice X m d] w (SpRes w (us.take I ++ xs ++ us.drop J)) := by
  have hhi := fun w => run_hi (P := Tryz.prog) Tryz.underlying28 (by kernel_rfl : (Tryz.prog.info? 32).map (·.size) = some 2) A n c I (by omega) w
  have hlo := fun w => run_lo (P := Tryz.prog) Tryz.underlying28 (by kernel_rfl : (Tryz.prog.info? 32).map (·.size) = some 2) A n c J (by omega) w
  have HR1 : Hid (Rd w 2 A I (flat enc2 (us.take I))) := by have := h.take (k := I) (by omega); rw [flat2_take] at this; exact this
  have HR3 : Hid (Rd w 2 (if c = J then A else A.map (·.add (J * 2))) (n - J) (flat enc2 (us.drop J))) := by have := h.drop (k := J) (c := c) (by omega) hc; rw [flat2_drop] at this; exact this
  generalize (if c = J then A else A.map (·.add (J * 2))) = A3 at *
  have HR2 := Lib.hid hx
  have HL := Lib.hid hl
  have HXL := Lib.hid hxl
  obtain ⟨i0, hi, hz0, hz1, hz2⟩ := info_parts info37U
  have HI0 := Lib.hid (And.intro hi (And.intro hz0 (And.intro hz1 hz2)))
  have u1 : IntKind.i64.wrap ((n : Int) + (m : Int)) = ((n + m : Nat) : Int) := (IntWalk.i64_in _ (by omega)).trans (by omega)
  have HO1 := Lib.hid (flat2_one (us.take I))
  have HO2 := Lib.hid (flat2_one xs)
  have HO3 := Lib.hid (flat2_one (us.drop J))
  clear h hx hl hxl hi hz0 hz1 hz2
  go_enter Tryz.func118, Tryz.ntmps118
  go_upto_region 2 with (at_make; refine wpList_make_own _ rfl _ _ 28 rfl w.heap.size 32 i0 _ 2 Tryz.underlying28 HI0.out.1 HI0.out.2.1 HI0.out.2.2.1 .i64 .i64 _ (n + m) rfl rfl (by first | rfl | omega) (by rw [HI0.out.2.2.2]; omega) (by unfold maxLen; omega) (Nat.le_refl _) ?_; intro w0 hown0 hgrow0)
  have HOW1 := Lib.hid hown0
  have HB1 : Hid (RowKit.Below w.heap.size w w0) := (Below.refl _ _).grown hgrow0 (Nat.le_refl _) (fun j hj => by cases hj)
  clear hown0 hgrow0
  have HM2 : Hid (0 + I ≤ maxLen ∧ (0 + I) * 16 ≤ 140737488355328) := ⟨by unfold maxLen; omega, by omega⟩
  go_upto_region 3 with (first | (at_builtin; refine wpList_append_rd _ rfl (.tmp 16) (.tmp 19) 28 rfl w.heap.size 32 _ 2 16 Tryz.underlying28 info37U rfl (by decide) _ 0 [] rfl HOW1.out A I c (flat enc2 (us.take I)) rfl (HR1.out.keep HB1.out) HO1.out HM2.out.1 HM2.out.2 HB1.out.size ?_; intro v2 w2 ho2 hg2 _; rw [Nat.zero_add, List.nil_append] at ho2; obtain ⟨B2, d2, rfl⟩ := own_slice ho2; have HOW2 := Lib.hid ho2; have HB2 : Hid (RowKit.Below w.heap.size w w2) := HB1.out.grown hg2 HB1.out.size (fun j hj => own_base HOW1.out j hj); clear ho2 hg2))
  have HM3 : Hid (I + m ≤ maxLen ∧ (I + m) * 16 ≤ 140737488355328) := ⟨by unfold maxLen; omega, by omega⟩
  go_upto_region 4 with (first | (at_builtin; refine wpList_append_rd _ rfl (.tmp 21) (.tmp 22) 28 rfl w.heap.size 32 _ 2 16 Tryz.underlying28 info37U rfl (by decide) (.slice B2 I d2) I (flat enc2 (us.take I)) rfl HOW2.out X m d (flat enc2 xs) rfl (HR2.out.keep HB2.out) HO2.out HM3.out.1 HM3.out.2 HB2.out.size ?_; intro v3 w3 ho3 hg3 _; obtain ⟨B3, d3, rfl⟩ := own_slice ho3; have HOW3 := Lib.hid ho3; have HB3 : Hid (RowKit.Below w.heap.size w w3) := HB2.out.grown hg3 HB2.out.size (fun j hj => own_base HOW2.out j hj); clear ho3 hg3))
  have HM4 : Hid ((I + m) + (n - J) ≤ maxLen ∧ ((I + m) + (n - J)) * 16 ≤ 140737488355328) := ⟨by unfold maxLen; omega, by omega⟩
  go_wp2_with (first | simp only [hlo] | (at_builtin; refine wpList_append_rd _ rfl (.tmp 24) (.tmp 27) 28 rfl w.heap.size 32 _ 2 16 Tryz.underlying28 info37U rfl (by decide) (.slice B3 (I + m) d3) (I + m) (flat enc2 (us.take I) ++ flat enc2 xs) rfl HOW3.out A3 (n - J) (c - J) (flat enc2 (us.drop J)) rfl (HR3.out.keep HB3.out) HO3.out HM4.out.1 HM4.out.2 HB3.out.size ?_; intro v4 w4 ho4 hg4 _; obtain ⟨B4, d4, rfl⟩ := own_slice ho4; have HOW4 := Lib.hid ho4; have HB4 : Hid (RowKit.Below w.heap.size w w4) := HB3.out.grown hg4 HB3.out.size (fun j hj => own_base HOW3.out j hj); clear ho4 hg4))
  have e1 : (us.take I ++ xs ++ us.drop J).length = I + m + (n - J) := by simp [HXL.out, HL.out]; omega
  have e2 : flat enc2 (us.take I) ++ flat enc2 xs ++ flat enc2 (us.drop J) = flat enc2 (us.take I ++ xs ++ us.drop J) := by rw [flat_append, flat_append]
  have h4 := HOW4.out
  rw [e2] at h4
  go_ret
  refine ⟨B4, d4, by rw [e1]; rfl, ?_, HB4.out⟩
  rw [e1]
  exact h4
end Go.Proofs.YtdbcbbiplkikcaaGreat

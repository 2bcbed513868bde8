/-
  A part of the proof of TopQuotaDayCardSaid: lemmas and contracts of functions that the law calls. No statement of the seat is proved here. Conditions: as each says.
-/
import Derived.OrdersHeld
import Derived.Below
import Derived.Test.YtbokkeooahodaaaGreatDoorQAB
import Derived.Test.YtbokkeooahodaaaGreatDoorQAC
import Derived.Deep.QuietTactic
import Derived.BigQuiet
import Derived.Deep.DeepMust
import Derived.Deep.RegionHeld3
namespace Go.Proofs.YtbokkeooahodaaaGreatDoor
open Go.RowKit
set_option linter.unusedVariables false
section
variable {P:Program} {ops:Array Oper} {Q:Exit→Act→World→Prop} {md:Region.Mode}
theorem count_set {l:List Bool} {i:Nat} (h:l[i]? = some false):(l.set i true).count false+1=l.count false:=by
 induction l generalizing i with
 | nil=>simp at h
 | cons x xs ih =>
  cases i with
  | zero=>simp at h;subst h;simp
  | succ i=>simp at h;have:=ih h;simp [List.count_cons];omega
theorem wpAny_of_inv (I:Array Bool→Act→World→Prop)
  (hs:∀ listed a w,I listed a w→listed.size=ops.size)
  (hdone:∀ listed a w,I listed a w→Region.ready md ops listed = []→Q .normal a w)
  (hstep:∀ listed a w i,I listed a w→i∈Region.ready md ops listed→wpOp P ops Q i (I (listed.setIfInBounds i true)) a w) :
  ∀ (fuel:Nat) (listed:Array Bool) (a:Act) (w:World),I listed a w→listed.toList.count false≤fuel→wpAny P md ops Q fuel listed a w:=by
 have hun:∀ (listed:Array Bool) (i:Nat),i∈Region.ready md ops listed→listed.toList[i]? = some false:=fun listed i hi=>by
  have:=(mem_ready.1 hi).1
  rcases Nat.lt_or_ge i listed.size with h | h
  ·simp [h] at this ⊢;exact this
  ·simp [Array.getD,Nat.not_lt.2 h] at this
 intro fuel
 induction fuel with
 | zero =>
  intro listed a w hI hc
  have hr:Region.ready md ops listed = []:=by
   cases hr:Region.ready md ops listed with
   | nil=>rfl
   | cons i is =>
    have:=count_set (hun listed i (by rw [hr];simp))
    omega
  exact⟨hr,hdone _ _ _ hI hr⟩
 | succ fuel ih =>
  intro listed a w hI hc
  refine⟨fun hr=>hdone _ _ _ hI hr,fun i hi=>?_⟩
  refine wpOp_mono (fun a' w' h=>ih _ _ _ h ?_) (hstep _ _ _ i hI hi)
  have:=count_set (hun listed i hi)
  simp
  omega
end
structure Job where
 dst:Option Tmp
 deps:List Nat
 eats:List Nat
def putJ:List (Nat × Job)→(Nat→Bool)→(Nat→Value)→Act→Act
 | [],_,_,a=>a
 | (i,j) :: r,L,vs,a=>putJ r L vs (if L i then a.put j.dst (vs i) else a)
def number (js:List Job):Nat→List (Nat × Job)
 | k=>match js with
  | []=>[]
  | j :: r=>(k,j) :: number r (k+1)
theorem mem_number {js:List Job} {k i:Nat} {j:Job} (h:(i,j)∈number js k):k≤i∧js[i - k]? = some j:=by
 induction js generalizing k with
 | nil=>simp [number] at h
 | cons x xs ih =>
  simp [number] at h
  rcases h with ⟨rfl,rfl⟩ | h
  ·simp
  ·have:=ih h
   refine⟨by omega,?_⟩
   rw [show i - k=(i - (k+1))+1 by omega]
   simpa using this.2
theorem number_mem {js:List Job} {k i:Nat} {j:Job} (h:js[i]? = some j):(k+i,j)∈number js k:=by
 induction js generalizing k i with
 | nil=>simp at h
 | cons x xs ih =>
  cases i with
  | zero=>simp at h;subst h;simp [number]
  | succ i=>simp at h;have:=ih (k:=k+1) h;simp [number];rw [show k+(i+1)=k+1+i by omega];exact this
def dstsOk:List (Nat × Job)→Bool
 | []=>true
 | (i,j) :: r=>(r.all fun p=>p.1 != i && (match j.dst with | some d=>p.2.dst != some d | none=>true)) && dstsOk r
theorem dstsOk_cons {i:Nat} {j:Job} {r:List (Nat × Job)} (h:dstsOk ((i,j) :: r)=true):(∀ p∈r,p.1≠i∧∀ d,j.dst=some d→p.2.dst≠some d)∧dstsOk r=true:=by
 simp only [dstsOk,Bool.and_eq_true,List.all_eq_true] at h
 refine⟨fun p hp=>?_,h.2⟩
 have:=h.1 p hp
 simp only [bne_iff_ne,ne_eq] at this
 refine⟨this.1,fun d hd=>?_⟩
 have h2:=this.2
 rw [hd] at h2
 simpa using h2
theorem putJ_put {l:List (Nat × Job)} (hl:dstsOk l=true) (L:Nat→Bool) (vs:Nat→Value) (d:Option Tmp) (v:Value) (a:Act) (hd:∀ p∈l,∀ e,d=some e→p.2.dst≠some e) :
  putJ l L vs (a.put d v)=(putJ l L vs a).put d v:=by
 induction l generalizing a with
 | nil=>rfl
 | cons p r ih =>
  obtain⟨i,j⟩:=p
  have h1:=dstsOk_cons hl
  simp only [putJ]
  rw [← ih h1.2 _ (fun p hp=>hd p (List.mem_cons_of_mem _ hp))]
  congr 1
  split
  ·exact Act.put_comm a (x:=d) (y:=j.dst) v (vs i) (fun e he=>hd (i,j) (List.mem_cons_self ..) e he)
  ·rfl
theorem putJ_congr {l:List (Nat × Job)} {L L':Nat→Bool} {vs vs':Nat→Value} {a:Act} (h:∀ p∈l,L p.1=L' p.1∧(L p.1=true→vs p.1=vs' p.1)):putJ l L vs a=putJ l L' vs' a:=by
 induction l generalizing a with
 | nil=>rfl
 | cons p r ih =>
  obtain⟨i,j⟩:=p
  have h1:=h (i,j) (List.mem_cons_self ..)
  simp only [putJ]
  rw [← h1.1]
  cases hL:L i with
  | false=>simp only [Bool.false_eq_true,if_false];exact ih fun p hp=>h p (List.mem_cons_of_mem _ hp)
  | true=>simp only [if_true];rw [h1.2 hL];exact ih fun p hp=>h p (List.mem_cons_of_mem _ hp)
theorem putJ_step {l:List (Nat × Job)} (hl:dstsOk l=true) {L:Nat→Bool} {vs:Nat→Value} {a:Act} {i:Nat} {j:Job} (hi:(i,j)∈l) (hL:L i=false) (v:Value) :
  putJ l (fun k=>if k=i then true else L k) (fun k=>if k=i then v else vs k) a=(putJ l L vs a).put j.dst v:=by
 induction l generalizing a with
 | nil=>cases hi
 | cons p r ih =>
  obtain⟨k,q⟩:=p
  have h1:=dstsOk_cons hl
  rcases List.mem_cons.1 hi with e | hr
  ·injection e with e1 e2
   subst e1 e2
   simp only [putJ,hL,if_true,Bool.false_eq_true,if_false]
   rw [← putJ_put h1.2 L vs j.dst v a (fun p hp=>(h1.1 p hp).2)]
   exact putJ_congr fun p hp=>by simp [(h1.1 p hp).1]
  ·have hne:k≠i:=fun e=>(h1.1 _ hr).1 e.symm
   simp only [putJ,hne,if_false]
   exact ih h1.2 hr
theorem putJ_free' {l:List (Nat × Job)} {L:Nat→Bool} {vs:Nat→Value} {a:Act} {t:Tmp} (h:∀ p∈l,p.2.dst=some t→L p.1=false):(putJ l L vs a).eval (.tmp t)=a.eval (.tmp t):=by
 induction l generalizing a with
 | nil=>rfl
 | cons p r ih =>
  obtain⟨k,q⟩:=p
  simp only [putJ]
  rw [ih fun p hp=>h p (List.mem_cons_of_mem _ hp)]
  cases hL:L k with
  | false=>rfl
  | true =>
   simp only [if_true]
   refine Act.eval_put fun d hd e=>?_
   injection e with e
   have:=h (k,q) (List.mem_cons_self ..) (by rw [hd,e])
   simp only at this
   rw [hL] at this;cases this
theorem putJ_free {l:List (Nat × Job)} {L:Nat→Bool} {vs:Nat→Value} {a:Act} {x:Operand} (h:∀ p∈l,∀ d,p.2.dst=some d→x ≠ .tmp d):(putJ l L vs a).eval x=a.eval x:=by
 induction l generalizing a with
 | nil=>rfl
 | cons p r ih =>
  obtain⟨k,q⟩:=p
  simp only [putJ]
  rw [ih fun p hp=>h p (List.mem_cons_of_mem _ hp)]
  split
  ·exact Act.eval_put fun d hd=>h (k,q) (List.mem_cons_self ..) d hd
  ·rfl
theorem eval_put_self {a:Act} {d:Tmp} {v:Value} (hd:d<a.tmps.size):(a.put (some d) v).eval (.tmp d)=v:=by
 simp [Act.put,Act.eval,hd]
theorem put_size (a:Act) (d:Option Tmp) (v:Value):(a.put d v).tmps.size=a.tmps.size:=by
 cases d <;> simp [Act.put]
theorem putJ_at {l:List (Nat × Job)} (hl:dstsOk l=true) {L:Nat→Bool} {vs:Nat→Value} {a:Act} {i:Nat} {j:Job} (hi:(i,j)∈l) (hL:L i=true) {d:Tmp} (hd:j.dst=some d) (hsz:d<a.tmps.size) :
  (putJ l L vs a).eval (.tmp d)=vs i:=by
 induction l generalizing a with
 | nil=>cases hi
 | cons p r ih =>
  obtain⟨k,q⟩:=p
  have h1:=dstsOk_cons hl
  simp only [putJ]
  rcases List.mem_cons.1 hi with e | hr
  ·injection e with e1 e2
   subst e1 e2
   rw [putJ_free fun p hp e he h=>?_]
   ·rw [hL,if_pos rfl,hd];exact eval_put_self hsz
   ·injection h with h
    exact (h1.1 p hp).2 d hd (by rw [he,h])
  ·refine ih h1.2 hr ?_
   split
   ·rw [put_size];exact hsz
   ·exact hsz
def fitsJ (ops:Array Oper) (js:List Job):Bool :=
 ops.size == js.length && dstsOk (number js 0) &&
 (number js 0).all fun p =>
  (match ops[p.1]? with
   | some o=>(match p.2.dst,o.dst with | some d,some e=>d == e | none,none=>true | _,_=>false) && o.guard.isNone &&
     (o.after.toList.all fun e=>!Region.binds .any e || decide (e.on<p.1)) &&
     p.2.deps.all (fun d=>o.after.toList.any fun e=>Region.binds .any e && e.on == d)
   | none=>false) &&
  p.2.eats.all (fun d=>p.2.deps.contains d) &&
  (number js 0).all (fun q=>q.1 == p.1 || p.2.eats.all fun d=>!q.2.eats.contains d)
theorem fitsJ_spec {ops:Array Oper} {js:List Job} (h:fitsJ ops js=true) :
  ops.size=js.length∧dstsOk (number js 0)=true∧∀ i j,js[i]? = some j→∃ o,ops[i]? = some o∧o.dst=j.dst∧o.guard=none ∧
   (∀ e∈o.after,Region.binds .any e=true→e.on<i)∧(∀ d∈j.deps,∃ e∈o.after,Region.binds .any e=true∧e.on=d) ∧
   (∀ d∈j.eats,d∈j.deps)∧∀ k q,js[k]? = some q→k≠i→∀ d∈j.eats,d ∉ q.eats:=by
 unfold fitsJ at h
 simp only [Bool.and_eq_true,List.all_eq_true,beq_iff_eq] at h
 obtain⟨⟨h1,h2⟩,h3⟩:=h
 refine⟨h1,h2,fun i j hj=>?_⟩
 have hm:(i,j)∈number js 0:=by have:=number_mem (k:=0) hj;rwa [Nat.zero_add] at this
 obtain⟨⟨h4,h5⟩,h6⟩:=h3 _ hm
 cases ho:ops[i]? with
 | none=>simp only [ho] at h4;cases h4
 | some o =>
  simp only [ho,Bool.and_eq_true] at h4
  obtain⟨⟨⟨h7,h8⟩,h9⟩,h10⟩:=h4
  refine⟨o,rfl,?_,?_,fun e he hb=>?_,fun d hd=>?_,fun d hd=>?_,fun k q hk hne d hd=>?_⟩
  ·cases ha:o.dst <;> cases hb:j.dst <;> simp [ha,hb] at h7 ⊢
   exact h7.symm
  ·simpa using h8
  ·simp only [List.all_eq_true] at h9
   have:=h9 e (by simpa using he)
   simpa [hb] using this
  ·simp only [List.all_eq_true] at h10
   have:=h10 d hd
   simp only [List.any_eq_true] at this
   obtain⟨e,he,h11⟩:=this
   simp only [Bool.and_eq_true,beq_iff_eq] at h11
   exact⟨e,by simpa using he,h11.1,h11.2⟩
  ·have:=h5 d hd
   simpa using this
  ·have:=h6 (k,q) (by have:=number_mem (k:=0) hk;rwa [Nat.zero_add] at this)
   simp only [Bool.or_eq_true,beq_iff_eq,hne,false_or,List.all_eq_true] at this
   simpa using this d hd
def dv (js:List Job) (i:Nat) (vs:Nat→Value):List Value:=match js[i]? with | some j=>j.deps.map vs | none=>[]
theorem dv_some {js:List Job} {i:Nat} {j:Job} (h:js[i]? = some j) (vs:Nat→Value):dv js i vs=j.deps.map vs:=by simp [dv,h]
theorem dv_congr {js:List Job} {i:Nat} {vs vs':Nat→Value} (h:∀ j,js[i]? = some j→∀ d∈j.deps,vs d=vs' d):dv js i vs=dv js i vs':=by
 unfold dv
 cases hj:js[i]? with
 | none=>rfl
 | some j=>exact List.map_congr_left fun d hd=>h j hj d hd
section
variable (P:Program) (ops:Array Oper) (Q:Exit→Act→World→Prop) (js:List Job) (a0:Act) (w0:World)
variable (fact:Nat→List Value→Value→Prop) (res:Nat→List Value→Value→List Nat→World→Prop)
def waits (js:List Job):Nat→Nat→Nat→Bool
 | 0,_,_=>false
 | f+1,k,i=>match js[k]? with | some j=>j.deps.any fun d=>d == i || waits js f d i | none=>false
theorem waits_listed {js:List Job} {L:Nat→Bool} (h:∀ k j,js[k]? = some j→L k=true→∀ d∈j.deps,L d=true):∀ (f k i:Nat),waits js f k i=true→L k=true→L i=true:=by
 intro f
 induction f with
 | zero=>intro k i h1;cases h1
 | succ f ih =>
  intro k i h1 hL
  unfold waits at h1
  cases hj:js[k]? with
  | none=>rw [hj] at h1;cases h1
  | some j =>
   rw [hj] at h1
   simp only [List.any_eq_true,Bool.or_eq_true,beq_iff_eq] at h1
   obtain⟨d,hd,h2⟩:=h1
   have h3:=h k j hj hL d hd
   rcases h2 with rfl | h2
   ·exact h3
   ·exact ih d i h2 h3
structure Finds (i0:Nat) (j:Job) (a:Act) (w:World) (vs:Nat→Value) (fp:Nat→List Nat):Prop where
 below:RowKit.Below w0.heap.size w0 w
 old:∀ t:Tmp,(∀ k q,js[k]? = some q→q.dst=some t→waits js js.length k i0=true)→a.eval (.tmp t)=a0.eval (.tmp t)
 dep:∀ i∈j.deps,∀ q,js[i]? = some q→(∀ d,q.dst=some d→a.eval (.tmp d)=vs i)
 val:∀ i∈j.deps,fact i (dv js i vs) (vs i)
 mem:∀ i∈j.eats,res i (dv js i vs) (vs i) (fp i) w
 own:∀ i∈j.eats,∀ g∈fp i,w0.heap.size≤g∧g<w.heap.size
 apart:∀ i∈j.eats,∀ k∈j.eats,i≠k→∀ g∈fp i,g ∉ fp k
structure Leaves (i:Nat) (j:Job) (w:World) (vs:Nat→Value) (fp:Nat→List Nat) (v:Value) (f:List Nat) (w':World):Prop where
 below:RowKit.Below w0.heap.size w0 w'
 size:w.heap.size≤w'.heap.size
 block:∀ g,g<w.heap.size→(∀ k∈j.eats,g ∉ fp k)→w'.heap[g]? = w.heap[g]?
 val:fact i (j.deps.map vs) v
 mem:res i (j.deps.map vs) v f w'
 own:∀ g∈f,g<w'.heap.size∧((∃ k∈j.eats,g∈fp k)∨w.heap.size≤g)
def StepJ (i:Nat):Prop :=
 ∀ j o,js[i]? = some j→ops[i]? = some o→∀ (a:Act) (w:World) (vs:Nat→Value) (fp:Nat→List Nat) (K:Act→World→Prop),
  Finds js a0 w0 fact res i j a w vs fp →
  (∀ v w' f,Leaves w0 fact res i j w vs fp v f w'→K (a.put o.dst v) w')→Oper.wp P o a w K Q
structure InvJ (listed:Array Bool) (a:Act) (w:World) (vs:Nat→Value) (fp:Nat→List Nat):Prop where
 size:listed.size=ops.size
 frame:a=putJ (number js 0) (fun i=>listed.getD i false) vs a0
 below:RowKit.Below w0.heap.size w0 w
 deps:∀ i j,js[i]? = some j→listed.getD i false=true→∀ d∈j.deps,listed.getD d false=true
 val:∀ i,listed.getD i false=true→fact i (dv js i vs) (vs i)
 mem:∀ i,listed.getD i false=true→(∀ k q,js[k]? = some q→listed.getD k false=true→i ∉ q.eats)→res i (dv js i vs) (vs i) (fp i) w∧∀ g∈fp i,w0.heap.size≤g∧g<w.heap.size
 apart:∀ i k,listed.getD i false=true→listed.getD k false=true→(∀ l q,js[l]? = some q→listed.getD l false=true→i ∉ q.eats)→(∀ l q,js[l]? = some q→listed.getD l false=true→k ∉ q.eats)→i≠k→∀ g∈fp i,g ∉ fp k
end
theorem getD_set_eq (l:Array Bool) {i:Nat} (h:i<l.size) (k:Nat):(l.setIfInBounds i true).getD k false=if k=i then true else l.getD k false:=by
 by_cases e:k=i
 ·subst e;simp [h]
 ·rw [if_neg e]
  simp [Ne.symm e,Array.getD_eq_getD_getElem?]
theorem wp_region_sep {P:Program} {ops:Array Oper} {Q:Exit→Act→World→Prop} {a0:Act} {w0:World} {id:Nat} (js:List Job) (fact:Nat→List Value→Value→Prop) (res:Nat→List Value→Value→List Nat→World→Prop)
  (hm:P.follows .mixedOrders=true) (hfit:fitsJ ops js=true) (hsz:∀ q∈js,∀ d,q.dst=some d→d<a0.tmps.size)
  (hloc:∀ i l v f w w',RowKit.Below w0.heap.size w0 w→RowKit.Below w0.heap.size w0 w'→w.heap.size≤w'.heap.size→(∀ g∈f,w0.heap.size≤g∧g<w.heap.size∧w'.heap[g]? = w.heap[g]?)→res i l v f w→res i l v f w')
  (hstep:∀ i,i<js.length→StepJ P ops Q js a0 w0 fact res i)
  (hfin:∀ w vs fp,InvJ ops js a0 w0 fact res (Array.replicate ops.size true) (putJ (number js 0) (fun _=>true) vs a0) w vs fp→Q .normal (putJ (number js 0) (fun _=>true) vs a0) w) :
  (Code.region id ops true).wp P Q a0 w0:=by
 obtain⟨hlen,hdst,hjob⟩:=fitsJ_spec hfit
 refine wp_region_any hm ?_
 refine wpAny_of_inv (fun listed a w=>∃ vs fp,InvJ ops js a0 w0 fact res listed a w vs fp) (fun _ _ _ ⟨_,_,h⟩=>h.size) ?_ ?_ _ _ _ _ ⟨fun _=>undef,fun _=>[],?_⟩ (by simp)
 ·rintro listed a w ⟨vs,fp,h⟩ hr
  have hall:∀ i,i<ops.size→listed.getD i false=true:=by
   intro i
   induction i using Nat.strongRecOn with
   | ind i ih =>
    intro hi
    cases hL:listed.getD i false with
    | true=>rfl
    | false =>
     exfalso
     obtain⟨o,ho,_,_,h4,_⟩:=hjob i (js[i]'(by omega)) (List.getElem?_eq_getElem _)
     have:i∈Region.ready .any ops listed:=by
      rw [mem_ready]
      refine⟨?_,o,ho,fun e he hb=>ih e.on (h4 e he hb) (by have:=h4 e he hb;omega)⟩
      have hs:=h.size
      simp [Array.getD,hs,hi] at hL ⊢
      exact hL
     rw [hr] at this
     cases this
  have hlst:listed=Array.replicate ops.size true:=by
   apply Array.ext
   ·simp [h.size]
   ·intro i h1 h2
    have:=hall i (by rw [← h.size];exact h1)
    simp [h1] at this ⊢
    exact this
  subst hlst
  have hfr:a=putJ (number js 0) (fun _=>true) vs a0:=by
   rw [h.frame]
   refine putJ_congr fun p hp=>⟨?_,fun _=>rfl⟩
   have:=mem_number hp
   rw [Nat.sub_zero] at this
   have hlt:p.1<js.length:=(List.getElem?_eq_some_iff.1 this.2).1
   simp [hlen,hlt]
  subst hfr
  exact hfin _ _ _ h
 ·rintro listed a w i ⟨vs,fp,h⟩ hi
  obtain⟨hun,o,ho,haft⟩:=mem_ready.1 hi
  have hil:i<ops.size:=(Array.getElem?_eq_some_iff.1 ho).1
  have hL:listed.getD i false=false:=by
   have hs:=h.size
   simp [Array.getD,hs,hil] at hun ⊢
   exact hun
  obtain⟨j,hj⟩:∃ j,js[i]? = some j:=⟨_,List.getElem?_eq_getElem (by omega)⟩
  obtain⟨o',ho',hd,hg,_,hdep,heat,honly⟩:=hjob i j hj
  rw [ho] at ho'
  injection ho' with ho'
  subst ho'
  have hjm:(i,j)∈number js 0:=by have:=number_mem (k:=0) hj;rwa [Nat.zero_add] at this
  have hdl:∀ d∈j.deps,listed.getD d false=true:=fun d hd=>by
   obtain⟨e,he,hb,rfl⟩:=hdep d hd
   exact haft e he hb
  have heatl:∀ d∈j.eats,∀ k q,js[k]? = some q→listed.getD k false=true→d ∉ q.eats:=fun d hd k q hk hkl=>honly k q hk (fun e=>by rw [e,hL] at hkl;cases hkl) d hd
  unfold wpOp
  simp only [ho]
  rw [if_pos (by simp [Region.wanted,hg])]
  refine .inl (hstep i (by omega) j o hj ho a w vs fp _ ?_ ?_)
  ·refine⟨h.below,fun t ht=>?_,fun k hk q hq d hd=>?_,fun k hk=>h.val k (hdl k hk),fun k hk=>(h.mem k (hdl k (heat k hk)) (heatl k hk)).1,fun k hk=>(h.mem k (hdl k (heat k hk)) (heatl k hk)).2,fun k hk l hl hne=>h.apart k l (hdl k (heat k hk)) (hdl l (heat l hl)) (heatl k hk) (heatl l hl) hne⟩
   ·rw [h.frame]
    refine putJ_free' fun p hp hd=>?_
    have:=mem_number hp
    rw [Nat.sub_zero] at this
    have hw:=ht p.1 p.2 this.2 hd
    cases hp1:listed.getD p.1 false with
    | false=>rfl
    | true=>have:=waits_listed (L:=fun i=>listed.getD i false) (fun k j hj hk=>h.deps k j hj hk) _ _ _ hw hp1;rw [hL] at this;cases this
   ·rw [h.frame]
    have hm2:(k,q)∈number js 0:=by have:=number_mem (k:=0) hq;rwa [Nat.zero_add] at this
    exact putJ_at hdst hm2 (hdl k hk) hd (hsz q (List.mem_of_getElem? hq) d hd)
  ·intro v w' f hl
   refine⟨fun k=>if k=i then v else vs k,fun k=>if k=i then f else fp k,?_⟩
   have hset:=fun k=>getD_set_eq listed (by rw [h.size];exact hil:i<listed.size) k
   have halive:∀ k,k≠i→(listed.setIfInBounds i true).getD k false=true→(∀ l q,js[l]? = some q→(listed.setIfInBounds i true).getD l false=true→k ∉ q.eats)→listed.getD k false=true∧(∀ l q,js[l]? = some q→listed.getD l false=true→k ∉ q.eats)∧k ∉ j.eats:=fun k hk h1 h2=>by
    rw [hset,if_neg hk] at h1
    refine⟨h1,fun l q hq hql=>h2 l q hq (by rw [hset];split <;> simp [hql]),h2 i j hj (by rw [hset,if_pos rfl])⟩
   have hap:∀ k,listed.getD k false=true→(∀ l q,js[l]? = some q→listed.getD l false=true→k ∉ q.eats)→k ∉ j.eats→∀ g∈fp k,∀ l∈j.eats,g ∉ fp l:=fun k h1 h2 h3 g hg l hl =>
    h.apart k l h1 (hdl l (heat l hl)) h2 (heatl l hl) (fun e=>h3 (by rw [e];exact hl)) g hg
   have hdv:∀ k,k=i∨listed.getD k false=true→dv js k (fun k=>if k=i then v else vs k)=dv js k vs:=fun k hk=>dv_congr fun q hq d hd2=>by
    have h1:listed.getD d false=true:=by
     rcases hk with rfl | hk
     ·rw [hj] at hq;injection hq with hq;subst hq;exact hdl d hd2
     ·exact h.deps k q hq hk d hd2
    have h2:d≠i:=fun e=>by rw [e,hL] at h1;cases h1
    simp [h2]
   refine⟨by simp [h.size],?_,hl.below,fun k q hq hk d hd2=>?_,fun k hk=>?_,fun k hk hal=>?_,fun k l hk hl2 hak hal hne=>?_⟩
   ·rw [h.frame,hd,← putJ_step hdst hjm hL v]
    refine putJ_congr fun p hp=>⟨?_,fun _=>rfl⟩
    rw [hset]
   ·rw [hset]
    split
    ·rfl
    ·by_cases e:k=i
     ·subst e;rw [hj] at hq;injection hq with hq;subst hq;exact hdl d hd2
     ·rw [hset,if_neg e] at hk;exact h.deps k q hq hk d hd2
   ·by_cases e:k=i
    ·subst e
     rw [hdv k (.inl rfl),dv_some hj]
     simpa using hl.val
    ·rw [hset,if_neg e] at hk
     rw [hdv k (.inr hk)]
     simp only [e,if_false]
     exact h.val k hk
   ·by_cases e:k=i
    ·subst e
     rw [hdv k (.inl rfl),dv_some hj]
     simp only [if_true]
     refine⟨hl.mem,fun g hg=>⟨?_,(hl.own g hg).1⟩⟩
     rcases (hl.own g hg).2 with ⟨m,hm1,hm2⟩ | h3
     ·exact ((h.mem m (hdl m (heat m hm1)) (heatl m hm1)).2 g hm2).1
     ·exact Nat.le_trans h.below.size h3
    ·obtain⟨h1,h2,h3⟩:=halive k e hk hal
     rw [hdv k (.inr h1)]
     simp only [e,if_false]
     have h4:=h.mem k h1 h2
     refine⟨hloc k _ _ _ w w' h.below hl.below hl.size (fun g hg=>⟨(h4.2 g hg).1,(h4.2 g hg).2,hl.block g (h4.2 g hg).2 fun l hl2=>hap k h1 h2 h3 g hg l hl2⟩) h4.1,fun g hg=>⟨(h4.2 g hg).1,Nat.lt_of_lt_of_le (h4.2 g hg).2 hl.size⟩⟩
   ·
    have key:∀ k,k≠i→(listed.setIfInBounds i true).getD k false=true→(∀ l q,js[l]? = some q→(listed.setIfInBounds i true).getD l false=true→k ∉ q.eats)→∀ g∈f,g ∉ fp k:=fun k hki h1 h2 g hg hgk=>by
     obtain⟨h3,h4,h5⟩:=halive k hki h1 h2
     rcases (hl.own g hg).2 with ⟨m,hm1,hm2⟩ | h6
     ·exact hap k h3 h4 h5 g hgk m hm1 hm2
     ·have:=((h.mem k h3 h4).2 g hgk).2;omega
    by_cases e1:k=i
    ·subst e1
     have e2:l≠k:=fun e=>hne e.symm
     simp only [if_true,e2,if_false]
     exact key l e2 hl2 hal
    ·by_cases e2:l=i
     ·subst e2
      simp only [if_true,e1,if_false]
      intro g hg hg2
      exact key k e1 hk hak g hg2 hg
     ·simp only [e1,e2,if_false]
      obtain⟨h3,h4,_⟩:=halive k e1 hk hak
      obtain⟨h5,h6,_⟩:=halive l e2 hl2 hal
      exact h.apart k l h3 h5 h4 h6 hne
 ·have hnone:∀ i,(Array.replicate ops.size false).getD i false=false:=fun i=>by
   simp [Array.getD]
  refine⟨by simp,?_,(RowKit.Below.refl _ _).drew,fun i j hj hi=>?_,fun i hi=>?_,fun i hi=>?_,fun i k hi=>?_⟩
  ·symm
   have:∀ l:List (Nat × Job),putJ l (fun i=>(Array.replicate ops.size false).getD i false) (fun _=>undef) a0=a0:=fun l=>by
    induction l with
    | nil=>rfl
    | cons p r ih =>
     obtain⟨k,q⟩:=p
     simp only [putJ]
     rw [if_neg (by rw [hnone];simp)]
     exact ih
   exact this _
  ·rw [hnone] at hi;cases hi
  ·rw [hnone] at hi;cases hi
  ·rw [hnone] at hi;cases hi
  ·rw [hnone] at hi;cases hi
theorem InvJ.fin {ops:Array Oper} {js:List Job} {a0:Act} {w0:World} {fact:Nat→List Value→Value→Prop} {res:Nat→List Value→Value→List Nat→World→Prop} {a:Act} {w:World} {vs:Nat→Value} {fp:Nat→List Nat}
  (h:InvJ ops js a0 w0 fact res (Array.replicate ops.size true) a w vs fp) (i:Nat) (hi:i<ops.size):fact i (dv js i vs) (vs i):=h.val i (by simp [hi])
theorem InvJ.finM {ops:Array Oper} {js:List Job} {a0:Act} {w0:World} {fact:Nat→List Value→Value→Prop} {res:Nat→List Value→Value→List Nat→World→Prop} {a:Act} {w:World} {vs:Nat→Value} {fp:Nat→List Nat}
  (h:InvJ ops js a0 w0 fact res (Array.replicate ops.size true) a w vs fp) (i:Nat) (hi:i<ops.size) (hu:(js.all fun q=>!q.eats.contains i)=true):res i (dv js i vs) (vs i) (fp i) w∧∀ g∈fp i,w0.heap.size≤g∧g<w.heap.size :=
 h.mem i (by simp [hi]) fun k q hq _ hm=>by
  rw [List.all_eq_true] at hu
  have:=hu q (List.mem_of_getElem? hq)
  simp at this
  exact this hm
structure Row where
 job:Job
 fact:List Value→Value→Prop
 res:List Value→Value→List Nat→World→Prop
def rj (rows:List Row):List Job:=rows.map (·.job)
def rf (rows:List Row) (i:Nat):List Value→Value→Prop:=match rows[i]? with | some r=>r.fact | none=>fun _ _=>True
def rr (rows:List Row) (i:Nat):List Value→Value→List Nat→World→Prop:=match rows[i]? with | some r=>r.res | none=>fun _ _ _ _=>True
def Loc (w0:World) (R:List Value→Value→List Nat→World→Prop):Prop :=
 ∀ l v f w w',RowKit.Below w0.heap.size w0 w→RowKit.Below w0.heap.size w0 w'→w.heap.size≤w'.heap.size→(∀ g∈f,w0.heap.size≤g∧g<w.heap.size∧w'.heap[g]? = w.heap[g]?)→R l v f w→R l v f w'
def Locs (w0:World):List Row→Prop
 | []=>True
 | r :: rs=>Loc w0 r.res∧Locs w0 rs
theorem Locs.at_ {w0:World} {rows:List Row} (h:Locs w0 rows):∀ r∈rows,Loc w0 r.res:=by
 induction rows with
 | nil=>intro r hr;cases hr
 | cons x xs ih =>
  intro r hr
  rcases List.mem_cons.1 hr with rfl | hr
  ·exact h.1
  ·exact ih h.2 r hr
def StepsJ (P:Program) (ops:Array Oper) (Q:Exit→Act→World→Prop) (rows:List Row) (a0:Act) (w0:World):List Row→Nat→Prop
 | [],_=>True
 | r :: rs,k=>StepJ P ops Q (rj rows) a0 w0 (rf rows) (rr rows) k∧StepsJ P ops Q rows a0 w0 rs (k+1)
theorem StepsJ.at_ {P:Program} {ops:Array Oper} {Q:Exit→Act→World→Prop} {rows:List Row} {a0:Act} {w0:World} {rs:List Row} {k:Nat} (h:StepsJ P ops Q rows a0 w0 rs k) (i:Nat) (hi:i<rs.length):StepJ P ops Q (rj rows) a0 w0 (rf rows) (rr rows) (k+i):=by
 induction rs generalizing k i with
 | nil=>cases hi
 | cons x xs ih =>
  cases i with
  | zero=>exact h.1
  | succ i=>have:=ih h.2 i (by simpa using hi);rwa [show k+(i+1)=k+1+i by omega]
def slotsOk (js:List Job) (n:Nat):Bool:=js.all fun q=>match q.dst with | some d=>decide (d<n) | none=>true
theorem wp_region_rows {P:Program} {ops:Array Oper} {Q:Exit→Act→World→Prop} {a0:Act} {w0:World} {id:Nat} (rows:List Row)
  (hm:P.follows .mixedOrders=true) (hfit:fitsJ ops (rj rows)=true) (hsz:slotsOk (rj rows) a0.tmps.size=true)
  (hloc:Locs w0 rows) (hstep:StepsJ P ops Q rows a0 w0 rows 0)
  (hfin:∀ w vs fp,InvJ ops (rj rows) a0 w0 (rf rows) (rr rows) (Array.replicate ops.size true) (putJ (number (rj rows) 0) (fun _=>true) vs a0) w vs fp→Q .normal (putJ (number (rj rows) 0) (fun _=>true) vs a0) w) :
  (Code.region id ops true).wp P Q a0 w0:=by
 refine wp_region_sep (rj rows) (rf rows) (rr rows) hm hfit (fun q hq d hd=>?_) (fun i l v f w w' h1 h2 h3 h4 h5=>?_) (fun i hi=>?_) hfin
 ·unfold slotsOk at hsz
  rw [List.all_eq_true] at hsz
  have:=hsz q hq
  rw [hd] at this
  simpa using this
 ·unfold rr at h5 ⊢
  cases hr:rows[i]? with
  | none=>trivial
  | some r =>
   simp only [hr] at h5 ⊢
   exact hloc.at_ r (List.mem_of_getElem? hr) l v f w w' h1 h2 h3 h4 h5
 ·have:=hstep.at_ i (by simpa [rj] using hi)
  rwa [Nat.zero_add] at this
section
variable {P:Program} {ops:Array Oper} {Q:Exit→Act→World→Prop} {js:List Job} {a0:Act} {w0:World} {fact:Nat→List Value→Value→Prop} {res:Nat→List Value→Value→List Nat→World→Prop}
theorem step_of {i:Nat} {j:Job} {o:Oper} (hj:js[i]? = some j) (ho:ops[i]? = some o)
  (h:∀ (a:Act) (w:World) (vs:Nat→Value) (fp:Nat→List Nat) (K:Act→World→Prop),Finds js a0 w0 fact res i j a w vs fp →
   (∀ v w' f,Leaves w0 fact res i j w vs fp v f w'→K (a.put o.dst v) w')→Oper.wp P o a w K Q):StepJ P ops Q js a0 w0 fact res i:=fun j' o' hj' ho'=>by
 rw [hj] at hj';injection hj' with hj';subst hj'
 rw [ho] at ho';injection ho' with ho';subst ho'
 exact h
variable {i:Nat} {j:Job} {a:Act} {w:World} {vs:Nat→Value} {fp:Nat→List Nat}
theorem Finds.ev (h:Finds js a0 w0 fact res i j a w vs fp) (k d:Nat) (hk:j.deps.contains k=true) (hd:(js[k]?).bind (·.dst)=some d):a.eval (.tmp d)=vs k:=by
 cases hq:js[k]? with
 | none=>rw [hq] at hd;cases hd
 | some q=>rw [hq] at hd;exact h.dep k (by simpa using hk) q hq d hd
def oldOk (js:List Job) (i t:Nat):Bool:=(number js 0).all fun p=>p.2.dst != some t || waits js js.length p.1 i
theorem Finds.at_ (h:Finds js a0 w0 fact res i j a w vs fp) (t:Nat) (ht:oldOk js i t=true):a.eval (.tmp t)=a0.eval (.tmp t) :=
 h.old t fun k q hq e=>by
  unfold oldOk at ht
  rw [List.all_eq_true] at ht
  have hm:=number_mem (k:=0) hq
  rw [Nat.zero_add] at hm
  have:=ht _ hm
  simp only [e,bne_self_eq_false,Bool.false_or] at this
  exact this
theorem Finds.va (h:Finds js a0 w0 fact res i j a w vs fp) (k:Nat) (hk:j.deps.contains k=true):fact k (dv js k vs) (vs k):=h.val k (by simpa using hk)
theorem Finds.me (h:Finds js a0 w0 fact res i j a w vs fp) (k:Nat) (hk:j.eats.contains k=true):res k (dv js k vs) (vs k) (fp k) w:=h.mem k (by simpa using hk)
variable {v:Value} {f:List Nat} {w':World}
theorem Finds.only (h:Finds js a0 w0 fact res i j a w vs fp) (h1:fact i (j.deps.map vs) v) (h2:res i (j.deps.map vs) v [] w):Leaves w0 fact res i j w vs fp v [] w :=
 ⟨h.below,Nat.le_refl _,fun _ _ _=>rfl,h1,h2,fun g hg=>by cases hg⟩
theorem Finds.hand (h:Finds js a0 w0 fact res i j a w vs fp) (k:Nat) (hk':j.eats.contains k=true) (h1:fact i (j.deps.map vs) v) (h2:res i (j.deps.map vs) v (fp k) w):Leaves w0 fact res i j w vs fp v (fp k) w :=
 have hk:k∈j.eats:=by simpa using hk'
 ⟨h.below,Nat.le_refl _,fun _ _ _=>rfl,h1,h2,fun g hg=>⟨(h.own k hk g hg).2,.inl ⟨k,hk,hg⟩⟩⟩
theorem Finds.made (h:Finds js a0 w0 fact res i j a w vs fp) (o:Obj) (h1:fact i (j.deps.map vs) v) (h2:res i (j.deps.map vs) v [w.heap.size] (w.alloc o)):Leaves w0 fact res i j w vs fp v [w.heap.size] (w.alloc o) :=
 ⟨h.below.alloc h.below.size o,by simp,fun g hg _=>Below.heap_alloc w o g hg,h1,h2,fun g hg=>by
  rw [List.mem_singleton] at hg;subst hg;exact⟨by simp,.inr (Nat.le_refl _)⟩⟩
theorem Finds.under (h:Finds js a0 w0 fact res i j a w vs fp) (hb:RowKit.Below w.heap.size w w') (h1:fact i (j.deps.map vs) v) (h2:res i (j.deps.map vs) v f w') (h3:∀ g∈f,w.heap.size≤g∧g<w'.heap.size):Leaves w0 fact res i j w vs fp v f w' :=
 ⟨h.below.trans (hb.mono h.below.size),hb.size,fun g hg _=>hb.block g hg,h1,h2,fun g hg=>⟨(h3 g hg).2,.inr (h3 g hg).1⟩⟩
theorem Finds.grown (h:Finds js a0 w0 fact res i j a w vs fp) {u:Value} (k:Nat) (hk':j.eats.contains k=true) (hf:fp k=u.ownBlock.toList) (hg:w.grownBy w' u.ownBlock) (hv:v.ownBlock=u.ownBlock∨v.ownBlock=some w.heap.size)
  (hl:∀ g,v.ownBlock=some g→g<w'.heap.size) (h1:fact i (j.deps.map vs) v) (h2:res i (j.deps.map vs) v v.ownBlock.toList w'):Leaves w0 fact res i j w vs fp v v.ownBlock.toList w':=by
 have hk:k∈j.eats:=by simpa using hk'
 refine⟨h.below.grown hg h.below.size (fun g hg=>((h.own k hk g) (by rw [hf,hg];simp)).1),hg.size,fun g hgl hne=>hg.block g hgl (fun e=>hne k hk (by rw [hf,← e];simp)),h1,h2,fun g hgm=>?_⟩
 have hgv:v.ownBlock=some g:=by simpa using hgm
 refine⟨hl g hgv,?_⟩
 rcases hv with e | e
 ·exact .inl ⟨k,hk,by rw [hf,← e,hgv];simp⟩
 ·rw [hgv] at e;injection e with e;exact .inr (by omega)
end
section
variable {P:Program} {o:Oper} {a:Act} {w:World} {K:Act→World→Prop} {Q:Exit→Act→World→Prop}
theorem op_value {v:Value} {w':World} (h:(execOp a.eval o).run P w=.ok (.value v) w') (hK:K (a.put o.dst v) w'):o.wp P a w K Q:=by
 unfold Oper.wp;rw [h];exact hK
theorem op_skip {w':World} (h:(execOp a.eval o).run P w=.ok .skip w') (hK:K (a.put o.dst undef) w'):o.wp P a w K Q:=by
 unfold Oper.wp;rw [h];exact hK
theorem op_move {x:Operand} {v:Value} (ho:o.op=.move x) (hx:a.eval x=v) (hK:K (a.put o.dst v) w):o.wp P a w K Q :=
 op_value (by simp only [execOp,ho,hx];rfl) hK
theorem op_assign {x:Operand} {v:Value} (ho:o.op=.assign x) (hx:a.eval x=v) (hK:K (a.put o.dst v) w):o.wp P a w K Q :=
 op_value (by simp only [execOp,ho,hx];rfl) hK
theorem op_append (s x:Operand) (t:TypeId)
  (ho:o.op=.call { callee:=.builtin .append,args:=#[s,x],argTypes:=#[t,t] })
  (base:Nat) (e:TypeId) (z:Value) (size bytes:Nat) (ht:P.underlying t=some (.slice e)) (hi:(P.info? e).map (fun i=>(i.zero,i.size,i.bytes))=some (some z,size,bytes)) (hzs:z.cells.size=size) (hsz:0<size)
  (v:Value) (n:Nat) (xs:List Value) (hs:a.eval s=v) (hown:w.ownsRow base e size v n xs)
  (A:Option Addr) (m c:Nat) (news:List Value) (hx:a.eval x=.slice A m c) (hr:Rd w size A m news) (h1:∀ u∈news,u.oneCell'=true)
  (h63:n+m≤maxLen) (hbytes:(n+m)*bytes≤140737488355328) (hbase:base≤w.heap.size)
  (h:∀ v' w',w'.ownsRow base e size v' (n+m) (xs ++ news)→w.grownBy w' v.ownBlock→(v'.ownBlock=v.ownBlock∨v'.ownBlock=some w.heap.size)→K (a.put o.dst v') w'):o.wp P a w K Q:=by
 obtain⟨i,hi0,hz,hsize,hby⟩:=info_parts hi
 obtain⟨v',w',hrun,h2,h3,h4⟩:=run_append_rd (P:=P) w base t o.type e i z size bytes ht hi0 hz hsize hby hzs hsz v n xs hown A m c news hr h1 h63 hbytes hbase
 unfold Oper.wp execOp
 simp only [ho,resolve,invoke,builtin,Sem.run_bind,Sem.run_pure,Result.andThen_ok,List.map_toArray,List.map_cons,List.map_nil,hs,hx,hrun]
 exact h v' w' h2 h3 h4
def hasBody (P:Program) (f:FuncId):Bool:=match P.funcs[f]? with | some fn=>fn.name != "runtime.NumGoroutine" && fn.body.isSome | none=>false
theorem op_call {f:FuncId} {xs:Array Operand} {ts:Array TypeId} {vals:Array Value} (ho:o.op=.call { callee:=.value (.func f),args:=xs,argTypes:=ts }) (hf:hasBody P f=true) (hx:xs.map a.eval=vals)
  (hc:Calls P f vals w fun e w'=>∃ v,e=.returned v∧K (a.put o.dst v) w'):o.wp P a w K Q:=by
 unfold Oper.wp
 have:(execOp a.eval o).run P w=.ok (.enter f vals) w:=by
  unfold hasBody at hf
  simp only [execOp,ho,resolve,hx,Act.eval,Deferred.ofValue,invoke,callFunc]
  cases hp:P.funcs[f]? with
  | none=>rw [hp] at hf;cases hf
  | some fn =>
   rw [hp] at hf
   simp only [Bool.and_eq_true,bne_iff_ne] at hf
   have h2:fn.body.isNone=false:=by cases hb:fn.body <;> simp [hb] at hf ⊢
   simp [Sem.run_bind,hp,hf.1]
   intro h3
   rw [h3] at h2;cases h2
 rw [this]
 exact hc.mono fun e w' ⟨v,h1,h2⟩=>by subst h1;exact h2
theorem op_extract {x:Operand} {k:Nat} {vs:Array Value} {v:Value} (ho:o.op=.extract x k) (hx:a.eval x=.tuple vs) (hv:vs[k]? = some v) (hK:K (a.put o.dst v) w):o.wp P a w K Q :=
 op_value (by simp only [execOp,ho,hx,Instr.extract];simp [hv]) hK
end
theorem within_val (x k:Int) (hk:0<k):(x.tmod k+k) % k=x % k:=by
 rcases Int.lt_or_le x 0 with h | h
 ·have h1:x.tmod k = -((-x) % k):=by rw [← Int.tmod_eq_emod_of_nonneg (by omega),Int.neg_tmod,Int.neg_neg]
  have h2:=Int.mul_ediv_add_emod (-x) k
  rw [h1]
  have h3:x = -((-x) % k)+k*(-((-x) / k)):=by rw [Int.mul_neg];omega
  conv=>rhs;rw [h3,Int.add_mul_emod_self_left]
  rw [Int.add_emod_right]
 ·rw [Int.tmod_eq_emod_of_nonneg h,Int.add_emod_right,Int.emod_emod_of_dvd _ (Int.dvd_refl k)]
set_option maxHeartbeats 1000000 in
theorem within_any (x k:Int) (w:World) (hk:0<k) (hk':k≤4000000000000000000) :
  Calls Tryz.prog 11 #[.int .i64 x,.int .i64 k] w fun e w'=>e=.returned (.int .i64 (x % k))∧w=w':=by
 have hb:=tmod_bounds x k hk
 have E:=Lib.hid (within_val x k hk)
 have bk:(k == 0)=false:=by simp;omega
 obtain⟨y,hy⟩:∃ y,x.tmod k=y:=⟨_,rfl⟩
 rw [hy] at hb E
 go_enter Tryz.func11,Tryz.ntmps11
 go_wp2
 go_ret
 exact⟨ret_int' E.out,rfl⟩
theorem quiet_left {P:Program} {f:FuncId} {args:Array Value} {w:World} {n:Nat} {v:Value}
  (h:Calls P f args (w.drewN n) fun e w'=>e=.returned v∧w.drewN n=w'):Calls P f args (w.drewN n) fun e w''=>e=.returned v∧∃ m,w''=w.drewN m :=
 h.mono fun _ _ ⟨he,hm⟩=>⟨he,n,hm.symm⟩
structure Only (g:Nat) (w w':World):Prop where
 os:w'.os=w.os
 tape:w'.tape=w.tape
 output:w'.output=w.output
 size:w'.heap.size=w.heap.size
 block:∀ k,k≠g→w'.heap[k]? = w.heap[k]?
section
variable {g:Nat} {w w' w'':World}
theorem Only.refl (g:Nat) (w:World):Only g w w:=⟨rfl,rfl,rfl,rfl,fun _ _=>rfl⟩
theorem Only.drewN (h:Only g w w') (n:Nat):Only g w (w'.drewN n):=⟨h.os,h.tape,h.output,h.size,h.block⟩
theorem Only.setCell (h:Only g w w') (o:Nat) (v:Value):Only g w (w'.setCell ⟨g,o,none⟩ v) :=
 ⟨h.os,h.tape,h.output,by simp [World.setCell,h.size],fun k hk=>(Below.heap_setCell w' ⟨g,o,none⟩ v k hk).trans (h.block k hk)⟩
theorem Only.below (h:Only g w w') {B:Nat} (hB:B≤g):RowKit.Below B w w':=⟨h.os,h.tape,h.output,by rw [h.size];exact Nat.le_refl _,fun k hk=>h.block k (by omega)⟩
theorem Only.bl (h:Only g w w') {b:Nat} {t:TypeId} {cs:Array Value} (hb:Bl w b t cs) (hne:b≠g):Bl w' b t cs:=(h.block b hne).trans hb
end
def Src (w:World) (g:Nat) (A:Option Addr) (n c I:Nat):Prop:=Bl w g 55 #[.slice A n c,.int .i64 I]
def nextV (xs:List Int) (n I:Nat) (k:Int):Int:=if I<n then xs.getD I 0 % k else 0
def nextI (n I:Nat):Nat:=if I<n then I+1 else I
theorem nextV_bounds (xs:List Int) (n I:Nat) (k:Int) (hk:0<k):0≤nextV xs n I k∧nextV xs n I k<k:=by
 unfold nextV
 split
 ·exact⟨Int.emod_nonneg _ (by omega),Int.emod_lt_of_pos _ hk⟩
 ·omega
def NextRes (w:World) (g:Nat) (A:Option Addr) (n c:Nat) (v:Int) (I':Nat) (e:Ending) (w':World):Prop:=e=.returned (.int .i64 v)∧Only g w w'∧Src w' g A n c I'
set_option maxRecDepth 100000 in
set_option maxHeartbeats 2000000 in
theorem next_any (g:Nat) (A:Option Addr) (n c I:Nat) (xs:List Int) (k:Int) (w0 w:World) (hS:Src w g A n c I) (hI:Ints w0 A n xs) (hb:RowKit.Below w0.heap.size w0 w) (hg:w0.heap.size≤g) (hn:n≤1000000) (hk:0<k) (hk':k≤4000000000000000000) :
  Calls Tryz.prog 16 #[.pointer (some ⟨g,0,none⟩),.int .i64 k] w (NextRes w g A n c (nextV xs n I k) (nextI n I)):=by
 have c0:w.cell? ⟨g,0,none⟩=some (.slice A n c):=hS.cell 0
 have c1:w.cell? ⟨g,1,none⟩=some (.int .i64 I):=hS.cell 1
 have f1:w.frozen? ⟨g,1,none⟩=false:=hS.free 1
 by_cases hlt:I<n
 ·have eV:nextV xs n I k=xs.getD I 0 % k:=by unfold nextV;rw [if_pos hlt]
  have eI:nextI n I=I+1:=by unfold nextI;rw [if_pos hlt]
  rw [eV,eI]
  obtain⟨b,off,x,rfl,hbl,hx,HX⟩:=hI.get hlt
  rw [HX.out]
  have hx':w.cell? ⟨b,off+I,none⟩=some (.int .i64 x):=(hb.cell (p:=⟨b,off+I,none⟩) hbl).trans hx
  have hd:decide ((n:Int)≤(I:Int))=false:=by simp;omega
  have hne:b≠g:=by omega
  have HW:=Lib.hid (fun w=>within_any x k w hk hk')
  have i1:(0:Int)≤(I:Int):=by omega
  have i2:(I:Int)<(n:Int):=by omega
  have u1:IntKind.i64.wrap ((I:Int)+1)=(I:Int)+1:=IntWalk.i64_in _ (by omega)
  have u2:IntKind.i64.wrap ((I:Int)+1 - 1)=(I:Int):=(IntWalk.i64_in _ (by omega)).trans (by omega)
  have u3:IntKind.i64.wrap (I:Int)=(I:Int):=IntWalk.i64_in _ (by omega)
  clear eV eI hx
  go_enter Tryz.func16,Tryz.ntmps16
  go_wp2
  go_quiet (fail)
  go_wp2_with fail
  have hS1:Bl ((w.drewN nq).setCell ⟨g,1,none⟩ (.int .i64 ((I:Int)+1))) g 55 #[.slice (some ⟨b,off,none⟩) n c,.int .i64 ((I:Int)+1)]:=by simpa using (hS.drewN nq).put 1 (.int .i64 ((I:Int)+1))
  have hO1:=((Only.refl g w).drewN nq).setCell 1 (.int .i64 ((I:Int)+1))
  have hx1:((w.drewN nq).setCell ⟨g,1,none⟩ (.int .i64 ((I:Int)+1))).cell? ⟨b,off+I,none⟩=some (.int .i64 x):=(World.cell?_of_block (hO1.block b hne)).trans hx'
  generalize (w.drewN nq).setCell ⟨g,1,none⟩ (.int .i64 ((I:Int)+1))=W at *
  have e0:W.cell? ⟨g,0,none⟩=some (.slice (some ⟨b,off,none⟩) n c):=hS1.cell 0
  have e1:W.cell? ⟨g,1,none⟩=some (.int .i64 ((I:Int)+1)):=hS1.cell 1
  clear c0 c1 f1 hx'
  go_quiet ((go_at_call 11;exact quiet_left (HW.out _)))
  go_wp2
  go_ret
  exact⟨rfl,hO1.drewN _,by show Bl _ _ _ _;rw [Int.natCast_add];exact hS1.drewN _⟩
 ·have eV:nextV xs n I k=0:=by unfold nextV;rw [if_neg hlt]
  have eI:nextI n I=I:=by unfold nextI;rw [if_neg hlt]
  rw [eV,eI]
  have hd:decide ((n:Int)≤(I:Int))=true:=by simp;omega
  go_enter Tryz.func16,Tryz.ntmps16
  go_wp2
  go_quiet (fail)
  go_wp2
  go_ret
  exact⟨rfl,(Only.refl _ _).drewN _,hS.drewN _⟩
def CutRes (w:World) (A:Option Addr) (n c m:Nat) (xs:List Int) (e:Ending) (w':World):Prop:=e=.returned (.slice A (min n m) c)∧w=w'
set_option maxHeartbeats 1000000 in
theorem cut_any (A:Option Addr) (n c m:Nat) (xs:List Int) (w:World) (h:Ints w A n xs) (hnc:n≤c) (hcm:c≤9223372036854775807) (hm0:0<m) (hm:m≤1000000) :
  Calls Tryz.prog 15 #[.slice A n c,.int .i64 m] w (CutRes w A n c m xs):=by
 by_cases hl:m<n
 ·obtain⟨b,off,rfl,_⟩:=h.2 (by omega)
  have e:min n m=m:=by omega
  unfold CutRes
  rw [e]
  clear e
  have d:(m:Int)<(n:Int):=by omega
  go_enter Tryz.func15,Tryz.ntmps15
  go_wp2
  go_ret
  exact⟨rfl,rfl⟩
 ·have e:min n m=n:=by omega
  unfold CutRes
  rw [e]
  clear e
  go_enter Tryz.func15,Tryz.ntmps15
  go_wp2
  go_ret
  exact⟨rfl,rfl⟩
theorem own_apart {w:World} {base:Nat} {e t:TypeId} {size n g:Nat} {v:Value} {xs:List Value} {cs:Array Value} (h:w.ownsRow base e size v n xs) (hg:Bl w g t cs) (hne:e≠t):some g≠v.ownBlock:=by
 rcases h.2 with ⟨rfl,_⟩ | ⟨g',cap,cur,rfl,_,hh,_⟩
 ·simp [Value.ownBlock]
 ·intro he
  have:g=g':=by simpa [Value.ownBlock] using he
  subst this
  unfold Bl at hg
  rw [hh] at hg
  injection hg with hg
  injection hg with _ ht
  exact hne ht
section
variable {w w':World} {base:Nat} {e:TypeId} {size n:Nat} {v:Value} {xs:List Value}
theorem own_of_block (h:w.ownsRow base e size v n xs) (hk:∀ g,v.ownBlock=some g→w'.heap[g]? = w.heap[g]?):w'.ownsRow base e size v n xs:=by
 refine⟨h.1,?_⟩
 rcases h.2 with h1 | ⟨g,cap,cur,h1,h2,h3,h4⟩
 ·exact .inl h1
 ·exact .inr ⟨g,cap,cur,h1,h2,(hk g (by rw [h1];rfl)).trans h3,h4⟩
theorem own_drewN (h:w.ownsRow base e size v n xs) (q:Nat):(w.drewN q).ownsRow base e size v n xs:=h
theorem own_lt (h:w.ownsRow base e size v n xs) (g:Nat) (hg:v.ownBlock=some g):g<w.heap.size:=by
 rcases h.2 with ⟨rfl,rfl⟩ | ⟨g',cap,cur,rfl,_,hh,_⟩
 ·simp [Value.ownBlock] at hg
 ·have:g'=g:=by simpa [Value.ownBlock] using hg
  subst this
  rcases Nat.lt_or_ge g' w.heap.size with h4 | h4
  ·exact h4
  ·rw [Array.getElem?_eq_none h4] at hh;cases hh
theorem own_alloc (h:w.ownsRow base e size v n xs) (o:Obj):(w.alloc o).ownsRow base e size v n xs :=
 own_of_block h fun g hg=>Below.heap_alloc w o g (own_lt h g hg)
theorem own_below (h:w.ownsRow base e size v n xs) (hb:RowKit.Below w.heap.size w w'):w'.ownsRow base e size v n xs :=
 own_of_block h fun g hg=>hb.block g (own_lt h g hg)
end
structure Kp (g:Nat) (a b:World):Prop where
 os:b.os=a.os
 tape:b.tape=a.tape
 output:b.output=a.output
 size:a.heap.size≤b.heap.size
 block:∀ k,k<a.heap.size→k≠g→b.heap[k]? = a.heap[k]?
section
variable {g:Nat} {a b c:World}
theorem Kp.refl (g:Nat) (a:World):Kp g a a:=⟨rfl,rfl,rfl,Nat.le_refl _,fun _ _ _=>rfl⟩
theorem Kp.trans (h:Kp g a b) (k:Kp g b c):Kp g a c:=⟨k.os.trans h.os,k.tape.trans h.tape,k.output.trans h.output,Nat.le_trans h.size k.size,fun i hi hg=>(k.block i (Nat.lt_of_lt_of_le hi h.size) hg).trans (h.block i hi hg)⟩
theorem Kp.only (h:Kp g a b) (hO:Only g b c):Kp g a c:=⟨hO.os.trans h.os,hO.tape.trans h.tape,hO.output.trans h.output,by rw [hO.size];exact h.size,fun k hk hg=>(hO.block k hg).trans (h.block k hk hg)⟩
theorem Kp.below (h:Kp g a b) (hB:RowKit.Below b.heap.size b c):Kp g a c:=⟨hB.os.trans h.os,hB.tape.trans h.tape,hB.output.trans h.output,Nat.le_trans h.size hB.size,fun k hk hg=>(hB.block k (Nat.lt_of_lt_of_le hk h.size)).trans (h.block k hk hg)⟩
theorem Kp.alloc (h:Kp g a b) (o:Obj):Kp g a (b.alloc o):=h.below ((Below.refl _ _).alloc (Nat.le_refl _) _)
theorem Kp.drew (h:Kp g a b):Kp g a b.drew:=⟨h.os,h.tape,h.output,h.size,h.block⟩
theorem Kp.bl (h:Kp g a b) {k:Nat} {t:TypeId} {cs:Array Value} (hb:Bl a k t cs) (hg:k≠g):Bl b k t cs:=(h.block k hb.lt hg).trans hb
theorem Kp.own (h:Kp g a b) {base:Nat} {e:TypeId} {size n:Nat} {v:Value} {xs:List Value} (ho:a.ownsRow base e size v n xs) (hg:v.ownBlock≠some g):b.ownsRow base e size v n xs :=
 own_of_block ho fun k hk=>h.block k (own_lt ho k hk) (fun x=>hg (by rw [hk,x]))
theorem Kp.under (h:Kp g a b) {B:Nat} {w:World} (hB:RowKit.Below B w a) (hs:B≤a.heap.size) (hg:B≤g):RowKit.Below B w b :=
 hB.trans ⟨h.os,h.tape,h.output,h.size,fun k hk=>h.block k (by omega) (by omega)⟩
end
theorem bl_far {w:World} {a b:Nat} {t u:TypeId} {cs ds:Array Value} (h:Bl w a t cs) (k:Bl w b u ds) (hne:t≠u):a≠b:=fun e=>by
 subst e
 unfold Bl at h k
 rw [h] at k
 injection k with k
 injection k with _ k
 exact hne k
def TrE (gs:Nat) (LA:Option Addr) (m lc:Nat) (W wx:World):Prop:=Kp gs W wx∧∃ J,Src wx gs LA m lc J
section
variable {gs:Nat} {LA:Option Addr} {m lc:Nat} {W wx w':World}
theorem TrE.start {J:Nat} (h:Src W gs LA m lc J):TrE gs LA m lc W W:=⟨Kp.refl _ _,J,h⟩
theorem TrE.drew (h:TrE gs LA m lc W wx):TrE gs LA m lc W wx.drew:=⟨h.1.drew,h.2⟩
theorem TrE.alloc (h:TrE gs LA m lc W wx) (o:Obj):TrE gs LA m lc W (wx.alloc o):=⟨h.1.alloc o,h.2.elim fun J hJ=>⟨J,Bl.alloc hJ o⟩⟩
theorem TrE.trans (h:TrE gs LA m lc W wx) (k:TrE gs LA m lc wx w'):TrE gs LA m lc W w':=⟨h.1.trans k.1,k.2⟩
theorem TrE.only {J':Nat} (h:TrE gs LA m lc W wx) (ho:Only gs wx w') (hs:Src w' gs LA m lc J'):TrE gs LA m lc W w':=⟨h.1.only ho,J',hs⟩
theorem TrE.size (h:TrE gs LA m lc W wx):W.heap.size≤wx.heap.size:=h.1.size
theorem TrE.bl (h:TrE gs LA m lc W wx) {k:Nat} {t:TypeId} {cs:Array Value} (hb:Bl W k t cs) (hg:k≠gs):Bl wx k t cs:=h.1.bl hb hg
theorem TrE.under (h:TrE gs LA m lc W wx) {N:Nat} {w:World} (hb:RowKit.Below N w W) (hs:N≤W.heap.size) (hg:N≤gs):RowKit.Below N w wx:=h.1.under hb hs hg
theorem TrE.own (h:TrE gs LA m lc W wx) {J:Nat} (hS:Src W gs LA m lc J) {base:Nat} {e:TypeId} {size n:Nat} {v:Value} {xs:List Value} (ho:W.ownsRow base e size v n xs) (hne:e≠55):wx.ownsRow base e size v n xs :=
 h.1.own ho (fun x=>own_apart ho hS hne x.symm)
end
structure SrcOk (w0 w:World) (gs:Nat) (LA:Option Addr) (m lc:Nat) (xs:List Int):Prop where
 src:∃ J,Src w gs LA m lc J
 ints:Ints w0 LA m xs
 below:RowKit.Below w0.heap.size w0 w
 base:w0.heap.size≤gs
 few:m≤1000000
theorem SrcOk.tr {w0 w w':World} {gs:Nat} {LA:Option Addr} {m lc:Nat} {xs:List Int} (h:SrcOk w0 w gs LA m lc xs) (ht:TrE gs LA m lc w w'):SrcOk w0 w' gs LA m lc xs :=
 ⟨ht.2,h.ints,ht.under h.below h.below.size h.base,h.base,h.few⟩
theorem SrcOk.start {w0 w:World} {gs:Nat} {LA:Option Addr} {m lc:Nat} {xs:List Int} (h:SrcOk w0 w gs LA m lc xs):TrE gs LA m lc w w:=⟨Kp.refl _ _,h.src⟩
theorem SrcOk.lt {w0 w:World} {gs:Nat} {LA:Option Addr} {m lc:Nat} {xs:List Int} (h:SrcOk w0 w gs LA m lc xs):gs<w.heap.size:=h.src.elim fun _ h=>h.lt
def TrNum (gs:Nat) (LA:Option Addr) (m lc:Nat) (w:World) (a b:Int) (e:Ending) (w':World):Prop:=∃ v:Int,e=.returned (.int .i64 v)∧(a≤v∧v≤b)∧TrE gs LA m lc w w'
theorem next20 {w0 w:World} {gs:Nat} {LA:Option Addr} {m lc:Nat} {xs:List Int} (h:SrcOk w0 w gs LA m lc xs) (k:Int) (hk:0<k) (hk':k≤4000000000000000000) :
  Calls Tryz.prog 16 #[.pointer (some ⟨gs,0,none⟩),.int .i64 k] w (TrNum gs LA m lc w 0 (k - 1)):=by
 obtain⟨J,hJ⟩:=h.src
 refine (next_any gs LA m lc J xs k w0 w hJ h.ints h.below h.base h.few hk hk').mono ?_
 rintro e w' ⟨h1,h2,h3⟩
 have:=nextV_bounds xs m J k hk
 exact⟨_,h1,⟨this.1,by omega⟩,(TrE.start hJ).only h2 h3⟩
theorem step_append_rd {P:Program} (w:World) {ops:Array Oper} {o:Oper} {a:Act} {K:Act→World→Prop} {Q:Exit→Act→World→Prop} {E:Prop} (hgd:o.guard=none) (s x:Operand) (t:TypeId)
  (ho:o.op=.call { callee:=.builtin .append,args:=#[s,x],argTypes:=#[t,t] })
  (base:Nat) (e:TypeId) (z:Value) (size bytes:Nat) (ht:P.underlying t=some (.slice e)) (hi:(P.info? e).map (fun i=>(i.zero,i.size,i.bytes))=some (some z,size,bytes)) (hzs:z.cells.size=size) (hsz:0<size)
  (v:Value) (n:Nat) (xs:List Value) (hs:a.eval s=v) (hown:w.ownsRow base e size v n xs)
  (A:Option Addr) (m c:Nat) (news:List Value) (hx:a.eval x=.slice A m c) (hr:Rd w size A m news) (h1:∀ u∈news,u.oneCell'=true)
  (h63:n+m≤maxLen) (hbytes:(n+m)*bytes≤140737488355328) (hbase:base≤w.heap.size)
  (h:∀ v' w',w'.ownsRow base e size v' (n+m) (xs ++ news)→w.grownBy w' v.ownBlock→K (a.put o.dst v') w') :
  if Region.wanted o (yielded ops a.tmps)=true then Oper.wp P o a w K Q else E:=by
 obtain⟨i,hi0,hz,hsize,hby⟩:=info_parts hi
 have hw:Region.wanted o (yielded ops a.tmps)=true:=by simp [Region.wanted,hgd]
 rw [if_pos hw]
 obtain⟨v',w',hrun,h2,h3,_⟩:=run_append_rd (P:=P) w base t o.type e i z size bytes ht hi0 hz hsize hby hzs hsz v n xs hown A m c news hr h1 h63 hbytes hbase
 unfold Oper.wp execOp
 simp only [ho,resolve,invoke,builtin,Sem.run_bind,Sem.run_pure,Result.andThen_ok,List.map_toArray,List.map_cons,List.map_nil,hs,hx,hrun]
 exact h v' w' h2 h3
abbrev NoF:List Value→Value→Prop:=fun _ _=>True
abbrev NoR:List Value→Value→List Nat→World→Prop:=fun _ _ _ _=>True
theorem NoR.loc {w0:World}:Loc w0 NoR:=fun _ _ _ _ _ _ _ _ _ _=>trivial
def OwnR (N:Nat) (T:TypeId) (k n:Nat) (xs:List Value):List Value→Value→List Nat→World→Prop:=fun _ v f w=>w.ownsRow N T k v n xs∧f=v.ownBlock.toList
theorem OwnR.loc {w0:World} {N:Nat} {T:TypeId} {k n:Nat} {xs:List Value}:Loc w0 (OwnR N T k n xs):=by
 rintro l v f w w' h1 h2 h3 h4 ⟨h5,rfl⟩
 exact⟨own_of_block h5 fun j hj=>(h4 j (by simp [hj])).2.2,rfl⟩
def LitR (T:TypeId) (cs:Array Value) (n:Nat):List Value→Value→List Nat→World→Prop:=fun _ v f w=>∃ g,v=.slice (some ⟨g,0,none⟩) n n∧f = [g]∧Bl w g T cs
theorem LitR.loc {w0:World} {T:TypeId} {n:Nat} {cs:Array Value}:Loc w0 (LitR T cs n):=by
 rintro l v f w w' h1 h2 h3 h4 ⟨g,rfl,rfl,h5⟩
 exact⟨g,rfl,rfl,(h4 g (by simp)).2.2.trans h5⟩
def PtrR (T:TypeId) (cs:Array Value):List Value→Value→List Nat→World→Prop:=fun _ v f w=>∃ g,v=.pointer (some ⟨g,0,none⟩)∧f = [g]∧Bl w g T cs
theorem PtrR.loc {w0:World} {T:TypeId} {cs:Array Value}:Loc w0 (PtrR T cs):=by
 rintro l v f w w' h1 h2 h3 h4 ⟨g,rfl,rfl,h5⟩
 exact⟨g,rfl,rfl,(h4 g (by simp)).2.2.trans h5⟩
def PutR (T:TypeId) (cs:Array Value):List Value→Value→List Nat→World→Prop:=fun vs _ f w=>∃ g,vs[0]? = some (.pointer (some ⟨g,0,none⟩))∧f = [g]∧Bl w g T cs
theorem PutR.loc {w0:World} {T:TypeId} {cs:Array Value}:Loc w0 (PutR T cs):=by
 rintro l v f w w' h1 h2 h3 h4 ⟨g,e,rfl,h5⟩
 exact⟨g,e,rfl,(h4 g (by simp)).2.2.trans h5⟩
theorem own_lit {w:World} {g base:Nat} {t:TypeId} {size n:Nat} {xs:List Value} (h:Bl w g t xs.toArray) (hb:base≤g) (hl:xs.length=n*size) (hn:n≤1000):w.ownsRow base t size (.slice (some ⟨g,0,none⟩) n n) n xs :=
 ⟨hl,.inr ⟨g,n,xs.toArray,rfl,hb,h,Nat.le_refl _,by unfold maxLen;omega,by simpa using hl,by simp [← hl]⟩⟩
theorem rd_bl {w:World} {g n:Nat} {t:TypeId} {size:Nat} {xs:List Value} (h:Bl w g t xs.toArray) (hl:xs.length=n*size):Rd w size (some ⟨g,0,none⟩) n xs :=
 ⟨hl,fun _=>⟨g,0,rfl,h.lt,fun j u hu=>by rw [Nat.zero_add,h.cell j,← Array.getElem?_toList];exact hu⟩⟩
theorem Finds.wrote {js:List Job} {a0:Act} {w0:World} {fact:Nat→List Value→Value→Prop} {res:Nat→List Value→Value→List Nat→World→Prop} {i:Nat} {j:Job} {a:Act} {w w':World} {vs:Nat→Value} {fp:Nat→List Nat} {v:Value}
  (h:Finds js a0 w0 fact res i j a w vs fp) (k:Nat) (hk':j.eats.contains k=true) {g:Nat} (hf:fp k = [g]) (hO:Only g w w') (h1:fact i (j.deps.map vs) v) (h2:res i (j.deps.map vs) v [g] w'):Leaves w0 fact res i j w vs fp v [g] w':=by
 have hk:k∈j.eats:=by simpa using hk'
 have hg:=h.own k hk g (by rw [hf];simp)
 refine⟨h.below.trans (hO.below hg.1),by rw [hO.size];exact Nat.le_refl _,fun b hb hn=>hO.block b (fun e=>hn k hk (by rw [hf,e];simp)),h1,h2,fun b hb=>?_⟩
 rw [List.mem_singleton] at hb
 subst hb
 exact⟨by rw [hO.size];exact hg.2,.inl ⟨k,hk,by rw [hf];simp⟩⟩
section
variable {P:Program} {o:Oper} {a:Act} {w:World} {K:Act→World→Prop} {Q:Exit→Act→World→Prop}
theorem op_callf {f:FuncId} {x:Operand} {caps:Array Value} {xs:Array Operand} {ts:Array TypeId} {vals all:Array Value} (ho:o.op=.call { callee:=.value x,args:=xs,argTypes:=ts }) (hx0:a.eval x=.func (.func f) #[] caps) (hf:hasBody P f=true) (hx:xs.map a.eval=vals) (hv:vals ++ caps=all)
  (hc:Calls P f all w fun e w'=>∃ v,e=.returned v∧K (a.put o.dst v) w'):o.wp P a w K Q:=by
 unfold Oper.wp
 have:(execOp a.eval o).run P w=.ok (.enter f all) w:=by
  unfold hasBody at hf
  simp only [execOp,ho,resolve,hx,hx0,Deferred.ofValue,invoke,callFunc]
  cases hp:P.funcs[f]? with
  | none=>rw [hp] at hf;cases hf
  | some fn =>
   rw [hp] at hf
   simp only [Bool.and_eq_true,bne_iff_ne] at hf
   have h2:fn.body.isNone=false:=by cases hb:fn.body <;> simp [hb] at hf ⊢
   simp [Sem.run_bind,hp,hf.1,hv]
   intro h3
   rw [h3] at h2;cases h2
 rw [this]
 exact hc.mono fun e w' ⟨v,h1,h2⟩=>by subst h1;exact h2
end
theorem and_true2 {a b:Bool} (h:(a && b)=true):a=true∧b=true:=by
 cases a
 ·cases h
 ·exact⟨rfl,h⟩
theorem takeT {P:Program} {ops:Array Oper} {Q:Exit→Act→World→Prop} {md:Region.Mode} {S:World→Prop} (i:Nat) (oi:Oper) {v:Value} {fuel:Nat} {listed:Array Bool} {a:Act} {w:World} (hQp:∀ (c:_) (a:Act) (d:Option Tmp) (v:Value) (w:World),Q (.panic c) (a.put d v) w→Q (.panic c) a w) (hi:ops[i]? = some oi) (hk:(Region.noSelect ops && (Region.free md ops listed i && (Region.ready md ops listed).contains i))=true) (hy:Region.wanted oi (yielded ops a.tmps)=true) (hv:∀ w,S w→(execOp a.eval oi).run P w=.ok (.value v) w) (hS:S w) (h:wpAnyH P md ops Q S fuel (listed.setIfInBounds i true) (a.put oi.dst v) w):wpAnyH P md ops Q S (fuel+1) listed a w:=by
 obtain⟨k1,k2⟩:=and_true2 hk
 obtain⟨k2,k3⟩:=and_true2 k2
 exact wpAnyH_take hi k1 k2 k3 (fun _ _ _ h=>hQp _ _ _ _ _ h) (Or.inl ⟨hy,hv⟩) hS h
theorem takeF {P:Program} {ops:Array Oper} {Q:Exit→Act→World→Prop} {md:Region.Mode} {S:World→Prop} (i:Nat) (oi:Oper) {fuel:Nat} {listed:Array Bool} {a:Act} {w:World} (hQp:∀ (c:_) (a:Act) (d:Option Tmp) (v:Value) (w:World),Q (.panic c) (a.put d v) w→Q (.panic c) a w) (hi:ops[i]? = some oi) (hk:(Region.noSelect ops && (Region.free md ops listed i && (Region.ready md ops listed).contains i))=true) (hy:Region.wanted oi (yielded ops a.tmps)=false) (hS:S w) (h:wpAnyH P md ops Q S fuel (listed.setIfInBounds i true) (a.put oi.dst undef) w):wpAnyH P md ops Q S (fuel+1) listed a w:=by
 obtain⟨k1,k2⟩:=and_true2 hk
 obtain⟨k2,k3⟩:=and_true2 k2
 exact wpAnyH_take (v:=undef) hi k1 k2 k3 (fun _ _ _ h=>hQp _ _ _ _ _ h) (Or.inr ⟨hy,rfl⟩) hS h
end Go.Proofs.YtbokkeooahodaaaGreatDoor

/-
  A part of the proof of TopQuotaDayCardSaid: lemmas and contracts of functions that the law calls. No statement of the seat is proved here. Conditions: as each says.
-/
import Derived.Test.YtbokkeooahodaaaGreatDoorQAW
import Derived.Test.YtbokkeooahodaaaGreatDoorQAO
import Derived.Lib.SmallJoins
import Derived.Test.YtbokkeooahodaaaGreatDoorQAH
namespace Go.Proofs.YtbokkeooahodaaaGreatDoor
open Go.RowKit
set_option linter.unusedVariables false
structure LsA where
 A:Option Addr
 n:Nat
 c:Nat
 xs:List Int
instance : Inhabited LsA:=⟨⟨none,0,0,[]⟩⟩
def encLs (x:LsA):List Value:=[.slice x.A x.n x.c]
def LsR (w:World) (A:Option Addr) (n:Nat) (ls:List LsA):Prop:=Recs encLs 1 w A n ls∧∀ i,i<n→Ints w ls[i]!.A ls[i]!.n ls[i]!.xs∧ls[i]!.n≤ls[i]!.c∧ls[i]!.c≤9223372036854775807
end Go.Proofs.YtbokkeooahodaaaGreatDoor
namespace Go.Proofs.YtbokkeooahodaaaGreatDoor
open Go.RowKit Go.ChangeShapes Go.WideShapes Go.Deep
set_option linter.unusedVariables false
theorem ints_of_recs {w:World} {A:Option Addr} {n:Nat} {zs:List Int} (h:Recs (fun z:Int=>[Value.int .i64 z]) 1 w A n zs):Ints w A n zs:=by
 refine⟨h.1,fun h0=>?_⟩
 obtain⟨b,off,e,hb,hc⟩:=h.2 h0
 refine⟨b,off,e,hb,fun i hi=>?_⟩
 have:=hc i hi 0 (by omega)
 rw [Nat.mul_one,Nat.add_zero] at this
 rw [this]
 have hl:=h.1
 rw [getElem!_pos zs i (by omega)]
 simp [hl,hi]
section
variable {H:Type} {enc:TypeId × Value→H} {P:Program} {w:World} {base:Nat} {spare:Nat→Bool} {held:Bool}
theorem open_recs {α:Type} [Inhabited α] {en:α→List Value} {Q:α→Prop} {k:Nat} (hk:0<k) {t e:TypeId} {fuel:Nat} {A:Option Addr} {len cap:Nat} {x:DataW H × List MemPlace}
  (ht:P.underlying t=some (.slice e)) (ce:P.cellsOf e=k) (hrd:∀ cs' n y,cs'.length=k→DataW.trod enc P w base spare held n e cs'=some y→∃ a:α,cs'=en a∧Q a)
  (h:DataW.trod enc P w base spare held fuel t [.slice A len cap] = some x) :
  ∃ xs:List α,Recs en k w A len xs∧len≤cap∧cap≤9223372036854775807∧(A=none→len=0∧cap=0)∧∀ a∈xs,Q a:=by
 rcases open_slice ht h with ⟨hcs,_⟩ | ⟨a,l,c,m,n,D,Pl,hcs,_,hl,hm,hmm,_,hi⟩
 ·simp at hcs
  obtain⟨rfl,rfl,rfl⟩:=hcs
  exact⟨[],Recs.nil,Nat.le_refl _,by omega,fun _=>⟨rfl,rfl⟩,by simp⟩
 ·simp at hcs
  obtain⟨rfl,rfl,rfl⟩:=hcs
  have hlm:len≤m:=by rw [hmm];split <;> omega
  obtain⟨F,hF⟩:=choose_lt (α:=α) (n:=len) (p:=fun i r=>(∀ j,j<k→w.cell? ((a.add (i*k)).add j)=(en r)[j]?)∧(en r).length=k∧Q r) (fun i hil=>by
   obtain⟨cs',h1,h2⟩:=hi i (by omega)
   rw [ce] at h1
   obtain⟨_,hlen,hcell⟩:=World.cells?_some h1
   obtain⟨r,rfl,hq⟩:=hrd cs' _ _ hlen h2
   exact⟨r,hcell,hlen,hq⟩)
  refine⟨(List.range len).map F,⟨by simp,fun h0=>?_⟩,hl,by unfold maxLen at hm;omega,(fun h=>by cases h),fun r hr=>?_⟩
  ·obtain⟨b,off,spot⟩:=a
   have hz:=hF 0 h0
   have h1:=hz.1 0 hk
   rw [List.getElem?_eq_getElem (by rw [hz.2.1];exact hk)] at h1
   have hs:spot=none:=by simpa [Addr.add] using World.cell?_spot h1
   subst hs
   have hb:b<w.heap.size:=by
    rcases Nat.lt_or_ge b w.heap.size with h2 | h2
    ·exact h2
    ·simp [Addr.add,World.cell?,Array.getElem?_eq_none h2] at h1
   refine⟨b,off,rfl,hb,fun i hil c hc=>?_⟩
   have g:=hF i hil
   have g1:=g.1 c hc
   rw [add_none b off _ none rfl,add_none b _ _ none rfl] at g1
   rw [g1,List.getElem?_eq_getElem (by rw [g.2.1];exact hc)]
   have e:((List.range len).map F)[i]! = F i:=by simp [hil]
   rw [e,getElem!_pos _ c (by rw [g.2.1];exact hc)]
  ·obtain⟨i,hil,rfl⟩:=List.mem_map.1 hr
   exact (hF i (List.mem_range.1 hil)).2.2
theorem slice_cell {t e:TypeId} {fuel:Nat} {v:Value} {x:DataW H × List MemPlace} (ht:P.underlying t=some (.slice e)) (h:DataW.trod enc P w base spare held fuel t [v] = some x):∃ A len cap,v=.slice A len cap:=by
 rcases open_slice ht h with ⟨hcs,_⟩ | ⟨a,l,c,m,n,D,Pl,hcs,_⟩
 ·exact⟨_,_,_,by simpa using hcs⟩
 ·exact⟨_,_,_,by simpa using hcs⟩
end
section
variable {H:Type} {enc:TypeId × Value→H} {w:World} {base:Nat} {spare:Nat→Bool} {held:Bool}
set_option maxRecDepth 100000 in
theorem open_lists {r:Reach} {b0:Nat} {v:Value} {dd:DataW H} {p:List MemPlace} (hv:Value.okWide Tryz.prog w r b0 23 v) (h:DataW.Trod enc Tryz.prog w base spare held 23 v dd p) :
  ∃ (A:Option Addr) (n c:Nat) (ls:List LsA),v=.slice A n c∧LsR w A n ls∧n≤c∧c≤9223372036854775807:=by
 obtain⟨A,n,c,rfl⟩:=okWide_slice Tryz.underlying23 hv
 obtain⟨fuel,hf⟩:=h
 obtain⟨ls,h1,h2,h3,h4,h5⟩:=open_recs (en:=encLs) (Q:=fun x:LsA=>Ints w x.A x.n x.xs∧x.n≤x.c∧x.c≤9223372036854775807) (k:=1) (by omega) Tryz.underlying23 (by kernel_rfl) (fun cs' n y hlen h2=>by
  match cs',hlen with
  | [v0],_ =>
   obtain⟨A',l,c',rfl⟩:=slice_cell Tryz.underlying22 h2
   obtain⟨zs,k1,k2,k3,_⟩:=open_recs (en:=fun z:Int=>[Value.int .i64 z]) (Q:=fun _=>True) (k:=1) (by omega) Tryz.underlying22 (by kernel_rfl) (fun cs2 n2 y2 hlen2 h3=>by
    match cs2,hlen2 with
    | [v1],_ =>
     obtain⟨z,e0,_⟩:=DataW.trod_int Tryz.underlying3 h3
     exact⟨z,e0,trivial⟩) h2
   exact⟨⟨A',l,c',zs⟩,rfl,ints_of_recs k1,k2,k3⟩) hf
 refine⟨A,n,c,ls,rfl,⟨h1,fun i hi=>?_⟩,h2,h3⟩
 have hl:=h1.1
 have hm:ls[i]! ∈ ls:=by rw [getElem!_pos ls i (by omega)];exact List.getElem_mem _
 exact h5 _ hm
end
end Go.Proofs.YtbokkeooahodaaaGreatDoor
namespace Go.Proofs.YtbokkeooahodaaaGreatDoor
set_option linter.unusedVariables false
def rankV (m:Ms):Int:=(((m.pre.size:Int)*2+(if m.co=0 then 0 else 1))*100+50 - (if 0<m.orgs.length then (m.orgs.length:Int) else 21))*10000000+m.id
def rkOk (m:Ms):Prop:=1≤m.id∧m.id≤1000000∧m.orgs.length≤20
theorem prec_rank {x y:Ms} (hx:rkOk x) (hy:rkOk y):precB x y=decide (rankV y<rankV x):=by
 obtain⟨a1,a2,a3⟩:=hx
 obtain⟨b1,b2,b3⟩:=hy
 unfold precB rankV
 generalize x.pre.size=ps,y.pre.size=qs,x.co=cx,y.co=cy,x.orgs.length=lx,y.orgs.length=ly,x.id=ix,y.id=iy at *
 rw [Bool.eq_iff_iff]
 by_cases h1:ps=qs <;> by_cases hc:cx=0 <;> by_cases hd:cy=0 <;> by_cases hl:lx=ly <;> by_cases p:0<lx <;> by_cases q:0<ly <;> simp [h1,hc,hd,hl,p,q] <;> omega
theorem mss_one {l:List Ms} (h:mssErr l=0) {m:Ms} (hm:m∈l):rkOk m∧duErr m.du=0:=by
 unfold mssErr at h
 by_cases h1:300<l.length
 ·rw [if_pos h1] at h;cases h
 ·rw [if_neg h1] at h
  obtain⟨i,hi,rfl⟩:=List.getElem_of_mem hm
  have h2:=firstErr_all h i hi
  unfold msErr at h2
  rw [getElem!_pos l i hi] at h2
  by_cases k1:msHead l[i]
  case neg=>rw [if_pos k1] at h2;cases h2
  rw [if_neg (by simpa using k1)] at h2
  by_cases k2:0<i∧l[i].id≤l[i - 1]!.id
  case pos=>rw [if_pos k2] at h2;cases h2
  rw [if_neg k2] at h2
  by_cases k3:levelV l[i].pre=0
  case pos=>rw [if_pos k3] at h2;cases h2
  rw [if_neg k3] at h2
  by_cases k4:20<l[i].orgs.length
  case pos=>rw [if_pos k4] at h2;cases h2
  rw [if_neg k4] at h2
  by_cases k5:orgsOk l[i].orgs
  case neg=>rw [if_pos k5] at h2;cases h2
  rw [if_neg (by simpa using k5)] at h2
  by_cases k6:msTime l[i]
  case neg=>rw [if_pos k6] at h2;cases h2
  rw [if_neg (by simpa using k6)] at h2
  obtain⟨c1,c2,_⟩:=k1
  exact⟨⟨c1,c2,by omega⟩,h2⟩
theorem ofKind_kind {l:List Ms} {k:Int} {x:It} {m:Ms} (h:ofKind l k x=some m):m.kind=k∧m∈l:=by
 unfold ofKind at h
 have hb:=bestOf_bounds l k x l.length
 by_cases hn:bestOf l k x l.length<0
 ·rw [if_pos hn] at h;cases h
 ·rw [if_neg hn] at h
  injection h with h
  have key:∀ n,n≤l.length→0≤bestOf l k x n→l[(bestOf l k x n).toNat]!.kind=k:=by
   intro n
   induction n with
   | zero=>intro _ h0;exact absurd h0 (by rw [bestOf_zero];decide)
   | succ n ih =>
    intro hl h0
    by_cases ht:l[n]!.kind=k∧coversB l[n]! x=true∧(bestOf l k x n<0∨precB l[n]! l[(bestOf l k x n).toNat]! = true)
    ·rw [bestOf_take ht,Int.toNat_natCast];exact ht.1
    ·rw [bestOf_keep ht] at h0 ⊢
     exact ih (by omega) h0
  refine⟨by rw [← h];exact key _ (Nat.le_refl _) (by omega),?_⟩
  rw [← h,getElem!_pos l _ (by omega)]
  exact List.getElem_mem _
theorem appTo_filter {l:List Ms} {x:It} (n:Nat) (k:Int):(appTo l x n).filter (fun m=>decide (m.kind=k))=if 1≤k∧k≤n then (ofKind l k x).toList else []:=by
 induction n with
 | zero=>rw [if_neg (by omega)];rfl
 | succ n ih =>
  have e:appTo l x (n+1)=appTo l x n ++ (ofKind l (n+1:Nat) x).toList:=rfl
  rw [e,List.filter_append,ih]
  by_cases hk:k=((n+1:Nat):Int)
  ·rw [if_neg (by omega),if_pos (by omega),List.nil_append,← hk]
   cases ho:ofKind l k x with
   | none=>rfl
   | some m=>simp [(ofKind_kind ho).1]
  ·have e2:(ofKind l (n+1:Nat) x).toList.filter (fun m=>decide (m.kind=k)) = []:=by
    cases ho:ofKind l (n+1:Nat) x with
    | none=>rfl
    | some m =>
     have:=(ofKind_kind ho).1
     simp
     omega
   rw [e2,List.append_nil]
   by_cases h1:1≤k∧k≤n
   ·rw [if_pos h1,if_pos (by omega)]
   ·rw [if_neg h1,if_neg (by omega)]
theorem applic_filter {l:List Ms} {x:It} {k:Int} (h1:1≤k) (h2:k≤6):(applic l x).filter (fun m=>decide (m.kind=k))=(ofKind l k x).toList:=by
 unfold applic
 rw [appTo_filter,if_pos (by omega)]
theorem applic_third {l:List Ms} {x:It}:((applic l x).any fun m=>m.kind == 1)=(ofKind l 1 x).isSome:=by
 have h:=applic_filter (l:=l) (x:=x) (k:=1) (by decide) (by decide)
 cases ho:ofKind l 1 x with
 | none =>
  rw [ho] at h
  show _=false
  rw [List.any_eq_false]
  intro m hm
  have:=List.filter_eq_nil_iff.1 h m hm
  simpa using this
 | some m =>
  rw [ho] at h
  rw [List.any_eq_true.2]
  ·rfl
  ·have hm:m∈(applic l x).filter (fun m=>decide (m.kind=1)):=by rw [h];simp
   obtain⟨a,b⟩:=List.mem_filter.1 hm
   exact⟨m,a,by simpa using b⟩
def lineR (m:Ms) (k v q:Int):Dl:=⟨k,m.id,q,v,(evalOut m.du v q).1⟩
def stepR (l:List Ms) (x:It) (q v:Int) (rest:Bool) (s:Dl × Bool) (k:Int):Dl × Bool :=
 match ofKind l k x with
 | none=>s
 | some m=>if (k=3∧x.proof=false)∨(k=4∧rest=true) then s
  else (if k=1∨(evalOut m.du v q).1<s.1.amt then lineR m k v q else s.1,s.2 || decide ((evalOut m.du v q).2≠0))
def zeroD:Dl:=⟨0,0,0,0,0⟩
def partR (l:List Ms) (x:It) (q v:Int) (rest:Bool):Nat→Dl × Bool
 | 0=>(zeroD,false)
 | n+1=>stepR l x q v rest (partR l x q v rest n) (n+1:Nat)
theorem partR_step (l:List Ms) (x:It) (q v:Int) (rest:Bool) (n:Nat):partR l x q v rest (n+1)=stepR l x q v rest (partR l x q v rest n) (n+1:Nat):=rfl
theorem stepR_none {l:List Ms} {x:It} {q v k:Int} {rest:Bool} {s:Dl × Bool} (h:ofKind l k x=none):stepR l x q v rest s k=s:=by unfold stepR;rw [h]
theorem stepR_skip {l:List Ms} {x:It} {q v k:Int} {rest:Bool} {s:Dl × Bool} {m:Ms} (h:ofKind l k x=some m) (h2:(k=3∧x.proof=false)∨(k=4∧rest=true)):stepR l x q v rest s k=s:=by
 unfold stepR;rw [h];simp only [];rw [if_pos h2]
theorem stepR_some {l:List Ms} {x:It} {q v k:Int} {rest:Bool} {s:Dl × Bool} {m:Ms} (h:ofKind l k x=some m) (h2:¬ ((k=3∧x.proof=false)∨(k=4∧rest=true))) :
  stepR l x q v rest s k=(if k=1∨(evalOut m.du v q).1<s.1.amt then lineR m k v q else s.1,s.2 || decide ((evalOut m.du v q).2≠0)):=by
 unfold stepR;rw [h];simp only [];rw [if_neg h2]
theorem filt_const {α:Type} (l:List α) (b:Bool):l.filter (fun _=>b)=if b=true then l else []:=by
 cases b <;> simp
def SameS (s:Int × Option Dl) (r:Dl × Bool):Prop:=(s.1=0∧s.2=some r.1∧r.2=false)∨(s.1=3∧r.2=true)
theorem evalOut_err {m:Ms} {v q:Int} (h:duErr m.du=0) (hr:inRange v q) (h2:(evalOut m.du v q).2≠0):(evalOut m.du v q).2=3:=by
 by_cases h3:(quo18 m.du v q).2≠0∨1000000000000<(quo18 m.du v q).1
 ·rw [evalOut_over h hr h3]
 ·rw [evalOut_ok h hr h3] at h2
  exact absurd rfl h2
theorem same_step {l:List Ms} {x:It} {q v k:Int} {rest:Bool} {ks:List Int} {s:Int × Option Dl} {r:Dl × Bool} (h:SameS s r) (hl:mssErr l=0) (hr:inRange v q) (hk:2≤k) :
  SameS (((ofKind l k x).toList.filter fun _=>!(decide ((k=3∧x.proof=false)∨(k=4∧rest=true)))).foldl (stepL ⟨q,v,ks⟩) s) (stepR l x q v rest r k):=by
 cases ho:ofKind l k x with
 | none=>rw [stepR_none ho];exact h
 | some m =>
  obtain⟨hmk,hml⟩:=ofKind_kind ho
  have hd:=(mss_one hl hml).2
  by_cases h2:(k=3∧x.proof=false)∨(k=4∧rest=true)
  ·rw [stepR_skip ho h2]
   have e0:([m].filter fun _=>!(decide ((k=3∧x.proof=false)∨(k=4∧rest=true)))) = []:=by rw [decide_eq_true h2];rfl
   rw [show (some m).toList = [m] from rfl,e0,List.foldl_nil]
   exact h
  ·rw [stepR_some ho h2]
   have e0:([m].filter fun _=>!(decide ((k=3∧x.proof=false)∨(k=4∧rest=true)))) = [m]:=by rw [decide_eq_false h2];rfl
   rw [show (some m).toList = [m] from rfl,e0,List.foldl_cons,List.foldl_nil]
   rcases h with ⟨a,b,c⟩ | ⟨a,c⟩
   ·by_cases he:(evalOut m.du v q).2=0
    ·by_cases hlt:(evalOut m.du v q).1<r.1.amt
     ·rw [stepL_take (p:=⟨q,v,ks⟩) a he (.inr (by unfold bestL;rw [b];exact hlt)),if_pos (.inr hlt)]
      refine .inl ⟨rfl,?_,by rw [c];simp [he]⟩
      simp only [lineR,hmk]
     ·rw [stepL_keep (p:=⟨q,v,ks⟩) a he (by unfold fndOf;rw [b];rfl) (by unfold bestL;rw [b];exact hlt),if_neg (by omega)]
      exact .inl ⟨a,b,by rw [c];simp [he]⟩
    ·rw [stepL_bad (p:=⟨q,v,ks⟩) a he]
     exact .inr ⟨evalOut_err hd hr he,by simp [he]⟩
   ·have e:stepL ⟨q,v,ks⟩ s m=s:=by unfold stepL;rw [if_pos (by rw [a];decide)]
    rw [e]
    exact .inr ⟨a,by rw [c];rfl⟩
theorem same_first {l:List Ms} {x:It} {q v:Int} {rest:Bool} {ks:List Int} {m:Ms} (ho:ofKind l 1 x=some m) (hl:mssErr l=0) (hr:inRange v q) :
  SameS (stepL ⟨q,v,ks⟩ (0,none) m) (partR l x q v rest 1):=by
 obtain⟨hmk,hml⟩:=ofKind_kind ho
 have hd:=(mss_one hl hml).2
 have e:partR l x q v rest 1=stepR l x q v rest (zeroD,false) 1:=rfl
 rw [e,stepR_some ho (by simp),if_pos (.inl rfl)]
 by_cases he:(evalOut m.du v q).2=0
 ·rw [stepL_take (p:=⟨q,v,ks⟩) rfl he (.inl rfl)]
  refine .inl ⟨rfl,?_,by simp [he]⟩
  simp only [lineR,hmk]
 ·rw [stepL_bad (p:=⟨q,v,ks⟩) rfl he]
  exact .inr ⟨evalOut_err hd hr he,by simp [he]⟩
theorem same_part {l:List Ms} {x:It} {q v:Int} {rest:Bool} {m:Ms} (ho:ofKind l 1 x=some m) (hl:mssErr l=0) (hr:inRange v q) :
  SameS (leastOf (applic l x) ⟨q,v,kindsOf x ++ (if rest=true then [] else [4])⟩) (partR l x q v rest 4):=by
 have f1:=applic_filter (l:=l) (x:=x) (k:=1) (by decide) (by decide)
 have f2:=applic_filter (l:=l) (x:=x) (k:=2) (by decide) (by decide)
 have f3:=applic_filter (l:=l) (x:=x) (k:=3) (by decide) (by decide)
 have f4:=applic_filter (l:=l) (x:=x) (k:=4) (by decide) (by decide)
 have e:triedOf (applic l x) ⟨q,v,kindsOf x ++ (if rest=true then [] else [4])⟩ = [m] ++ ((ofKind l 2 x).toList.filter fun _=>!(decide (((2:Int)=3∧x.proof=false)∨((2:Int)=4∧rest=true))))
   ++ ((ofKind l 3 x).toList.filter fun _=>!(decide (((3:Int)=3∧x.proof=false)∨((3:Int)=4∧rest=true)))) ++ ((ofKind l 4 x).toList.filter fun _=>!(decide (((4:Int)=3∧x.proof=false)∨((4:Int)=4∧rest=true)))):=by
  unfold triedOf kindsOf
  cases hp:x.proof <;> cases rest <;> simp [f1,f2,f3,f4,ho,filt_const]
 unfold leastOf
 rw [e,List.foldl_append,List.foldl_append,List.foldl_append,List.foldl_cons,List.foldl_nil]
 exact same_step (same_step (same_step (same_first ho hl hr) hl hr (by decide)) hl hr (by decide)) hl hr (by decide)
theorem least_one {l:List Ms} {x:It} {q v k:Int} (hk:5≤k∧k≤6):leastOf (applic l x) ⟨q,v,[k]⟩=(match ofKind l k x with | none=>(0,none) | some m=>stepL ⟨q,v,[k]⟩ (0,none) m):=by
 have f:=applic_filter (l:=l) (x:=x) (k:=k) (by omega) (by omega)
 unfold leastOf triedOf
 simp only [List.flatMap_cons,List.flatMap_nil,List.append_nil,f]
 cases ofKind l k x <;> rfl
def addK (l:List Ms) (x:It) (k:Int):List Dl:=match ofKind l k x with | none=>[] | some m=>[lineR m k x.val x.qty]
def ovK (l:List Ms) (x:It) (k:Int):Bool:=match ofKind l k x with | none=>false | some m=>decide ((evalOut m.du x.val x.qty).2≠0)
def has0 (x:It):Bool:=decide (x.gr≠0)
def has1 (x:It):Bool:=decide (x.qty - x.gr≠0∨¬ 0<x.qty)
def refLines (l:List Ms) (x:It):List Dl:=(if has0 x then [(partR l x x.gr (shA x) false 4).1] else []) ++ (if has1 x then [(partR l x (x.qty - x.gr) (shB x) true 4).1] else []) ++ addK l x 5 ++ addK l x 6
def refOver (l:List Ms) (x:It):Bool:=((has0 x && (partR l x x.gr (shA x) false 4).2) || (has1 x && (partR l x (x.qty - x.gr) (shB x) true 4).2)) || ovK l x 5 || ovK l x 6
def refOut (l:List Ms) (x:It):Int × List Dl :=
 if mssErr l≠0 then (mssErr l,[])
 else if itErr x≠0 then (itErr x,[])
 else if (ofKind l 1 x).isSome=false then (7,[])
 else if refOver l x=true∨1000000000000<sumA (refLines l x) then (3,[])
 else (0,refLines l x)
def PRel (s:Int × Option Dl) (r:List Dl × Bool):Prop:=(s.1=0∧s.2.toList=r.1∧r.2=false)∨(s.1=3∧r.2=true)
theorem PRel.of {s:Int × Option Dl} {r:Dl × Bool} (h:SameS s r):PRel s ([r.1],r.2):=by
 rcases h with ⟨a,b,c⟩ | ⟨a,b⟩
 ·exact .inl ⟨a,by rw [b];rfl,c⟩
 ·exact .inr ⟨a,b⟩
theorem lines_rel {L:List Ms}:∀ (qs:List (Pt × (List Dl × Bool))),(∀ q∈qs,PRel (leastOf L q.1) q.2) →
  ((linesOf L (qs.map (·.1))).1=0∧linTo L (qs.map (·.1))=qs.flatMap (·.2.1)∧qs.any (·.2.2)=false)∨((linesOf L (qs.map (·.1))).1=3∧qs.any (·.2.2)=true)
 | [],_=>.inl ⟨rfl,rfl,rfl⟩
 | q :: qs,h=>by
  have h1:=h q List.mem_cons_self
  have h2:=lines_rel qs fun p hp=>h p (List.mem_cons_of_mem _ hp)
  rw [List.map_cons]
  rcases h1 with ⟨a,b,c⟩ | ⟨a,b⟩
  ·have e:linesOf L (q.1 :: qs.map (·.1))=((linesOf L (qs.map (·.1))).1,(leastOf L q.1).2.toList ++ (linesOf L (qs.map (·.1))).2):=by
    rw [linesOf,if_neg (by simpa using a)]
   have e2:linTo L (q.1 :: qs.map (·.1))=(leastOf L q.1).2.toList ++ linTo L (qs.map (·.1)):=by simp [linTo]
   rw [e,e2,b,List.flatMap_cons,List.any_cons,c,Bool.false_or]
   rcases h2 with ⟨x,y,z⟩ | ⟨x,y⟩
   ·exact .inl ⟨x,by rw [y],z⟩
   ·exact .inr ⟨x,y⟩
  ·have e:linesOf L (q.1 :: qs.map (·.1))=((leastOf L q.1).1,[]):=by
    rw [linesOf,if_pos (by rw [a];decide)]
   rw [e,List.any_cons,b,Bool.true_or]
   exact .inr ⟨a,rfl⟩
theorem sh_range {x:It} (hr:itRange x):inRange (shA x) x.gr∧inRange (shB x) (x.qty - x.gr):=by
 obtain⟨h1,h2,h3,h4,h5,h6,h7,h8,h9,h10⟩:=hr
 have hn:NonNeg [x.gr,x.qty - x.gr]:=fun i=>by
  match i with
  | 0=>show 0≤x.gr;omega
  | 1=>show 0≤x.qty - x.gr;omega
  | (k+2)=>show 0≤(0:Int);omega
 unfold inRange shA shB
 by_cases hq:0<x.qty
 ·rw [if_pos hq,if_pos hq]
  have a1:=share_nonneg hn h7 (by simp) 0
  have a2:=share_nonneg hn h7 (by simp) 1
  have b1:=share_le_total hn h7 (by simp) 0 (by simp)
  have b2:=share_le_total hn h7 (by simp) 1 (by simp)
  exact⟨by omega,by omega⟩
 ·rw [if_neg hq,if_neg hq]
  exact⟨by omega,by omega⟩
theorem prel_add {l:List Ms} {x:It} {k:Int} (hk:5≤k∧k≤6) (hl:mssErr l=0) (hr:inRange x.val x.qty):PRel (leastOf (applic l x) ⟨x.qty,x.val,[k]⟩) (addK l x k,ovK l x k):=by
 rw [least_one hk]
 unfold addK ovK
 cases ho:ofKind l k x with
 | none=>exact .inl ⟨rfl,rfl,rfl⟩
 | some m =>
  obtain⟨hmk,hml⟩:=ofKind_kind ho
  have hd:=(mss_one hl hml).2
  simp only []
  by_cases he:(evalOut m.du x.val x.qty).2=0
  ·rw [stepL_take (p:=⟨x.qty,x.val,[k]⟩) rfl he (.inl rfl)]
   refine .inl ⟨rfl,?_,by simp [he]⟩
   simp only [Option.toList,lineR,hmk]
  ·rw [stepL_bad (p:=⟨x.qty,x.val,[k]⟩) rfl he]
   exact .inr ⟨evalOut_err hd hr he,by simp [he]⟩
theorem itErr_zero {x:It} (h:itErr x=0):itFit x∧itRange x:=by
 unfold itErr at h
 by_cases a:itFit x
 ·rw [if_neg (by simpa using a)] at h
  by_cases b:itRange x
  ·exact⟨a,b⟩
  ·rw [if_pos b] at h;cases h
 ·rw [if_pos a] at h;cases h
theorem refOut_eq (l:List Ms) (x:It):refOut l x=asOut l x:=by
 unfold refOut
 by_cases h1:mssErr l=0
 case neg=>rw [if_pos h1,asOut_1 h1]
 rw [if_neg (by simpa using h1)]
 by_cases h2:itErr x=0
 case neg=>rw [if_pos h2,asOut_2 h1 h2]
 rw [if_neg (by simpa using h2)]
 cases ho:ofKind l 1 x with
 | none =>
  rw [if_pos (by rfl),asOut_3 h1 h2 (by rw [applic_third,ho];rfl)]
 | some m =>
 have h3:((applic l x).any fun m=>m.kind == 1)=true:=by rw [applic_third,ho];rfl
 rw [if_neg (by simp)]
 obtain⟨_,hr⟩:=itErr_zero h2
 obtain⟨ra,rb⟩:=sh_range hr
 obtain⟨r1,r2,r3,r4,r5,r6,r7,r8,r9,r10⟩:=hr
 have rc:inRange x.val x.qty:=⟨r7,r8,r5,r6⟩
 have pA:=PRel.of (same_part (q:=x.gr) (v:=shA x) (rest:=false) ho h1 ra)
 have pB:=PRel.of (same_part (q:=x.qty - x.gr) (v:=shB x) (rest:=true) ho h1 rb)
 have p5:=prel_add (k:=5) (by decide) h1 rc
 have p6:=prel_add (k:=6) (by decide) h1 rc
 rw [if_neg (by decide)] at pA
 rw [if_pos rfl,List.append_nil] at pB
 have key:∃ qs:List (Pt × (List Dl × Bool)),(∀ q∈qs,PRel (leastOf (applic l x) q.1) q.2)∧qs.map (·.1)=partsL x (shA x) (shB x)∧qs.flatMap (·.2.1)=refLines l x∧qs.any (·.2.2)=refOver l x:=by
  have e0:has0 x=decide (0<x.gr):=by unfold has0;apply decide_eq_decide.2;omega
  have e1:has1 x=decide (0<x.qty - x.gr∨x.qty=0):=by unfold has1;apply decide_eq_decide.2;omega
  refine⟨(if 0<x.gr then [(⟨x.gr,shA x,kindsOf x ++ [4]⟩,([(partR l x x.gr (shA x) false 4).1],(partR l x x.gr (shA x) false 4).2))] else []) ++ (if 0<x.qty - x.gr∨x.qty=0 then [(⟨x.qty - x.gr,shB x,kindsOf x⟩,([(partR l x (x.qty - x.gr) (shB x) true 4).1],(partR l x (x.qty - x.gr) (shB x) true 4).2))] else []) ++ [(⟨x.qty,x.val,[5]⟩,(addK l x 5,ovK l x 5)),(⟨x.qty,x.val,[6]⟩,(addK l x 6,ovK l x 6))],?_,?_,?_,?_⟩
  ·intro q hq
   rcases List.mem_append.1 hq with hq | hq
   ·rcases List.mem_append.1 hq with hq | hq
    ·split at hq
     ·rw [List.mem_singleton] at hq;subst hq;exact pA
     ·cases hq
    ·split at hq
     ·rw [List.mem_singleton] at hq;subst hq;exact pB
     ·cases hq
   ·simp only [List.mem_cons,List.not_mem_nil,or_false] at hq
    rcases hq with rfl | rfl
    ·exact p5
    ·exact p6
  ·unfold partsL
   rw [List.map_append,List.map_append]
   congr 1
   congr 1
   ·split <;> rfl
   ·split <;> rfl
  ·unfold refLines
   rw [e0,e1,List.flatMap_append,List.flatMap_append]
   simp only [decide_eq_true_eq,List.flatMap_cons,List.flatMap_nil,List.append_nil]
   rw [← List.append_assoc]
   congr 2
   congr 1
   ·split <;> rfl
   ·split <;> rfl
  ·unfold refOver
   rw [e0,e1,List.any_append,List.any_append]
   simp only [List.any_cons,List.any_nil,Bool.or_false]
   rw [← Bool.or_assoc]
   congr 2
   congr 1
   ·by_cases h:0<x.gr
    ·rw [if_pos h,decide_eq_true h];simp
    ·rw [if_neg h,decide_eq_false h];rfl
   ·by_cases h:0<x.qty - x.gr∨x.qty=0
    ·rw [if_pos h,decide_eq_true h];simp
    ·rw [if_neg h,decide_eq_false h];rfl
 obtain⟨qs,k1,k2,k3,k4⟩:=key
 have hR:=lines_rel qs k1
 rw [k2,k3,k4] at hR
 rcases hR with ⟨a,b,c⟩ | ⟨a,c⟩
 ·have e:asOut l x=if 1000000000000<sumA (refLines l x) then (3,[]) else (0,refLines l x):=by
   unfold asOut
   rw [if_neg (by simpa using h1),if_neg (by simpa using h2),if_neg (by rw [h3];simp),if_neg (by rw [a];simp),b]
  rw [e,c]
  simp only [Bool.false_eq_true,false_or]
 ·rw [if_pos (.inl c),asOut_4 h1 h2 h3 a (by decide)]
def qI (x:It) (i:Nat):Int:=if i=0 then x.gr else x.qty - x.gr
def vI (x:It) (i:Nat):Int:=if i=0 then shA x else shB x
def hI (x:It) (i:Nat):Bool:=if i=0 then has0 x else has1 x
def prI (l:List Ms) (x:It) (i j:Nat):Dl × Bool:=partR l x (qI x i) (vI x i) (decide (i=1)) j
def lsR (l:List Ms) (x:It):Nat→List Dl
 | 0=>[]
 | i+1=>lsR l x i ++ (if hI x i=true then [(prI l x i 4).1] else [])
def ovR (l:List Ms) (x:It):Nat→Bool
 | 0=>false
 | i+1=>ovR l x i || (hI x i && (prI l x i 4).2)
def addR (l:List Ms) (x:It):Nat→List Dl
 | 0=>lsR l x 2
 | j+1=>addR l x j ++ addK l x ((j:Int)+5)
def ovA (l:List Ms) (x:It):Nat→Bool
 | 0=>ovR l x 2
 | j+1=>ovA l x j || ovK l x ((j:Int)+5)
theorem lsR_no {l:List Ms} {x:It} {i:Nat} (h:hI x i=false):lsR l x (i+1)=lsR l x i∧ovR l x (i+1)=ovR l x i:=by
 constructor
 ·show lsR l x i ++ (if hI x i=true then [(prI l x i 4).1] else [])=_
  rw [h];simp
 ·show (ovR l x i || (hI x i && (prI l x i 4).2))=_
  rw [h];simp
theorem lsR_yes {l:List Ms} {x:It} {i:Nat} (h:hI x i=true):lsR l x (i+1)=lsR l x i ++ [(prI l x i 4).1]∧ovR l x (i+1)=(ovR l x i || (prI l x i 4).2):=by
 constructor
 ·show lsR l x i ++ (if hI x i=true then [(prI l x i 4).1] else [])=_
  rw [h];simp
 ·show (ovR l x i || (hI x i && (prI l x i 4).2))=_
  rw [h];simp
theorem addR_no {l:List Ms} {x:It} {j:Nat} (h:ofKind l ((j:Int)+5) x=none):addR l x (j+1)=addR l x j∧ovA l x (j+1)=ovA l x j:=by
 constructor
 ·show addR l x j ++ addK l x ((j:Int)+5)=_
  unfold addK;rw [h];simp
 ·show (ovA l x j || ovK l x ((j:Int)+5))=_
  unfold ovK;rw [h];simp
theorem addR_yes {l:List Ms} {x:It} {j:Nat} {m:Ms} (h:ofKind l ((j:Int)+5) x=some m):addR l x (j+1)=addR l x j ++ [lineR m ((j:Int)+5) x.val x.qty]∧ovA l x (j+1)=(ovA l x j || decide ((evalOut m.du x.val x.qty).2≠0)):=by
 constructor
 ·show addR l x j ++ addK l x ((j:Int)+5)=_
  unfold addK;rw [h]
 ·show (ovA l x j || ovK l x ((j:Int)+5))=_
  unfold ovK;rw [h]
theorem refLines_eq (l:List Ms) (x:It):refLines l x=addR l x 2:=by
 simp [refLines,addR,lsR,hI,prI,qI,vI]
theorem refOver_eq (l:List Ms) (x:It):refOver l x=ovA l x 2:=by
 simp [refOver,ovA,ovR,hI,prI,qI,vI]
theorem evalOut_amt (d:Du) (v q:Int):0≤(evalOut d v q).1∧(evalOut d v q).1≤1000000000000:=by
 by_cases h:(evalOut d v q).2=0
 ·exact evalOut_bounds h
 ·by_cases h1:duErr d=0
  ·by_cases h2:inRange v q
   ·by_cases h3:(quo18 d v q).2≠0∨1000000000000<(quo18 d v q).1
    ·rw [evalOut_over h1 h2 h3];decide
    ·rw [evalOut_ok h1 h2 h3] at h;exact absurd rfl h
   ·rw [evalOut_range h1 h2];decide
  ·rw [evalOut_bad h1];show 0≤(0:Int)∧(0:Int)≤_;decide
def AmOk (d:Dl):Prop:=0≤d.amt∧d.amt≤1000000000000
theorem lineR_ok (m:Ms) (k v q:Int):AmOk (lineR m k v q):=evalOut_amt _ _ _
theorem partR_ok (l:List Ms) (x:It) (q v:Int) (rest:Bool) (n:Nat):AmOk (partR l x q v rest n).1:=by
 induction n with
 | zero=>exact⟨(show (0:Int)≤0 by decide),(show (0:Int)≤1000000000000 by decide)⟩
 | succ n ih =>
  rw [partR_step]
  cases ho:ofKind l ((n+1:Nat):Int) x with
  | none=>rw [stepR_none ho];exact ih
  | some m =>
   by_cases h2:(((n+1:Nat):Int)=3∧x.proof=false)∨(((n+1:Nat):Int)=4∧rest=true)
   ·rw [stepR_skip ho h2];exact ih
   ·rw [stepR_some ho h2]
    show AmOk (if _ then _ else _)
    split
    ·exact lineR_ok _ _ _ _
    ·exact ih
theorem lsR_ok (l:List Ms) (x:It) (i:Nat):(lsR l x i).length≤i∧∀ d∈lsR l x i,AmOk d:=by
 induction i with
 | zero=>exact⟨Nat.le_refl _,fun d hd=>by cases hd⟩
 | succ i ih =>
  cases h:hI x i with
  | false=>rw [(lsR_no h).1];exact⟨by omega,ih.2⟩
  | true =>
   rw [(lsR_yes h).1]
   refine⟨by rw [List.length_append];simp;omega,fun d hd=>?_⟩
   rcases List.mem_append.1 hd with hd | hd
   ·exact ih.2 d hd
   ·rw [List.mem_singleton] at hd;subst hd;exact partR_ok _ _ _ _ _ _
theorem addR_ok (l:List Ms) (x:It) (j:Nat):(addR l x j).length≤2+j∧∀ d∈addR l x j,AmOk d:=by
 induction j with
 | zero=>exact⟨(lsR_ok l x 2).1,(lsR_ok l x 2).2⟩
 | succ j ih =>
  cases h:ofKind l ((j:Int)+5) x with
  | none=>rw [(addR_no h).1];exact⟨by omega,ih.2⟩
  | some m =>
   rw [(addR_yes h).1]
   refine⟨by rw [List.length_append];simp;omega,fun d hd=>?_⟩
   rcases List.mem_append.1 hd with hd | hd
   ·exact ih.2 d hd
   ·rw [List.mem_singleton] at hd;subst hd;exact lineR_ok _ _ _ _
theorem sumA_bound {l:List Dl} (h:∀ d∈l,AmOk d):0≤sumA l∧sumA l≤1000000000000*(l.length:Int):=by
 induction l with
 | nil=>rw [sumA_nil];simp
 | cons d l ih =>
  have h1:=h d List.mem_cons_self
  have h2:=ih fun e he=>h e (List.mem_cons_of_mem _ he)
  obtain⟨a,b⟩:=h1
  rw [sumA_cons,List.length_cons]
  omega
theorem sumA_take {l:List Dl} {k:Nat} (hk:k<l.length):sumA (l.take (k+1))=sumA (l.take k)+l[k]!.amt:=by
 rw [take_snoc20 l hk,sumA_append,sumA_cons,sumA_nil]
 omega
theorem refOut_ok {l:List Ms} {x:It} (h1:mssErr l=0) (h2:itErr x=0) (h3:(ofKind l 1 x).isSome=true) :
  refOut l x=if ovA l x 2=true∨1000000000000<sumA (addR l x 2) then (3,[]) else (0,addR l x 2):=by
 unfold refOut
 rw [if_neg (by simpa using h1),if_neg (by simpa using h2),if_neg (by rw [h3];simp),refLines_eq,refOver_eq]
theorem refOut_1 {l:List Ms} {x:It} (h:mssErr l≠0):refOut l x=(mssErr l,[]):=by unfold refOut;rw [if_pos h]
theorem refOut_2 {l:List Ms} {x:It} (h:mssErr l=0) (h2:itErr x≠0):refOut l x=(itErr x,[]):=by
 unfold refOut;rw [if_neg (by simpa using h),if_pos h2]
theorem refOut_3 {l:List Ms} {x:It} (h:mssErr l=0) (h2:itErr x=0) (h3:(ofKind l 1 x).isSome=false):refOut l x=(7,[]):=by
 unfold refOut;rw [if_neg (by simpa using h),if_neg (by simpa using h2),if_pos h3]
end Go.Proofs.YtbokkeooahodaaaGreatDoor

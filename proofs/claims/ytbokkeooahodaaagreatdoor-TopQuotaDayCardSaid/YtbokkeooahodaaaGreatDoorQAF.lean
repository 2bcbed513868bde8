/-
  A part of the proof of TopQuotaDayCardSaid: lemmas and contracts of functions that the law calls. No statement of the seat is proved here. Conditions: as each says.
-/
import Derived.Test.YtbokkeooahodaaaGreatDoorQAD
import Derived.Test.YtbokkeooahodaaaGreatDoorQAE
import Derived.Test.YtbokkeooahodaaaGreatDoorQAC
import Derived.Shelf.SlSortCmp.NoneTotal
import Derived.WideKeyEntry
import Derived.Deep.RegionLaw
import Derived.Deep.DeepCutAuto
import Derived.Deep.RegionWith
namespace Go.Proofs.YtbokkeooahodaaaGreatDoor
set_option linter.unusedVariables false
theorem take_snoc20 {α:Type} [Inhabited α] (l:List α) {i:Nat} (h:i<l.length):l.take (i+1)=l.take i ++ [l[i]!]:=by
 rw [List.take_succ_eq_append_getElem h,getElem!_pos l i h]
def leF (l:List Ms) (p:Pt) (j:Nat):Int × Option Dl:=((p.kinds.take j).flatMap fun k=>l.filter fun m=>decide (m.kind=k)).foldl (stepL p) (0,none)
def leG (l:List Ms) (p:Pt) (j i:Nat):Int × Option Dl:=((l.take i).filter fun m=>decide (m.kind=p.kinds[j]!)).foldl (stepL p) (leF l p j)
theorem leG_skip {l:List Ms} {p:Pt} {j i:Nat} (h:i<l.length) (hk:l[i]!.kind≠p.kinds[j]!):leG l p j (i+1)=leG l p j i:=by
 unfold leG
 rw [take_snoc20 l h,List.filter_append,List.filter_cons_of_neg (by simpa using hk),List.filter_nil,List.append_nil]
theorem leG_step {l:List Ms} {p:Pt} {j i:Nat} (h:i<l.length) (hk:l[i]!.kind=p.kinds[j]!):leG l p j (i+1)=stepL p (leG l p j i) l[i]!:=by
 unfold leG
 rw [take_snoc20 l h,List.filter_append,List.filter_cons_of_pos (by simpa using hk),List.filter_nil,List.foldl_append]
 rfl
theorem leF_step {l:List Ms} {p:Pt} {j:Nat} (h:j<p.kinds.length):leF l p (j+1)=leG l p j l.length:=by
 unfold leG
 rw [List.take_length]
 unfold leF
 rw [take_snoc20 p.kinds h,List.flatMap_append,List.foldl_append]
 simp
theorem leF_all (l:List Ms) (p:Pt):leF l p p.kinds.length=leastOf l p:=by
 unfold leF leastOf triedOf
 rw [List.take_length]
theorem fold_err {p:Pt} {s:Int × Option Dl} (h:s.1≠0) (l:List Ms):l.foldl (stepL p) s=s:=by
 induction l with
 | nil=>rfl
 | cons m l ih =>
  rw [List.foldl_cons]
  have:stepL p s m=s:=by unfold stepL;rw [if_pos h]
  rw [this,ih]
theorem least_err {l:List Ms} {p:Pt} {j i:Nat} (hj:j<p.kinds.length) (hi:i≤l.length) (h:(leG l p j i).1≠0):leastOf l p=leG l p j i:=by
 have e1:leF l p (j+1)=leG l p j i:=by
  rw [leF_step hj]
  have:leG l p j l.length=((l.drop i).filter fun m=>decide (m.kind=p.kinds[j]!)).foldl (stepL p) (leG l p j i):=by
   unfold leG
   rw [← List.foldl_append,← List.filter_append,List.take_append_drop,List.take_length]
  rw [this,fold_err h]
 have e2:leastOf l p=((p.kinds.drop (j+1)).flatMap fun k=>l.filter fun m=>decide (m.kind=k)).foldl (stepL p) (leF l p (j+1)):=by
  unfold leF leastOf triedOf
  rw [← List.foldl_append,← List.flatMap_append,List.take_append_drop]
 rw [e2,e1,fold_err h]
theorem stepL_bad {p:Pt} {s:Int × Option Dl} {m:Ms} (h:s.1=0) (he:(evalOut m.du p.val p.qty).2≠0):stepL p s m=((evalOut m.du p.val p.qty).2,none):=by
 unfold stepL
 rw [if_neg (by simpa using h),if_pos he]
def fndOf (s:Int × Option Dl):Bool:=s.2.isSome
def bestL (s:Int × Option Dl):Dl:=s.2.getD ⟨0,0,0,0,0⟩
theorem stepL_take {p:Pt} {s:Int × Option Dl} {m:Ms} (h:s.1=0) (he:(evalOut m.du p.val p.qty).2=0) (hb:fndOf s=false∨(evalOut m.du p.val p.qty).1<(bestL s).amt) :
  stepL p s m=(0,some ⟨m.kind,m.id,p.qty,p.val,(evalOut m.du p.val p.qty).1⟩):=by
 obtain⟨e,o⟩:=s
 unfold stepL
 rw [if_neg (by simpa using h),if_neg (by simpa using he)]
 cases o with
 | none=>rfl
 | some b =>
  rcases hb with hb | hb
  ·cases hb
  ·simp only [bestL,Option.getD_some] at hb
   simp only []
   rw [if_pos hb]
theorem stepL_keep {p:Pt} {s:Int × Option Dl} {m:Ms} (h:s.1=0) (he:(evalOut m.du p.val p.qty).2=0) (hf:fndOf s=true) (hb:¬ (evalOut m.du p.val p.qty).1<(bestL s).amt):stepL p s m=s:=by
 obtain⟨e,o⟩:=s
 unfold stepL
 rw [if_neg (by simpa using h),if_neg (by simpa using he)]
 cases o with
 | none=>cases hf
 | some b =>
  simp only [bestL,Option.getD_some] at hb
  simp only []
  rw [if_neg hb]
theorem evalOut_bounds {d:Du} {v q:Int} (h:(evalOut d v q).2=0):0≤(evalOut d v q).1∧(evalOut d v q).1≤1000000000000:=by
 by_cases h1:duErr d=0
 ·by_cases h2:inRange v q
  ·by_cases h3:(quo18 d v q).2≠0∨1000000000000<(quo18 d v q).1
   ·rw [evalOut_over h1 h2 h3] at h;cases h
   ·rw [evalOut_ok h1 h2 h3]
    simp only [not_or,Decidable.not_not,Int.not_lt] at h3
    refine⟨?_,h3.2⟩
    have hb:=num2_bound (duErr_zero h1).1 h2
    have hp:=perOf_pos d
    have h5:0≤num2 d v q / (1000000*perOf d):=Int.ediv_nonneg hb.1 (by omega)
    show 0≤(quo18 d v q).1
    unfold quo18 divOut
    generalize num2 d v q / (1000000*perOf d)=x at h5 ⊢
    repeat' split
    all_goals (simp only [];omega)
  ·rw [evalOut_range h1 h2] at h;cases h
 ·rw [evalOut_bad h1] at h;exact absurd h h1
theorem bestOf_zero (l:List Ms) (k:Int) (x:It):bestOf l k x 0 = -1:=rfl
theorem bestOf_take {l:List Ms} {k:Int} {x:It} {i:Nat} (h:l[i]!.kind=k∧coversB l[i]! x=true∧(bestOf l k x i<0∨precB l[i]! l[(bestOf l k x i).toNat]! = true)):bestOf l k x (i+1)=(i:Int):=by
 show (if _ then _ else _)=_
 rw [if_pos h]
theorem bestOf_keep {l:List Ms} {k:Int} {x:It} {i:Nat} (h:¬ (l[i]!.kind=k∧coversB l[i]! x=true∧(bestOf l k x i<0∨precB l[i]! l[(bestOf l k x i).toNat]! = true))):bestOf l k x (i+1)=bestOf l k x i:=by
 show (if _ then _ else _)=_
 rw [if_neg h]
theorem bestOf_bounds (l:List Ms) (k:Int) (x:It) (i:Nat) : -1≤bestOf l k x i∧bestOf l k x i<(i:Int):=by
 induction i with
 | zero=>exact⟨by rw [bestOf_zero];omega,by rw [bestOf_zero];omega⟩
 | succ i ih =>
  by_cases h:l[i]!.kind=k∧coversB l[i]! x=true∧(bestOf l k x i<0∨precB l[i]! l[(bestOf l k x i).toNat]! = true)
  ·rw [bestOf_take h];omega
  ·rw [bestOf_keep h];omega
theorem appTo_none {l:List Ms} {x:It} {n:Nat} (h:bestOf l (n+1:Nat) x l.length<0):appTo l x (n+1)=appTo l x n:=by
 show appTo l x n ++ (ofKind l (n+1:Nat) x).toList=_
 unfold ofKind
 rw [if_pos h]
 simp
theorem appTo_some {l:List Ms} {x:It} {n:Nat} {b:Nat} (h:bestOf l (n+1:Nat) x l.length=(b:Int)):appTo l x (n+1)=appTo l x n ++ [l[b]!]:=by
 show appTo l x n ++ (ofKind l (n+1:Nat) x).toList=_
 unfold ofKind
 rw [h,if_neg (by omega)]
 simp
theorem appTo_len (l:List Ms) (x:It) (n:Nat):(appTo l x n).length≤n:=by
 induction n with
 | zero=>simp [appTo]
 | succ n ih =>
  show (appTo l x n ++ (ofKind l (n+1:Nat) x).toList).length≤_
  rw [List.length_append]
  have:(ofKind l (n+1:Nat) x).toList.length≤1:=by cases ofKind l (n+1:Nat) x <;> simp
  omega
end Go.Proofs.YtbokkeooahodaaaGreatDoor

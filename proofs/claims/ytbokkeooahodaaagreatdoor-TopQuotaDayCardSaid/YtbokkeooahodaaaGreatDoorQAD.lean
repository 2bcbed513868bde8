/-
  A part of the proof of TopQuotaDayCardSaid: lemmas and contracts of functions that the law calls. No statement of the seat is proved here. Conditions: as each says.
-/
import Derived.Test.YtbokkeooahodaaaGreatDoorQAB
import Derived.Test.YtbokkeooahodaaaGreatDoorQAC
import Derived.Deep.QuietTactic
import Derived.Deep.RegionWith
import Derived.StillTailTactics
import Derived.BigQuiet
import Derived.Maps.OwnOps
import Derived.WalkArith
import Derived.Maps.OwnSet
import Derived.Maps.Views
import Derived.Maps.Own
import Derived.DeepKeys4
namespace Go.Proofs.YtbokkeooahodaaaGreatDoor
open Go.RowKit
set_option linter.unusedVariables false
def allB (lo hi:Int) (xs:List Int):Bool:=xs.all fun x=>decide (lo≤x∧x≤hi)
theorem allB_bad {lo hi:Int} {xs:List Int} (k:Nat) (hk:k<xs.length) (h:¬ (lo≤xs.getD k 0∧xs.getD k 0≤hi)):allB lo hi xs=false:=by
 unfold allB
 rw [List.all_eq_false]
 refine⟨xs.getD k 0,?_,by simpa using h⟩
 rw [List.getD,List.getElem?_eq_getElem hk]
 exact List.getElem_mem hk
theorem allB_ok {lo hi:Int} {xs:List Int} (h:∀ i,i<xs.length→lo≤xs.getD i 0∧xs.getD i 0≤hi):allB lo hi xs=true:=by
 unfold allB
 rw [List.all_eq_true]
 intro x hx
 obtain⟨i,hi,rfl⟩:=List.getElem_of_mem hx
 have:=h i hi
 rw [List.getD,List.getElem?_eq_getElem hi] at this
 simpa using this
theorem allB_one (lo hi x:Int):allB lo hi [x] = decide (lo≤x∧x≤hi):=by simp [allB]
set_option maxHeartbeats 1000000 in
theorem mwithin_any (lo hi:Int) (A:Option Addr) (n c:Nat) (xs:List Int) (w:World) (h:Ints w A n xs) (hm:n≤9223372036854775807) :
  Calls Tryz.prog 202 #[.int .i64 lo,.int .i64 hi,.slice A n c] w fun e w'=>e=.returned (.bool (allB lo hi xs))∧w=w':=by
 have HL:=Lib.hid h.1
 go_enter Tryz.func202,Tryz.ntmps202
 go_wp2
 go_loop [11] (fun i=>∃ k:Nat,k≤n∧i=.int .i64 k∧Hid (∀ j,j<k→lo≤xs.getD j 0∧xs.getD j 0≤hi)) (fun i=>n - (intOf i).toNat)
 case atStart=>exact⟨0,Nat.zero_le _,rfl,fun j hj=>absurd hj (by omega)⟩
 case round =>
  obtain⟨k,hk,rfl,HA⟩:=hrel
  by_cases hlt:k<n
  ·obtain⟨b,off,x,rfl,_,hc,HX⟩:=h.get hlt
   by_cases g1:x<lo
   ·have d1:decide (x<lo)=true:=by simpa using g1
    have E:=Lib.hid (allB_bad (lo:=lo) (hi:=hi) (xs:=xs) k (by have:=HL.out;omega) (by rw [HX.out];omega))
    go_wp2
    go_ret
    exact⟨ret_bool E.out.symm,rfl⟩
   have d1:decide (x<lo)=false:=by simpa using g1
   by_cases g2:hi<x
   ·have d2:decide (hi<x)=true:=by simpa using g2
    have E:=Lib.hid (allB_bad (lo:=lo) (hi:=hi) (xs:=xs) k (by have:=HL.out;omega) (by rw [HX.out];omega))
    go_wp2
    go_ret
    exact⟨ret_bool E.out.symm,rfl⟩
   have d2:decide (hi<x)=false:=by simpa using g2
   have HA':Hid (∀ j,j<k+1→lo≤xs.getD j 0∧xs.getD j 0≤hi):=fun j hj=>by
    by_cases e:j=k
    ·subst e;rw [HX.out];omega
    ·exact HA.out j (by omega)
   go_wp2
   go_round
   case rel=>exact⟨k+1,by omega,by go_num,HA'.out⟩
   case measure=>simp [intOf];omega
  ·have E:=Lib.hid (allB_ok (lo:=lo) (hi:=hi) (xs:=xs) (fun i hi=>HA.out i (by have:=HL.out;omega)))
   go_wp2
   go_ret
   exact⟨ret_bool E.out.symm,rfl⟩
def BRes (w:World) (b:Bool) (e:Ending) (w':World):Prop:=e=.returned (.bool b)∧RowKit.Below w.heap.size w w'
theorem isAmount_any (x:Int) (w:World):Calls Tryz.prog 201 #[.int .i64 x] w (BRes w (decide (-1000000000000≤x∧x≤1000000000000))):=by
 have HC:=Lib.hid (mwithin_any (-1000000000000) 1000000000000 (some ⟨w.heap.size,0,none⟩) 1 1 [x] _ (lit_ints w 3 [x]) (by omega))
 rw [allB_one] at HC
 generalize decide (-1000000000000≤x∧x≤1000000000000)=bb at *
 go_enter Tryz.func201,Tryz.ntmps201
 go_wp2_with fail
 refine HC.out.mono ?_
 rintro e w1 ⟨rfl,rfl⟩
 go_wp2
 go_ret
 exact⟨rfl,(Below.refl _ _).alloc (Nat.le_refl _) _⟩
def scaleV (amt n:Int):Int:=if scaleErr amt n=0 then (divOut (amt*n) 1000000 2).1 else 0
def NRes (w:World) (v er:Int) (e:Ending) (w':World):Prop:=e=.returned (.tuple #[.int .i64 v,.int .i64 er])∧RowKit.Below w.heap.size w w'
set_option maxRecDepth 100000 in
set_option maxHeartbeats 4000000 in
theorem scale_any (amt n:Int) (w:World) (h0:0≤amt) (h1:amt≤1000000000000000000) (hn0:0≤n) (hn:n≤1000000000000) :
  Calls Tryz.prog 140 #[.int .i64 amt,.int .i64 n,.int .i64 1000000,.int .i64 2] w (NRes w (scaleV amt n) (scaleErr amt n)):=by
 have HA:=Lib.hid (isAmount_any amt w)
 by_cases hb:1000000000000<amt
 ·have e1:scaleErr amt n=2:=by unfold scaleErr;rw [if_pos hb]
  have e2:scaleV amt n=0:=by unfold scaleV;rw [e1,if_neg (by omega)]
  rw [e1,e2]
  rw [show decide (-1000000000000≤amt∧amt≤1000000000000)=false by simp;omega] at HA
  clear e1 e2
  go_enter Tryz.func140,Tryz.ntmps140
  go_wp2_with fail
  refine HA.out.mono ?_
  rintro e w1 ⟨rfl,hb1⟩
  go_wp2
  go_ret2
  exact⟨rfl,hb1⟩
 rw [show decide (-1000000000000≤amt∧amt≤1000000000000)=true by simp;omega] at HA
 have hp0:0≤amt*n:=Int.mul_nonneg h0 hn0
 have HW1:Hid (∀ w:World,Calls Tryz.prog 202 #[.int .i64 0,.int .i64 1000000000000,.slice (some ⟨w.heap.size,0,none⟩) 1 1] (w.alloc (.cells #[.int .i64 n] 3)) fun e w'=>e=.returned (.bool true)∧w.alloc (.cells #[.int .i64 n] 3)=w'):=fun w=>by
  have:=mwithin_any 0 1000000000000 (some ⟨w.heap.size,0,none⟩) 1 1 [n] _ (lit_ints w 3 [n]) (by omega)
  rw [allB_one,decide_eq_true ⟨hn0,hn⟩] at this
  exact this
 have HW2:Hid (∀ (w:World) (o:Obj),Calls Tryz.prog 202 #[.int .i64 1,.int .i64 1000000000000,.slice (some ⟨w.heap.size+1,0,none⟩) 1 1] ((w.alloc o).alloc (.cells #[.int .i64 1000000] 3)) fun e w'=>e=.returned (.bool true)∧(w.alloc o).alloc (.cells #[.int .i64 1000000] 3)=w'):=fun w o=>by
  have:=mwithin_any 1 1000000000000 (some ⟨w.heap.size+1,0,none⟩) 1 1 [1000000] _ ((Bl.new1 w o 3 #[.int .i64 1000000]).ints (xs:=[1000000]) (fun i hi=>by simp at hi;subst hi;rfl)) (by omega)
  rw [allB_one] at this
  exact this
 have HM:Hid (∀ w:World,Calls Tryz.prog 93 #[.int .u64 amt,.int .u64 n,.int .u64 1000000,.int .i64 2] w fun e w'=>e=.returned (.tuple #[.int .u64 (divOut (amt*n) 1000000 2).1,.int .i64 (divOut (amt*n) 1000000 2).2])∧Below w.heap.size w w'):=fun w=>mulDiv_any amt n 1000000 2 w h0 (by omega) hn0 (by omega) (by omega) (by omega)
 have hd0:=divOut_nonneg (amt*n) 1000000 2 hp0 (by omega)
 have e1:scaleErr amt n=if (divOut (amt*n) 1000000 2).2≠0∨1000000000000<(divOut (amt*n) 1000000 2).1 then 3 else 0:=by unfold scaleErr;rw [if_neg hb]
 have e2:scaleV amt n=if scaleErr amt n=0 then (divOut (amt*n) 1000000 2).1 else 0:=rfl
 have hmax:max amt (-amt)=amt:=by omega
 obtain⟨er,ee⟩:∃ er,(divOut (amt*n) 1000000 2).2=er:=⟨_,rfl⟩
 obtain⟨q,eq⟩:∃ q,(divOut (amt*n) 1000000 2).1=q:=⟨_,rfl⟩
 rw [ee,eq] at e1 HM
 rw [eq] at e2 hd0
 rw [e2,e1]
 clear e1 e2 ee eq hp0
 have dn:decide (amt<0)=false:=by simp;omega
 by_cases g1:er=0
 ·subst g1
  by_cases g2:1000000000000<q
  ·rw [if_pos (show (0:Int)≠0∨1000000000000<q by omega),if_neg (by omega)]
   have d2:decide (1000000000000<q)=true:=by simpa using g2
   go_enter Tryz.func140,Tryz.ntmps140
   go_wp2_with fail
   refine HA.out.mono ?_
   rintro e w1 ⟨rfl,hb1⟩
   go_wp2_with fail
   refine (HW1.out _).mono ?_
   rintro e w2 ⟨rfl,rfl⟩
   go_wp2_with fail
   refine (HW2.out _ _).mono ?_
   rintro e w3 ⟨rfl,rfl⟩
   go_wp2_with fail
   refine (HM.out _).mono ?_
   rintro e w4 ⟨rfl,hb4⟩
   go_wp2
   go_ret2
   exact⟨rfl,((hb1.alloc hb1.size _).alloc (by simp;have:=hb1.size;omega) _).trans (hb4.mono (by simp;have:=hb1.size;omega))⟩
  ·rw [if_neg (show ¬ ((0:Int)≠0∨1000000000000<q) by omega),if_pos rfl]
   have d2:decide (1000000000000<q)=false:=by simpa using g2
   go_enter Tryz.func140,Tryz.ntmps140
   go_wp2_with fail
   refine HA.out.mono ?_
   rintro e w1 ⟨rfl,hb1⟩
   go_wp2_with fail
   refine (HW1.out _).mono ?_
   rintro e w2 ⟨rfl,rfl⟩
   go_wp2_with fail
   refine (HW2.out _ _).mono ?_
   rintro e w3 ⟨rfl,rfl⟩
   go_wp2_with fail
   refine (HM.out _).mono ?_
   rintro e w4 ⟨rfl,hb4⟩
   go_wp2
   go_ret2
   exact⟨rfl,((hb1.alloc hb1.size _).alloc (by simp;have:=hb1.size;omega) _).trans (hb4.mono (by simp;have:=hb1.size;omega))⟩
 ·rw [if_pos (show er≠0∨1000000000000<q from .inl g1),if_neg (by omega)]
  have b1:(er != 0)=true:=by simpa using g1
  go_enter Tryz.func140,Tryz.ntmps140
  go_wp2_with fail
  refine HA.out.mono ?_
  rintro e w1 ⟨rfl,hb1⟩
  go_wp2_with fail
  refine (HW1.out _).mono ?_
  rintro e w2 ⟨rfl,rfl⟩
  go_wp2_with fail
  refine (HW2.out _ _).mono ?_
  rintro e w3 ⟨rfl,rfl⟩
  go_wp2_with fail
  refine (HM.out _).mono ?_
  rintro e w4 ⟨rfl,hb4⟩
  go_wp2
  go_ret2
  exact⟨rfl,((hb1.alloc hb1.size _).alloc (by simp;have:=hb1.size;omega) _).trans (hb4.mono (by simp;have:=hb1.size;omega))⟩
set_option maxHeartbeats 1000000 in
theorem iscur_any (s:ByteArray) (w:World) (hs:s.size≤9223372036854775807) :
  Calls Tryz.prog 231 #[.string s] w fun e w'=>e=.returned (.bool (curB s.toList))∧w=w':=by
 by_cases h3:s.size=3
 ·go_enter Tryz.func231,Tryz.ntmps231
  go_wp2
  have H3:=Lib.hid h3
  clear h3
  go_loop [9] (fun i=>∃ k:Nat,k≤3∧i=.int .i64 k∧Hid (∀ j (hj:j<s.size),j<k→65≤s[j].toNat∧s[j].toNat≤90)) (fun i=>3 - (intOf i).toNat)
  case atStart=>exact⟨0,Nat.zero_le _,rfl,fun j _ hj=>absurd hj (by omega)⟩
  case round =>
   obtain⟨k,hk,rfl,HA⟩:=hrel
   by_cases hlt:k<3
   ·have hks:k<s.size:=by have:=H3.out;omega
    by_cases g1:(s[k].toNat:Int)<65
    ·have E:=Lib.hid (curB_byte (s:=s) k hks (by omega))
     go_wp2
     go_ret
     exact⟨ret_bool E.out.symm,rfl⟩
    by_cases g2:90<(s[k].toNat:Int)
    ·have E:=Lib.hid (curB_byte (s:=s) k hks (by omega))
     go_wp2
     go_ret
     exact⟨ret_bool E.out.symm,rfl⟩
    have HA':Hid (∀ j (hj:j<s.size),j<k+1→65≤s[j].toNat∧s[j].toNat≤90):=fun j hj hjk=>by
     by_cases e:j=k
     ·subst e;omega
     ·exact HA.out j hj (by omega)
    go_wp2
    go_round
    case rel=>exact⟨k+1,by omega,by go_num,HA'.out⟩
    case measure=>simp [intOf];omega
   ·have E:=Lib.hid (curB_true (s:=s) H3.out (fun i hi=>HA.out i hi (by have:=H3.out;omega)))
    go_wp2
    go_ret
    exact⟨ret_bool E.out.symm,rfl⟩
 ·have E:=Lib.hid (curB_size h3)
  go_enter Tryz.func231,Tryz.ntmps231
  go_wp2
  go_ret
  exact⟨ret_bool E.out.symm,rfl⟩
set_option maxHeartbeats 1000000 in
theorem before_any (a b:Exch) (w:World) :
  Calls Tryz.prog 232 #[.agg #[.string a.cur,.int .i64 a.day,.int .i64 a.per],.agg #[.string b.cur,.int .i64 b.day,.int .i64 b.per]] w (BRes w (befB a b)):=by
 obtain⟨ac,ad,ap⟩:=a
 obtain⟨bc,bd,bp⟩:=b
 cases hc:(ac.toList == bc.toList) with
 | true =>
  have E:befB ⟨ac,ad,ap⟩ ⟨bc,bd,bp⟩=decide (ad<bd):=by unfold befB;rw [if_pos hc]
  rw [E]
  clear E
  go_enter Tryz.func232,Tryz.ntmps232
  go_wp2
  go_ret
  exact⟨rfl,((Below.refl _ _).alloc (Nat.le_refl _) _).alloc (by simp) _⟩
 | false =>
  have E:befB ⟨ac,ad,ap⟩ ⟨bc,bd,bp⟩=Op.bytesLess ac.toList bc.toList:=by unfold befB;rw [if_neg (by rw [hc];simp)]
  rw [E]
  clear E
  go_enter Tryz.func232,Tryz.ntmps232
  go_wp2
  go_ret
  exact⟨rfl,((Below.refl _ _).alloc (Nat.le_refl _) _).alloc (by simp) _⟩
def VRes (w:World) (er:Int) (e:Ending) (w':World):Prop:=e=.returned (.int .i64 er)∧RowKit.Below w.heap.size w w'
def ExSz (xs:List Exch):Prop:=∀ i,i<xs.length→xs[i]!.cur.size≤9223372036854775807
theorem tabErr_long {xs:List Exch} (h:1000<xs.length):tabErr xs=8:=by unfold tabErr;rw [if_pos h]
theorem tabErr_at {xs:List Exch} (h:xs.length≤1000) (k:Nat) (hk:k<xs.length) (h0:∀ i,i<k→rowErr xs i=0) {er:Int} (he:rowErr xs k=er) (hn:er≠0):tabErr xs=er:=by
 unfold tabErr;rw [if_neg (by omega),firstErr_at h0 (by rw [he];exact hn) _ hk,he]
theorem tabErr_ok {xs:List Exch} (h:xs.length≤1000) (h0:∀ i,i<xs.length→rowErr xs i=0):tabErr xs=0:=by
 unfold tabErr;rw [if_neg (by omega),firstErr_zero h0]
theorem rowErr_1 {xs:List Exch} {i:Nat} {x:Exch} (e:xs[i]! = x) (h:curB x.cur.toList=false∨(x.cur.toList == eur)=true):rowErr xs i=1:=by
 unfold rowErr;rw [e,if_pos h]
theorem rowErr_2 {xs:List Exch} {i:Nat} {x:Exch} (e:xs[i]! = x) (h1:curB x.cur.toList=true) (h2:(x.cur.toList == eur)=false) (h:x.day<0∨36524<x.day∨x.per<1∨1000000000<x.per):rowErr xs i=2:=by
 unfold rowErr;rw [e,if_neg (by simp [h1,h2]),if_pos h]
theorem rowErr_9 {xs:List Exch} {i:Nat} {x:Exch} (e:xs[i]! = x) (h1:curB x.cur.toList=true) (h2:(x.cur.toList == eur)=false) (h:¬ (x.day<0∨36524<x.day∨x.per<1∨1000000000<x.per)) (hi:0<i) (h3:befB xs[i - 1]! x=false):rowErr xs i=9:=by
 unfold rowErr;rw [e,if_neg (by simp [h1,h2]),if_neg h,if_pos ⟨hi,h3⟩]
theorem rowErr_0 {xs:List Exch} {i:Nat} {x:Exch} (e:xs[i]! = x) (h1:curB x.cur.toList=true) (h2:(x.cur.toList == eur)=false) (h:¬ (x.day<0∨36524<x.day∨x.per<1∨1000000000<x.per)) (h3:0<i→befB xs[i - 1]! x=true):rowErr xs i=0:=by
 unfold rowErr;rw [e,if_neg (by simp [h1,h2]),if_neg h,if_neg (fun hx=>by have:=h3 hx.1;rw [hx.2] at this;cases this)]
set_option maxRecDepth 100000 in
set_option maxHeartbeats 4000000 in
theorem cvalidate_any (A:Option Addr) (n c:Nat) (xs:List Exch) (w:World) (h:Recs encX 3 w A n xs) (hm:n≤9223372036854775807) (hz:ExSz xs) :
  Calls Tryz.prog 199 #[.slice A n c] w (VRes w (tabErr xs)):=by
 have HL:=Lib.hid h.1
 have HZ:=Lib.hid hz
 clear hz
 by_cases hl:1000<n
 ·have E:=Lib.hid (tabErr_long (xs:=xs) (by have:=HL.out;omega))
  go_enter Tryz.func199,Tryz.ntmps199
  go_wp2
  go_ret
  exact⟨ret_int' E.out.symm,Below.refl _ _⟩
 go_enter Tryz.func199,Tryz.ntmps199
 go_wp2
 go_loopw [10] (fun i wr=>∃ k:Nat,k≤n∧i=.int .i64 k∧Hid (∀ i,i<k→rowErr xs i=0)∧RowKit.Below w.heap.size w wr) (fun i _=>n - (intOf i).toNat)
 case atStart=>exact⟨0,Nat.zero_le _,rfl,fun i hi=>absurd hi (by omega),Below.refl _ _⟩
 case round =>
  obtain⟨k,hk,rfl,HA,hbel⟩:=hrel
  by_cases hlt:k<n
  ·obtain⟨b,off,cu,dy,pe,rfl,hbl,hc1,hc2,hc3,HX⟩:=(h.below hbel).getX hlt
   have hsz:cu.size≤9223372036854775807:=by have:=HZ.out k (by have:=HL.out;omega);rw [HX.out] at this;exact this
   have hws:=hbel.size
   have HB1:=Lib.hid (hbel.alloc hbel.size (.cells #[.string cu,.int .i64 dy,.int .i64 pe] 318))
   have HI:=Lib.hid (fun w=>iscur_any cu w hsz)
   have HT:Hid (∀ er:Int,rowErr xs k=er→er≠0→tabErr xs=er):=fun er he hn=>tabErr_at (by have:=HL.out;omega) k (by have:=HL.out;omega) HA.out he hn
   have HR1:=Lib.hid (rowErr_1 (i:=k) HX.out)
   have HR2:=Lib.hid (rowErr_2 (i:=k) HX.out)
   have HR9:=Lib.hid (rowErr_9 (i:=k) HX.out)
   have HR0:=Lib.hid (rowErr_0 (i:=k) HX.out)
   cases hq:curB cu.toList with
   | false =>
    have E:=Lib.hid (HT.out 1 (HR1.out (.inl hq)) (by omega))
    go_wp2_with fail
    refine (HI.out _).mono ?_
    rintro e w1 ⟨rfl,rfl⟩
    rw [hq]
    clear hq
    go_wp2
    go_ret
    exact⟨ret_int' E.out.symm,HB1.out⟩
   | true =>
   cases he:(cu.toList == eur) with
   | true =>
    have E:=Lib.hid (HT.out 1 (HR1.out (.inr he)) (by omega))
    have he2:(cu.toList == [69,85,82])=true:=he
    go_wp2_with fail
    refine (HI.out _).mono ?_
    rintro e w1 ⟨rfl,rfl⟩
    rw [hq]
    clear hq
    go_wp2
    go_ret
    exact⟨ret_int' E.out.symm,HB1.out⟩
   | false =>
   have HQ:=Lib.hid hq
   have HE:=Lib.hid he
   have he2:(cu.toList == [69,85,82])=false:=he
   clear hq he
   by_cases g1:dy<0
   ·have d1:decide (dy<0)=true:=by simpa using g1
    have E:=Lib.hid (HT.out 2 (HR2.out HQ.out HE.out (by show dy<0∨36524<dy∨pe<1∨1000000000<pe;omega)) (by omega))
    go_wp2_with fail
    refine (HI.out _).mono ?_
    rintro e w1 ⟨rfl,rfl⟩
    rw [HQ.out]
    go_wp2
    go_ret
    exact⟨ret_int' E.out.symm,HB1.out⟩
   have d1:decide (dy<0)=false:=by simpa using g1
   by_cases g2:36524<dy
   ·have d2:decide (36524<dy)=true:=by simpa using g2
    have E:=Lib.hid (HT.out 2 (HR2.out HQ.out HE.out (by show dy<0∨36524<dy∨pe<1∨1000000000<pe;omega)) (by omega))
    go_wp2_with fail
    refine (HI.out _).mono ?_
    rintro e w1 ⟨rfl,rfl⟩
    rw [HQ.out]
    go_wp2
    go_ret
    exact⟨ret_int' E.out.symm,HB1.out⟩
   have d2:decide (36524<dy)=false:=by simpa using g2
   by_cases g3:pe<1
   ·have d3:decide (pe<1)=true:=by simpa using g3
    have E:=Lib.hid (HT.out 2 (HR2.out HQ.out HE.out (by show dy<0∨36524<dy∨pe<1∨1000000000<pe;omega)) (by omega))
    go_wp2_with fail
    refine (HI.out _).mono ?_
    rintro e w1 ⟨rfl,rfl⟩
    rw [HQ.out]
    go_wp2
    go_ret
    exact⟨ret_int' E.out.symm,HB1.out⟩
   have d3:decide (pe<1)=false:=by simpa using g3
   by_cases g4:1000000000<pe
   ·have d4:decide (1000000000<pe)=true:=by simpa using g4
    have E:=Lib.hid (HT.out 2 (HR2.out HQ.out HE.out (by show dy<0∨36524<dy∨pe<1∨1000000000<pe;omega)) (by omega))
    go_wp2_with fail
    refine (HI.out _).mono ?_
    rintro e w1 ⟨rfl,rfl⟩
    rw [HQ.out]
    go_wp2
    go_ret
    exact⟨ret_int' E.out.symm,HB1.out⟩
   have d4:decide (1000000000<pe)=false:=by simpa using g4
   have HG:Hid (¬ (dy<0∨36524<dy∨pe<1∨1000000000<pe)):=by show ¬ _;omega
   have HA':Hid (rowErr xs k=0→∀ i,i<k+1→rowErr xs i=0):=fun h0 i hi=>by
    by_cases e:i=k
    ·subst e;exact h0
    ·exact HA.out i (by omega)
   by_cases hk0:0<k
   ·obtain⟨b',off',cu0,dy0,pe0,hA,_,k1,k2,k3,HX0⟩:=(h.below hbel).getX (show k - 1<n by omega)
    obtain⟨rfl,rfl⟩:b=b'∧off=off':=by simpa using hA
    clear hA
    obtain⟨r,hr⟩:∃ r:Nat,k=r+1:=⟨k - 1,by omega⟩
    subst hr
    simp only [Nat.add_sub_cancel] at k1 k2 k3 HX0
    have HBE:=Lib.hid (fun w=>before_any ⟨cu0,dy0,pe0⟩ ⟨cu,dy,pe⟩ w)
    have i1:(0:Int)≤(r:Int):=by omega
    have i2:(r:Int)<(n:Int):=by omega
    have d5:decide (0<(r:Int)+1)=true:=by simp
    have u1:IntKind.i64.wrap ((r:Int)+1 - 1)=(r:Int):=(IntWalk.i64_in _ (by omega)).trans (by omega)
    have u2:IntKind.i64.wrap (r:Int)=(r:Int):=IntWalk.i64_in _ (by omega)
    go_wp2_with fail
    refine (HI.out _).mono ?_
    rintro e w1 ⟨rfl,rfl⟩
    rw [HQ.out]
    go_wp2
    have HBl:=Bl.new wr 318 #[.string cu,.int .i64 dy,.int .i64 pe]
    have q0:(wr.alloc (.cells #[.string cu,.int .i64 dy,.int .i64 pe] 318)).cell? ⟨wr.heap.size,0,none⟩=some (.string cu):=HBl.cell 0
    have q1:(wr.alloc (.cells #[.string cu,.int .i64 dy,.int .i64 pe] 318)).cell? ⟨wr.heap.size,1,none⟩=some (.int .i64 dy):=HBl.cell 1
    have q2:(wr.alloc (.cells #[.string cu,.int .i64 dy,.int .i64 pe] 318)).cell? ⟨wr.heap.size,2,none⟩=some (.int .i64 pe):=HBl.cell 2
    have hal:RowKit.Below wr.heap.size wr (wr.alloc (.cells #[.string cu,.int .i64 dy,.int .i64 pe] 318)):=(Below.refl _ _).alloc (Nat.le_refl _) _
    have k1':=(hal.cell (p:=⟨b,off+r*3,none⟩) hbl).trans k1
    have k2':=(hal.cell (p:=⟨b,off+r*3+1,none⟩) hbl).trans k2
    have k3':=(hal.cell (p:=⟨b,off+r*3+2,none⟩) hbl).trans k3
    clear k1 k2 k3 hc1 hc2 hc3 hal HBl
    generalize wr.alloc (.cells #[.string cu,.int .i64 dy,.int .i64 pe] 318)=W at *
    have HBd:=Lib.hid HB1.out.drew
    go_still_tail 9,(by kernel_rfl)
    change wpList _ _ _ _ _ W.drew
    generalize W.drew=wd at *
    go_wp2_with fail
    refine (HBE.out _).mono ?_
    rintro e w2 ⟨rfl,hb2⟩
    have HB3:=Lib.hid (HBd.out.trans (hb2.mono HBd.out.size))
    cases hbb:befB ⟨cu0,dy0,pe0⟩ ⟨cu,dy,pe⟩ with
    | true =>
     have HA2:=Lib.hid (HA'.out (HR0.out HQ.out HE.out HG.out (fun _=>by rw [Nat.add_sub_cancel,HX0.out];exact hbb)))
     clear hbb
     go_wp2
     go_roundw
     case rel=>exact⟨r+1+1,by omega,by go_num,HA2.out,HB3.out⟩
     case measure=>simp [intOf];omega
    | false =>
     have E:=Lib.hid (HT.out 9 (HR9.out HQ.out HE.out HG.out hk0 (by rw [Nat.add_sub_cancel,HX0.out];exact hbb)) (by omega))
     clear hbb
     go_wp2
     go_ret
     exact⟨ret_int' E.out.symm,HB3.out⟩
   ·have d5:decide ((0:Int)<(k:Int))=false:=by simp;omega
    have HA2:=Lib.hid (HA'.out (HR0.out HQ.out HE.out HG.out (fun h=>absurd h (by omega))))
    go_wp2_with fail
    refine (HI.out _).mono ?_
    rintro e w1 ⟨rfl,rfl⟩
    rw [HQ.out]
    go_wp2
    go_quiet (fail)
    go_wp2
    go_roundw
    case rel=>exact⟨k+1,by omega,by go_num,HA2.out,below_drewN HB1.out _⟩
    case measure=>simp [intOf];omega
  ·have E:=Lib.hid (tabErr_ok (xs:=xs) (by have:=HL.out;omega) (fun i hi=>HA.out i (by have:=HL.out;omega)))
   go_wp2
   go_ret
   exact⟨ret_int' E.out.symm,hbel⟩
end Go.Proofs.YtbokkeooahodaaaGreatDoor
namespace Go.Proofs.YtbokkeooahodaaaGreatDoor
open Go.RowKit Go.WideMaps Go.Maps
set_option linter.unusedVariables false
theorem wpList_insert_own {H:Type} {P:Program} (w:World) {ops:Array Oper} {rest:List Oper} {o:Oper} {a:Act} {Q:Exit→Act→World→Prop}
  (hg:o.guard=none) (m x v:Operand) (t:TypeId) (hop:o.op=Op.insert t m x v)
  (k e:TypeId) (K:Keyed P k) (ht:P.underlying t=some (.map k e)) (R:Value→Option (DataW H × List MemPlace)) (b n:Nat) (D:DataW H)
  (hm:a.eval m=.map (some b)) (hown:w.ownsMap P k R b n D) (hn:n<maxLen) (key val:Value) (kl:Lit) (hx:a.eval x=key) (hv:a.eval v=val) (hkey:keyOf P k key=some kl)
  (d:DataW H) (ps:List MemPlace) (hval:R val=some (d,ps))
  (hK:∀ w',w'.ownsMap P k R b (n+1) (D.put kl d)→w.grownBy w' (some b)→wpList P ops Q rest (a.put o.dst undef) w') :
  wpList P ops Q (o :: rest) a w:=by
 refine wpList_plain hg fun K' hK'=>?_
 obtain⟨w',hrun,r1,r2⟩:=hown.update K ht hn hkey hval
 unfold Oper.wp
 simp [execOp,hop,hm,hx,hv,hrun,Result.andThen]
 exact hK' _ _ (hK w' r1 r2)
theorem klaw:Keyed Tryz.prog 9:=string_keyed Tryz.underlying9
theorem zeroI (w:World):(zeroValue 3).run Tryz.prog w=.ok (.int .i64 0) w:=by kernel_rfl
def rateV (xs:List Exch) (day:Int) (k:Nat) (c:List UInt8):Int:=if c=eur then 1000000 else rateTo xs c day k
def RMap (xs:List Exch) (day:Int) (k:Nat) (D:DataW Unit):Prop:=∀ c z,D.atKey (.string c) z=if rateV xs day k c=0 then z else .lit (.int .i64 (rateV xs day k c))
theorem RMap.start (xs:List Exch) (day:Int) {D:DataW Unit} (hD:IsMap D) (h0:∀ c z,D.atKey (.string c) z=z):RMap xs day 0 (D.put (.string eur) (.lit (.int .i64 1000000))):=fun c z=>by
 unfold rateV
 by_cases e:c=eur
 ·subst e
  rw [if_pos rfl,if_neg (by omega),atKey_put_same hD (show WideAt.IsKeyLit (.string _) from trivial)]
 ·rw [if_neg e,rateTo,if_pos rfl,atKey_put_other (fun x=>e (by injection x)),h0]
theorem RMap.skip {xs:List Exch} {day:Int} {k:Nat} {D:DataW Unit} (h:RMap xs day k D) (hd:¬ xs[k]!.day≤day):RMap xs day (k+1) D:=fun c z=>by
 rw [h c z]
 have e:rateV xs day (k+1) c=rateV xs day k c:=by
  unfold rateV
  split
  ·rfl
  ·rw [rateTo,if_neg (fun x=>hd x.2)]
 rw [e]
theorem RMap.put {xs:List Exch} {day:Int} {k:Nat} {D:DataW Unit} (h:RMap xs day k D) (hD:IsMap D) (hd:xs[k]!.day≤day) (he:(xs[k]!.cur.toList == eur)=false) (hp:1≤xs[k]!.per):RMap xs day (k+1) (D.put (.string xs[k]!.cur.data.toList) (.lit (.int .i64 xs[k]!.per))):=fun c z=>by
 have he':¬ xs[k]!.cur.data.toList=eur:=by rw [← ByteArray.toList_eq];simpa using he
 by_cases e:c=xs[k]!.cur.data.toList
 ·subst e
  have e1:rateV xs day (k+1) xs[k]!.cur.data.toList=xs[k]!.per:=by
   unfold rateV
   rw [if_neg he',rateTo,if_pos ⟨by rw [ByteArray.toList_eq];simp,hd⟩]
  rw [e1,if_neg (by omega),atKey_put_same hD (show WideAt.IsKeyLit (.string _) from trivial)]
 ·rw [atKey_put_other (fun x=>e (by injection x)),h c z]
  have e1:rateV xs day (k+1) c=rateV xs day k c:=by
   unfold rateV
   split
   ·rfl
   ·rw [rateTo,if_neg (fun x=>e (by have:=x.1;rw [ByteArray.toList_eq] at this;exact (eq_of_beq this).symm))]
  rw [e1]
def MapRes (w:World) (xs:List Exch) (day:Int) (e:Ending) (w':World):Prop :=
 ∃ (B n:Nat) (D:DataW Unit),e=.returned (.map (some B))∧w'.ownsMap Tryz.prog 9 (plainElem Tryz.prog 3) B n D∧RMap xs day xs.length D∧RowKit.Below w.heap.size w w'
theorem rowErr_facts {xs:List Exch} {i:Nat} (h:rowErr xs i=0):curB xs[i]!.cur.toList=true∧(xs[i]!.cur.toList == eur)=false∧0≤xs[i]!.day∧xs[i]!.day≤36524∧1≤xs[i]!.per∧xs[i]!.per≤1000000000:=by
 unfold rowErr at h
 split at h
 ·omega
 ·rename_i h1
  split at h
  ·omega
  ·rename_i h2
   refine⟨?_,?_,by omega,by omega,by omega,by omega⟩
   ·cases hq:curB xs[i]!.cur.toList with
    | true=>rfl
    | false=>exact absurd (.inl hq) h1
   ·cases hq:(xs[i]!.cur.toList == eur) with
    | false=>rfl
    | true=>exact absurd (.inr hq) h1
set_option maxRecDepth 100000 in
set_option maxHeartbeats 4000000 in
theorem ratesOn_any (A:Option Addr) (n c:Nat) (xs:List Exch) (day:Int) (w:World) (h:Recs encX 3 w A n xs) (hn:n≤1000) (hz:ExSz xs) (hv:∀ i,i<xs.length→rowErr xs i=0) :
  Calls Tryz.prog 200 #[.slice A n c,.int .i64 day] w (MapRes w xs day):=by
 have HL:=Lib.hid h.1
 have HZ:=Lib.hid hz
 have HV:=Lib.hid hv
 clear hz hv
 have hmm:=@run_makeMap Tryz.prog
 have HKE:Hid (keyOf Tryz.prog 9 (.string ⟨#[69,85,82]⟩)=some (.string eur)):=keyOf_string_mk Tryz.underlying9 (by unfold maxLen;decide)
 go_enter Tryz.func200,Tryz.ntmps200
 go_wp2_with (refine wpList_insert_own _ rfl (.tmp 8) (.const (.string ⟨#[69,85,82]⟩)) (.const (.int .i64 1000000)) 290 rfl 9 3 klaw Tryz.underlying290 (plainElem (H:=Unit) Tryz.prog 3) w.heap.size 0 (.map []) rfl (World.ownsMap_made _ _ _ _) (by unfold maxLen;omega) _ _ _ rfl rfl HKE.out _ [] (plainElem_int Tryz.underlying3 (by decide)) ?_;intro w1 hown1 hgrow1)
 have hb1:RowKit.Below w.heap.size w w1:=((Below.refl _ _).alloc (Nat.le_refl _) _).grown hgrow1 (by simp) (fun j hj=>by cases hj;exact Nat.le_refl _)
 have HM1:Hid (RMap xs day 0 (DataW.put (.map []) (.string eur) (.lit (.int .i64 1000000)))):=RMap.start xs day ⟨_,rfl⟩ (fun c z=>rfl)
 clear hgrow1 HKE hmm
 go_loopw [12] (fun i wr=>∃ (k:Nat) (D:DataW Unit),k≤n∧i=.int .i64 k∧wr.ownsMap Tryz.prog 9 (plainElem Tryz.prog 3) w.heap.size (k+1) D∧Hid (RMap xs day k D)∧RowKit.Below w.heap.size w wr) (fun i _=>n - (intOf i).toNat)
 case atStart=>exact⟨0,_,Nat.zero_le _,rfl,hown1,HM1.out,hb1⟩
 case round =>
  clear HM1 hb1 hown1
  obtain⟨k,D,hk,rfl,hown,HM,hbel⟩:=hrel
  by_cases hlt:k<n
  ·obtain⟨b,off,cu,dy,pe,rfl,hbl,hc1,hc2,hc3,HX⟩:=(h.below hbel).getX hlt
   have hws:=hbel.size
   have HSZ:=Lib.hid (HZ.out k (by have:=HL.out;omega))
   have HF:=Lib.hid (rowErr_facts (HV.out k (by have:=HL.out;omega)))
   rw [HX.out] at HSZ HF
   by_cases hd:dy≤day
   ·have hkey:keyOf Tryz.prog 9 (.string cu)=some (.string cu.data.toList):=keyOf_string_mk Tryz.underlying9 (by unfold maxLen;exact HSZ.out)
    have HK:=Lib.hid hkey
    have HO:=Lib.hid (hown.alloc (.cells #[.string cu,.int .i64 dy,.int .i64 pe] 318))
    have HP:Hid (RMap xs day (k+1) (D.put (.string cu.data.toList) (.lit (.int .i64 pe)))):=by
     have:=HM.out.put hown.isMap (by rw [HX.out];exact hd) (by rw [HX.out];exact HF.out.2.1) (by rw [HX.out];exact HF.out.2.2.2.2.1)
     rw [HX.out] at this
     exact this
    have HW:Hid ((Lit.int .i64 pe).wf=true):=Go.WalkArith.wf_i64 ⟨Int.le_trans (by omega) HF.out.2.2.2.2.1,Int.le_trans HF.out.2.2.2.2.2 (by omega)⟩
    clear hkey hown HM
    go_wp2_with (at_mapUpdate;refine wpList_mapUpdate_own _ rfl _ _ _ 290 rfl 9 3 klaw Tryz.underlying290 _ w.heap.size (k+1) _ rfl HO.out (by unfold maxLen;omega) _ _ _ rfl rfl HK.out _ [] (plainElem_int Tryz.underlying3 HW.out) ?_;intro w2 hown2 hgrow2)
    go_roundw
    case rel=>exact⟨k+1,_,by omega,by go_num,hown2,HP.out,(hbel.alloc hws _).grown hgrow2 (by simp;omega) (fun j hj=>by cases hj;exact Nat.le_refl _)⟩
    case measure=>simp [intOf];omega
   ·have HP:=Lib.hid (HM.out.skip (by rw [HX.out];exact hd))
    go_wp2
    go_roundw
    case rel=>exact⟨k+1,D,by omega,by go_num,(hown.alloc _).mono (by omega),HP.out,hbel.alloc hws _⟩
    case measure=>simp [intOf];omega
  ·obtain rfl:k=n:=by omega
   go_wp2
   go_ret
   exact⟨_,_,D,rfl,hown,by rw [HL.out];exact HM.out,hbel⟩
set_option maxRecDepth 100000 in
set_option maxHeartbeats 4000000 in
theorem at_any (A:Option Addr) (n c:Nat) (xs:List Exch) (cu:ByteArray) (day:Int) (w:World) (h:Recs encX 3 w A n xs) (hm:n≤9223372036854775807) (hz:ExSz xs) (hcu:cu.size≤9223372036854775807) :
  Calls Tryz.prog 139 #[.slice A n c,.string cu,.int .i64 day] w (NRes w (if atErr xs cu.toList day=0 then rateOf xs cu.toList day else 0) (atErr xs cu.toList day)):=by
 have HV:=Lib.hid (cvalidate_any A n c xs w h hm hz)
 by_cases ht:tabErr xs=0
 ·rw [ht] at HV
  have hl:=h.1
  obtain⟨t1,t2⟩:=tabErr_zero ht
  have HR:=Lib.hid (fun w' hw=>ratesOn_any A n c xs day w' (h.below hw) (by omega) hz t2)
  have HKE:Hid (keyOf Tryz.prog 9 (.string cu)=some (.string cu.data.toList)):=keyOf_string_mk Tryz.underlying9 (by unfold maxLen;omega)
  have e0:atErr xs cu.toList day=if day<0∨36524<day then 2 else if rateOf xs cu.toList day=0 then 6 else 0:=by unfold atErr;rw [if_neg (by omega)]
  have e1:rateOf xs cu.toList day=rateV xs day xs.length cu.data.toList:=by unfold rateOf rateV;rw [ByteArray.toList_eq]
  rw [e1] at e0 ⊢
  clear hl t1 t2 e1 ht hz
  by_cases g1:day<0
  ·rw [if_pos (show day<0∨36524<day from .inl g1)] at e0
   rw [e0,if_neg (by omega)]
   clear e0
   have d1:decide (day<0)=true:=by simpa using g1
   go_enter Tryz.func139,Tryz.ntmps139
   go_wp2_with fail
   refine HV.out.mono ?_
   rintro e w1 ⟨rfl,hb1⟩
   go_wp2
   go_ret2
   exact⟨rfl,hb1⟩
  have d1:decide (day<0)=false:=by simpa using g1
  by_cases g2:36524<day
  ·rw [if_pos (show day<0∨36524<day from .inr g2)] at e0
   rw [e0,if_neg (by omega)]
   clear e0
   have d2:decide (36524<day)=true:=by simpa using g2
   go_enter Tryz.func139,Tryz.ntmps139
   go_wp2_with fail
   refine HV.out.mono ?_
   rintro e w1 ⟨rfl,hb1⟩
   go_wp2
   go_ret2
   exact⟨rfl,hb1⟩
  have d2:decide (36524<day)=false:=by simpa using g2
  rw [if_neg (show ¬ (day<0∨36524<day) by omega)] at e0
  obtain⟨rv,hrv⟩:∃ rv,rateV xs day xs.length cu.data.toList=rv:=⟨_,rfl⟩
  rw [hrv] at e0 ⊢
  have HRV:=Lib.hid hrv
  clear hrv
  by_cases g3:rv=0
  ·rw [if_pos g3] at e0
   rw [e0,if_neg (by omega)]
   have G3:=Lib.hid g3
   clear e0 g3
   go_enter Tryz.func139,Tryz.ntmps139
   go_wp2_with fail
   refine HV.out.mono ?_
   rintro e w1 ⟨rfl,hb1⟩
   go_wp2_with fail
   refine (HR.out _ hb1).mono ?_
   rintro e w2 ⟨B,m,D,rfl,hown,HMM,hb2⟩
   have hb:=hb1.trans (hb2.mono hb1.size)
   have HH:Hid (Maps.has D (.string cu.data.toList)=false):=has_false_of_atKey fun z=>by rw [HMM,HRV.out,if_pos G3.out]
   clear HMM
   go_wp2_with (at_lookup;refine wpList_lookup_own_ok_int _ rfl _ _ 290 rfl 9 3 .i64 klaw Tryz.underlying290 Tryz.underlying3 (zeroI _) B m D rfl hown _ _ rfl HKE.out ?_;intro c hat hwc;rw [HH.out])
   go_ret2
   exact⟨rfl,hb⟩
  ·rw [if_neg g3] at e0
   rw [e0,if_pos rfl]
   have G3:=Lib.hid g3
   clear e0 g3
   go_enter Tryz.func139,Tryz.ntmps139
   go_wp2_with fail
   refine HV.out.mono ?_
   rintro e w1 ⟨rfl,hb1⟩
   go_wp2_with fail
   refine (HR.out _ hb1).mono ?_
   rintro e w2 ⟨B,m,D,rfl,hown,HMM,hb2⟩
   have hb:=hb1.trans (hb2.mono hb1.size)
   have hat:∀ z,D.atKey (.string cu.data.toList) z=.lit (.int .i64 rv):=fun z=>by rw [HMM,HRV.out,if_neg G3.out]
   have HH:Hid (Maps.has D (.string cu.data.toList)=true):=has_true_of_atKey hat
   have HC:Hid (∀ c:Int,D.atKey (.string cu.data.toList) (.lit (.int .i64 0))=.lit (.int .i64 c)→c=rv):=fun c hc=>by
    rw [hat] at hc
    injection hc with hc
    injection hc with _ hc
    exact hc.symm
   clear hat HMM
   go_wp2_with (at_lookup;refine wpList_lookup_own_ok_int _ rfl _ _ 290 rfl 9 3 .i64 klaw Tryz.underlying290 Tryz.underlying3 (zeroI _) B m D rfl hown _ _ rfl HKE.out ?_;intro c hat hwc;rw [HH.out];obtain rfl:=HC.out c hat;clear hat)
   go_ret2
   exact⟨rfl,hb⟩
 ·have e0:atErr xs cu.toList day=tabErr xs:=by unfold atErr;rw [if_pos ht]
  rw [e0,if_neg ht]
  have b1:(tabErr xs != 0)=true:=by simpa using ht
  clear e0 ht
  generalize tabErr xs=er at *
  go_enter Tryz.func139,Tryz.ntmps139
  go_wp2_with fail
  refine HV.out.mono ?_
  rintro e w1 ⟨rfl,hb1⟩
  go_wp2
  go_ret2
  exact⟨rfl,hb1⟩
set_option maxHeartbeats 1000000 in
theorem convert_any (A:Option Addr) (n c:Nat) (xs:List Exch) (amt:Int) (cu:ByteArray) (day:Int) (w:World) (h:Recs encX 3 w A n xs) (hm:n≤9223372036854775807) (hz:ExSz xs) (hcu:cu.size≤9223372036854775807) (h0:0≤amt) (h1:amt≤1000000000000000000) :
  Calls Tryz.prog 69 #[.slice A n c,.int .i64 amt,.string cu,.int .i64 day,.int .i64 2] w (NRes w (convOut xs amt cu.toList day) (convErr xs amt cu.toList day)):=by
 have HA:=Lib.hid (at_any A n c xs cu day w h hm hz hcu)
 by_cases ha:atErr xs cu.toList day=0
 ·have hr:0≤rateOf xs cu.toList day∧rateOf xs cu.toList day≤1000000000:=by
   refine rateOf_bounds ?_ _ _
   unfold atErr at ha
   split at ha
   ·omega
   ·omega
  have e1:convErr xs amt cu.toList day=scaleErr amt (rateOf xs cu.toList day):=by unfold convErr;rw [if_neg (by omega)]
  have e2:convOut xs amt cu.toList day=scaleV amt (rateOf xs cu.toList day):=by unfold convOut scaleV;rw [e1]
  rw [e1,e2]
  rw [ha,if_pos rfl] at HA
  generalize rateOf xs cu.toList day=rt at *
  have HS:=Lib.hid (fun w=>scale_any amt rt w h0 h1 hr.1 (by omega))
  clear e1 e2 ha
  go_enter Tryz.func69,Tryz.ntmps69
  go_wp2_with fail
  refine HA.out.mono ?_
  rintro e w1 ⟨rfl,hb1⟩
  go_wp2_with fail
  refine (HS.out _).mono ?_
  rintro e w2 ⟨rfl,hb2⟩
  go_wp2
  go_ret2
  exact⟨rfl,hb1.trans (hb2.mono hb1.size)⟩
 ·have e1:convErr xs amt cu.toList day=atErr xs cu.toList day:=by unfold convErr;rw [if_pos ha]
  have e2:convOut xs amt cu.toList day=0:=by unfold convOut;rw [e1,if_neg ha]
  rw [e1,e2]
  rw [if_neg ha] at HA
  have b1:(atErr xs cu.toList day != 0)=true:=by simpa using ha
  clear e1 e2 ha
  generalize atErr xs cu.toList day=er at *
  go_enter Tryz.func69,Tryz.ntmps69
  go_wp2_with fail
  refine HA.out.mono ?_
  rintro e w1 ⟨rfl,hb1⟩
  go_wp2
  go_ret2
  exact⟨rfl,hb1⟩
end Go.Proofs.YtbokkeooahodaaaGreatDoor
namespace Go.Proofs.YtbokkeooahodaaaGreatDoor
open Go.RowKit
set_option linter.unusedVariables false
def encS (s:ByteArray):List Value:=[.string s]
theorem encS_len (s:ByteArray):(encS s).length=1:=rfl
def Sr (w:World) (A:Option Addr) (n:Nat) (l:List ByteArray):Prop:=Recs encS 1 w A n l∧n≤1000000∧∀ i,i<n→l[i]!.size≤1000000
theorem Sr.below {w w':World} {A:Option Addr} {n:Nat} {l:List ByteArray} (h:Sr w A n l) (hb:RowKit.Below w.heap.size w w'):Sr w' A n l:=⟨h.1.below hb,h.2⟩
theorem Sr.len {w:World} {A:Option Addr} {n:Nat} {l:List ByteArray} (h:Sr w A n l):l.length=n:=h.1.1
theorem Sr.nil {w:World} {A:Option Addr}:Sr w A 0 []:=⟨Recs.nil,by omega,fun i hi=>by omega⟩
theorem Sr.get {w:World} {A:Option Addr} {n:Nat} {l:List ByteArray} (h:Sr w A n l) {i:Nat} (hi:i<n) :
  ∃ b off s,A=some ⟨b,off,none⟩∧b<w.heap.size∧w.cell? ⟨b,off+i,none⟩=some (.string s)∧s.size≤1000000∧Hid (l[i]! = s):=by
 obtain⟨b,off,e,hlt,hc⟩:=h.1.at_ hi
 have:=hc 0 (by omega)
 rw [Nat.mul_one,Nat.add_zero] at this
 exact⟨b,off,l[i]!,e,hlt,this,h.2.2 i hi,rfl⟩
def duA (d:Du):Array Value:=#[.int .i64 d.rate,.int .i64 d.am,.int .i64 d.per,.bool d.hm,.int .i64 d.most,.bool d.hl,.int .i64 d.least]
structure MsA where
 m:Ms
 A:Option Addr
 n:Nat
 c:Nat
deriving Inhabited
def encM (x:MsA):List Value:=[.int .i64 x.m.id,.int .i64 x.m.kind,.string x.m.pre,.slice x.A x.n x.c,.int .i64 x.m.co,.int .i64 x.m.fr,.int .i64 x.m.til,.int .i64 x.m.reg,.int .i64 x.m.du.rate,.int .i64 x.m.du.am,.int .i64 x.m.du.per,.bool x.m.du.hm,.int .i64 x.m.du.most,.bool x.m.du.hl,.int .i64 x.m.du.least]
theorem encM_len (x:MsA):(encM x).length=15:=rfl
theorem encM_one (x:MsA):∀ v∈encM x,v.oneCell'=true:=fun v hv=>by
 simp only [encM,List.mem_cons,List.not_mem_nil,or_false] at hv
 rcases hv with rfl | rfl | rfl | rfl | rfl | rfl | rfl | rfl | rfl | rfl | rfl | rfl | rfl | rfl | rfl <;> rfl
def msA (x:MsA):Array Value:=#[.int .i64 x.m.id,.int .i64 x.m.kind,.string x.m.pre,.slice x.A x.n x.c,.int .i64 x.m.co,.int .i64 x.m.fr,.int .i64 x.m.til,.int .i64 x.m.reg,.int .i64 x.m.du.rate,.int .i64 x.m.du.am,.int .i64 x.m.du.per,.bool x.m.du.hm,.int .i64 x.m.du.most,.bool x.m.du.hl,.int .i64 x.m.du.least]
def MsR (w:World) (A:Option Addr) (n:Nat) (xs:List MsA):Prop:=Recs encM 15 w A n xs∧n≤1000000∧∀ i,i<n→Sr w xs[i]!.A xs[i]!.n xs[i]!.m.orgs∧xs[i]!.m.pre.size≤1000000
theorem MsR.below {w w':World} {A:Option Addr} {n:Nat} {xs:List MsA} (h:MsR w A n xs) (hb:RowKit.Below w.heap.size w w'):MsR w' A n xs:=⟨h.1.below hb,h.2.1,fun i hi=>⟨(h.2.2 i hi).1.below hb,(h.2.2 i hi).2⟩⟩
theorem MsR.len {w:World} {A:Option Addr} {n:Nat} {xs:List MsA} (h:MsR w A n xs):xs.length=n:=h.1.1
def MsCells (w:World) (b o:Nat) (x:MsA):Prop :=
 w.cell? ⟨b,o,none⟩=some (.int .i64 x.m.id)∧w.cell? ⟨b,o+1,none⟩=some (.int .i64 x.m.kind)∧w.cell? ⟨b,o+2,none⟩=some (.string x.m.pre)∧w.cell? ⟨b,o+3,none⟩=some (.slice x.A x.n x.c)∧w.cell? ⟨b,o+4,none⟩=some (.int .i64 x.m.co)∧w.cell? ⟨b,o+5,none⟩=some (.int .i64 x.m.fr)∧w.cell? ⟨b,o+6,none⟩=some (.int .i64 x.m.til)∧w.cell? ⟨b,o+7,none⟩=some (.int .i64 x.m.reg)∧w.cell? ⟨b,o+8,none⟩=some (.int .i64 x.m.du.rate)∧w.cell? ⟨b,o+9,none⟩=some (.int .i64 x.m.du.am)∧w.cell? ⟨b,o+10,none⟩=some (.int .i64 x.m.du.per)∧w.cell? ⟨b,o+11,none⟩=some (.bool x.m.du.hm)∧w.cell? ⟨b,o+12,none⟩=some (.int .i64 x.m.du.most)∧w.cell? ⟨b,o+13,none⟩=some (.bool x.m.du.hl)∧w.cell? ⟨b,o+14,none⟩=some (.int .i64 x.m.du.least)
theorem MsR.get {w:World} {A:Option Addr} {n:Nat} {xs:List MsA} (h:MsR w A n xs) {i:Nat} (hi:i<n) :
  ∃ b off x,A=some ⟨b,off,none⟩∧b<w.heap.size∧MsCells w b (off+i*15) x∧Sr w x.A x.n x.m.orgs∧x.m.pre.size≤1000000∧Hid (xs[i]! = x):=by
 obtain⟨b,off,e,hlt,hc⟩:=h.1.at_ hi
 exact⟨b,off,xs[i]!,e,hlt,⟨hc 0 (by omega),hc 1 (by omega),hc 2 (by omega),hc 3 (by omega),hc 4 (by omega),hc 5 (by omega),hc 6 (by omega),hc 7 (by omega),hc 8 (by omega),hc 9 (by omega),hc 10 (by omega),hc 11 (by omega),hc 12 (by omega),hc 13 (by omega),hc 14 (by omega)⟩,(h.2.2 i hi).1,(h.2.2 i hi).2,rfl⟩
def msL (xs:List MsA):List Ms:=xs.map (·.m)
theorem msL_len (xs:List MsA):(msL xs).length=xs.length:=by simp [msL]
theorem msL_get (xs:List MsA) (i:Nat):(msL xs)[i]! = xs[i]!.m:=by
 unfold msL
 rw [List.getElem!_eq_getElem?_getD,List.getElem!_eq_getElem?_getD,List.getElem?_map]
 cases xs[i]? <;> rfl
end Go.Proofs.YtbokkeooahodaaaGreatDoor

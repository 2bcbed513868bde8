/-
  A part of the proof of TopQuotaDayCardSaid: lemmas and contracts of functions that the law calls. No statement of the seat is proved here. Conditions: as each says.
-/
import Derived.Test.YtbokkeooahodaaaGreatDoorQAB
import Derived.Test.YtbokkeooahodaaaGreatDoorQAC
import Derived.Test.YtbokkeooahodaaaGreatDoorQAD
import Derived.Test.YtbokkeooahodaaaGreatDoorQAE
import Derived.Deep.DeepCutAuto
import Derived.Test.YtbokkeooahodaaaGreatDoorQAX
import Derived.Deep.AppendLies
import Derived.Test.YtbokkeooahodaaaGreatDoorQAI
namespace Go.Proofs.YtbokkeooahodaaaGreatDoor
open Go.RowKit
set_option linter.unusedVariables false
def okReq (p:Int × Int):Prop:=1≤p.1∧p.1≤1000000∧0≤p.2∧p.2≤1000000000
instance (p:Int × Int):Decidable (okReq p):=by unfold okReq;infer_instance
def okAll (xs:List (Int × Int)):Prop:=∀ i,i<xs.length→okReq xs[i]!
def okAsc (xs:List (Int × Int)):Prop:=∀ r,r<xs.length - 1→xs[r]!.1<xs[r+1]!.1
instance (xs:List (Int × Int)):Decidable (okAll xs):=by unfold okAll;infer_instance
instance (xs:List (Int × Int)):Decidable (okAsc xs):=by unfold okAsc;infer_instance
def vErr (xs:List (Int × Int)):Int:=if 200<xs.length then 8 else if okAll xs then (if okAsc xs then 0 else 9) else 2
theorem vErr_long {xs:List (Int × Int)} (h:200<xs.length):vErr xs=8:=by unfold vErr;rw [if_pos h]
theorem vErr_bad {xs:List (Int × Int)} (h:xs.length≤200) (i:Nat) (hi:i<xs.length) (hb:¬ okReq xs[i]!):vErr xs=2:=by
 unfold vErr;rw [if_neg (by omega),if_neg (fun ha=>hb (ha i hi))]
theorem vErr_asc {xs:List (Int × Int)} (h:xs.length≤200) (ha:okAll xs) (r:Nat) (hr:r+1<xs.length) (hb:¬ xs[r]!.1<xs[r+1]!.1):vErr xs=9:=by
 unfold vErr;rw [if_neg (by omega),if_pos ha,if_neg (fun hx=>hb (hx r (by omega)))]
theorem vErr_ok {xs:List (Int × Int)} (h:xs.length≤200) (ha:okAll xs) (hb:okAsc xs):vErr xs=0:=by
 unfold vErr;rw [if_neg (by omega),if_pos ha,if_pos hb]
theorem vErr_zero {xs:List (Int × Int)} (h:vErr xs=0):xs.length≤200∧okAll xs∧okAsc xs:=by
 unfold vErr at h
 split at h
 ·omega
 ·split at h
  ·split at h
   ·exact⟨by omega,by assumption,by assumption⟩
   ·omega
  ·omega
set_option maxRecDepth 100000 in
set_option maxHeartbeats 4000000 in
theorem validate_any (A:Option Addr) (n c:Nat) (xs:List (Int × Int)) (w:World) (h:Recs enc2 2 w A n xs) (hm:n≤9223372036854775807) :
  Calls Tryz.prog 37 #[.slice A n c] w (VRes w (vErr xs)):=by
 have HL:=Lib.hid h.1
 by_cases hl:200<n
 ·have E:=Lib.hid (vErr_long (xs:=xs) (by have:=HL.out;omega))
  go_enter Tryz.func37,Tryz.ntmps37
  go_wp2
  go_ret
  exact⟨ret_int' E.out.symm,Below.refl _ _⟩
 go_enter Tryz.func37,Tryz.ntmps37
 go_wp2
 go_loopw [11] (fun i wr=>∃ k:Nat,k≤n∧i=.int .i64 k∧Hid (∀ i,i<k→okReq xs[i]!)∧RowKit.Below w.heap.size w wr) (fun i _=>n - (intOf i).toNat)
 case atStart=>exact⟨0,Nat.zero_le _,rfl,fun i hi=>absurd hi (by omega),Below.refl _ _⟩
 case round =>
  obtain⟨k,hk,rfl,HA,hbel⟩:=hrel
  by_cases hlt:k<n
  ·obtain⟨b,off,x,y,rfl,_,hc1,hc2,HX⟩:=(h.below hbel).get2 hlt
   by_cases g1:x<1
   ·have d1:decide (x<1)=true:=by simpa using g1
    go_wp2
    go_ret
    exact⟨ret_int' (vErr_bad (by have:=HL.out;omega) k (by have:=HL.out;omega) (by rw [HX.out];unfold okReq;omega)).symm,hbel.alloc hbel.size _⟩
   have d1:decide (x<1)=false:=by simpa using g1
   by_cases g2:1000000<x
   ·have d2:decide (1000000<x)=true:=by simpa using g2
    go_wp2
    go_ret
    exact⟨ret_int' (vErr_bad (by have:=HL.out;omega) k (by have:=HL.out;omega) (by rw [HX.out];unfold okReq;omega)).symm,hbel.alloc hbel.size _⟩
   have d2:decide (1000000<x)=false:=by simpa using g2
   by_cases g3:y<0
   ·have d3:decide (y<0)=true:=by simpa using g3
    go_wp2
    go_ret
    exact⟨ret_int' (vErr_bad (by have:=HL.out;omega) k (by have:=HL.out;omega) (by rw [HX.out];unfold okReq;omega)).symm,hbel.alloc hbel.size _⟩
   have d3:decide (y<0)=false:=by simpa using g3
   by_cases g4:1000000000<y
   ·have d4:decide (1000000000<y)=true:=by simpa using g4
    go_wp2
    go_ret
    exact⟨ret_int' (vErr_bad (by have:=HL.out;omega) k (by have:=HL.out;omega) (by rw [HX.out];unfold okReq;omega)).symm,hbel.alloc hbel.size _⟩
   have d4:decide (1000000000<y)=false:=by simpa using g4
   have HA':Hid (∀ i,i<k+1→okReq xs[i]!):=fun i hi=>by
    by_cases e:i=k
    ·subst e;rw [HX.out];unfold okReq;omega
    ·exact HA.out i (by omega)
   go_wp2
   go_roundw
   case rel=>exact⟨k+1,by omega,by go_num,HA'.out,((hbel.alloc hbel.size _))⟩
   case measure=>simp [intOf];omega
  ·have HAll:Hid (okAll xs):=fun i hi=>HA.out i (by have:=HL.out;omega)
   clear HA
   have h':=h.below hbel
   go_wp2
   go_loopw [5] (fun i wi=>∃ r q:Nat,r≤n∧i=.int .i64 ((r:Int)+1)∧Hid (∀ s,s<r→xs[s]!.1<xs[s+1]!.1)∧wi=wr.drewN q) (fun i _=>n+1 - (intOf i).toNat)
   case atStart=>exact⟨0,0,Nat.zero_le _,rfl,fun i hi=>absurd hi (by omega),rfl⟩
   case round =>
    obtain⟨r,q,hr,rfl,HS,rfl⟩:=hrel
    by_cases hlt2:r+1<n
    ·obtain⟨b,off,x1,y1,hA,_,hc1,hc2,HX1⟩:=h'.get2 hlt2
     subst hA
     obtain⟨b',off',x0,y0,hA,_,hc3,hc4,HX0⟩:=h'.get2 (show r<n by omega)
     obtain⟨rfl,rfl⟩:b=b'∧off=off':=by simpa using hA
     clear hA
     have i1:(0:Int)≤(r:Int)+1:=by omega
     have i2:(r:Int)+1<(n:Int):=by omega
     have i3:(0:Int)≤(r:Int):=by omega
     have i4:(r:Int)<(n:Int):=by omega
     have u1:IntKind.i64.wrap ((r:Int)+1 - 1)=(r:Int):=IntWalk.i64_in _ (by omega) |>.trans (by omega)
     have u2:IntKind.i64.wrap (r:Int)=(r:Int):=IntWalk.i64_in _ (by omega)
     have u3:((r:Int)+1).toNat=r+1:=by omega
     by_cases g:x1≤x0
     ·have d1:decide (x1≤x0)=true:=by simpa using g
      go_wp2
      go_quiet (fail)
      go_wp2
      go_ret
      exact⟨ret_int' (vErr_asc (by have:=HL.out;omega) HAll.out r (by have:=HL.out;omega) (by rw [HX0.out,HX1.out];show ¬ x0<x1;omega)).symm,below_drewN (below_drewN hbel _) _⟩
     ·have d1:decide (x1≤x0)=false:=by simpa using g
      have HS':Hid (∀ s,s<r+1→xs[s]!.1<xs[s+1]!.1):=fun s hs=>by
       by_cases e:s=r
       ·subst e;rw [HX0.out,HX1.out];show x0<x1;omega
       ·exact HS.out s (by omega)
      go_wp2
      go_quiet (fail)
      go_wp2
      go_roundw
      case rel=>exact⟨r+1,_,by omega,by go_num,HS'.out,rfl⟩
      case measure=>simp [intOf];omega
    ·have HAsc:Hid (okAsc xs):=fun s hs=>HS.out s (by have:=HL.out;omega)
     have i2:¬ (r:Int)+1<(n:Int):=by omega
     go_wp2
     go_ret
     exact⟨ret_int' (vErr_ok (by have:=HL.out;omega) HAll.out HAsc.out).symm,below_drewN hbel _⟩
def CloneRes (w:World) (n:Nat) (xs:List Int) (e:Ending) (w':World):Prop:=∃ (A:Option Addr) (c:Nat),e=.returned (.slice A n c)∧w'.ownsRow w.heap.size 3 1 (.slice A n c) n (xs.map (Value.int .i64))∧RowKit.Below w.heap.size w w'
theorem clone_any (A:Option Addr) (n c:Nat) (xs:List Int) (w:World) (h:Ints w A n xs) (hn:n≤1000000) :
  Calls Tryz.prog 55 #[.slice A n c] w (CloneRes w n xs):=by
 have hl:=h.1
 by_cases h0:n=0
 ·subst h0
  obtain rfl:xs = []:=List.eq_nil_of_length_eq_zero hl
  cases A with
  | none =>
   refine (Tryz.slices_Clone_int_nil 0 c w).mono ?_
   rintro e w' ⟨rfl,rfl⟩
   exact⟨_,_,rfl,own_nil _ _ _,Below.refl _ _⟩
  | some a =>
   refine (Tryz.slices_Clone_int_zero a c w).mono ?_
   rintro e w' ⟨v',rfl,ho,_,hb⟩
   obtain⟨A,c,rfl⟩:=own_slice ho
   exact⟨A,c,rfl,ho,hb⟩
 ·obtain⟨b,off,rfl,hlt,hc⟩:=h.2 (by omega)
  refine (Tryz.slices_Clone_int b off n c xs w (by omega) (by omega) (fun j hj=>hc j (by omega))).mono ?_
  rintro e w' ⟨v',rfl,ho,_,hb⟩
  rw [List.take_of_length_le (by omega)] at ho
  obtain⟨A,c,rfl⟩:=own_slice ho
  exact⟨A,c,rfl,ho,hb⟩
def capErr (t:Int) (ws:List Int):Int:=if chkErr t ws=7 then 0 else chkErr t ws
def capOut (t:Int) (ws:List Int):List Int:=if chkErr t ws=0 then (if ws.sum≤t then ws else shareL t ws) else []
set_option maxHeartbeats 1000000 in
theorem cap_any (t:Int) (A:Option Addr) (n c:Nat) (xs:List Int) (w:World) (h:Ints w A n xs) (hm:n≤9223372036854775807) :
  Calls Tryz.prog 38 #[.int .i64 t,.slice A n c] w (SlRes w (capErr t xs) (capOut t xs)):=by
 have HC:=Lib.hid (fun w h=>check_any t A n c xs w h hm)
 by_cases h7:chkErr t xs=7
 ·have E1:capErr t xs=0:=by unfold capErr;rw [if_pos h7]
  have E2:capOut t xs = []:=by unfold capOut;rw [if_neg (by omega)]
  rw [E1,E2]
  rw [h7] at HC
  clear E1 E2 h7
  go_enter Tryz.func38,Tryz.ntmps38
  go_wp2_with (go_at_call 73;refine (HC.out _ h).mono ?_;rintro e w' ⟨rfl,rfl⟩)
  go_ret2
  exact⟨_,_,_,rfl,own_nil _ _ _,Below.refl _ _⟩
 have E1:capErr t xs=chkErr t xs:=by unfold capErr;rw [if_neg h7]
 rw [E1]
 clear E1
 by_cases h0:chkErr t xs=0
 ·obtain⟨h1,h2,h3,h4,h5⟩:=chk_zero h0
  have hl:=h.1
  have HS:=Lib.hid (fun w h=>sumOf_any A n c xs w h (by omega) h4)
  have E2:capOut t xs=if xs.sum≤t then xs else shareL t xs:=by unfold capOut;rw [if_pos h0]
  rw [E2]
  have HSH:=Lib.hid (fun w h=>share_any t A n c xs w h hm)
  have e3:shareOut t xs=shareL t xs:=by unfold shareOut;rw [if_pos h0]
  rw [e3] at HSH
  rw [h0] at HC HSH ⊢
  have HCL:=Lib.hid (fun w h=>clone_any A n c xs w h (by omega))
  clear E2 e3 h7 h0 hl h1 h2 h3 h4 h5
  obtain⟨S,hS⟩:∃ S,xs.sum=S:=⟨_,rfl⟩
  rw [hS] at HS ⊢
  clear hS
  by_cases hle:S≤t
  ·rw [if_pos hle]
   go_enter Tryz.func38,Tryz.ntmps38
   go_wp2_with (first | (go_at_call 73;refine (HC.out _ h).mono ?_;rintro e w' ⟨rfl,rfl⟩) | (go_at_call 74;refine (HS.out _ h).mono ?_;rintro e w' ⟨rfl,rfl⟩) | (go_at_call 55;refine (HCL.out _ h).mono ?_;rintro e w' ⟨A',c',rfl,ho,hb⟩))
   go_ret2
   exact⟨_,_,_,rfl,ho,hb⟩
  ·rw [if_neg hle]
   go_enter Tryz.func38,Tryz.ntmps38
   go_wp2_with (first | (go_at_call 73;refine (HC.out _ h).mono ?_;rintro e w' ⟨rfl,rfl⟩) | (go_at_call 74;refine (HS.out _ h).mono ?_;rintro e w' ⟨rfl,rfl⟩) | (go_at_call 54;refine (HSH.out _ h).mono ?_;rintro e w' ⟨A',n',c',rfl,ho,hb⟩))
   go_ret2
   exact⟨_,_,_,rfl,ho,hb⟩
 ·have E2:capOut t xs = []:=by unfold capOut;rw [if_neg h0]
  rw [E2]
  have b1:(chkErr t xs == 7)=false:=by simpa using h7
  have b2:(chkErr t xs != 0)=true:=by simpa using h0
  clear E2 h7 h0
  generalize chkErr t xs=er at *
  go_enter Tryz.func38,Tryz.ntmps38
  go_wp2_with (go_at_call 73;refine (HC.out _ h).mono ?_;rintro e w' ⟨rfl,rfl⟩)
  go_ret2
  exact⟨_,_,_,rfl,own_nil _ _ _,Below.refl _ _⟩
theorem cap_facts (t:Int) (ys:List Int) (ht0:0≤t) (ht1:t≤1000000000000) (hl:ys.length≤1000) (ha:AllIn ys) :
  capErr t ys=0∧(capOut t ys).length=ys.length∧(∀ i,i<ys.length→0≤(capOut t ys).getD i 0∧(capOut t ys).getD i 0≤ys.getD i 0)∧(capOut t ys).sum=min t ys.sum:=by
 by_cases hn:ys.length=0
 ·have h0:ys = []:=List.eq_nil_of_length_eq_zero hn
  subst h0
  have hc:chkErr t [] = 0∨chkErr t [] = 7:=by
   unfold chkErr
   rw [if_neg (by simp),if_neg (by omega),if_pos ha]
   split <;> simp
  have hO:capOut t [] = []:=by
   unfold capOut
   rcases hc with e | e
   ·rw [if_pos e,if_pos (by simpa using ht0)]
   ·rw [if_neg (by omega)]
  refine⟨?_,by rw [hO],fun i hi=>by simp at hi,by rw [hO];simp;omega⟩
  unfold capErr
  rcases hc with e | e <;> simp [e]
 ·have hc:=chk_ok (t:=t) (ws:=ys) ht0 ht1 hl (by omega) ha
  have hN:NonNeg ys:=fun i=>(ha i).1
  have hE:capErr t ys=0:=by unfold capErr;rw [hc];simp
  by_cases hs:ys.sum≤t
  ·have hO:capOut t ys=ys:=by unfold capOut;rw [if_pos hc,if_pos hs]
   rw [hO]
   exact⟨hE,rfl,fun i _=>⟨hN i,Int.le_refl _⟩,by omega⟩
  ·have hO:capOut t ys=shareL t ys:=by unfold capOut;rw [if_pos hc,if_neg hs]
   rw [hO]
   refine⟨hE,shareL_length _ _,fun i hi=>?_,?_⟩
   ·rw [shareL_get t ys i hi]
    exact⟨share_nonneg hN ht0 (by omega) i,share_le_weight hN (by omega) ht0 (by omega) i hi⟩
   ·have:(shareL t ys).sum=sumN ys.length (shareI t ys):=rfl
    rw [this,sum_share hN (by omega)]
    omega
def qsOf (xs:List (Int × Int)):List Int:=xs.map (·.2)
theorem qsOf_len (xs:List (Int × Int)):(qsOf xs).length=xs.length:=by simp [qsOf]
theorem qsOf_get (xs:List (Int × Int)) (i:Nat) (h:i<xs.length):(qsOf xs).getD i 0=xs[i]!.2:=by
 simp [qsOf,List.getD,List.getElem?_eq_getElem h,getElem!_pos xs i h]
def grantV (t:Int) (xs:List (Int × Int)) (i:Nat):Int:=if (qsOf xs).sum≤t then xs[i]!.2 else shareI t (qsOf xs) i
def grantsOf (t:Int) (xs:List (Int × Int)):List (Int × Int):=(List.range xs.length).map fun i=>(xs[i]!.1,grantV t xs i)
def allocErr (t:Int) (xs:List (Int × Int)):Int:=if t<0∨1000000000000<t then 2 else vErr xs
def allocOut (t:Int) (xs:List (Int × Int)):List (Int × Int):=if allocErr t xs=0 then grantsOf t xs else []
def allocLeft (t:Int) (xs:List (Int × Int)):Int:=if allocErr t xs=0 then max (t - (qsOf xs).sum) 0 else 0
theorem grantsOf_len (t:Int) (xs:List (Int × Int)):(grantsOf t xs).length=xs.length:=by simp [grantsOf]
theorem range_getD (l:List Int) (n:Nat) (h:l.length=n):(List.range n).map (fun j=>l.getD j 0)=l:=by
 subst h
 apply List.ext_getElem
 ·simp
 ·intro i h1 h2
  simp [List.getD,List.getElem?_eq_getElem h2]
def AllocRes (w:World) (T:TypeId) (out:List (Int × Int)) (left er:Int) (e:Ending) (w':World):Prop :=
 ∃ A n c,e=.returned (.tuple #[.slice A n c,.int .i64 left,.int .i64 er])∧out.length=n∧w'.ownsRow w.heap.size T 2 (.slice A n c) n (flat enc2 out)∧RowKit.Below w.heap.size w w'
theorem own_nil2 (w:World) (b:Nat) (T:TypeId):w.ownsRow b T 2 (.slice none 0 0) 0 (flat enc2 []):=⟨by simp [flat],.inl ⟨rfl,rfl⟩⟩
theorem infoG:(Tryz.prog.info? 49).map (fun i=>(i.zero,i.size,i.bytes))=some (some (.agg #[.int .i64 0,.int .i64 0]),2,16):=by kernel_rfl
theorem RecRow.zeros2 {C:Array Value} {n:Nat} (h:C.size=n*2∧∀ j,j<n*2→C[j]? = some ((Value.agg #[.int .i64 0,.int .i64 0]).cells[j % (Value.agg #[.int .i64 0,.int .i64 0]).cells.size]!)):RecRow enc2 2 C n (fun _=>(0,0)):=by
 refine⟨h.1,fun j hj c hc=>?_⟩
 rw [h.2 (j*2+c) (by omega)]
 have e:(Value.agg #[.int .i64 0,.int .i64 0]).cells.size=2:=rfl
 rw [e,show (j*2+c) % 2=c by omega]
 have hcc:c=0∨c=1:=by omega
 rcases hcc with rfl | rfl <;> rfl
set_option maxRecDepth 100000 in
set_option maxHeartbeats 4000000 in
theorem alloc_any (t:Int) (A:Option Addr) (n c:Nat) (xs:List (Int × Int)) (w:World) (h:Recs enc2 2 w A n xs) (hm:n≤9223372036854775807) :
  Calls Tryz.prog 12 #[.int .i64 t,.slice A n c] w (AllocRes w 49 (allocOut t xs) (allocLeft t xs) (allocErr t xs)):=by
 by_cases h1:t<0
 ·have E:allocErr t xs=2:=by unfold allocErr;rw [if_pos (by omega)]
  unfold allocOut allocLeft
  rw [E,if_neg (by omega),if_neg (by omega)]
  clear E
  have d1:decide (t<0)=true:=by simpa using h1
  go_enter Tryz.func12,Tryz.ntmps12
  go_wp2
  go_ret3
  exact⟨_,_,_,rfl,rfl,own_nil2 _ _ _,Below.refl _ _⟩
 have d1:decide (t<0)=false:=by simpa using h1
 by_cases h2:1000000000000<t
 ·have E:allocErr t xs=2:=by unfold allocErr;rw [if_pos (by omega)]
  unfold allocOut allocLeft
  rw [E,if_neg (by omega),if_neg (by omega)]
  clear E
  have d2:decide (1000000000000<t)=true:=by simpa using h2
  go_enter Tryz.func12,Tryz.ntmps12
  go_wp2
  go_ret3
  exact⟨_,_,_,rfl,rfl,own_nil2 _ _ _,Below.refl _ _⟩
 have d2:decide (1000000000000<t)=false:=by simpa using h2
 have E:allocErr t xs=vErr xs:=by unfold allocErr;rw [if_neg (by omega)]
 have HV:=Lib.hid (validate_any A n c xs w h hm)
 by_cases h3:vErr xs=0
 ·obtain⟨v1,v2,v3⟩:=vErr_zero h3
  unfold allocOut allocLeft
  rw [E,h3,if_pos rfl,if_pos rfl]
  rw [h3] at HV
  have hl:=h.1
  have hq:∀ i:Nat,0≤(qsOf xs).getD i 0∧(qsOf xs).getD i 0≤1000000000:=fun i=>by
   by_cases hi:i<xs.length
   ·rw [qsOf_get xs i hi];exact⟨(v2 i hi).2.2.1,(v2 i hi).2.2.2⟩
   ·simp [List.getD,List.getElem?_eq_none (show (qsOf xs).length≤i by rw [qsOf_len];omega)]
  have HQ:=Lib.hid hq
  have HL:=Lib.hid hl
  have hn:n≤200:=by omega
  obtain⟨C1,HC1,hmk1⟩:=make_any (P:=Tryz.prog) 22 3 _ 1 8 n Tryz.underlying22 infoI (by omega) (by omega)
  obtain⟨C2,HC2,hmk2⟩:=make_any (P:=Tryz.prog) 46 49 _ 2 16 n Tryz.underlying46 infoG (by omega) (by omega)
  clear E h3 v1 v2 v3 hq hl
  go_enter Tryz.func12,Tryz.ntmps12
  go_wp2_with fail
  refine HV.out.mono ?_
  rintro e w1 ⟨rfl,hb1⟩
  have h':=h.below hb1
  go_wp2
  go_loopw [8,32] (fun s i wr=>∃ (k:Nat) (cs:Array Value),k≤n∧i=.int .i64 k∧s=.int .i64 ((qsOf xs).take k).sum∧Bl wr w1.heap.size 3 cs∧IntRow cs n (fun j=>if j<k then (qsOf xs).getD j 0 else 0)∧RowKit.Below w1.heap.size w1 wr) (fun _ i _=>n - (intOf i).toNat)
  case atStart=>exact⟨0,C1,Nat.zero_le _,rfl,by simp,Bl.new _ _ _,(IntRow.zeros HC1.out).congr (fun j _=>by simp),(Below.refl _ _).alloc (Nat.le_refl _) _⟩
  case round =>
   obtain⟨k,cs,hk,rfl,rfl,HB,HR,hbel⟩:=hrel
   by_cases hlt:k<n
   ·obtain⟨b,off,x,y,hA,hbl,hc1,hc2,HX⟩:=h'.get2 hlt
    subst hA
    have hc3:wr.cell? ⟨b,off+k*2+1,none⟩=some (.int .i64 y):=(hbel.cell (p:=⟨b,off+k*2+1,none⟩) hbl).trans hc2
    have hne:b≠w1.heap.size:=by omega
    have c3:=HR.cell HB hlt
    rw [if_neg (by omega)] at c3
    have f3:wr.frozen? ⟨w1.heap.size,k,none⟩=false:=HB.free k
    have hy:(qsOf xs).getD k 0=y:=by rw [qsOf_get xs k (by have:=HL.out;omega),HX.out]
    have hbs:=sum_take_bound (qsOf xs) 1000000000 HQ.out k (by rw [qsOf_len];have:=HL.out;omega)
    have hb0:=HQ.out k
    have HSS:=Lib.hid (sum_take_succ (qsOf xs) k (by rw [qsOf_len];have:=HL.out;omega))
    rw [hy] at hb0 HSS
    have HS:Hid (IntRow (cs.setIfInBounds k (.int .i64 y)) n (fun j=>if j<k+1 then (qsOf xs).getD j 0 else 0)):=HR.set k y (fun j hj=>by
     by_cases e:j=k
     ·subst e;rw [if_pos (by omega),if_pos rfl,hy]
     ·rw [if_neg e];by_cases e2:j<k
      ·rw [if_pos e2,if_pos (by omega)]
      ·rw [if_neg e2,if_neg (by omega)])
    generalize ((qsOf xs).take k).sum=s at *
    clear hy hc1 hc2
    go_wp2
    go_roundw
    case rel=>exact⟨k+1,_,by omega,by go_num,by rw [HSS.out],HB.put _ _,HS.out,hbel.setCell (Nat.le_refl _) _⟩
    case measure=>simp [intOf];omega
   ·obtain rfl:k=n:=by omega
    rw [List.take_of_length_le (by rw [qsOf_len];have:=HL.out;omega)]
    have hS:=sum_take_bound (qsOf xs) 1000000000 HQ.out (qsOf xs).length (Nat.le_refl _)
    rw [List.take_length,qsOf_len,HL.out] at hS
    have hIq:Ints wr (some ⟨w1.heap.size,0,none⟩) k (qsOf xs):=by
     have how:=(HR.congr (g:=fun j=>(qsOf xs).getD j 0) (fun j hj=>by simp [hj])).own HB (Nat.le_refl _) (by omega)
     rw [range_getD (qsOf xs) k (by rw [qsOf_len];exact HL.out)] at how
     exact IntsK.of_own how
    have hb:=hb1.trans (hbel.mono hb1.size)
    have hcf:=cap_facts t (qsOf xs) (by omega) (by omega) (by rw [qsOf_len];have:=HL.out;omega) (fun i=>by have:=HQ.out i;omega)
    have HCE:=Lib.hid hcf.1
    have HCL:=Lib.hid hcf.2.1
    clear HR HB hcf hmk1 HC1
    obtain⟨S,hSe⟩:∃ S,(qsOf xs).sum=S:=⟨_,rfl⟩
    rw [hSe] at hS ⊢
    have HSE:=Lib.hid hSe
    clear hSe
    have hmk2':=Lib.hid hmk2
    clear hmk2
    go_upto_if 54 with (fail)
    go_cut [11,12] (fun l g wx=>∃ (A2:Option Addr) (c2:Nat) (G:List Int) (lv:Int),l=.int .i64 lv∧g=.slice A2 k c2∧Ints wx A2 k G∧Hid (lv=max (t - S) 0∧∀ i,i<k→G.getD i 0=grantV t xs i)∧RowKit.Below w.heap.size w wx∧w1.heap.size≤wx.heap.size∧Recs enc2 2 wx A k xs)
    case first =>
     by_cases hle:S≤t
     ·go_wp2_with fail
      go_meet
      exact⟨_,_,qsOf xs,_,rfl,rfl,hIq,⟨by omega,fun i hi=>by unfold grantV;rw [HSE.out,if_pos hle,qsOf_get xs i (by have:=HL.out;omega)]⟩,hb,hbel.size,h'.below hbel⟩
     ·go_wp2_with fail
      refine (cap_any t (some ⟨w1.heap.size,0,none⟩) k k (qsOf xs) _ hIq (by omega)).mono ?_
      rintro e w3 ⟨A3,n3,c3,rfl,ho3,hb3⟩
      rw [HCE.out]
      have hn3:=own_len ho3
      rw [HCL.out,qsOf_len,HL.out] at hn3
      subst hn3
      have hO:capOut t (qsOf xs)=shareL t (qsOf xs):=by
       unfold capOut
       have hq0:¬ (qsOf xs).length=0:=fun e=>by
        have:qsOf xs = []:=List.eq_nil_of_length_eq_zero e
        have h9:=HSE.out
        rw [this] at h9
        simp at h9
        omega
       rw [if_pos (chk_ok (by omega) (by omega) (by rw [qsOf_len];have:=HL.out;omega) (by omega) (fun i=>by have:=HQ.out i;omega)),HSE.out,if_neg (by omega)]
      rw [hO] at ho3
      have hI3:=IntsK.of_own ho3
      have hbel3:=hbel.trans (hb3.mono hbel.size)
      clear hO ho3
      go_wp2_with fail
      go_meet
      exact⟨_,_,shareL t (qsOf xs),_,rfl,rfl,hI3,⟨by omega,fun i hi=>by unfold grantV;rw [HSE.out,if_neg (by omega),shareL_get t (qsOf xs) i (by rw [qsOf_len];have:=HL.out;omega)]⟩,hb.trans (hb3.mono hb.size),hbel3.size,h'.below hbel3⟩
    case rest =>
     obtain⟨A2,c2,G,lv,rfl,rfl,hIG,HG,hbx,hsx,hx⟩:=hcut
     have hmk2:=hmk2'.out
     go_wp2
     go_loopw [72] (fun i wr=>∃ (p:Nat) (cs:Array Value),p≤k∧i=.int .i64 p∧Bl wr wc.heap.size 49 cs∧RecRow enc2 2 cs k (fun j=>if j<p then (xs[j]!.1,grantV t xs j) else (0,0))∧RowKit.Below wc.heap.size wc wr) (fun i _=>k - (intOf i).toNat)
     case atStart=>exact⟨0,C2,Nat.zero_le _,rfl,Bl.new _ _ _,(RecRow.zeros2 HC2.out).congr (fun j _=>by simp),(Below.refl _ _).alloc (Nat.le_refl _) _⟩
     case round =>
      obtain⟨p,cs2,hp,rfl,HB,HR,hbel2⟩:=hrel
      by_cases hlt2:p<k
      ·obtain⟨b,off,x,y,hA,hbl,hc1,hc2,HX⟩:=hx.get2 hlt2
       subst hA
       obtain⟨b2,off2,gv,hA2,hbl2,hc3,HX2⟩:=hIG.get hlt2
       subst hA2
       have e1:wr.cell? ⟨b,off+p*2,none⟩=some (.int .i64 x):=(hbel2.cell (p:=⟨b,off+p*2,none⟩) hbl).trans hc1
       have e2:wr.cell? ⟨b2,off2+p,none⟩=some (.int .i64 gv):=(hbel2.cell (p:=⟨b2,off2+p,none⟩) hbl2).trans hc3
       have q0:=HR.cell HB hlt2 (c:=0) (by omega)
       have q1:=HR.cell HB hlt2 (c:=1) (by omega)
       rw [if_neg (by omega)] at q0 q1
       have q0':wr.cell? ⟨wc.heap.size,p*2,none⟩=some (.int .i64 0):=q0
       have q1':wr.cell? ⟨wc.heap.size,p*2+1,none⟩=some (.int .i64 0):=q1
       have f0:wr.frozen? ⟨wc.heap.size,p*2,none⟩=false:=HB.free _
       have f1:wr.frozen? ⟨wc.heap.size,p*2+1,none⟩=false:=HB.free _
       have hgv:grantV t xs p=gv:=by rw [← HG.out.2 p hlt2,HX2.out]
       have HP:Hid (RecRow enc2 2 ((cs2.setIfInBounds (p*2) (.int .i64 x)).setIfInBounds (p*2+1) (.int .i64 gv)) k (fun j=>if j<p+1 then (xs[j]!.1,grantV t xs j) else (0,0))):=(HR.put2 p (x,gv) hlt2).congr (fun j hj=>by
        by_cases e:j=p
        ·subst e;rw [if_pos rfl,if_pos (by omega),HX.out,hgv]
        ·rw [if_neg e];by_cases e2:j<p
         ·rw [if_pos e2,if_pos (by omega)]
         ·rw [if_neg e2,if_neg (by omega)])
       have i1:(0:Int)≤(p:Int):=by omega
       have i2:(p:Int)<(k:Int):=by omega
       clear q0 q1 hc1 hc2 hc3 hgv
       go_wp2
       go_region
       go_wp2
       go_roundw
       case rel=>exact⟨p+1,_,by omega,by go_num,(HB.put _ _).put _ _,HP.out,((hbel2.setCell (Nat.le_refl _) _).setCell (Nat.le_refl _) _).drew⟩
       case measure=>simp [intOf];omega
      ·obtain rfl:p=k:=by omega
       have how:=(HR.congr (g:=fun j=>(xs[j]!.1,grantV t xs j)) (fun j hj=>by simp [hj])).own enc2_len HB hbx.size (by omega)
       have hgo:(List.range p).map (fun j=>(xs[j]!.1,grantV t xs j))=grantsOf t xs:=by unfold grantsOf;rw [HL.out]
       rw [hgo] at how
       go_wp2
       go_ret3
       rw [HSE.out,← HG.out.1]
       exact⟨_,_,_,rfl,by rw [grantsOf_len];exact HL.out,how,hbx.trans (hbel2.mono hbx.size)⟩
 ·unfold allocOut allocLeft
  rw [E,if_neg h3,if_neg h3]
  have b1:(vErr xs != 0)=true:=by simpa using h3
  clear E h3
  generalize vErr xs=er at *
  go_enter Tryz.func12,Tryz.ntmps12
  go_wp2_with fail
  refine HV.out.mono ?_
  rintro e w1 ⟨rfl,hb1⟩
  go_wp2
  go_ret3
  exact⟨_,_,_,rfl,rfl,own_nil2 _ _ _,hb1⟩
end Go.Proofs.YtbokkeooahodaaaGreatDoor
namespace Go.Proofs.YtbokkeooahodaaaGreatDoor
set_option linter.unusedVariables false
theorem partR_qty {l:List Ms} {x:It} {q v:Int} {rest:Bool} (h:(ofKind l 1 x).isSome=true) (n:Nat):(partR l x q v rest (n+1)).1.qty=q:=by
 induction n with
 | zero =>
  rw [partR_step]
  cases ho:ofKind l ((0+1:Nat):Int) x with
  | none =>
   have e:ofKind l 1 x=none:=ho
   rw [e] at h;cases h
  | some m =>
   rw [stepR_some ho (by simp)]
   show (if _ then _ else _:Dl).qty=q
   rw [if_pos (.inl rfl)]
   rfl
 | succ n ih =>
  rw [partR_step]
  cases ho:ofKind l ((n+1+1:Nat):Int) x with
  | none=>rw [stepR_none ho];exact ih
  | some m =>
   by_cases h2:(((n+1+1:Nat):Int)=3∧x.proof=false)∨(((n+1+1:Nat):Int)=4∧rest=true)
   ·rw [stepR_skip ho h2];exact ih
   ·rw [stepR_some ho h2]
    show (if _ then _ else _:Dl).qty=q
    split
    ·rfl
    ·exact ih
theorem first_qty {l:List Ms} {x:It} {ls:List Dl} (h:asOut l x=(0,ls)) (hg:x.gr≠0):0<ls.length∧ls[0]!.qty=x.gr:=by
 rw [← refOut_eq] at h
 unfold refOut at h
 by_cases h1:mssErr l=0
 case neg=>rw [if_pos h1] at h;injection h with h;exact absurd h h1
 rw [if_neg (by simpa using h1)] at h
 by_cases h2:itErr x=0
 case neg=>rw [if_pos h2] at h;injection h with h;exact absurd h h2
 rw [if_neg (by simpa using h2)] at h
 by_cases h3:(ofKind l 1 x).isSome=false
 case pos=>rw [if_pos h3] at h;injection h with h;exact absurd h (by decide)
 rw [if_neg h3] at h
 by_cases h4:refOver l x=true∨1000000000000<sumA (refLines l x)
 case pos=>rw [if_pos h4] at h;injection h with h;exact absurd h (by decide)
 rw [if_neg h4] at h
 injection h with _ h
 subst h
 have e:has0 x=true:=by unfold has0;simpa using hg
 have e2:refLines l x=(partR l x x.gr (shA x) false 4).1 :: ((if has1 x then [(partR l x (x.qty - x.gr) (shB x) true 4).1] else []) ++ addK l x 5 ++ addK l x 6):=by
  unfold refLines;rw [if_pos e];simp
 rw [e2]
 exact⟨by simp,partR_qty (by cases hq:(ofKind l 1 x).isSome;exact absurd hq h3;rfl) 3⟩
theorem grants_get {t:Int} {xs:List (Int × Int)} {i:Nat} (h:i<xs.length):(grantsOf t xs)[i]! = (xs[i]!.1,grantV t xs i):=by
 rw [getElem!_pos _ i (by rw [grantsOf_len];exact h)]
 simp [grantsOf]
theorem qs_take {xs:List (Int × Int)} {k:Nat} (h:k<xs.length):(qsOf (xs.take (k+1))).sum=(qsOf (xs.take k)).sum+xs[k]!.2:=by
 unfold qsOf
 rw [List.take_succ_eq_append_getElem h,getElem!_pos xs k h,List.map_append,List.sum_append]
 simp
theorem qs_bound {xs:List (Int × Int)} {B:Int} (h:∀ i,i<xs.length→0≤xs[i]!.2∧xs[i]!.2≤B) (k:Nat) (hk:k≤xs.length):0≤(qsOf (xs.take k)).sum∧(qsOf (xs.take k)).sum≤B*(k:Int):=by
 induction k with
 | zero=>simp [qsOf]
 | succ k ih =>
  have h1:=ih (by omega)
  have h2:=h k (by omega)
  rw [qs_take (by omega)]
  have e:B*((k+1:Nat):Int)=B*(k:Int)+B:=by
   rw [show ((k+1:Nat):Int)=(k:Int)+1 by omega,Int.mul_add,Int.mul_one]
  rw [e]
  omega
theorem qs_grants {t:Int} {xs:List (Int × Int)}:qsOf (grantsOf t xs)=(List.range xs.length).map (grantV t xs):=by
 simp [qsOf,grantsOf]
theorem quota_day {t:Int} {xs:List (Int × Int)} (h0:0≤t) (h1:t≤1000000000000) (hn:xs.length≤200) (ho:okAll xs) (ha:okAsc xs) :
  allocErr t xs=0∧allocOut t xs=grantsOf t xs∧(∀ i,i<xs.length→0≤grantV t xs i∧grantV t xs i≤xs[i]!.2)∧(qsOf (grantsOf t xs)).sum+allocLeft t xs=t∧(allocLeft t xs=0∨allocLeft t xs=t - (qsOf xs).sum)∧0≤allocLeft t xs∧allocLeft t xs≤t:=by
 have he:allocErr t xs=0:=by unfold allocErr;rw [if_neg (by omega)];exact vErr_ok hn ho ha
 have hq:∀ i,i<xs.length→0≤xs[i]!.2∧xs[i]!.2≤1000000000:=fun i hi=>(ho i hi).2.2
 have hN:NonNeg (qsOf xs):=fun i=>by
  by_cases hi:i<xs.length
  ·rw [qsOf_get xs i hi];exact (hq i hi).1
  ·rw [List.getD,List.getElem?_eq_none (by rw [qsOf_len];omega)];exact Int.le_refl _
 have hl:allocLeft t xs=max (t - (qsOf xs).sum) 0:=by unfold allocLeft;rw [if_pos he]
 have ho2:allocOut t xs=grantsOf t xs:=by unfold allocOut;rw [if_pos he]
 have hs0:0≤(qsOf xs).sum:=by have:=(qs_bound hq xs.length (Nat.le_refl _)).1;rwa [List.take_length] at this
 refine⟨he,ho2,?_,?_,by rw [hl];omega,by rw [hl];omega,by rw [hl];omega⟩
 ·intro i hi
  unfold grantV
  by_cases hs:(qsOf xs).sum≤t
  ·rw [if_pos hs]
   exact⟨(hq i hi).1,Int.le_refl _⟩
  ·rw [if_neg hs]
   have hp:0<(qsOf xs).length:=by rw [qsOf_len];omega
   refine⟨share_nonneg hN h0 hp i,?_⟩
   have:=share_le_weight hN hp h0 (by omega) i (by rw [qsOf_len];exact hi)
   rwa [qsOf_get xs i hi] at this
 ·rw [hl,qs_grants]
  by_cases hs:(qsOf xs).sum≤t
  ·have e:(List.range xs.length).map (grantV t xs)=qsOf xs:=by
    rw [← range_getD (qsOf xs) xs.length (qsOf_len xs)]
    apply List.map_congr_left
    intro i hi
    unfold grantV
    rw [if_pos hs,qsOf_get xs i (List.mem_range.1 hi)]
   rw [e]
   omega
  ·have e:(List.range xs.length).map (grantV t xs)=shareL t (qsOf xs):=by
    unfold shareL
    rw [qsOf_len]
    apply List.map_congr_left
    intro i hi
    unfold grantV
    rw [if_neg hs]
   have hp:0<(qsOf xs).length:=by
    rcases Nat.eq_zero_or_pos (qsOf xs).length with h | h
    ·have:=List.eq_nil_of_length_eq_zero h
     rw [this] at hs
     exact absurd (by simpa using h0) hs
    ·exact h
   rw [e]
   have:(shareL t (qsOf xs)).sum=sumN (qsOf xs).length (shareI t (qsOf xs)):=rfl
   rw [this,sum_share hN hp]
   omega
end Go.Proofs.YtbokkeooahodaaaGreatDoor
namespace Go.Proofs.YtbokkeooahodaaaGreatDoor
open Go.RowKit
set_option linter.unusedVariables false
def encIt (x:It):List Value:=[.string x.code,.string x.org,.bool x.proof,.int .i64 x.co,.int .i64 x.day,.int .i64 x.qty,.int .i64 x.val,.int .i64 x.gr]
theorem encIt_len (x:It):(encIt x).length=8:=rfl
theorem encIt_one (x:It):∀ v∈encIt x,v.oneCell'=true:=fun v hv=>by
 simp only [encIt,List.mem_cons,List.not_mem_nil,or_false] at hv
 rcases hv with rfl | rfl | rfl | rfl | rfl | rfl | rfl | rfl <;> rfl
theorem enc2_lenQ (p:Int × Int):(enc2 p).length=2:=rfl
theorem enc2_oneQ (p:Int × Int):∀ v∈enc2 p,v.oneCell'=true:=fun v hv=>by
 simp only [enc2,List.mem_cons,List.not_mem_nil,or_false] at hv
 rcases hv with rfl | rfl <;> rfl
theorem infoIt:(Tryz.prog.info? 33).map (fun i=>(i.zero,i.size,i.bytes))=some (some (.agg #[.string ⟨#[]⟩,.string ⟨#[]⟩,.bool false,.int .i64 0,.int .i64 0,.int .i64 0,.int .i64 0,.int .i64 0]),8,80):=by kernel_rfl
theorem infoRq:(Tryz.prog.info? 45).map (fun i=>(i.zero,i.size,i.bytes))=some (some (.agg #[.int .i64 0,.int .i64 0]),2,16):=by kernel_rfl
theorem flat_setQ {α:Type} [Inhabited α] {enc:α→List Value} {k:Nat} (hk:∀ x,(enc x).length=k) {v:Value} {y:α} {c:Nat} (hc:c<k):∀ (xs:List α) (i:Nat),i<xs.length→enc y=(enc xs[i]!).set c v→flat enc (xs.set i y)=(flat enc xs).set (i*k+c) v:=by
 intro xs
 induction xs with
 | nil=>intro i h;cases h
 | cons x xs ih =>
  intro i h e
  cases i with
  | zero =>
   have e':enc y=(enc x).set c v:=e
   show enc y ++ flat enc xs=(enc x ++ flat enc xs).set (0*k+c) v
   rw [Nat.zero_mul,Nat.zero_add,List.set_append_left _ _ (by rw [hk];exact hc),e']
  | succ i =>
   have hi:i<xs.length:=by simpa using h
   have e':enc y=(enc xs[i]!).set c v:=by simpa using e
   show enc x ++ flat enc (xs.set i y)=(enc x ++ flat enc xs).set ((i+1)*k+c) v
   have h1:(i+1)*k+c=k+(i*k+c):=by rw [Nat.add_mul,Nat.one_mul];omega
   rw [h1,List.set_append_right _ _ (by rw [hk];omega),hk,Nat.add_sub_cancel_left,ih i hi e']
theorem get_setQ {α:Type} [Inhabited α] (xs:List α) (i j:Nat) (y:α) (hi:i<xs.length):(xs.set i y)[j]! = if i=j then y else xs[j]!:=by
 by_cases e:i=j
 ·subst e;rw [if_pos rfl,getElem!_pos (xs.set i y) i (by simpa using hi)];simp
 ·rw [if_neg e]
  by_cases hj:j<xs.length
  ·rw [getElem!_pos (xs.set i y) j (by simpa using hj),getElem!_pos xs j hj,List.getElem_set_ne e]
  ·rw [getElem!_neg (xs.set i y) j (by simpa using hj),getElem!_neg xs j hj]
structure QdW (w:World) (X:Option Addr) (n cx:Nat) (ys:List It) (L:Option Addr) (m cl:Nat) (rq:List (Int × Int)) (wx:World):Prop where
 below:RowKit.Below w.heap.size w wx
 xo:wx.ownsRow w.heap.size 33 8 (.slice X n cx) n (flat encIt ys)
 lo:wx.ownsRow w.heap.size 45 2 (.slice L m cl) m (flat enc2 rq)
 xl:ys.length=n
 ll:rq.length=m
section
variable {w wx w':World} {X L:Option Addr} {n cx m cl:Nat} {ys:List It} {rq:List (Int × Int)}
theorem QdW.under (h:QdW w X n cx ys L m cl rq wx) (hb:RowKit.Below wx.heap.size wx w'):QdW w X n cx ys L m cl rq w' :=
 ⟨h.below.trans (hb.mono h.below.size),own_below h.xo hb,own_below h.lo hb,h.xl,h.ll⟩
theorem QdW.alloc (h:QdW w X n cx ys L m cl rq wx) (o:Obj):QdW w X n cx ys L m cl rq (wx.alloc o):=h.under ((Below.refl _ _).alloc (Nat.le_refl _) _)
theorem QdW.drew (h:QdW w X n cx ys L m cl rq wx):QdW w X n cx ys L m cl rq wx.drew:=h.under (Below.refl _ _).drew
theorem QdW.drewN (h:QdW w X n cx ys L m cl rq wx) (q:Nat):QdW w X n cx ys L m cl rq (wx.drewN q):=h.under (below_drewN (Below.refl _ _) q)
theorem QdW.xr (h:QdW w X n cx ys L m cl rq wx):Recs encIt 8 wx X n ys:=Recs.of_own encIt_len h.xo h.xl
theorem QdW.lr (h:QdW w X n cx ys L m cl rq wx):Recs enc2 2 wx L m rq:=Recs.of_own enc2_lenQ h.lo h.ll
theorem QdW.appX (h:QdW w X n cx ys L m cl rq wx) {y:It} {X':Option Addr} {cx':Nat} (hg:wx.grownBy w' (Value.slice X n cx).ownBlock) (ho:w'.ownsRow w.heap.size 33 8 (.slice X' (n+1) cx') (n+1) (flat encIt ys ++ encIt y)) :
  QdW w X' (n+1) cx' (ys ++ [y]) L m cl rq w' :=
 ⟨h.below.grown hg h.below.size (fun g e=>own_base h.xo g e),by rw [flat_append,flat_one];exact ho,own_of_block h.lo fun g hgb=>hg.block g (own_lt h.lo g hgb) (fun e=>own_far20 h.lo h.xo (by decide) g hgb e.symm),by rw [List.length_append,h.xl];rfl,h.ll⟩
theorem QdW.appL (h:QdW w X n cx ys L m cl rq wx) {y:Int × Int} {L':Option Addr} {cl':Nat} (hg:wx.grownBy w' (Value.slice L m cl).ownBlock) (ho:w'.ownsRow w.heap.size 45 2 (.slice L' (m+1) cl') (m+1) (flat enc2 rq ++ enc2 y)) :
  QdW w X n cx ys L' (m+1) cl' (rq ++ [y]) w' :=
 ⟨h.below.grown hg h.below.size (fun g e=>own_base h.lo g e),own_of_block h.xo fun g hgb=>hg.block g (own_lt h.xo g hgb) (fun e=>own_far20 h.xo h.lo (by decide) g hgb e.symm),by rw [flat_append,flat_one];exact ho,h.xl,by rw [List.length_append,h.ll];rfl⟩
theorem QdW.put {g:Nat} (h:QdW w (some ⟨g,0,none⟩) n cx ys L m cl rq wx) {i:Nat} (hi:i<n) (v:Int) :
  QdW w (some ⟨g,0,none⟩) n cx (ys.set i { ys[i]! with gr:=v }) L m cl rq (wx.setCell ⟨g,i*8+7,none⟩ (.int .i64 v)):=by
 have hb:w.heap.size≤g:=own_base h.xo g rfl
 refine⟨h.below.setCell (p:=⟨g,i*8+7,none⟩) hb _,?_,own_set20 h.lo (fun b hb2 e=>own_far20 h.lo h.xo (by decide) b hb2 (by rw [e];rfl)) _ _,by rw [List.length_set];exact h.xl,h.ll⟩
 rw [flat_setQ (k:=8) encIt_len (c:=7) (by omega) (v:=.int .i64 v) ys i (by rw [h.xl];exact hi) rfl]
 exact (h.xo.stored (i*8+7) (.int .i64 v)).1
theorem QdW.stepX (h:QdW w X n cx ys L m cl rq wx) (y:It) {A:Option Addr} (hr:Rd wx 8 A 1 (encIt y)) (hn:n≤100) {ops:Array Oper} {o:Oper} {a:Act} {K:Act→World→Prop} {Q:Exit→Act→World→Prop} {E:Prop} (hgd:o.guard=none) (s x:Operand)
  (ho:o.op=.call { callee:=.builtin .append,args:=#[s,x],argTypes:=#[43,43] }) {c:Nat} (hs:a.eval s=.slice X n cx) (hx:a.eval x=.slice A 1 c)
  (hK:∀ X' cx' w',QdW w X' (n+1) cx' (ys ++ [y]) L m cl rq w'→wx.grownBy w' (Value.slice X n cx).ownBlock→K (a.put o.dst (.slice X' (n+1) cx')) w') :
  if Region.wanted o (yielded ops a.tmps)=true then Oper.wp Tryz.prog o a wx K Q else E:=by
 refine step_append_rd wx hgd s x 43 ho w.heap.size 33 _ 8 80 Tryz.underlying43 infoIt rfl (by decide) (.slice X n cx) n (flat encIt ys) hs h.xo A 1 c (encIt y) hx hr (encIt_one y) (by unfold maxLen;omega) (by omega) h.below.size ?_
 intro v' w' ho' hg
 obtain⟨X',cx',rfl⟩:=own_slice ho'
 exact hK X' cx' w' (h.appX hg ho') hg
theorem QdW.stepL (h:QdW w X n cx ys L m cl rq wx) (y:Int × Int) {A:Option Addr} (hr:Rd wx 2 A 1 (enc2 y)) (hn:m≤100) {ops:Array Oper} {o:Oper} {a:Act} {K:Act→World→Prop} {Q:Exit→Act→World→Prop} {E:Prop} (hgd:o.guard=none) (s x:Operand)
  (ho:o.op=.call { callee:=.builtin .append,args:=#[s,x],argTypes:=#[42,42] }) {c:Nat} (hs:a.eval s=.slice L m cl) (hx:a.eval x=.slice A 1 c)
  (hK:∀ L' cl' w',QdW w X n cx ys L' (m+1) cl' (rq ++ [y]) w'→wx.grownBy w' (Value.slice L m cl).ownBlock→K (a.put o.dst (.slice L' (m+1) cl')) w') :
  if Region.wanted o (yielded ops a.tmps)=true then Oper.wp Tryz.prog o a wx K Q else E:=by
 refine step_append_rd wx hgd s x 42 ho w.heap.size 45 _ 2 16 Tryz.underlying42 infoRq rfl (by decide) (.slice L m cl) m (flat enc2 rq) hs h.lo A 1 c (enc2 y) hx hr (enc2_oneQ y) (by unfold maxLen;omega) (by omega) h.below.size ?_
 intro v' w' ho' hg
 obtain⟨L',cl',rfl⟩:=own_slice ho'
 exact hK L' cl' w' (h.appL hg ho') hg
end
theorem bl_drewQ {w:World} {g:Nat} {T:TypeId} {cs:Array Value} (h:Bl w g T cs):Bl w.drew g T cs:=h
theorem bl_past {wb wp:World} {row:Option Nat} {g:Nat} {T:TypeId} {cs:Array Value} (h:Bl wb g T cs) (hg:wb.grownBy wp row) (hne:some g≠row):Bl wp g T cs:=(hg.block g h.lt hne).trans h
theorem it_at {wx:World} {gx k j:Nat} {ys:List It} {y:It} (h:Recs encIt 8 wx (some ⟨gx,0,none⟩) k ys) (hj:j<k) (hy:ys[j]! = y) :
  wx.cell? ⟨gx,j*8,none⟩=some (.string y.code)∧wx.cell? ⟨gx,j*8+1,none⟩=some (.string y.org)∧wx.cell? ⟨gx,j*8+2,none⟩=some (.bool y.proof)∧wx.cell? ⟨gx,j*8+3,none⟩=some (.int .i64 y.co)∧wx.cell? ⟨gx,j*8+4,none⟩=some (.int .i64 y.day)∧wx.cell? ⟨gx,j*8+5,none⟩=some (.int .i64 y.qty)∧wx.cell? ⟨gx,j*8+6,none⟩=some (.int .i64 y.val)∧wx.cell? ⟨gx,j*8+7,none⟩=some (.int .i64 y.gr):=by
 obtain⟨b,o,e,_,hc⟩:=h.at_ hj
 injection e with e
 injection e with e1 e2
 subst e1 e2
 rw [hy] at hc
 simp only [Nat.zero_add] at hc
 exact⟨hc 0 (by omega),hc 1 (by omega),hc 2 (by omega),hc 3 (by omega),hc 4 (by omega),hc 5 (by omega),hc 6 (by omega),hc 7 (by omega)⟩
theorem pr_at {wx:World} {A:Option Addr} {k j:Nat} {rq:List (Int × Int)} {p:Int × Int} (h:Recs enc2 2 wx A k rq) (hj:j<k) (hp:rq[j]! = p) :
  ∃ b off,A=some ⟨b,off,none⟩∧wx.cell? ⟨b,off+j*2,none⟩=some (.int .i64 p.1)∧wx.cell? ⟨b,off+j*2+1,none⟩=some (.int .i64 p.2):=by
 obtain⟨b,o,e,_,hc⟩:=h.at_ hj
 rw [hp] at hc
 exact⟨b,o,e,hc 0 (by omega),hc 1 (by omega)⟩
def QOk (ys:List It) (rq:List (Int × Int)) (k:Nat):Prop:=∀ j,j<k→ItOk ys[j]!∧rq[j]! = ((j:Int)+1,ys[j]!.qty)
theorem get_app {α:Type} [Inhabited α] {xs:List α} {y:α} {k j:Nat} (h:xs.length=k) (hj:j<k+1):(xs ++ [y])[j]! = if j=k then y else xs[j]!:=by
 rw [getElem!_pos (xs ++ [y]) j (by rw [List.length_append,h];exact hj),List.getElem_append]
 by_cases e:j=k
 ·rw [if_pos e,dif_neg (by omega)];simp
 ·rw [if_neg e,dif_pos (by omega),getElem!_pos xs j (by omega)]
theorem QOk.snoc {ys:List It} {rq:List (Int × Int)} {k:Nat} {y:It} (h:QOk ys rq k) (hy:ItOk y) (h1:ys.length=k) (h2:rq.length=k):QOk (ys ++ [y]) (rq ++ [((k:Int)+1,y.qty)]) (k+1):=fun j hj=>by
 rw [get_app h1 hj,get_app h2 hj]
 by_cases e:j=k
 ·subst e;rw [if_pos rfl,if_pos rfl];exact⟨hy,rfl⟩
 ·rw [if_neg e,if_neg e];exact h j (by omega)
theorem QOk.set {ys:List It} {rq:List (Int × Int)} {k i:Nat} {v:Int} (h:QOk ys rq k) (hi:i<ys.length) (hv:0≤v∧v≤ys[i]!.qty) (hk:i<k):QOk (ys.set i { ys[i]! with gr:=v }) rq k:=fun j hj=>by
 rw [get_setQ ys i j _ hi]
 by_cases e:i=j
 ·subst e
  rw [if_pos rfl]
  obtain⟨a,b⟩:=h i hj
  exact⟨⟨a.code,a.org,a.qty,a.val,hv⟩,b⟩
 ·rw [if_neg e];exact h j hj
theorem QOk.all {ys:List It} {rq:List (Int × Int)} {k:Nat} (h:QOk ys rq k) (hl:rq.length=k) (hk:k≤100):okAll rq∧okAsc rq:=by
 constructor
 ·intro i hi
  obtain⟨a,b⟩:=h i (by omega)
  rw [b]
  exact⟨(show (1:Int)≤(i:Int)+1 by omega),(show (i:Int)+1≤1000000 by omega),a.qty.1,a.qty.2⟩
 ·intro r hr
  obtain⟨_,b⟩:=h r (by omega)
  obtain⟨_,b2⟩:=h (r+1) (by omega)
  rw [b,b2]
  show (r:Int)+1<((r+1:Nat):Int)+1
  omega
theorem lev_get (s:ByteArray) {k:Nat} (h:k<s.size):s.toList[k]? = some (s[k]'h):=by rw [← drop_get s k h]
theorem rlev_bad {s:ByteArray} {k:Nat} (h:k<s.size) (hb:isDig (s[k]'h)=false):levelV s=0:=by
 unfold levelV levelL
 rw [if_neg]
 rintro ⟨_,h2⟩
 rw [List.all_eq_true] at h2
 have:=h2 (s[k]'h) (List.mem_of_getElem? (lev_get s h))
 rw [hb] at this
 cases this
theorem rlev_all {s:ByteArray} (h:∀ j (hj:j<s.size),isDig (s[j]'hj)=true):levelV s=if (s.size=2∨s.size=4∨s.size=6∨s.size=8) then (s.size:Int) else 0:=by
 have ha:s.toList.all isDig=true:=by
  rw [List.all_eq_true]
  intro b hb
  obtain⟨j,hj,rfl⟩:=List.getElem_of_mem hb
  have hj':j<s.size:=by rw [toList_len] at hj;exact hj
  have e:=lev_get s hj'
  rw [List.getElem?_eq_getElem hj] at e
  injection e with e
  rw [e]
  exact h j hj'
 unfold levelV levelL
 rw [toList_len,ha]
 simp
set_option maxRecDepth 100000 in
set_option maxHeartbeats 4000000 in
theorem rlevel_any (s:ByteArray) (w:World) (hs:s.size≤1000000) :
  Calls Tryz.prog 76 #[.string s] w fun e w'=>e=.returned (.int .i64 (levelV s))∧w=w':=by
 have HB:Hid (∀ k (h:k<s.size),isDig (s[k]'h)=false→levelV s=0):=fun k h hb=>rlev_bad h hb
 have HA:Hid ((∀ j (hj:j<s.size),isDig (s[j]'hj)=true)→levelV s=if (s.size=2∨s.size=4∨s.size=6∨s.size=8) then (s.size:Int) else 0):=rlev_all
 generalize levelV s=res at *
 go_enter Tryz.func76,Tryz.ntmps76
 go_wp2
 go_loopw [3] (fun i wr=>∃ k:Nat,k≤s.size∧i=.int .i64 k∧Hid (∀ j (hj:j<s.size),j<k→isDig (s[j]'hj)=true)∧w=wr) (fun i _=>s.size - (intOf i).toNat)
 case atStart=>exact⟨0,Nat.zero_le _,rfl,fun j hj h=>absurd h (by omega),rfl⟩
 case round =>
  obtain⟨k,hk,rfl,HD,rfl⟩:=hrel
  by_cases hlt:k<s.size
  ·have i1:(0:Int)≤(k:Int):=by omega
   have i2:(k:Int)<(s.size:Int):=by omega
   have HE1:Hid (isDig (s[k]'hlt)=false→res=0):=fun h=>HB.out k hlt h
   have HD1:Hid (isDig (s[k]'hlt)=true→∀ j (hj:j<s.size),j<k+1→isDig (s[j]'hj)=true):=fun h j hj hjk=>by
    by_cases e:j=k
    ·subst e;exact h
    ·exact HD.out j hj (by omega)
   have HI:Hid (isDig (s[k]'hlt)=(decide (48≤(s[k]'hlt).toNat) && decide ((s[k]'hlt).toNat≤57))):=rfl
   by_cases c1:(s[k]'hlt).toNat<48
   ·have d1:decide ((((s[k]'hlt).toNat:Nat):Int)<48)=true:=by simp;omega
    have E:=Lib.hid (HE1.out (by rw [HI.out];simp;omega))
    go_wp2
    go_ret
    exact⟨ret_int' E.out.symm,rfl⟩
   ·have d1:decide ((((s[k]'hlt).toNat:Nat):Int)<48)=false:=by simp;omega
    by_cases c2:57<(s[k]'hlt).toNat
    ·have d2:decide ((57:Int)<(((s[k]'hlt).toNat:Nat):Int))=true:=by simp;omega
     have E:=Lib.hid (HE1.out (by rw [HI.out];simp;omega))
     go_wp2
     go_ret
     exact⟨ret_int' E.out.symm,rfl⟩
    ·have d2:decide ((57:Int)<(((s[k]'hlt).toNat:Nat):Int))=false:=by simp;omega
     have HD2:=Lib.hid (HD1.out (by rw [HI.out];simp;omega))
     go_wp2
     go_roundw
     case rel=>exact⟨k+1,by omega,by go_num,HD2.out,trivial⟩
     case measure=>simp [intOf];omega
  ·have e:=Lib.hid (HA.out (fun j hj=>HD.out j hj (by omega)))
   by_cases c1:8<s.size
   ·have d1:decide ((8:Int)<(s.size:Int))=true:=by simp;omega
    have E:Hid (res=0):=by unfold Hid;rw [e.out,if_neg (by omega)]
    go_wp2
    go_ret
    exact⟨ret_int' E.out.symm,rfl⟩
   ·have d1:decide ((8:Int)<(s.size:Int))=false:=by simp;omega
    by_cases c2:s.size % 2=1
    ·have d2:(((s.size:Int)).tmod 2 == 1)=true:=by rw [Int.tmod_eq_emod_of_nonneg (by omega)];simp;omega
     have E:Hid (res=0):=by unfold Hid;rw [e.out,if_neg (by omega)]
     go_wp2
     go_ret
     exact⟨ret_int' E.out.symm,rfl⟩
    ·have d2:(((s.size:Int)).tmod 2 == 1)=false:=by rw [Int.tmod_eq_emod_of_nonneg (by omega)];simp;omega
     have E:Hid (res=(s.size:Int)):=by
      unfold Hid;rw [e.out]
      split
      ·rfl
      ·omega
     go_wp2
     go_ret
     exact⟨ret_int' E.out.symm,rfl⟩
theorem pre_long {s p:ByteArray} (h:s.size<p.size):preB p.toList s.toList=false:=by
 unfold preB
 rcases Bool.eq_false_or_eq_true (p.toList.isPrefixOf s.toList) with e | e
 ·have:=(List.isPrefixOf_iff_prefix.1 e).length_le
  rw [toList_len,toList_len] at this
  omega
 ·exact e
theorem pre_short {s p:ByteArray} (h:p.size≤s.size):preB p.toList s.toList=((s.extract 0 p.size).toList == p.toList):=by
 have e:(s.extract 0 p.size).toList=s.toList.take p.size:=by
  rw [ByteArray.toList_eq,ByteArray.toList_eq,ByteArray.data_extract,Array.toList_extract]
  simp [List.extract]
 unfold preB
 rw [e,Bool.eq_iff_iff,List.isPrefixOf_iff_prefix,List.prefix_iff_eq_take,toList_len,beq_iff_eq]
 exact⟨fun h=>h.symm,fun h=>h.symm⟩
set_option maxRecDepth 100000 in
set_option maxHeartbeats 4000000 in
theorem rprefix_any (s p:ByteArray) (w:World) (hs:s.size≤1000000) (hp:p.size≤1000000) :
  Calls Tryz.prog 142 #[.string s,.string p] w fun e w'=>e=.returned (.bool (preB p.toList s.toList))∧w=w':=by
 by_cases g:p.size≤s.size
 ·have d:decide ((p.size:Int)≤(s.size:Int))=true:=by simp;omega
  have E:=Lib.hid (pre_short g)
  have j1:(0:Int)≤(p.size:Int):=by omega
  have j2:(p.size:Int)≤(s.size:Int):=by omega
  go_enter Tryz.func142,Tryz.ntmps142
  go_wp2
  go_ret
  exact⟨ret_bool E.out.symm,rfl⟩
 ·have d:decide ((p.size:Int)≤(s.size:Int))=false:=by simp;omega
  have E:=Lib.hid (pre_long (s:=s) (p:=p) (by omega))
  go_enter Tryz.func142,Tryz.ntmps142
  go_wp2
  go_ret
  exact⟨ret_bool E.out.symm,rfl⟩
theorem has_yes {l:List ByteArray} {x:ByteArray} {k:Nat} (hk:k<l.length) (h:(l[k]!.toList == x.toList)=true):(l.any fun s=>s.toList == x.toList)=true:=by
 rw [List.any_eq_true]
 exact⟨l[k]!,by rw [getElem!_pos l k hk];exact List.getElem_mem _,h⟩
theorem has_no {l:List ByteArray} {x:ByteArray} (h:∀ j,j<l.length→(l[j]!.toList == x.toList)=false):(l.any fun s=>s.toList == x.toList)=false:=by
 rw [List.any_eq_false]
 intro s hs
 obtain⟨j,hj,rfl⟩:=List.getElem_of_mem hs
 have:=h j hj
 rw [getElem!_pos l j hj] at this
 rw [this]
 simp
set_option maxRecDepth 100000 in
set_option maxHeartbeats 4000000 in
theorem rhas_any (A:Option Addr) (n c:Nat) (l:List ByteArray) (x:ByteArray) (w:World) (h:Sr w A n l) :
  Calls Tryz.prog 143 #[.slice A n c,.string x] w fun e w'=>e=.returned (.bool (l.any fun s=>s.toList == x.toList))∧w=w':=by
 have HL:=Lib.hid h.len
 have hn:=h.2.1
 have HY:Hid (∀ k,k<n→(l[k]!.toList == x.toList)=true→(l.any fun s=>s.toList == x.toList)=true):=fun k hk=>has_yes (by have:=HL.out;omega)
 have HN:Hid ((∀ j,j<n→(l[j]!.toList == x.toList)=false)→(l.any fun s=>s.toList == x.toList)=false):=fun hx=>has_no (fun j hj=>hx j (by have:=HL.out;omega))
 generalize (l.any fun s=>s.toList == x.toList)=res at *
 go_enter Tryz.func143,Tryz.ntmps143
 go_wp2
 go_loopw [5] (fun i wr=>∃ k:Nat,k≤n∧i=.int .i64 k∧Hid (∀ j,j<k→(l[j]!.toList == x.toList)=false)∧w=wr) (fun i _=>n - (intOf i).toNat)
 case atStart=>exact⟨0,Nat.zero_le _,rfl,fun i hi=>absurd hi (by omega),rfl⟩
 case round =>
  obtain⟨k,hk,rfl,HA,rfl⟩:=hrel
  by_cases hlt:k<n
  ·obtain⟨b,off,s,rfl,hbl,hc,hsz,HX⟩:=h.get hlt
   have HE1:Hid ((s.toList == x.toList)=true→res=true):=fun hx=>HY.out k hlt (by rw [HX.out];exact hx)
   have HA2:Hid ((s.toList == x.toList)=false→∀ j,j<k+1→(l[j]!.toList == x.toList)=false):=fun hx j hj=>by
    by_cases e:j=k
    ·subst e;rw [HX.out];exact hx
    ·exact HA.out j (by omega)
   cases hq:(s.toList == x.toList) with
   | true =>
    have E:=Lib.hid (HE1.out hq)
    go_wp2
    go_ret
    exact⟨ret_bool E.out.symm,rfl⟩
   | false =>
    have HA3:=Lib.hid (HA2.out hq)
    go_wp2
    go_roundw
    case rel=>exact⟨k+1,by omega,by go_num,HA3.out,trivial⟩
    case measure=>simp [intOf];omega
  ·have E:=Lib.hid (HN.out (fun j hj=>HA.out j (by omega)))
   go_wp2
   go_ret
   exact⟨ret_bool E.out.symm,rfl⟩
set_option maxRecDepth 100000 in
set_option maxHeartbeats 4000000 in
theorem rctry_any (s:ByteArray) (w:World) (hs:s.size≤1000000) :
  Calls Tryz.prog 77 #[.string s] w fun e w'=>e=.returned (.bool (ctryB s.toList))∧w=w':=by
 by_cases h2:s.size=2
 ·have i0:0<s.size:=by omega
  have i1:1<s.size:=by omega
  have HE:Hid (ctryB s.toList=(capB (s[0]'i0) && capB (s[1]'i1))):=by
   have e2:s.toList.length=2:=by rw [toList_len];exact h2
   have e:s.toList = [s[0]'i0,s[1]'i1]:=by
    apply List.ext_getElem?
    intro i
    rcases i with _ | _ | i
    ·rw [drop_get s 0 i0];rfl
    ·rw [drop_get s 1 i1];rfl
    ·rw [List.getElem?_eq_none (by omega),List.getElem?_eq_none (by simp)]
   unfold Hid
   rw [e]
   simp [ctryB,capB]
  have HC:Hid (∀ c:UInt8,capB c=(decide (65≤c.toNat) && decide (c.toNat≤90))):=fun c=>rfl
  have b2:((s.size:Int) == 2)=true:=by simp;omega
  by_cases c1:65≤(s[0]'i0).toNat
  ·have d1:decide ((65:Int)≤(((s[0]'i0).toNat:Nat):Int))=true:=by simp;omega
   by_cases c2:(s[0]'i0).toNat≤90
   ·have d2:decide ((((s[0]'i0).toNat:Nat):Int)≤90)=true:=by simp;omega
    by_cases c3:65≤(s[1]'i1).toNat
    ·have d3:decide ((65:Int)≤(((s[1]'i1).toNat:Nat):Int))=true:=by simp;omega
     by_cases c4:(s[1]'i1).toNat≤90
     ·have d4:decide ((((s[1]'i1).toNat:Nat):Int)≤90)=true:=by simp;omega
      have E:Hid (ctryB s.toList=true):=by unfold Hid;rw [HE.out,HC.out,HC.out];simp;omega
      clear HE h2
      go_enter Tryz.func77,Tryz.ntmps77
      go_wp2
      go_ret
      exact⟨ret_bool E.out.symm,rfl⟩
     ·have d4:decide ((((s[1]'i1).toNat:Nat):Int)≤90)=false:=by simp;omega
      have E:Hid (ctryB s.toList=false):=by unfold Hid;rw [HE.out,HC.out,HC.out];simp;omega
      clear HE h2
      go_enter Tryz.func77,Tryz.ntmps77
      go_wp2
      go_ret
      exact⟨ret_bool E.out.symm,rfl⟩
    ·have d3:decide ((65:Int)≤(((s[1]'i1).toNat:Nat):Int))=false:=by simp;omega
     have E:Hid (ctryB s.toList=false):=by unfold Hid;rw [HE.out,HC.out,HC.out];simp;omega
     clear HE h2
     go_enter Tryz.func77,Tryz.ntmps77
     go_wp2
     go_ret
     exact⟨ret_bool E.out.symm,rfl⟩
   ·have d2:decide ((((s[0]'i0).toNat:Nat):Int)≤90)=false:=by simp;omega
    have E:Hid (ctryB s.toList=false):=by unfold Hid;rw [HE.out,HC.out,HC.out];simp;omega
    clear HE h2
    go_enter Tryz.func77,Tryz.ntmps77
    go_wp2
    go_ret
    exact⟨ret_bool E.out.symm,rfl⟩
  ·have d1:decide ((65:Int)≤(((s[0]'i0).toNat:Nat):Int))=false:=by simp;omega
   have E:Hid (ctryB s.toList=false):=by unfold Hid;rw [HE.out,HC.out,HC.out];simp;omega
   clear HE h2
   go_enter Tryz.func77,Tryz.ntmps77
   go_wp2
   go_ret
   exact⟨ret_bool E.out.symm,rfl⟩
 ·have b2:((s.size:Int) == 2)=false:=by simp;omega
  have E:Hid (ctryB s.toList=false):=by unfold Hid ctryB;rw [toList_len];simp [h2]
  clear h2
  go_enter Tryz.func77,Tryz.ntmps77
  go_wp2
  go_ret
  exact⟨ret_bool E.out.symm,rfl⟩
end Go.Proofs.YtbokkeooahodaaaGreatDoor

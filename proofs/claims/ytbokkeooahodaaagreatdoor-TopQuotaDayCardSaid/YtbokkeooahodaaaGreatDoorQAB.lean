/-
  A part of the proof of TopQuotaDayCardSaid: lemmas and contracts of functions that the law calls. No statement of the seat is proved here. Conditions: as each says.
-/
import Derived.Test.YtbokkeooahodaaaGreatDoorQAA
import Derived.Test.YtbokkeooahodaaaGreatDoorProg
import Derived.BigQuiet
import Derived.Deep.QuietTactic
import Derived.WalkLawsBesides
import Derived.Maps.AppendAt
import Derived.Deep.AppendLies
import Derived.RegionTactic
namespace Go.Proofs.YtbokkeooahodaaaGreatDoor
set_option linter.unusedVariables false
def wsum (ws:List Int):Int:=if ws.sum=0 then ws.length else ws.sum
def wt (ws:List Int) (i:Nat):Int:=if ws.sum=0 then 1 else ws.getD i 0
def quoI (t:Int) (ws:List Int) (i:Nat):Int:=t*wt ws i / wsum ws
def rstI (t:Int) (ws:List Int) (i:Nat):Int:=t*wt ws i % wsum ws
def leftI (t:Int) (ws:List Int):Int:=t - sumN ws.length (quoI t ws)
def shareI (t:Int) (ws:List Int) (i:Nat):Int:=quoI t ws i+if (rank (rstI t ws) ws.length i:Int)<leftI t ws then 1 else 0
def shareL (t:Int) (ws:List Int):List Int:=(List.range ws.length).map (shareI t ws)
theorem shareL_length (t:Int) (ws:List Int):(shareL t ws).length=ws.length:=by simp [shareL]
theorem shareL_get (t:Int) (ws:List Int) (i:Nat) (h:i<ws.length):(shareL t ws).getD i 0=shareI t ws i:=by
 simp [shareL,List.getD,h]
def NonNeg (ws:List Int):Prop:=∀ i:Nat,0≤ws.getD i 0
variable {t:Int} {ws:List Int}
theorem sum_nonneg (h:NonNeg ws):0≤ws.sum:=by
 rw [← sumN_list]
 exact sumN_nonneg fun i _=>h i
theorem wsum_pos (h:NonNeg ws) (hn:0<ws.length):0<wsum ws:=by
 have:=sum_nonneg h
 unfold wsum
 split <;> omega
theorem wt_nonneg (h:NonNeg ws) (i:Nat):0≤wt ws i:=by
 unfold wt
 split
 ·omega
 ·exact h i
theorem sum_wt (ws:List Int):sumN ws.length (wt ws)=wsum ws:=by
 unfold wsum
 by_cases h:ws.sum=0
 ·rw [if_pos h]
  have:sumN ws.length (wt ws)=sumN ws.length (fun _=>1):=sumN_congr fun i _=>by simp [wt,h]
  rw [this,sumN_const]
  omega
 ·rw [if_neg h,← sumN_list ws]
  exact sumN_congr fun i _=>by simp [wt,h]
theorem rst_nonneg (h:NonNeg ws) (hn:0<ws.length) (i:Nat):0≤rstI t ws i:=Int.emod_nonneg _ (by have:=wsum_pos h hn;omega)
theorem rst_lt (h:NonNeg ws) (hn:0<ws.length) (i:Nat):rstI t ws i<wsum ws:=Int.emod_lt_of_pos _ (wsum_pos h hn)
theorem quo_nonneg (h:NonNeg ws) (ht:0≤t) (hn:0<ws.length) (i:Nat):0≤quoI t ws i:=Int.ediv_nonneg (Int.mul_nonneg ht (wt_nonneg h i)) (by have:=wsum_pos h hn;omega)
theorem quo_rst (t:Int) (ws:List Int) (i:Nat):wsum ws*quoI t ws i+rstI t ws i=t*wt ws i:=Int.mul_ediv_add_emod _ _
theorem sum_rst (t:Int) (ws:List Int):sumN ws.length (rstI t ws)=leftI t ws*wsum ws:=by
 have h1:sumN ws.length (fun i=>wsum ws*quoI t ws i+rstI t ws i)=t*wsum ws:=by
  rw [sumN_congr (fun i _=>quo_rst t ws i),sumN_mul,sum_wt]
 rw [sumN_add,sumN_mul] at h1
 unfold leftI
 rw [Int.sub_mul,Int.mul_comm (sumN _ _)]
 omega
theorem left_nonneg (h:NonNeg ws) (hn:0<ws.length):0≤leftI t ws:=by
 have h1:=sum_rst t ws
 have h2:=sumN_nonneg (n:=ws.length) (f:=rstI t ws) fun i _=>rst_nonneg h hn i
 have h3:=wsum_pos h hn
 rcases Int.lt_or_le (leftI t ws) 0 with h4 | h4
 ·have:=Int.mul_neg_of_neg_of_pos h4 h3
  omega
 ·exact h4
theorem left_lt (h:NonNeg ws) (hn:0<ws.length):leftI t ws<ws.length:=by
 have h1:=sum_rst t ws
 have h2:=sumN_le (n:=ws.length) (f:=rstI t ws) (g:=fun _=>wsum ws - 1) fun i _=>by have:=rst_lt (t:=t) h hn i;omega
 rw [sumN_const,h1] at h2
 have h3:=wsum_pos h hn
 rcases Int.lt_or_le (leftI t ws) ws.length with h4 | h4
 ·exact h4
 ·have h5:(ws.length:Int)*wsum ws≤leftI t ws*wsum ws:=Int.mul_le_mul_of_nonneg_right h4 (by omega)
  rw [Int.mul_sub] at h2
  omega
theorem sum_share (h:NonNeg ws) (hn:0<ws.length):sumN ws.length (shareI t ws)=t:=by
 have h1:=left_nonneg (t:=t) h hn
 have h2:=left_lt (t:=t) h hn
 have h3:=sum_below (rstI t ws) ws.length (leftI t ws) h1 (by omega)
 have h4:sumN ws.length (shareI t ws)=sumN ws.length (quoI t ws)+sumN ws.length (fun i=>if (rank (rstI t ws) ws.length i:Int)<leftI t ws then 1 else 0):=sumN_add _ _ _
 rw [h4,h3]
 unfold leftI
 omega
theorem share_ge (t:Int) (ws:List Int) (i:Nat):quoI t ws i≤shareI t ws i:=by unfold shareI;split <;> omega
theorem share_le (t:Int) (ws:List Int) (i:Nat):shareI t ws i≤quoI t ws i+1:=by unfold shareI;split <;> omega
theorem share_nonneg (h:NonNeg ws) (ht:0≤t) (hn:0<ws.length) (i:Nat):0≤shareI t ws i:=by have:=share_ge t ws i;have:=quo_nonneg h ht hn i;omega
theorem sumN_le_all {n:Nat} {f:Nat→Int} (h:∀ i,i<n→0≤f i) (i:Nat) (hi:i<n):f i≤sumN n f:=by
 induction n with
 | zero=>omega
 | succ n ih =>
  rw [sumN_succ]
  have h1:=sumN_nonneg (n:=n) (f:=f) fun i hi=>h i (by omega)
  have h2:=h n (by omega)
  by_cases e:i=n
  ·subst e;omega
  ·have:=ih (fun i hi=>h i (by omega)) (by omega);omega
theorem share_le_total (h:NonNeg ws) (ht:0≤t) (hn:0<ws.length) (i:Nat) (hi:i<ws.length):shareI t ws i≤t:=by
 have:=sumN_le_all (n:=ws.length) (f:=shareI t ws) (fun i _=>share_nonneg h ht hn i) i hi
 rw [sum_share h hn] at this
 exact this
theorem not_raised (h:NonNeg ws) (hn:0<ws.length) (i:Nat) (hi:i<ws.length) (hr:rstI t ws i=0):leftI t ws≤rank (rstI t ws) ws.length i:=by
 rcases Int.lt_or_le (rank (rstI t ws) ws.length i) (leftI t ws) with h1 | h1
 ·exfalso
  have h2:sumN ws.length (rstI t ws)≤sumN ws.length (fun j=>(wsum ws - 1)*(if (rank (rstI t ws) ws.length j:Int)<rank (rstI t ws) ws.length i then 1 else 0)):=by
   refine sumN_le fun j hj=>?_
   by_cases hb:bef (rstI t ws) j i=true
   ·have:=rank_lt_of_bef (rstI t ws) ws.length j i hj hb
    rw [if_pos (by omega)]
    have:=rst_lt (t:=t) h hn j
    omega
   ·have h0:=rst_nonneg (t:=t) h hn j
    have hz:rstI t ws j=0:=by simp [bef] at hb;omega
    rw [hz]
    have h3:=wsum_pos h hn
    exact Int.mul_nonneg (by omega) (by split <;> omega)
  rw [sumN_mul,sum_below _ _ _ (by omega) (by have:=rank_lt (rstI t ws) ws.length i hi;omega),sum_rst] at h2
  have h3:=wsum_pos h hn
  have h4:(wsum ws - 1)*(rank (rstI t ws) ws.length i:Int)≤(rank (rstI t ws) ws.length i:Int)*wsum ws:=by
   rw [Int.sub_mul,Int.mul_comm]
   omega
  have h5:((rank (rstI t ws) ws.length i:Int)+1)*wsum ws≤leftI t ws*wsum ws:=Int.mul_le_mul_of_nonneg_right (by omega) (by omega)
  rw [Int.add_mul] at h5
  omega
 ·exact h1
theorem share_ceil (h:NonNeg ws) (hn:0<ws.length) (i:Nat) (hi:i<ws.length):shareI t ws i≤(t*wt ws i+wsum ws - 1) / wsum ws:=by
 have h3:=wsum_pos h hn
 have h1:=quo_rst t ws i
 have h2:=rst_nonneg (t:=t) h hn i
 rw [Int.le_ediv_iff_mul_le h3]
 by_cases hr:rstI t ws i=0
 ·have h4:=not_raised (t:=t) h hn i hi hr
  have h5:shareI t ws i=quoI t ws i:=by unfold shareI;rw [if_neg (by omega)];omega
  rw [h5,Int.mul_comm]
  omega
 ·have h4:=share_le t ws i
  have h5:shareI t ws i*wsum ws≤(quoI t ws i+1)*wsum ws:=Int.mul_le_mul_of_nonneg_right h4 (by omega)
  rw [Int.add_mul,Int.mul_comm (quoI t ws i)] at h5
  omega
theorem share_le_weight (h:NonNeg ws) (hn:0<ws.length) (ht:0≤t) (hs:t<ws.sum) (i:Nat) (hi:i<ws.length):shareI t ws i≤ws.getD i 0:=by
 have hsum:¬ ws.sum=0:=by omega
 have hw:wsum ws=ws.sum:=by simp [wsum,hsum]
 have hwt:wt ws i=ws.getD i 0:=by simp [wt,hsum]
 have h1:=share_ceil (t:=t) h hn i hi
 rw [hw,hwt] at h1
 refine Int.le_trans h1 ?_
 have h0:=h i
 have h2:(t*ws.getD i 0+ws.sum - 1) / ws.sum<ws.getD i 0+1:=by
  rw [Int.ediv_lt_iff_lt_mul (by omega),Int.add_mul,Int.mul_comm t]
  have:ws.getD i 0*t≤ws.getD i 0*ws.sum:=Int.mul_le_mul_of_nonneg_left (by omega) h0
  omega
 omega
end Go.Proofs.YtbokkeooahodaaaGreatDoor
namespace Go.Proofs.YtbokkeooahodaaaGreatDoor
open Go.RowKit
theorem ret_int {k:IntKind} {a b:Int} (h:a=b):Ending.returned (.int k a)=.returned (.int k b):=by rw [h]
theorem sum_take_succ (xs:List Int) (k:Nat) (h:k<xs.length):(xs.take (k+1)).sum=(xs.take k).sum+xs.getD k 0:=by
 rw [List.take_succ_eq_append_getElem h,List.sum_append]
 simp [List.getD,List.getElem?_eq_getElem h]
theorem sum_take_bound (xs:List Int) (m:Int) (hr:∀ i:Nat,0≤xs.getD i 0∧xs.getD i 0≤m) (k:Nat) (hk:k≤xs.length):0≤(xs.take k).sum∧(xs.take k).sum≤k*m:=by
 induction k with
 | zero=>simp
 | succ k ih =>
  have h1:=ih (by omega)
  rw [sum_take_succ xs k (by omega)]
  have h2:=hr k
  rw [Int.natCast_succ,Int.add_mul]
  omega
set_option maxHeartbeats 400000 in
theorem sumOf_any (A:Option Addr) (n c:Nat) (xs:List Int) (w:World) (h:Ints w A n xs) (hn:n≤1000) (hr:∀ i:Nat,0≤xs.getD i 0∧xs.getD i 0≤1000000000000) :
  Calls Tryz.prog 74 #[.slice A n c] w fun e w'=>e=.returned (.int .i64 xs.sum)∧w=w':=by
 have HR:=Lib.hid hr
 clear hr
 have hl:=Lib.hid h.1
 go_enter Tryz.func74,Tryz.ntmps74
 go_wp2
 go_loop [3,8] (fun s i=>∃ k:Nat,k≤n∧i=.int .i64 k∧s=.int .i64 (xs.take k).sum) (fun _ i=>n - (intOf i).toNat)
 case atStart=>exact⟨0,Nat.zero_le _,rfl,by simp⟩
 case round =>
  obtain⟨k,hk,rfl,rfl⟩:=hrel
  by_cases hlt:k<n
  ·obtain⟨b,off,rfl,_,hc⟩:=h.at_ hlt
   have hb:=sum_take_bound xs 1000000000000 HR.out k (by have:=hl.out;omega)
   have hb0:=HR.out k
   have HS:=Lib.hid (sum_take_succ xs k (by have:=hl.out;omega))
   generalize xs.getD k 0=x at *
   generalize (xs.take k).sum=s at *
   go_wp2
   go_round
   case rel=>exact⟨k+1,by omega,by go_num,by rw [HS.out]⟩
   case measure=>simp [intOf];omega
  ·go_wp2
   go_ret
   exact⟨ret_int (by rw [List.take_of_length_le (by have:=hl.out;omega)]),rfl⟩
def AllIn (ws:List Int):Prop:=∀ i:Nat,0≤ws.getD i 0∧ws.getD i 0≤1000000000000
instance (ws:List Int):Decidable (AllIn ws):=decidable_of_iff (∀ x∈ws,0≤x∧x≤1000000000000) (by
 constructor
 ·intro h i
  by_cases hi:i<ws.length
  ·have:=h ws[i] (List.getElem_mem hi)
   simpa [List.getD,List.getElem?_eq_getElem hi] using this
  ·simp [List.getD,List.getElem?_eq_none (Nat.le_of_not_lt hi)]
 ·intro h x hx
  obtain⟨i,hi,rfl⟩:=List.mem_iff_getElem.1 hx
  have:=h i
  simpa [List.getD,List.getElem?_eq_getElem hi] using this)
def chkErr (total:Int) (ws:List Int):Int :=
 if 1000<ws.length then 8 else if total<0∨1000000000000<total then 2
 else if AllIn ws then (if ws.length=0∧0<total then 7 else 0) else 2
theorem allIn_step (ws:List Int) (k:Nat) (h:∀ i:Nat,i<k→0≤ws.getD i 0∧ws.getD i 0≤1000000000000) (h0:0≤ws.getD k 0) (h1:ws.getD k 0≤1000000000000):∀ i:Nat,i<k+1→0≤ws.getD i 0∧ws.getD i 0≤1000000000000:=by
 intro i hi
 by_cases e:i=k
 ·subst e;exact⟨h0,h1⟩
 ·exact h i (by omega)
theorem allIn_end (ws:List Int) (h:∀ i:Nat,i<ws.length→0≤ws.getD i 0∧ws.getD i 0≤1000000000000):AllIn ws:=by
 intro i
 by_cases hi:i<ws.length
 ·exact h i hi
 ·simp [List.getD,List.getElem?_eq_none (Nat.le_of_not_lt hi)]
set_option maxHeartbeats 400000 in
theorem check_any (t:Int) (A:Option Addr) (n c:Nat) (xs:List Int) (w:World) (h:Ints w A n xs) (hm:n≤9223372036854775807) :
  Calls Tryz.prog 73 #[.int .i64 t,.slice A n c] w fun e w'=>e=.returned (.int .i64 (chkErr t xs))∧w=w':=by
 have hl:=h.1
 by_cases h1:1000<n
 ·have E:=Lib.hid (show chkErr t xs=8 by unfold chkErr;rw [if_pos (by omega)])
  clear hl
  go_enter Tryz.func73,Tryz.ntmps73
  go_wp2
  go_ret
  exact⟨ret_int E.out.symm,rfl⟩
 by_cases h2:t<0
 ·have E:=Lib.hid (show chkErr t xs=2 by unfold chkErr;rw [if_neg (by omega),if_pos (by omega)])
  clear hl
  go_enter Tryz.func73,Tryz.ntmps73
  go_wp2
  go_ret
  exact⟨ret_int E.out.symm,rfl⟩
 by_cases h3:1000000000000<t
 ·have E:=Lib.hid (show chkErr t xs=2 by unfold chkErr;rw [if_neg (by omega),if_pos (by omega)])
  clear hl
  go_enter Tryz.func73,Tryz.ntmps73
  go_wp2
  go_ret
  exact⟨ret_int E.out.symm,rfl⟩
 have E:chkErr t xs=if AllIn xs then (if xs.length=0∧0<t then 7 else 0) else 2:=by unfold chkErr;rw [if_neg (by omega),if_neg (by omega)]
 have HE:=Lib.hid E
 have HL:=Lib.hid hl
 clear hl E
 have hd1:decide (t<0)=false:=by simpa using h2
 have hd2:decide (1000000000000<t)=false:=by simpa using h3
 go_enter Tryz.func73,Tryz.ntmps73
 go_wp2
 go_loop [6,18] (fun _ i=>∃ k:Nat,k≤n∧i=.int .i64 k∧Hid (∀ i:Nat,i<k→0≤xs.getD i 0∧xs.getD i 0≤1000000000000)) (fun _ i=>n - (intOf i).toNat)
 case atStart=>exact⟨0,Nat.zero_le _,rfl,fun i hi=>absurd hi (by omega)⟩
 case round =>
  obtain⟨k,hk,rfl,HA⟩:=hrel
  by_cases hlt:k<n
  ·obtain⟨b,off,x,rfl,_,hc,HX⟩:=h.get hlt
   by_cases g1:x<0
   ·have g1':decide (x<0)=true:=by simpa using g1
    go_wp2
    go_ret
    exact⟨ret_int (by rw [HE.out,if_neg (fun ha=>by have:=ha k;rw [HX.out] at this;omega)]),rfl⟩
   by_cases g2:1000000000000<x
   ·go_wp2
    go_ret
    exact⟨ret_int (by rw [HE.out,if_neg (fun ha=>by have:=ha k;rw [HX.out] at this;omega)]),rfl⟩
   have HB:=Lib.hid (allIn_step xs k HA.out (by rw [HX.out];omega) (by rw [HX.out];omega))
   go_wp2
   go_round
   case rel=>exact⟨k+1,by omega,by go_num,HB.out⟩
   case measure=>simp [intOf];omega
  ·have HB:=Lib.hid (allIn_end xs (fun i hi=>HA.out i (by have:=HL.out;omega)))
   by_cases g1:n=0
   ·subst g1
    by_cases g2:0<t
    ·go_wp2
     go_ret
     exact⟨ret_int (by rw [HE.out,if_pos HB.out,if_pos ⟨HL.out,g2⟩]),rfl⟩
    ·go_wp2
     go_ret
     exact⟨ret_int (by rw [HE.out,if_pos HB.out,if_neg (fun ha=>by omega)]),rfl⟩
   ·have g1':((n:Int) == 0)=false:=by simpa using g1
    go_wp2
    go_ret
    exact⟨ret_int (by rw [HE.out,if_pos HB.out,if_neg (fun ha=>g1 (HL.out.symm.trans ha.1))]),rfl⟩
end Go.Proofs.YtbokkeooahodaaaGreatDoor
namespace Go.Proofs.YtbokkeooahodaaaGreatDoor
set_option linter.unusedVariables false
structure Exch where
 cur:ByteArray
 day:Int
 per:Int
deriving Inhabited
structure Chg where
 kind:Int
 amt:Int
 cur:ByteArray
 basis:Int
 line:Int
deriving Inhabited
def firstErr (e:Nat→Int):Nat→Int
 | 0=>0
 | n+1=>if firstErr e n=0 then e n else firstErr e n
theorem firstErr_zero {e:Nat→Int} {n:Nat} (h:∀ i,i<n→e i=0):firstErr e n=0:=by
 induction n with
 | zero=>rfl
 | succ n ih=>rw [firstErr,if_pos (ih fun i hi=>h i (by omega))];exact h n (by omega)
theorem firstErr_at {e:Nat→Int} {k:Nat} (h:∀ i,i<k→e i=0) (hk:e k≠0):∀ n,k<n→firstErr e n=e k:=by
 intro n hn
 induction n with
 | zero=>omega
 | succ n ih =>
  rw [firstErr]
  by_cases x:k=n
  ·subst x;rw [if_pos (firstErr_zero h)]
  ·rw [ih (by omega),if_neg hk]
theorem firstErr_all {e:Nat→Int} {n:Nat} (h:firstErr e n=0):∀ i,i<n→e i=0:=by
 induction n with
 | zero=>intro i hi;omega
 | succ n ih =>
  rw [firstErr] at h
  by_cases x:firstErr e n=0
  ·rw [if_pos x] at h
   intro i hi
   by_cases y:i=n
   ·subst y;exact h
   ·exact ih x i (by omega)
  ·rw [if_neg x] at h;exact absurd h x
def eur:List UInt8:=[69,85,82]
def curB (s:List UInt8):Bool:=s.length == 3 && s.all fun b=>65≤b.toNat && b.toNat≤90
def befB (a b:Exch):Bool:=if a.cur.toList == b.cur.toList then decide (a.day<b.day) else Op.bytesLess a.cur.toList b.cur.toList
def rowErr (xs:List Exch) (i:Nat):Int :=
 if curB xs[i]!.cur.toList=false∨(xs[i]!.cur.toList == eur)=true then 1
 else if xs[i]!.day<0∨36524<xs[i]!.day∨xs[i]!.per<1∨1000000000<xs[i]!.per then 2
 else if 0<i∧befB xs[i - 1]! xs[i]! = false then 9 else 0
def tabErr (xs:List Exch):Int:=if 1000<xs.length then 8 else firstErr (rowErr xs) xs.length
def rateTo (xs:List Exch) (c:List UInt8) (day:Int):Nat→Int
 | 0=>0
 | k+1=>if (xs[k]!.cur.toList == c)=true∧xs[k]!.day≤day then xs[k]!.per else rateTo xs c day k
def rateOf (xs:List Exch) (c:List UInt8) (day:Int):Int:=if c=eur then 1000000 else rateTo xs c day xs.length
def atErr (xs:List Exch) (c:List UInt8) (day:Int):Int :=
 if tabErr xs≠0 then tabErr xs else if day<0∨36524<day then 2 else if rateOf xs c day=0 then 6 else 0
def scaleErr (amt n:Int):Int:=if 1000000000000<amt then 2 else if (divOut (amt*n) 1000000 2).2≠0∨1000000000000<(divOut (amt*n) 1000000 2).1 then 3 else 0
def convErr (xs:List Exch) (amt:Int) (c:List UInt8) (day:Int):Int:=if atErr xs c day≠0 then atErr xs c day else scaleErr amt (rateOf xs c day)
def convOut (xs:List Exch) (amt:Int) (c:List UInt8) (day:Int):Int:=if convErr xs amt c day=0 then (divOut (amt*rateOf xs c day) 1000000 2).1 else 0
theorem rateTo_bounds {xs:List Exch} (h:∀ i,i<xs.length→rowErr xs i=0) (c:List UInt8) (day:Int):∀ k,k≤xs.length→0≤rateTo xs c day k∧rateTo xs c day k≤1000000000:=by
 intro k
 induction k with
 | zero=>intro _;rw [rateTo];omega
 | succ k ih =>
  intro hk
  rw [rateTo]
  split
  ·have:=h k (by omega)
   unfold rowErr at this
   split at this
   ·omega
   ·split at this
    ·omega
    ·omega
  ·exact ih (by omega)
theorem tabErr_zero {xs:List Exch} (h:tabErr xs=0):xs.length≤1000∧∀ i,i<xs.length→rowErr xs i=0:=by
 unfold tabErr at h
 split at h
 ·omega
 ·exact⟨by omega,firstErr_all h⟩
theorem rateOf_bounds {xs:List Exch} (h:tabErr xs=0) (c:List UInt8) (day:Int):0≤rateOf xs c day∧rateOf xs c day≤1000000000:=by
 unfold rateOf
 split
 ·omega
 ·exact rateTo_bounds (tabErr_zero h).2 c day _ (Nat.le_refl _)
theorem divOut_nonneg (n c m:Int) (hn:0≤n) (hc:0≤c):0≤(divOut n c m).1:=by
 unfold divOut
 have:=Int.ediv_nonneg hn hc
 split
 ·exact Int.le_refl _
 ·split
  ·exact Int.le_refl _
  ·split
   ·split
    ·exact Int.le_refl _
    ·show 0≤n / c+1;omega
   ·exact this
theorem convOut_bounds {xs:List Exch} {amt:Int} {c:List UInt8} {day:Int} (h0:0≤amt):0≤convOut xs amt c day∧convOut xs amt c day≤1000000000000:=by
 unfold convOut
 by_cases h:convErr xs amt c day=0
 ·rw [if_pos h]
  unfold convErr at h
  split at h
  ·omega
  ·rename_i ha
   have ha:atErr xs c day=0:=by omega
   unfold atErr at ha
   split at ha
   ·omega
   ·rename_i ht
    have hr:=rateOf_bounds (xs:=xs) (by omega) c day
    have:=divOut_nonneg (amt*rateOf xs c day) 1000000 2 (Int.mul_nonneg h0 hr.1) (by omega)
    unfold scaleErr at h
    split at h
    ·omega
    ·split at h
     ·omega
     ·omega
 ·rw [if_neg h];omega
def lineOk (p:Int × Int):Prop:=0≤p.1∧p.1≤1000000000000∧0≤p.2∧p.2≤1000000000
instance (p:Int × Int):Decidable (lineOk p):=by unfold lineOk;infer_instance
def chgOk (n:Nat) (c:Chg):Prop:=1≤c.kind∧c.kind≤9∧1≤c.basis∧c.basis≤3∧0≤c.amt∧c.amt≤1000000000000∧0≤c.line∧(c.basis=3→c.line<n)∧(c.basis≠3→c.line=0)
instance (n:Nat) (c:Chg):Decidable (chgOk n c):=by unfold chgOk;infer_instance
def linesOk (ls:List (Int × Int)):Prop:=∀ i,i<ls.length→lineOk ls[i]!
def chgsOk (n:Nat) (cs:List Chg):Prop:=∀ i,i<cs.length→chgOk n cs[i]!
instance (ls:List (Int × Int)):Decidable (linesOk ls):=by unfold linesOk;infer_instance
instance (n:Nat) (cs:List Chg):Decidable (chgsOk n cs):=by unfold chgsOk;infer_instance
def invErr (day:Int) (ls:List (Int × Int)) (cs:List Chg):Int :=
 if ls.length=0∨100<ls.length∨50<cs.length then 8
 else if 0≤day∧day≤36524∧linesOk ls∧chgsOk ls.length cs then 0 else 2
def pricesOf (ls:List (Int × Int)):List Int:=ls.map (·.1)
def weightsOf (ls:List (Int × Int)):List Int:=ls.map (·.2)
def partV (ls:List (Int × Int)) (c:Chg) (n:Int) (j:Nat):Int :=
 if c.basis=1 then shareI n (pricesOf ls) j else if c.basis=2 then shareI n (weightsOf ls) j else if (j:Int)=c.line then n else 0
def contrib (t:List Exch) (day:Int) (ls:List (Int × Int)) (j:Nat) (c:Chg):Int :=
 if c.kind=9 then 0 else if c.kind≤5 then partV ls c (convOut t c.amt c.cur.toList day) j else - partV ls c (convOut t c.amt c.cur.toList day) j
def valTo (t:List Exch) (cur:List UInt8) (day:Int) (ls:List (Int × Int)) (cs:List Chg) (k j:Nat):Int :=
 shareI (convOut t (pricesOf ls).sum cur day) (pricesOf ls) j+sumN k (fun i=>contrib t day ls j cs[i]!)
def chgErr (t:List Exch) (day:Int) (cs:List Chg) (i:Nat):Int:=if cs[i]!.kind=9 then 0 else convErr t cs[i]!.amt cs[i]!.cur.toList day
def endErr (n:Nat) (v:Nat→Int):Int :=
 if (List.range n).any (fun j=>decide (v j<0))=true then 12 else if (List.range n).any (fun j=>decide (1000000000000<v j))=true then 3 else 0
theorem any_at {n:Nat} {p:Nat→Bool} (j:Nat) (hj:j<n) (h:p j=true):(List.range n).any p=true:=List.any_eq_true.2 ⟨j,List.mem_range.2 hj,h⟩
theorem any_none {n:Nat} {p:Nat→Bool} (h:∀ j,j<n→p j=false):(List.range n).any p=false:=List.any_eq_false.2 fun j hj=>by rw [h j (List.mem_range.1 hj)];simp
theorem endErr_neg {n:Nat} {v:Nat→Int} (j:Nat) (hj:j<n) (h:v j<0):endErr n v=12:=by
 unfold endErr;rw [if_pos (any_at j hj (by simpa using h))]
theorem endErr_over {n:Nat} {v:Nat→Int} (h0:∀ j,j<n→0≤v j) (j:Nat) (hj:j<n) (h:1000000000000<v j):endErr n v=3:=by
 unfold endErr
 rw [if_neg (by rw [any_none fun j hj=>by simpa using h0 j hj];simp),if_pos (any_at j hj (by simpa using h))]
theorem endErr_ok {n:Nat} {v:Nat→Int} (h0:∀ j,j<n→0≤v j∧v j≤1000000000000):endErr n v=0:=by
 unfold endErr
 rw [if_neg (by rw [any_none fun j hj=>by simpa using (h0 j hj).1];simp),if_neg (by rw [any_none fun j hj=>by simpa using (h0 j hj).2];simp)]
theorem endErr_congr {n:Nat} {v u:Nat→Int} (h:∀ j,j<n→v j=u j):endErr n v=endErr n u:=by
 have e1:(List.range n).any (fun j=>decide (v j<0))=(List.range n).any (fun j=>decide (u j<0)):=by
  rw [Bool.eq_iff_iff,List.any_eq_true,List.any_eq_true]
  constructor <;> rintro ⟨j,hj,hp⟩ <;> exact⟨j,hj,by rw [List.mem_range] at hj;simpa [h j hj] using hp⟩
 have e2:(List.range n).any (fun j=>decide (1000000000000<v j))=(List.range n).any (fun j=>decide (1000000000000<u j)):=by
  rw [Bool.eq_iff_iff,List.any_eq_true,List.any_eq_true]
  constructor <;> rintro ⟨j,hj,hp⟩ <;> exact⟨j,hj,by rw [List.mem_range] at hj;simpa [h j hj] using hp⟩
 unfold endErr
 rw [e1,e2]
def valErr (t:List Exch) (cur:List UInt8) (day:Int) (ls:List (Int × Int)) (cs:List Chg):Int :=
 if invErr day ls cs≠0 then invErr day ls cs
 else if 1000000000000<(pricesOf ls).sum then 3
 else if convErr t (pricesOf ls).sum cur day≠0 then convErr t (pricesOf ls).sum cur day
 else if firstErr (chgErr t day cs) cs.length≠0 then firstErr (chgErr t day cs) cs.length
 else endErr ls.length (valTo t cur day ls cs cs.length)
def valOut (t:List Exch) (cur:List UInt8) (day:Int) (ls:List (Int × Int)) (cs:List Chg):List Int :=
 if valErr t cur day ls cs=0 then (List.range ls.length).map (valTo t cur day ls cs cs.length) else []
structure Du where
 rate:Int
 am:Int
 per:Int
 hm:Bool
 most:Int
 hl:Bool
 least:Int
deriving Inhabited
structure Ms where
 id:Int
 kind:Int
 pre:ByteArray
 orgs:List ByteArray
 co:Int
 fr:Int
 til:Int
 reg:Int
 du:Du
deriving Inhabited
structure It where
 code:ByteArray
 org:ByteArray
 proof:Bool
 co:Int
 day:Int
 qty:Int
 val:Int
 gr:Int
deriving Inhabited
structure Dl where
 kind:Int
 meas:Int
 qty:Int
 val:Int
 amt:Int
deriving Inhabited
def duRange (d:Du):Prop:=0≤d.rate∧d.rate≤10000000∧0≤d.am∧d.am≤100000000∧(0<d.am→1≤d.per∧d.per≤1000000)∧(d.am=0→d.per=0)∧0≤d.most∧d.most≤10000000∧0≤d.least∧d.least≤10000000
def duFit (d:Du):Prop:=(d.hm=false→d.most=0)∧(d.hl=false→d.least=0)∧(d.hm=true→d.hl=true→d.least≤d.most)
instance (d:Du):Decidable (duRange d):=by unfold duRange;exact inferInstance
instance (d:Du):Decidable (duFit d):=by unfold duFit;exact inferInstance
def duErr (d:Du):Int:=if ¬ duRange d then 2 else if ¬ duFit d then 1 else 0
theorem duErr_range {d:Du} (h:¬ duRange d):duErr d=2:=by unfold duErr;rw [if_pos h]
theorem duErr_fit {d:Du} (h:duRange d) (h2:¬ duFit d):duErr d=1:=by unfold duErr;rw [if_neg (by simpa using h),if_pos h2]
theorem duErr_ok {d:Du} (h:duRange d) (h2:duFit d):duErr d=0:=by unfold duErr;rw [if_neg (by simpa using h),if_neg (by simpa using h2)]
theorem duErr_zero {d:Du} (h:duErr d=0):duRange d∧duFit d:=by
 unfold duErr at h
 by_cases a:duRange d
 ·rw [if_neg (by simpa using a)] at h
  by_cases b:duFit d
  ·exact⟨a,b⟩
  ·rw [if_pos b] at h;cases h
 ·rw [if_pos a] at h;cases h
def perOf (d:Du):Int:=if 1≤d.per then d.per else 1
def num0 (d:Du) (v q:Int):Int:=d.rate*v*perOf d+d.am*q*1000000
def num1 (d:Du) (v q:Int):Int:=if d.hm=true∧d.most*v*perOf d<num0 d v q then d.most*v*perOf d else num0 d v q
def num2 (d:Du) (v q:Int):Int:=if d.hl=true∧num1 d v q<d.least*v*perOf d then d.least*v*perOf d else num1 d v q
def quo18 (d:Du) (v q:Int):Int × Int:=divOut (num2 d v q) (1000000*perOf d) 2
def inRange (v q:Int):Prop:=0≤v∧v≤1000000000000∧0≤q∧q≤1000000000
instance (v q:Int):Decidable (inRange v q):=by unfold inRange;exact inferInstance
def evalOut (d:Du) (v q:Int):Int × Int :=
 if duErr d≠0 then (0,duErr d)
 else if ¬ inRange v q then (0,2)
 else if (quo18 d v q).2≠0∨1000000000000<(quo18 d v q).1 then (0,3)
 else ((quo18 d v q).1,0)
theorem evalOut_bad {d:Du} {v q:Int} (h:duErr d≠0):evalOut d v q=(0,duErr d):=by unfold evalOut;rw [if_pos h]
theorem evalOut_range {d:Du} {v q:Int} (h:duErr d=0) (h2:¬ inRange v q):evalOut d v q=(0,2):=by unfold evalOut;rw [if_neg (by simpa using h),if_pos h2]
theorem evalOut_over {d:Du} {v q:Int} (h:duErr d=0) (h2:inRange v q) (h3:(quo18 d v q).2≠0∨1000000000000<(quo18 d v q).1):evalOut d v q=(0,3):=by
 unfold evalOut;rw [if_neg (by simpa using h),if_neg (by simpa using h2),if_pos h3]
theorem evalOut_ok {d:Du} {v q:Int} (h:duErr d=0) (h2:inRange v q) (h3:¬ ((quo18 d v q).2≠0∨1000000000000<(quo18 d v q).1)):evalOut d v q=((quo18 d v q).1,0):=by
 unfold evalOut;rw [if_neg (by simpa using h),if_neg (by simpa using h2),if_neg h3]
theorem perOf_pos (d:Du):1≤perOf d:=by unfold perOf;split <;> omega
theorem perOf_le {d:Du} (h:duRange d):perOf d≤1000000:=by
 obtain⟨_,_,h3,_,h5,h6,_⟩:=h
 unfold perOf
 split
 ·by_cases e:0<d.am
  ·exact (h5 e).2
  ·have:=h6 (by omega);omega
 ·omega
theorem mul_bound {a b A B:Int} (ha:0≤a) (ha':a≤A) (hb:0≤b) (hb':b≤B):0≤a*b∧a*b≤A*B :=
 ⟨Int.mul_nonneg ha hb,Int.mul_le_mul ha' hb' hb (by omega)⟩
theorem num2_bound {d:Du} {v q:Int} (h:duRange d) (hr:inRange v q):0≤num2 d v q∧num2 d v q≤10100000000000000000000000:=by
 have hp:=perOf_pos d
 have hp':=perOf_le h
 obtain⟨a1,a2,a3,a4,a5,a6,a7,a8,a9,a10⟩:=h
 obtain⟨b1,b2,b3,b4⟩:=hr
 have k1:=mul_bound a1 a2 b1 b2
 have k2:=mul_bound a7 a8 b1 b2
 have k3:=mul_bound a9 a10 b1 b2
 have k4:=mul_bound a3 a4 b3 b4
 have m1:=mul_bound k1.1 k1.2 (show 0≤perOf d by omega) hp'
 have m2:=mul_bound k2.1 k2.2 (show 0≤perOf d by omega) hp'
 have m3:=mul_bound k3.1 k3.2 (show 0≤perOf d by omega) hp'
 unfold num2 num1 num0
 split <;> split <;> omega
def isDig (b:UInt8):Bool:=decide (48≤b.toNat) && decide (b.toNat≤57)
def levelL (l:List UInt8):Int:=if (l.length=2∨l.length=4∨l.length=6∨l.length=8)∧l.all isDig=true then (l.length:Int) else 0
def levelV (s:ByteArray):Int:=levelL s.toList
def ctryB (l:List UInt8):Bool:=l.length == 2 && l.all fun b=>decide (65≤b.toNat) && decide (b.toNat≤90)
def orgsOk (l:List ByteArray):Prop:=(∀ i,i<l.length→ctryB l[i]!.toList=true)∧∀ i,i<l.length→0<i→Op.bytesLess l[i - 1]!.toList l[i]!.toList=true
instance (l:List ByteArray):Decidable (orgsOk l):=by unfold orgsOk;exact inferInstance
def msHead (m:Ms):Prop:=1≤m.id∧m.id≤1000000∧1≤m.kind∧m.kind≤6∧0≤m.co∧m.co≤999
def msTime (m:Ms):Prop:=0≤m.fr∧m.fr<m.til∧m.til≤36525∧-1≤m.reg∧m.reg≤m.fr
instance (m:Ms):Decidable (msHead m):=by unfold msHead;exact inferInstance
instance (m:Ms):Decidable (msTime m):=by unfold msTime;exact inferInstance
def msErr (l:List Ms) (i:Nat):Int :=
 if ¬ msHead l[i]! then 2
 else if 0<i∧l[i]!.id≤l[i - 1]!.id then 9
 else if levelV l[i]!.pre=0 then 1
 else if 20<l[i]!.orgs.length then 8
 else if ¬ orgsOk l[i]!.orgs then 1
 else if ¬ msTime l[i]! then 2
 else duErr l[i]!.du
def mssErr (l:List Ms):Int:=if 300<l.length then 8 else firstErr (msErr l) l.length
def inForce (m:Ms) (day:Int):Bool:=(decide (m.fr≤day) && decide (day<m.til)) || (decide (m.reg ≠ -1) && (decide (m.reg≤day) && decide (day<m.fr)))
def preB (p c:List UInt8):Bool:=p.isPrefixOf c
def coversB (m:Ms) (x:It):Bool:=inForce m x.day && (preB m.pre.toList x.code.toList && ((decide (m.orgs.length=0) || m.orgs.any fun s=>s.toList == x.org.toList) && (decide (m.co=0) || decide (m.co=x.co))))
def precB (x y:Ms):Bool :=
 if x.pre.size≠y.pre.size then decide (y.pre.size<x.pre.size)
 else if x.co=0∧y.co≠0∨x.co≠0∧y.co=0 then decide (x.co≠0)
 else if x.orgs.length≠y.orgs.length then (decide (y.orgs.length=0) || (decide (x.orgs.length≠0) && decide (x.orgs.length<y.orgs.length)))
 else decide (y.id<x.id)
def bestOf (l:List Ms) (kind:Int) (x:It):Nat→Int
 | 0=>-1
 | n+1=>if l[n]!.kind=kind∧coversB l[n]! x=true∧(bestOf l kind x n<0∨precB l[n]! l[(bestOf l kind x n).toNat]! = true) then (n:Int) else bestOf l kind x n
def ofKind (l:List Ms) (kind:Int) (x:It):Option Ms:=if bestOf l kind x l.length<0 then none else some l[(bestOf l kind x l.length).toNat]!
def appTo (l:List Ms) (x:It):Nat→List Ms
 | 0=>[]
 | n+1=>appTo l x n ++ (ofKind l (n+1:Nat) x).toList
def applic (l:List Ms) (x:It):List Ms:=appTo l x 6
def itFit (x:It):Prop:=levelV x.code=8∧ctryB x.org.toList=true
def itRange (x:It):Prop:=0≤x.co∧x.co≤999∧0≤x.day∧x.day≤36524∧0≤x.qty∧x.qty≤1000000000∧0≤x.val∧x.val≤1000000000000∧0≤x.gr∧x.gr≤x.qty
instance (x:It):Decidable (itFit x):=by unfold itFit;exact inferInstance
instance (x:It):Decidable (itRange x):=by unfold itRange;exact inferInstance
def itErr (x:It):Int:=if ¬ itFit x then 1 else if ¬ itRange x then 2 else 0
structure Pt where
 qty:Int
 val:Int
 kinds:List Int
deriving Inhabited
def stepL (p:Pt) (s:Int × Option Dl) (m:Ms):Int × Option Dl :=
 if s.1≠0 then s
 else if (evalOut m.du p.val p.qty).2≠0 then ((evalOut m.du p.val p.qty).2,none)
 else match s.2 with
  | none=>(0,some ⟨m.kind,m.id,p.qty,p.val,(evalOut m.du p.val p.qty).1⟩)
  | some b=>if (evalOut m.du p.val p.qty).1<b.amt then (0,some ⟨m.kind,m.id,p.qty,p.val,(evalOut m.du p.val p.qty).1⟩) else s
def triedOf (l:List Ms) (p:Pt):List Ms:=p.kinds.flatMap fun k=>l.filter fun m=>decide (m.kind=k)
def leastOf (l:List Ms) (p:Pt):Int × Option Dl:=(triedOf l p).foldl (stepL p) (0,none)
def kindsOf (x:It):List Int:=if x.proof=true then [1,2,3] else [1,2]
def partsL (x:It) (a b:Int):List Pt :=
 (if 0<x.gr then [⟨x.gr,a,kindsOf x ++ [4]⟩] else []) ++ (if 0<x.qty - x.gr∨x.qty=0 then [⟨x.qty - x.gr,b,kindsOf x⟩] else []) ++ [⟨x.qty,x.val,[5]⟩,⟨x.qty,x.val,[6]⟩]
def linesOf (l:List Ms):List Pt→Int × List Dl
 | []=>(0,[])
 | p :: ps=>if (leastOf l p).1≠0 then ((leastOf l p).1,[]) else ((linesOf l ps).1,(leastOf l p).2.toList ++ (linesOf l ps).2)
def sumA (l:List Dl):Int:=(l.map (·.amt)).foldr (· + ·) 0
theorem sumA_nil:sumA [] = 0:=rfl
theorem sumA_cons (d:Dl) (l:List Dl):sumA (d :: l)=d.amt+sumA l:=rfl
theorem sumA_append (a b:List Dl):sumA (a ++ b)=sumA a+sumA b:=by
 induction a with
 | nil=>simp [sumA_nil]
 | cons x a ih=>rw [List.cons_append,sumA_cons,sumA_cons,ih];omega
end Go.Proofs.YtbokkeooahodaaaGreatDoor
namespace Go.Proofs.YtbokkeooahodaaaGreatDoor
open Go.RowKit
set_option linter.unusedVariables false
def IntRow (cs:Array Value) (n:Nat) (f:Nat→Int):Prop:=cs.size=n∧∀ j,j<n→cs[j]? = some (.int .i64 (f j))
section
variable {cs:Array Value} {n:Nat} {f g:Nat→Int}
theorem IntRow.congr (h:IntRow cs n f) (e:∀ j,j<n→f j=g j):IntRow cs n g:=⟨h.1,fun j hj=>by rw [h.2 j hj,e j hj]⟩
theorem IntRow.put (h:IntRow cs n f) (i:Nat) (v:Int):IntRow (cs.setIfInBounds i (.int .i64 v)) n (fun j=>if j=i then v else f j):=by
 refine⟨by simpa using h.1,fun j hj=>?_⟩
 rw [Array.getElem?_setIfInBounds]
 by_cases e:i=j
 ·subst e
  rw [if_pos rfl,if_pos (by rw [h.1];exact hj)]
  simp
 ·have e2:¬ j=i:=fun x=>e x.symm
  rw [if_neg e,h.2 j hj]
  simp [e2]
theorem IntRow.set (h:IntRow cs n f) (i:Nat) (v:Int) (e:∀ j,j<n→g j=if j=i then v else f j):IntRow (cs.setIfInBounds i (.int .i64 v)) n g:=(h.put i v).congr fun j hj=>(e j hj).symm
theorem IntRow.zeros {C:Array Value} {n:Nat} (h:C.size=n*1∧∀ j,j<n*1→C[j]? = some ((Value.int .i64 0).cells[j % (Value.int .i64 0).cells.size]!)):IntRow C n (fun _=>0) :=
 ⟨by rw [h.1];omega,fun j hj=>by rw [h.2 j (by omega)];simp [Value.cells,Nat.mod_one]⟩
theorem IntRow.cell {w:World} {b:Nat} {t:TypeId} (h:IntRow cs n f) (hb:Bl w b t cs) {j:Nat} (hj:j<n):w.cell? ⟨b,j,none⟩=some (.int .i64 (f j)):=(hb.cell j).trans (h.2 j hj)
theorem IntRow.own {w:World} {b base:Nat} {t:TypeId} (h:IntRow cs n f) (hb:Bl w b t cs) (hg:base≤b) (hn:n≤9223372036854775807):w.ownsRow base t 1 (.slice (some ⟨b,0,none⟩) n n) n (((List.range n).map f).map (Value.int .i64)) :=
 hb.own_ints hg h.1 (by simp) hn (fun i hi=>by rw [h.2 i hi];simp [List.getD,hi])
end
def Rd (w:World) (size:Nat) (A:Option Addr) (n:Nat) (xs:List Value):Prop :=
 xs.length=n*size∧(0<n→∃ b off,A=some ⟨b,off,none⟩∧b<w.heap.size∧∀ j u,xs[j]? = some u→w.cell? ⟨b,off+j,none⟩=some u)
section
variable {w w':World} {size n:Nat} {A:Option Addr} {xs:List Value}
theorem Rd.of_ints {k:IntKind} {zs:List Int} (h:IntsK k w A n zs):Rd w 1 A n (zs.map (Value.int k)):=by
 refine⟨by rw [List.length_map,h.1];omega,fun hn=>?_⟩
 obtain⟨b,off,e,hlt,hc⟩:=h.2 hn
 refine⟨b,off,e,hlt,fun j u hu=>?_⟩
 rw [List.getElem?_map] at hu
 obtain⟨z,hz,rfl⟩:=Option.map_eq_some_iff.1 hu
 have hj:j<zs.length:=by
  rcases Nat.lt_or_ge j zs.length with h1 | h1
  ·exact h1
  ·rw [List.getElem?_eq_none h1] at hz;cases hz
 rw [hc j (by have:=h.1;omega),List.getD,hz]
 rfl
end
section
variable {P:Program} (w:World)
theorem run_append_nothing (base:Nat) (t ty e:TypeId) (i:TypeInfo) (size:Nat) (ht:P.underlying t=some (.slice e)) (hi:P.info? e=some i)
  (v:Value) (n:Nat) (xs:List Value) (hown:w.ownsRow base e size v n xs) (c:Nat):(Builtin.append_ #[t,t] ty #[v,.slice none 0 c]).run P w=.ok v w:=by
 rcases hown.2 with ⟨rfl,rfl⟩ | ⟨g,cap,cur,rfl,_,_,hnc,_⟩
 ·simp [Builtin.append_,run_underlying ht,sizeOf,typeInfo,hi,Builtin.lenOf,Builtin.firstCells]
 ·simp [Builtin.append_,run_underlying ht,sizeOf,typeInfo,hi,Builtin.lenOf,Builtin.firstCells,hnc,storeCells]
theorem run_append_rd (base:Nat) (t ty e:TypeId) (i:TypeInfo) (z:Value) (size bytes:Nat) (ht:P.underlying t=some (.slice e)) (hi:P.info? e=some i) (hz:i.zero=some z)
  (hsize:i.size=size) (hby:i.bytes=bytes) (hzs:z.cells.size=size) (hsz:0<size)
  (v:Value) (n:Nat) (xs:List Value) (hown:w.ownsRow base e size v n xs)
  (A:Option Addr) (m c:Nat) (news:List Value) (hr:Rd w size A m news) (h1:∀ u∈news,u.oneCell'=true)
  (h63:n+m≤maxLen) (hbytes:(n+m)*bytes≤140737488355328) (hbase:base≤w.heap.size) :
  ∃ v' w',(Builtin.append_ #[t,t] ty #[v,.slice A m c]).run P w=.ok v' w'∧w'.ownsRow base e size v' (n+m) (xs ++ news)∧w.grownBy w' v.ownBlock ∧
   (v'.ownBlock=v.ownBlock∨v'.ownBlock=some w.heap.size):=by
 rcases A with _ | ad
 ·have hm:m=0:=by
   rcases Nat.eq_zero_or_pos m with h0 | h0
   ·exact h0
   ·obtain⟨b,off,h,_⟩:=hr.2 h0;cases h
  subst hm
  obtain rfl:news = []:=List.eq_nil_of_length_eq_zero (by simpa using hr.1)
  exact⟨v,w,run_append_nothing w base t ty e i size ht hi v n xs hown c,by simpa using hown,World.grownBy.refl w _,.inl rfl⟩
 ·have hcells:∀ j u,news[j]? = some u→w.cell? (ad.add j)=some u:=by
   intro j u hu
   rcases Nat.eq_zero_or_pos m with h0 | h0
   ·subst h0
    obtain rfl:news = []:=List.eq_nil_of_length_eq_zero (by simpa using hr.1)
    simp at hu
   ·obtain⟨b,off,h,_,hc⟩:=hr.2 h0
    injection h with h
    subst h
    have:=hc j u hu
    by_cases hj0:j=0
    ·subst hj0;simpa [Addr.add] using this
    ·simpa [Addr.add,hj0] using this
  obtain⟨v',w',hrun,h2,h3,_,h5⟩:=run_append_own_at (P:=P) w base t ty e i z size bytes ht hi hz hsize hby hzs hsz v n xs hown ad m c news hr.1 hcells h1 h63 hbytes hbase
  exact⟨v',w',hrun,h2,h3,h5⟩
theorem wpList_append_rd {ops:Array Oper} {rest:List Oper} {o:Oper} {a:Act} {Q:Exit→Act→World→Prop} (hgd:o.guard=none) (s x:Operand) (t:TypeId)
  (ho:o.op=.call { callee:=.builtin .append,args:=#[s,x],argTypes:=#[t,t] })
  (base:Nat) (e:TypeId) (z:Value) (size bytes:Nat) (ht:P.underlying t=some (.slice e)) (hi:(P.info? e).map (fun i=>(i.zero,i.size,i.bytes))=some (some z,size,bytes)) (hzs:z.cells.size=size) (hsz:0<size)
  (v:Value) (n:Nat) (xs:List Value) (hs:a.eval s=v) (hown:w.ownsRow base e size v n xs)
  (A:Option Addr) (m c:Nat) (news:List Value) (hx:a.eval x=.slice A m c) (hr:Rd w size A m news) (h1:∀ u∈news,u.oneCell'=true)
  (h63:n+m≤maxLen) (hbytes:(n+m)*bytes≤140737488355328) (hbase:base≤w.heap.size)
  (h:∀ v' w',w'.ownsRow base e size v' (n+m) (xs ++ news)→w.grownBy w' v.ownBlock→(v'.ownBlock=v.ownBlock∨v'.ownBlock=some w.heap.size)→wpList P ops Q rest (a.put o.dst v') w'):wpList P ops Q (o :: rest) a w:=by
 obtain⟨i,hi0,hz,hsize,hby⟩:=info_parts hi
 refine wpList_plain hgd fun K hK=>?_
 obtain⟨v',w',hrun,h2,h3,h4⟩:=run_append_rd (P:=P) w base t o.type e i z size bytes ht hi0 hz hsize hby hzs hsz v n xs hown A m c news hr h1 h63 hbytes hbase
 unfold Oper.wp execOp
 simp only [ho,resolve,invoke,builtin,Sem.run_bind,Sem.run_pure,Result.andThen_ok,List.map_toArray,List.map_cons,List.map_nil,hs,hx,hrun]
 exact hK _ _ (h v' w' h2 h3 h4)
end
theorem own_slice {w:World} {base:Nat} {e:TypeId} {size:Nat} {v:Value} {n:Nat} {xs:List Value} (h:w.ownsRow base e size v n xs):∃ A c,v=.slice A n c:=by
 rcases h.2 with ⟨rfl,rfl⟩ | ⟨g,cap,cur,rfl,_⟩
 ·exact⟨_,_,rfl⟩
 ·exact⟨_,_,rfl⟩
theorem own_base {w:World} {base:Nat} {e:TypeId} {size:Nat} {v:Value} {n:Nat} {xs:List Value} (h:w.ownsRow base e size v n xs) (g:Nat) (hg:v.ownBlock=some g):base≤g:=by
 rcases h.2 with ⟨rfl,rfl⟩ | ⟨g',cap,cur,rfl,hb,_⟩
 ·simp [Value.ownBlock] at hg
 ·simp [Value.ownBlock] at hg;omega
def Recs {α:Type} [Inhabited α] (enc:α→List Value) (k:Nat) (w:World) (A:Option Addr) (n:Nat) (xs:List α):Prop :=
 xs.length=n∧(0<n→∃ b off,A=some ⟨b,off,none⟩∧b<w.heap.size∧∀ i,i<n→∀ c,c<k→w.cell? ⟨b,off+i*k+c,none⟩=some ((enc xs[i]!)[c]!))
section
variable {α:Type} {enc:α→List Value} {k n:Nat} {w:World}
def flat (enc:α→List Value) (xs:List α):List Value:=xs.flatMap enc
theorem flat_length (hk:∀ x,(enc x).length=k) (xs:List α):(flat enc xs).length=xs.length*k:=by
 induction xs with
 | nil=>simp [flat]
 | cons x xs ih =>
  have:flat enc (x :: xs)=enc x ++ flat enc xs:=by simp [flat]
  rw [this,List.length_append,ih,hk,List.length_cons,Nat.add_mul]
  omega
theorem flat_append (xs ys:List α):flat enc (xs ++ ys)=flat enc xs ++ flat enc ys:=by simp [flat]
theorem flat_one (x:α):flat enc [x] = enc x:=by simp [flat]
def RecRow (enc:α→List Value) (k:Nat) (cs:Array Value) (n:Nat) (f:Nat→α):Prop:=cs.size=n*k∧∀ j,j<n→∀ c,c<k→cs[j*k+c]? = some ((enc (f j))[c]!)
theorem RecRow.congr {cs:Array Value} {f g:Nat→α} (h:RecRow enc k cs n f) (e:∀ j,j<n→f j=g j):RecRow enc k cs n g:=⟨h.1,fun j hj c hc=>by rw [h.2 j hj c hc,e j hj]⟩
theorem RecRow.cell {cs:Array Value} {f:Nat→α} {b:Nat} {t:TypeId} (h:RecRow enc k cs n f) (hb:Bl w b t cs) {j c:Nat} (hj:j<n) (hc:c<k):w.cell? ⟨b,j*k+c,none⟩=some ((enc (f j))[c]!):=(hb.cell _).trans (h.2 j hj c hc)
end
section
variable {α:Type} [Inhabited α] {enc:α→List Value} {k:Nat} {w w':World} {A:Option Addr} {n:Nat} {xs:List α}
theorem Recs.nil:Recs enc k w A 0 []:=⟨rfl,fun h=>absurd h (by omega)⟩
theorem Recs.below (h:Recs enc k w A n xs) (hb:RowKit.Below w.heap.size w w'):Recs enc k w' A n xs :=
 ⟨h.1,fun hn=>by
  obtain⟨b,off,e,hlt,hc⟩:=h.2 hn
  exact⟨b,off,e,by have:=hb.size;omega,fun i hi c hcc=>(hb.cell (p:=⟨b,off+i*k+c,none⟩) hlt).trans (hc i hi c hcc)⟩⟩
theorem Recs.alloc (h:Recs enc k w A n xs) (o:Obj):Recs enc k (w.alloc o) A n xs:=h.below ((Below.refl _ _).alloc (Nat.le_refl _) _)
theorem Recs.at_ (h:Recs enc k w A n xs) {i:Nat} (hi:i<n):∃ b off,A=some ⟨b,off,none⟩∧b<w.heap.size∧∀ c,c<k→w.cell? ⟨b,off+i*k+c,none⟩=some ((enc xs[i]!)[c]!):=by
 obtain⟨b,off,e,hlt,hc⟩:=h.2 (by omega)
 exact⟨b,off,e,hlt,fun c hcc=>hc i hi c hcc⟩
theorem flat_get (hk:∀ x,(enc x).length=k) (xs:List α) (i c:Nat) (hi:i<xs.length) (hc:c<k):(flat enc xs)[i*k+c]? = some ((enc xs[i]!)[c]!):=by
 induction xs generalizing i with
 | nil=>simp at hi
 | cons x xs ih =>
  have e:flat enc (x :: xs)=enc x ++ flat enc xs:=by simp [flat]
  rw [e]
  cases i with
  | zero =>
   rw [Nat.zero_mul,Nat.zero_add,List.getElem?_append_left (by rw [hk];exact hc),List.getElem?_eq_getElem (by rw [hk];exact hc)]
   simp [getElem!_pos,hk,hc]
  | succ i =>
   rw [List.getElem?_append_right (by rw [hk,Nat.add_mul];omega),hk,show (i+1)*k+c - k=i*k+c by rw [Nat.add_mul];omega,ih i (by simpa using hi)]
   simp
theorem Recs.of_own (hk:∀ x,(enc x).length=k) {base:Nat} {e:TypeId} {c:Nat} (h:w.ownsRow base e k (.slice A n c) n (flat enc xs)) (hl:xs.length=n):Recs enc k w A n xs:=by
 refine⟨hl,fun hn=>?_⟩
 rcases h.2 with ⟨hv,h0⟩ | ⟨g,cap,cur,hv,_,hh,_⟩
 ·omega
 ·injection hv with h1 h2 h3
  subst h1
  have hlt:g<w.heap.size:=by
   rcases Nat.lt_or_ge g w.heap.size with h4 | h4
   ·exact h4
   ·rw [Array.getElem?_eq_none h4] at hh;cases hh
  refine⟨g,0,rfl,hlt,fun i hi c hc=>?_⟩
  have hlt2:i*k+c<n*k:=by
   have:(i+1)*k≤n*k:=Nat.mul_le_mul_right _ hi
   rw [Nat.add_mul] at this
   omega
  rw [Nat.zero_add,h.cellAt (g:=g) (i*k+c) hlt2,flat_get hk xs i c (by omega) hc]
theorem RecRow.own {cs:Array Value} {f:Nat→α} {b base:Nat} {t:TypeId} (hk:∀ x,(enc x).length=k) (h:RecRow enc k cs n f) (hb:Bl w b t cs) (hg:base≤b) (hn:n≤9223372036854775807):w.ownsRow base t k (.slice (some ⟨b,0,none⟩) n n) n (flat enc ((List.range n).map f)):=by
 have hfl:=flat_length hk ((List.range n).map f)
 rw [List.length_map,List.length_range] at hfl
 refine⟨hfl,.inr ⟨b,n,cs,rfl,hg,hb,Nat.le_refl _,by unfold maxLen;omega,h.1,?_⟩⟩
 rw [← h.1,← Array.length_toList,List.take_length]
 apply List.ext_getElem?
 intro i
 by_cases hi:i<n*k
 ·have hk0:0<k:=by
   rcases Nat.eq_zero_or_pos k with e | e
   ·rw [e] at hi;omega
   ·exact e
  have e1:i / k*k+i % k=i:=by have:=Nat.div_add_mod i k;rw [Nat.mul_comm] at this;exact this
  have hj:i / k<n:=(Nat.div_lt_iff_lt_mul hk0).2 hi
  have hc:i % k<k:=Nat.mod_lt _ hk0
  have h1:=h.2 (i / k) hj (i % k) hc
  have h2:=flat_get hk ((List.range n).map f) (i / k) (i % k) (by simpa using hj) hc
  rw [e1] at h1 h2
  rw [Array.getElem?_toList,h1,h2]
  congr 2
  simp [hj]
 ·rw [List.getElem?_eq_none (by rw [Array.length_toList,h.1];omega),List.getElem?_eq_none (by omega)]
end
def enc2 (p:Int × Int):List Value:=[.int .i64 p.1,.int .i64 p.2]
theorem enc2_len (p:Int × Int):(enc2 p).length=2:=rfl
theorem Recs.get2 {w:World} {A:Option Addr} {n:Nat} {xs:List (Int × Int)} (h:Recs enc2 2 w A n xs) {i:Nat} (hi:i<n) :
  ∃ b off x y,A=some ⟨b,off,none⟩∧b<w.heap.size∧w.cell? ⟨b,off+i*2,none⟩=some (.int .i64 x)∧w.cell? ⟨b,off+i*2+1,none⟩=some (.int .i64 y)∧Hid (xs[i]! = (x,y)):=by
 obtain⟨b,off,e,hlt,hc⟩:=h.at_ hi
 exact⟨b,off,xs[i]!.1,xs[i]!.2,e,hlt,hc 0 (by omega),hc 1 (by omega),rfl⟩
theorem RecRow.put2 {cs:Array Value} {n:Nat} {f:Nat→Int × Int} (h:RecRow enc2 2 cs n f) (i:Nat) (p:Int × Int) (hi:i<n) :
  RecRow enc2 2 ((cs.setIfInBounds (i*2) (.int .i64 p.1)).setIfInBounds (i*2+1) (.int .i64 p.2)) n (fun j=>if j=i then p else f j):=by
 have hs:=h.1
 refine⟨by simpa using hs,fun j hj c hc=>?_⟩
 simp only [Array.getElem?_setIfInBounds,Array.size_setIfInBounds]
 have hcc:c=0∨c=1:=by omega
 by_cases e:j=i
 ·subst e
  rcases hcc with rfl | rfl
  ·rw [if_neg (by omega),if_pos (by omega),if_pos (by omega),if_pos rfl];rfl
  ·rw [if_pos rfl,if_pos (by omega),if_pos rfl];rfl
 ·rw [if_neg (by omega),if_neg (by omega),if_neg e,h.2 j hj c hc]
def encX (x:Exch):List Value:=[.string x.cur,.int .i64 x.day,.int .i64 x.per]
def encC (c:Chg):List Value:=[.int .i64 c.kind,.int .i64 c.amt,.string c.cur,.int .i64 c.basis,.int .i64 c.line]
theorem Recs.getX {w:World} {A:Option Addr} {n:Nat} {xs:List Exch} (h:Recs encX 3 w A n xs) {i:Nat} (hi:i<n) :
  ∃ b off c d p,A=some ⟨b,off,none⟩∧b<w.heap.size∧w.cell? ⟨b,off+i*3,none⟩=some (.string c)∧w.cell? ⟨b,off+i*3+1,none⟩=some (.int .i64 d)∧w.cell? ⟨b,off+i*3+2,none⟩=some (.int .i64 p)∧Hid (xs[i]! = ⟨c,d,p⟩):=by
 obtain⟨b,off,e,hlt,hc⟩:=h.at_ hi
 exact⟨b,off,xs[i]!.cur,xs[i]!.day,xs[i]!.per,e,hlt,hc 0 (by omega),hc 1 (by omega),hc 2 (by omega),rfl⟩
theorem Recs.getC {w:World} {A:Option Addr} {n:Nat} {xs:List Chg} (h:Recs encC 5 w A n xs) {i:Nat} (hi:i<n) :
  ∃ b off k a c s l,A=some ⟨b,off,none⟩∧b<w.heap.size∧w.cell? ⟨b,off+i*5,none⟩=some (.int .i64 k)∧w.cell? ⟨b,off+i*5+1,none⟩=some (.int .i64 a)∧w.cell? ⟨b,off+i*5+2,none⟩=some (.string c)∧w.cell? ⟨b,off+i*5+3,none⟩=some (.int .i64 s)∧w.cell? ⟨b,off+i*5+4,none⟩=some (.int .i64 l)∧Hid (xs[i]! = ⟨k,a,c,s,l⟩):=by
 obtain⟨b,off,e,hlt,hc⟩:=h.at_ hi
 exact⟨b,off,xs[i]!.kind,xs[i]!.amt,xs[i]!.cur,xs[i]!.basis,xs[i]!.line,e,hlt,hc 0 (by omega),hc 1 (by omega),hc 2 (by omega),hc 3 (by omega),hc 4 (by omega),rfl⟩
theorem drop_get (s:ByteArray) (k:Nat) (h:k<s.size):s.toList[k]? = some s[k]:=by
 rw [ByteArray.toList_eq,Array.getElem?_toList]
 exact Array.getElem?_eq_getElem h
theorem toList_len (s:ByteArray):s.toList.length=s.size:=by rw [ByteArray.toList_eq];simp
theorem curB_true {s:ByteArray} (h3:s.size=3) (h:∀ i (hi:i<s.size),65≤s[i].toNat∧s[i].toNat≤90):curB s.toList=true:=by
 unfold curB
 rw [toList_len,h3]
 simp only [beq_self_eq_true,Bool.true_and,List.all_eq_true,Bool.and_eq_true,decide_eq_true_eq]
 intro b hb
 obtain⟨i,hi,e⟩:=List.getElem_of_mem hb
 have hi2:i<s.size:=by rw [toList_len] at hi;exact hi
 have:=drop_get s i hi2
 rw [List.getElem?_eq_getElem hi] at this
 injection this with this
 rw [← e,this]
 exact h i hi2
theorem curB_size {s:ByteArray} (h3:s.size≠3):curB s.toList=false:=by
 unfold curB
 rw [toList_len]
 simp [h3]
theorem curB_byte {s:ByteArray} (i:Nat) (hi:i<s.size) (h:¬ (65≤s[i].toNat∧s[i].toNat≤90)):curB s.toList=false:=by
 rcases Bool.eq_false_or_eq_true (curB s.toList) with e | e
 ·exfalso
  unfold curB at e
  simp only [Bool.and_eq_true,List.all_eq_true,decide_eq_true_eq] at e
  have hm:s[i]∈s.toList:=List.mem_of_getElem? (drop_get s i hi)
  exact h (e.2 _ hm)
 ·exact e
theorem bytesLess_flip:∀ (a b:List UInt8),a≠b→Op.bytesLess a b = !Op.bytesLess b a
 | [],[],h=>absurd rfl h
 | [],_ :: _,_=>by simp [Op.bytesLess]
 | _ :: _,[],_=>by simp [Op.bytesLess]
 | a :: x,b :: y,h=>by
  by_cases e:a=b
  ·subst e
   have ih:=bytesLess_flip x y (fun e=>h (by rw [e]))
   simp [Op.bytesLess,ih,UInt8.lt_irrefl]
  ·have h1:(a == b)=false:=by simpa using e
   have h2:(b == a)=false:=by simpa using fun x=>e x.symm
   simp only [Op.bytesLess,h1,h2,Bool.false_and,Bool.or_false]
   have h3:a.toNat≠b.toNat:=fun x=>e (UInt8.toNat_inj.1 x)
   by_cases g:a<b
   ·have:¬ b<a:=by rw [UInt8.lt_iff_toNat_lt] at g ⊢;omega
    simp [g,this]
   ·have:b<a:=by rw [UInt8.lt_iff_toNat_lt] at g ⊢;omega
    simp [g,this]
theorem bytesLess_irrefl:∀ (a:List UInt8),Op.bytesLess a a=false
 | []=>by simp [Op.bytesLess]
 | a :: x=>by simp [Op.bytesLess,bytesLess_irrefl x,UInt8.lt_irrefl]
end Go.Proofs.YtbokkeooahodaaaGreatDoor

/-
  A part of the proof of TopQuotaDayCardSaid: lemmas and contracts of functions that the law calls. No statement of the seat is proved here. Conditions: as each says.
-/
import Derived.Test.YtbokkeooahodaaaGreatDoorQAU
import Derived.Test.YtbokkeooahodaaaGreatDoorQAE
import Derived.Laws.CopyOwn
import Derived.RegionTactic
namespace Go.Proofs.YtbokkeooahodaaaGreatDoor
open Go.RowKit
set_option linter.unusedVariables false
def chgB (n:Nat) (c:Chg):Bool:=decide (chgOk n c)
theorem chgB_no {n:Nat} {c:Chg} (h:¬ chgOk n c):chgB n c=false:=by unfold chgB;simpa using h
theorem chgB_yes {n:Nat} {c:Chg} (h:chgOk n c):chgB n c=true:=by unfold chgB;simpa using h
set_option maxRecDepth 100000 in
set_option maxHeartbeats 4000000 in
theorem validCharge_any (k a s l:Int) (cu:ByteArray) (n:Nat) (w:World) :
  Calls Tryz.prog 138 #[.agg #[.int .i64 k,.int .i64 a,.string cu,.int .i64 s,.int .i64 l],.int .i64 n] w (BRes w (chgB n ⟨k,a,cu,s,l⟩)):=by
 have HB:Hid (∀ T,RowKit.Below w.heap.size w (w.alloc (.cells #[.int .i64 k,.int .i64 a,.string cu,.int .i64 s,.int .i64 l] T))):=fun T=>(Below.refl _ _).alloc (Nat.le_refl _) _
 have HN:Hid (¬ (1≤k∧k≤9∧1≤s∧s≤3∧0≤a∧a≤1000000000000∧0≤l∧(s=3→l<n)∧(s≠3→l=0))→chgB n ⟨k,a,cu,s,l⟩=false):=fun h=>chgB_no h
 have HY:Hid ((1≤k∧k≤9∧1≤s∧s≤3∧0≤a∧a≤1000000000000∧0≤l∧(s=3→l<n)∧(s≠3→l=0))→chgB n ⟨k,a,cu,s,l⟩=true):=fun h=>chgB_yes h
 by_cases g1:k<1
 ·have d1:decide (k<1)=true:=by simpa using g1
  have E:=Lib.hid (HN.out (by omega))
  go_enter Tryz.func138,Tryz.ntmps138
  go_wp2
  go_ret
  exact⟨ret_bool E.out.symm,HB.out _⟩
 have d1:decide (k<1)=false:=by simpa using g1
 by_cases g2:9<k
 ·have d2:decide (9<k)=true:=by simpa using g2
  have E:=Lib.hid (HN.out (by omega))
  go_enter Tryz.func138,Tryz.ntmps138
  go_wp2
  go_ret
  exact⟨ret_bool E.out.symm,HB.out _⟩
 have d2:decide (9<k)=false:=by simpa using g2
 by_cases g3:s<1
 ·have d3:decide (s<1)=true:=by simpa using g3
  have E:=Lib.hid (HN.out (by omega))
  go_enter Tryz.func138,Tryz.ntmps138
  go_wp2
  go_ret
  exact⟨ret_bool E.out.symm,HB.out _⟩
 have d3:decide (s<1)=false:=by simpa using g3
 by_cases g4:3<s
 ·have d4:decide (3<s)=true:=by simpa using g4
  have E:=Lib.hid (HN.out (by omega))
  go_enter Tryz.func138,Tryz.ntmps138
  go_wp2
  go_ret
  exact⟨ret_bool E.out.symm,HB.out _⟩
 have d4:decide (3<s)=false:=by simpa using g4
 by_cases g5:a<0
 ·have d5:decide (a<0)=true:=by simpa using g5
  have E:=Lib.hid (HN.out (by omega))
  go_enter Tryz.func138,Tryz.ntmps138
  go_wp2
  go_ret
  exact⟨ret_bool E.out.symm,HB.out _⟩
 have d5:decide (a<0)=false:=by simpa using g5
 by_cases g6:1000000000000<a
 ·have d6:decide (1000000000000<a)=true:=by simpa using g6
  have E:=Lib.hid (HN.out (by omega))
  go_enter Tryz.func138,Tryz.ntmps138
  go_wp2
  go_ret
  exact⟨ret_bool E.out.symm,HB.out _⟩
 have d6:decide (1000000000000<a)=false:=by simpa using g6
 by_cases g7:s=3
 ·have b7:(s == 3)=true:=by simpa using g7
  by_cases g8:0≤l
  ·have d8:decide (0≤l)=true:=by simpa using g8
   by_cases g9:l<(n:Int)
   ·have d9:decide (l<(n:Int))=true:=by simpa using g9
    have E:=Lib.hid (HY.out (by omega))
    clear g7
    go_enter Tryz.func138,Tryz.ntmps138
    go_wp2
    go_ret
    exact⟨ret_bool E.out.symm,HB.out _⟩
   ·have d9:decide (l<(n:Int))=false:=by simpa using g9
    have E:=Lib.hid (HN.out (by omega))
    clear g7
    go_enter Tryz.func138,Tryz.ntmps138
    go_wp2
    go_ret
    exact⟨ret_bool E.out.symm,HB.out _⟩
  ·have d8:decide (0≤l)=false:=by simpa using g8
   have E:=Lib.hid (HN.out (by omega))
   clear g7
   go_enter Tryz.func138,Tryz.ntmps138
   go_wp2
   go_ret
   exact⟨ret_bool E.out.symm,HB.out _⟩
 ·have b7:(s == 3)=false:=by simpa using g7
  by_cases g8:l=0
  ·have b8:(l == 0)=true:=by simpa using g8
   have E:=Lib.hid (HY.out (by omega))
   clear g8
   go_enter Tryz.func138,Tryz.ntmps138
   go_wp2
   go_ret
   exact⟨ret_bool E.out.symm,HB.out _⟩
  ·have b8:(l == 0)=false:=by simpa using g8
   have E:=Lib.hid (HN.out (by omega))
   go_enter Tryz.func138,Tryz.ntmps138
   go_wp2
   go_ret
   exact⟨ret_bool E.out.symm,HB.out _⟩
theorem invErr_limit {day:Int} {ls:List (Int × Int)} {cs:List Chg} (h:ls.length=0∨100<ls.length∨50<cs.length):invErr day ls cs=8:=by unfold invErr;rw [if_pos h]
theorem invErr_bad {day:Int} {ls:List (Int × Int)} {cs:List Chg} (h:¬ (ls.length=0∨100<ls.length∨50<cs.length)) (hb:¬ (0≤day∧day≤36524∧linesOk ls∧chgsOk ls.length cs)):invErr day ls cs=2:=by unfold invErr;rw [if_neg h,if_neg hb]
set_option maxRecDepth 100000 in
set_option maxHeartbeats 4000000 in
theorem validate17_any (cu:ByteArray) (day:Int) (A B:Option Addr) (n c m d:Nat) (ls:List (Int × Int)) (cs:List Chg) (w:World) (h:Recs enc2 2 w A n ls) (hm:n≤9223372036854775807) (h2:Recs encC 5 w B m cs) (hm2:m≤9223372036854775807) :
  Calls Tryz.prog 68 #[.agg #[.string cu,.int .i64 day,.slice A n c,.slice B m d]] w (VRes w (invErr day ls cs)):=by
 have HL:=Lib.hid h.1
 have HM:=Lib.hid h2.1
 have HB0:Hid (RowKit.Below w.heap.size w (w.alloc (.cells #[.string cu,.int .i64 day,.slice A n c,.slice B m d] 110))):=(Below.refl _ _).alloc (Nat.le_refl _) _
 have HLim:Hid ((n=0∨100<n∨50<m)→invErr day ls cs=8):=fun hx=>invErr_limit (by rw [HL.out,HM.out];exact hx)
 by_cases q1:n=0
 ·have b1:((n:Int) == 0)=true:=by simp;omega
  have b1':(n == 0)=true:=by simpa using q1
  have E:=Lib.hid (HLim.out (by omega))
  clear q1
  go_enter Tryz.func68,Tryz.ntmps68
  go_wp2
  go_ret
  exact⟨ret_int' E.out.symm,HB0.out⟩
 have b1:((n:Int) == 0)=false:=by simp;omega
 have b1':(n == 0)=false:=by simpa using q1
 by_cases q2:100<n
 ·have d2:decide ((100:Int)<(n:Int))=true:=by simp;omega
  have E:=Lib.hid (HLim.out (by omega))
  go_enter Tryz.func68,Tryz.ntmps68
  go_wp2
  go_ret
  exact⟨ret_int' E.out.symm,HB0.out⟩
 have d2:decide ((100:Int)<(n:Int))=false:=by simp;omega
 by_cases q3:50<m
 ·have d3:decide ((50:Int)<(m:Int))=true:=by simp;omega
  have E:=Lib.hid (HLim.out (by omega))
  go_enter Tryz.func68,Tryz.ntmps68
  go_wp2
  go_ret
  exact⟨ret_int' E.out.symm,HB0.out⟩
 have d3:decide ((50:Int)<(m:Int))=false:=by simp;omega
 have HBad:Hid (¬ (0≤day∧day≤36524∧linesOk ls∧chgsOk ls.length cs)→invErr day ls cs=2):=fun hx=>invErr_bad (by rw [HL.out,HM.out];omega) hx
 by_cases q4:day<0
 ·have d4:decide (day<0)=true:=by simpa using q4
  have E:=Lib.hid (HBad.out (fun hx=>by omega))
  go_enter Tryz.func68,Tryz.ntmps68
  go_wp2
  go_ret
  exact⟨ret_int' E.out.symm,HB0.out⟩
 have d4:decide (day<0)=false:=by simpa using q4
 by_cases q5:36524<day
 ·have d5:decide (36524<day)=true:=by simpa using q5
  have E:=Lib.hid (HBad.out (fun hx=>by omega))
  go_enter Tryz.func68,Tryz.ntmps68
  go_wp2
  go_ret
  exact⟨ret_int' E.out.symm,HB0.out⟩
 have d5:decide (36524<day)=false:=by simpa using q5
 have hdy:0≤day∧day≤36524:=by omega
 go_enter Tryz.func68,Tryz.ntmps68
 go_wp2
 have HBx:=Bl.new w 110 #[.string cu,.int .i64 day,.slice A n c,.slice B m d]
 have h':=h.alloc (.cells #[.string cu,.int .i64 day,.slice A n c,.slice B m d] 110)
 have h2':=h2.alloc (.cells #[.string cu,.int .i64 day,.slice A n c,.slice B m d] 110)
 have hb0:=HB0.out
 have hsz0:(w.alloc (.cells #[.string cu,.int .i64 day,.slice A n c,.slice B m d] 110)).heap.size=w.heap.size+1:=by simp
 generalize w.alloc (.cells #[.string cu,.int .i64 day,.slice A n c,.slice B m d] 110)=W at *
 have HS0:=Lib.hid hsz0
 clear hsz0 h h2 HB0
 go_loopw [34] (fun i wr=>∃ k:Nat,k≤n∧i=.int .i64 k∧Hid (∀ i,i<k→lineOk ls[i]!)∧RowKit.Below W.heap.size W wr) (fun i _=>n - (intOf i).toNat)
 case atStart=>exact⟨0,Nat.zero_le _,rfl,fun i hi=>absurd hi (by omega),Below.refl _ _⟩
 case round =>
  obtain⟨k,hk,rfl,HA,hbel⟩:=hrel
  have HBd:=Lib.hid (hb0.trans (hbel.mono hb0.size))
  by_cases hlt:k<n
  ·obtain⟨b,off,x,y,rfl,_,hc1,hc2,HX⟩:=(h'.below hbel).get2 hlt
   have HNo:Hid (¬ lineOk (x,y)→invErr day ls cs=2):=fun hx=>HBad.out (fun hy=>hx (by have:=hy.2.2.1 k (by have:=HL.out;omega);rw [HX.out] at this;exact this))
   by_cases g1:x<0
   ·have e1:decide (x<0)=true:=by simpa using g1
    have E:=Lib.hid (HNo.out (by unfold lineOk;omega))
    go_wp2
    go_ret
    exact⟨ret_int' E.out.symm,HBd.out.alloc HBd.out.size _⟩
   have e1:decide (x<0)=false:=by simpa using g1
   by_cases g2:1000000000000<x
   ·have e2:decide (1000000000000<x)=true:=by simpa using g2
    have E:=Lib.hid (HNo.out (by unfold lineOk;omega))
    go_wp2
    go_ret
    exact⟨ret_int' E.out.symm,HBd.out.alloc HBd.out.size _⟩
   have e2:decide (1000000000000<x)=false:=by simpa using g2
   by_cases g3:y<0
   ·have e3:decide (y<0)=true:=by simpa using g3
    have E:=Lib.hid (HNo.out (by unfold lineOk;omega))
    go_wp2
    go_ret
    exact⟨ret_int' E.out.symm,HBd.out.alloc HBd.out.size _⟩
   have e3:decide (y<0)=false:=by simpa using g3
   by_cases g4:1000000000<y
   ·have e4:decide (1000000000<y)=true:=by simpa using g4
    have E:=Lib.hid (HNo.out (by unfold lineOk;omega))
    go_wp2
    go_ret
    exact⟨ret_int' E.out.symm,HBd.out.alloc HBd.out.size _⟩
   have e4:decide (1000000000<y)=false:=by simpa using g4
   have HA':Hid (∀ i,i<k+1→lineOk ls[i]!):=fun i hi=>by
    by_cases e:i=k
    ·subst e;rw [HX.out];unfold lineOk;omega
    ·exact HA.out i (by omega)
   go_wp2
   go_roundw
   case rel=>exact⟨k+1,by omega,by go_num,HA'.out,((hbel.alloc hbel.size _))⟩
   case measure=>simp [intOf];omega
  ·have HAll:Hid (linesOk ls):=fun i hi=>HA.out i (by have:=HL.out;omega)
   clear HA
   have HBy:=HBx.keep hbel
   have g0:wr.cell? ⟨w.heap.size,2,none⟩=some (.slice A n c):=HBy.cell 2
   have g1:wr.cell? ⟨w.heap.size,3,none⟩=some (.slice B m d):=HBy.cell 3
   have h2w:=h2'.below hbel
   have hbw:=HBd.out
   clear HBd h2' HBx
   obtain⟨wo,rfl⟩:∃ wo:World,wo=wr:=⟨_,rfl⟩
   go_wp2
   go_loopw [60] (fun i wi=>∃ k:Nat,k≤m∧i=.int .i64 k∧Hid (∀ i,i<k→chgOk n cs[i]!)∧RowKit.Below wo.heap.size wo wi) (fun i _=>m - (intOf i).toNat)
   case atStart=>exact⟨0,Nat.zero_le _,rfl,fun i hi=>absurd hi (by omega),Below.refl _ _⟩
   case round =>
    obtain⟨r,hr,rfl,HS,hbi⟩:=hrel
    have HBd:=Lib.hid (hbw.trans (hbi.mono hbw.size))
    by_cases hlt2:r<m
    ·obtain⟨b,off,kk,aa,cc,ss,ll,hA,_,hc1,hc2,hc3,hc4,hc5,HX⟩:=(h2w.below hbi).getC hlt2
     subst hA
     have HBz:=HBy.keep hbi
     have g2:wr.cell? ⟨w.heap.size,2,none⟩=some (.slice A n c):=HBz.cell 2
     have hzl:w.heap.size<wr.heap.size:=HBz.lt
     have hne:w.heap.size≠wr.heap.size:=by omega
     have HC:=Lib.hid (fun w=>validCharge_any kk aa ss ll cc n w)
     have HNo:Hid (chgB n ⟨kk,aa,cc,ss,ll⟩=false→invErr day ls cs=2):=fun hx=>HBad.out (fun hy=>by
      have:=hy.2.2.2 r (by have:=HM.out;omega)
      rw [HX.out,HL.out] at this
      rw [chgB_yes this] at hx
      cases hx)
     have HYes:Hid (chgB n ⟨kk,aa,cc,ss,ll⟩=true→∀ i,i<r+1→chgOk n cs[i]!):=fun hx i hi=>by
      by_cases e:i=r
      ·subst e;rw [HX.out];unfold chgB at hx;exact of_decide_eq_true hx
      ·exact HS.out i (by omega)
     have hws:=HBd.out.size
     go_wp2_with fail
     refine (HC.out _).mono ?_
     rintro e w2 ⟨rfl,hb2⟩
     have HB3:=Lib.hid ((HBd.out.alloc hws _).trans (hb2.mono (by simp;omega)))
     have HB4:=Lib.hid ((hbi.alloc hbi.size _).trans (hb2.mono (by have:=hbi.size;simp;omega)))
     cases hcb:chgB n ⟨kk,aa,cc,ss,ll⟩ with
     | false =>
      have E:=Lib.hid (HNo.out hcb)
      clear hcb
      go_wp2
      go_ret
      exact⟨ret_int' E.out.symm,HB3.out⟩
     | true =>
      have HS':=Lib.hid (HYes.out hcb)
      clear hcb
      go_wp2
      go_roundw
      case rel=>exact⟨r+1,by omega,by go_num,HS'.out,HB4.out⟩
      case measure=>simp [intOf];omega
    ·have E:Hid (invErr day ls cs=0):=invErr_ok (by have:=HL.out;omega) (by have:=HL.out;omega) (by have:=HM.out;omega) hdy.1 hdy.2 HAll.out (fun i hi=>by rw [HL.out];exact HS.out i (by have:=HM.out;omega))
     go_wp2
     go_ret
     exact⟨ret_int' E.out.symm,HBd.out⟩
def inB (x m:Int):Bool:=decide (0≤x∧x≤m)
theorem inB_yes {x m:Int} (h:0≤x∧x≤m):inB x m=true:=by unfold inB;simpa using h
theorem inB_no {x m:Int} (h:¬ (0≤x∧x≤m)):inB x m=false:=by unfold inB;simpa using h
set_option maxHeartbeats 1000000 in
theorem rin_any (x m:Int) (w:World):Calls Tryz.prog 83 #[.int .i64 x,.int .i64 m] w fun e w'=>e=.returned (.bool (inB x m))∧w=w':=by
 by_cases g1:0≤x
 ·have d1:decide (0≤x)=true:=by simpa using g1
  by_cases g2:x≤m
  ·have d2:decide (x≤m)=true:=by simpa using g2
   have E:=Lib.hid (inB_yes (x:=x) (m:=m) ⟨g1,g2⟩)
   go_enter Tryz.func83,Tryz.ntmps83
   go_wp2
   go_ret
   exact⟨ret_bool E.out.symm,rfl⟩
  ·have d2:decide (x≤m)=false:=by simpa using g2
   have E:=Lib.hid (inB_no (x:=x) (m:=m) (fun h=>g2 h.2))
   go_enter Tryz.func83,Tryz.ntmps83
   go_wp2
   go_ret
   exact⟨ret_bool E.out.symm,rfl⟩
 ·have d1:decide (0≤x)=false:=by simpa using g1
  have E:=Lib.hid (inB_no (x:=x) (m:=m) (fun h=>g1 h.1))
  go_enter Tryz.func83,Tryz.ntmps83
  go_wp2
  go_ret
  exact⟨ret_bool E.out.symm,rfl⟩
def partsOf (ls:List (Int × Int)) (c:Chg) (amt:Int):List Int:=(List.range ls.length).map (partV ls c amt)
theorem partsOf_len (ls:List (Int × Int)) (c:Chg) (amt:Int):(partsOf ls c amt).length=ls.length:=by simp [partsOf]
theorem partsOf_get (ls:List (Int × Int)) (c:Chg) (amt:Int) (j:Nat) (h:j<ls.length):(partsOf ls c amt).getD j 0=partV ls c amt j:=by simp [partsOf,List.getD,h]
theorem parts_prices {ls:List (Int × Int)} {c:Chg} {amt:Int} (hl:linesOk ls) (hn:0<ls.length) (hn':ls.length≤100) (h0:0≤amt) (h1:amt≤1000000000000) (hb:c.basis=1):chkErr amt (pricesOf ls)=0∧shareOut amt (pricesOf ls)=partsOf ls c amt:=by
 have e:=chk_ok (t:=amt) (ws:=pricesOf ls) h0 h1 (by rw [prices_len];omega) (by rw [prices_len];exact hn) (prices_in hl)
 refine⟨e,?_⟩
 unfold shareOut partsOf shareL
 rw [if_pos e,prices_len]
 exact List.map_congr_left fun j _=>by unfold partV;rw [if_pos hb]
theorem parts_weights {ls:List (Int × Int)} {c:Chg} {amt:Int} (hl:linesOk ls) (hn:0<ls.length) (hn':ls.length≤100) (h0:0≤amt) (h1:amt≤1000000000000) (hb:c.basis=2):chkErr amt (weightsOf ls)=0∧shareOut amt (weightsOf ls)=partsOf ls c amt:=by
 have e:=chk_ok (t:=amt) (ws:=weightsOf ls) h0 h1 (by rw [weights_len];omega) (by rw [weights_len];exact hn) (weights_in hl)
 refine⟨e,?_⟩
 unfold shareOut partsOf shareL
 rw [if_pos e,weights_len]
 exact List.map_congr_left fun j _=>by unfold partV;rw [if_neg (by omega),if_pos hb]
theorem parts_line {ls:List (Int × Int)} {c:Chg} {amt:Int} (h1:c.basis≠1) (h2:c.basis≠2):partsOf ls c amt=(List.range ls.length).map (fun j:Nat=>if (j:Int)=c.line then amt else 0):=by
 unfold partsOf
 exact List.map_congr_left fun j _=>by unfold partV;rw [if_neg h1,if_neg h2]
set_option maxRecDepth 100000 in
set_option maxHeartbeats 4000000 in
theorem divide_any (k a s l:Int) (cu:ByteArray) (amt:Int) (P Q:Option Addr) (n c1 c2:Nat) (ls:List (Int × Int)) (w:World) (hp:Ints w P n (pricesOf ls)) (hw:Ints w Q n (weightsOf ls)) (hn:0<n) (hn':n≤100) (hl:linesOk ls) (hc:chgOk n ⟨k,a,cu,s,l⟩) (h0:0≤amt) (h1:amt≤1000000000000) :
  Calls Tryz.prog 70 #[.agg #[.int .i64 k,.int .i64 a,.string cu,.int .i64 s,.int .i64 l],.int .i64 amt,.slice P n c1,.slice Q n c2] w (SlRes w 0 (partsOf ls ⟨k,a,cu,s,l⟩ amt)):=by
 have hlen:ls.length=n:=by have:=hp.1;rw [prices_len] at this;exact this
 have HL:=Lib.hid hlen
 have HP1:=Lib.hid (parts_prices (c:=⟨k,a,cu,s,l⟩) hl (by omega) (by omega) h0 h1)
 have HP2:=Lib.hid (parts_weights (c:=⟨k,a,cu,s,l⟩) hl (by omega) (by omega) h0 h1)
 have HP3:=Lib.hid (parts_line (ls:=ls) (c:=⟨k,a,cu,s,l⟩) (amt:=amt))
 unfold chgOk at hc
 dsimp at hc
 clear hlen
 have HB:Hid (∀ T,RowKit.Below w.heap.size w (w.alloc (.cells #[.int .i64 k,.int .i64 a,.string cu,.int .i64 s,.int .i64 l] T))):=fun T=>(Below.refl _ _).alloc (Nat.le_refl _) _
 by_cases g1:s=1
 ·obtain⟨e1,e2⟩:=HP1.out g1
  have HS:Hid (∀ o:Obj,Calls Tryz.prog 54 #[.int .i64 amt,.slice P n c1] (w.alloc o) (SlRes (w.alloc o) 0 (partsOf ls ⟨k,a,cu,s,l⟩ amt))):=fun o=>by
   have:=share_any amt P n c1 (pricesOf ls) (w.alloc o) (hp.alloc o) (by omega)
   rw [e1,e2] at this
   exact this
  have b1:(s == 1)=true:=by simpa using g1
  clear g1 e1 e2
  go_enter Tryz.func70,Tryz.ntmps70
  go_wp2_with fail
  refine (HS.out _).mono ?_
  rintro e w1 ⟨A1,n1,k1,rfl,ho,hb1⟩
  go_wp2
  go_ret2
  exact⟨A1,n1,k1,rfl,own_mono ho (by simp),(HB.out _).trans (hb1.mono (by simp))⟩
 have b1:(s == 1)=false:=by simpa using g1
 by_cases g2:s=2
 ·obtain⟨e1,e2⟩:=HP2.out g2
  have HS:Hid (∀ o:Obj,Calls Tryz.prog 54 #[.int .i64 amt,.slice Q n c2] (w.alloc o) (SlRes (w.alloc o) 0 (partsOf ls ⟨k,a,cu,s,l⟩ amt))):=fun o=>by
   have:=share_any amt Q n c2 (weightsOf ls) (w.alloc o) (hw.alloc o) (by omega)
   rw [e1,e2] at this
   exact this
  have b2:(s == 2)=true:=by simpa using g2
  clear g2 e1 e2
  go_enter Tryz.func70,Tryz.ntmps70
  go_wp2_with fail
  refine (HS.out _).mono ?_
  rintro e w1 ⟨A1,n1,k1,rfl,ho,hb1⟩
  go_wp2
  go_ret2
  exact⟨A1,n1,k1,rfl,own_mono ho (by simp),(HB.out _).trans (hb1.mono (by simp))⟩
 have b2:(s == 2)=false:=by simpa using g2
 have hl0:0≤l:=by omega
 have hl1:l<(n:Int):=by omega
 obtain⟨j,rfl⟩:∃ j:Nat,l=j:=⟨l.toNat,by omega⟩
 obtain⟨C1,HC1,hmk1⟩:=make_any (P:=Tryz.prog) 22 3 _ 1 8 n Tryz.underlying22 infoI (by omega) (by omega)
 have e3:=HP3.out g1 g2
 rw [e3,HL.out]
 have HR:Hid (IntRow (C1.setIfInBounds j (.int .i64 amt)) n (fun i=>if (i:Int)=(j:Int) then amt else 0)):=(IntRow.zeros HC1.out).set j amt (fun i hi=>by
  by_cases e:i=j
  ·subst e;rw [if_pos rfl,if_pos rfl]
  ·rw [if_neg (by omega),if_neg e])
 have HR0:=Lib.hid (IntRow.zeros HC1.out)
 have k0:C1[j]? = some (.int .i64 0):=HR0.out.2 j (by omega)
 have hjn:j<n:=by omega
 clear e3 HC1
 go_enter Tryz.func70,Tryz.ntmps70
 go_wp2
 go_ret2
 exact⟨_,_,_,rfl,HR.out.own (Bl.new1 w _ 3 _) (by omega) (by omega),((Below.refl _ _).alloc (Nat.le_refl _) _).alloc (by simp) _⟩
def CkRes (w:World) (er:Int) (e:Ending) (w':World):Prop:=e=.returned (.int .i64 er)∧w=w'
set_option maxHeartbeats 1000000 in
theorem checkValues_any (A:Option Addr) (n c:Nat) (xs:List Int) (w:World) (h:Ints w A n xs) (hm:n≤9223372036854775807) :
  Calls Tryz.prog 72 #[.slice A n c] w (CkRes w (endErr n (fun j=>xs.getD j 0))):=by
 go_enter Tryz.func72,Tryz.ntmps72
 go_wp2
 go_loop [9] (fun i=>∃ k:Nat,k≤n∧i=.int .i64 k∧Hid (∀ j,j<k→0≤xs.getD j 0)) (fun i=>n - (intOf i).toNat)
 case atStart=>exact⟨0,Nat.zero_le _,rfl,fun j hj=>absurd hj (by omega)⟩
 case round =>
  obtain⟨k,hk,rfl,HA⟩:=hrel
  by_cases hlt:k<n
  ·obtain⟨b,off,x,rfl,_,hc,HX⟩:=h.get hlt
   by_cases g1:x<0
   ·have d1:decide (x<0)=true:=by simpa using g1
    have E:=Lib.hid (endErr_neg (n:=n) (v:=fun j=>xs.getD j 0) k hlt (by rw [HX.out];exact g1))
    go_wp2
    go_ret
    exact⟨ret_int' E.out.symm,rfl⟩
   have d1:decide (x<0)=false:=by simpa using g1
   have HA':Hid (∀ j,j<k+1→0≤xs.getD j 0):=fun j hj=>by
    by_cases e:j=k
    ·subst e;rw [HX.out];omega
    ·exact HA.out j (by omega)
   go_wp2
   go_round
   case rel=>exact⟨k+1,by omega,by go_num,HA'.out⟩
   case measure=>simp [intOf];omega
  ·have HN:Hid (∀ j,j<n→0≤xs.getD j 0):=fun j hj=>HA.out j (by omega)
   clear HA
   go_wp2
   go_loop [18] (fun i=>∃ r:Nat,r≤n∧i=.int .i64 r∧Hid (∀ j,j<r→xs.getD j 0≤1000000000000)) (fun i=>n - (intOf i).toNat)
   case atStart=>exact⟨0,Nat.zero_le _,rfl,fun j hj=>absurd hj (by omega)⟩
   case round =>
    obtain⟨r,hr,rfl,HA⟩:=hrel
    by_cases hlt2:r<n
    ·obtain⟨b,off,x,hA,_,hc,HX⟩:=h.get hlt2
     subst hA
     by_cases g1:1000000000000<x
     ·have d1:decide (1000000000000<x)=true:=by simpa using g1
      have E:=Lib.hid (endErr_over (n:=n) (v:=fun j=>xs.getD j 0) HN.out r hlt2 (by rw [HX.out];exact g1))
      go_wp2
      go_ret
      exact⟨ret_int' E.out.symm,rfl⟩
     have d1:decide (1000000000000<x)=false:=by simpa using g1
     have HA':Hid (∀ j,j<r+1→xs.getD j 0≤1000000000000):=fun j hj=>by
      by_cases e:j=r
      ·subst e;rw [HX.out];omega
      ·exact HA.out j (by omega)
     go_wp2
     go_round
     case rel=>exact⟨r+1,by omega,by go_num,HA'.out⟩
     case measure=>simp [intOf];omega
    ·have E:=Lib.hid (endErr_ok (n:=n) (v:=fun j=>xs.getD j 0) (fun j hj=>⟨HN.out j hj,HA.out j (by omega)⟩))
     go_wp2
     go_ret
     exact⟨ret_int' E.out.symm,rfl⟩
def bookV (k:Int) (f:Nat→Int) (xs:List Int) (j:Nat):Int:=if k≤5 then f j+xs.getD j 0 else f j - xs.getD j 0
def BookRes (w:World) (g:Nat) (n:Nat) (f:Nat→Int) (w':World):Prop:=Only g w w'∧∃ cs,Bl w' g 3 cs∧IntRow cs n f
set_option maxHeartbeats 1000000 in
theorem book_any (g n c:Nat) (A:Option Addr) (c2:Nat) (cs:Array Value) (f:Nat→Int) (xs:List Int) (k:Int) (w:World) (hB:Bl w g 3 cs) (hR:IntRow cs n f) (h:Ints w A n xs) (hA:∀ b off,A=some ⟨b,off,none⟩→b≠g) (hn:n≤100)
  (hf:∀ j,j<n→-1000000000000000≤f j∧f j≤1000000000000000) (hx:∀ j,j<n→0≤xs.getD j 0∧xs.getD j 0≤1000000000000) :
  Calls Tryz.prog 71 #[.slice (some ⟨g,0,none⟩) n c,.slice A n c2,.int .i64 k] w fun e w'=>e=.returned (.tuple #[])∧BookRes w g n (bookV k f xs) w':=by
 have HF:=Lib.hid hf
 have HX0:=Lib.hid hx
 have HA:=Lib.hid hA
 clear hf hx hA
 go_enter Tryz.func71,Tryz.ntmps71
 go_wp2
 go_loopw [10] (fun i wr=>∃ (r:Nat) (ds:Array Value),r≤n∧i=.int .i64 r∧Only g w wr∧Bl wr g 3 ds∧IntRow ds n (fun j=>if j<r then bookV k f xs j else f j)) (fun i _=>n - (intOf i).toNat)
 case atStart=>exact⟨0,cs,Nat.zero_le _,rfl,Only.refl _ _,hB,hR.congr (fun j _=>by simp)⟩
 case round =>
  obtain⟨r,ds,hr,rfl,hO,HB,HR⟩:=hrel
  by_cases hlt:r<n
  ·obtain⟨b,off,x,hA,hbl,hc,HX⟩:=h.get hlt
   have hne:=HA.out b off hA
   subst hA
   have hc1:wr.cell? ⟨b,off+r,none⟩=some (.int .i64 x):=(World.cell?_of_block (hO.block b hne)).trans hc
   have k1:=HR.cell HB hlt
   rw [if_neg (by omega)] at k1
   have f1:wr.frozen? ⟨g,r,none⟩=false:=HB.free r
   have hf1:=HF.out r hlt
   have hx1:=HX0.out r hlt
   rw [HX.out] at hx1
   have HRA:Hid (∀ v,(if k≤5 then f r+x else f r - x)=v→IntRow (ds.setIfInBounds r (.int .i64 v)) n (fun j=>if j<r+1 then bookV k f xs j else f j)):=fun v hv=>HR.set r v (fun j hj=>by
    by_cases e:j=r
    ·subst e;rw [if_pos (by omega),if_pos rfl,← hv,← HX.out];rfl
    ·rw [if_neg e];by_cases e2:j<r
     ·rw [if_pos e2,if_pos (by omega)]
     ·rw [if_neg e2,if_neg (by omega)])
   have HC:Hid (∀ v,RowKit.Below 0 w w→Only g w (wr.setCell ⟨g,r,none⟩ v)):=fun v _=>hO.setCell r v
   have k2:wr.cell? ⟨g,r,none⟩=some (.int .i64 (f r)):=k1
   clear k1
   generalize f r=fr at *
   clear hc
   by_cases g5:k≤5
   ·have d5:decide (k≤5)=true:=by simpa using g5
    have HRB:=Lib.hid (HRA.out (fr+x) (if_pos g5))
    clear HRA
    go_wp2
    go_roundw
    case rel=>exact⟨r+1,_,by omega,by go_num,hO.setCell r _,HB.put _ _,HRB.out⟩
    case measure=>simp [intOf];omega
   ·have d5:decide (k≤5)=false:=by simpa using g5
    have HRB:=Lib.hid (HRA.out (fr - x) (if_neg g5))
    clear HRA
    go_wp2
    go_roundw
    case rel=>exact⟨r+1,_,by omega,by go_num,hO.setCell r _,HB.put _ _,HRB.out⟩
    case measure=>simp [intOf];omega
  ·obtain rfl:r=n:=by omega
   go_wp2
   go_end0
   exact⟨rfl,hO,ds,HB,HR.congr (fun j hj=>by simp [hj])⟩
section
variable {t:List Exch} {cur:List UInt8} {day:Int} {ls:List (Int × Int)} {cs:List Chg}
theorem val_no {er:Int} (h:valErr t cur day ls cs=er) (hn:er≠0):valErr t cur day ls cs=er∧valOut t cur day ls cs = []:=⟨h,by unfold valOut;rw [if_neg (by omega)]⟩
theorem val_inv (h:invErr day ls cs≠0):valErr t cur day ls cs=invErr day ls cs∧valOut t cur day ls cs = []:=val_no (by unfold valErr;rw [if_pos h]) h
theorem val_over (h:invErr day ls cs=0) (h2:1000000000000<(pricesOf ls).sum):valErr t cur day ls cs=3∧valOut t cur day ls cs = []:=val_no (by unfold valErr;rw [if_neg (by omega),if_pos h2]) (by omega)
theorem val_conv (h:invErr day ls cs=0) (h2:¬ 1000000000000<(pricesOf ls).sum) (h3:convErr t (pricesOf ls).sum cur day≠0):valErr t cur day ls cs=convErr t (pricesOf ls).sum cur day∧valOut t cur day ls cs = []:=val_no (by unfold valErr;rw [if_neg (by omega),if_neg h2,if_pos h3]) h3
theorem val_chg (h:invErr day ls cs=0) (h2:¬ 1000000000000<(pricesOf ls).sum) (h3:convErr t (pricesOf ls).sum cur day=0) (k:Nat) (hk:k<cs.length) (h4:∀ i,i<k→chgErr t day cs i=0) (h5:chgErr t day cs k≠0):valErr t cur day ls cs=chgErr t day cs k∧valOut t cur day ls cs = []:=by
 have e:=firstErr_at h4 h5 _ hk
 exact val_no (by unfold valErr;rw [if_neg (by omega),if_neg h2,if_neg (by omega),e,if_pos h5]) h5
theorem val_end (h:invErr day ls cs=0) (h2:¬ 1000000000000<(pricesOf ls).sum) (h3:convErr t (pricesOf ls).sum cur day=0) (h4:∀ i,i<cs.length→chgErr t day cs i=0):valErr t cur day ls cs=endErr ls.length (valTo t cur day ls cs cs.length):=valErr_ok h (by omega) h3 h4
end
theorem slres_err {w w':World} {er er':Int} {out:List Int} (h:er'=er∧out = []) (hb:RowKit.Below w.heap.size w w'):SlRes w er' out (.returned (.tuple #[.slice none 0 0,.int .i64 er])) w':=by
 rw [h.1,h.2]
 exact⟨none,0,0,rfl,own_nil _ _ _,hb⟩
def ChSz (cs:List Chg):Prop:=∀ i,i<cs.length→cs[i]!.cur.size≤9223372036854775807
theorem splice_all (cur cs:List Value) (h:cur.length=cs.length):splice cur 0 cs=cs:=by
 unfold splice
 simp [h]
theorem wpList_copy_new {w:World} {ops:Array Oper} {rest:List Oper} {o:Oper} {a:Act} {Q:Exit→Act→World→Prop} (hgd:o.guard=none) (d s:Operand)
  (ho:o.op=.call { callee:=.builtin .copy,args:=#[d,s],argTypes:=#[22,22] }) (g n:Nat) (C:Array Value) (A:Option Addr) (c:Nat) (xs:List Int)
  (hd:a.eval d=.slice (some ⟨g,0,none⟩) n n) (hs:a.eval s=.slice A n c) (hB:Bl w g 3 C) (hC:C.size=n) (hI:Ints w A n xs) (w0:World) (hb:RowKit.Below g w0 w)
  (h:∀ w',Bl w' g 3 (xs.map (Value.int .i64)).toArray→RowKit.Below g w0 w'→wpList Tryz.prog ops Q rest (a.put o.dst (goInt n)) w') :
  wpList Tryz.prog ops Q (o :: rest) a w:=by
 have hl:(xs.map (Value.int .i64)).length=n:=by rw [List.length_map];exact hI.1
 refine wpList_copy_splice hgd d s 22 22 ho 3 Tryz.underlying22 (by kernel_rfl) _ _ n n n c hd hs g 0 C.toList 3 (by unfold Bl at hB;simpa using hB) (xs.map (Value.int .i64)) (by rw [hl];simp) (fun hp=>?_) (by rw [hl];simp [hC]) (one_ints _ _) g w0 hb (Nat.le_refl _) ?_
 ·refine⟨rfl,?_⟩
  obtain⟨b,off,e,_,hc⟩:=(Rd.of_ints hI).2 (by omega)
  refine⟨⟨b,off,none⟩,e,fun j v hv=>?_⟩
  have:=hc j v hv
  by_cases hj0:j=0
  ·subst hj0;simpa [Addr.add] using this
  ·simpa [Addr.add,hj0] using this
 ·intro w' H hb'
  have:=h w' (by
   unfold Bl
   rw [H.out,splice_all _ _ (by rw [hl];simp [hC])]) hb'
  rw [hl]
  exact this
theorem row_list (f:Nat→Int) (n:Nat):IntRow ((((List.range n).map f).map (Value.int .i64)).toArray) n f:=⟨by simp,fun j hj=>by simp [hj]⟩
theorem getD_list (l:List Int) (n:Nat) (h:l.length=n):(List.range n).map (fun j=>l.getD j 0)=l:=by
 subst h
 apply List.ext_getElem
 ·simp
 ·intro i h1 h2
  simp [List.getD,List.getElem?_eq_getElem h2]
set_option maxRecDepth 100000 in
set_option maxHeartbeats 16000000 in
theorem values_any (T:Option Addr) (tn tc:Nat) (ts:List Exch) (cu:ByteArray) (day:Int) (A B:Option Addr) (n c m d:Nat) (ls:List (Int × Int)) (cs:List Chg) (w:World)
  (hT:Recs encX 3 w T tn ts) (htn:tn≤9223372036854775807) (hz:ExSz ts) (hcu:cu.size≤9223372036854775807) (h:Recs enc2 2 w A n ls) (hm:n≤9223372036854775807) (h2:Recs encC 5 w B m cs) (hm2:m≤9223372036854775807) (hcz:ChSz cs) :
  Calls Tryz.prog 34 #[.slice T tn tc,.agg #[.string cu,.int .i64 day,.slice A n c,.slice B m d]] w (SlRes w (valErr ts cu.toList day ls cs) (valOut ts cu.toList day ls cs)):=by
 have HL:=Lib.hid h.1
 have HM:=Lib.hid h2.1
 have HBx:=Bl.new w 110 #[.string cu,.int .i64 day,.slice A n c,.slice B m d]
 have hb0:RowKit.Below w.heap.size w (w.alloc (.cells #[.string cu,.int .i64 day,.slice A n c,.slice B m d] 110)):=(Below.refl _ _).alloc (Nat.le_refl _) _
 have h':=h.alloc (.cells #[.string cu,.int .i64 day,.slice A n c,.slice B m d] 110)
 have h2':=h2.alloc (.cells #[.string cu,.int .i64 day,.slice A n c,.slice B m d] 110)
 have hT':=hT.alloc (.cells #[.string cu,.int .i64 day,.slice A n c,.slice B m d] 110)
 have HV:=Lib.hid (validate17_any cu day A B n c m d ls cs _ h' hm h2' hm2)
 by_cases hi:invErr day ls cs=0
 case neg =>
  have E:=Lib.hid (val_inv (t:=ts) (cur:=cu.toList) hi)
  have b1:(invErr day ls cs != 0)=true:=by simpa using hi
  clear hi
  generalize invErr day ls cs=er at *
  go_enter Tryz.func34,Tryz.ntmps34
  go_wp2_with fail
  refine HV.out.mono ?_
  rintro e w1 ⟨rfl,hb1⟩
  go_wp2
  go_ret2
  exact slres_err E.out (hb0.trans (hb1.mono hb0.size))
 rw [hi] at HV
 obtain⟨v1,v2,v3,v4,v5,v6,v7⟩:=invErr_zero hi
 have HLO:=Lib.hid v6
 have HCO:=Lib.hid v7
 have HIV:=Lib.hid hi
 have hn0:0<n:=by have:=HL.out;omega
 have hn1:n≤100:=by have:=HL.out;omega
 have hm1:m≤50:=by have:=HM.out;omega
 have HPI:=Lib.hid (prices_in v6)
 have HCZ:=Lib.hid hcz
 have HZ:=Lib.hid hz
 obtain⟨C1,HC1,hmk1⟩:=make_any (P:=Tryz.prog) 22 3 _ 1 8 n Tryz.underlying22 infoI (by omega) (by omega)
 clear v1 v2 v3 v6 v7 hi hcz hz
 go_enter Tryz.func34,Tryz.ntmps34
 go_wp2_with fail
 refine HV.out.mono ?_
 rintro e w1 ⟨rfl,hb1⟩
 have hB1:=hb0.trans (hb1.mono hb0.size)
 have HBx1:=HBx.keep hb1
 have hx1:=h'.below hb1
 have hx2:=h2'.below hb1
 have hxT:=hT'.below hb1
 generalize w.alloc (.cells #[.string cu,.int .i64 day,.slice A n c,.slice B m d] 110)=W0 at *
 have x0:w1.cell? ⟨w.heap.size,0,none⟩=some (.string cu):=HBx1.cell 0
 have x1:w1.cell? ⟨w.heap.size,1,none⟩=some (.int .i64 day):=HBx1.cell 1
 have x2:w1.cell? ⟨w.heap.size,2,none⟩=some (.slice A n c):=HBx1.cell 2
 have x3:w1.cell? ⟨w.heap.size,3,none⟩=some (.slice B m d):=HBx1.cell 3
 have hxl:w.heap.size<w1.heap.size:=HBx1.lt
 have hne1:w.heap.size≠w1.heap.size:=by omega
 have hne2:w.heap.size≠w1.heap.size+1:=by omega
 clear HBx h' h2' hT' HV hb1 hb0 hT h h2
 have HMK:=Lib.hid hmk1
 have HCS:Hid (C1.size=n):=HC1.out.1.trans (by omega)
 go_wp2
 clear hmk1
 go_loopw [7,38] (fun sm i wr=>∃ (k:Nat) (c1 c2:Array Value),k≤n∧i=.int .i64 k∧sm=.int .i64 ((pricesOf ls).take k).sum∧Bl wr w1.heap.size 3 c1∧IntRow c1 n (fun j=>if j<k then (pricesOf ls).getD j 0 else 0)∧Bl wr (w1.heap.size+1) 3 c2∧IntRow c2 n (fun j=>if j<k then (weightsOf ls).getD j 0 else 0)∧RowKit.Below w1.heap.size w1 wr) (fun _ i _=>n - (intOf i).toNat)
 case atStart=>exact⟨0,C1,C1,Nat.zero_le _,rfl,by simp,(Bl.new w1 _ _).alloc _,(IntRow.zeros HC1.out).congr (fun j _=>by simp),Bl.new1 _ _ _ _,(IntRow.zeros HC1.out).congr (fun j _=>by simp),((Below.refl _ _).alloc (Nat.le_refl _) _).alloc (by simp) _⟩
 case round =>
  obtain⟨k,c1,c2,hk,rfl,rfl,HB1,HR1,HB2,HR2,hbel⟩:=hrel
  by_cases hlt:k<n
  ·obtain⟨b,off,x,y,hA,hbl,hc1,hc2,HX⟩:=hx1.get2 hlt
   subst hA
   have hd1:wr.cell? ⟨b,off+k*2,none⟩=some (.int .i64 x):=(hbel.cell (p:=⟨b,off+k*2,none⟩) hbl).trans hc1
   have hd2:wr.cell? ⟨b,off+k*2+1,none⟩=some (.int .i64 y):=(hbel.cell (p:=⟨b,off+k*2+1,none⟩) hbl).trans hc2
   have hkl:k<ls.length:=by have:=HL.out;omega
   have hpx:(pricesOf ls).getD k 0=x:=by rw [prices_get k hkl,HX.out]
   have hwy:(weightsOf ls).getD k 0=y:=by rw [weights_get k hkl,HX.out]
   have hbs:=sum_take_bound (pricesOf ls) 1000000000000 HPI.out k (by rw [prices_len];omega)
   have hb0:=HPI.out k
   have HSS:=Lib.hid (sum_take_succ (pricesOf ls) k (by rw [prices_len];exact hkl))
   rw [hpx] at hb0 HSS
   have k1:=HR1.cell HB1 hlt
   have k2:=HR2.cell HB2 hlt
   rw [if_neg (by omega)] at k1 k2
   have f1:wr.frozen? ⟨w1.heap.size,k,none⟩=false:=HB1.free k
   have f2:wr.frozen? ⟨w1.heap.size+1,k,none⟩=false:=HB2.free k
   have hsz2:=HB2.lt
   have HS1:Hid (IntRow (c1.setIfInBounds k (.int .i64 x)) n (fun j=>if j<k+1 then (pricesOf ls).getD j 0 else 0)):=HR1.set k x (fun j hj=>by
    by_cases e:j=k
    ·subst e;rw [if_pos (by omega),if_pos rfl,hpx]
    ·rw [if_neg e];by_cases e2:j<k
     ·rw [if_pos e2,if_pos (by omega)]
     ·rw [if_neg e2,if_neg (by omega)])
   have HS2:Hid (IntRow (c2.setIfInBounds k (.int .i64 y)) n (fun j=>if j<k+1 then (weightsOf ls).getD j 0 else 0)):=HR2.set k y (fun j hj=>by
    by_cases e:j=k
    ·subst e;rw [if_pos (by omega),if_pos rfl,hwy]
    ·rw [if_neg e];by_cases e2:j<k
     ·rw [if_pos e2,if_pos (by omega)]
     ·rw [if_neg e2,if_neg (by omega)])
   generalize ((pricesOf ls).take k).sum=s at *
   have n1:w1.heap.size≠wr.heap.size:=by omega
   have n2:w1.heap.size+1≠wr.heap.size:=by omega
   have n3:w1.heap.size≠w1.heap.size+1:=by omega
   have i1:(0:Int)≤(k:Int):=by omega
   have i2:(k:Int)<(n:Int):=by omega
   have HB1':=HB1.alloc (.cells #[.int .i64 x,.int .i64 y] 106)
   have HB2':=HB2.alloc (.cells #[.int .i64 x,.int .i64 y] 106)
   have hbel':=hbel.alloc hbel.size (.cells #[.int .i64 x,.int .i64 y] 106)
   have HBn:=Bl.new wr 106 #[.int .i64 x,.int .i64 y]
   clear hpx hwy hc1 hc2
   go_wp2
   generalize wr.alloc (.cells #[.int .i64 x,.int .i64 y] 106)=W at *
   have y0:W.cell? ⟨wr.heap.size,0,none⟩=some (.int .i64 x):=HBn.cell 0
   have y1:W.cell? ⟨wr.heap.size,1,none⟩=some (.int .i64 y):=HBn.cell 1
   have k1':W.cell? ⟨w1.heap.size,k,none⟩=some (.int .i64 0):=(HB1'.cell k).trans ((HB1.cell k).symm.trans k1)
   have k2':W.cell? ⟨w1.heap.size+1,k,none⟩=some (.int .i64 0):=(HB2'.cell k).trans ((HB2.cell k).symm.trans k2)
   have f1':W.frozen? ⟨w1.heap.size,k,none⟩=false:=HB1'.free k
   have f2':W.frozen? ⟨w1.heap.size+1,k,none⟩=false:=HB2'.free k
   clear k1 k2 f1 f2 hd1 hd2 HB1 HB2 HR1 HR2
   go_region
   go_wp2
   go_roundw
   case rel=>exact⟨k+1,_,_,by omega,by go_num,by rw [HSS.out],(HB1'.put _ _).far (p:=⟨w1.heap.size+1,k,none⟩) n3 _,HS1.out,(HB2'.far (p:=⟨w1.heap.size,k,none⟩) n3.symm _).put _ _,HS2.out,((hbel'.setCell (p:=⟨w1.heap.size,k,none⟩) (Nat.le_refl _) _).setCell (p:=⟨w1.heap.size+1,k,none⟩) (by show w1.heap.size≤w1.heap.size+1;omega) _).drew⟩
   case measure=>simp [intOf];omega
  ·obtain rfl:k=n:=by omega
   rw [List.take_of_length_le (by rw [prices_len];have:=HL.out;omega)]
   have hIp:Ints wr (some ⟨w1.heap.size,0,none⟩) k (pricesOf ls):=by
    have how:=(HR1.congr (g:=fun j=>(pricesOf ls).getD j 0) (fun j hj=>by simp [hj])).own HB1 (Nat.le_refl _) (by omega)
    rw [getD_list (pricesOf ls) k (by rw [prices_len];exact HL.out)] at how
    exact IntsK.of_own how
   have hIw:Ints wr (some ⟨w1.heap.size+1,0,none⟩) k (weightsOf ls):=by
    have how:=(HR2.congr (g:=fun j=>(weightsOf ls).getD j 0) (fun j hj=>by simp [hj])).own HB2 (Nat.zero_le _) (by omega)
    rw [getD_list (weightsOf ls) k (by rw [weights_len];exact HL.out)] at how
    exact IntsK.of_own how
   have HBx2:=HBx1.keep hbel
   have hB2:=hB1.trans (hbel.mono hB1.size)
   have hy2:=hx2.below hbel
   have hyT:=hxT.below hbel
   have hgl:w1.heap.size+1<wr.heap.size:=HB2.lt
   have hS:=sum_take_bound (pricesOf ls) 1000000000000 HPI.out (pricesOf ls).length (Nat.le_refl _)
   rw [List.take_length,prices_len,HL.out] at hS
   obtain⟨S,hSe⟩:∃ S,(pricesOf ls).sum=S:=⟨_,rfl⟩
   rw [hSe] at hS ⊢
   have HSE:=Lib.hid hSe
   have z0:wr.cell? ⟨w.heap.size,0,none⟩=some (.string cu):=HBx2.cell 0
   have z1:wr.cell? ⟨w.heap.size,1,none⟩=some (.int .i64 day):=HBx2.cell 1
   clear HR1 HR2 HB1 HB2 hx1 hx2 hxT hlt x0 x1 x2 x3 hSe hbel hB1 HC1
   by_cases g1:1000000000000<S
   ·have d1:decide (1000000000000<S)=true:=by simpa using g1
    have E:=Lib.hid (val_over (t:=ts) (cur:=cu.toList) HIV.out (by rw [HSE.out];exact g1))
    go_wp2
    go_ret2
    exact slres_err E.out hB2
   have d1:decide (1000000000000<S)=false:=by simpa using g1
   have HCV:=Lib.hid (convert_any T tn tc ts S cu day wr hyT htn HZ.out hcu hS.1 (by omega))
   have HVC:=Lib.hid (val_conv (t:=ts) (cur:=cu.toList) HIV.out (by rw [HSE.out];exact g1))
   rw [HSE.out] at HVC
   have hcb:=convOut_bounds (xs:=ts) (amt:=S) (c:=cu.toList) (day:=day) hS.1
   by_cases g2:convErr ts S cu.toList day=0
   case neg =>
    have E:=Lib.hid (HVC.out g2)
    have b2:(convErr ts S cu.toList day != 0)=true:=by simpa using g2
    generalize convErr ts S cu.toList day=er at *
    generalize convOut ts S cu.toList day=tot at *
    clear g2
    go_wp2_with fail
    refine HCV.out.mono ?_
    rintro e w2 ⟨rfl,hb2⟩
    go_wp2
    go_ret2
    exact slres_err E.out (hB2.trans (hb2.mono hB2.size))
   have G2:=Lib.hid g2
   rw [g2] at HCV
   have HVE:Hid (∀ k,k<cs.length→(∀ i,i<k→chgErr ts day cs i=0)→chgErr ts day cs k≠0→valErr ts cu.toList day ls cs=chgErr ts day cs k∧valOut ts cu.toList day ls cs = []):=fun k hk h4 h5=>val_chg HIV.out (by rw [HSE.out];exact g1) (by rw [HSE.out];exact g2) k hk h4 h5
   have HVF:Hid ((∀ i,i<cs.length→chgErr ts day cs i=0)→valErr ts cu.toList day ls cs=endErr ls.length (valTo ts cu.toList day ls cs cs.length)):=fun h4=>val_end HIV.out (by rw [HSE.out];exact g1) (by rw [HSE.out];exact g2) h4
   have HV0:Hid (∀ j,valTo ts cu.toList day ls cs 0 j=shareI (convOut ts S cu.toList day) (pricesOf ls) j):=fun j=>by unfold valTo;rw [sumN_zero,HSE.out];omega
   clear g2
   obtain⟨tot,hto⟩:∃ tot,convOut ts S cu.toList day=tot:=⟨_,rfl⟩
   rw [hto] at HCV hcb HV0
   clear hto HVC
   have hck:=chk_ok (t:=tot) (ws:=pricesOf ls) hcb.1 hcb.2 (by rw [prices_len];have:=HL.out;omega) (by rw [prices_len];have:=HL.out;omega) HPI.out
   have HSO:Hid (shareOut tot (pricesOf ls)=(List.range k).map (valTo ts cu.toList day ls cs 0)):=by
    show _=_
    unfold shareOut shareL
    rw [if_pos hck,prices_len,HL.out]
    exact List.map_congr_left fun j _=>(HV0.out j).symm
   have HCK:=Lib.hid hck
   clear hck
   go_wp2_with fail
   refine HCV.out.mono ?_
   rintro e w2 ⟨rfl,hb2⟩
   have HSH:=Lib.hid (share_any tot (some ⟨w1.heap.size,0,none⟩) k k (pricesOf ls) w2 (hIp.below hb2) (by omega))
   rw [HCK.out,HSO.out] at HSH
   go_wp2_with fail
   refine HSH.out.mono ?_
   rintro e w3 ⟨A3,n3,c3,rfl,ho3,hb3⟩
   have hn3:=own_len ho3
   rw [List.length_map,List.length_range] at hn3
   subst hn3
   have hb23:=hb2.trans (hb3.mono hb2.size)
   have HBx3:=HBx2.keep hb23
   have hB3:=hB2.trans (hb23.mono hB2.size)
   have hv2:=hy2.below hb23
   have hvT:=hyT.below hb23
   have hIp3:=hIp.below hb23
   have hIw3:=hIw.below hb23
   have hI3:=IntsK.of_own ho3
   have t0:w3.cell? ⟨w.heap.size,0,none⟩=some (.string cu):=HBx3.cell 0
   have t1:w3.cell? ⟨w.heap.size,1,none⟩=some (.int .i64 day):=HBx3.cell 1
   have t2:w3.cell? ⟨w.heap.size,2,none⟩=some (.slice A k c):=HBx3.cell 2
   have t3:w3.cell? ⟨w.heap.size,3,none⟩=some (.slice B m d):=HBx3.cell 3
   have ht3:w.heap.size<w3.heap.size:=HBx3.lt
   have hne3:w.heap.size≠w3.heap.size:=by omega
   have hgl3:w1.heap.size+1<w3.heap.size:=by have:=hb23.size;omega
   clear hb2 hb3 HBx1 HBx2 hB2 hy2 hyT hIp hIw hb23 HCV HSH z0 z1 ho3 HCK
   have hmk1:=HMK.out
   have HB5:=Lib.hid (Bl.new w3 3 C1)
   have HI5:=Lib.hid (hI3.alloc (.cells C1 3))
   have HB6:Hid (RowKit.Below w3.heap.size w3 (w3.alloc (.cells C1 3))):=(Below.refl _ _).alloc (Nat.le_refl _) _
   go_wp2_with (with_reducible refine wpList_copy_new rfl (.tmp 86) (.tmp 87) rfl w3.heap.size k C1 A3 c3 _ rfl rfl HB5.out HCS.out HI5.out w3 HB6.out ?_;intro w4 HB4 hb4;have s3:w4.cell? ⟨w.heap.size,3,none⟩=some (.slice B m d):=(hb4.cell (p:=⟨w.heap.size,3,none⟩) ht3).trans t3)
   clear hmk1 HB5 HI5 HB6 hI3
   have HRL:Hid (∀ r,r<cs.length→∀ cc kk aa ss ll,cs[r]! = ⟨kk,aa,cc,ss,ll⟩→kk≠9→∀ j,j<k→bookV kk (valTo ts cu.toList day ls cs r) (partsOf ls ⟨kk,aa,cc,ss,ll⟩ (convOut ts aa cc.toList day)) j=valTo ts cu.toList day ls cs (r+1) j):=fun r hr cc kk aa ss ll e hk9 j hj=>by
    rw [valTo_succ,e]
    unfold bookV contrib
    rw [partsOf_get _ _ _ _ (by rw [HL.out];exact hj),if_neg hk9]
    by_cases x:kk≤5
    ·rw [if_pos x,if_pos x]
    ·rw [if_neg x,if_neg x];dsimp only;omega
   have HR9:Hid (∀ r,r<cs.length→∀ cc kk aa ss ll,cs[r]! = ⟨kk,aa,cc,ss,ll⟩→kk=9→∀ j,valTo ts cu.toList day ls cs r j=valTo ts cu.toList day ls cs (r+1) j):=fun r hr cc kk aa ss ll e hk9 j=>by
    rw [valTo_succ,e]
    unfold contrib
    rw [if_pos hk9];omega
   go_loopw [92] (fun i wr=>∃ (r:Nat) (ds:Array Value),r≤m∧i=.int .i64 r∧Bl wr w3.heap.size 3 ds∧IntRow ds k (valTo ts cu.toList day ls cs r)∧Hid (∀ i,i<r→chgErr ts day cs i=0)∧RowKit.Below w3.heap.size w3 wr) (fun i _=>m - (intOf i).toNat)
   case atStart=>exact⟨0,_,Nat.zero_le _,rfl,HB4,row_list _ _,fun i hi=>absurd hi (by omega),hb4⟩
   case round =>
    clear HB4 hb4 s3
    obtain⟨r,ds,hr,rfl,HB,HR,HE,hbi⟩:=hrel
    have hBd:=hB3.trans (hbi.mono hB3.size)
    have HBx4:=HBx3.keep hbi
    by_cases hlt2:r<m
    ·have hrc:r<cs.length:=by have:=HM.out;omega
     obtain⟨b,off,kk,aa,cc,ss,ll,hA,hbl,hc1,hc2,hc3,hc4,hc5,HX⟩:=(hv2.below hbi).getC hlt2
     subst hA
     have hok:=HCO.out r hrc
     have hcz:=HCZ.out r hrc
     rw [HX.out] at hok hcz
     rw [HL.out] at hok
     have HOK:=Lib.hid hok
     unfold chgOk at hok
     dsimp only at hok hcz
     have y1:wr.cell? ⟨w.heap.size,1,none⟩=some (.int .i64 day):=HBx4.cell 1
     have hxw:w.heap.size<wr.heap.size:=HBx4.lt
     have hnx:w.heap.size≠wr.heap.size:=by omega
     have hgw:w3.heap.size<wr.heap.size:=HB.lt
     have HBn:=Bl.new wr 160 #[.int .i64 kk,.int .i64 aa,.string cc,.int .i64 ss,.int .i64 ll]
     have hal:RowKit.Below wr.heap.size wr (wr.alloc (.cells #[.int .i64 kk,.int .i64 aa,.string cc,.int .i64 ss,.int .i64 ll] 160)):=(Below.refl _ _).alloc (Nat.le_refl _) _
     have hbi5:=hbi.trans (hal.mono hbi.size)
     by_cases g9:kk=9
     ·have b9:(kk == 9)=true:=by simpa using g9
      have HE':Hid (∀ i,i<r+1→chgErr ts day cs i=0):=fun i hi=>by
       by_cases e:i=r
       ·subst e;unfold chgErr;rw [HX.out,if_pos g9]
       ·exact HE.out i (by omega)
      have HRN:=Lib.hid (HR.congr (fun j _=>HR9.out r hrc cc kk aa ss ll HX.out g9 j))
      clear g9
      go_wp2
      go_roundw
      case rel=>exact⟨r+1,ds,by omega,by go_num,HB.alloc _,HRN.out,HE'.out,hbi5⟩
      case measure=>simp [intOf];omega
     have b9:(kk == 9)=false:=by simpa using g9
     have HCE:Hid (chgErr ts day cs r=convErr ts aa cc.toList day):=by show _=_;unfold chgErr;rw [HX.out,if_neg g9]
     have HCV:=Lib.hid (convert_any T tn tc ts aa cc day _ (hvT.below hbi5) htn HZ.out hcz (by omega) (by omega))
     have hcb2:=convOut_bounds (xs:=ts) (amt:=aa) (c:=cc.toList) (day:=day) (by omega)
     have HRN:=Lib.hid (HRL.out r hrc cc kk aa ss ll HX.out g9)
     clear g9
     have hok2:=hok.1
     clear hok
     go_wp2_with fail
     refine HCV.out.mono ?_
     rintro e w5 ⟨rfl,hb5⟩
     have hB5:=hBd.trans ((hal.trans (hb5.mono hal.size)).mono hBd.size)
     by_cases g2:convErr ts aa cc.toList day=0
     case neg =>
      have E:=Lib.hid (HVE.out r hrc HE.out (by rw [HCE.out];exact g2))
      rw [HCE.out] at E
      have b2:(convErr ts aa cc.toList day != 0)=true:=by simpa using g2
      clear HCV HCE g2
      generalize convErr ts aa cc.toList day=er at *
      go_wp2
      go_ret2
      exact slres_err E.out hB5
     have HE':Hid (∀ i,i<r+1→chgErr ts day cs i=0):=fun i hi=>by
      by_cases e:i=r
      ·subst e;rw [HCE.out];exact g2
      ·exact HE.out i (by omega)
     rw [g2]
     clear g2 HCE HE HCV
     generalize convOut ts aa cc.toList day=amt at *
     have hal5:=hal.trans (hb5.mono hal.size)
     have hbi6:=hbi.trans (hal5.mono hbi.size)
     have HBn5:=HBn.keep hb5
     have q0:w5.cell? ⟨wr.heap.size,0,none⟩=some (.int .i64 kk):=HBn5.cell 0
     have q1:w5.cell? ⟨wr.heap.size,1,none⟩=some (.int .i64 aa):=HBn5.cell 1
     have q2:w5.cell? ⟨wr.heap.size,2,none⟩=some (.string cc):=HBn5.cell 2
     have q3:w5.cell? ⟨wr.heap.size,3,none⟩=some (.int .i64 ss):=HBn5.cell 3
     have q4:w5.cell? ⟨wr.heap.size,4,none⟩=some (.int .i64 ll):=HBn5.cell 4
     have HDV:=Lib.hid (divide_any kk aa ss ll cc amt (some ⟨w1.heap.size,0,none⟩) (some ⟨w1.heap.size+1,0,none⟩) k k k ls w5 (hIp3.below hbi6) (hIw3.below hbi6) hn0 hn1 HLO.out HOK.out hcb2.1 hcb2.2)
     go_wp2_with fail
     refine HDV.out.mono ?_
     rintro e w6 ⟨A6,n6,c6,rfl,ho6,hb6⟩
     have hn6:=own_len ho6
     rw [partsOf_len,HL.out] at hn6
     subst hn6
     have HBn6:=HBn5.keep hb6
     have p0:w6.cell? ⟨wr.heap.size,0,none⟩=some (.int .i64 kk):=HBn6.cell 0
     have hal6:=hal5.trans (hb6.mono hal5.size)
     have HB6:=HB.keep hal6
     have hgw5:w3.heap.size<w5.heap.size:=by have:=hal5.size;omega
     have HAN:Hid (∀ b off,A6=some ⟨b,off,none⟩→b≠w3.heap.size):=fun b off e=>by
      have:=own_base ho6 b (by rw [e];rfl)
      omega
     have HBK:=Lib.hid (book_any w3.heap.size k k A6 c6 ds (valTo ts cu.toList day ls cs r) (partsOf ls ⟨kk,aa,cc,ss,ll⟩ amt) kk w6 HB6 HR (IntsK.of_own ho6) HAN.out hn1
      (fun j hj=>by
       have h1:=valTo_bounds (t:=ts) (cur:=cu.toList) (day:=day) HLO.out (by rw [HL.out];exact hn0) HCO.out (by rw [HSE.out];exact hS.1) r (by omega) j (by rw [HL.out];exact hj)
       omega)
      (fun j hj=>by
       rw [partsOf_get _ _ _ _ (by rw [HL.out];exact hj)]
       have h1:=partV_bounds HLO.out (by rw [HL.out];exact hn0) ⟨kk,aa,cc,ss,ll⟩ amt hcb2.1 j (by rw [HL.out];exact hj)
       omega))
     clear HDV q0 q1 q2 q3 q4
     go_wp2_with fail
     refine HBK.out.mono ?_
     rintro e w7 ⟨rfl,hO7,ds7,HB7,HR7⟩
     have HR7':=Lib.hid (HR7.congr HRN.out)
     have hbi7:=(hbi.trans (hal6.mono hbi.size)).trans (hO7.below (Nat.le_refl _))
     clear HBK HR7
     go_wp2
     go_roundw
     case rel=>exact⟨r+1,ds7,by omega,by go_num,HB7,HR7'.out,HE'.out,hbi7⟩
     case measure=>simp [intOf];omega
    ·obtain rfl:r=m:=by omega
     have how:=HR.own HB (Nat.le_refl _) (by omega)
     have hIv:=IntsK.of_own how
     have HCK:=Lib.hid (checkValues_any (some ⟨w3.heap.size,0,none⟩) k k _ wr hIv (by omega))
     have e1:endErr k (fun j=>((List.range k).map (valTo ts cu.toList day ls cs r)).getD j 0)=endErr k (valTo ts cu.toList day ls cs r):=endErr_congr fun j hj=>by simp [List.getD,hj]
     rw [e1] at HCK
     have HF:=Lib.hid (HVF.out (fun i hi=>HE.out i (by have:=HM.out;omega)))
     rw [HL.out,HM.out] at HF
     clear e1
     by_cases g3:endErr k (valTo ts cu.toList day ls cs r)=0
     ·rw [g3] at HCK HF
      have HVO:Hid (valOut ts cu.toList day ls cs=(List.range k).map (valTo ts cu.toList day ls cs r)):=by show _=_;unfold valOut;rw [if_pos HF.out,HL.out,HM.out]
      clear g3
      go_wp2_with fail
      refine HCK.out.mono ?_
      rintro e w9 ⟨rfl,rfl⟩
      go_wp2
      go_ret2
      rw [HF.out,HVO.out]
      exact⟨_,_,_,rfl,own_mono how (by omega),hBd⟩
     ·have E:=Lib.hid (val_no HF.out g3)
      have b3:(endErr k (valTo ts cu.toList day ls cs r) != 0)=true:=by simpa using g3
      clear g3 HF
      generalize endErr k (valTo ts cu.toList day ls cs r)=er at *
      go_wp2_with fail
      refine HCK.out.mono ?_
      rintro e w9 ⟨rfl,rfl⟩
      go_wp2
      go_ret2
      exact slres_err E.out hBd
end Go.Proofs.YtbokkeooahodaaaGreatDoor

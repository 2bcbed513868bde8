/-
  A part of the proof of TopQuotaDayCardSaid: lemmas and contracts of functions that the law calls. No statement of the seat is proved here. Conditions: as each says.
-/
import Derived.Test.YtbokkeooahodaaaGreatDoorQAY
import Derived.Test.YtbokkeooahodaaaGreatDoorQBC
import Derived.Test.YtbokkeooahodaaaGreatDoorQAG
import Derived.Test.YtbokkeooahodaaaGreatDoorQAN
import Derived.Deep.QuietTactic
import Derived.BigQuiet
namespace Go.Proofs.YtbokkeooahodaaaGreatDoor
open Go.RowKit
set_option linter.unusedVariables false
theorem vres_same (w:World) (n:Int) (e:Ending) (w':World) (h:e=.returned (.int .i64 n)∧w=w'):VRes w n e w':=⟨h.1,by rw [← h.2];exact Below.refl _ _⟩
set_option maxRecDepth 100000 in
set_option maxHeartbeats 8000000 in
theorem ritem_any (x:It) (w:World) (h1:x.code.size≤1000000) (h2:x.org.size≤1000000) :
  Calls Tryz.prog 40 #[.agg (itA x)] w (VRes w (itErr x)):=by
 have HLv:=Lib.hid (fun w' (hb:RowKit.Below w.heap.size w w')=>(rlevel_any x.code w' h1).mono (vres_same w' (levelV x.code)))
 have HCt:=Lib.hid (fun w'=>rctry_any x.org w' h2)
 have HS0:Hid (itErr x=if ¬ (levelV x.code=8∧ctryB x.org.toList=true) then 1 else if ¬ itRange x then 2 else 0):=rfl
 obtain⟨code,org,pf,co,day,qt,vl,gr⟩:=x
 unfold itRange at HS0
 dsimp only at *
 generalize itErr ⟨code,org,pf,co,day,qt,vl,gr⟩=res at *
 generalize levelV code=lv at *
 generalize ctryB org.toList=cb at *
 have HBx:=Bl.new w 33 #[.string code,.string org,.bool pf,.int .i64 co,.int .i64 day,.int .i64 qt,.int .i64 vl,.int .i64 gr]
 have hW:RowKit.Below w.heap.size w (w.alloc (.cells #[.string code,.string org,.bool pf,.int .i64 co,.int .i64 day,.int .i64 qt,.int .i64 vl,.int .i64 gr] 33)):=(Below.refl _ _).alloc (Nat.le_refl _) _
 have HL1:=Lib.hid (HLv.out _ hW)
 clear HLv
 unfold itA
 dsimp only
 go_enter Tryz.func40,Tryz.ntmps40
 go_wp2_with fail
 refine HL1.out.mono ?_
 rintro e w2 ⟨rfl,hb2⟩
 have HB2:=HBx.keep hb2
 have HW2:=Lib.hid (hW.trans (hb2.mono hW.size))
 have t1:w2.cell? ⟨w.heap.size,1,none⟩=some (.string org):=HB2.cell 1
 have t3:w2.cell? ⟨w.heap.size,3,none⟩=some (.int .i64 co):=HB2.cell 3
 have t4:w2.cell? ⟨w.heap.size,4,none⟩=some (.int .i64 day):=HB2.cell 4
 have t5:w2.cell? ⟨w.heap.size,5,none⟩=some (.int .i64 qt):=HB2.cell 5
 have t6:w2.cell? ⟨w.heap.size,6,none⟩=some (.int .i64 vl):=HB2.cell 6
 have t7:w2.cell? ⟨w.heap.size,7,none⟩=some (.int .i64 gr):=HB2.cell 7
 clear HBx hW hb2 HB2 HL1
 by_cases z1:lv=8
 ·have y1:(lv == 8)=true:=by simpa using z1
  have y1n:(lv != 8)=false:=by simpa using z1
  cases cb with
  | false =>
   have E:=Lib.hid (HS0.out.trans (if_pos (fun hx=>by cases hx.2)))
   clear HS0 z1
   go_wp2_with fail
   refine (HCt.out _).mono ?_
   rintro e w3 ⟨rfl,rfl⟩
   go_wp2
   go_ret
   exact⟨ret_int' E.out.symm,HW2.out⟩
  | true =>
   have HS1:=Lib.hid (HS0.out.trans (if_neg (fun hx=>hx ⟨z1,rfl⟩)))
   clear HS0 z1
   go_wp2_with fail
   refine (HCt.out _).mono ?_
   rintro e w3 ⟨rfl,rfl⟩
   by_cases g1:co<0
   ·have d1:decide (co<0)=true:=by simp;omega
    have E:=Lib.hid (HS1.out.trans (if_pos (by omega)))
    clear HS1
    go_wp2
    go_ret
    exact⟨ret_int' E.out.symm,HW2.out⟩
   have d1:decide (co<0)=false:=by simp;omega
   by_cases g2:999<co
   ·have d2:decide (999<co)=true:=by simp;omega
    have E:=Lib.hid (HS1.out.trans (if_pos (by omega)))
    clear HS1
    go_wp2
    go_ret
    exact⟨ret_int' E.out.symm,HW2.out⟩
   have d2:decide (999<co)=false:=by simp;omega
   by_cases g3:day<0
   ·have d3:decide (day<0)=true:=by simp;omega
    have E:=Lib.hid (HS1.out.trans (if_pos (by omega)))
    clear HS1
    go_wp2
    go_ret
    exact⟨ret_int' E.out.symm,HW2.out⟩
   have d3:decide (day<0)=false:=by simp;omega
   by_cases g4:36524<day
   ·have d4:decide (36524<day)=true:=by simp;omega
    have E:=Lib.hid (HS1.out.trans (if_pos (by omega)))
    clear HS1
    go_wp2
    go_ret
    exact⟨ret_int' E.out.symm,HW2.out⟩
   have d4:decide (36524<day)=false:=by simp;omega
   by_cases g5:qt<0
   ·have d5:decide (qt<0)=true:=by simp;omega
    have E:=Lib.hid (HS1.out.trans (if_pos (by omega)))
    clear HS1
    go_wp2
    go_ret
    exact⟨ret_int' E.out.symm,HW2.out⟩
   have d5:decide (qt<0)=false:=by simp;omega
   by_cases g6:1000000000<qt
   ·have d6:decide (1000000000<qt)=true:=by simp;omega
    have E:=Lib.hid (HS1.out.trans (if_pos (by omega)))
    clear HS1
    go_wp2
    go_ret
    exact⟨ret_int' E.out.symm,HW2.out⟩
   have d6:decide (1000000000<qt)=false:=by simp;omega
   by_cases g7:vl<0
   ·have d7:decide (vl<0)=true:=by simp;omega
    have E:=Lib.hid (HS1.out.trans (if_pos (by omega)))
    clear HS1
    go_wp2
    go_ret
    exact⟨ret_int' E.out.symm,HW2.out⟩
   have d7:decide (vl<0)=false:=by simp;omega
   by_cases g8:1000000000000<vl
   ·have d8:decide (1000000000000<vl)=true:=by simp;omega
    have E:=Lib.hid (HS1.out.trans (if_pos (by omega)))
    clear HS1
    go_wp2
    go_ret
    exact⟨ret_int' E.out.symm,HW2.out⟩
   have d8:decide (1000000000000<vl)=false:=by simp;omega
   by_cases g9:gr<0
   ·have d9:decide (gr<0)=true:=by simp;omega
    have E:=Lib.hid (HS1.out.trans (if_pos (by omega)))
    clear HS1
    go_wp2
    go_ret
    exact⟨ret_int' E.out.symm,HW2.out⟩
   have d9:decide (gr<0)=false:=by simp;omega
   by_cases g10:qt<gr
   ·have d10:decide (qt<gr)=true:=by simp;omega
    have E:=Lib.hid (HS1.out.trans (if_pos (by omega)))
    clear HS1
    go_wp2
    go_ret
    exact⟨ret_int' E.out.symm,HW2.out⟩
   have d10:decide (qt<gr)=false:=by simp;omega
   have E:=Lib.hid (HS1.out.trans (if_neg (by omega)))
   clear HS1
   go_wp2
   go_ret
   exact⟨ret_int' E.out.symm,HW2.out⟩
 ·have y1:(lv == 8)=false:=by simpa using z1
  have y1n:(lv != 8)=true:=by simpa using z1
  have E:=Lib.hid (HS0.out.trans (if_pos (fun hx=>z1 hx.1)))
  clear HS0 z1
  go_wp2
  go_ret
  exact⟨ret_int' E.out.symm,HW2.out⟩
def oneErr (m:Ms):Int :=
 if ¬ msHead m then 2
 else if levelV m.pre=0 then 1
 else if 20<m.orgs.length then 8
 else if ¬ orgsOk m.orgs then 1
 else if ¬ msTime m then 2
 else duErr m.du
def OneRes (w:World) (er:Int) (e:Ending) (w':World):Prop:=∃ t:Bool,e=.returned (.tuple #[.int .i64 er,.bool t])∧RowKit.Below w.heap.size w w'
theorem OneRes.of {w w':World} {er a:Int} {t:Bool} (h:er=a) (hb:RowKit.Below w.heap.size w w'):OneRes w er (.returned (.tuple #[.int .i64 a,.bool t])) w':=⟨t,by rw [h],hb⟩
set_option maxRecDepth 100000 in
set_option maxHeartbeats 16000000 in
theorem rone_any (x:MsA) (w:World) (hs:Sr w x.A x.n x.m.orgs) (hps:x.m.pre.size≤1000000) :
  Calls Tryz.prog 75 #[.agg (msA x)] w (OneRes w (oneErr x.m)):=by
 have HS0:Hid (oneErr x.m=if ¬ msHead x.m then 2
   else if levelV x.m.pre=0 then 1
   else if 20<x.n then 8
   else if ¬ decide (orgsOk x.m.orgs)=true then 1
   else if ¬ msTime x.m then 2
   else duErr x.m.du):=by
  unfold Hid oneErr
  rw [hs.len]
  simp only [decide_eq_true_eq]
 have HLv:=Lib.hid (fun w'=>rlevel_any x.m.pre w' hps)
 have HDv:=Lib.hid (fun w'=>rduty_any x.m.du.rate x.m.du.am x.m.du.per x.m.du.most x.m.du.least x.m.du.hm x.m.du.hl w')
 have HSr:=Lib.hid hs
 have HL:=Lib.hid hs.len
 have hnn:x.n≤1000000:=hs.2.1
 have HB1o:Hid (∀ k,k<x.n→ctryB x.m.orgs[k]!.toList=false→decide (orgsOk x.m.orgs)=false):=fun k hk=>orgs_bad1 (by have:=HL.out;omega)
 have HB2o:Hid (∀ k,k<x.n→0<k→Op.bytesLess x.m.orgs[k - 1]!.toList x.m.orgs[k]!.toList=false→decide (orgsOk x.m.orgs)=false):=fun k hk=>orgs_bad2 (by have:=HL.out;omega)
 have HGo:Hid ((∀ j,j<x.n→ctryB x.m.orgs[j]!.toList=true∧(0<j→Op.bytesLess x.m.orgs[j - 1]!.toList x.m.orgs[j]!.toList=true))→decide (orgsOk x.m.orgs)=true):=fun hx=>orgs_good (fun j hj=>hx j (by have:=HL.out;omega))
 clear hs hps
 obtain⟨⟨id,ki,pre,orgs,co,fr,til,reg,⟨ra,am,pe,hm,mo,hl,le⟩⟩,A',n',c'⟩:=x
 unfold msHead msTime at HS0
 unfold duA at HDv
 unfold msA
 dsimp only at *
 generalize decide (orgsOk orgs)=oo at *
 generalize oneErr ⟨id,ki,pre,orgs,co,fr,til,reg,⟨ra,am,pe,hm,mo,hl,le⟩⟩=er at *
 have HBx:Hid (Bl (w.alloc (.cells #[.int .i64 id,.int .i64 ki,.string pre,.slice A' n' c',.int .i64 co,.int .i64 fr,.int .i64 til,.int .i64 reg,.int .i64 ra,.int .i64 am,.int .i64 pe,.bool hm,.int .i64 mo,.bool hl,.int .i64 le] 62)) w.heap.size 62 #[.int .i64 id,.int .i64 ki,.string pre,.slice A' n' c',.int .i64 co,.int .i64 fr,.int .i64 til,.int .i64 reg,.int .i64 ra,.int .i64 am,.int .i64 pe,.bool hm,.int .i64 mo,.bool hl,.int .i64 le]):=Bl.new _ _ _
 have HB1:Hid (∀ o,RowKit.Below w.heap.size w (w.alloc o)):=fun o=>(Below.refl _ _).alloc (Nat.le_refl _) _
 by_cases g1:id<1
 ·have d1:decide (id<1)=true:=by simp;omega
  have E:=Lib.hid (HS0.out.trans (if_pos (by omega)))
  clear HS0 HLv HDv HSr HB1o HB2o HGo HL HBx
  go_enter Tryz.func75,Tryz.ntmps75
  go_wp2
  go_ret2
  exact OneRes.of E.out (HB1.out _)
 have d1:decide (id<1)=false:=by simp;omega
 by_cases g2:1000000<id
 ·have d2:decide (1000000<id)=true:=by simp;omega
  have E:=Lib.hid (HS0.out.trans (if_pos (by omega)))
  clear HS0 HLv HDv HSr HB1o HB2o HGo HL HBx
  go_enter Tryz.func75,Tryz.ntmps75
  go_wp2
  go_ret2
  exact OneRes.of E.out (HB1.out _)
 have d2:decide (1000000<id)=false:=by simp;omega
 by_cases g3:ki<1
 ·have d3:decide (ki<1)=true:=by simp;omega
  have E:=Lib.hid (HS0.out.trans (if_pos (by omega)))
  clear HS0 HLv HDv HSr HB1o HB2o HGo HL HBx
  go_enter Tryz.func75,Tryz.ntmps75
  go_wp2
  go_ret2
  exact OneRes.of E.out (HB1.out _)
 have d3:decide (ki<1)=false:=by simp;omega
 by_cases g4:6<ki
 ·have d4:decide (6<ki)=true:=by simp;omega
  have E:=Lib.hid (HS0.out.trans (if_pos (by omega)))
  clear HS0 HLv HDv HSr HB1o HB2o HGo HL HBx
  go_enter Tryz.func75,Tryz.ntmps75
  go_wp2
  go_ret2
  exact OneRes.of E.out (HB1.out _)
 have d4:decide (6<ki)=false:=by simp;omega
 by_cases g5:co<0
 ·have d5:decide (co<0)=true:=by simp;omega
  have E:=Lib.hid (HS0.out.trans (if_pos (by omega)))
  clear HS0 HLv HDv HSr HB1o HB2o HGo HL HBx
  go_enter Tryz.func75,Tryz.ntmps75
  go_wp2
  go_ret2
  exact OneRes.of E.out (HB1.out _)
 have d5:decide (co<0)=false:=by simp;omega
 by_cases g6:999<co
 ·have d6:decide (999<co)=true:=by simp;omega
  have E:=Lib.hid (HS0.out.trans (if_pos (by omega)))
  clear HS0 HLv HDv HSr HB1o HB2o HGo HL HBx
  go_enter Tryz.func75,Tryz.ntmps75
  go_wp2
  go_ret2
  exact OneRes.of E.out (HB1.out _)
 have d6:decide (999<co)=false:=by simp;omega
 have HS1:=Lib.hid (HS0.out.trans (if_neg (by omega)))
 clear HS0
 generalize levelV pre=lv at *
 go_enter Tryz.func75,Tryz.ntmps75
 go_wp2_with fail
 refine (HLv.out _).mono ?_
 rintro e w2 ⟨rfl,rfl⟩
 by_cases z1:lv=0
 ·have y1:(lv == 0)=true:=by simpa using z1
  have E:=Lib.hid (HS1.out.trans (if_pos z1))
  clear HS1 HDv HSr HB1o HB2o HGo HL HBx
  go_wp2
  go_ret2
  exact OneRes.of E.out (HB1.out _)
 have y1:(lv == 0)=false:=by simpa using z1
 have HS4:=Lib.hid (HS1.out.trans (if_neg z1))
 clear HS1 z1 HLv
 by_cases z2:20<n'
 ·have y2:decide ((20:Int)<(n':Int))=true:=by simp;omega
  have E:=Lib.hid (HS4.out.trans (if_pos z2))
  clear HS4 HDv HSr HB1o HB2o HGo HL HBx
  go_wp2
  go_ret2
  exact OneRes.of E.out (HB1.out _)
 have y2:decide ((20:Int)<(n':Int))=false:=by simp;omega
 have HS5:=Lib.hid (HS4.out.trans (if_neg z2))
 clear HS4 z2
 have HB0:=Lib.hid (HB1.out (.cells #[.int .i64 id,.int .i64 ki,.string pre,.slice A' n' c',.int .i64 co,.int .i64 fr,.int .i64 til,.int .i64 reg,.int .i64 ra,.int .i64 am,.int .i64 pe,.bool hm,.int .i64 mo,.bool hl,.int .i64 le] 62))
 go_wp2_with fail
 go_loopw [5] (fun i wx=>∃ k:Nat,k≤n'∧i=.int .i64 k∧Hid (∀ j,j<k→ctryB orgs[j]!.toList=true∧(0<j→Op.bytesLess orgs[j - 1]!.toList orgs[j]!.toList=true))∧Hid (RowKit.Below w.heap.size w wx)∧Hid (Bl wx w.heap.size 62 #[.int .i64 id,.int .i64 ki,.string pre,.slice A' n' c',.int .i64 co,.int .i64 fr,.int .i64 til,.int .i64 reg,.int .i64 ra,.int .i64 am,.int .i64 pe,.bool hm,.int .i64 mo,.bool hl,.int .i64 le])) (fun i _=>n' - (intOf i).toNat)
 case atStart=>exact⟨0,Nat.zero_le _,rfl,fun i hi=>absurd hi (by omega),HB0.out,HBx.out⟩
 case round =>
  clear HB0 HBx
  obtain⟨k,hk,rfl,HA,HB,HX⟩:=hrel
  by_cases hlt:k<n'
  case pos =>
   obtain⟨b,off,s,rfl,hbl,hc,hsz,HXs⟩:=(HSr.out.below HB.out).get hlt
   have c3:wr.cell? ⟨w.heap.size,3,none⟩=some (.slice (some ⟨b,off,none⟩) n' c'):=HX.out.cell 3
   have dk:decide ((k:Int)<(n':Int))=true:=by simp;omega
   have i1:(0:Int)≤(k:Int):=by omega
   have i2:(k:Int)<(n':Int):=by omega
   have uk:IntKind.i64.wrap ((k:Int)+1)=((k+1:Nat):Int):=IntWalk.i64_in _ (by omega)
   have HE1:Hid (ctryB s.toList=false→oo=false):=fun hx=>HB1o.out k hlt (by rw [HXs.out];exact hx)
   obtain⟨cb,hcb⟩:∃ q,ctryB s.toList=q:=⟨_,rfl⟩
   have HV:Hid (∀ w,Calls Tryz.prog 77 #[.string s] w fun e w'=>e=.returned (.bool cb)∧w'=w):=fun w=>by rw [← hcb];exact (rctry_any s w hsz).mono fun e w' h=>⟨h.1,h.2.symm⟩
   cases cb with
   | false =>
    have E:=Lib.hid (HS5.out.trans (if_pos (by rw [HE1.out hcb];decide)))
    clear hcb HS5 HDv HB1o HB2o HGo HL HE1
    go_wp2
    go_quiet ((go_at_call 77;exact Calls.quiet_of_same (HV.out _)))
    go_wp2
    go_ret2
    exact OneRes.of E.out (below_drewN HB.out _)
   | true =>
    by_cases hk0:0<k
    case neg =>
     have d5:decide (0<k)=false:=by simp;omega
     have d5i:decide ((0:Int)<(k:Int))=false:=by simp;omega
     have HA3:Hid (∀ j,j<k+1→ctryB orgs[j]!.toList=true∧(0<j→Op.bytesLess orgs[j - 1]!.toList orgs[j]!.toList=true)):=fun j hj=>by
      have e:j=k:=by omega
      subst e
      exact⟨by rw [HXs.out];exact hcb,fun hj0=>absurd hj0 hk0⟩
     clear hcb
     go_wp2
     go_quiet ((go_at_call 77;exact Calls.quiet_of_same (HV.out _)))
     go_wp2_with fail
     go_roundw
     case rel=>exact⟨k+1,by omega,by go_num,HA3.out,below_drewN HB.out _,HX.out.drewN _⟩
     case measure=>simp [intOf];omega
    case pos =>
     obtain⟨b',off',p,hA,_,k1,_,HX0⟩:=(HSr.out.below HB.out).get (show k - 1<n' by omega)
     obtain⟨rfl,rfl⟩:b=b'∧off=off':=by simpa using hA
     clear hA
     obtain⟨r,hr⟩:∃ r:Nat,k=r+1:=⟨k - 1,by omega⟩
     subst hr
     simp only [Nat.add_sub_cancel] at k1 HX0
     have j1:(0:Int)≤(r:Int):=by omega
     have j2:(r:Int)<(n':Int):=by omega
     have d5:decide (0<(r:Int)+1)=true:=by simp
     have d5c:decide ((0:Int)<((r+1:Nat):Int))=true:=by simp
     have u1:IntKind.i64.wrap ((r:Int)+1 - 1)=(r:Int):=(IntWalk.i64_in _ (by omega)).trans (by omega)
     have u2:IntKind.i64.wrap (r:Int)=(r:Int):=IntWalk.i64_in _ (by omega)
     have HE2:Hid (Op.bytesLess p.toList s.toList=false→oo=false):=fun hx=>HB2o.out (r+1) hlt (by omega) (by rw [Nat.add_sub_cancel,HX0.out,HXs.out];exact hx)
     have HA2:Hid (Op.bytesLess p.toList s.toList=true→∀ j,j<r+1+1→ctryB orgs[j]!.toList=true∧(0<j→Op.bytesLess orgs[j - 1]!.toList orgs[j]!.toList=true)):=fun hx j hj=>by
      by_cases e:j=r+1
      ·subst e;exact⟨by rw [HXs.out];exact hcb,fun _=>by rw [Nat.add_sub_cancel,HX0.out,HXs.out];exact hx⟩
      ·exact HA.out j (by omega)
     clear hcb
     cases hy:(s.toList == p.toList) with
     | true =>
      have hy2:(p.toList == s.toList)=true:=by rw [eq_of_beq hy];simp
      have hx2:Op.bytesLess p.toList s.toList=false:=by rw [← eq_of_beq hy];exact bytesLess_irrefl _
      have E:=Lib.hid (HS5.out.trans (if_pos (by rw [HE2.out hx2];decide)))
      clear HS5 HDv HB1o HB2o HGo HL HE1 HE2 HA2
      go_wp2
      go_quiet ((go_at_call 77;exact Calls.quiet_of_same (HV.out _)))
      go_wp2
      go_ret2
      exact OneRes.of E.out (below_drewN HB.out _)
     | false =>
     have hne:p.toList≠s.toList:=fun e=>by rw [e] at hy;simp at hy
     have hy2:(p.toList == s.toList)=false:=by simpa using hne
     have HF:=Lib.hid (bytesLess_flip p.toList s.toList hne)
     clear hne
     cases hx:Op.bytesLess s.toList p.toList with
     | true =>
      have hx2:Op.bytesLess p.toList s.toList=false:=by rw [HF.out,hx];rfl
      have E:=Lib.hid (HS5.out.trans (if_pos (by rw [HE2.out hx2];decide)))
      clear HS5 HDv HB1o HB2o HGo HL HE1 HE2 HA2 HF
      go_wp2
      go_quiet ((go_at_call 77;exact Calls.quiet_of_same (HV.out _)))
      go_wp2
      go_ret2
      exact OneRes.of E.out (below_drewN HB.out _)
     | false =>
      have hx2:Op.bytesLess p.toList s.toList=true:=by rw [HF.out,hx];rfl
      have HA3:=Lib.hid (HA2.out hx2)
      clear HF HA2 HE2
      go_wp2
      go_quiet ((go_at_call 77;exact Calls.quiet_of_same (HV.out _)))
      go_wp2_with fail
      go_roundw
      case rel=>exact⟨r+1+1,by omega,by go_num,HA3.out,below_drewN HB.out _,HX.out.drewN _⟩
      case measure=>simp [intOf];omega
  case neg =>
   have dk:decide ((k:Int)<(n':Int))=false:=by simp;omega
   have HS6:=Lib.hid (HS5.out.trans (if_neg (by rw [HGo.out (fun j hj=>HA.out j (by omega))];decide)))
   clear HS5 HGo HB1o HB2o HA HSr HL
   have t3:wr.cell? ⟨w.heap.size,3,none⟩=some (.slice A' n' c'):=HX.out.cell 3
   have t5:wr.cell? ⟨w.heap.size,5,none⟩=some (.int .i64 fr):=HX.out.cell 5
   have t6:wr.cell? ⟨w.heap.size,6,none⟩=some (.int .i64 til):=HX.out.cell 6
   have t7:wr.cell? ⟨w.heap.size,7,none⟩=some (.int .i64 reg):=HX.out.cell 7
   have t8:wr.cell? ⟨w.heap.size,8,none⟩=some (.int .i64 ra):=HX.out.cell 8
   have t9:wr.cell? ⟨w.heap.size,9,none⟩=some (.int .i64 am):=HX.out.cell 9
   have t10:wr.cell? ⟨w.heap.size,10,none⟩=some (.int .i64 pe):=HX.out.cell 10
   have t11:wr.cell? ⟨w.heap.size,11,none⟩=some (.bool hm):=HX.out.cell 11
   have t12:wr.cell? ⟨w.heap.size,12,none⟩=some (.int .i64 mo):=HX.out.cell 12
   have t13:wr.cell? ⟨w.heap.size,13,none⟩=some (.bool hl):=HX.out.cell 13
   have t14:wr.cell? ⟨w.heap.size,14,none⟩=some (.int .i64 le):=HX.out.cell 14
   by_cases v0:fr<0
   ·have v0d:decide (fr<0)=true:=by simp;omega
    have E:=Lib.hid (HS6.out.trans (if_pos (by omega)))
    clear HS6 HDv
    go_wp2
    go_ret2
    exact OneRes.of E.out HB.out
   have v0d:decide (fr<0)=false:=by simp;omega
   by_cases v1:til≤fr
   ·have v1d:decide (til≤fr)=true:=by simp;omega
    have E:=Lib.hid (HS6.out.trans (if_pos (by omega)))
    clear HS6 HDv
    go_wp2
    go_ret2
    exact OneRes.of E.out HB.out
   have v1d:decide (til≤fr)=false:=by simp;omega
   by_cases v2:36525<til
   ·have v2d:decide (36525<til)=true:=by simp;omega
    have E:=Lib.hid (HS6.out.trans (if_pos (by omega)))
    clear HS6 HDv
    go_wp2
    go_ret2
    exact OneRes.of E.out HB.out
   have v2d:decide (36525<til)=false:=by simp;omega
   by_cases v3:reg < -1
   ·have v3d:decide (reg < -1)=true:=by simp;omega
    have E:=Lib.hid (HS6.out.trans (if_pos (by omega)))
    clear HS6 HDv
    go_wp2
    go_ret2
    exact OneRes.of E.out HB.out
   have v3d:decide (reg < -1)=false:=by simp;omega
   by_cases v4:fr<reg
   ·have v4d:decide (fr<reg)=true:=by simp;omega
    have E:=Lib.hid (HS6.out.trans (if_pos (by omega)))
    clear HS6 HDv
    go_wp2
    go_ret2
    exact OneRes.of E.out HB.out
   have v4d:decide (fr<reg)=false:=by simp;omega
   have HS7:=Lib.hid (HS6.out.trans (if_neg (by omega)))
   clear HS6
   generalize duErr ⟨ra,am,pe,hm,mo,hl,le⟩=de at *
   go_wp2_with fail
   refine (HDv.out _).mono ?_
   rintro e w4 ⟨rfl,hb4⟩
   have HBW4:=Lib.hid (HB.out.trans (hb4.mono HB.out.size))
   go_wp2
   go_ret2
   exact OneRes.of HS7.out HBW4.out
theorem msErr_one (l:List Ms) (i:Nat):msErr l i=if ¬ msHead l[i]! then 2 else if 0<i∧l[i]!.id≤l[i - 1]!.id then 9 else oneErr l[i]!:=by
 unfold msErr oneErr
 by_cases h:msHead l[i]!
 ·simp only [h,not_true_eq_false,if_false]
 ·simp only [h,not_false_eq_true,if_true]
set_option maxRecDepth 100000 in
set_option maxHeartbeats 16000000 in
theorem rmeasures_any (A:Option Addr) (n c:Nat) (xs:List MsA) (w:World) (h:MsR w A n xs) :
  Calls Tryz.prog 39 #[.slice A n c] w (VRes w (mssErr (msL xs))):=by
 have HL:Hid ((msL xs).length=n):=by unfold Hid;rw [msL_len,h.len]
 have hn:=h.2.1
 by_cases hl:300<n
 ·have E:=Lib.hid (mssErr_long (l:=msL xs) (by have:=HL.out;omega))
  have d1:decide ((300:Int)<(n:Int))=true:=by simp;omega
  go_enter Tryz.func39,Tryz.ntmps39
  go_wp2
  go_ret
  exact⟨ret_int' E.out.symm,Below.refl _ _⟩
 have d1:decide ((300:Int)<(n:Int))=false:=by simp;omega
 go_enter Tryz.func39,Tryz.ntmps39
 go_wp2
 go_loopw [3] (fun i wr=>∃ k:Nat,k≤n∧i=.int .i64 k∧Hid (∀ i,i<k→msErr (msL xs) i=0)∧RowKit.Below w.heap.size w wr) (fun i _=>n - (intOf i).toNat)
 case atStart=>exact⟨0,Nat.zero_le _,rfl,fun i hi=>absurd hi (by omega),Below.refl _ _⟩
 case round =>
  obtain⟨k,hk,rfl,HA,hbel⟩:=hrel
  by_cases hlt:k<n
  case neg =>
   have E:=Lib.hid (mssErr_ok (l:=msL xs) (by have:=HL.out;omega) (fun i hi=>HA.out i (by have:=HL.out;omega)))
   have dk:decide ((k:Int)<(n:Int))=false:=by simp;omega
   go_wp2
   go_ret
   exact⟨ret_int' E.out.symm,hbel⟩
  case pos =>
   obtain⟨b,off,x,rfl,hbl,hcs,hsr,hps,HX⟩:=(h.below hbel).get hlt
   have HT:Hid (∀ er:Int,msErr (msL xs) k=er→er≠0→mssErr (msL xs)=er):=fun er he hx=>mssErr_at (by have:=HL.out;omega) k (by have:=HL.out;omega) HA.out he hx
   have HA':Hid (msErr (msL xs) k=0→∀ i,i<k+1→msErr (msL xs) i=0):=fun h0 i hi=>by
    by_cases e:i=k
    ·subst e;exact h0
    ·exact HA.out i (by omega)
   have HS0:Hid (msErr (msL xs) k=if ¬ msHead x.m then 2 else if 0<k∧x.m.id≤(msL xs)[k - 1]!.id then 9 else oneErr x.m):=by
    show _=_
    rw [msErr_one,msL_get,HX.out]
   have HON:=Lib.hid (fun w' (hb:RowKit.Below wr.heap.size wr w')=>rone_any x w' (hsr.below hb) hps)
   clear HX hsr HA hps
   obtain⟨er1,her1⟩:∃ q,oneErr x.m=q:=⟨_,rfl⟩
   rw [her1] at HON HS0
   clear her1
   obtain⟨⟨id,ki,pre,orgs,co,fr,til,reg,⟨ra,am,pe,hm,mo,hl,le⟩⟩,A',n',c'⟩:=x
   unfold MsCells at hcs
   unfold msHead at HS0
   unfold msA at HON
   dsimp only at *
   obtain⟨c0,c1,c2,c3,c4,c5,c6,c7,c8,c9,c10,c11,c12,c13,c14⟩:=hcs
   generalize msErr (msL xs) k=er at *
   generalize mssErr (msL xs)=res at *
   have HB1:Hid (∀ o,RowKit.Below w.heap.size w (wr.alloc o)):=fun o=>hbel.alloc hbel.size _
   have i1:(0:Int)≤(k:Int):=by omega
   have i2:(k:Int)<(n:Int):=by omega
   have uk:IntKind.i64.wrap ((k:Int)+1)=((k+1:Nat):Int):=IntWalk.i64_in _ (by omega)
   by_cases g1:id<1
   ·have d1:decide (id<1)=true:=by simp;omega
    have E:=Lib.hid (HT.out 2 (by rw [HS0.out,if_pos (by omega)]) (by omega))
    clear HS0 HT HA' HON
    go_wp2
    go_ret
    exact⟨ret_int' E.out.symm,HB1.out _⟩
   have d1:decide (id<1)=false:=by simp;omega
   by_cases g2:1000000<id
   ·have d2:decide (1000000<id)=true:=by simp;omega
    have E:=Lib.hid (HT.out 2 (by rw [HS0.out,if_pos (by omega)]) (by omega))
    clear HS0 HT HA' HON
    go_wp2
    go_ret
    exact⟨ret_int' E.out.symm,HB1.out _⟩
   have d2:decide (1000000<id)=false:=by simp;omega
   by_cases g3:ki<1
   ·have d3:decide (ki<1)=true:=by simp;omega
    have E:=Lib.hid (HT.out 2 (by rw [HS0.out,if_pos (by omega)]) (by omega))
    clear HS0 HT HA' HON
    go_wp2
    go_ret
    exact⟨ret_int' E.out.symm,HB1.out _⟩
   have d3:decide (ki<1)=false:=by simp;omega
   by_cases g4:6<ki
   ·have d4:decide (6<ki)=true:=by simp;omega
    have E:=Lib.hid (HT.out 2 (by rw [HS0.out,if_pos (by omega)]) (by omega))
    clear HS0 HT HA' HON
    go_wp2
    go_ret
    exact⟨ret_int' E.out.symm,HB1.out _⟩
   have d4:decide (6<ki)=false:=by simp;omega
   by_cases g5:co<0
   ·have d5:decide (co<0)=true:=by simp;omega
    have E:=Lib.hid (HT.out 2 (by rw [HS0.out,if_pos (by omega)]) (by omega))
    clear HS0 HT HA' HON
    go_wp2
    go_ret
    exact⟨ret_int' E.out.symm,HB1.out _⟩
   have d5:decide (co<0)=false:=by simp;omega
   by_cases g6:999<co
   ·have d6:decide (999<co)=true:=by simp;omega
    have E:=Lib.hid (HT.out 2 (by rw [HS0.out,if_pos (by omega)]) (by omega))
    clear HS0 HT HA' HON
    go_wp2
    go_ret
    exact⟨ret_int' E.out.symm,HB1.out _⟩
   have d6:decide (999<co)=false:=by simp;omega
   have HS1:=Lib.hid (HS0.out.trans (if_neg (by omega)))
   clear HS0
   have HBx:=Bl.new wr 62 #[.int .i64 id,.int .i64 ki,.string pre,.slice A' n' c',.int .i64 co,.int .i64 fr,.int .i64 til,.int .i64 reg,.int .i64 ra,.int .i64 am,.int .i64 pe,.bool hm,.int .i64 mo,.bool hl,.int .i64 le]
   have hW:RowKit.Below wr.heap.size wr (wr.alloc (.cells #[.int .i64 id,.int .i64 ki,.string pre,.slice A' n' c',.int .i64 co,.int .i64 fr,.int .i64 til,.int .i64 reg,.int .i64 ra,.int .i64 am,.int .i64 pe,.bool hm,.int .i64 mo,.bool hl,.int .i64 le] 62)):=(Below.refl _ _).alloc (Nat.le_refl _) _
   have HBW:=Lib.hid (HB1.out (.cells #[.int .i64 id,.int .i64 ki,.string pre,.slice A' n' c',.int .i64 co,.int .i64 fr,.int .i64 til,.int .i64 reg,.int .i64 ra,.int .i64 am,.int .i64 pe,.bool hm,.int .i64 mo,.bool hl,.int .i64 le] 62))
   clear HB1
   by_cases hk0:0<k
   case neg =>
    have d20:decide ((0:Int)<(k:Int))=false:=by simp;omega
    have d20n:decide (0<k)=false:=by simp;omega
    have HS3:=Lib.hid (HS1.out.trans (if_neg (fun hx=>hk0 hx.1)))
    clear HS1
    go_wp2
    generalize wr.alloc (.cells #[.int .i64 id,.int .i64 ki,.string pre,.slice A' n' c',.int .i64 co,.int .i64 fr,.int .i64 til,.int .i64 reg,.int .i64 ra,.int .i64 am,.int .i64 pe,.bool hm,.int .i64 mo,.bool hl,.int .i64 le] 62)=W at *
    go_quiet (fail)
    have HBq:=Lib.hid (HBx.drewN nq)
    have hWq:=below_drewN hW nq
    have HBWq:=Lib.hid (below_drewN HBW.out nq)
    have HON1:=Lib.hid (HON.out _ hWq)
    generalize W.drewN nq=W1 at *
    have m0:W1.cell? ⟨wr.heap.size,0,none⟩=some (.int .i64 id):=HBq.out.cell 0
    have m1:W1.cell? ⟨wr.heap.size,1,none⟩=some (.int .i64 ki):=HBq.out.cell 1
    have m2:W1.cell? ⟨wr.heap.size,2,none⟩=some (.string pre):=HBq.out.cell 2
    have m3:W1.cell? ⟨wr.heap.size,3,none⟩=some (.slice A' n' c'):=HBq.out.cell 3
    have m4:W1.cell? ⟨wr.heap.size,4,none⟩=some (.int .i64 co):=HBq.out.cell 4
    have m5:W1.cell? ⟨wr.heap.size,5,none⟩=some (.int .i64 fr):=HBq.out.cell 5
    have m6:W1.cell? ⟨wr.heap.size,6,none⟩=some (.int .i64 til):=HBq.out.cell 6
    have m7:W1.cell? ⟨wr.heap.size,7,none⟩=some (.int .i64 reg):=HBq.out.cell 7
    have m8:W1.cell? ⟨wr.heap.size,8,none⟩=some (.int .i64 ra):=HBq.out.cell 8
    have m9:W1.cell? ⟨wr.heap.size,9,none⟩=some (.int .i64 am):=HBq.out.cell 9
    have m10:W1.cell? ⟨wr.heap.size,10,none⟩=some (.int .i64 pe):=HBq.out.cell 10
    have m11:W1.cell? ⟨wr.heap.size,11,none⟩=some (.bool hm):=HBq.out.cell 11
    have m12:W1.cell? ⟨wr.heap.size,12,none⟩=some (.int .i64 mo):=HBq.out.cell 12
    have m13:W1.cell? ⟨wr.heap.size,13,none⟩=some (.bool hl):=HBq.out.cell 13
    have m14:W1.cell? ⟨wr.heap.size,14,none⟩=some (.int .i64 le):=HBq.out.cell 14
    clear HON HBx hWq hW
    go_wp2_with fail
    refine HON1.out.mono ?_
    rintro e w2 ⟨tt,rfl,hb2⟩
    have HBW2:=Lib.hid (HBWq.out.trans (hb2.mono HBWq.out.size))
    clear HON1 hb2 m0 m1 m2 m3 m4 m5 m6 m7 m8 m9 m10 m11 m12 m13 m14
    by_cases z4:er1=0
    ·have y4:(er1 == 0)=true:=by simpa using z4
     have y4n:(er1 != 0)=false:=by simpa using z4
     have HA2:=Lib.hid (HA'.out (by rw [HS3.out,z4]))
     clear HT HA' HS3 z4
     go_wp2_with fail
     go_roundw
     case rel=>exact⟨k+1,by omega,by go_num,HA2.out,HBW2.out⟩
     case measure=>simp [intOf];omega
    ·have y4:(er1 == 0)=false:=by simpa using z4
     have y4n:(er1 != 0)=true:=by simpa using z4
     have E:=Lib.hid (HT.out er1 (by rw [HS3.out]) z4)
     clear HT HA' HS3 z4
     go_wp2
     go_ret
     exact⟨ret_int' E.out.symm,HBW2.out⟩
   case pos =>
    obtain⟨b',off',y,hA,_,hcy,_,_,HY⟩:=(h.below hbel).get (show k - 1<n by omega)
    obtain⟨rfl,rfl⟩:b=b'∧off=off':=by simpa using hA
    have k1:=hcy.1
    have HS2:Hid (er=if y.m.id<id∧False∨id≤y.m.id then 9 else er1):=by
     have:=HS1.out
     rw [msL_get,HY.out] at this
     show _=_
     rw [this]
     congr 1
     simp [hk0]
    clear hcy hA HY HS1
    obtain⟨pid,hpid⟩:∃ q,y.m.id=q:=⟨_,rfl⟩
    rw [hpid] at k1 HS2
    clear hpid
    obtain⟨r,hr⟩:∃ r:Nat,k=r+1:=⟨k - 1,by omega⟩
    subst hr
    simp only [Nat.add_sub_cancel] at k1
    have j1:(0:Int)≤(r:Int):=by omega
    have j2:(r:Int)<(n:Int):=by omega
    have d20:decide (0<(r:Int)+1)=true:=by simp
    have u1:IntKind.i64.wrap ((r:Int)+1 - 1)=(r:Int):=(IntWalk.i64_in _ (by omega)).trans (by omega)
    have u2:IntKind.i64.wrap (r:Int)=(r:Int):=IntWalk.i64_in _ (by omega)
    by_cases g20:id≤pid
    ·have d21:decide (id≤pid)=true:=by simp;omega
     have E:=Lib.hid (HT.out 9 (by rw [HS2.out,if_pos (.inr g20)]) (by omega))
     clear HS2 HT HA' HON
     go_wp2
     have q0:=HBx.cell 0
     have k2:=(hW.cell (p:=⟨b,off+r*15,none⟩) hbl).trans k1
     generalize wr.alloc (.cells #[.int .i64 id,.int .i64 ki,.string pre,.slice A' n' c',.int .i64 co,.int .i64 fr,.int .i64 til,.int .i64 reg,.int .i64 ra,.int .i64 am,.int .i64 pe,.bool hm,.int .i64 mo,.bool hl,.int .i64 le] 62)=W at *
     go_quiet (fail)
     go_wp2
     go_ret
     exact⟨ret_int' E.out.symm,below_drewN HBW.out _⟩
    ·have d21:decide (id≤pid)=false:=by simp;omega
     have HS3:=Lib.hid (HS2.out.trans (if_neg (fun hx=>hx.elim (fun a=>a.2.elim) g20)))
     clear HS2
     go_wp2
     have q0:=HBx.cell 0
     have k2:=(hW.cell (p:=⟨b,off+r*15,none⟩) hbl).trans k1
     generalize wr.alloc (.cells #[.int .i64 id,.int .i64 ki,.string pre,.slice A' n' c',.int .i64 co,.int .i64 fr,.int .i64 til,.int .i64 reg,.int .i64 ra,.int .i64 am,.int .i64 pe,.bool hm,.int .i64 mo,.bool hl,.int .i64 le] 62)=W at *
     go_quiet (fail)
     have HBq:=Lib.hid (HBx.drewN nq)
     have hWq:=below_drewN hW nq
     have HBWq:=Lib.hid (below_drewN HBW.out nq)
     have HON1:=Lib.hid (HON.out _ hWq)
     generalize W.drewN nq=W1 at *
     have m0:W1.cell? ⟨wr.heap.size,0,none⟩=some (.int .i64 id):=HBq.out.cell 0
     have m1:W1.cell? ⟨wr.heap.size,1,none⟩=some (.int .i64 ki):=HBq.out.cell 1
     have m2:W1.cell? ⟨wr.heap.size,2,none⟩=some (.string pre):=HBq.out.cell 2
     have m3:W1.cell? ⟨wr.heap.size,3,none⟩=some (.slice A' n' c'):=HBq.out.cell 3
     have m4:W1.cell? ⟨wr.heap.size,4,none⟩=some (.int .i64 co):=HBq.out.cell 4
     have m5:W1.cell? ⟨wr.heap.size,5,none⟩=some (.int .i64 fr):=HBq.out.cell 5
     have m6:W1.cell? ⟨wr.heap.size,6,none⟩=some (.int .i64 til):=HBq.out.cell 6
     have m7:W1.cell? ⟨wr.heap.size,7,none⟩=some (.int .i64 reg):=HBq.out.cell 7
     have m8:W1.cell? ⟨wr.heap.size,8,none⟩=some (.int .i64 ra):=HBq.out.cell 8
     have m9:W1.cell? ⟨wr.heap.size,9,none⟩=some (.int .i64 am):=HBq.out.cell 9
     have m10:W1.cell? ⟨wr.heap.size,10,none⟩=some (.int .i64 pe):=HBq.out.cell 10
     have m11:W1.cell? ⟨wr.heap.size,11,none⟩=some (.bool hm):=HBq.out.cell 11
     have m12:W1.cell? ⟨wr.heap.size,12,none⟩=some (.int .i64 mo):=HBq.out.cell 12
     have m13:W1.cell? ⟨wr.heap.size,13,none⟩=some (.bool hl):=HBq.out.cell 13
     have m14:W1.cell? ⟨wr.heap.size,14,none⟩=some (.int .i64 le):=HBq.out.cell 14
     clear HON HBx hWq hW
     go_wp2_with fail
     refine HON1.out.mono ?_
     rintro e w2 ⟨tt,rfl,hb2⟩
     have HBW2:=Lib.hid (HBWq.out.trans (hb2.mono HBWq.out.size))
     clear HON1 hb2 m0 m1 m2 m3 m4 m5 m6 m7 m8 m9 m10 m11 m12 m13 m14
     by_cases z4:er1=0
     ·have y4:(er1 == 0)=true:=by simpa using z4
      have y4n:(er1 != 0)=false:=by simpa using z4
      have HA2:=Lib.hid (HA'.out (by rw [HS3.out,z4]))
      clear HT HA' HS3 z4
      go_wp2_with fail
      go_roundw
      case rel=>exact⟨r+1+1,by omega,by go_num,HA2.out,HBW2.out⟩
      case measure=>simp [intOf];omega
     ·have y4:(er1 == 0)=false:=by simpa using z4
      have y4n:(er1 != 0)=true:=by simpa using z4
      have E:=Lib.hid (HT.out er1 (by rw [HS3.out]) z4)
      clear HT HA' HS3 z4
      go_wp2
      go_ret
      exact⟨ret_int' E.out.symm,HBW2.out⟩
end Go.Proofs.YtbokkeooahodaaaGreatDoor

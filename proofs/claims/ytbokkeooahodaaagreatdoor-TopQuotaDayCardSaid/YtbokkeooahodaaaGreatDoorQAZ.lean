/-
  A part of the proof of TopQuotaDayCardSaid: lemmas and contracts of functions that the law calls. No statement of the seat is proved here. Conditions: as each says.
-/
import Derived.Test.YtbokkeooahodaaaGreatDoorQAY
import Derived.Test.YtbokkeooahodaaaGreatDoorQAX
namespace Go.Proofs.YtbokkeooahodaaaGreatDoor
open Go.RowKit
set_option linter.unusedVariables false
set_option maxRecDepth 100000 in
set_option maxHeartbeats 4000000 in
theorem rinForce_any (x:MsA) (day:Int) (w:World) (hr : -1≤x.m.reg) :
  Calls Tryz.prog 141 #[.agg (msA x),.int .i64 day] w (BRes w (inForce x.m day)):=by
 obtain⟨⟨id,ki,pre,orgs,co,fr,til,reg,⟨r,am,pe,hm,mo,hl,le⟩⟩,A,n,c⟩:=x
 have HB:Hid (∀ o,RowKit.Below w.heap.size w (w.alloc o)):=fun o=>(Below.refl _ _).alloc (Nat.le_refl _) _
 have HY:Hid ((fr≤day∧day<til∨reg ≠ -1∧reg≤day∧day<fr)→inForce ⟨id,ki,pre,orgs,co,fr,til,reg,⟨r,am,pe,hm,mo,hl,le⟩⟩ day=true):=fun h=>inForce_yes h
 have HN:Hid (¬ (fr≤day∧day<til∨reg ≠ -1∧reg≤day∧day<fr)→inForce ⟨id,ki,pre,orgs,co,fr,til,reg,⟨r,am,pe,hm,mo,hl,le⟩⟩ day=false):=fun h=>inForce_no h
 dsimp only at *
 generalize inForce ⟨id,ki,pre,orgs,co,fr,til,reg,⟨r,am,pe,hm,mo,hl,le⟩⟩ day=res at *
 unfold msA
 dsimp only
 by_cases g1:fr≤day
 ·have d1:decide (fr≤day)=true:=by simp;omega
  by_cases g2:day<til
  ·have d2:decide (day<til)=true:=by simp;omega
   have E:=Lib.hid (HY.out (by omega))
   go_enter Tryz.func141,Tryz.ntmps141
   go_wp2
   go_ret
   exact⟨ret_bool E.out.symm,HB.out _⟩
  ·have d2:decide (day<til)=false:=by simp;omega
   by_cases g3:0≤reg
   ·have d3:decide (0≤reg)=true:=by simp;omega
    by_cases g4:reg≤day
    ·have d4:decide (reg≤day)=true:=by simp;omega
     by_cases g5:day<fr
     ·have d5:decide (day<fr)=true:=by simp;omega
      exfalso;omega
     ·have d5:decide (day<fr)=false:=by simp;omega
      have E:=Lib.hid (HN.out (by omega))
      go_enter Tryz.func141,Tryz.ntmps141
      go_wp2
      go_ret
      exact⟨ret_bool E.out.symm,HB.out _⟩
    ·have d4:decide (reg≤day)=false:=by simp;omega
     have E:=Lib.hid (HN.out (by omega))
     go_enter Tryz.func141,Tryz.ntmps141
     go_wp2
     go_ret
     exact⟨ret_bool E.out.symm,HB.out _⟩
   ·have d3:decide (0≤reg)=false:=by simp;omega
    have E:=Lib.hid (HN.out (by omega))
    go_enter Tryz.func141,Tryz.ntmps141
    go_wp2
    go_ret
    exact⟨ret_bool E.out.symm,HB.out _⟩
 ·have d1:decide (fr≤day)=false:=by simp;omega
  by_cases g6:0≤reg
  ·have d6:decide (0≤reg)=true:=by simp;omega
   by_cases g7:reg≤day
   ·have d7:decide (reg≤day)=true:=by simp;omega
    by_cases g8:day<fr
    ·have d8:decide (day<fr)=true:=by simp;omega
     have E:=Lib.hid (HY.out (by omega))
     go_enter Tryz.func141,Tryz.ntmps141
     go_wp2
     go_ret
     exact⟨ret_bool E.out.symm,HB.out _⟩
    ·have d8:decide (day<fr)=false:=by simp;omega
     exfalso;omega
   ·have d7:decide (reg≤day)=false:=by simp;omega
    have E:=Lib.hid (HN.out (by omega))
    go_enter Tryz.func141,Tryz.ntmps141
    go_wp2
    go_ret
    exact⟨ret_bool E.out.symm,HB.out _⟩
  ·have d6:decide (0≤reg)=false:=by simp;omega
   have E:=Lib.hid (HN.out (by omega))
   go_enter Tryz.func141,Tryz.ntmps141
   go_wp2
   go_ret
   exact⟨ret_bool E.out.symm,HB.out _⟩
set_option maxRecDepth 100000 in
set_option maxHeartbeats 4000000 in
theorem rcovers_any (x:MsA) (it:It) (w:World) (hs:Sr w x.A x.n x.m.orgs) (hreg : -1≤x.m.reg) (hcs:it.code.size≤1000000) (hps:x.m.pre.size≤1000000) :
  Calls Tryz.prog 80 #[.agg (msA x),.string it.code,.string it.org,.int .i64 it.co,.int .i64 it.day] w (BRes w (coversB x.m it)):=by
 have HI:=Lib.hid (fun w=>rinForce_any x it.day w hreg)
 have HE:Hid (coversB x.m it=(inForce x.m it.day && (preB x.m.pre.toList it.code.toList && ((decide (x.n=0) || x.m.orgs.any fun s=>s.toList == it.org.toList) && (decide (x.m.co=0) || decide (x.m.co=it.co)))))):=by
  unfold Hid coversB
  rw [hs.len]
 obtain⟨code,org,pf,ico,day,qt,vl,gr⟩:=it
 obtain⟨⟨id,ki,pre,orgs,co,fr,til,reg,⟨r,am,pe,hm,mo,hl,le⟩⟩,A,n,c⟩:=x
 have hn:n≤1000000:=hs.2.1
 have HH:=Lib.hid (fun w=>rprefix_any code pre w hcs hps)
 have HC:Hid (∀ w',RowKit.Below w.heap.size w w'→Calls Tryz.prog 143 #[.slice A n c,.string org] w' fun e w''=>e=.returned (.bool (orgs.any fun s=>s.toList == org.toList))∧w'=w''):=fun w' hb=>rhas_any A n c orgs org w' (hs.below hb)
 dsimp only at *
 generalize coversB ⟨id,ki,pre,orgs,co,fr,til,reg,⟨r,am,pe,hm,mo,hl,le⟩⟩ ⟨code,org,pf,ico,day,qt,vl,gr⟩=res at *
 generalize inForce ⟨id,ki,pre,orgs,co,fr,til,reg,⟨r,am,pe,hm,mo,hl,le⟩⟩ day=f at *
 generalize preB pre.toList code.toList=q at *
 generalize (orgs.any fun s=>s.toList == org.toList)=t at *
 unfold msA at *
 dsimp only at *
 have HBx:=Bl.new w 62 #[.int .i64 id,.int .i64 ki,.string pre,.slice A n c,.int .i64 co,.int .i64 fr,.int .i64 til,.int .i64 reg,.int .i64 r,.int .i64 am,.int .i64 pe,.bool hm,.int .i64 mo,.bool hl,.int .i64 le]
 have hb0:RowKit.Below w.heap.size w (w.alloc (.cells #[.int .i64 id,.int .i64 ki,.string pre,.slice A n c,.int .i64 co,.int .i64 fr,.int .i64 til,.int .i64 reg,.int .i64 r,.int .i64 am,.int .i64 pe,.bool hm,.int .i64 mo,.bool hl,.int .i64 le] 62)):=(Below.refl _ _).alloc (Nat.le_refl _) _
 go_enter Tryz.func80,Tryz.ntmps80
 go_wp2_with fail
 refine (HI.out _).mono ?_
 rintro e w1 ⟨rfl,hb1⟩
 have HB1:=Lib.hid (hb0.trans (hb1.mono hb0.size))
 have HBy:=HBx.keep hb1
 have g2:w1.cell? ⟨w.heap.size,2,none⟩=some (.string pre):=HBy.cell 2
 have g3:w1.cell? ⟨w.heap.size,3,none⟩=some (.slice A n c):=HBy.cell 3
 have g4:w1.cell? ⟨w.heap.size,4,none⟩=some (.int .i64 co):=HBy.cell 4
 have HC1:=Lib.hid (HC.out w1 HB1.out)
 clear HBx HBy hb1 hb0 HI HC
 cases f with
 | false =>
  have E:Hid (res=false):=by unfold Hid;rw [HE.out];rfl
  clear HE
  go_wp2
  go_ret
  exact⟨ret_bool E.out.symm,HB1.out⟩
 | true =>
  cases q with
  | false =>
   have E:Hid (res=false):=by unfold Hid;rw [HE.out];rfl
   clear HE
   go_wp2_with fail
   refine (HH.out _).mono ?_
   rintro e w2 ⟨rfl,rfl⟩
   go_wp2
   go_ret
   exact⟨ret_bool E.out.symm,HB1.out⟩
  | true =>
   go_wp2_with fail
   refine (HH.out _).mono ?_
   rintro e w2 ⟨rfl,rfl⟩
   by_cases h0:n=0
   ·have l0:((n:Int) == 0)=true:=by simp;omega
    by_cases k1:co=0
    ·have j1:(co == 0)=true:=by simpa using k1
     have E:Hid (res=true):=by unfold Hid;rw [HE.out];simp [h0,k1]
     clear HE k1
     go_wp2
     go_ret
     exact⟨ret_bool E.out.symm,HB1.out⟩
    have j1:(co == 0)=false:=by simpa using k1
    by_cases k2:co=ico
    ·have j2:(co == ico)=true:=by simpa using k2
     have E:Hid (res=true):=by unfold Hid;rw [HE.out];simp [h0,k2]
     clear HE k1 k2
     go_wp2
     go_ret
     exact⟨ret_bool E.out.symm,HB1.out⟩
    ·have j2:(co == ico)=false:=by simpa using k2
     have E:Hid (res=false):=by unfold Hid;rw [HE.out];simp [h0,k1,k2]
     clear HE k1 k2
     go_wp2
     go_ret
     exact⟨ret_bool E.out.symm,HB1.out⟩
   ·have l0:((n:Int) == 0)=false:=by simp;omega
    cases t with
    | false =>
     have E:Hid (res=false):=by unfold Hid;rw [HE.out];simp [h0]
     clear HE
     go_wp2_with fail
     refine (HC1.out).mono ?_
     rintro e w2 ⟨rfl,rfl⟩
     go_wp2
     go_ret
     exact⟨ret_bool E.out.symm,HB1.out⟩
    | true =>
     go_wp2_with fail
     refine (HC1.out).mono ?_
     rintro e w2 ⟨rfl,rfl⟩
     by_cases k1:co=0
     ·have j1:(co == 0)=true:=by simpa using k1
      have E:Hid (res=true):=by unfold Hid;rw [HE.out];simp [h0,k1]
      clear HE k1
      go_wp2
      go_ret
      exact⟨ret_bool E.out.symm,HB1.out⟩
     have j1:(co == 0)=false:=by simpa using k1
     by_cases k2:co=ico
     ·have j2:(co == ico)=true:=by simpa using k2
      have E:Hid (res=true):=by unfold Hid;rw [HE.out];simp [h0,k2]
      clear HE k1 k2
      go_wp2
      go_ret
      exact⟨ret_bool E.out.symm,HB1.out⟩
     ·have j2:(co == ico)=false:=by simpa using k2
      have E:Hid (res=false):=by unfold Hid;rw [HE.out];simp [h0,k1,k2]
      clear HE k1 k2
      go_wp2
      go_ret
      exact⟨ret_bool E.out.symm,HB1.out⟩
set_option maxRecDepth 100000 in
set_option maxHeartbeats 4000000 in
theorem rrank_any (x:MsA) (w:World) (hs:x.m.orgs.length=x.n) (hn:x.n≤1000000) (hps:x.m.pre.size≤1000000) (hid:1≤x.m.id∧x.m.id≤1000000) :
  Calls Tryz.prog 81 #[.agg (msA x)] w fun e w'=>e=.returned (.int .i64 (rankV x.m))∧RowKit.Below w.heap.size w w':=by
 have HE:Hid (rankV x.m=(((x.m.pre.size:Int)*2+(if x.m.co=0 then 0 else 1))*100+50 - (if 0<x.n then (x.n:Int) else 21))*10000000+x.m.id):=by
  show _=_
  unfold rankV
  rw [hs]
 obtain⟨⟨id,ki,pre,orgs,co,fr,til,reg,⟨r,am,pe,hm,mo,hl,le⟩⟩,A,n,c⟩:=x
 have HB:Hid (∀ o,RowKit.Below w.heap.size w (w.alloc o)):=fun o=>(Below.refl _ _).alloc (Nat.le_refl _) _
 dsimp only at *
 generalize rankV ⟨id,ki,pre,orgs,co,fr,til,reg,⟨r,am,pe,hm,mo,hl,le⟩⟩=res at *
 unfold msA
 dsimp only
 clear hs
 by_cases h0:0<n
 ·have d0:decide (0<n)=true:=by simp;omega
  by_cases hc:co=0
  ·have c0:(co != 0)=false:=by simp;omega
   have w0:IntKind.i64.wrap ((pre.size:Int)*2)=(pre.size:Int)*2:=IntWalk.i64_in _ (by omega)
   have w1:IntKind.i64.wrap (((pre.size:Int)*2)*100)=((pre.size:Int)*2)*100:=IntWalk.i64_in _ (by omega)
   have w2:IntKind.i64.wrap (((pre.size:Int)*2)*100+50)=((pre.size:Int)*2)*100+50:=IntWalk.i64_in _ (by omega)
   have w3:IntKind.i64.wrap (((pre.size:Int)*2)*100+50 - (n:Int))=((pre.size:Int)*2)*100+50 - (n:Int):=IntWalk.i64_in _ (by omega)
   have w4:IntKind.i64.wrap ((((pre.size:Int)*2)*100+50 - (n:Int))*10000000)=(((pre.size:Int)*2)*100+50 - (n:Int))*10000000:=IntWalk.i64_in _ (by omega)
   have w5:IntKind.i64.wrap ((((pre.size:Int)*2)*100+50 - (n:Int))*10000000+id)=(((pre.size:Int)*2)*100+50 - (n:Int))*10000000+id:=IntWalk.i64_in _ (by omega)
   have E:Hid (res=(((pre.size:Int)*2)*100+50 - (n:Int))*10000000+id):=by unfold Hid;rw [HE.out];(repeat' split) <;> omega
   clear HE
   go_enter Tryz.func81,Tryz.ntmps81
   go_wp2
   go_ret
   exact⟨ret_int' E.out.symm,HB.out _⟩
  ·have c0:(co != 0)=true:=by simp;omega
   have w0:IntKind.i64.wrap ((pre.size:Int)*2)=(pre.size:Int)*2:=IntWalk.i64_in _ (by omega)
   have w1:IntKind.i64.wrap ((pre.size:Int)*2+1)=(pre.size:Int)*2+1:=IntWalk.i64_in _ (by omega)
   have w2:IntKind.i64.wrap (((pre.size:Int)*2+1)*100)=((pre.size:Int)*2+1)*100:=IntWalk.i64_in _ (by omega)
   have w3:IntKind.i64.wrap (((pre.size:Int)*2+1)*100+50)=((pre.size:Int)*2+1)*100+50:=IntWalk.i64_in _ (by omega)
   have w4:IntKind.i64.wrap (((pre.size:Int)*2+1)*100+50 - (n:Int))=((pre.size:Int)*2+1)*100+50 - (n:Int):=IntWalk.i64_in _ (by omega)
   have w5:IntKind.i64.wrap ((((pre.size:Int)*2+1)*100+50 - (n:Int))*10000000)=(((pre.size:Int)*2+1)*100+50 - (n:Int))*10000000:=IntWalk.i64_in _ (by omega)
   have w6:IntKind.i64.wrap ((((pre.size:Int)*2+1)*100+50 - (n:Int))*10000000+id)=(((pre.size:Int)*2+1)*100+50 - (n:Int))*10000000+id:=IntWalk.i64_in _ (by omega)
   have E:Hid (res=(((pre.size:Int)*2+1)*100+50 - (n:Int))*10000000+id):=by unfold Hid;rw [HE.out];(repeat' split) <;> omega
   clear HE
   go_enter Tryz.func81,Tryz.ntmps81
   go_wp2
   go_ret
   exact⟨ret_int' E.out.symm,HB.out _⟩
 ·have d0:decide (0<n)=false:=by simp;omega
  by_cases hc:co=0
  ·have c0:(co != 0)=false:=by simp;omega
   have w0:IntKind.i64.wrap ((pre.size:Int)*2)=(pre.size:Int)*2:=IntWalk.i64_in _ (by omega)
   have w1:IntKind.i64.wrap (((pre.size:Int)*2)*100)=((pre.size:Int)*2)*100:=IntWalk.i64_in _ (by omega)
   have w2:IntKind.i64.wrap (((pre.size:Int)*2)*100+50)=((pre.size:Int)*2)*100+50:=IntWalk.i64_in _ (by omega)
   have w3:IntKind.i64.wrap (((pre.size:Int)*2)*100+50 - 21)=((pre.size:Int)*2)*100+50 - 21:=IntWalk.i64_in _ (by omega)
   have w4:IntKind.i64.wrap ((((pre.size:Int)*2)*100+50 - 21)*10000000)=(((pre.size:Int)*2)*100+50 - 21)*10000000:=IntWalk.i64_in _ (by omega)
   have w5:IntKind.i64.wrap ((((pre.size:Int)*2)*100+50 - 21)*10000000+id)=(((pre.size:Int)*2)*100+50 - 21)*10000000+id:=IntWalk.i64_in _ (by omega)
   have E:Hid (res=(((pre.size:Int)*2)*100+50 - 21)*10000000+id):=by unfold Hid;rw [HE.out];(repeat' split) <;> omega
   clear HE
   go_enter Tryz.func81,Tryz.ntmps81
   go_wp2
   go_ret
   exact⟨ret_int' E.out.symm,HB.out _⟩
  ·have c0:(co != 0)=true:=by simp;omega
   have w0:IntKind.i64.wrap ((pre.size:Int)*2)=(pre.size:Int)*2:=IntWalk.i64_in _ (by omega)
   have w1:IntKind.i64.wrap ((pre.size:Int)*2+1)=(pre.size:Int)*2+1:=IntWalk.i64_in _ (by omega)
   have w2:IntKind.i64.wrap (((pre.size:Int)*2+1)*100)=((pre.size:Int)*2+1)*100:=IntWalk.i64_in _ (by omega)
   have w3:IntKind.i64.wrap (((pre.size:Int)*2+1)*100+50)=((pre.size:Int)*2+1)*100+50:=IntWalk.i64_in _ (by omega)
   have w4:IntKind.i64.wrap (((pre.size:Int)*2+1)*100+50 - 21)=((pre.size:Int)*2+1)*100+50 - 21:=IntWalk.i64_in _ (by omega)
   have w5:IntKind.i64.wrap ((((pre.size:Int)*2+1)*100+50 - 21)*10000000)=(((pre.size:Int)*2+1)*100+50 - 21)*10000000:=IntWalk.i64_in _ (by omega)
   have w6:IntKind.i64.wrap ((((pre.size:Int)*2+1)*100+50 - 21)*10000000+id)=(((pre.size:Int)*2+1)*100+50 - 21)*10000000+id:=IntWalk.i64_in _ (by omega)
   have E:Hid (res=(((pre.size:Int)*2+1)*100+50 - 21)*10000000+id):=by unfold Hid;rw [HE.out];(repeat' split) <;> omega
   clear HE
   go_enter Tryz.func81,Tryz.ntmps81
   go_wp2
   go_ret
   exact⟨ret_int' E.out.symm,HB.out _⟩
end Go.Proofs.YtbokkeooahodaaaGreatDoor

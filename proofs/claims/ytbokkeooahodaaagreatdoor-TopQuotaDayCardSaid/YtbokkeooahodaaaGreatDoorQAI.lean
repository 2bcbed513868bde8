/-
  A part of the proof of TopQuotaDayCardSaid: lemmas and contracts of functions that the law calls. No statement of the seat is proved here. Conditions: as each says.
-/
import Derived.Test.YtbokkeooahodaaaGreatDoorQAG
import Derived.Test.YtbokkeooahodaaaGreatDoorQAF
namespace Go.Proofs.YtbokkeooahodaaaGreatDoor
open Go.RowKit
set_option linter.unusedVariables false
theorem inForce_yes {m:Ms} {day:Int} (h:m.fr≤day∧day<m.til∨m.reg ≠ -1∧m.reg≤day∧day<m.fr):inForce m day=true:=by
 unfold inForce
 simp only [Bool.or_eq_true,Bool.and_eq_true,decide_eq_true_eq]
 exact h
theorem inForce_no {m:Ms} {day:Int} (h:¬ (m.fr≤day∧day<m.til∨m.reg ≠ -1∧m.reg≤day∧day<m.fr)):inForce m day=false:=by
 rcases Bool.eq_false_or_eq_true (inForce m day) with e | e
 ·unfold inForce at e
  simp only [Bool.or_eq_true,Bool.and_eq_true,decide_eq_true_eq] at e
  exact absurd e h
 ·exact e
set_option maxRecDepth 100000 in
set_option maxHeartbeats 4000000 in
theorem inForce_any (x:MsA) (day:Int) (w:World) :
  Calls Tryz.prog 90 #[.agg (msA x),.int .i64 day] w (BRes w (inForce x.m day)):=by
 obtain⟨⟨id,ki,pre,orgs,co,fr,til,reg,⟨r,am,pe,hm,mo,hl,le⟩⟩,A,n,c⟩:=x
 have HB:Hid (∀ o,RowKit.Below w.heap.size w (w.alloc o)):=fun o=>(Below.refl _ _).alloc (Nat.le_refl _) _
 have HY:Hid ((fr≤day∧day<til∨reg ≠ -1∧reg≤day∧day<fr)→inForce ⟨id,ki,pre,orgs,co,fr,til,reg,⟨r,am,pe,hm,mo,hl,le⟩⟩ day=true):=fun h=>inForce_yes h
 have HN:Hid (¬ (fr≤day∧day<til∨reg ≠ -1∧reg≤day∧day<fr)→inForce ⟨id,ki,pre,orgs,co,fr,til,reg,⟨r,am,pe,hm,mo,hl,le⟩⟩ day=false):=fun h=>inForce_no h
 dsimp only at *
 generalize inForce ⟨id,ki,pre,orgs,co,fr,til,reg,⟨r,am,pe,hm,mo,hl,le⟩⟩ day=res at *
 unfold msA
 dsimp only
 by_cases g1:fr≤day
 ·have d1:decide (fr≤day)=true:=by simp;omega
  by_cases g2:day<til
  ·have d2:decide (day<til)=true:=by simp;omega
   have E:=Lib.hid (HY.out (by omega))
   go_enter Tryz.func90,Tryz.ntmps90
   go_wp2
   go_ret
   exact⟨ret_bool E.out.symm,HB.out _⟩
  ·have d2:decide (day<til)=false:=by simp;omega
   by_cases g3:reg = -1
   ·have d3:(reg == -1)=true:=by simp;omega
    have d3n:(reg != -1)=false:=by simp;omega
    have E:=Lib.hid (HN.out (by omega))
    clear g3 HN HY
    go_enter Tryz.func90,Tryz.ntmps90
    go_wp2
    go_ret
    exact⟨ret_bool E.out.symm,HB.out _⟩
   ·have d3:(reg == -1)=false:=by simp;omega
    have d3n:(reg != -1)=true:=by simp;omega
    by_cases g4:reg≤day
    ·have d4:decide (reg≤day)=true:=by simp;omega
     by_cases g5:day<fr
     ·have d5:decide (day<fr)=true:=by simp;omega
      exfalso;omega
     ·have d5:decide (day<fr)=false:=by simp;omega
      have E:=Lib.hid (HN.out (by omega))
      go_enter Tryz.func90,Tryz.ntmps90
      go_wp2
      go_ret
      exact⟨ret_bool E.out.symm,HB.out _⟩
    ·have d4:decide (reg≤day)=false:=by simp;omega
     have E:=Lib.hid (HN.out (by omega))
     go_enter Tryz.func90,Tryz.ntmps90
     go_wp2
     go_ret
     exact⟨ret_bool E.out.symm,HB.out _⟩
 ·have d1:decide (fr≤day)=false:=by simp;omega
  by_cases g6:reg = -1
  ·have d6:(reg == -1)=true:=by simp;omega
   have d6n:(reg != -1)=false:=by simp;omega
   have E:=Lib.hid (HN.out (by omega))
   clear g6 HN HY
   go_enter Tryz.func90,Tryz.ntmps90
   go_wp2
   go_ret
   exact⟨ret_bool E.out.symm,HB.out _⟩
  ·have d6:(reg == -1)=false:=by simp;omega
   have d6n:(reg != -1)=true:=by simp;omega
   by_cases g7:reg≤day
   ·have d7:decide (reg≤day)=true:=by simp;omega
    by_cases g8:day<fr
    ·have d8:decide (day<fr)=true:=by simp;omega
     have E:=Lib.hid (HY.out (by omega))
     go_enter Tryz.func90,Tryz.ntmps90
     go_wp2
     go_ret
     exact⟨ret_bool E.out.symm,HB.out _⟩
    ·have d8:decide (day<fr)=false:=by simp;omega
     exfalso;omega
   ·have d7:decide (reg≤day)=false:=by simp;omega
    have E:=Lib.hid (HN.out (by omega))
    go_enter Tryz.func90,Tryz.ntmps90
    go_wp2
    go_ret
    exact⟨ret_bool E.out.symm,HB.out _⟩
theorem hasPrefix_any (s p:ByteArray) (w:World):Calls Tryz.prog 91 #[.string s,.string p] w fun e w'=>e=.returned (.bool (preB p.toList s.toList))∧w=w' :=
 (Tryz.strings_HasPrefix s p w).mono fun e w' ⟨he,hw⟩=>⟨by rw [he,ByteArray.toList_eq,ByteArray.toList_eq];rfl,hw.symm⟩
theorem containsS_any (l:List ByteArray) (x:ByteArray):Lib.containsS l x=l.any fun s=>s.toList == x.toList:=by
 rw [Bool.eq_iff_iff,Lib.containsS_iff,List.any_eq_true]
 constructor
 ·intro h
  exact⟨x,h,by simp⟩
 ·rintro ⟨y,hy,e⟩
  have e1:=eq_of_beq e
  rw [ByteArray.toList_eq,ByteArray.toList_eq] at e1
  have e2:y=x:=by
   cases y;cases x
   congr 1
   exact Array.toList_inj.1 e1
  rw [← e2]
  exact hy
theorem contS_any (A:Option Addr) (n c:Nat) (l:List ByteArray) (x:ByteArray) (w:World) (h:Sr w A n l) :
  Calls Tryz.prog 92 #[.slice A n c,.string x] w fun e w'=>e=.returned (.bool (l.any fun s=>s.toList == x.toList))∧w=w':=by
 have hl:=h.len
 by_cases h0:n=0
 ·subst h0
  refine (Tryz.slices_Contains_string_empty A c x w).mono ?_
  rintro e w' ⟨rfl,rfl⟩
  rw [List.eq_nil_of_length_eq_zero hl]
  exact⟨rfl,rfl⟩
 ·obtain⟨b,off,rfl,hb,hc⟩:=h.1.2 (by omega)
  refine (Tryz.slices_Contains_string b off n c l x w (by omega) (by have:=h.2.1;omega) (fun j hj=>?_)).mono ?_
  ·have:=hc j (by omega) 0 (by omega)
   rw [Nat.mul_one,Nat.add_zero] at this
   rw [this]
   simp [encS,List.getD,hj]
  ·rintro e w' ⟨rfl,rfl⟩
   rw [containsS_any,← hl,List.take_length]
   exact⟨rfl,rfl⟩
set_option maxRecDepth 100000 in
set_option maxHeartbeats 4000000 in
theorem covers_any (x:MsA) (it:It) (w:World) (hs:Sr w x.A x.n x.m.orgs) :
  Calls Tryz.prog 50 #[.agg (msA x),.string it.code,.string it.org,.int .i64 it.co,.int .i64 it.day] w (BRes w (coversB x.m it)):=by
 have HI:=Lib.hid (fun w=>inForce_any x it.day w)
 have HE:Hid (coversB x.m it=(inForce x.m it.day && (preB x.m.pre.toList it.code.toList && ((decide (x.n=0) || x.m.orgs.any fun s=>s.toList == it.org.toList) && (decide (x.m.co=0) || decide (x.m.co=it.co)))))):=by
  unfold Hid coversB
  rw [hs.len]
 obtain⟨code,org,pf,ico,day,qt,vl,gr⟩:=it
 obtain⟨⟨id,ki,pre,orgs,co,fr,til,reg,⟨r,am,pe,hm,mo,hl,le⟩⟩,A,n,c⟩:=x
 have hn:n≤1000000:=hs.2.1
 have HH:=Lib.hid (fun w=>hasPrefix_any code pre w)
 have HC:Hid (∀ w',RowKit.Below w.heap.size w w'→Calls Tryz.prog 92 #[.slice A n c,.string org] w' fun e w''=>e=.returned (.bool (orgs.any fun s=>s.toList == org.toList))∧w'=w''):=fun w' hb=>contS_any A n c orgs org w' (hs.below hb)
 dsimp only at *
 generalize coversB ⟨id,ki,pre,orgs,co,fr,til,reg,⟨r,am,pe,hm,mo,hl,le⟩⟩ ⟨code,org,pf,ico,day,qt,vl,gr⟩=res at *
 generalize inForce ⟨id,ki,pre,orgs,co,fr,til,reg,⟨r,am,pe,hm,mo,hl,le⟩⟩ day=f at *
 generalize preB pre.toList code.toList=q at *
 generalize (orgs.any fun s=>s.toList == org.toList)=t at *
 unfold msA at *
 dsimp only at *
 have HBx:=Bl.new w 62 #[.int .i64 id,.int .i64 ki,.string pre,.slice A n c,.int .i64 co,.int .i64 fr,.int .i64 til,.int .i64 reg,.int .i64 r,.int .i64 am,.int .i64 pe,.bool hm,.int .i64 mo,.bool hl,.int .i64 le]
 have hb0:RowKit.Below w.heap.size w (w.alloc (.cells #[.int .i64 id,.int .i64 ki,.string pre,.slice A n c,.int .i64 co,.int .i64 fr,.int .i64 til,.int .i64 reg,.int .i64 r,.int .i64 am,.int .i64 pe,.bool hm,.int .i64 mo,.bool hl,.int .i64 le] 62)):=(Below.refl _ _).alloc (Nat.le_refl _) _
 go_enter Tryz.func50,Tryz.ntmps50
 go_wp2_with fail
 refine (HI.out _).mono ?_
 rintro e w1 ⟨rfl,hb1⟩
 have HB1:=Lib.hid (hb0.trans (hb1.mono hb0.size))
 have HBy:=HBx.keep hb1
 have g2:w1.cell? ⟨w.heap.size,2,none⟩=some (.string pre):=HBy.cell 2
 have g3:w1.cell? ⟨w.heap.size,3,none⟩=some (.slice A n c):=HBy.cell 3
 have g4:w1.cell? ⟨w.heap.size,4,none⟩=some (.int .i64 co):=HBy.cell 4
 have HC1:=Lib.hid (HC.out w1 HB1.out)
 clear HBx HBy hb1 hb0 HI HC
 cases f with
 | false =>
  have E:Hid (res=false):=by unfold Hid;rw [HE.out];rfl
  clear HE
  go_wp2
  go_ret
  exact⟨ret_bool E.out.symm,HB1.out⟩
 | true =>
  cases q with
  | false =>
   have E:Hid (res=false):=by unfold Hid;rw [HE.out];rfl
   clear HE
   go_wp2_with fail
   refine (HH.out _).mono ?_
   rintro e w2 ⟨rfl,rfl⟩
   go_wp2
   go_ret
   exact⟨ret_bool E.out.symm,HB1.out⟩
  | true =>
   go_wp2_with fail
   refine (HH.out _).mono ?_
   rintro e w2 ⟨rfl,rfl⟩
   by_cases h0:n=0
   ·have l0:((n:Int) == 0)=true:=by simp;omega
    by_cases k1:co=0
    ·have j1:(co == 0)=true:=by simpa using k1
     have E:Hid (res=true):=by unfold Hid;rw [HE.out];simp [h0,k1]
     clear HE k1
     go_wp2
     go_ret
     exact⟨ret_bool E.out.symm,HB1.out⟩
    have j1:(co == 0)=false:=by simpa using k1
    by_cases k2:co=ico
    ·have j2:(co == ico)=true:=by simpa using k2
     have E:Hid (res=true):=by unfold Hid;rw [HE.out];simp [h0,k2]
     clear HE k1 k2
     go_wp2
     go_ret
     exact⟨ret_bool E.out.symm,HB1.out⟩
    ·have j2:(co == ico)=false:=by simpa using k2
     have E:Hid (res=false):=by unfold Hid;rw [HE.out];simp [h0,k1,k2]
     clear HE k1 k2
     go_wp2
     go_ret
     exact⟨ret_bool E.out.symm,HB1.out⟩
   ·have l0:((n:Int) == 0)=false:=by simp;omega
    cases t with
    | false =>
     have E:Hid (res=false):=by unfold Hid;rw [HE.out];simp [h0]
     clear HE
     go_wp2_with fail
     refine (HC1.out).mono ?_
     rintro e w2 ⟨rfl,rfl⟩
     go_wp2
     go_ret
     exact⟨ret_bool E.out.symm,HB1.out⟩
    | true =>
     go_wp2_with fail
     refine (HC1.out).mono ?_
     rintro e w2 ⟨rfl,rfl⟩
     by_cases k1:co=0
     ·have j1:(co == 0)=true:=by simpa using k1
      have E:Hid (res=true):=by unfold Hid;rw [HE.out];simp [h0,k1]
      clear HE k1
      go_wp2
      go_ret
      exact⟨ret_bool E.out.symm,HB1.out⟩
     have j1:(co == 0)=false:=by simpa using k1
     by_cases k2:co=ico
     ·have j2:(co == ico)=true:=by simpa using k2
      have E:Hid (res=true):=by unfold Hid;rw [HE.out];simp [h0,k2]
      clear HE k1 k2
      go_wp2
      go_ret
      exact⟨ret_bool E.out.symm,HB1.out⟩
     ·have j2:(co == ico)=false:=by simpa using k2
      have E:Hid (res=false):=by unfold Hid;rw [HE.out];simp [h0,k1,k2]
      clear HE k1 k2
      go_wp2
      go_ret
      exact⟨ret_bool E.out.symm,HB1.out⟩
set_option maxRecDepth 100000 in
set_option maxHeartbeats 4000000 in
theorem precedes_any (x y:MsA) (w:World) (hx:x.m.orgs.length=x.n) (hy:y.m.orgs.length=y.n) :
  Calls Tryz.prog 51 #[.agg (msA x),.agg (msA y)] w (BRes w (precB x.m y.m)):=by
 have HE:Hid (precB x.m y.m=if x.m.pre.size≠y.m.pre.size then decide (y.m.pre.size<x.m.pre.size)
  else if x.m.co=0∧y.m.co≠0∨x.m.co≠0∧y.m.co=0 then decide (x.m.co≠0)
  else if x.n≠y.n then (decide (y.n=0) || (decide (x.n≠0) && decide (x.n<y.n)))
  else decide (y.m.id<x.m.id)):=by
  unfold Hid precB
  rw [hx,hy]
 obtain⟨⟨id,ki,pre,orgs,co,fr,til,reg,⟨r,am,pe,hm,mo,hl,le⟩⟩,A,n,c⟩:=x
 obtain⟨⟨id',ki',pre',orgs',co',fr',til',reg',⟨r',am',pe',hm',mo',hl',le'⟩⟩,A',n',c'⟩:=y
 dsimp only at *
 clear hx hy
 generalize precB ⟨id,ki,pre,orgs,co,fr,til,reg,⟨r,am,pe,hm,mo,hl,le⟩⟩ ⟨id',ki',pre',orgs',co',fr',til',reg',⟨r',am',pe',hm',mo',hl',le'⟩⟩=res at *
 have HB:Hid (∀ o1 o2,RowKit.Below w.heap.size w ((w.alloc o1).alloc o2)):=fun o1 o2=>((Below.refl _ _).alloc (Nat.le_refl _) _).alloc (by simp) _
 unfold msA
 dsimp only
 by_cases g9:pre.size=pre'.size
 ·have d9:((pre.size:Int) == (pre'.size:Int))=true:=by simp;omega
  have d9n:((pre.size:Int) != (pre'.size:Int))=false:=by simp;omega
  by_cases g10:co=0
  ·have d10:(co == 0)=true:=by simp;omega
   have d10n:(co != 0)=false:=by simp;omega
   by_cases g11:co'=0
   ·have d11:(co' == 0)=true:=by simp;omega
    have d11n:(co' != 0)=false:=by simp;omega
    by_cases g12:n=n'
    ·have d12:((n:Int) == (n':Int))=true:=by simp;omega
     have d12n:((n:Int) != (n':Int))=false:=by simp;omega
     by_cases g13:id'<id
     ·have d13:decide (id'<id)=true:=by simp;omega
      have E:Hid (res=true):=by unfold Hid;rw [HE.out];(repeat' split) <;> first | (exfalso;omega) | (simp;done) | (simp;omega)
      clear HE
      go_enter Tryz.func51,Tryz.ntmps51
      go_wp2
      go_ret
      exact⟨ret_bool E.out.symm,HB.out _ _⟩
     ·have d13:decide (id'<id)=false:=by simp;omega
      have E:Hid (res=false):=by unfold Hid;rw [HE.out];(repeat' split) <;> first | (exfalso;omega) | (simp;done) | (simp;omega)
      clear HE
      go_enter Tryz.func51,Tryz.ntmps51
      go_wp2
      go_ret
      exact⟨ret_bool E.out.symm,HB.out _ _⟩
    ·have d12:((n:Int) == (n':Int))=false:=by simp;omega
     have d12n:((n:Int) != (n':Int))=true:=by simp;omega
     by_cases g14:n'=0
     ·have d14:((n':Int) == 0)=true:=by simp;omega
      have d14n:((n':Int) != 0)=false:=by simp;omega
      have E:Hid (res=true):=by unfold Hid;rw [HE.out];(repeat' split) <;> first | (exfalso;omega) | (simp;done) | (simp;omega)
      clear HE
      go_enter Tryz.func51,Tryz.ntmps51
      go_wp2
      go_ret
      exact⟨ret_bool E.out.symm,HB.out _ _⟩
     ·have d14:((n':Int) == 0)=false:=by simp;omega
      have d14n:((n':Int) != 0)=true:=by simp;omega
      by_cases g15:n=0
      ·have d15:((n:Int) == 0)=true:=by simp;omega
       have d15n:((n:Int) != 0)=false:=by simp;omega
       have E:Hid (res=false):=by unfold Hid;rw [HE.out];(repeat' split) <;> first | (exfalso;omega) | (simp;done) | (simp;omega)
       clear HE
       go_enter Tryz.func51,Tryz.ntmps51
       go_wp2
       go_ret
       exact⟨ret_bool E.out.symm,HB.out _ _⟩
      ·have d15:((n:Int) == 0)=false:=by simp;omega
       have d15n:((n:Int) != 0)=true:=by simp;omega
       by_cases g16:n<n'
       ·have d16:decide ((n:Int)<(n':Int))=true:=by simp;omega
        have E:Hid (res=true):=by unfold Hid;rw [HE.out];(repeat' split) <;> first | (exfalso;omega) | (simp;done) | (simp;omega)
        clear HE
        go_enter Tryz.func51,Tryz.ntmps51
        go_wp2
        go_ret
        exact⟨ret_bool E.out.symm,HB.out _ _⟩
       ·have d16:decide ((n:Int)<(n':Int))=false:=by simp;omega
        have E:Hid (res=false):=by unfold Hid;rw [HE.out];(repeat' split) <;> first | (exfalso;omega) | (simp;done) | (simp;omega)
        clear HE
        go_enter Tryz.func51,Tryz.ntmps51
        go_wp2
        go_ret
        exact⟨ret_bool E.out.symm,HB.out _ _⟩
   ·have d11:(co' == 0)=false:=by simp;omega
    have d11n:(co' != 0)=true:=by simp;omega
    have E:Hid (res=false):=by unfold Hid;rw [HE.out];(repeat' split) <;> first | (exfalso;omega) | (simp;done) | (simp;omega)
    clear HE
    go_enter Tryz.func51,Tryz.ntmps51
    go_wp2
    go_ret
    exact⟨ret_bool E.out.symm,HB.out _ _⟩
  ·have d10:(co == 0)=false:=by simp;omega
   have d10n:(co != 0)=true:=by simp;omega
   by_cases g17:co'=0
   ·have d17:(co' == 0)=true:=by simp;omega
    have d17n:(co' != 0)=false:=by simp;omega
    have E:Hid (res=true):=by unfold Hid;rw [HE.out];(repeat' split) <;> first | (exfalso;omega) | (simp;done) | (simp;omega)
    clear HE
    go_enter Tryz.func51,Tryz.ntmps51
    go_wp2
    go_ret
    exact⟨ret_bool E.out.symm,HB.out _ _⟩
   ·have d17:(co' == 0)=false:=by simp;omega
    have d17n:(co' != 0)=true:=by simp;omega
    by_cases g18:n=n'
    ·have d18:((n:Int) == (n':Int))=true:=by simp;omega
     have d18n:((n:Int) != (n':Int))=false:=by simp;omega
     by_cases g19:id'<id
     ·have d19:decide (id'<id)=true:=by simp;omega
      have E:Hid (res=true):=by unfold Hid;rw [HE.out];(repeat' split) <;> first | (exfalso;omega) | (simp;done) | (simp;omega)
      clear HE
      go_enter Tryz.func51,Tryz.ntmps51
      go_wp2
      go_ret
      exact⟨ret_bool E.out.symm,HB.out _ _⟩
     ·have d19:decide (id'<id)=false:=by simp;omega
      have E:Hid (res=false):=by unfold Hid;rw [HE.out];(repeat' split) <;> first | (exfalso;omega) | (simp;done) | (simp;omega)
      clear HE
      go_enter Tryz.func51,Tryz.ntmps51
      go_wp2
      go_ret
      exact⟨ret_bool E.out.symm,HB.out _ _⟩
    ·have d18:((n:Int) == (n':Int))=false:=by simp;omega
     have d18n:((n:Int) != (n':Int))=true:=by simp;omega
     by_cases g20:n'=0
     ·have d20:((n':Int) == 0)=true:=by simp;omega
      have d20n:((n':Int) != 0)=false:=by simp;omega
      have E:Hid (res=true):=by unfold Hid;rw [HE.out];(repeat' split) <;> first | (exfalso;omega) | (simp;done) | (simp;omega)
      clear HE
      go_enter Tryz.func51,Tryz.ntmps51
      go_wp2
      go_ret
      exact⟨ret_bool E.out.symm,HB.out _ _⟩
     ·have d20:((n':Int) == 0)=false:=by simp;omega
      have d20n:((n':Int) != 0)=true:=by simp;omega
      by_cases g21:n=0
      ·have d21:((n:Int) == 0)=true:=by simp;omega
       have d21n:((n:Int) != 0)=false:=by simp;omega
       have E:Hid (res=false):=by unfold Hid;rw [HE.out];(repeat' split) <;> first | (exfalso;omega) | (simp;done) | (simp;omega)
       clear HE
       go_enter Tryz.func51,Tryz.ntmps51
       go_wp2
       go_ret
       exact⟨ret_bool E.out.symm,HB.out _ _⟩
      ·have d21:((n:Int) == 0)=false:=by simp;omega
       have d21n:((n:Int) != 0)=true:=by simp;omega
       by_cases g22:n<n'
       ·have d22:decide ((n:Int)<(n':Int))=true:=by simp;omega
        have E:Hid (res=true):=by unfold Hid;rw [HE.out];(repeat' split) <;> first | (exfalso;omega) | (simp;done) | (simp;omega)
        clear HE
        go_enter Tryz.func51,Tryz.ntmps51
        go_wp2
        go_ret
        exact⟨ret_bool E.out.symm,HB.out _ _⟩
       ·have d22:decide ((n:Int)<(n':Int))=false:=by simp;omega
        have E:Hid (res=false):=by unfold Hid;rw [HE.out];(repeat' split) <;> first | (exfalso;omega) | (simp;done) | (simp;omega)
        clear HE
        go_enter Tryz.func51,Tryz.ntmps51
        go_wp2
        go_ret
        exact⟨ret_bool E.out.symm,HB.out _ _⟩
 ·have d9:((pre.size:Int) == (pre'.size:Int))=false:=by simp;omega
  have d9n:((pre.size:Int) != (pre'.size:Int))=true:=by simp;omega
  by_cases g23:pre'.size<pre.size
  ·have d23:decide ((pre'.size:Int)<(pre.size:Int))=true:=by simp;omega
   have E:Hid (res=true):=by unfold Hid;rw [HE.out];(repeat' split) <;> first | (exfalso;omega) | (simp;done) | (simp;omega)
   clear HE
   go_enter Tryz.func51,Tryz.ntmps51
   go_wp2
   go_ret
   exact⟨ret_bool E.out.symm,HB.out _ _⟩
  ·have d23:decide ((pre'.size:Int)<(pre.size:Int))=false:=by simp;omega
   have E:Hid (res=false):=by unfold Hid;rw [HE.out];(repeat' split) <;> first | (exfalso;omega) | (simp;done) | (simp;omega)
   clear HE
   go_enter Tryz.func51,Tryz.ntmps51
   go_wp2
   go_ret
   exact⟨ret_bool E.out.symm,HB.out _ _⟩
set_option maxRecDepth 100000 in
theorem third20 (y:MsA) (w:World):Calls Tryz.prog 24 #[.agg #[.int .i64 y.m.id,.int .i64 y.m.kind,.string y.m.pre,.slice y.A y.n y.c,.int .i64 y.m.co,.int .i64 y.m.fr,.int .i64 y.m.til,.int .i64 y.m.reg,.int .i64 y.m.du.rate,.int .i64 y.m.du.am,.int .i64 y.m.du.per,.bool y.m.du.hm,.int .i64 y.m.du.most,.bool y.m.du.hl,.int .i64 y.m.du.least]] w (BRes w (y.m.kind == 1)):=by
 have HB:=Lib.hid ((Below.refl w.heap.size w).alloc (Nat.le_refl _) (.cells #[.int .i64 y.m.id,.int .i64 y.m.kind,.string y.m.pre,.slice y.A y.n y.c,.int .i64 y.m.co,.int .i64 y.m.fr,.int .i64 y.m.til,.int .i64 y.m.reg,.int .i64 y.m.du.rate,.int .i64 y.m.du.am,.int .i64 y.m.du.per,.bool y.m.du.hm,.int .i64 y.m.du.most,.bool y.m.du.hl,.int .i64 y.m.du.least] 62))
 go_enter Tryz.func24,Tryz.ntmps24
 go_wp2
 go_ret
 exact⟨rfl,HB.out⟩
def anyTo (xs:List MsA) (i:Nat):Bool:=(xs.take i).any fun y=>y.m.kind == 1
theorem anyTo_snoc {xs:List MsA} {i:Nat} (h:i<xs.length):anyTo xs (i+1)=(anyTo xs i || (xs[i]!.m.kind == 1)):=by
 unfold anyTo
 rw [take_snoc20 xs h,List.any_append]
 simp
set_option maxRecDepth 100000 in
set_option maxHeartbeats 4000000 in
theorem index20 (A:Option Addr) (n c:Nat) (xs:List MsA) (w:World) (h:Recs encM 15 w A n xs) (hn:n≤1000000) :
  Calls Tryz.prog 53 #[.slice A n c,.func (.func 24) #[] #[]] w fun e w'=>∃ k:Int,e=.returned (.int .i64 k)∧decide (k ≥ 0)=xs.any (fun y=>y.m.kind == 1)∧RowKit.Below w.heap.size w w':=by
 have HX:=Lib.hid h
 have hxl:xs.length=n:=h.1
 have HT:=Lib.hid third20
 clear h
 go_enter Tryz.func53,Tryz.ntmps53
 go_wp2_with fail
 go_loopw [8] (fun v wx=>∃ i:Nat,v=.int .i64 (i:Int)∧i≤n∧Hid (anyTo xs i=false)∧Hid (RowKit.Below w.heap.size w wx)) (fun v _=>n - (intOf v).toNat)
 case atStart=>exact⟨0,rfl,Nat.zero_le _,rfl,Below.refl _ _⟩
 case round =>
  obtain⟨i,rfl,hi,HA,HB⟩:=hrel
  by_cases hlt:i<n
  case neg =>
   obtain rfl:i=n:=by omega
   have di:decide ((i:Int)<(i:Int))=false:=by simp
   have HE:Hid (decide ((-1:Int) ≥ 0)=xs.any (fun y=>y.m.kind == 1)):=by
    have:=HA.out
    unfold anyTo at this
    rw [List.take_of_length_le (by omega)] at this
    rw [this]
    exact Lib.hid (by decide)
   go_wp2
   go_ret
   exact⟨-1,rfl,HE.out,HB.out⟩
  case pos =>
  have di:decide ((i:Int)<(n:Int))=true:=by simp;omega
  obtain⟨b1,o1,hA,hb1,ha⟩:=HX.out.at_ hlt
  subst hA
  obtain⟨y,hy⟩:∃ y,xs[i]! = y:=⟨_,rfl⟩
  rw [hy] at ha
  have a0:wr.cell? ⟨b1,o1+i*15,none⟩=some (.int .i64 y.m.id):=(HB.out.cell (p:=⟨b1,o1+i*15,none⟩) hb1).trans (ha 0 (by omega))
  have a1:wr.cell? ⟨b1,o1+i*15+1,none⟩=some (.int .i64 y.m.kind):=(HB.out.cell (p:=⟨b1,o1+i*15+1,none⟩) hb1).trans (ha 1 (by omega))
  have a2:wr.cell? ⟨b1,o1+i*15+2,none⟩=some (.string y.m.pre):=(HB.out.cell (p:=⟨b1,o1+i*15+2,none⟩) hb1).trans (ha 2 (by omega))
  have a3:wr.cell? ⟨b1,o1+i*15+3,none⟩=some (.slice y.A y.n y.c):=(HB.out.cell (p:=⟨b1,o1+i*15+3,none⟩) hb1).trans (ha 3 (by omega))
  have a4:wr.cell? ⟨b1,o1+i*15+4,none⟩=some (.int .i64 y.m.co):=(HB.out.cell (p:=⟨b1,o1+i*15+4,none⟩) hb1).trans (ha 4 (by omega))
  have a5:wr.cell? ⟨b1,o1+i*15+5,none⟩=some (.int .i64 y.m.fr):=(HB.out.cell (p:=⟨b1,o1+i*15+5,none⟩) hb1).trans (ha 5 (by omega))
  have a6:wr.cell? ⟨b1,o1+i*15+6,none⟩=some (.int .i64 y.m.til):=(HB.out.cell (p:=⟨b1,o1+i*15+6,none⟩) hb1).trans (ha 6 (by omega))
  have a7:wr.cell? ⟨b1,o1+i*15+7,none⟩=some (.int .i64 y.m.reg):=(HB.out.cell (p:=⟨b1,o1+i*15+7,none⟩) hb1).trans (ha 7 (by omega))
  have a8:wr.cell? ⟨b1,o1+i*15+8,none⟩=some (.int .i64 y.m.du.rate):=(HB.out.cell (p:=⟨b1,o1+i*15+8,none⟩) hb1).trans (ha 8 (by omega))
  have a9:wr.cell? ⟨b1,o1+i*15+9,none⟩=some (.int .i64 y.m.du.am):=(HB.out.cell (p:=⟨b1,o1+i*15+9,none⟩) hb1).trans (ha 9 (by omega))
  have a10:wr.cell? ⟨b1,o1+i*15+10,none⟩=some (.int .i64 y.m.du.per):=(HB.out.cell (p:=⟨b1,o1+i*15+10,none⟩) hb1).trans (ha 10 (by omega))
  have a11:wr.cell? ⟨b1,o1+i*15+11,none⟩=some (.bool y.m.du.hm):=(HB.out.cell (p:=⟨b1,o1+i*15+11,none⟩) hb1).trans (ha 11 (by omega))
  have a12:wr.cell? ⟨b1,o1+i*15+12,none⟩=some (.int .i64 y.m.du.most):=(HB.out.cell (p:=⟨b1,o1+i*15+12,none⟩) hb1).trans (ha 12 (by omega))
  have a13:wr.cell? ⟨b1,o1+i*15+13,none⟩=some (.bool y.m.du.hl):=(HB.out.cell (p:=⟨b1,o1+i*15+13,none⟩) hb1).trans (ha 13 (by omega))
  have a14:wr.cell? ⟨b1,o1+i*15+14,none⟩=some (.int .i64 y.m.du.least):=(HB.out.cell (p:=⟨b1,o1+i*15+14,none⟩) hb1).trans (ha 14 (by omega))
  have HS:Hid (anyTo xs (i+1)=(y.m.kind == 1)):=by
   show _=_
   rw [anyTo_snoc (by omega),HA.out,hy,Bool.false_or]
  have hii:(i:Int)<(n:Int):=by omega
  have hiz:(0:Int)≤(i:Int):=by omega
  have ui:IntKind.i64.wrap ((i:Int)+1)=((i+1:Nat):Int):=IntWalk.i64_in _ (by omega)
  clear ha hy
  go_wp2_with fail
  refine (HT.out y _).mono ?_
  rintro e w2 ⟨rfl,hb2⟩
  have HB2:=Lib.hid (HB.out.trans (hb2.mono HB.out.size))
  cases hk:(y.m.kind == 1)
  case false =>
   rw [hk] at HS
   go_wp2_with fail
   go_roundw
   case rel=>exact⟨i+1,by go_num,by omega,HS.out,HB2.out⟩
   case measure=>simp [intOf];omega
  case true =>
   rw [hk] at HS
   have HE:Hid (decide ((i:Int) ≥ 0)=xs.any (fun y=>y.m.kind == 1)):=by
    have h1:xs.any (fun y=>y.m.kind == 1)=true:=by
     have h2:=HS.out
     unfold anyTo at h2
     rw [List.any_eq_true] at h2 ⊢
     obtain⟨z,hz,h3⟩:=h2
     exact⟨z,List.mem_of_mem_take hz,h3⟩
    rw [h1]
    exact Lib.hid (decide_eq_true (by omega))
   go_wp2_with fail
   go_ret
   exact⟨i,rfl,HE.out,HB2.out⟩
set_option maxRecDepth 100000 in
theorem contains20 (A:Option Addr) (n c:Nat) (xs:List MsA) (w:World) (h:Recs encM 15 w A n xs) (hn:n≤1000000) :
  Calls Tryz.prog 23 #[.slice A n c,.func (.func 24) #[] #[]] w (BRes w (xs.any fun y=>y.m.kind == 1)):=by
 have HI:=Lib.hid (index20 A n c xs w h hn)
 clear h
 go_enter Tryz.func23,Tryz.ntmps23
 go_wp2_with fail
 refine HI.out.mono ?_
 rintro e w2 ⟨k,rfl,hk,hb⟩
 have HK:=Lib.hid hk
 have HB:=Lib.hid hb
 clear hk hb
 go_wp2
 go_ret
 exact⟨by rw [← HK.out];rfl,HB.out⟩
end Go.Proofs.YtbokkeooahodaaaGreatDoor

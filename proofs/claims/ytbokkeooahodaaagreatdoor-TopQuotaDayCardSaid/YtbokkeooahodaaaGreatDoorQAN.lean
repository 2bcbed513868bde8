/-
  A part of the proof of TopQuotaDayCardSaid: lemmas and contracts of functions that the law calls. No statement of the seat is proved here. Conditions: as each says.
-/
import Derived.Test.YtbokkeooahodaaaGreatDoorQAI
import Derived.Test.YtbokkeooahodaaaGreatDoorQAL
import Derived.Test.YtbokkeooahodaaaGreatDoorQAH
import Derived.Test.YtbokkeooahodaaaGreatDoorQAK
import Derived.Test.YtbokkeooahodaaaGreatDoorQAM
namespace Go.Proofs.YtbokkeooahodaaaGreatDoor
open Go.RowKit
set_option linter.unusedVariables false
theorem mssErr_long {l:List Ms} (h:300<l.length):mssErr l=8:=by unfold mssErr;rw [if_pos h]
theorem mssErr_at {l:List Ms} (h:l.length≤300) (k:Nat) (hk:k<l.length) (h0:∀ i,i<k→msErr l i=0) {er:Int} (he:msErr l k=er) (hn:er≠0):mssErr l=er:=by
 unfold mssErr;rw [if_neg (by omega),firstErr_at h0 (by rw [he];exact hn) _ hk,he]
theorem mssErr_ok {l:List Ms} (h:l.length≤300) (h0:∀ i,i<l.length→msErr l i=0):mssErr l=0:=by
 unfold mssErr;rw [if_neg (by omega),firstErr_zero h0]
set_option maxRecDepth 100000 in
set_option maxHeartbeats 16000000 in
theorem mvalidate20_any (A:Option Addr) (n c:Nat) (xs:List MsA) (w:World) (h:MsR w A n xs) (hG:LenG w) :
  Calls Tryz.prog 20 #[.slice A n c] w (VRes w (mssErr (msL xs))):=by
 have HL:Hid ((msL xs).length=n):=by unfold Hid;rw [msL_len,h.len]
 have HGl:=Lib.hid hG
 clear hG
 have hn:=h.2.1
 by_cases hl:300<n
 ·have E:=Lib.hid (mssErr_long (l:=msL xs) (by have:=HL.out;omega))
  have d1:decide ((300:Int)<(n:Int))=true:=by simp;omega
  go_enter Tryz.func20,Tryz.ntmps20
  go_wp2
  go_ret
  exact⟨ret_int' E.out.symm,Below.refl _ _⟩
 have d1:decide ((300:Int)<(n:Int))=false:=by simp;omega
 go_enter Tryz.func20,Tryz.ntmps20
 go_wp2
 go_loopw [11] (fun i wr=>∃ k:Nat,k≤n∧i=.int .i64 k∧Hid (∀ i,i<k→msErr (msL xs) i=0)∧RowKit.Below w.heap.size w wr) (fun i _=>n - (intOf i).toNat)
 case atStart=>exact⟨0,Nat.zero_le _,rfl,fun i hi=>absurd hi (by omega),Below.refl _ _⟩
 case round =>
  obtain⟨k,hk,rfl,HA,hbel⟩:=hrel
  by_cases hlt:k<n
  ·obtain⟨b,off,x,rfl,hbl,hcs,hsr,hps,HX⟩:=(h.below hbel).get hlt
   have HT:Hid (∀ er:Int,msErr (msL xs) k=er→er≠0→mssErr (msL xs)=er):=fun er he hx=>mssErr_at (by have:=HL.out;omega) k (by have:=HL.out;omega) HA.out he hx
   have HA':Hid (msErr (msL xs) k=0→∀ i,i<k+1→msErr (msL xs) i=0):=fun h0 i hi=>by
    by_cases e:i=k
    ·subst e;exact h0
    ·exact HA.out i (by omega)
   have HS0:Hid (msErr (msL xs) k=if ¬ msHead x.m then 2
     else if 0<k∧x.m.id≤(msL xs)[k - 1]!.id then 9
     else if levelV x.m.pre=0 then 1
     else if 20<x.n then 8
     else if ¬ orgsOk x.m.orgs then 1
     else if ¬ msTime x.m then 2
     else duErr x.m.du):=by
    unfold Hid msErr
    rw [msL_get,HX.out,hsr.len]
   have HLv:=Lib.hid (fun w' (hb:RowKit.Below w.heap.size w w')=>level_any x.m.pre w' (HGl.out.below hb) hps)
   have HVo:=Lib.hid (fun w' (hb:RowKit.Below wr.heap.size wr w')=>vorgs_any x.A x.n x.c x.m.orgs w' (hsr.below hb))
   have HDv:=Lib.hid (fun w'=>dvalidate_any x.m.du.rate x.m.du.am x.m.du.per x.m.du.most x.m.du.least x.m.du.hm x.m.du.hl w')
   have hnn:x.n≤1000000:=hsr.2.1
   clear HX hsr HA
   obtain⟨⟨id,ki,pre,orgs,co,fr,til,reg,⟨ra,am,pe,hm,mo,hl,le⟩⟩,A',n',c'⟩:=x
   unfold MsCells at hcs
   unfold msHead msTime at HS0
   unfold duA at HDv
   dsimp only at *
   obtain⟨c0,c1,c2,c3,c4,c5,c6,c7,c8,c9,c10,c11,c12,c13,c14⟩:=hcs
   generalize msErr (msL xs) k=er at *
   generalize mssErr (msL xs)=res at *
   have HB1:Hid (∀ o,RowKit.Below w.heap.size w (wr.alloc o)):=fun o=>hbel.alloc hbel.size _
   by_cases g1:id<1
   ·have d1:decide (id<1)=true:=by simp;omega
    have E:=Lib.hid (HT.out 2 (by rw [HS0.out,if_pos (by omega)]) (by omega))
    clear HS0 HT HA' HLv HVo HDv
    go_wp2
    go_ret
    exact⟨ret_int' E.out.symm,HB1.out _⟩
   have d1:decide (id<1)=false:=by simp;omega
   by_cases g2:1000000<id
   ·have d2:decide (1000000<id)=true:=by simp;omega
    have E:=Lib.hid (HT.out 2 (by rw [HS0.out,if_pos (by omega)]) (by omega))
    clear HS0 HT HA' HLv HVo HDv
    go_wp2
    go_ret
    exact⟨ret_int' E.out.symm,HB1.out _⟩
   have d2:decide (1000000<id)=false:=by simp;omega
   by_cases g3:ki<1
   ·have d3:decide (ki<1)=true:=by simp;omega
    have E:=Lib.hid (HT.out 2 (by rw [HS0.out,if_pos (by omega)]) (by omega))
    clear HS0 HT HA' HLv HVo HDv
    go_wp2
    go_ret
    exact⟨ret_int' E.out.symm,HB1.out _⟩
   have d3:decide (ki<1)=false:=by simp;omega
   by_cases g4:6<ki
   ·have d4:decide (6<ki)=true:=by simp;omega
    have E:=Lib.hid (HT.out 2 (by rw [HS0.out,if_pos (by omega)]) (by omega))
    clear HS0 HT HA' HLv HVo HDv
    go_wp2
    go_ret
    exact⟨ret_int' E.out.symm,HB1.out _⟩
   have d4:decide (6<ki)=false:=by simp;omega
   by_cases g5:co<0
   ·have d5:decide (co<0)=true:=by simp;omega
    have E:=Lib.hid (HT.out 2 (by rw [HS0.out,if_pos (by omega)]) (by omega))
    clear HS0 HT HA' HLv HVo HDv
    go_wp2
    go_ret
    exact⟨ret_int' E.out.symm,HB1.out _⟩
   have d5:decide (co<0)=false:=by simp;omega
   by_cases g6:999<co
   ·have d6:decide (999<co)=true:=by simp;omega
    have E:=Lib.hid (HT.out 2 (by rw [HS0.out,if_pos (by omega)]) (by omega))
    clear HS0 HT HA' HLv HVo HDv
    go_wp2
    go_ret
    exact⟨ret_int' E.out.symm,HB1.out _⟩
   have d6:decide (999<co)=false:=by simp;omega
   have HS1:=Lib.hid (HS0.out.trans (if_neg (by omega)))
   clear HS0
   have hsz0:wr.heap.size<(wr.alloc (.cells #[.int .i64 id,.int .i64 ki,.string pre,.slice A' n' c',.int .i64 co,.int .i64 fr,.int .i64 til,.int .i64 reg,.int .i64 ra,.int .i64 am,.int .i64 pe,.bool hm,.int .i64 mo,.bool hl,.int .i64 le] 62)).heap.size:=by simp
   have HBx:=Bl.new wr 62 #[.int .i64 id,.int .i64 ki,.string pre,.slice A' n' c',.int .i64 co,.int .i64 fr,.int .i64 til,.int .i64 reg,.int .i64 ra,.int .i64 am,.int .i64 pe,.bool hm,.int .i64 mo,.bool hl,.int .i64 le]
   have hW:RowKit.Below wr.heap.size wr (wr.alloc (.cells #[.int .i64 id,.int .i64 ki,.string pre,.slice A' n' c',.int .i64 co,.int .i64 fr,.int .i64 til,.int .i64 reg,.int .i64 ra,.int .i64 am,.int .i64 pe,.bool hm,.int .i64 mo,.bool hl,.int .i64 le] 62)):=(Below.refl _ _).alloc (Nat.le_refl _) _
   have HBW:=Lib.hid (HB1.out (.cells #[.int .i64 id,.int .i64 ki,.string pre,.slice A' n' c',.int .i64 co,.int .i64 fr,.int .i64 til,.int .i64 reg,.int .i64 ra,.int .i64 am,.int .i64 pe,.bool hm,.int .i64 mo,.bool hl,.int .i64 le] 62))
   clear HB1
   by_cases hk0:0<k
   ·obtain⟨b',off',y,hA,_,hcy,_,_,HY⟩:=(h.below hbel).get (show k - 1<n by omega)
    obtain⟨rfl,rfl⟩:b=b'∧off=off':=by simpa using hA
    have k1:=hcy.1
    have HS2:Hid (er=if y.m.id<id∧False∨id≤y.m.id then 9
     else if levelV pre=0 then 1
     else if 20<n' then 8
     else if ¬ orgsOk orgs then 1
     else if ¬ (0≤fr∧fr<til∧til≤36525∧-1≤reg∧reg≤fr) then 2
     else duErr ⟨ra,am,pe,hm,mo,hl,le⟩):=by
     have:=HS1.out
     rw [msL_get,HY.out] at this
     unfold Hid
     rw [this]
     congr 1
     simp [hk0]
    clear hcy hA HY HS1
    obtain⟨pid,hpid⟩:∃ q,y.m.id=q:=⟨_,rfl⟩
    rw [hpid] at k1 HS2
    clear hpid
    obtain⟨r,hr⟩:∃ r:Nat,k=r+1:=⟨k - 1,by omega⟩
    subst hr
    simp only [Nat.add_sub_cancel] at k1
    have i1:(0:Int)≤(r:Int):=by omega
    have i2:(r:Int)<(n:Int):=by omega
    have d20:decide (0<(r:Int)+1)=true:=by simp
    have u1:IntKind.i64.wrap ((r:Int)+1 - 1)=(r:Int):=(IntWalk.i64_in _ (by omega)).trans (by omega)
    have u2:IntKind.i64.wrap (r:Int)=(r:Int):=IntWalk.i64_in _ (by omega)
    by_cases g20:id≤pid
    ·have d21:decide (id≤pid)=true:=by simp;omega
     have E:=Lib.hid (HT.out 9 (by rw [HS2.out,if_pos (.inr g20)]) (by omega))
     clear HS2 HT HA' HLv HVo HDv
     go_wp2
     have q0:=HBx.cell 0
     have k2:=(hW.cell (p:=⟨b,off+r*15,none⟩) hbl).trans k1
     generalize wr.alloc (.cells #[.int .i64 id,.int .i64 ki,.string pre,.slice A' n' c',.int .i64 co,.int .i64 fr,.int .i64 til,.int .i64 reg,.int .i64 ra,.int .i64 am,.int .i64 pe,.bool hm,.int .i64 mo,.bool hl,.int .i64 le] 62)=W at *
     go_quiet (fail)
     go_wp2
     go_ret
     exact⟨ret_int' E.out.symm,below_drewN HBW.out _⟩
    ·have d21:decide (id≤pid)=false:=by simp;omega
     have HS3:=Lib.hid (HS2.out.trans (if_neg (fun hx=>hx.elim (fun a=>a.2.elim) g20)))
     clear HS2
     go_wp2
     have q0:=HBx.cell 0
     have k2:=(hW.cell (p:=⟨b,off+r*15,none⟩) hbl).trans k1
     generalize wr.alloc (.cells #[.int .i64 id,.int .i64 ki,.string pre,.slice A' n' c',.int .i64 co,.int .i64 fr,.int .i64 til,.int .i64 reg,.int .i64 ra,.int .i64 am,.int .i64 pe,.bool hm,.int .i64 mo,.bool hl,.int .i64 le] 62)=W at *
     go_quiet (fail)
     have HBq:=HBx.drewN nq
     have hWq:=below_drewN hW nq
     have HBWq:=Lib.hid (below_drewN HBW.out nq)
     generalize W.drewN nq=W1 at *
     have q2:W1.cell? ⟨wr.heap.size,2,none⟩=some (.string pre):=HBq.cell 2
     have HL1:=Lib.hid (HLv.out W1 HBWq.out)
     clear HLv
     generalize levelV pre=lv at *
     go_wp2_with fail
     refine HL1.out.mono ?_
     rintro e w2 ⟨rfl,hb2⟩
     have HB2:=HBq.keep hb2
     have HW2:=Lib.hid (hWq.trans (hb2.mono hWq.size))
     have HBW2:=Lib.hid (HBWq.out.trans (hb2.mono HBWq.out.size))
     have t3:w2.cell? ⟨wr.heap.size,3,none⟩=some (.slice A' n' c'):=HB2.cell 3
     have t5:w2.cell? ⟨wr.heap.size,5,none⟩=some (.int .i64 fr):=HB2.cell 5
     have t6:w2.cell? ⟨wr.heap.size,6,none⟩=some (.int .i64 til):=HB2.cell 6
     have t7:w2.cell? ⟨wr.heap.size,7,none⟩=some (.int .i64 reg):=HB2.cell 7
     have t8:w2.cell? ⟨wr.heap.size,8,none⟩=some (.int .i64 ra):=HB2.cell 8
     have t9:w2.cell? ⟨wr.heap.size,9,none⟩=some (.int .i64 am):=HB2.cell 9
     have t10:w2.cell? ⟨wr.heap.size,10,none⟩=some (.int .i64 pe):=HB2.cell 10
     have t11:w2.cell? ⟨wr.heap.size,11,none⟩=some (.bool hm):=HB2.cell 11
     have t12:w2.cell? ⟨wr.heap.size,12,none⟩=some (.int .i64 mo):=HB2.cell 12
     have t13:w2.cell? ⟨wr.heap.size,13,none⟩=some (.bool hl):=HB2.cell 13
     have t14:w2.cell? ⟨wr.heap.size,14,none⟩=some (.int .i64 le):=HB2.cell 14
     clear HBq hWq HBWq q2 HL1 hb2 HB2 HBx
     by_cases z1:lv=0
     ·have y1:(lv == 0)=true:=by simpa using z1
      have E:=Lib.hid (HT.out 1 (by rw [HS3.out,if_pos z1]) (by omega))
      clear HT HA' HVo HDv
      go_wp2
      go_ret
      exact⟨ret_int' E.out.symm,HBW2.out⟩
     have y1:(lv == 0)=false:=by simpa using z1
     have HS4:=Lib.hid (HS3.out.trans (if_neg z1))
     clear HS3 z1
     by_cases z2:20<n'
     ·have y2:decide ((20:Int)<(n':Int))=true:=by simp;omega
      have E:=Lib.hid (HT.out 8 (by rw [HS4.out,if_pos z2]) (by omega))
      clear HT HA' HVo HDv
      go_wp2
      go_ret
      exact⟨ret_int' E.out.symm,HBW2.out⟩
     have y2:decide ((20:Int)<(n':Int))=false:=by simp;omega
     have HS5:=Lib.hid (HS4.out.trans (if_neg z2))
     clear HS4
     have HV1:=Lib.hid (HVo.out w2 HW2.out)
     clear HVo
     cases z3:decide (orgsOk orgs) with
     | false =>
      rw [z3] at HV1
      have E:=Lib.hid (HT.out 1 (by rw [HS5.out,if_pos (of_decide_eq_false z3)]) (by omega))
      clear HT HA' HDv z3
      go_wp2_with fail
      refine HV1.out.mono ?_
      rintro e w3 ⟨rfl,rfl⟩
      go_wp2
      go_ret
      exact⟨ret_int' E.out.symm,HBW2.out⟩
     | true =>
      rw [z3] at HV1
      have HS6:=Lib.hid (HS5.out.trans (if_neg (fun hx=>hx (of_decide_eq_true z3))))
      clear HS5 z3
      go_wp2_with fail
      refine HV1.out.mono ?_
      rintro e w3 ⟨rfl,rfl⟩
      clear HV1
      by_cases v1:fr<0
      ·have v1d:decide (fr<0)=true:=by simp;omega
       have E:=Lib.hid (HT.out 2 (by rw [HS6.out,if_pos (by omega)]) (by omega))
       clear HT HA' HDv
       go_wp2
       go_ret
       exact⟨ret_int' E.out.symm,HBW2.out⟩
      have v1d:decide (fr<0)=false:=by simp;omega
      by_cases v2:til≤fr
      ·have v2d:decide (til≤fr)=true:=by simp;omega
       have E:=Lib.hid (HT.out 2 (by rw [HS6.out,if_pos (by omega)]) (by omega))
       clear HT HA' HDv
       go_wp2
       go_ret
       exact⟨ret_int' E.out.symm,HBW2.out⟩
      have v2d:decide (til≤fr)=false:=by simp;omega
      by_cases v3:36525<til
      ·have v3d:decide (36525<til)=true:=by simp;omega
       have E:=Lib.hid (HT.out 2 (by rw [HS6.out,if_pos (by omega)]) (by omega))
       clear HT HA' HDv
       go_wp2
       go_ret
       exact⟨ret_int' E.out.symm,HBW2.out⟩
      have v3d:decide (36525<til)=false:=by simp;omega
      by_cases v4:reg < -1
      ·have v4d:decide (reg < -1)=true:=by simp;omega
       have E:=Lib.hid (HT.out 2 (by rw [HS6.out,if_pos (by omega)]) (by omega))
       clear HT HA' HDv
       go_wp2
       go_ret
       exact⟨ret_int' E.out.symm,HBW2.out⟩
      have v4d:decide (reg < -1)=false:=by simp;omega
      by_cases v5:fr<reg
      ·have v5d:decide (fr<reg)=true:=by simp;omega
       have E:=Lib.hid (HT.out 2 (by rw [HS6.out,if_pos (by omega)]) (by omega))
       clear HT HA' HDv
       go_wp2
       go_ret
       exact⟨ret_int' E.out.symm,HBW2.out⟩
      have v5d:decide (fr<reg)=false:=by simp;omega
      have HS7:=Lib.hid (HS6.out.trans (if_neg (by omega)))
      clear HS6
      generalize duErr ⟨ra,am,pe,hm,mo,hl,le⟩=de at *
      go_wp2_with fail
      refine (HDv.out _).mono ?_
      rintro e w4 ⟨rfl,hb4⟩
      have HBW4:=Lib.hid (HBW2.out.trans (hb4.mono HBW2.out.size))
      by_cases z4:de=0
      ·have y4:(de == 0)=true:=by simpa using z4
       have y4n:(de != 0)=false:=by simpa using z4
       have HA2:=Lib.hid (HA'.out (by rw [HS7.out,z4]))
       clear HT HA' HS7 z4
       go_wp2
       go_roundw
       case rel=>exact⟨r+1+1,by omega,by go_num,HA2.out,HBW4.out⟩
       case measure=>simp [intOf];omega
      ·have y4:(de == 0)=false:=by simpa using z4
       have y4n:(de != 0)=true:=by simpa using z4
       have E:=Lib.hid (HT.out de (by rw [HS7.out]) z4)
       clear HT HA' HS7 z4
       go_wp2
       go_ret
       exact⟨ret_int' E.out.symm,HBW4.out⟩
   ·have d20:decide ((0:Int)<(k:Int))=false:=by simp;omega
    have HS3:=Lib.hid (HS1.out.trans (if_neg (fun hx=>hk0 hx.1)))
    clear HS1
    go_wp2
    generalize wr.alloc (.cells #[.int .i64 id,.int .i64 ki,.string pre,.slice A' n' c',.int .i64 co,.int .i64 fr,.int .i64 til,.int .i64 reg,.int .i64 ra,.int .i64 am,.int .i64 pe,.bool hm,.int .i64 mo,.bool hl,.int .i64 le] 62)=W at *
    go_quiet (fail)
    have HBq:=HBx.drewN nq
    have hWq:=below_drewN hW nq
    have HBWq:=Lib.hid (below_drewN HBW.out nq)
    generalize W.drewN nq=W1 at *
    have q2:W1.cell? ⟨wr.heap.size,2,none⟩=some (.string pre):=HBq.cell 2
    have HL1:=Lib.hid (HLv.out W1 HBWq.out)
    clear HLv
    generalize levelV pre=lv at *
    go_wp2_with fail
    refine HL1.out.mono ?_
    rintro e w2 ⟨rfl,hb2⟩
    have HB2:=HBq.keep hb2
    have HW2:=Lib.hid (hWq.trans (hb2.mono hWq.size))
    have HBW2:=Lib.hid (HBWq.out.trans (hb2.mono HBWq.out.size))
    have t3:w2.cell? ⟨wr.heap.size,3,none⟩=some (.slice A' n' c'):=HB2.cell 3
    have t5:w2.cell? ⟨wr.heap.size,5,none⟩=some (.int .i64 fr):=HB2.cell 5
    have t6:w2.cell? ⟨wr.heap.size,6,none⟩=some (.int .i64 til):=HB2.cell 6
    have t7:w2.cell? ⟨wr.heap.size,7,none⟩=some (.int .i64 reg):=HB2.cell 7
    have t8:w2.cell? ⟨wr.heap.size,8,none⟩=some (.int .i64 ra):=HB2.cell 8
    have t9:w2.cell? ⟨wr.heap.size,9,none⟩=some (.int .i64 am):=HB2.cell 9
    have t10:w2.cell? ⟨wr.heap.size,10,none⟩=some (.int .i64 pe):=HB2.cell 10
    have t11:w2.cell? ⟨wr.heap.size,11,none⟩=some (.bool hm):=HB2.cell 11
    have t12:w2.cell? ⟨wr.heap.size,12,none⟩=some (.int .i64 mo):=HB2.cell 12
    have t13:w2.cell? ⟨wr.heap.size,13,none⟩=some (.bool hl):=HB2.cell 13
    have t14:w2.cell? ⟨wr.heap.size,14,none⟩=some (.int .i64 le):=HB2.cell 14
    clear HBq hWq HBWq q2 HL1 hb2 HB2 HBx
    by_cases z1:lv=0
    ·have y1:(lv == 0)=true:=by simpa using z1
     have E:=Lib.hid (HT.out 1 (by rw [HS3.out,if_pos z1]) (by omega))
     clear HT HA' HVo HDv
     go_wp2
     go_ret
     exact⟨ret_int' E.out.symm,HBW2.out⟩
    have y1:(lv == 0)=false:=by simpa using z1
    have HS4:=Lib.hid (HS3.out.trans (if_neg z1))
    clear HS3 z1
    by_cases z2:20<n'
    ·have y2:decide ((20:Int)<(n':Int))=true:=by simp;omega
     have E:=Lib.hid (HT.out 8 (by rw [HS4.out,if_pos z2]) (by omega))
     clear HT HA' HVo HDv
     go_wp2
     go_ret
     exact⟨ret_int' E.out.symm,HBW2.out⟩
    have y2:decide ((20:Int)<(n':Int))=false:=by simp;omega
    have HS5:=Lib.hid (HS4.out.trans (if_neg z2))
    clear HS4
    have HV1:=Lib.hid (HVo.out w2 HW2.out)
    clear HVo
    cases z3:decide (orgsOk orgs) with
    | false =>
     rw [z3] at HV1
     have E:=Lib.hid (HT.out 1 (by rw [HS5.out,if_pos (of_decide_eq_false z3)]) (by omega))
     clear HT HA' HDv z3
     go_wp2_with fail
     refine HV1.out.mono ?_
     rintro e w3 ⟨rfl,rfl⟩
     go_wp2
     go_ret
     exact⟨ret_int' E.out.symm,HBW2.out⟩
    | true =>
     rw [z3] at HV1
     have HS6:=Lib.hid (HS5.out.trans (if_neg (fun hx=>hx (of_decide_eq_true z3))))
     clear HS5 z3
     go_wp2_with fail
     refine HV1.out.mono ?_
     rintro e w3 ⟨rfl,rfl⟩
     clear HV1
     by_cases v1:fr<0
     ·have v1d:decide (fr<0)=true:=by simp;omega
      have E:=Lib.hid (HT.out 2 (by rw [HS6.out,if_pos (by omega)]) (by omega))
      clear HT HA' HDv
      go_wp2
      go_ret
      exact⟨ret_int' E.out.symm,HBW2.out⟩
     have v1d:decide (fr<0)=false:=by simp;omega
     by_cases v2:til≤fr
     ·have v2d:decide (til≤fr)=true:=by simp;omega
      have E:=Lib.hid (HT.out 2 (by rw [HS6.out,if_pos (by omega)]) (by omega))
      clear HT HA' HDv
      go_wp2
      go_ret
      exact⟨ret_int' E.out.symm,HBW2.out⟩
     have v2d:decide (til≤fr)=false:=by simp;omega
     by_cases v3:36525<til
     ·have v3d:decide (36525<til)=true:=by simp;omega
      have E:=Lib.hid (HT.out 2 (by rw [HS6.out,if_pos (by omega)]) (by omega))
      clear HT HA' HDv
      go_wp2
      go_ret
      exact⟨ret_int' E.out.symm,HBW2.out⟩
     have v3d:decide (36525<til)=false:=by simp;omega
     by_cases v4:reg < -1
     ·have v4d:decide (reg < -1)=true:=by simp;omega
      have E:=Lib.hid (HT.out 2 (by rw [HS6.out,if_pos (by omega)]) (by omega))
      clear HT HA' HDv
      go_wp2
      go_ret
      exact⟨ret_int' E.out.symm,HBW2.out⟩
     have v4d:decide (reg < -1)=false:=by simp;omega
     by_cases v5:fr<reg
     ·have v5d:decide (fr<reg)=true:=by simp;omega
      have E:=Lib.hid (HT.out 2 (by rw [HS6.out,if_pos (by omega)]) (by omega))
      clear HT HA' HDv
      go_wp2
      go_ret
      exact⟨ret_int' E.out.symm,HBW2.out⟩
     have v5d:decide (fr<reg)=false:=by simp;omega
     have HS7:=Lib.hid (HS6.out.trans (if_neg (by omega)))
     clear HS6
     generalize duErr ⟨ra,am,pe,hm,mo,hl,le⟩=de at *
     go_wp2_with fail
     refine (HDv.out _).mono ?_
     rintro e w4 ⟨rfl,hb4⟩
     have HBW4:=Lib.hid (HBW2.out.trans (hb4.mono HBW2.out.size))
     by_cases z4:de=0
     ·have y4:(de == 0)=true:=by simpa using z4
      have y4n:(de != 0)=false:=by simpa using z4
      have HA2:=Lib.hid (HA'.out (by rw [HS7.out,z4]))
      clear HT HA' HS7 z4
      go_wp2
      go_roundw
      case rel=>exact⟨k+1,by omega,by go_num,HA2.out,HBW4.out⟩
      case measure=>simp [intOf];omega
     ·have y4:(de == 0)=false:=by simpa using z4
      have y4n:(de != 0)=true:=by simpa using z4
      have E:=Lib.hid (HT.out de (by rw [HS7.out]) z4)
      clear HT HA' HS7 z4
      go_wp2
      go_ret
      exact⟨ret_int' E.out.symm,HBW4.out⟩
  ·have E:=Lib.hid (mssErr_ok (l:=msL xs) (by have:=HL.out;omega) (fun i hi=>HA.out i (by have:=HL.out;omega)))
   go_wp2
   go_ret
   exact⟨ret_int' E.out.symm,hbel⟩
theorem infoDl:(Tryz.prog.info? 38).map (fun i=>(i.zero,i.size,i.bytes))=some (some (.agg #[.int .i64 0,.int .i64 0,.int .i64 0,.int .i64 0,.int .i64 0]),5,40):=by kernel_rfl
def encDl (x:Dl):List Value:=[.int .i64 x.kind,.int .i64 x.meas,.int .i64 x.qty,.int .i64 x.val,.int .i64 x.amt]
theorem encDl_len (x:Dl):(encDl x).length=5:=rfl
theorem encDl_one (x:Dl):∀ v∈encDl x,v.oneCell'=true:=fun v hv=>by
 simp only [encDl,List.mem_cons,List.not_mem_nil,or_false] at hv
 rcases hv with rfl | rfl | rfl | rfl | rfl <;> rfl
def AsRes (w:World) (o:Int × List Dl) (e:Ending) (w':World):Prop:=∃ (R:Option Addr) (c:Nat),e=.returned (.tuple #[.agg #[.slice R o.2.length c,.int .i64 (sumA o.2)],.int .i64 o.1])∧w'.ownsRow w.heap.size 38 5 (.slice R o.2.length c) o.2.length (flat encDl o.2)∧RowKit.Below w.heap.size w w'
theorem AsRes.err {w w':World} {o:Int × List Dl} {er:Int} (h:o=(er,[])) (hb:RowKit.Below w.heap.size w w'):AsRes w o (.returned (.tuple #[.agg #[.slice none 0 0,.int .i64 0],.int .i64 er])) w':=by
 subst h
 exact⟨none,0,rfl,⟨by simp [flat],.inl ⟨rfl,rfl⟩⟩,hb⟩
structure AsB (W0:World) (gd:Nat) (R:Option Addr) (m c:Nat) (ls:List Dl) (wx:World):Prop where
 below:RowKit.Below gd W0 wx
 d:Bl wx gd 28 #[.slice R m c,.int .i64 (sumA ls)]
 o:wx.ownsRow gd 38 5 (.slice R m c) m (flat encDl ls)
 len:ls.length=m
section
variable {W0 wx w':World} {gd:Nat} {R:Option Addr} {m c:Nat} {ls:List Dl}
theorem AsB.size (h:AsB W0 gd R m c ls wx):gd≤wx.heap.size:=Nat.le_of_lt h.d.lt
theorem AsB.under (h:AsB W0 gd R m c ls wx) (hb:RowKit.Below wx.heap.size wx w'):AsB W0 gd R m c ls w':=⟨h.below.trans (hb.mono h.size),h.d.keep hb,own_below h.o hb,h.len⟩
theorem AsB.alloc (h:AsB W0 gd R m c ls wx) (o:Obj):AsB W0 gd R m c ls (wx.alloc o):=h.under ((Below.refl _ _).alloc (Nat.le_refl _) _)
theorem AsB.app (h:AsB W0 gd R m c ls wx) {o:Obj} {R4:Option Addr} {d4:Nat} {x:Dl} (hg:(wx.alloc o).grownBy w' (Value.slice R m c).ownBlock) (ho:w'.ownsRow gd 38 5 (.slice R4 (m+1) d4) (m+1) (flat encDl ls ++ encDl x)) :
  (Bl w' gd 28 #[.slice R m c,.int .i64 (sumA ls)]∧Bl (w'.setCell ⟨gd,0,none⟩ (.slice R4 (m+1) d4)) gd 28 #[.slice R4 (m+1) d4,.int .i64 (sumA ls)])∧AsB W0 gd R4 (m+1) d4 (ls ++ [x]) ((w'.setCell ⟨gd,0,none⟩ (.slice R4 (m+1) d4)).setCell ⟨gd,1,none⟩ (.int .i64 (sumA ls+x.amt))):=by
 have h1:=h.alloc o
 have hd:Bl w' gd 28 #[.slice R m c,.int .i64 (sumA ls)]:=(hg.block gd h1.d.lt (fun e=>own_apart h1.o h1.d (by decide) e)).trans h1.d
 have hd1:Bl (w'.setCell ⟨gd,0,none⟩ (.slice R4 (m+1) d4)) gd 28 #[.slice R4 (m+1) d4,.int .i64 (sumA ls)]:=by simpa using hd.put 0 (.slice R4 (m+1) d4)
 refine⟨⟨hd,hd1⟩,?_⟩
 have hO:Only gd w' ((w'.setCell ⟨gd,0,none⟩ (.slice R4 (m+1) d4)).setCell ⟨gd,1,none⟩ (.int .i64 (sumA ls+x.amt))):=((Only.refl gd w').setCell 0 _).setCell 1 _
 have hs:sumA (ls ++ [x])=sumA ls+x.amt:=by rw [sumA_append,sumA_cons,sumA_nil];omega
 refine⟨(h1.below.grown hg h1.size (fun g e=>own_base h.o g e)).trans (hO.below (Nat.le_refl _)),by rw [hs];exact set2_bl hd _ _,?_,by rw [List.length_append,h.len];rfl⟩
 rw [flat_append,flat_one]
 refine own_of_block ho fun g hgb=>hO.block g (fun e=>?_)
 exact own_apart ho hd (by decide) (by rw [hgb,e])
end
set_option maxRecDepth 100000 in
set_option maxHeartbeats 16000000 in
theorem assess_any (A:Option Addr) (n c:Nat) (xs:List MsA) (x:It) (w:World) (h:MsR w A n xs) (hG:LenG w) (h1:x.code.size≤1000000) (h2:x.org.size≤1000000) :
  Calls Tryz.prog 6 #[.slice A n c,.agg #[.string x.code,.string x.org,.bool x.proof,.int .i64 x.co,.int .i64 x.day,.int .i64 x.qty,.int .i64 x.val,.int .i64 x.gr]] w (AsRes w (asOut (msL xs) x)):=by
 have HX:=Lib.hid h
 have HG:=Lib.hid hG
 have HMV:=Lib.hid mvalidate20_any
 have HIV:Hid (∀ wx,LenG wx→Calls Tryz.prog 21 #[.agg #[.string x.code,.string x.org,.bool x.proof,.int .i64 x.co,.int .i64 x.day,.int .i64 x.qty,.int .i64 x.val,.int .i64 x.gr]] wx (VRes wx (itErr x))):=fun wx hg=>itval_any x wx hg h1 h2
 have HAP:Hid (∀ wx,MsR wx A n xs→Calls Tryz.prog 22 #[.slice A n c,.string x.code,.string x.org,.int .i64 x.co,.int .i64 x.day] wx (ApRes wx (applic (msL xs) x))):=fun wx hm=>applicable_any A n c xs x wx hm
 have HPO:Hid (itRange x→∀ wx,Calls Tryz.prog 25 #[.agg #[.string x.code,.string x.org,.bool x.proof,.int .i64 x.co,.int .i64 x.day,.int .i64 x.qty,.int .i64 x.val,.int .i64 x.gr]] wx (PtRes wx (partsL x (shA x) (shB x)))):=fun hr wx=>partsOf_any x wx hr
 obtain⟨l,hl⟩:∃ l,msL xs=l:=⟨_,rfl⟩
 obtain⟨N,hN⟩:∃ N,w.heap.size=N:=⟨_,rfl⟩
 have HE1:=Lib.hid (fun h=>asOut_1 (l:=l) (x:=x) h)
 have HE2:=Lib.hid (fun h h2=>asOut_2 (l:=l) (x:=x) h h2)
 have HE3:=Lib.hid (fun h h2 h3=>asOut_3 (l:=l) (x:=x) h h2 h3)
 have HE4:Hid (∀ {e:Int},mssErr l=0→itErr x=0→((applic l x).any fun m=>m.kind == 1)=true→(linesOf (applic l x) (partsL x (shA x) (shB x))).1=e→e≠0→asOut l x=(e,[])):=fun h h2 h3 h4 h5=>asOut_4 h h2 h3 h4 h5
 have HE5:=Lib.hid (fun h h2 h3 h4=>asOut_5 (l:=l) (x:=x) h h2 h3 h4)
 rw [hl] at HAP ⊢
 have HVM:Hid (∀ wx,MsR wx A n xs→LenG wx→Calls Tryz.prog 20 #[.slice A n c] wx (VRes wx (mssErr l))):=fun wx h3 h4=>by rw [← hl];exact HMV.out A n c xs wx h3 h4
 have HERR:Hid (∀ (er:Int) (w':World),RowKit.Below N w w'→asOut l x=(er,[])→AsRes w (asOut l x) (.returned (.tuple #[.agg #[.slice none 0 0,.int .i64 0],.int .i64 er])) w'):=fun er w' hb he=>AsRes.err he (by rw [hN];exact hb)
 clear HMV h hG h1 h2 hl
 have HX0:Hid (Bl ((w.alloc (.cells #[.string x.code,.string x.org,.bool x.proof,.int .i64 x.co,.int .i64 x.day,.int .i64 x.qty,.int .i64 x.val,.int .i64 x.gr] 33)).alloc (.cells #[.slice none 0 0,.int .i64 0] 28)) N 33 #[.string x.code,.string x.org,.bool x.proof,.int .i64 x.co,.int .i64 x.day,.int .i64 x.qty,.int .i64 x.val,.int .i64 x.gr]):=by rw [← hN];exact Bl.alloc (Bl.new _ _ _) _
 have s1:(w.alloc (.cells #[.string x.code,.string x.org,.bool x.proof,.int .i64 x.co,.int .i64 x.day,.int .i64 x.qty,.int .i64 x.val,.int .i64 x.gr] 33)).heap.size=N+1:=by rw [← hN];simp
 have HR0:Hid (Bl ((w.alloc (.cells #[.string x.code,.string x.org,.bool x.proof,.int .i64 x.co,.int .i64 x.day,.int .i64 x.qty,.int .i64 x.val,.int .i64 x.gr] 33)).alloc (.cells #[.slice none 0 0,.int .i64 0] 28)) (N+1) 28 #[.slice none 0 0,.int .i64 0]):=by rw [← s1];exact Bl.new _ _ _
 have HB0:Hid (RowKit.Below N w ((w.alloc (.cells #[.string x.code,.string x.org,.bool x.proof,.int .i64 x.co,.int .i64 x.day,.int .i64 x.qty,.int .i64 x.val,.int .i64 x.gr] 33)).alloc (.cells #[.slice none 0 0,.int .i64 0] 28))):=by rw [← hN];exact ((Below.refl _ _).alloc (Nat.le_refl _) _).alloc (by simp) _
 go_enter Tryz.func6,Tryz.ntmps6
 go_upto_region 1 with (fail)
 try rw [s1]
 try rw [hN]
 generalize (w.alloc (.cells #[.string x.code,.string x.org,.bool x.proof,.int .i64 x.co,.int .i64 x.day,.int .i64 x.qty,.int .i64 x.val,.int .i64 x.gr] 33)).alloc (.cells #[.slice none 0 0,.int .i64 0] 28)=W0 at *
 clear s1
 have HBW:Hid (∀ wx,RowKit.Below N w wx→RowKit.Below w.heap.size w wx):=fun wx hb=>by rw [hN];exact hb
 go_wp2_with fail
 refine (HVM.out _ (HX.out.below (HBW.out _ HB0.out)) (HG.out.below (HBW.out _ HB0.out))).mono ?_
 rintro e w1 ⟨rfl,hb1⟩
 have HX1:=Lib.hid (HX0.out.keep hb1)
 have HR1:=Lib.hid (HR0.out.keep hb1)
 have HB1:=Lib.hid (HB0.out.trans (hb1.mono (Nat.le_of_lt HX0.out.lt)))
 clear hb1 HX0 HR0 HB0 HVM
 obtain⟨me,hme⟩:∃ q,mssErr l=q:=⟨_,rfl⟩
 rw [hme] at HE1 HE2 HE3 HE4 HE5 ⊢
 have HME:=Lib.hid hme
 clear hme
 by_cases z1:me=0
 case neg =>
  have y1':(me != 0)=true:=by simpa using z1
  have HE:=Lib.hid (HE1.out z1)
  have HZ:=set2_bl HR1.out (.slice none 0 0) (.int .i64 0)
  have HBZ:=Lib.hid ((HB1.out.setCell (p:=⟨N+1,0,none⟩) (show N≤N+1 by omega) (.slice none 0 0)).setCell (p:=⟨N+1,1,none⟩) (show N≤N+1 by omega) (.int .i64 0))
  have t0:w1.cell? ⟨N+1,0,none⟩=some (.slice none 0 0):=HR1.out.cell 0
  have t1:w1.cell? ⟨N+1,1,none⟩=some (.int .i64 0):=HR1.out.cell 1
  have t2:w1.frozen? ⟨N+1,0,none⟩=false:=HR1.out.free 0
  have t3:w1.frozen? ⟨N+1,1,none⟩=false:=HR1.out.free 1
  go_wp2
  generalize (w1.setCell ⟨N+1,0,none⟩ (.slice none 0 0)).setCell ⟨N+1,1,none⟩ (.int .i64 0)=WZ at *
  have y0:WZ.cell? ⟨N+1,0,none⟩=some (.slice none 0 0):=HZ.cell 0
  have y1:WZ.cell? ⟨N+1,1,none⟩=some (.int .i64 0):=HZ.cell 1
  refine bodyPost_ret (v:=.tuple #[.agg #[.slice none 0 0,.int .i64 0],.int .i64 me]) (by simp [results,Tryz.results6,go_sem,y0,y1]) rfl (HERR.out _ _ HBZ.out HE.out)
 case pos =>
 subst z1
 have i0:w1.cell? ⟨N,0,none⟩=some (.string x.code):=HX1.out.cell 0
 have i1:w1.cell? ⟨N,1,none⟩=some (.string x.org):=HX1.out.cell 1
 have i2:w1.cell? ⟨N,2,none⟩=some (.bool x.proof):=HX1.out.cell 2
 have i3:w1.cell? ⟨N,3,none⟩=some (.int .i64 x.co):=HX1.out.cell 3
 have i4:w1.cell? ⟨N,4,none⟩=some (.int .i64 x.day):=HX1.out.cell 4
 have i5:w1.cell? ⟨N,5,none⟩=some (.int .i64 x.qty):=HX1.out.cell 5
 have i6:w1.cell? ⟨N,6,none⟩=some (.int .i64 x.val):=HX1.out.cell 6
 have i7:w1.cell? ⟨N,7,none⟩=some (.int .i64 x.gr):=HX1.out.cell 7
 go_wp2_with fail
 refine (HIV.out _ (HG.out.below (HBW.out _ HB1.out))).mono ?_
 rintro e w2 ⟨rfl,hb2⟩
 have HX2:=Lib.hid (HX1.out.keep hb2)
 have HR2:=Lib.hid (HR1.out.keep hb2)
 have HB2:=Lib.hid (HB1.out.trans (hb2.mono (Nat.le_of_lt HX1.out.lt)))
 clear hb2 HX1 HR1 HB1 HIV i0 i1 i2 i3 i4 i5 i6 i7
 obtain⟨ie,hie⟩:∃ q,itErr x=q:=⟨_,rfl⟩
 have HIE:=Lib.hid hie
 rw [hie] at HE2 HE3 HE4 HE5 ⊢
 clear hie
 by_cases z2:ie=0
 case neg =>
  have y1':(ie != 0)=true:=by simpa using z2
  have HE:=Lib.hid (HE2.out (by first | trivial | rfl) z2)
  have HZ:=set2_bl HR2.out (.slice none 0 0) (.int .i64 0)
  have HBZ:=Lib.hid ((HB2.out.setCell (p:=⟨N+1,0,none⟩) (show N≤N+1 by omega) (.slice none 0 0)).setCell (p:=⟨N+1,1,none⟩) (show N≤N+1 by omega) (.int .i64 0))
  have t0:w2.cell? ⟨N+1,0,none⟩=some (.slice none 0 0):=HR2.out.cell 0
  have t1:w2.cell? ⟨N+1,1,none⟩=some (.int .i64 0):=HR2.out.cell 1
  have t2:w2.frozen? ⟨N+1,0,none⟩=false:=HR2.out.free 0
  have t3:w2.frozen? ⟨N+1,1,none⟩=false:=HR2.out.free 1
  go_wp2
  generalize (w2.setCell ⟨N+1,0,none⟩ (.slice none 0 0)).setCell ⟨N+1,1,none⟩ (.int .i64 0)=WZ at *
  have y0:WZ.cell? ⟨N+1,0,none⟩=some (.slice none 0 0):=HZ.cell 0
  have y1:WZ.cell? ⟨N+1,1,none⟩=some (.int .i64 0):=HZ.cell 1
  refine bodyPost_ret (v:=.tuple #[.agg #[.slice none 0 0,.int .i64 0],.int .i64 ie]) (by simp [results,Tryz.results6,go_sem,y0,y1]) rfl (HERR.out _ _ HBZ.out HE.out)
 case pos =>
 subst z2
 have hrng:itRange x:=by
  have h3:=HIE.out
  unfold itErr at h3
  by_cases a:itFit x
  ·rw [if_neg (by simpa using a)] at h3
   by_cases b:itRange x
   ·exact b
   ·rw [if_pos b] at h3;cases h3
  ·rw [if_pos a] at h3;cases h3
 have HPO2:=Lib.hid (HPO.out hrng)
 clear hrng HPO
 have i0:w2.cell? ⟨N,0,none⟩=some (.string x.code):=HX2.out.cell 0
 have i1:w2.cell? ⟨N,1,none⟩=some (.string x.org):=HX2.out.cell 1
 have i3:w2.cell? ⟨N,3,none⟩=some (.int .i64 x.co):=HX2.out.cell 3
 have i4:w2.cell? ⟨N,4,none⟩=some (.int .i64 x.day):=HX2.out.cell 4
 go_wp2_with fail
 refine (HAP.out _ (HX.out.below (HBW.out _ HB2.out))).mono ?_
 rintro e w3 ⟨AR,ac,ys,rfl,hao,hal,hb3⟩
 have hyr:Recs encM 15 w3 AR ys.length ys:=Recs.of_own encM_len hao rfl
 have HX3:=Lib.hid (HX2.out.keep hb3)
 have HR3:=Lib.hid (HR2.out.keep hb3)
 have HB3:=Lib.hid (HB2.out.trans (hb3.mono (Nat.le_of_lt HX2.out.lt)))
 have HYR:=Lib.hid hyr
 have HAL:=Lib.hid hal
 have hyl:ys.length≤6:=by
  have h4:=appTo_len l x 6
  have h5:(msL ys).length=(applic l x).length:=by rw [hal]
  rw [msL_len] at h5
  unfold applic at h5
  omega
 have HAN:Hid (((applic l x).any fun m=>m.kind == 1)=ys.any fun y=>y.m.kind == 1):=by
  show _=_
  rw [← hal]
  unfold msL
  rw [List.any_map]
  rfl
 have HC:=Lib.hid (contains20 AR ys.length ac ys w3 hyr (by omega))
 clear hao hal hb3 hyr HX2 HR2 HB2 HAP i0 i1 i3 i4
 rw [HAN.out] at HE3 HE4 HE5
 clear HAN
 go_wp2_with fail
 refine HC.out.mono ?_
 rintro e w4 ⟨rfl,hb4⟩
 have HX4:=Lib.hid (HX3.out.keep hb4)
 have HR4:=Lib.hid (HR3.out.keep hb4)
 have HB4:=Lib.hid (HB3.out.trans (hb4.mono (Nat.le_of_lt HX3.out.lt)))
 have HYR4:=Lib.hid (HYR.out.below hb4)
 clear hb4 HX3 HR3 HB3 HYR HC
 cases hany:(ys.any fun y=>y.m.kind == 1)
 case false =>
  rw [hany] at HE3
  have HE:=Lib.hid (HE3.out (by first | trivial | rfl) (by first | trivial | rfl) (by first | trivial | rfl))
  have HZ:=set2_bl HR4.out (.slice none 0 0) (.int .i64 0)
  have HBZ:=Lib.hid ((HB4.out.setCell (p:=⟨N+1,0,none⟩) (show N≤N+1 by omega) (.slice none 0 0)).setCell (p:=⟨N+1,1,none⟩) (show N≤N+1 by omega) (.int .i64 0))
  have t0:w4.cell? ⟨N+1,0,none⟩=some (.slice none 0 0):=HR4.out.cell 0
  have t1:w4.cell? ⟨N+1,1,none⟩=some (.int .i64 0):=HR4.out.cell 1
  have t2:w4.frozen? ⟨N+1,0,none⟩=false:=HR4.out.free 0
  have t3:w4.frozen? ⟨N+1,1,none⟩=false:=HR4.out.free 1
  go_wp2
  generalize (w4.setCell ⟨N+1,0,none⟩ (.slice none 0 0)).setCell ⟨N+1,1,none⟩ (.int .i64 0)=WZ at *
  have y0:WZ.cell? ⟨N+1,0,none⟩=some (.slice none 0 0):=HZ.cell 0
  have y1:WZ.cell? ⟨N+1,1,none⟩=some (.int .i64 0):=HZ.cell 1
  refine bodyPost_ret (v:=.tuple #[.agg #[.slice none 0 0,.int .i64 0],.int .i64 7]) (by simp [results,Tryz.results6,go_sem,y0,y1]) rfl (HERR.out _ _ HBZ.out HE.out)
 case true =>
 rw [hany] at HE4 HE5
 have i0:w4.cell? ⟨N,0,none⟩=some (.string x.code):=HX4.out.cell 0
 have i1:w4.cell? ⟨N,1,none⟩=some (.string x.org):=HX4.out.cell 1
 have i2:w4.cell? ⟨N,2,none⟩=some (.bool x.proof):=HX4.out.cell 2
 have i3:w4.cell? ⟨N,3,none⟩=some (.int .i64 x.co):=HX4.out.cell 3
 have i4:w4.cell? ⟨N,4,none⟩=some (.int .i64 x.day):=HX4.out.cell 4
 have i5:w4.cell? ⟨N,5,none⟩=some (.int .i64 x.qty):=HX4.out.cell 5
 have i6:w4.cell? ⟨N,6,none⟩=some (.int .i64 x.val):=HX4.out.cell 6
 have i7:w4.cell? ⟨N,7,none⟩=some (.int .i64 x.gr):=HX4.out.cell 7
 go_wp2_with fail
 refine (HPO2.out _).mono ?_
 rintro e w5 ⟨PR,pn,pc,ps,rfl,hpo,hpl,hpk,hpm,hb5⟩
 have HR5:=Lib.hid (HR4.out.keep hb5)
 have HB5:=Lib.hid (HB4.out.trans (hb5.mono (Nat.le_of_lt HX4.out.lt)))
 have HYR5:=Lib.hid (HYR4.out.below hb5)
 have HPR5:Hid (Recs encPt 3 w5 PR pn ps):=Recs.of_own encPt_len hpo hpl
 have HPK5:Hid (∀ y∈ps,Ints w5 y.A y.n y.p.kinds∧y.n≤1000000):=fun y hy=>⟨IntsK.of_own (hpk y hy),by
  have h3:=(hpk y hy).1
  have h4:y.p∈partsL x (shA x) (shB x):=by rw [← hpm];exact List.mem_map.2 ⟨y,hy,rfl⟩
  have h5:=partsL_kinds h4
  rw [List.length_map] at h3
  omega⟩
 have HPM:=Lib.hid hpm
 have hpn:pn≤4:=by
  have h3:=partsL_len x (shA x) (shB x)
  rw [← hpm,List.length_map] at h3
  omega
 clear hpo hpk hpm hb5 HX4 HR4 HB4 HYR4 HPO2 i0 i1 i2 i3 i4 i5 i6 i7
 generalize partsL x (shA x) (shB x)=pts at *
 have hN5:N≤w5.heap.size:=by have:=HR5.out.lt;omega
 have HD0:Hid (AsB w5 w5.heap.size none 0 0 [] (w5.alloc (.cells #[.slice none 0 0,.int .i64 0] 28))):=⟨(Below.refl _ _).alloc (Nat.le_refl _) _,Bl.new _ _ _,⟨by simp [flat],.inl ⟨rfl,rfl⟩⟩,rfl⟩
 obtain⟨gd,hgd⟩:∃ gd,w5.heap.size=gd:=⟨_,rfl⟩
 go_upto_region 14 with (fail)
 rw [hgd] at HD0
 try rw [hgd]
 generalize w5.alloc (.cells #[.slice none 0 0,.int .i64 0] 28)=W6 at *
 go_wp2_with fail
 go_loopw [54] (fun v wx=>∃ (i:Nat) (R:Option Addr) (m cc:Nat) (ls:List Dl),v=.int .i64 (i:Int)∧i≤pn∧m≤i∧Hid (AsB w5 gd R m cc ls wx)∧Hid (ls=linTo (applic l x) (pts.take i))∧Hid (∀ q∈pts.take i,(leastOf (applic l x) q).1=0)∧(0≤sumA ls∧sumA ls≤1000000000000*(i:Int))) (fun v _=>pn - (intOf v).toNat)
 case atStart=>exact⟨0,none,0,0,[],rfl,Nat.zero_le _,Nat.le_refl _,HD0.out,(by show _=_;simp [linTo]),(fun q hq=>by simp at hq),by rw [sumA_nil];omega⟩
 case round =>
  clear HD0
  obtain⟨i,R,m,cc,ls,rfl,hi,hmi,HD,HLS,HOK,hs0,hs1⟩:=hrel
  have hptl:pts.length=pn:=by rw [← HPM.out,List.length_map];exact hpl
  have hNg:N+1<gd:=by have:=HR5.out.lt;omega
  by_cases hlt:i<pn
  case neg =>
   obtain rfl:i=pn:=by omega
   have di:decide ((i:Int)<(i:Int))=false:=by simp
   have HA5:=HE5.out (by first | trivial | rfl) (by first | trivial | rfl) (by first | trivial | rfl) (by have:=HOK.out;rw [List.take_of_length_le (by omega)] at this;exact this)
   have hle:linTo (applic l x) pts=ls:=by have:=HLS.out;rw [List.take_of_length_le (by omega)] at this;exact this.symm
   rw [hle] at HA5
   have d1:wr.cell? ⟨gd,1,none⟩=some (.int .i64 (sumA ls)):=HD.out.d.cell 1
   have d0:wr.cell? ⟨gd,0,none⟩=some (.slice R m cc):=HD.out.d.cell 0
   have HR6:Hid (Bl wr (N+1) 28 #[.slice none 0 0,.int .i64 0]):=(HD.out.below.block (N+1) hNg).trans HR5.out
   have HB6:Hid (RowKit.Below N w wr):=HB5.out.trans (HD.out.below.mono (by omega))
   by_cases hov:1000000000000<sumA ls
   case pos =>
    have dv:decide (sumA ls > 1000000000000)=true:=decide_eq_true hov
    have dv2:decide (1000000000000<sumA ls)=true:=decide_eq_true hov
    have HE:Hid (asOut l x=(3,[])):=by rw [HA5,if_pos hov];exact Lib.hid rfl
    clear HA5 d0
    have HZ:=set2_bl HR6.out (.slice none 0 0) (.int .i64 0)
    have HBZ:=Lib.hid ((HB6.out.setCell (p:=⟨N+1,0,none⟩) (show N≤N+1 by omega) (.slice none 0 0)).setCell (p:=⟨N+1,1,none⟩) (show N≤N+1 by omega) (.int .i64 0))
    have t0:wr.cell? ⟨N+1,0,none⟩=some (.slice none 0 0):=HR6.out.cell 0
    have t1:wr.cell? ⟨N+1,1,none⟩=some (.int .i64 0):=HR6.out.cell 1
    have t2:wr.frozen? ⟨N+1,0,none⟩=false:=HR6.out.free 0
    have t3:wr.frozen? ⟨N+1,1,none⟩=false:=HR6.out.free 1
    go_wp2
    generalize (wr.setCell ⟨N+1,0,none⟩ (.slice none 0 0)).setCell ⟨N+1,1,none⟩ (.int .i64 0)=WZ at *
    have y0:WZ.cell? ⟨N+1,0,none⟩=some (.slice none 0 0):=HZ.cell 0
    have y1:WZ.cell? ⟨N+1,1,none⟩=some (.int .i64 0):=HZ.cell 1
    refine bodyPost_ret (v:=.tuple #[.agg #[.slice none 0 0,.int .i64 0],.int .i64 3]) (by simp [results,Tryz.results6,go_sem,y0,y1]) rfl (HERR.out _ _ HBZ.out HE.out)
   case neg =>
    have dv:decide (sumA ls > 1000000000000)=false:=decide_eq_false hov
    have dv2:decide (1000000000000<sumA ls)=false:=decide_eq_false hov
    have HE:Hid (asOut l x=(0,ls)):=by rw [HA5,if_neg hov];exact Lib.hid rfl
    have HZ:=set2_bl HR6.out (.slice R m cc) (.int .i64 (sumA ls))
    have HBZ:=Lib.hid ((HB6.out.setCell (p:=⟨N+1,0,none⟩) (show N≤N+1 by omega) (.slice R m cc)).setCell (p:=⟨N+1,1,none⟩) (show N≤N+1 by omega) (.int .i64 (sumA ls)))
    have t0:wr.cell? ⟨N+1,0,none⟩=some (.slice none 0 0):=HR6.out.cell 0
    have t1:wr.cell? ⟨N+1,1,none⟩=some (.int .i64 0):=HR6.out.cell 1
    have t2:wr.frozen? ⟨N+1,0,none⟩=false:=HR6.out.free 0
    have t3:wr.frozen? ⟨N+1,1,none⟩=false:=HR6.out.free 1
    have hRO:Only (N+1) wr ((wr.setCell ⟨N+1,0,none⟩ (.slice R m cc)).setCell ⟨N+1,1,none⟩ (.int .i64 (sumA ls))):=((Only.refl _ _).setCell 0 _).setCell 1 _
    have hOW:((wr.setCell ⟨N+1,0,none⟩ (.slice R m cc)).setCell ⟨N+1,1,none⟩ (.int .i64 (sumA ls))).ownsRow gd 38 5 (.slice R m cc) m (flat encDl ls):=own_of_block HD.out.o fun g hg=>hRO.block g (fun e=>by have:=own_base HD.out.o g hg;omega)
    have HRES:Hid (AsRes w (asOut l x) (.returned (.tuple #[.agg #[.slice R m cc,.int .i64 (sumA ls)],.int .i64 0])) ((wr.setCell ⟨N+1,0,none⟩ (.slice R m cc)).setCell ⟨N+1,1,none⟩ (.int .i64 (sumA ls)))):=by
     rw [HE.out]
     have hlm:=HD.out.len
     subst hlm
     exact⟨R,cc,rfl,own_mono hOW (by omega),by rw [hN];exact HBZ.out⟩
    clear HA5 hRO hOW
    go_wp2
    generalize (wr.setCell ⟨N+1,0,none⟩ (.slice R m cc)).setCell ⟨N+1,1,none⟩ (.int .i64 (sumA ls))=WZ at *
    have y0:WZ.cell? ⟨N+1,0,none⟩=some (.slice R m cc):=HZ.cell 0
    have y1:WZ.cell? ⟨N+1,1,none⟩=some (.int .i64 (sumA ls)):=HZ.cell 1
    refine bodyPost_ret (v:=.tuple #[.agg #[.slice R m cc,.int .i64 (sumA ls)],.int .i64 0]) (by simp [results,Tryz.results6,go_sem,y0,y1]) rfl HRES.out
  case pos =>
  have di:decide ((i:Int)<(pn:Int))=true:=by simp;omega
  obtain⟨b1,o1,hA,hb1,ha⟩:=HPR5.out.at_ hlt
  subst hA
  obtain⟨y,hy⟩:∃ y,ps[i]! = y:=⟨_,rfl⟩
  rw [hy] at ha
  have hmem:y∈ps:=by rw [← hy,getElem!_pos ps i (by omega)];exact List.getElem_mem _
  have HYK:=Lib.hid (HPK5.out y hmem)
  have HPI:Hid (pts[i]! = y.p):=by
   show _=_
   rw [← HPM.out,getElem!_pos (ps.map (·.p)) i (by rw [List.length_map];omega),List.getElem_map,← hy,getElem!_pos ps i (by omega)]
  have lb1:b1<gd:=by omega
  have a0:wr.cell? ⟨b1,o1+i*3,none⟩=some (.int .i64 y.p.qty):=(HD.out.below.cell (p:=⟨b1,o1+i*3,none⟩) lb1).trans (ha 0 (by omega))
  have a1:wr.cell? ⟨b1,o1+i*3+1,none⟩=some (.int .i64 y.p.val):=(HD.out.below.cell (p:=⟨b1,o1+i*3+1,none⟩) lb1).trans (ha 1 (by omega))
  have a2:wr.cell? ⟨b1,o1+i*3+2,none⟩=some (.slice y.A y.n y.c):=(HD.out.below.cell (p:=⟨b1,o1+i*3+2,none⟩) lb1).trans (ha 2 (by omega))
  have hii:(i:Int)<(pn:Int):=by omega
  have hiz:(0:Int)≤(i:Int):=by omega
  have ui:IntKind.i64.wrap ((i:Int)+1)=((i+1:Nat):Int):=IntWalk.i64_in _ (by omega)
  have HTK:Hid (pts.take (i+1)=pts.take i ++ [y.p]):=by show _=_;rw [take_snoc20 pts (by omega),HPI.out]
  have HDP:=Lib.hid (HD.out.alloc (.cells #[.int .i64 y.p.qty,.int .i64 y.p.val,.slice y.A y.n y.c] 74))
  have HBP:Hid (Bl (wr.alloc (.cells #[.int .i64 y.p.qty,.int .i64 y.p.val,.slice y.A y.n y.c] 74)) wr.heap.size 74 #[.int .i64 y.p.qty,.int .i64 y.p.val,.slice y.A y.n y.c]):=Bl.new _ _ _
  have HLD:Hid (∀ wx,RowKit.Below gd w5 wx→Calls Tryz.prog 26 #[.slice AR ys.length ac,.agg #[.int .i64 y.p.qty,.int .i64 y.p.val,.slice y.A y.n y.c]] wx (LeRes wx (leastOf (applic l x) y.p))):=fun wx hb=>by
   have hb':RowKit.Below w5.heap.size w5 wx:=by rw [hgd];exact hb
   have:=leastDuty_any AR ys.length ac ys y.p.qty y.p.val y.A y.n y.c y.p.kinds wx (HYR5.out.below hb') (HYK.out.1.below hb') (by omega) HYK.out.2
   rw [HAL.out] at this
   exact this
  clear ha hy hmem hb1
  go_upto_region 17 with (fail)
  clear a0 a1 a2 HD
  generalize wr.alloc (.cells #[.int .i64 y.p.qty,.int .i64 y.p.val,.slice y.A y.n y.c] 74)=W7 at *
  generalize wr.heap.size=gp at *
  have p0:W7.cell? ⟨gp,0,none⟩=some (.int .i64 y.p.qty):=HBP.out.cell 0
  have p1:W7.cell? ⟨gp,1,none⟩=some (.int .i64 y.p.val):=HBP.out.cell 1
  have p2:W7.cell? ⟨gp,2,none⟩=some (.slice y.A y.n y.c):=HBP.out.cell 2
  obtain⟨o,ho⟩:∃ o,leastOf (applic l x) y.p=o:=⟨_,rfl⟩
  have HO:=Lib.hid ho
  have HOB:=least_ok (applic l x) y.p
  rw [ho] at HLD HOB
  clear ho
  go_wp2_with fail
  refine (HLD.out _ HDP.out.below).mono ?_
  unfold LeRes dlA
  rintro e w8 ⟨rfl,hb8⟩
  have HD8:=Lib.hid (HDP.out.under hb8)
  clear hb8 p0 p1 p2 HDP HBP HLD
  obtain⟨er,od⟩:=o
  have HDL:Hid (AsB w5 gd R m cc ls (w8.alloc (.cells #[.int .i64 (bestL (er,od)).kind,.int .i64 (bestL (er,od)).meas,.int .i64 (bestL (er,od)).qty,.int .i64 (bestL (er,od)).val,.int .i64 (bestL (er,od)).amt] 38))):=HD8.out.alloc _
  have HBL:Hid (Bl (w8.alloc (.cells #[.int .i64 (bestL (er,od)).kind,.int .i64 (bestL (er,od)).meas,.int .i64 (bestL (er,od)).qty,.int .i64 (bestL (er,od)).val,.int .i64 (bestL (er,od)).amt] 38)) w8.heap.size 38 #[.int .i64 (bestL (er,od)).kind,.int .i64 (bestL (er,od)).meas,.int .i64 (bestL (er,od)).qty,.int .i64 (bestL (er,od)).val,.int .i64 (bestL (er,od)).amt]):=Bl.new _ _ _
  have HROW:Hid (∀ g,(Value.slice R m cc).ownBlock=some g→g≠w8.heap.size):=fun g hg e=>by have:=own_lt HD8.out.o g hg;omega
  have HGG:Hid (w8.heap.size≠gd):=by have:=HD8.out.d.lt;exact Lib.hid (by omega)
  go_upto_region 18 with (fail)
  try dsimp only
  clear HD8
  generalize w8.alloc (.cells #[.int .i64 (bestL (er,od)).kind,.int .i64 (bestL (er,od)).meas,.int .i64 (bestL (er,od)).qty,.int .i64 (bestL (er,od)).val,.int .i64 (bestL (er,od)).amt] 38)=W9 at *
  generalize w8.heap.size=gl at *
  by_cases he:er=0
  case neg =>
   have y1':(er != 0)=true:=by simpa using he
   have HE:Hid (asOut l x=(er,[])):=by
    refine HE4.out (by first | trivial | rfl) (by first | trivial | rfl) (by first | trivial | rfl) ?_ he
    rw [linesOf_bad (i:=i) (by omega) HOK.out (by rw [HPI.out,HO.out];exact he),HPI.out,HO.out]
   have HR9:Hid (Bl W9 (N+1) 28 #[.slice none 0 0,.int .i64 0]):=(HDL.out.below.block (N+1) hNg).trans HR5.out
   have HB9:Hid (RowKit.Below N w W9):=HB5.out.trans (HDL.out.below.mono (by omega))
   have HZ:=set2_bl HR9.out (.slice none 0 0) (.int .i64 0)
   have HBZ:=Lib.hid ((HB9.out.setCell (p:=⟨N+1,0,none⟩) (show N≤N+1 by omega) (.slice none 0 0)).setCell (p:=⟨N+1,1,none⟩) (show N≤N+1 by omega) (.int .i64 0))
   have t0:W9.cell? ⟨N+1,0,none⟩=some (.slice none 0 0):=HR9.out.cell 0
   have t1:W9.cell? ⟨N+1,1,none⟩=some (.int .i64 0):=HR9.out.cell 1
   have t2:W9.frozen? ⟨N+1,0,none⟩=false:=HR9.out.free 0
   have t3:W9.frozen? ⟨N+1,1,none⟩=false:=HR9.out.free 1
   go_wp2
   generalize (W9.setCell ⟨N+1,0,none⟩ (.slice none 0 0)).setCell ⟨N+1,1,none⟩ (.int .i64 0)=WZ at *
   have y0:WZ.cell? ⟨N+1,0,none⟩=some (.slice none 0 0):=HZ.cell 0
   have y1:WZ.cell? ⟨N+1,1,none⟩=some (.int .i64 0):=HZ.cell 1
   refine bodyPost_ret (v:=.tuple #[.agg #[.slice none 0 0,.int .i64 0],.int .i64 er]) (by simp [results,Tryz.results6,go_sem,y0,y1]) rfl (HERR.out _ _ HBZ.out HE.out)
  case pos =>
  subst he
  have y1':((0:Int) != 0)=false:=by decide
  have HOK2:Hid (∀ q∈pts.take (i+1),(leastOf (applic l x) q).1=0):=fun q hq=>by
   rw [HTK.out] at hq
   rcases List.mem_append.1 hq with hq | hq
   ·exact HOK.out q hq
   ·rw [List.mem_singleton] at hq
    subst hq
    rw [HO.out]
  cases od with
  | none =>
   have HLS2:Hid (ls=linTo (applic l x) (pts.take (i+1))):=by
    show _=_
    rw [HTK.out,linTo_snoc,HO.out,← HLS.out]
    simp
   have ef:fndOf ((0:Int),(none:Option Dl))=false:=rfl
   go_wp2_with fail
   go_roundw
   case rel=>exact⟨i+1,R,m,cc,ls,by go_num,by omega,by omega,HDL.out,HLS2.out,HOK2.out,by omega⟩
   case measure=>simp [intOf];omega
  | some z =>
   obtain⟨⟨z0,z1⟩,_⟩:=HOB z rfl
   have ez:bestL ((0:Int),some z)=z:=rfl
   have ef:fndOf ((0:Int),some z)=true:=rfl
   rw [ez] at HBL
   have HLS2:Hid (ls ++ [z] = linTo (applic l x) (pts.take (i+1))):=by
    show _=_
    rw [HTK.out,linTo_snoc,HO.out,← HLS.out]
    simp
   have l0:W9.cell? ⟨gl,0,none⟩=some (.int .i64 z.kind):=HBL.out.cell 0
   have l1:W9.cell? ⟨gl,1,none⟩=some (.int .i64 z.meas):=HBL.out.cell 1
   have l2:W9.cell? ⟨gl,2,none⟩=some (.int .i64 z.qty):=HBL.out.cell 2
   have l3:W9.cell? ⟨gl,3,none⟩=some (.int .i64 z.val):=HBL.out.cell 3
   have l4:W9.cell? ⟨gl,4,none⟩=some (.int .i64 z.amt):=HBL.out.cell 4
   have d0:W9.cell? ⟨gd,0,none⟩=some (.slice R m cc):=HDL.out.d.cell 0
   have HDA:=Lib.hid (HDL.out.alloc (.cells #[.int .i64 z.kind,.int .i64 z.meas,.int .i64 z.qty,.int .i64 z.val,.int .i64 z.amt] 38))
   have HRD:Hid (Rd (W9.alloc (.cells #[.int .i64 z.kind,.int .i64 z.meas,.int .i64 z.qty,.int .i64 z.val,.int .i64 z.amt] 38)) 5 (some ⟨W9.heap.size,0,none⟩) 1 (encDl z)):=rd_bl (xs:=encDl z) (Bl.new _ _ _) rfl
   have HON:=Lib.hid (encDl_one z)
   have HM1:Hid (m+1≤maxLen∧(m+1)*40≤140737488355328):=⟨by unfold maxLen;omega,by omega⟩
   have hgl:gl<W9.heap.size:=HBL.out.lt
   have HGL:Hid (Bl (W9.alloc (.cells #[.int .i64 z.kind,.int .i64 z.meas,.int .i64 z.qty,.int .i64 z.val,.int .i64 z.amt] 38)) gl 38 #[.int .i64 z.kind,.int .i64 z.meas,.int .i64 z.qty,.int .i64 z.val,.int .i64 z.amt]):=Bl.alloc HBL.out _
   have HNO:=Lib.hid HROW.out
   have us:IntKind.i64.wrap (sumA ls+z.amt)=sumA ls+z.amt:=IntWalk.i64_in _ (by omega)
   go_wp2_with (at_builtin;refine wpList_append_rd _ rfl (.tmp 71) (.tmp 73) 26 rfl gd 38 _ 5 40 Tryz.underlying26 infoDl rfl (by decide) (.slice R m cc) m _ rfl HDA.out.o (some ⟨W9.heap.size,0,none⟩) 1 _ (encDl z) rfl HRD.out HON.out HM1.out.1 HM1.out.2 HDA.out.size ?_;intro v10 w10 ho10 hg10 hv10;obtain⟨R10,d10,rfl⟩:=own_slice ho10;have hap:=HDL.out.app hg10 ho10;have c10:w10.cell? ⟨gd,0,none⟩=some (.slice R m cc):=hap.1.1.cell 0;have c11:w10.frozen? ⟨gd,0,none⟩=false:=hap.1.1.free 0;have c12:(w10.setCell ⟨gd,0,none⟩ (.slice R10 (m+1) d10)).cell? ⟨gd,1,none⟩=some (.int .i64 (sumA ls)):=hap.1.2.cell 1;have c13:(w10.setCell ⟨gd,0,none⟩ (.slice R10 (m+1) d10)).frozen? ⟨gd,1,none⟩=false:=hap.1.2.free 1;have hl10:Bl w10 gl 38 #[.int .i64 z.kind,.int .i64 z.meas,.int .i64 z.qty,.int .i64 z.val,.int .i64 z.amt]:=(hg10.block gl HGL.out.lt (fun e=>HNO.out gl e.symm rfl)).trans HGL.out;have c14:(w10.setCell ⟨gd,0,none⟩ (.slice R10 (m+1) d10)).cell? ⟨gl,4,none⟩=some (.int .i64 z.amt):=(hl10.far (p:=⟨gd,0,none⟩) (show gl≠gd from HGG.out) _).cell 4)
   have HD11:=Lib.hid hap.2
   have hsz:sumA (ls ++ [z])=sumA ls+z.amt:=by rw [sumA_append,sumA_cons,sumA_nil];omega
   clear hap
   go_roundw
   case rel=>exact⟨i+1,R10,m+1,d10,ls ++ [z],by go_num,by omega,by omega,HD11.out,HLS2.out,HOK2.out,by rw [hsz];omega⟩
   case measure=>simp [intOf];omega
end Go.Proofs.YtbokkeooahodaaaGreatDoor

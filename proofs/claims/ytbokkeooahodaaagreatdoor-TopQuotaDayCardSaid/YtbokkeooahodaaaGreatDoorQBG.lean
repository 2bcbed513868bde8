/-
  A part of the proof of TopQuotaDayCardSaid: lemmas and contracts of functions that the law calls. No statement of the seat is proved here. Conditions: as each says.
-/
import Derived.Test.YtbokkeooahodaaaGreatDoorQAN
import Derived.Deep.QuietTactic
import Derived.BigQuiet
import Derived.Test.YtbokkeooahodaaaGreatDoorQAY
import Derived.Test.YtbokkeooahodaaaGreatDoorQBF
import Derived.BigRegion
namespace Go.Proofs.YtbokkeooahodaaaGreatDoor
open Go.RowKit
set_option linter.unusedVariables false
theorem dl_get {w:World} {A:Option Addr} {n:Nat} {ls:List Dl} (h:Recs encDl 5 w A n ls) {i:Nat} (hi:i<n) :
  ∃ b off,A=some ⟨b,off,none⟩∧b<w.heap.size∧w.cell? ⟨b,off+i*5,none⟩=some (.int .i64 ls[i]!.kind)∧w.cell? ⟨b,off+i*5+1,none⟩=some (.int .i64 ls[i]!.meas)∧w.cell? ⟨b,off+i*5+2,none⟩=some (.int .i64 ls[i]!.qty)∧w.cell? ⟨b,off+i*5+3,none⟩=some (.int .i64 ls[i]!.val)∧w.cell? ⟨b,off+i*5+4,none⟩=some (.int .i64 ls[i]!.amt):=by
 obtain⟨b,off,e,hlt,hc⟩:=h.at_ hi
 exact⟨b,off,e,hlt,hc 0 (by omega),hc 1 (by omega),hc 2 (by omega),hc 3 (by omega),hc 4 (by omega)⟩
set_option maxRecDepth 100000 in
set_option maxHeartbeats 4000000 in
theorem rlines_any (A B:Option Addr) (n c d:Nat) (ls:List Dl) (w:World) (hA:Recs encDl 5 w A n ls) (hB:Recs encDl 5 w B n ls) (hn:n≤1000000) :
  Calls Tryz.prog 44 #[.slice A n c,.slice B n d] w fun e w'=>e=.returned (.bool true)∧RowKit.Below w.heap.size w w':=by
 go_enter Tryz.func44,Tryz.ntmps44
 go_wp2
 go_loopw [5] (fun i wr=>∃ k:Nat,k≤n∧i=.int .i64 k∧RowKit.Below w.heap.size w wr) (fun i _=>n - (intOf i).toNat)
 case atStart=>exact⟨0,Nat.zero_le _,rfl,Below.refl _ _⟩
 case round =>
  obtain⟨k,hk,rfl,hbel⟩:=hrel
  by_cases hlt:k<n
  case neg =>
   have dk:decide ((k:Int)<(n:Int))=false:=by simp;omega
   go_wp2
   go_ret
   exact⟨rfl,hbel⟩
  case pos =>
   have dk:decide ((k:Int)<(n:Int))=true:=by simp;omega
   obtain⟨b1,o1,rfl,_,a0,a1,a2,a3,a4⟩:=dl_get (hA.below hbel) hlt
   obtain⟨b2,o2,rfl,_,c0,c1,c2,c3,c4⟩:=dl_get (hB.below hbel) hlt
   have i1:(0:Int)≤(k:Int):=by omega
   have i2:(k:Int)<(n:Int):=by omega
   have uk:IntKind.i64.wrap ((k:Int)+1)=((k+1:Nat):Int):=IntWalk.i64_in _ (by omega)
   generalize ls[k]!.kind=x0 at *
   generalize ls[k]!.meas=x1 at *
   generalize ls[k]!.qty=x2 at *
   generalize ls[k]!.val=x3 at *
   generalize ls[k]!.amt=x4 at *
   go_wp2
   go_quiet (fail)
   go_wp2
   go_roundw
   case rel=>exact⟨k+1,by omega,by go_num,below_drewN hbel _⟩
   case measure=>simp [intOf];omega
set_option maxRecDepth 100000 in
set_option maxHeartbeats 4000000 in
theorem rdebt_any (A B:Option Addr) (n c d:Nat) (t:Int) (ls:List Dl) (w:World) (hA:Recs encDl 5 w A n ls) (hB:Recs encDl 5 w B n ls) (hn:n≤1000000) :
  Calls Tryz.prog 14 #[.agg #[.slice A n c,.int .i64 t],.agg #[.slice B n d,.int .i64 t]] w fun e w'=>e=.returned (.bool true)∧RowKit.Below w.heap.size w w':=by
 have hb0:RowKit.Below w.heap.size w ((w.alloc (.cells #[.slice A n c,.int .i64 t] 28)).alloc (.cells #[.slice B n d,.int .i64 t] 28)):=((Below.refl _ _).alloc (Nat.le_refl _) _).alloc (by simp) _
 have HL:=Lib.hid (rlines_any A B n c d ls _ (hA.below hb0) (hB.below hb0) hn)
 have HB:=Lib.hid hb0
 clear hb0
 have dt:(t == t)=true:=by simp
 go_enter Tryz.func14,Tryz.ntmps14
 go_wp2_with fail
 refine HL.out.mono ?_
 rintro e w1 ⟨rfl,hb1⟩
 have HB1:=Lib.hid (HB.out.trans (hb1.mono HB.out.size))
 clear hb1
 go_wp2
 go_ret
 exact⟨rfl,HB1.out⟩
set_option maxRecDepth 100000 in
set_option maxHeartbeats 32000000 in
theorem topQuotaDay_any (A1:Option Addr) (n1 c1:Nat) (xs1:List Int) (A2:Option Addr) (n2 c2:Nat) (ls:List LsA) (av:Int) (few:Bool) (w:World) (h1:Ints w A1 n1 xs1) (hnc1:n1≤c1) (hcm1:c1≤9223372036854775807) (h2:LsR w A2 n2 ls) (hn2:n2≤9223372036854775807) (hM:MaxG w) (hG:LenG w) :
  Calls Tryz.prog 4 #[.slice A1 n1 c1,.slice A2 n2 c2,.int .i64 av,.bool few] w (BRes w true):=by
 have HI:=Lib.hid h2
 have HM:=Lib.hid hM
 have HG:=Lib.hid hG
 have HMS:=Lib.hid (measures20_any A1 n1 c1 xs1 w h1 hnc1 hcm1)
 clear h1 hnc1 hcm1 h2 hM hG
 go_enter Tryz.func4,Tryz.ntmps4
 go_wp2_with fail
 refine HMS.out.mono ?_
 rintro e w1 ⟨R,mc,ms,rfl,hms,hml,hb⟩
 have HMR:=Lib.hid hms
 have HB1:=Lib.hid hb
 clear hms hb HMS
 go_wp2_with fail
 refine (within_any av 1000000000001 w1 (by decide) (by decide)).mono ?_
 rintro e w2 ⟨rfl,rfl⟩
 obtain⟨t0,ht0⟩:∃ t0,av % 1000000000001=t0:=⟨_,rfl⟩
 have hb0:0≤t0∧t0≤1000000000000:=by omega
 rw [ht0]
 clear ht0
 go_upto_if 28 with (fail)
 go_cut [2] (fun v wx=>∃ t:Int,v=.int .i64 t∧(0≤t∧t≤1000000000000)∧w1=wx)
 case first =>
  cases few
  case false =>
   go_wp2_with fail
   go_meet
   exact⟨t0,rfl,hb0,rfl⟩
  case true =>
   obtain⟨r,hr⟩:∃ r,t0.tmod 2000=r:=⟨_,rfl⟩
   have hr2:0≤r∧r≤1999:=by rw [Int.tmod_eq_emod_of_nonneg hb0.1] at hr;omega
   have ur:IntKind.i64.wrap r=r:=IntWalk.i64_in _ (by omega)
   go_wp2_with fail
   go_meet
   exact⟨r,rfl,by omega,rfl⟩
 case rest =>
 obtain⟨t,rfl,htb,rfl⟩:=hcut
 clear hb0
 have HQ0:Hid (QdW w1 none 0 0 [] none 0 0 [] w1):=⟨Below.refl _ _,⟨by simp [flat],.inl ⟨rfl,rfl⟩⟩,⟨by simp [flat],.inl ⟨rfl,rfl⟩⟩,rfl,rfl⟩
 go_wp2_with fail
 go_loopw [10,11,12] (fun lv xv v wx=>∃ (i:Nat) (X:Option Addr) (cx:Nat) (ys:List It) (L:Option Addr) (cl:Nat) (rq:List (Int × Int)),lv=.slice L i cl∧xv=.slice X i cx∧v=.int .i64 (i:Int)∧i≤n2∧i≤8∧Hid (QdW w1 X i cx ys L i cl rq wx)∧Hid (QOk ys rq i)) (fun _ _ v _=>n2 - (intOf v).toNat)
 case atStart=>exact⟨0,none,0,[],none,0,[],rfl,rfl,rfl,Nat.zero_le _,by omega,HQ0.out,fun j hj=>absurd hj (by omega)⟩
 case round =>
  clear HQ0
  obtain⟨i,X,cx,ys,L,cl,rq,rfl,rfl,rfl,hin,hi8,HQ,HOK⟩:=hrel
  go_upto_region 8 with (fail)
  go_cut [38] from 31 to 57 (fun v wx=>v=.bool (decide ((i:Int)<n2) && decide ((i:Int)<8))∧wr=wx)
  case first =>
   by_cases e1:i<n2
   case neg =>
    have h1:decide ((i:Int)<(n2:Int))=false:=by simp;omega
    go_wp2_with fail
    go_meet
    exact⟨by rw [h1];rfl,rfl⟩
   case pos =>
    have h1:decide ((i:Int)<(n2:Int))=true:=by simp;omega
    by_cases e2:i<8
    case neg =>
     have h2:decide ((i:Int)<8)=false:=by simp;omega
     go_wp2_with fail
     go_meet
     exact⟨by rw [h1,h2];rfl,rfl⟩
    case pos =>
     have h2:decide ((i:Int)<8)=true:=by simp;omega
     go_wp2_with fail
     go_meet
     exact⟨by rw [h1,h2];rfl,rfl⟩
  case rest =>
  obtain⟨rfl,rfl⟩:=hcut
  obtain⟨cb,hcb⟩:∃ cb,(decide ((i:Int)<n2) && decide ((i:Int)<8))=cb:=⟨_,rfl⟩
  rw [hcb]
  have HWr:=Lib.hid (HB1.out.trans (HQ.out.below.mono HB1.out.size))
  cases cb
  case false =>
   clear hcb
   have HVA:=Lib.hid (HOK.out.all HQ.out.ll (by omega))
   have hql:=HQ.out.ll
   have HDY:=Lib.hid (quota_day htb.1 htb.2 (by omega) HVA.out.1 HVA.out.2)
   have HAL:=Lib.hid (alloc_any t L i cl rq wr HQ.out.lr (by omega))
   unfold AllocRes at HAL
   rw [HDY.out.1,HDY.out.2.1] at HAL
   obtain⟨lf,hlf⟩:∃ lf,allocLeft t rq=lf:=⟨_,rfl⟩
   rw [hlf] at HAL
   obtain⟨gs,hgs⟩:∃ gs,grantsOf t rq=gs:=⟨_,rfl⟩
   rw [hgs] at HAL
   have hgl:gs.length=i:=by rw [← hgs,grantsOf_len];exact hql
   have HGB:Hid (∀ j,j<i→∃ gq,gs[j]! = ((j:Int)+1,gq)∧0≤gq∧gq≤ys[j]!.qty∧gq≤1000000000∧rq[j]! = ((j:Int)+1,ys[j]!.qty)):=fun j hj=>by
    obtain⟨a,b⟩:=HOK.out j hj
    obtain⟨c,d⟩:=HDY.out.2.2.1 j (by omega)
    refine⟨grantV t rq j,by rw [← hgs,grants_get (by omega),b],c,by rw [b] at d;exact d,?_,b⟩
    have:=a.qty.2
    rw [b] at d
    have d':grantV t rq j≤ys[j]!.qty:=d
    omega
   have HSU:Hid ((qsOf gs).sum+lf=t∧(lf=0∨lf=t - (qsOf rq).sum)∧0≤lf∧lf≤t):=by
    obtain⟨_,_,_,a,b,c,d⟩:=HDY.out
    rw [hgs,hlf] at a
    rw [hlf] at b c d
    exact⟨a,b,c,d⟩
   have HBG:Hid (∀ j,j≤i→0≤(qsOf (gs.take j)).sum∧(qsOf (gs.take j)).sum≤1000000000*(j:Int)):=fun j hj=>qs_bound (fun q hq=>by
    obtain⟨gq,e,a,b,c,_⟩:=HGB.out q (by omega)
    rw [e]
    exact⟨a,c⟩) j (by omega)
   have HBR:Hid (∀ j,j≤i→0≤(qsOf (rq.take j)).sum∧(qsOf (rq.take j)).sum≤1000000000*(j:Int)):=fun j hj=>qs_bound (fun q hq=>by
    obtain⟨a,b⟩:=HOK.out q (by omega)
    rw [b]
    exact a.qty) j (by omega)
   have HYQ:Hid (∀ yj:List It,QOk yj rq i→∀ j,j<i→yj[j]!.qty=ys[j]!.qty):=fun yj h j hj=>by
    have h1:=(h j hj).2
    have h2:=(HOK.out j hj).2
    rw [h2] at h1
    injection h1 with _ h1
    exact h1.symm
   have HGLN:=Lib.hid hgl
   have HRLN:=Lib.hid hql
   clear HVA HDY hlf hgs hgl hql
   as_aux_lemma =>
    go_wp2_with fail
    refine HAL.out.mono ?_
    rintro e w3 ⟨GA,gn,gc,rfl,hgn,hgo,hb⟩
    have egn:i=gn:=by have:=HGLN.out;omega
    subst egn
    have HQ3:=Lib.hid (HQ.out.under hb)
    have HGO:Hid (w3.ownsRow w1.heap.size 49 2 (.slice GA i gc) i (flat enc2 gs)):=own_mono hgo HQ.out.below.size
    have q0:((0:Int) != 0)=false:=by decide
    have qn:((i:Int) != (i:Int))=false:=by simp
    clear hgn hgo hb HQ HWr HAL
    go_wp2_with fail
    go_loopw [17,18,19] (fun s a v wx=>∃ (j:Nat) (yj:List It) (sg sr:Int),s=.int .i64 sg∧a=.int .i64 sr∧v=.int .i64 (j:Int)∧j≤i∧Hid (QdW w1 X i cx yj L i cl rq wx)∧Hid (wx.ownsRow w1.heap.size 49 2 (.slice GA i gc) i (flat enc2 gs))∧Hid (QOk yj rq i)∧Hid (sg=lf+(qsOf (gs.take j)).sum)∧Hid (sr=(qsOf (rq.take j)).sum)) (fun _ _ v _=>i - (intOf v).toNat)
    case atStart=>exact⟨0,ys,lf,0,rfl,rfl,rfl,Nat.zero_le _,HQ3.out,HGO.out,HOK.out,by show _=_;simp [qsOf],by show _=_;simp [qsOf]⟩
    case round =>
     clear HQ3 HGO HOK q0 qn
     obtain⟨j,yj,sg,sr,rfl,rfl,rfl,hj,HQj,HGj,HOj,HSG,HSR⟩:=hrel
     by_cases hlt:j<i
     case neg =>
      have dj:decide ((j:Int)<(i:Int))=false:=by simp;omega
      have hsg:sg=t:=by have:=HSG.out;rw [List.take_of_length_le (by have:=HGLN.out;omega)] at this;have:=HSU.out.1;omega
      have hsr:sr=(qsOf rq).sum:=by have:=HSR.out;rw [List.take_of_length_le (by have:=HRLN.out;omega)] at this;exact this
      have hbr:=HBR.out i (Nat.le_refl _)
      rw [List.take_of_length_le (by have:=HRLN.out;omega),← hsr] at hbr
      have q1:(sg == t)=true:=by simpa using hsg
      have HWz:=Lib.hid (HB1.out.trans (HQj.out.below.mono HB1.out.size))
      have hor:=HSU.out.2.1
      rw [← hsr] at hor
      have us:IntKind.i64.wrap (t - sr)=t - sr:=IntWalk.i64_in _ (by omega)
      have HFX:Hid (Calls Tryz.prog 10 #[] wr fun e w'=>e=.returned (.bool true)∧RowKit.Below wr.heap.size wr w'):=fixed20 wr (HM.out.below HWz.out) (HG.out.below HWz.out)
      clear hsg hsr hbr HSG HSR
      as_aux_lemma =>
       by_cases hl0:lf=0
       case pos =>
        have ql:(lf == 0)=true:=by simpa using hl0
        clear hor
        go_wp2_with fail
        refine HFX.out.mono ?_
        rintro e wz ⟨rfl,hbz⟩
        have HBZ:=Lib.hid (HWz.out.trans (hbz.mono HWz.out.size))
        clear hbz
        go_wp2_with fail
        go_ret
        exact⟨rfl,HBZ.out⟩
       case neg =>
        have ql:(lf == 0)=false:=by simpa using hl0
        have q3:(lf == t - sr)=true:=by rcases hor with h | h;exact absurd h hl0;simpa using h
        clear hor
        go_wp2_with fail
        refine HFX.out.mono ?_
        rintro e wz ⟨rfl,hbz⟩
        have HBZ:=Lib.hid (HWz.out.trans (hbz.mono HWz.out.size))
        clear hbz
        go_wp2_with fail
        go_ret
        exact⟨rfl,HBZ.out⟩
     case pos =>
     have dj:decide ((j:Int)<(i:Int))=true:=by simp;omega
     have uj:IntKind.i64.wrap ((j:Int)+1)=(j:Int)+1:=IntWalk.i64_in _ (by omega)
     obtain⟨gq,hgp,hg0,hg1,hg2,hrp⟩:=HGB.out j hlt
     obtain⟨y,hy⟩:∃ y,yj[j]! = y:=⟨_,rfl⟩
     have hyq:=HYQ.out yj HOj.out j hlt
     rw [hy] at hyq
     rw [← hyq] at hg1 hrp
     obtain⟨bg,og,hGA,g0,g1⟩:=pr_at (Recs.of_own enc2_lenQ HGj.out HGLN.out) hlt hgp
     obtain⟨bl,ol,hLA,l0,l1⟩:=pr_at HQj.out.lr hlt hrp
     obtain⟨gx,hX⟩:=own_addr20 HQj.out.xo (by omega)
     subst hGA hLA hX
     dsimp only at g0 g1 l0 l1
     have HSG2:Hid (sg+gq=lf+(qsOf (gs.take (j+1))).sum):=by show _=_;rw [qs_take (by have:=HGLN.out;omega),hgp,HSG.out];dsimp only;omega
     have HSR2:Hid (sr+y.qty=(qsOf (rq.take (j+1))).sum):=by show _=_;rw [qs_take (by have:=HRLN.out;omega),hrp,HSR.out]
     have hb1:=HBG.out j hj
     have hb2:=HBR.out j hj
     have hs1:=HSG.out
     have hs2:=HSR.out
     have hlf:=HSU.out.2.2
     have hyt:0≤y.qty∧y.qty≤1000000000:=by have h3:=(HOj.out j hlt).1.qty;rw [hy] at h3;exact h3
     have us1:IntKind.i64.wrap (sg+gq)=sg+gq:=IntWalk.i64_in _ (by omega)
     have us2:IntKind.i64.wrap (sr+y.qty)=sr+y.qty:=IntWalk.i64_in _ (by omega)
     have i1:(0:Int)≤(j:Int):=by omega
     have i2:(j:Int)<(i:Int):=by omega
     clear hb1 hb2 hs1 hs2 hyq HSG HSR
     go_upto_region 19 with (fail)
     go_cut [17,18] from 75 to 185 (fun s a wx=>s=.int .i64 (sg+gq)∧a=.int .i64 (sr+y.qty)∧Hid (QdW w1 (some ⟨gx,0,none⟩) i cx yj (some ⟨bl,ol,none⟩) i cl rq wx)∧Hid (wx.ownsRow w1.heap.size 49 2 (.slice (some ⟨bg,og,none⟩) i gc) i (flat enc2 gs)))
     case first =>
      go_quiet (fail)
      go_wp2_with fail
      go_meet
      exact⟨rfl,rfl,HQj.out.drewN _,own_drewN HGj.out _⟩
     case rest =>
     obtain⟨rfl,rfl,HQ4,HG4⟩:=hcut
     clear g0 g1 l0 l1 us1 us2 HQj HGj
     obtain⟨w4,hw4⟩:∃ w4:World,w4=wc:=⟨_,rfl⟩
     subst hw4
     obtain⟨g0,g1⟩:w4.cell? ⟨bg,og+j*2,none⟩=some (.int .i64 ((j:Int)+1))∧w4.cell? ⟨bg,og+j*2+1,none⟩=some (.int .i64 gq):=by
      obtain⟨b',o',e,h3,h4⟩:=pr_at (Recs.of_own enc2_lenQ HG4.out HGLN.out) hlt hgp
      injection e with e
      injection e with e1 e2
      subst e1 e2
      exact⟨h3,h4⟩
     obtain⟨l0,l1⟩:w4.cell? ⟨bl,ol+j*2,none⟩=some (.int .i64 ((j:Int)+1))∧w4.cell? ⟨bl,ol+j*2+1,none⟩=some (.int .i64 y.qty):=by
      obtain⟨b',o',e,h3,h4⟩:=pr_at HQ4.out.lr hlt hrp
      injection e with e
      injection e with e1 e2
      subst e1 e2
      exact⟨h3,h4⟩
     have e1:(((j:Int)+1) != ((j:Int)+1))=false:=by simp
     have e2:decide (gq<0)=false:=by simp;omega
     have e3:decide (gq > y.qty)=false:=by simp;omega
     have e3':decide (y.qty<gq)=false:=by simp;omega
     go_upto_region 20 with (fail)
     go_cut [126] from 75 to 185 (fun b wx=>b=.bool false∧Hid (QdW w1 (some ⟨gx,0,none⟩) i cx yj (some ⟨bl,ol,none⟩) i cl rq wx)∧Hid (wx.ownsRow w1.heap.size 49 2 (.slice (some ⟨bg,og,none⟩) i gc) i (flat enc2 gs))∧Hid (wx.cell? ⟨bg,og+j*2+1,none⟩=some (.int .i64 gq)))
     case first =>
      go_quiet (fail)
      go_wp2_with fail
      go_meet
      exact⟨rfl,HQ4.out.drewN _,own_drewN HG4.out _,g1⟩
     case rest =>
     obtain⟨rfl,HQ5,HG5,HG1⟩:=hcut
     clear g0 g1 l0 l1 e1 e2 e3 e3' HQ4 HG4
     obtain⟨w5,hw5⟩:∃ w5:World,w5=wc:=⟨_,rfl⟩
     subst hw5
     have g1:w5.cell? ⟨bg,og+j*2+1,none⟩=some (.int .i64 gq):=HG1.out
     have c7:w5.cell? ⟨gx,j*8+7,none⟩=some (.int .i64 y.gr):=(it_at HQ5.out.xr hlt hy).2.2.2.2.2.2.2
     have f7:w5.frozen? ⟨gx,j*8+7,none⟩=false:=HQ5.out.xo.frozenAt (j*8+7)
     have HP:=HQ5.out.put hlt gq
     have HPO:=HOj.out.set (v:=gq) (i:=j) (by have:=HQ5.out.xl;omega) (by rw [hy];omega) hlt
     have HPJ:(yj.set j { yj[j]! with gr:=gq })[j]! = { y with gr:=gq }:=by rw [get_setQ _ _ _ _ (by have:=HQ5.out.xl;omega),if_pos rfl,hy]
     have HPG:=own_set20 HG5.out (fun b hb2 e=>own_far20 HG5.out HQ5.out.xo (by decide) b hb2 (by rw [e];rfl)) (j*8+7) (.int .i64 gq) (g:=gx)
     generalize yj.set j { yj[j]! with gr:=gq }=yk at *
     obtain⟨y',hy'⟩:∃ y':It,{ y with gr:=gq }=y':=⟨_,rfl⟩
     have HGR:Hid (y'.gr=gq):=by show _=_;rw [← hy']
     rw [hy'] at HPJ
     have HQ6:=Lib.hid HP
     have HOK6:=Lib.hid HPO
     have HYJ:=Lib.hid HPJ
     have HG6:=Lib.hid HPG
     have HIO:Hid (ItOk y'):=by have:=(HOK6.out j hlt).1;rw [HYJ.out] at this;exact this
     clear HP HPO HPJ HPG hy' HQ5 HG5 HG1 HOj hy hgp hrp hyt
     go_upto_region 23 with (fail)
     clear g1 c7 f7
     generalize w5.setCell ⟨gx,j*8+7,none⟩ (.int .i64 gq)=W6 at *
     have HW6:=Lib.hid (HB1.out.trans (HQ6.out.below.mono HB1.out.size))
     have z0:W6.cell? ⟨gx,j*8,none⟩=some (.string y'.code):=(it_at HQ6.out.xr hlt HYJ.out).1
     have z1:W6.cell? ⟨gx,j*8+1,none⟩=some (.string y'.org):=(it_at HQ6.out.xr hlt HYJ.out).2.1
     have z2:W6.cell? ⟨gx,j*8+2,none⟩=some (.bool y'.proof):=(it_at HQ6.out.xr hlt HYJ.out).2.2.1
     have z3:W6.cell? ⟨gx,j*8+3,none⟩=some (.int .i64 y'.co):=(it_at HQ6.out.xr hlt HYJ.out).2.2.2.1
     have z4:W6.cell? ⟨gx,j*8+4,none⟩=some (.int .i64 y'.day):=(it_at HQ6.out.xr hlt HYJ.out).2.2.2.2.1
     have z5:W6.cell? ⟨gx,j*8+5,none⟩=some (.int .i64 y'.qty):=(it_at HQ6.out.xr hlt HYJ.out).2.2.2.2.2.1
     have z6:W6.cell? ⟨gx,j*8+6,none⟩=some (.int .i64 y'.val):=(it_at HQ6.out.xr hlt HYJ.out).2.2.2.2.2.2.1
     have z7:W6.cell? ⟨gx,j*8+7,none⟩=some (.int .i64 y'.gr):=(it_at HQ6.out.xr hlt HYJ.out).2.2.2.2.2.2.2
     as_aux_lemma =>
      go_wp2_with fail
      refine (assess_any R ms.length mc ms y' W6 (HMR.out.below HQ6.out.below) (HG.out.below HW6.out) (by have:=HIO.out.code;omega) (by have:=HIO.out.org;omega)).mono ?_
      obtain⟨er,lb,hao⟩:∃ er lb,asOut (msL ms) y'=(er,lb):=⟨_,_,rfl⟩
      have hol:=asOut_len (msL ms) y'
      rw [hao] at hol ⊢
      dsimp only at hol
      have HAO:=Lib.hid hao
      clear hao
      rintro e w7 ⟨DA,dc,rfl,hd,hb⟩
      dsimp only at hd
      have HQ8:=Lib.hid ((HQ6.out.under hb).alloc (.cells #[.slice DA lb.length dc,.int .i64 (sumA lb)] 28))
      have HG8:=Lib.hid (own_alloc (own_below HG6.out hb) (.cells #[.slice DA lb.length dc,.int .i64 (sumA lb)] 28))
      have HD8:=Lib.hid (own_alloc hd (.cells #[.slice DA lb.length dc,.int .i64 (sumA lb)] 28))
      have HB8:Hid (Bl (w7.alloc (.cells #[.slice DA lb.length dc,.int .i64 (sumA lb)] 28)) w7.heap.size 28 #[.slice DA lb.length dc,.int .i64 (sumA lb)]):=Bl.new _ _ _
      clear hd hb z0 z1 z2 z3 z4 z5 z6 z7 HQ6 HG6 HW6
      go_upto_region 24 with (fail)
      generalize w7.alloc (.cells #[.slice DA lb.length dc,.int .i64 (sumA lb)] 28)=W8 at *
      generalize w7.heap.size=gd at *
      have z0:W8.cell? ⟨gx,j*8,none⟩=some (.string y'.code):=(it_at HQ8.out.xr hlt HYJ.out).1
      have z1:W8.cell? ⟨gx,j*8+1,none⟩=some (.string y'.org):=(it_at HQ8.out.xr hlt HYJ.out).2.1
      have z2:W8.cell? ⟨gx,j*8+2,none⟩=some (.bool y'.proof):=(it_at HQ8.out.xr hlt HYJ.out).2.2.1
      have z3:W8.cell? ⟨gx,j*8+3,none⟩=some (.int .i64 y'.co):=(it_at HQ8.out.xr hlt HYJ.out).2.2.2.1
      have z4:W8.cell? ⟨gx,j*8+4,none⟩=some (.int .i64 y'.day):=(it_at HQ8.out.xr hlt HYJ.out).2.2.2.2.1
      have z5:W8.cell? ⟨gx,j*8+5,none⟩=some (.int .i64 y'.qty):=(it_at HQ8.out.xr hlt HYJ.out).2.2.2.2.2.1
      have z6:W8.cell? ⟨gx,j*8+6,none⟩=some (.int .i64 y'.val):=(it_at HQ8.out.xr hlt HYJ.out).2.2.2.2.2.2.1
      have z7:W8.cell? ⟨gx,j*8+7,none⟩=some (.int .i64 y'.gr):=(it_at HQ8.out.xr hlt HYJ.out).2.2.2.2.2.2.2
      go_wp2_with fail
      refine (rassess_any R ms.length mc ms y' W8 (HMR.out.below HQ8.out.below) (by have:=HIO.out.code;omega) (by have:=HIO.out.org;omega)).mono ?_
      rw [refOut_eq,HAO.out]
      rintro e w9 ⟨DB,dd,rfl,hd,hb⟩
      dsimp only at hd
      have HQ9:=Lib.hid ((HQ8.out.under hb).alloc (.cells #[.slice DB lb.length dd,.int .i64 (sumA lb)] 28))
      have HG9:=Lib.hid (own_alloc (own_below HG8.out hb) (.cells #[.slice DB lb.length dd,.int .i64 (sumA lb)] 28))
      have HD9:=Lib.hid (own_alloc (own_below HD8.out hb) (.cells #[.slice DB lb.length dd,.int .i64 (sumA lb)] 28))
      have HE9:=Lib.hid (own_alloc hd (.cells #[.slice DB lb.length dd,.int .i64 (sumA lb)] 28))
      have HB9:=Lib.hid (Bl.alloc (HB8.out.keep hb) (.cells #[.slice DB lb.length dd,.int .i64 (sumA lb)] 28))
      have HC9:Hid (Bl (w9.alloc (.cells #[.slice DB lb.length dd,.int .i64 (sumA lb)] 28)) w9.heap.size 28 #[.slice DB lb.length dd,.int .i64 (sumA lb)]):=Bl.new _ _ _
      clear hd hb z0 z1 z2 z3 z4 z5 z6 z7 HQ8 HG8 HD8 HB8
      go_upto_region 25 with (fail)
      generalize w9.alloc (.cells #[.slice DB lb.length dd,.int .i64 (sumA lb)] 28)=W10 at *
      generalize w9.heap.size=gh at *
      have d0:W10.cell? ⟨gd,0,none⟩=some (.slice DA lb.length dc):=HB9.out.cell 0
      have d1:W10.cell? ⟨gd,1,none⟩=some (.int .i64 (sumA lb)):=HB9.out.cell 1
      have h0:W10.cell? ⟨gh,0,none⟩=some (.slice DB lb.length dd):=HC9.out.cell 0
      have h1:W10.cell? ⟨gh,1,none⟩=some (.int .i64 (sumA lb)):=HC9.out.cell 1
      have e7:(er != er)=false:=by simp
      go_wp2_with fail
      refine (rdebt_any DA DB lb.length dc dd (sumA lb) lb W10 (Recs.of_own encDl_len HD9.out rfl) (Recs.of_own encDl_len HE9.out rfl) (by omega)).mono ?_
      rintro e w11 ⟨rfl,hb⟩
      have HQ11:=Lib.hid (HQ9.out.under hb)
      have HG11:=Lib.hid (own_below HG9.out hb)
      have HD11:=Lib.hid (own_below HD9.out hb)
      have HB11:=Lib.hid (HB9.out.keep hb)
      clear hb d0 d1 h0 h1 HQ9 HG9 HD9 HE9 HB9 HC9
      go_upto_region 27 with (fail)
      go_cut [185] from 75 to 185 (fun b wx=>b=.bool false∧Hid (QdW w1 (some ⟨gx,0,none⟩) i cx yk (some ⟨bl,ol,none⟩) i cl rq wx)∧Hid (wx.ownsRow w1.heap.size 49 2 (.slice (some ⟨bg,og,none⟩) i gc) i (flat enc2 gs)))
      case first =>
       as_aux_lemma =>
        by_cases he:er=0
        case neg =>
         have qe:(er == 0)=false:=by simpa using he
         clear he
         go_quiet (fail)
         go_wp2_with fail
         go_meet
         exact⟨rfl,HQ11.out.drewN _,own_drewN HG11.out _⟩
        case pos =>
        have qe:(er == 0)=true:=by simpa using he
        have HER:=Lib.hid he
        clear he
        have z7:w11.cell? ⟨gx,j*8+7,none⟩=some (.int .i64 gq):=by have h3:=(it_at HQ11.out.xr hlt HYJ.out).2.2.2.2.2.2.2;rw [HGR.out] at h3;exact h3
        by_cases hgp:0<gq
        case neg =>
         have dg:decide (gq > 0)=false:=by simp;omega
         have dg':decide (0<gq)=false:=by simp;omega
         go_quiet (fail)
         go_wp2_with fail
         go_meet
         exact⟨rfl,HQ11.out.drewN _,own_drewN HG11.out _⟩
        case pos =>
         have dg:decide (gq > 0)=true:=by simp;omega
         have dg':decide (0<gq)=true:=by simp;omega
         obtain⟨hl0,hlq⟩:=first_qty (by rw [HAO.out,HER.out]) (show y'.gr≠0 by rw [HGR.out];omega)
         rw [HGR.out] at hlq
         obtain⟨bd,od,hDA,_,hdc⟩:=(Recs.of_own encDl_len HD11.out rfl).at_ hl0
         have k2:w11.cell? ⟨bd,od+2,none⟩=some (.int .i64 gq):=by
          have h:=hdc 2 (by omega)
          rw [Nat.zero_mul,Nat.add_zero] at h
          rw [← hlq]
          exact h
         have d0:w11.cell? ⟨gd,0,none⟩=some (.slice (some ⟨bd,od,none⟩) lb.length dc):=by rw [← hDA];exact HB11.out.cell 0
         have q9:(gq != gq)=false:=by simp
         have i3:(0:Int)<(lb.length:Int):=by omega
         clear hdc hlq
         go_quiet (fail)
         go_wp2_with fail
         go_meet
         exact⟨rfl,HQ11.out.drewN _,own_drewN HG11.out _⟩
      case rest =>
      obtain⟨rfl,HQz,HGz⟩:=hcut
      clear HQ11 HG11 HD11 HB11
      go_wp2_with fail
      go_roundw
      case rel=>exact⟨j+1,yk,sg+gq,sr+y.qty,rfl,rfl,by go_num,by omega,HQz.out,HGz.out,HOK6.out,HSG2.out,HSR2.out⟩
      case measure=>simp [intOf];omega
  case true =>
  have hlt:i<n2∧i<8:=by simp at hcb;omega
  clear hcb
  obtain⟨b2,o2,hA2,hlt2,hc2⟩:=(HI.out.1.below HWr.out).at_ hlt.1
  obtain⟨z,hz⟩:∃ z,ls[i]! = z:=⟨_,rfl⟩
  rw [hz] at hc2
  have hyl:=HI.out.2 i hlt.1
  rw [hz] at hyl
  have HIT:=Lib.hid (item20_any z.A z.n z.c z.xs wr (hyl.1.below HWr.out) hyl.2.1 hyl.2.2)
  subst hA2
  have c0:wr.cell? ⟨b2,o2+i,none⟩=some (.slice z.A z.n z.c):=by
   have:=hc2 0 (by decide)
   rw [Nat.mul_one,Nat.add_zero] at this
   exact this
  have hii:(i:Int)<(n2:Int):=by omega
  have hiz:(0:Int)≤(i:Int):=by omega
  have ui:IntKind.i64.wrap ((i:Int)+1)=(i:Int)+1:=IntWalk.i64_in _ (by omega)
  clear hc2 hz hyl hlt2
  go_wp2_with fail
  refine HIT.out.mono ?_
  rintro e wa ⟨y,rfl,hy,hb⟩
  have HYK:=Lib.hid hy
  have HQa:=Lib.hid (HQ.out.under hb)
  clear hb hy HQ HWr HIT c0
  have hk8:i≤100:=by omega
  have HNX:Hid (∀ g,wa.heap.size≤g→some g≠(Value.slice X i cx).ownBlock):=fun g hg e=>by have:=own_lt HQa.out.xo g e.symm;omega
  have HNL:Hid (∀ g,wa.heap.size≤g→some g≠(Value.slice L i cl).ownBlock):=fun g hg e=>by have:=own_lt HQa.out.lo g e.symm;omega
  have HQb:=Lib.hid (HQa.out.alloc (.cells #[.string y.code,.string y.org,.bool y.proof,.int .i64 y.co,.int .i64 y.day,.int .i64 y.qty,.int .i64 y.val,.int .i64 y.gr] 33))
  have HYb:Hid (Bl (wa.alloc (.cells #[.string y.code,.string y.org,.bool y.proof,.int .i64 y.co,.int .i64 y.day,.int .i64 y.qty,.int .i64 y.val,.int .i64 y.gr] 33)) wa.heap.size 33 #[.string y.code,.string y.org,.bool y.proof,.int .i64 y.co,.int .i64 y.day,.int .i64 y.qty,.int .i64 y.val,.int .i64 y.gr]):=Bl.new _ _ _
  go_upto_region 11 with (fail)
  clear HQa
  generalize wa.alloc (.cells #[.string y.code,.string y.org,.bool y.proof,.int .i64 y.co,.int .i64 y.day,.int .i64 y.qty,.int .i64 y.val,.int .i64 y.gr] 33)=W at *
  generalize wa.heap.size=gy at *
  have HOK2:Hid (QOk (ys ++ [y]) (rq ++ [((i:Int)+1,y.qty)]) (i+1)):=HOK.out.snoc HYK.out HQb.out.xl HQb.out.ll
  have HQ:Hid (QdW w1 X i cx ys L i cl rq W):=HQb.out
  have HY:Hid (Bl W gy 33 #[.string y.code,.string y.org,.bool y.proof,.int .i64 y.co,.int .i64 y.day,.int .i64 y.qty,.int .i64 y.val,.int .i64 y.gr]):=HYb.out
  have s1:(W.alloc (.cells #[.string y.code,.string y.org,.bool y.proof,.int .i64 y.co,.int .i64 y.day,.int .i64 y.qty,.int .i64 y.val,.int .i64 y.gr] 33)).heap.size=W.heap.size+1:=by simp
  have s2:(W.alloc (.cells #[.int .i64 ((i:Int)+1),.int .i64 y.qty] 45)).heap.size=W.heap.size+1:=by simp
  have HRA1:Hid (Rd (W.alloc (.cells #[.string y.code,.string y.org,.bool y.proof,.int .i64 y.co,.int .i64 y.day,.int .i64 y.qty,.int .i64 y.val,.int .i64 y.gr] 33)).drew 8 (some ⟨W.heap.size,0,none⟩) 1 (encIt y)):=rd_bl (xs:=encIt y) (bl_drewQ (Bl.new W _ _)) rfl
  have HRA2:Hid (Rd ((W.alloc (.cells #[.string y.code,.string y.org,.bool y.proof,.int .i64 y.co,.int .i64 y.day,.int .i64 y.qty,.int .i64 y.val,.int .i64 y.gr] 33)).alloc (.cells #[.int .i64 ((i:Int)+1),.int .i64 y.qty] 45)).drew 8 (some ⟨W.heap.size,0,none⟩) 1 (encIt y)):=rd_bl (xs:=encIt y) (bl_drewQ (Bl.alloc (Bl.new W _ _) _)) rfl
  have HA3:Hid (Bl ((W.alloc (.cells #[.string y.code,.string y.org,.bool y.proof,.int .i64 y.co,.int .i64 y.day,.int .i64 y.qty,.int .i64 y.val,.int .i64 y.gr] 33)).alloc (.cells #[.int .i64 ((i:Int)+1),.int .i64 y.qty] 45)).drew W.heap.size 33 #[.string y.code,.string y.org,.bool y.proof,.int .i64 y.co,.int .i64 y.day,.int .i64 y.qty,.int .i64 y.val,.int .i64 y.gr]):=(bl_drewQ (Bl.alloc (Bl.new W _ _) _))
  have HB2:Hid (Bl ((W.alloc (.cells #[.string y.code,.string y.org,.bool y.proof,.int .i64 y.co,.int .i64 y.day,.int .i64 y.qty,.int .i64 y.val,.int .i64 y.gr] 33)).alloc (.cells #[.int .i64 ((i:Int)+1),.int .i64 y.qty] 45)).drew (W.heap.size+1) 45 #[.int .i64 ((i:Int)+1),.int .i64 y.qty]):=by rw [← s1];exact bl_drewQ (Bl.new _ _ _)
  have HB3:Hid (Bl ((W.alloc (.cells #[.int .i64 ((i:Int)+1),.int .i64 y.qty] 45)).alloc (.cells #[.string y.code,.string y.org,.bool y.proof,.int .i64 y.co,.int .i64 y.day,.int .i64 y.qty,.int .i64 y.val,.int .i64 y.gr] 33)).drew W.heap.size 45 #[.int .i64 ((i:Int)+1),.int .i64 y.qty]):=(bl_drewQ (Bl.alloc (Bl.new W _ _) _))
  have HA2:Hid (Bl ((W.alloc (.cells #[.int .i64 ((i:Int)+1),.int .i64 y.qty] 45)).alloc (.cells #[.string y.code,.string y.org,.bool y.proof,.int .i64 y.co,.int .i64 y.day,.int .i64 y.qty,.int .i64 y.val,.int .i64 y.gr] 33)).drew (W.heap.size+1) 33 #[.string y.code,.string y.org,.bool y.proof,.int .i64 y.co,.int .i64 y.day,.int .i64 y.qty,.int .i64 y.val,.int .i64 y.gr]):=by rw [← s2];exact bl_drewQ (Bl.new _ _ _)
  have HRA3:Hid (Rd ((W.alloc (.cells #[.int .i64 ((i:Int)+1),.int .i64 y.qty] 45)).alloc (.cells #[.string y.code,.string y.org,.bool y.proof,.int .i64 y.co,.int .i64 y.day,.int .i64 y.qty,.int .i64 y.val,.int .i64 y.gr] 33)).drew 8 (some ⟨W.heap.size+1,0,none⟩) 1 (encIt y)):=rd_bl (xs:=encIt y) HA2.out rfl
  have HRB1:Hid (Rd (W.alloc (.cells #[.int .i64 ((i:Int)+1),.int .i64 y.qty] 45)).drew 2 (some ⟨W.heap.size,0,none⟩) 1 (enc2 ((i:Int)+1,y.qty))):=rd_bl (xs:=enc2 ((i:Int)+1,y.qty)) (bl_drewQ (Bl.new W _ _)) rfl
  have HRB2:Hid (Rd ((W.alloc (.cells #[.int .i64 ((i:Int)+1),.int .i64 y.qty] 45)).alloc (.cells #[.string y.code,.string y.org,.bool y.proof,.int .i64 y.co,.int .i64 y.day,.int .i64 y.qty,.int .i64 y.val,.int .i64 y.gr] 33)).drew 2 (some ⟨W.heap.size,0,none⟩) 1 (enc2 ((i:Int)+1,y.qty))):=rd_bl (xs:=enc2 ((i:Int)+1,y.qty)) HB3.out rfl
  have HRB3:Hid (Rd ((W.alloc (.cells #[.string y.code,.string y.org,.bool y.proof,.int .i64 y.co,.int .i64 y.day,.int .i64 y.qty,.int .i64 y.val,.int .i64 y.gr] 33)).alloc (.cells #[.int .i64 ((i:Int)+1),.int .i64 y.qty] 45)).drew 2 (some ⟨W.heap.size+1,0,none⟩) 1 (enc2 ((i:Int)+1,y.qty))):=rd_bl (xs:=enc2 ((i:Int)+1,y.qty)) HB2.out rfl
  have HGE0:Hid (gy≤W.heap.size):=by have:=HYb.out.lt;exact Lib.hid (by omega)
  have HGE1:Hid (gy≤W.heap.size+1):=by have:=HYb.out.lt;exact Lib.hid (by omega)
  have HSS:Hid (∀ wx,Bl wx gy 33 #[.string y.code,.string y.org,.bool y.proof,.int .i64 y.co,.int .i64 y.day,.int .i64 y.qty,.int .i64 y.val,.int .i64 y.gr]→wx.cell? ⟨gy,0,none⟩=some (.string y.code)∧wx.cell? ⟨gy,1,none⟩=some (.string y.org)∧wx.cell? ⟨gy,2,none⟩=some (.bool y.proof)∧wx.cell? ⟨gy,3,none⟩=some (.int .i64 y.co)∧wx.cell? ⟨gy,4,none⟩=some (.int .i64 y.day)∧wx.cell? ⟨gy,5,none⟩=some (.int .i64 y.qty)∧wx.cell? ⟨gy,6,none⟩=some (.int .i64 y.val)∧wx.cell? ⟨gy,7,none⟩=some (.int .i64 y.gr)):=fun wx h=>⟨h.cell 0,h.cell 1,h.cell 2,h.cell 3,h.cell 4,h.cell 5,h.cell 6,h.cell 7⟩
  have HYW:Hid (Bl W gy 33 #[.string y.code,.string y.org,.bool y.proof,.int .i64 y.co,.int .i64 y.day,.int .i64 y.qty,.int .i64 y.val,.int .i64 y.gr]):=HYb.out
  obtain⟨i0,i1,i2,i3,i4,i5,i6,i7⟩:=HSS.out W HYW.out
  clear s1 s2 HQb HYb
  go_region_held3 (fun wx=>wx.cell? ⟨gy,0,none⟩=some (.string y.code)∧wx.cell? ⟨gy,1,none⟩=some (.string y.org)∧wx.cell? ⟨gy,2,none⟩=some (.bool y.proof)∧wx.cell? ⟨gy,3,none⟩=some (.int .i64 y.co)∧wx.cell? ⟨gy,4,none⟩=some (.int .i64 y.day)∧wx.cell? ⟨gy,5,none⟩=some (.int .i64 y.qty)∧wx.cell? ⟨gy,6,none⟩=some (.int .i64 y.val)∧wx.cell? ⟨gy,7,none⟩=some (.int .i64 y.gr))
   (first
    | with_reducible exact HSS.out _ HYf.out
    | with_reducible exact HSS.out _ (Bl.alloc HYp.out _)
    | with_reducible exact HSS.out _ HYp.out
    | with_reducible exact HSS.out _ (Bl.alloc HYq.out _)
    | with_reducible exact HSS.out _ HYq.out
    | with_reducible exact HSS.out _ HY.out
    | with_reducible exact HSS.out _ (bl_drewQ (Bl.alloc HY.out _))
    | with_reducible exact HSS.out _ (bl_drewQ (Bl.alloc (Bl.alloc HY.out _) _))
    | with_reducible exact HSS.out _ (bl_drewQ HY.out)
    | with_reducible exact HSS.out _ HYW.out
    | fail)
   (first
    | (refine (HQq.out).stepX y (rd_bl (xs:=encIt y) HAq.out rfl) hk8 (by rfl) (.tmp 46) (.tmp 48) (by rfl) (by rfl) (by rfl) ?_;intro X2 cx2 wp hq hg;have HQf:=Lib.hid hq;have HYf:=Lib.hid (bl_past (HYq.out) hg (HNX.out _ (Nat.le_refl _)));clear hq hg)
    | (refine (HQq.out.alloc _).stepX y (rd_bl (xs:=encIt y) (Bl.new _ _ _) rfl) hk8 (by rfl) (.tmp 46) (.tmp 48) (by rfl) (by rfl) (by rfl) ?_;intro X2 cx2 wp hq hg;have HQf:=Lib.hid hq;have HYf:=Lib.hid (bl_past (Bl.alloc HYq.out _) hg (HNX.out _ (Nat.le_refl _)));clear hq hg)
    | (refine (HQp.out).stepL ((i:Int)+1,y.qty) (rd_bl (xs:=enc2 ((i:Int)+1,y.qty)) HBp.out rfl) hk8 (by rfl) (.tmp 50) (.tmp 56) (by rfl) (by rfl) (by rfl) ?_;intro L2 cl2 wq hq hg;have HQf:=Lib.hid hq;have HYf:=Lib.hid (bl_past (HYp.out) hg (HNL.out _ (Nat.le_refl _)));clear hq hg)
    | (refine (HQp.out.alloc _).stepL ((i:Int)+1,y.qty) (rd_bl (xs:=enc2 ((i:Int)+1,y.qty)) (Bl.new _ _ _) rfl) hk8 (by rfl) (.tmp 50) (.tmp 56) (by rfl) (by rfl) (by rfl) ?_;intro L2 cl2 wq hq hg;have HQf:=Lib.hid hq;have HYf:=Lib.hid (bl_past (Bl.alloc HYp.out _) hg (HNL.out _ (Nat.le_refl _)));clear hq hg)
    | (refine (((HQ.out.alloc _).alloc _).drew).stepX y HRA2.out hk8 (by rfl) (.tmp 46) (.tmp 48) (by rfl) (by rfl) (by rfl) ?_;intro X2 cx2 wp hq hg;have HQp:=Lib.hid hq;have HYp:=Lib.hid (bl_past (bl_drewQ (Bl.alloc (Bl.alloc HY.out _) _)) hg (HNX.out _ (Nat.le_refl _)));have HBp:=Lib.hid (bl_past HB2.out hg (HNX.out _ HGE1.out));clear hq hg)
    | (refine (((HQ.out.alloc _).alloc _).drew).stepX y HRA3.out hk8 (by rfl) (.tmp 46) (.tmp 48) (by rfl) (by rfl) (by rfl) ?_;intro X2 cx2 wp hq hg;have HQp:=Lib.hid hq;have HYp:=Lib.hid (bl_past (bl_drewQ (Bl.alloc (Bl.alloc HY.out _) _)) hg (HNX.out _ (Nat.le_refl _)));have HBp:=Lib.hid (bl_past HB3.out hg (HNX.out _ HGE0.out));clear hq hg)
    | (refine ((HQ.out.alloc _).drew).stepX y HRA1.out hk8 (by rfl) (.tmp 46) (.tmp 48) (by rfl) (by rfl) (by rfl) ?_;intro X2 cx2 wp hq hg;have HQp:=Lib.hid hq;have HYp:=Lib.hid (bl_past (bl_drewQ (Bl.alloc HY.out _)) hg (HNX.out _ (Nat.le_refl _)));clear hq hg)
    | (refine (((HQ.out.alloc _).alloc _).drew).stepL ((i:Int)+1,y.qty) HRB2.out hk8 (by rfl) (.tmp 50) (.tmp 56) (by rfl) (by rfl) (by rfl) ?_;intro L2 cl2 wq hq hg;have HQq:=Lib.hid hq;have HYq:=Lib.hid (bl_past (bl_drewQ (Bl.alloc (Bl.alloc HY.out _) _)) hg (HNL.out _ (Nat.le_refl _)));have HAq:=Lib.hid (bl_past HA2.out hg (HNL.out _ HGE1.out));clear hq hg)
    | (refine (((HQ.out.alloc _).alloc _).drew).stepL ((i:Int)+1,y.qty) HRB3.out hk8 (by rfl) (.tmp 50) (.tmp 56) (by rfl) (by rfl) (by rfl) ?_;intro L2 cl2 wq hq hg;have HQq:=Lib.hid hq;have HYq:=Lib.hid (bl_past (bl_drewQ (Bl.alloc (Bl.alloc HY.out _) _)) hg (HNL.out _ (Nat.le_refl _)));have HAq:=Lib.hid (bl_past HA3.out hg (HNL.out _ HGE0.out));clear hq hg)
    | (refine ((HQ.out.alloc _).drew).stepL ((i:Int)+1,y.qty) HRB1.out hk8 (by rfl) (.tmp 50) (.tmp 56) (by rfl) (by rfl) (by rfl) ?_;intro L2 cl2 wq hq hg;have HQq:=Lib.hid hq;have HYq:=Lib.hid (bl_past (bl_drewQ (Bl.alloc HY.out _)) hg (HNL.out _ (Nat.le_refl _)));clear hq hg)
    | fail)
  all_goals
   clear HNX HNL HOK HYK HRA1 HRA2 HRA3 HRB1 HRB2 HRB3 HA2 HA3 HB2 HB3 HSS i0 i1 i2 i3 i4 i5 i6 i7
   go_wp2_with fail
   go_roundw
   case rel=>exact⟨i+1,X2,cx2,ys ++ [y],L2,cl2,rq ++ [((i:Int)+1,y.qty)],rfl,rfl,by go_num,by omega,by omega,HQf.out,HOK2.out⟩
   case measure=>simp [intOf];omega
end Go.Proofs.YtbokkeooahodaaaGreatDoor

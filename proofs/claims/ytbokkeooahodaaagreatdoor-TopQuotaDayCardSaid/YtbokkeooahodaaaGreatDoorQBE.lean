/-
  A part of the proof of TopQuotaDayCardSaid: lemmas and contracts of functions that the law calls. No statement of the seat is proved here. Conditions: as each says.
-/
import Derived.Test.YtbokkeooahodaaaGreatDoorQBC
import Derived.Test.YtbokkeooahodaaaGreatDoorQAU
import Derived.Test.YtbokkeooahodaaaGreatDoorQAB
import Derived.Test.YtbokkeooahodaaaGreatDoorQAC
import Derived.RegionTactic
import Derived.Deep.DeepCutAuto
namespace Go.Proofs.YtbokkeooahodaaaGreatDoor
open Go.RowKit
set_option linter.unusedVariables false
theorem rmul_w (a b n:Int) (w:World) (hn:a*b=n) (ha:0≤a) (ha':a≤18446744073709551615) (hb:0≤b) (hb':b≤18446744073709551615) :
  Calls Tryz.prog 79 #[.int .u64 a,.int .u64 b] w fun e w'=>e=.returned (.agg #[.int .u64 (hiW n),.int .u64 (loW n)])∧RowKit.Below w.heap.size w w':=by
 rw [← hn]
 exact rmul_any a b w ha ha' hb hb'
theorem radd_w (P Q n:Int) (w:World) (hn:P+Q=n) (h0:0≤P) (h2:0≤Q) (h:n<340282366920938463463374607431768211456) :
  Calls Tryz.prog 84 #[.agg #[.int .u64 (hiW P),.int .u64 (loW P)],.agg #[.int .u64 (hiW Q),.int .u64 (loW Q)]] w (AddRes w (hiW n) (loW n)):=by
 subst hn
 exact radd_val P Q w h0 h2 h
theorem rdiv_w (N c:Int) (w:World) (h0:0≤N) (hc:0<c) (hc1:c≤1000000000000) (hN:N<c*4611686018427387904) :
  Calls Tryz.prog 87 #[.agg #[.int .u64 (hiW N),.int .u64 (loW N)],.int .u64 c,.int .i64 2] w fun e w'=>e=.returned (.tuple #[.int .u64 (divOut N c 2).1,.int .i64 (divOut N c 2).2])∧RowKit.Below w.heap.size w w':=rdiv_any N c w h0 hc hc1 hN
structure EvR (w:World) (N gs:Nat) (cs:Array Value) (n:Int) (wx:World):Prop where
 below:RowKit.Below N w wx
 d:Bl wx N 58 cs
 s:Bl wx gs 170 #[.int .u64 (hiW n),.int .u64 (loW n)]
 base:N≤gs
section
variable {w wx w':World} {N gs:Nat} {cs:Array Value} {n:Int}
theorem EvR.size (h:EvR w N gs cs n wx):N≤wx.heap.size:=Nat.le_of_lt h.d.lt
theorem EvR.under (h:EvR w N gs cs n wx) (hb:RowKit.Below wx.heap.size wx w'):EvR w N gs cs n w' :=
 ⟨h.below.trans (hb.mono h.size),h.d.keep hb,h.s.keep hb,h.base⟩
theorem EvR.drew (h:EvR w N gs cs n wx):EvR w N gs cs n wx.drew:=⟨h.below.drew,h.d,h.s,h.base⟩
theorem EvR.drewN (h:EvR w N gs cs n wx) (q:Nat):EvR w N gs cs n (wx.drewN q):=⟨below_drewN h.below q,h.d,h.s,h.base⟩
theorem EvR.only (h:EvR w N gs cs n wx) (hO:Only gs wx w') {n2:Int} (hs:Bl w' gs 170 #[.int .u64 (hiW n2),.int .u64 (loW n2)]):EvR w N gs cs n2 w' :=
 ⟨h.below.trans (hO.below h.base),hO.bl h.d (bl_far h.d h.s (by decide)),hs,h.base⟩
theorem EvR.put (h:EvR w N gs cs n wx) (n2:Int):EvR w N gs cs n2 ((wx.setCell ⟨gs,0,none⟩ (.int .u64 (hiW n2))).setCell ⟨gs,1,none⟩ (.int .u64 (loW n2))) :=
 h.only (((Only.refl gs wx).setCell 0 _).setCell 1 _) (set2_bl h.s _ _)
theorem EvR.part (h:EvR w N gs cs n wx) (r v pp x:Int) (hx:r*v*pp=x) (hr0:0≤r) (hr1:r≤10000000) (hv0:0≤v) (hv1:v≤1000000000000) (hp0:1≤pp) (hp1:pp≤1000000) :
  Calls Tryz.prog 85 #[.int .i64 r,.int .i64 v,.int .i64 pp] wx fun e w'=>e=.returned (.agg #[.int .u64 (hiW x),.int .u64 (loW x)])∧EvR w N gs cs n w':=by
 rw [← hx]
 exact (scaled_any r v pp wx hr0 hr1 hv0 hv1 hp0 hp1).mono fun e w' ⟨h1,h2⟩=>⟨h1,h.under h2⟩
theorem EvR.less (h:EvR w N gs cs n wx) (a b:Int) :
  Calls Tryz.prog 86 #[.agg #[.int .u64 (hiW a),.int .u64 (loW a)],.agg #[.int .u64 (hiW b),.int .u64 (loW b)]] wx fun e w'=>e=.returned (.bool (decide (a<b)))∧EvR w N gs cs n w' :=
 (less_w a b wx).mono fun e w' ⟨h1,h2⟩=>⟨h1,h.under h2⟩
end
set_option maxRecDepth 100000 in
set_option maxHeartbeats 8000000 in
theorem reval_any (d:Du) (vl q:Int) (w:World) :
  Calls Tryz.prog 43 #[.agg (duA d),.int .i64 vl,.int .i64 q] w (ERes w (evalOut d vl q)):=by
 obtain⟨r,am,pe,hm,mo,hl,le⟩:=d
 have HV:=Lib.hid (fun w'=>rduty_any r am pe mo le hm hl w')
 have HBad:=Lib.hid (fun h=>evalOut_bad (d:=⟨r,am,pe,hm,mo,hl,le⟩) (v:=vl) (q:=q) h)
 have HRng:=Lib.hid (fun h h2=>evalOut_range (d:=⟨r,am,pe,hm,mo,hl,le⟩) (v:=vl) (q:=q) h h2)
 have HZ:=Lib.hid (fun h=>duErr_zero (d:=⟨r,am,pe,hm,mo,hl,le⟩) h)
 have hal:RowKit.Below w.heap.size w (w.alloc (.cells #[.int .i64 r,.int .i64 am,.int .i64 pe,.bool hm,.int .i64 mo,.bool hl,.int .i64 le] 58)):=(Below.refl _ _).alloc (Nat.le_refl _) _
 have HX:=Bl.new w 58 #[.int .i64 r,.int .i64 am,.int .i64 pe,.bool hm,.int .i64 mo,.bool hl,.int .i64 le]
 unfold duA at *
 dsimp only at *
 go_enter Tryz.func43,Tryz.ntmps43
 go_wp2_with fail
 refine (HV.out _).mono ?_
 rintro e w1 ⟨rfl,hb1⟩
 have HX1:=HX.keep hb1
 have HB1:=Lib.hid (hal.trans (hb1.mono hal.size))
 clear HX hal hb1 HV
 obtain⟨de,hde⟩:∃ q,duErr ⟨r,am,pe,hm,mo,hl,le⟩=q:=⟨_,rfl⟩
 rw [hde] at HBad HRng HZ ⊢
 have hde2:=hde
 clear hde
 by_cases z1:de=0
 case neg =>
  have y1:(de == 0)=false:=by simpa using z1
  have y1n:(de != 0)=true:=by simpa using z1
  have E:=Lib.hid (HBad.out z1)
  clear z1 HBad HRng HZ
  go_wp2
  go_ret2
  exact ERes.of E.out HB1.out
 case pos =>
 have y1:(de == 0)=true:=by simpa using z1
 have y1n:(de != 0)=false:=by simpa using z1
 obtain⟨bv,hbv⟩:∃ x,inB vl 1000000000000=x:=⟨_,rfl⟩
 obtain⟨bq,hbq⟩:∃ x,inB q 1000000000=x:=⟨_,rfl⟩
 have HIv:Hid (∀ w,Calls Tryz.prog 83 #[.int .i64 vl,.int .i64 1000000000000] w fun e w'=>e=.returned (.bool bv)∧w=w'):=fun w=>by rw [← hbv];exact rin_any _ _ w
 have HIq:Hid (∀ w,Calls Tryz.prog 83 #[.int .i64 q,.int .i64 1000000000] w fun e w'=>e=.returned (.bool bq)∧w=w'):=fun w=>by rw [← hbq];exact rin_any _ _ w
 cases bv with
 | false =>
  have g:=inB_false hbv
  have E:=Lib.hid (HRng.out z1 (fun hx=>by unfold inRange at hx;omega))
  clear z1 HBad HRng HZ hbv hbq g
  go_wp2_with fail
  refine (HIv.out _).mono ?_
  rintro e w2 ⟨rfl,rfl⟩
  go_wp2
  go_ret2
  exact ERes.of E.out HB1.out
 | true =>
 cases bq with
 | false =>
  have g:=inB_false hbq
  have E:=Lib.hid (HRng.out z1 (fun hx=>by unfold inRange at hx;omega))
  clear z1 HBad HRng HZ hbv hbq g
  go_wp2_with fail
  refine (HIv.out _).mono ?_
  rintro e w2 ⟨rfl,rfl⟩
  go_wp2_with fail
  refine (HIq.out _).mono ?_
  rintro e w2 ⟨rfl,rfl⟩
  go_wp2
  go_ret2
  exact ERes.of E.out HB1.out
 | true =>
 obtain⟨v0,v1⟩:=inB_true hbv
 obtain⟨qq0,qq1⟩:=inB_true hbq
 clear hbv hbq
 obtain⟨hdr,hdf⟩:=HZ.out z1
 have hir:inRange vl q:=by unfold inRange;omega
 have HDR:=Lib.hid hdr
 have HIR:=Lib.hid hir
 have HP:=Lib.hid (perOf_pos ⟨r,am,pe,hm,mo,hl,le⟩)
 have HP2:=Lib.hid (perOf_le hdr)
 have hde0:=hde2.trans z1
 clear HBad HRng HZ hdf z1 hir hde2
 obtain⟨pp,hpp⟩:∃ x,perOf ⟨r,am,pe,hm,mo,hl,le⟩=x:=⟨_,rfl⟩
 have q2:w1.cell? ⟨w.heap.size,2,none⟩=some (.int .i64 pe):=HX1.cell 2
 have hmx:max pe 1=pp:=by rw [← hpp];unfold perOf;simp only [];split <;> omega
 go_wp2_with fail
 refine (HIv.out _).mono ?_
 rintro e w2 ⟨rfl,rfl⟩
 go_wp2_with fail
 refine (HIq.out _).mono ?_
 rintro e w2 ⟨rfl,rfl⟩
 go_wp2
 clear q2 hmx HIv HIq
 obtain⟨r0,r1,am0,am1,_,_,mo0,mo1,le0,le1⟩:0≤r∧r≤10000000∧0≤am∧am≤100000000∧(0<am→1≤pe∧pe≤1000000)∧(am=0→pe=0)∧0≤mo∧mo≤10000000∧0≤le∧le≤10000000:=HDR.out
 have pp0:1≤pp:=by have:=HP.out;omega
 have pp1:pp≤1000000:=by have:=HP2.out;omega
 obtain⟨x0,x1⟩:=mul_bound r0 r1 v0 v1
 obtain⟨y0,y1b⟩:=mul_bound am0 am1 qq0 qq1
 obtain⟨k0,k1⟩:=mul_bound x0 x1 (show 0≤pp by omega) (Int.le_refl pp)
 obtain⟨mb0,mb1⟩:=mul_bound mo0 mo1 v0 v1
 obtain⟨lb0,lb1⟩:=mul_bound le0 le1 v0 v1
 obtain⟨mc0,mc1⟩:=mul_bound mb0 mb1 (show 0≤pp by omega) (Int.le_refl pp)
 obtain⟨lc0,lc1⟩:=mul_bound lb0 lb1 (show 0≤pp by omega) (Int.le_refl pp)
 have lW0:w.heap.size<w1.heap.size:=HX1.lt
 have q0:w1.cell? ⟨w.heap.size,0,none⟩=some (.int .i64 r):=HX1.cell 0
 have q1:w1.cell? ⟨w.heap.size,1,none⟩=some (.int .i64 am):=HX1.cell 1
 have u0:IntKind.u64.wrap pp=pp:=IntWalk.u64_in _ (by omega)
 have u1:IntKind.u64.wrap am=am:=IntWalk.u64_in _ (by omega)
 have u2:IntKind.u64.wrap q=q:=IntWalk.u64_in _ (by omega)
 obtain⟨p0,hp0⟩:∃ x,r*vl*pp=x:=⟨_,rfl⟩
 obtain⟨ms,hms⟩:∃ x,mo*vl*pp=x:=⟨_,rfl⟩
 obtain⟨ls,hls⟩:∃ x,le*vl*pp=x:=⟨_,rfl⟩
 obtain⟨y,hy⟩:∃ x,am*q=x:=⟨_,rfl⟩
 rw [hp0] at k0 k1
 rw [hms] at mc0 mc1
 rw [hls] at lc0 lc1
 rw [hy] at y0 y1b
 obtain⟨ym,hym⟩:∃ x,y*1000000=x:=⟨_,rfl⟩
 obtain⟨n0,hn0⟩:∃ x,p0+ym=x:=⟨_,rfl⟩
 have b0:0≤n0∧n0≤10000000000000000000*pp+100000000000000000000000:=by omega
 have hN0:num0 ⟨r,am,pe,hm,mo,hl,le⟩ vl q=n0:=by
  show r*vl*perOf ⟨r,am,pe,hm,mo,hl,le⟩+am*q*1000000=n0
  rw [hpp,hp0,hy,hym,hn0]
 have HN1:Hid (num1 ⟨r,am,pe,hm,mo,hl,le⟩ vl q=if hm=true∧ms<n0 then ms else n0):=by
  show (if hm=true∧mo*vl*perOf ⟨r,am,pe,hm,mo,hl,le⟩<num0 ⟨r,am,pe,hm,mo,hl,le⟩ vl q then mo*vl*perOf ⟨r,am,pe,hm,mo,hl,le⟩ else num0 ⟨r,am,pe,hm,mo,hl,le⟩ vl q)=_
  rw [hpp,hms,hN0]
 have HN2:Hid (num2 ⟨r,am,pe,hm,mo,hl,le⟩ vl q=if hl=true∧num1 ⟨r,am,pe,hm,mo,hl,le⟩ vl q<ls then ls else num1 ⟨r,am,pe,hm,mo,hl,le⟩ vl q):=by
  show (if hl=true∧num1 ⟨r,am,pe,hm,mo,hl,le⟩ vl q<le*vl*perOf ⟨r,am,pe,hm,mo,hl,le⟩ then le*vl*perOf ⟨r,am,pe,hm,mo,hl,le⟩ else num1 ⟨r,am,pe,hm,mo,hl,le⟩ vl q)=_
  rw [hpp,hls]
 have HQ:Hid (quo18 ⟨r,am,pe,hm,mo,hl,le⟩ vl q=divOut (num2 ⟨r,am,pe,hm,mo,hl,le⟩ vl q) (pp*1000000) 2):=by
  show divOut _ (1000000*perOf ⟨r,am,pe,hm,mo,hl,le⟩) 2=_
  rw [hpp,Int.mul_comm]
 have HOV:=Lib.hid (fun h=>evalOut_over (d:=⟨r,am,pe,hm,mo,hl,le⟩) (v:=vl) (q:=q) hde0 HIR.out h)
 have HOK:=Lib.hid (fun h=>evalOut_ok (d:=⟨r,am,pe,hm,mo,hl,le⟩) (v:=vl) (q:=q) hde0 HIR.out h)
 have HSc:Hid (∀ wx,Calls Tryz.prog 85 #[.int .i64 r,.int .i64 vl,.int .i64 pp] wx fun e w'=>e=.returned (.agg #[.int .u64 (hiW p0),.int .u64 (loW p0)])∧RowKit.Below wx.heap.size wx w'):=fun wx=>by
  rw [← hp0]
  exact scaled_any r vl pp wx r0 r1 v0 v1 pp0 pp1
 have HMl:Hid (∀ wx,Calls Tryz.prog 79 #[.int .u64 y,.int .u64 1000000] wx fun e w'=>e=.returned (.agg #[.int .u64 (hiW ym),.int .u64 (loW ym)])∧RowKit.Below wx.heap.size wx w'):=fun wx=>rmul_w y 1000000 ym wx hym y0 (by omega) (by omega) (by omega)
 have HAd:Hid (∀ wx,Calls Tryz.prog 84 #[.agg #[.int .u64 (hiW p0),.int .u64 (loW p0)],.agg #[.int .u64 (hiW ym),.int .u64 (loW ym)]] wx (AddRes wx (hiW n0) (loW n0))):=fun wx=>radd_w p0 ym n0 wx hn0 k0 (by omega) (by omega)
 have HPM:Hid (∀ (n:Int) gs wx,EvR w w.heap.size gs #[.int .i64 r,.int .i64 am,.int .i64 pe,.bool hm,.int .i64 mo,.bool hl,.int .i64 le] n wx→Calls Tryz.prog 85 #[.int .i64 mo,.int .i64 vl,.int .i64 pp] wx fun e w'=>e=.returned (.agg #[.int .u64 (hiW ms),.int .u64 (loW ms)])∧EvR w w.heap.size gs #[.int .i64 r,.int .i64 am,.int .i64 pe,.bool hm,.int .i64 mo,.bool hl,.int .i64 le] n w'):=fun n gs wx h=>h.part mo vl pp ms hms mo0 mo1 v0 v1 pp0 pp1
 have HPL:Hid (∀ (n:Int) gs wx,EvR w w.heap.size gs #[.int .i64 r,.int .i64 am,.int .i64 pe,.bool hm,.int .i64 mo,.bool hl,.int .i64 le] n wx→Calls Tryz.prog 85 #[.int .i64 le,.int .i64 vl,.int .i64 pp] wx fun e w'=>e=.returned (.agg #[.int .u64 (hiW ls),.int .u64 (loW ls)])∧EvR w w.heap.size gs #[.int .i64 r,.int .i64 am,.int .i64 pe,.bool hm,.int .i64 mo,.bool hl,.int .i64 le] n w'):=fun n gs wx h=>h.part le vl pp ls hls le0 le1 v0 v1 pp0 pp1
 have HLS:Hid (∀ (a b n:Int) gs wx,EvR w w.heap.size gs #[.int .i64 r,.int .i64 am,.int .i64 pe,.bool hm,.int .i64 mo,.bool hl,.int .i64 le] n wx→Calls Tryz.prog 86 #[.agg #[.int .u64 (hiW a),.int .u64 (loW a)],.agg #[.int .u64 (hiW b),.int .u64 (loW b)]] wx fun e w'=>e=.returned (.bool (decide (a<b)))∧EvR w w.heap.size gs #[.int .i64 r,.int .i64 am,.int .i64 pe,.bool hm,.int .i64 mo,.bool hl,.int .i64 le] n w'):=fun a b n gs wx h=>h.less a b
 have u3:IntKind.u64.wrap y=y:=IntWalk.u64_in _ (by omega)
 have u3b:IntKind.u64.wrap (am*q)=y:=by rw [hy];exact u3
 clear hp0 hms hls hy hym hn0 hN0 hpp x0 x1 mb0 mb1 lb0 lb1
 refine wp_region_rows [
   ⟨⟨some 31,[],[]⟩,fun _ v=>v=.pointer (some ⟨w.heap.size,0,none⟩),NoR⟩,
   ⟨⟨some 32,[0],[]⟩,fun _ v=>v=.int .i64 r,NoR⟩,
   ⟨⟨some 33,[],[]⟩,fun _ v=>v=.int .i64 vl,NoR⟩,
   ⟨⟨some 34,[],[]⟩,fun _ v=>v=.int .i64 pp,NoR⟩,
   ⟨⟨some 35,[1,2,3],[]⟩,fun _ v=>v=.agg #[.int .u64 (hiW p0),.int .u64 (loW p0)],NoR⟩,
   ⟨⟨some 36,[],[]⟩,fun _ v=>v=.pointer (some ⟨w.heap.size,1,none⟩),NoR⟩,
   ⟨⟨some 37,[5],[]⟩,fun _ v=>v=.int .i64 am,NoR⟩,
   ⟨⟨some 38,[6],[]⟩,fun _ v=>v=.int .u64 am,NoR⟩,
   ⟨⟨some 39,[],[]⟩,fun _ v=>v=.int .i64 q,NoR⟩,
   ⟨⟨some 40,[8],[]⟩,fun _ v=>v=.int .u64 q,NoR⟩,
   ⟨⟨some 41,[7,9],[]⟩,fun _ v=>v=.int .u64 y,NoR⟩,
   ⟨⟨some 42,[10],[]⟩,fun _ v=>v=.agg #[.int .u64 (hiW ym),.int .u64 (loW ym)],NoR⟩,
   ⟨⟨some 43,[4,11],[]⟩,fun _ v=>∃ ov:Bool,v=.tuple #[.agg #[.int .u64 (hiW n0),.int .u64 (loW n0)],.bool ov],NoR⟩,
   ⟨⟨some 30,[12],[]⟩,fun _ v=>∃ ov:Bool,v=.tuple #[.agg #[.int .u64 (hiW n0),.int .u64 (loW n0)],.bool ov],NoR⟩,
   ⟨⟨some 44,[13],[]⟩,fun _ v=>v=.agg #[.int .u64 (hiW n0),.int .u64 (loW n0)],NoR⟩,
   ⟨⟨some 45,[13],[]⟩,fun _ v=>∃ ov:Bool,v=.bool ov,NoR⟩,
   ⟨⟨some 10,[],[]⟩,NoF,PtrR 170 #[.int .u64 0,.int .u64 0]⟩,
   ⟨⟨none,[16,14],[16]⟩,NoF,PutR 170 #[.int .u64 (hiW n0),.int .u64 (loW n0)]⟩,
   ⟨⟨some 11,[15],[]⟩,fun _ v=>∃ ov:Bool,v=.bool ov,NoR⟩] (by kernel_rfl) (by kernel_rfl) (by kernel_rfl) ⟨NoR.loc,NoR.loc,NoR.loc,NoR.loc,NoR.loc,NoR.loc,NoR.loc,NoR.loc,NoR.loc,NoR.loc,NoR.loc,NoR.loc,NoR.loc,NoR.loc,NoR.loc,NoR.loc,PtrR.loc,PutR.loc,NoR.loc,trivial⟩ ⟨?r0,?r1,?r2,?r3,?r4,?r5,?r6,?r7,?r8,?r9,?r10,?r11,?r12,?r13,?r14,?r15,?r16,?r17,?r18,trivial⟩ ?fin
 case r0 =>
  refine step_of rfl rfl ?_
  intro a wx vs fp K hF hK
  have ea:a.eval (.tmp 3)=.pointer (some ⟨w.heap.size,0,none⟩):=hF.at_ 3 rfl
  refine op_value (v:=.pointer (some ⟨w.heap.size,0,none⟩)) ?_ (hK _ _ _ (hF.only rfl trivial))
  clear hF hK
  generalize a.eval=ρ at *
  go_simp
 case r1 =>
  refine step_of rfl rfl ?_
  intro a wx vs fp K hF hK
  have ea:a.eval (.tmp 31)=.pointer (some ⟨w.heap.size,0,none⟩):=(hF.ev 0 31 rfl rfl).trans (hF.va 0 rfl)
  have mc:=(hF.below.cell (p:=⟨w.heap.size,0,none⟩) lW0).trans q0
  refine op_value (v:=.int .i64 r) ?_ (hK _ _ _ (hF.only rfl trivial))
  clear hF hK
  generalize a.eval=ρ at *
  go_simp
 case r2 =>
  refine step_of rfl rfl ?_
  intro a wx vs fp K hF hK
  exact op_move rfl (hF.at_ 1 rfl) (hK _ _ _ (hF.only rfl trivial))
 case r3 =>
  refine step_of rfl rfl ?_
  intro a wx vs fp K hF hK
  exact op_move rfl (hF.at_ 9 rfl) (hK _ _ _ (hF.only rfl trivial))
 case r4 =>
  refine step_of rfl rfl ?_
  intro a wx vs fp K hF hK
  have e0:a.eval (.tmp 32)=.int .i64 r:=(hF.ev 1 32 rfl rfl).trans (hF.va 1 rfl)
  have e1:a.eval (.tmp 33)=.int .i64 vl:=(hF.ev 2 33 rfl rfl).trans (hF.va 2 rfl)
  have e2:a.eval (.tmp 34)=.int .i64 pp:=(hF.ev 3 34 rfl rfl).trans (hF.va 3 rfl)
  refine op_call (vals:=#[.int .i64 r,.int .i64 vl,.int .i64 pp]) rfl (by kernel_rfl) ?_ ((HSc.out wx).mono ?_)
  ·simp only [List.map_toArray,List.map_cons,List.map_nil,e0,e1,e2] <;> rfl
  rintro e w' ⟨rfl,hb⟩
  exact⟨_,rfl,hK _ _ [] (hF.under hb rfl trivial (fun g hg=>(by cases hg)))⟩
 case r5 =>
  refine step_of rfl rfl ?_
  intro a wx vs fp K hF hK
  have ea:a.eval (.tmp 3)=.pointer (some ⟨w.heap.size,0,none⟩):=hF.at_ 3 rfl
  refine op_value (v:=.pointer (some ⟨w.heap.size,1,none⟩)) ?_ (hK _ _ _ (hF.only rfl trivial))
  clear hF hK
  generalize a.eval=ρ at *
  go_simp
 case r6 =>
  refine step_of rfl rfl ?_
  intro a wx vs fp K hF hK
  have ea:a.eval (.tmp 36)=.pointer (some ⟨w.heap.size,1,none⟩):=(hF.ev 5 36 rfl rfl).trans (hF.va 5 rfl)
  have mc:=(hF.below.cell (p:=⟨w.heap.size,1,none⟩) lW0).trans q1
  refine op_value (v:=.int .i64 am) ?_ (hK _ _ _ (hF.only rfl trivial))
  clear hF hK
  generalize a.eval=ρ at *
  go_simp
 case r7 =>
  refine step_of rfl rfl ?_
  intro a wx vs fp K hF hK
  have ev6:a.eval (.tmp 37)=.int .i64 am:=(hF.ev 6 37 rfl rfl).trans (hF.va 6 rfl)
  refine op_value (v:=.int .u64 am) ?_ (hK _ _ _ (hF.only rfl trivial))
  have ec:∀ v,a.eval (.const v)=v:=fun _=>rfl
  clear hF hK
  generalize a.eval=ρ at *
  go_simp
 case r8 =>
  refine step_of rfl rfl ?_
  intro a wx vs fp K hF hK
  exact op_move rfl (hF.at_ 2 rfl) (hK _ _ _ (hF.only rfl trivial))
 case r9 =>
  refine step_of rfl rfl ?_
  intro a wx vs fp K hF hK
  have ev8:a.eval (.tmp 39)=.int .i64 q:=(hF.ev 8 39 rfl rfl).trans (hF.va 8 rfl)
  refine op_value (v:=.int .u64 q) ?_ (hK _ _ _ (hF.only rfl trivial))
  have ec:∀ v,a.eval (.const v)=v:=fun _=>rfl
  clear hF hK
  generalize a.eval=ρ at *
  go_simp
 case r10 =>
  refine step_of rfl rfl ?_
  intro a wx vs fp K hF hK
  have ev7:a.eval (.tmp 38)=.int .u64 am:=(hF.ev 7 38 rfl rfl).trans (hF.va 7 rfl)
  have ev9:a.eval (.tmp 40)=.int .u64 q:=(hF.ev 9 40 rfl rfl).trans (hF.va 9 rfl)
  refine op_value (v:=.int .u64 y) ?_ (hK _ _ _ (hF.only rfl trivial))
  have ec:∀ v,a.eval (.const v)=v:=fun _=>rfl
  clear hF hK
  generalize a.eval=ρ at *
  go_simp
 case r11 =>
  refine step_of rfl rfl ?_
  intro a wx vs fp K hF hK
  have e0:a.eval (.tmp 41)=.int .u64 y:=(hF.ev 10 41 rfl rfl).trans (hF.va 10 rfl)
  refine op_call (vals:=#[.int .u64 y,.int .u64 1000000]) rfl (by kernel_rfl) ?_ ((HMl.out wx).mono ?_)
  ·simp only [List.map_toArray,List.map_cons,List.map_nil,e0] <;> rfl
  rintro e w' ⟨rfl,hb⟩
  exact⟨_,rfl,hK _ _ [] (hF.under hb rfl trivial (fun g hg=>(by cases hg)))⟩
 case r12 =>
  refine step_of rfl rfl ?_
  intro a wx vs fp K hF hK
  have e0:a.eval (.tmp 35)=.agg #[.int .u64 (hiW p0),.int .u64 (loW p0)]:=(hF.ev 4 35 rfl rfl).trans (hF.va 4 rfl)
  have e1:a.eval (.tmp 42)=.agg #[.int .u64 (hiW ym),.int .u64 (loW ym)]:=(hF.ev 11 42 rfl rfl).trans (hF.va 11 rfl)
  refine op_call (vals:=#[.agg #[.int .u64 (hiW p0),.int .u64 (loW p0)],.agg #[.int .u64 (hiW ym),.int .u64 (loW ym)]]) rfl (by kernel_rfl) ?_ ((HAd.out wx).mono ?_)
  ·simp only [List.map_toArray,List.map_cons,List.map_nil,e0,e1] <;> rfl
  rintro e w' ⟨ov,rfl,hb⟩
  exact⟨_,rfl,hK _ _ [] (hF.under hb ⟨ov,rfl⟩ trivial (fun g hg=>(by cases hg)))⟩
 case r13 =>
  refine step_of rfl rfl ?_
  intro a wx vs fp K hF hK
  obtain⟨ov,ho⟩:∃ ov:Bool,vs 12=.tuple #[.agg #[.int .u64 (hiW n0),.int .u64 (loW n0)],.bool ov]:=hF.va 12 rfl
  exact op_move rfl ((hF.ev 12 43 rfl rfl).trans ho) (hK _ _ _ (hF.only ⟨ov,rfl⟩ trivial))
 case r14 =>
  refine step_of rfl rfl ?_
  intro a wx vs fp K hF hK
  obtain⟨ov,ho⟩:∃ ov:Bool,vs 13=.tuple #[.agg #[.int .u64 (hiW n0),.int .u64 (loW n0)],.bool ov]:=hF.va 13 rfl
  exact op_extract rfl ((hF.ev 13 30 rfl rfl).trans ho) rfl (hK _ _ _ (hF.only rfl trivial))
 case r15 =>
  refine step_of rfl rfl ?_
  intro a wx vs fp K hF hK
  obtain⟨ov,ho⟩:∃ ov:Bool,vs 13=.tuple #[.agg #[.int .u64 (hiW n0),.int .u64 (loW n0)],.bool ov]:=hF.va 13 rfl
  exact op_extract rfl ((hF.ev 13 30 rfl rfl).trans ho) rfl (hK _ _ _ (hF.only ⟨ov,rfl⟩ trivial))
 case r16 =>
  refine step_of rfl rfl ?_
  intro a wx vs fp K hF hK
  refine op_value (v:=.pointer (some ⟨wx.heap.size,0,none⟩)) (w':=wx.alloc (.cells #[.int .u64 0,.int .u64 0] 170)) ?_ (hK _ _ _ (hF.made _ trivial ⟨_,rfl,rfl,Bl.new _ _ _⟩))
  have ec:∀ v,a.eval (.const v)=v:=fun _=>rfl
  clear hF hK
  generalize a.eval=ρ at *
  go_simp
 case r17 =>
  refine step_of rfl rfl ?_
  intro a wx vs fp K hF hK
  have hm:PtrR 170 #[.int .u64 0,.int .u64 0] [] (vs 16) (fp 16) wx:=hF.me 16 rfl
  obtain⟨g,hg,hfg,hbl⟩:=hm
  have e1:a.eval (.tmp 10)=.pointer (some ⟨g,0,none⟩):=(hF.ev 16 10 rfl rfl).trans hg
  have e2:a.eval (.tmp 44)=.agg #[.int .u64 (hiW n0),.int .u64 (loW n0)]:=(hF.ev 14 44 rfl rfl).trans (hF.va 14 rfl)
  have y0:wx.cell? ⟨g,0,none⟩=some (.int .u64 0):=hbl.cell 0
  have y1:wx.cell? ⟨g,1,none⟩=some (.int .u64 0):=hbl.cell 1
  have f0:wx.frozen? ⟨g,0,none⟩=false:=hbl.free 0
  have f1:wx.frozen? ⟨g,1,none⟩=false:=hbl.free 1
  refine op_skip (w':=(wx.setCell ⟨g,0,none⟩ (.int .u64 (hiW n0))).setCell ⟨g,1,none⟩ (.int .u64 (loW n0))) ?_ (hK undef _ _ (hF.wrote 16 rfl hfg (((Only.refl g wx).setCell 0 _).setCell 1 _) trivial ⟨g,congrArg some hg,rfl,set2_bl hbl _ _⟩))
  have ec:∀ v,a.eval (.const v)=v:=fun _=>rfl
  clear hF hK
  generalize a.eval=ρ at *
  go_simp
 case r18 =>
  refine step_of rfl rfl ?_
  intro a wx vs fp K hF hK
  obtain⟨ov,ho⟩:∃ ov:Bool,vs 15=.bool ov:=hF.va 15 rfl
  exact op_assign rfl ((hF.ev 15 45 rfl rfl).trans ho) (hK _ _ _ (hF.only ⟨ov,rfl⟩ trivial))
 case fin =>
  intro wz vs fp hI
  obtain⟨⟨gs,hg,hfg,hbl⟩,hgo⟩:PutR 170 #[.int .u64 (hiW n0),.int .u64 (loW n0)] [vs 16,vs 14] (vs 17) (fp 17) wz∧_:=hI.finM 17 (by decide) rfl
  have hv16:vs 16=.pointer (some ⟨gs,0,none⟩):=by simpa using hg
  obtain⟨ov,hv18⟩:∃ ov:Bool,vs 18=.bool ov:=hI.fin 18 (by decide)
  have hgs:w1.heap.size≤gs:=(hgo gs (by rw [hfg];simp)).1
  have HBz:=HB1.out.trans (hI.below.mono HB1.out.size)
  have HE0:Hid (EvR w w.heap.size gs #[.int .i64 r,.int .i64 am,.int .i64 pe,.bool hm,.int .i64 mo,.bool hl,.int .i64 le] n0 wz):=⟨HBz,HX1.keep hI.below,hbl,Nat.le_trans HB1.out.size hgs⟩
  clear hI hg hbl hgs HBz hgo hfg
  simp only [rj,number,putJ,List.map_cons,List.map_nil,if_true,Act.put,List.setIfInBounds_toArray,List.set_cons_zero,List.set_cons_succ,hv16,hv18]
  generalize vs 0=zv0
  generalize vs 1=zv1
  generalize vs 2=zv2
  generalize vs 3=zv3
  generalize vs 4=zv4
  generalize vs 5=zv5
  generalize vs 6=zv6
  generalize vs 7=zv7
  generalize vs 8=zv8
  generalize vs 9=zv9
  generalize vs 10=zv10
  generalize vs 11=zv11
  generalize vs 12=zv12
  generalize vs 13=zv13
  generalize vs 14=zv14
  generalize vs 15=zv15
  generalize vs 17=zv17
  clear hv16 hv18
  clear q0 q1 HSc HMl HAd HX1 HB1 lW0 HDR HIR HP HP2
  go_upto_region 8 with (fail)
  clear u1 u2 u3 u3b
  have e3:wz.cell? ⟨w.heap.size,3,none⟩=some (.bool hm):=HE0.out.d.cell 3
  have e4:wz.cell? ⟨w.heap.size,4,none⟩=some (.int .i64 mo):=HE0.out.d.cell 4
  have s0:wz.cell? ⟨gs,0,none⟩=some (.int .u64 (hiW n0)):=HE0.out.s.cell 0
  have s1:wz.cell? ⟨gs,1,none⟩=some (.int .u64 (loW n0)):=HE0.out.s.cell 1
  go_cut [56] (fun b wx=>b=.bool (hm && decide (ms<n0))∧Hid (EvR w w.heap.size gs #[.int .i64 r,.int .i64 am,.int .i64 pe,.bool hm,.int .i64 mo,.bool hl,.int .i64 le] n0 wx))
  case first =>
   cases hm
   case false =>
    go_quiet (fail)
    go_wp2_with fail
    go_meet
    exact⟨rfl,HE0.out.drewN _⟩
   case true =>
    have HS:Hid (∀ wx,EvR w w.heap.size gs #[.int .i64 r,.int .i64 am,.int .i64 pe,.bool true,.int .i64 mo,.bool hl,.int .i64 le] n0 wx→wx.cell? ⟨w.heap.size,3,none⟩=some (.bool true)∧wx.cell? ⟨w.heap.size,4,none⟩=some (.int .i64 mo)∧wx.cell? ⟨gs,0,none⟩=some (.int .u64 (hiW n0))∧wx.cell? ⟨gs,1,none⟩=some (.int .u64 (loW n0))):=fun wx h=>⟨h.d.cell 3,h.d.cell 4,h.s.cell 0,h.s.cell 1⟩
    have hk0:=Lib.hid HE0.out.drew
    go_region_held3 (fun wx=>wx.cell? ⟨w.heap.size,3,none⟩=some (.bool true)∧wx.cell? ⟨w.heap.size,4,none⟩=some (.int .i64 mo)∧wx.cell? ⟨gs,0,none⟩=some (.int .u64 (hiW n0))∧wx.cell? ⟨gs,1,none⟩=some (.int .u64 (loW n0)))
     (first
      | with_reducible exact HS.out _ hkb.out
      | with_reducible exact HS.out _ hka.out
      | with_reducible exact HS.out _ hk0.out
      | with_reducible exact HS.out _ HE0.out
      | fail)
     (first
      | (go_at_call 85;with_reducible (refine (HPM.out _ _ _ hk0.out).mono ?_);rintro e wa ⟨rfl,ha⟩;have hka:=Lib.hid ha)
      | (go_at_call 86;with_reducible (refine (HLS.out ms n0 _ _ _ hka.out).mono ?_);rintro e wb ⟨rfl,hb⟩;have hkb:=Lib.hid hb)
      | fail)
    all_goals (go_wp2_with fail;go_meet;exact⟨by rw [Bool.true_and],hkb.out⟩)
  case rest =>
  obtain⟨rfl,HE1a⟩:=hcut
  clear e3 e4 s0 s1
  go_upto_if 56 with (fail)
  go_cut [10] (fun a wx=>∃ n:Int,a=.pointer (some ⟨gs,0,none⟩)∧(0≤n∧n≤10000000000000000000*pp+100000000000000000000000)∧Hid (num1 ⟨r,am,pe,hm,mo,hl,le⟩ vl q=n)∧Hid (EvR w w.heap.size gs #[.int .i64 r,.int .i64 am,.int .i64 pe,.bool hm,.int .i64 mo,.bool hl,.int .i64 le] n wx))
  case first =>
   cases hb:(hm && decide (ms<n0))
   case false =>
    go_wp2_with fail
    go_meet
    exact⟨n0,rfl,b0,(by show _=_;rw [HN1.out,if_neg (by intro h;rw [h.1] at hb;simp at hb;omega)]),HE1a.out⟩
   case true =>
    have e4:wc.cell? ⟨w.heap.size,4,none⟩=some (.int .i64 mo):=HE1a.out.d.cell 4
    go_wp2_with fail
    refine (HPM.out _ _ _ HE1a.out).mono ?_
    rintro e wa ⟨rfl,ha⟩
    have s0:wa.cell? ⟨gs,0,none⟩=some (.int .u64 (hiW n0)):=ha.s.cell 0
    have s1:wa.cell? ⟨gs,1,none⟩=some (.int .u64 (loW n0)):=ha.s.cell 1
    have f0:wa.frozen? ⟨gs,0,none⟩=false:=ha.s.free 0
    have f1:wa.frozen? ⟨gs,1,none⟩=false:=ha.s.free 1
    have HA:=Lib.hid (ha.put ms)
    clear ha
    go_wp2_with fail
    go_meet
    exact⟨ms,rfl,by omega,(by show _=_;rw [HN1.out,if_pos (by simpa using hb)]),HA.out⟩
  case rest =>
  obtain⟨n1,rfl,hn1,HNM1,HE1⟩:=hcut
  clear HE1a
  go_upto_region 10 with (fail)
  have e3:wc.cell? ⟨w.heap.size,5,none⟩=some (.bool hl):=HE1.out.d.cell 5
  have e4:wc.cell? ⟨w.heap.size,6,none⟩=some (.int .i64 le):=HE1.out.d.cell 6
  have s0:wc.cell? ⟨gs,0,none⟩=some (.int .u64 (hiW n1)):=HE1.out.s.cell 0
  have s1:wc.cell? ⟨gs,1,none⟩=some (.int .u64 (loW n1)):=HE1.out.s.cell 1
  go_cut [72] (fun b wx=>b=.bool (hl && decide (n1<ls))∧Hid (EvR w w.heap.size gs #[.int .i64 r,.int .i64 am,.int .i64 pe,.bool hm,.int .i64 mo,.bool hl,.int .i64 le] n1 wx))
  case first =>
   cases hl
   case false =>
    go_quiet (fail)
    go_wp2_with fail
    go_meet
    exact⟨rfl,HE1.out.drewN _⟩
   case true =>
    have HS:Hid (∀ wx,EvR w w.heap.size gs #[.int .i64 r,.int .i64 am,.int .i64 pe,.bool hm,.int .i64 mo,.bool true,.int .i64 le] n1 wx→wx.cell? ⟨w.heap.size,5,none⟩=some (.bool true)∧wx.cell? ⟨w.heap.size,6,none⟩=some (.int .i64 le)∧wx.cell? ⟨gs,0,none⟩=some (.int .u64 (hiW n1))∧wx.cell? ⟨gs,1,none⟩=some (.int .u64 (loW n1))):=fun wx h=>⟨h.d.cell 5,h.d.cell 6,h.s.cell 0,h.s.cell 1⟩
    have hk0:=Lib.hid HE1.out.drew
    go_region_held3 (fun wx=>wx.cell? ⟨w.heap.size,5,none⟩=some (.bool true)∧wx.cell? ⟨w.heap.size,6,none⟩=some (.int .i64 le)∧wx.cell? ⟨gs,0,none⟩=some (.int .u64 (hiW n1))∧wx.cell? ⟨gs,1,none⟩=some (.int .u64 (loW n1)))
     (first
      | with_reducible exact HS.out _ hkb.out
      | with_reducible exact HS.out _ hka.out
      | with_reducible exact HS.out _ hk0.out
      | with_reducible exact HS.out _ HE1.out
      | fail)
     (first
      | (go_at_call 85;with_reducible (refine (HPL.out _ _ _ hk0.out).mono ?_);rintro e wa ⟨rfl,ha⟩;have hka:=Lib.hid ha)
      | (go_at_call 86;with_reducible (refine (HLS.out n1 ls _ _ _ hka.out).mono ?_);rintro e wb ⟨rfl,hb⟩;have hkb:=Lib.hid hb)
      | fail)
    all_goals (go_wp2_with fail;go_meet;exact⟨by rw [Bool.true_and],hkb.out⟩)
  case rest =>
  obtain⟨rfl,HE2a⟩:=hcut
  clear e3 e4 s0 s1
  go_upto_if 72 with (fail)
  go_cut [10] (fun a wx=>∃ n:Int,a=.pointer (some ⟨gs,0,none⟩)∧(0≤n∧n≤10000000000000000000*pp+100000000000000000000000)∧Hid (num2 ⟨r,am,pe,hm,mo,hl,le⟩ vl q=n)∧Hid (EvR w w.heap.size gs #[.int .i64 r,.int .i64 am,.int .i64 pe,.bool hm,.int .i64 mo,.bool hl,.int .i64 le] n wx))
  case first =>
   cases hb:(hl && decide (n1<ls))
   case false =>
    go_wp2_with fail
    go_meet
    exact⟨n1,rfl,hn1,(by show _=_;rw [HN2.out,HNM1.out,if_neg (by intro h;rw [h.1] at hb;simp at hb;omega)]),HE2a.out⟩
   case true =>
    have e4:wc.cell? ⟨w.heap.size,6,none⟩=some (.int .i64 le):=HE2a.out.d.cell 6
    go_wp2_with fail
    refine (HPL.out _ _ _ HE2a.out).mono ?_
    rintro e wa ⟨rfl,ha⟩
    have s0:wa.cell? ⟨gs,0,none⟩=some (.int .u64 (hiW n1)):=ha.s.cell 0
    have s1:wa.cell? ⟨gs,1,none⟩=some (.int .u64 (loW n1)):=ha.s.cell 1
    have f0:wa.frozen? ⟨gs,0,none⟩=false:=ha.s.free 0
    have f1:wa.frozen? ⟨gs,1,none⟩=false:=ha.s.free 1
    have HA:=Lib.hid (ha.put ls)
    clear ha
    go_wp2_with fail
    go_meet
    exact⟨ls,rfl,by omega,(by show _=_;rw [HN2.out,HNM1.out,if_pos (by simpa using hb)]),HA.out⟩
  case rest =>
  obtain⟨n2,rfl,hn2,HNM2,HE2⟩:=hcut
  clear HE2a
  have s0:wc.cell? ⟨gs,0,none⟩=some (.int .u64 (hiW n2)):=HE2.out.s.cell 0
  have s1:wc.cell? ⟨gs,1,none⟩=some (.int .u64 (loW n2)):=HE2.out.s.cell 1
  have w6:IntKind.u64.wrap (pp*1000000)=pp*1000000:=IntWalk.u64_in _ (by omega)
  have HDV:=Lib.hid (rdiv_w n2 (pp*1000000) wc hn2.1 (by omega) (by omega) (by omega))
  rw [← HNM2.out,← HQ.out] at HDV
  obtain⟨qq,hqq⟩:∃ x,quo18 ⟨r,am,pe,hm,mo,hl,le⟩ vl q=x:=⟨_,rfl⟩
  rw [hqq] at HDV HOV HOK
  clear hqq HQ
  obtain⟨qv,qe⟩:=qq
  dsimp only at HDV HOV HOK
  rw [HNM2.out] at HDV
  go_wp2_with fail
  refine HDV.out.mono ?_
  rintro e wd ⟨rfl,hbd⟩
  have HBD:=Lib.hid (HE2.out.under hbd).below
  clear hbd s0 s1 HDV HE2
  by_cases h1:qe=0
  case neg =>
   have d1:(qe != 0)=true:=by simpa using h1
   have E:=Lib.hid (HOV.out (.inl h1))
   clear h1
   go_wp2
   go_ret2
   exact ERes.of E.out HBD.out
  case pos =>
  have d1:(qe != 0)=false:=by simpa using h1
  by_cases h2:1000000000000<qv
  case pos =>
   have d2:decide (qv > 1000000000000)=true:=by simp;omega
   have d2b:decide (1000000000000<qv)=true:=by simp;omega
   have E:=Lib.hid (HOV.out (.inr h2))
   clear h1 h2
   go_wp2
   go_ret2
   exact ERes.of E.out HBD.out
  case neg =>
  have d2:decide (qv > 1000000000000)=false:=by simp;omega
  have d2b:decide (1000000000000<qv)=false:=by simp;omega
  have E:=Lib.hid (HOK.out (by rintro (h | h);exact h h1;exact h2 h))
  have hq0:=evalOut_bounds (d:=⟨r,am,pe,hm,mo,hl,le⟩) (v:=vl) (q:=q) (by rw [E.out])
  rw [E.out] at hq0
  have w7:IntKind.i64.wrap qv=qv:=IntWalk.i64_in _ (by have:=hq0.1;have:=hq0.2;dsimp only at *;omega)
  clear h1 h2 hq0
  go_wp2
  go_ret2
  exact ERes.of E.out HBD.out
def restAt (r:Nat→Int) (n p j:Nat):Int:=if rank r n j<p then -1 else r j
theorem best_rank (r:Nat→Int) (n p b:Nat) (hp:p<n) (hb:b<n) (hr:∀ j,j<n→0≤r j) (h:∀ j,j<n→restAt r n p j<restAt r n p b∨(restAt r n p j=restAt r n p b∧b≤j)):rank r n b=p:=by
 obtain⟨j,hj,ej⟩:=rank_surj r n p hp
 have h1:=h j hj
 have h2:restAt r n p j=r j:=by unfold restAt;rw [if_neg (by omega)]
 have h3:=hr j hj
 have h4:¬ rank r n b<p:=by
  intro h5
  have:restAt r n p b = -1:=by unfold restAt;rw [if_pos h5]
  omega
 have h6:restAt r n p b=r b:=by unfold restAt;rw [if_neg h4]
 by_cases e:j=b
 ·subst e;exact ej
 ·have h7:bef r j b=false:=by simp [bef];omega
  have h8:=rank_lt_of_bef r n b j hb (bef_total e h7)
  omega
theorem first_best (f:Nat→Int):∀ j,j<1→f j<f 0∨(f j=f 0∧0≤j):=fun j hj=>by
 obtain rfl:j=0:=by omega
 exact Or.inr ⟨rfl,Nat.le_refl _⟩
theorem next_best (f:Nat→Int) (b i:Nat) (hb:b<i) (h:∀ j,j<i→f j<f b∨(f j=f b∧b≤j)) (hg:f b<f i):∀ j,j<i+1→f j<f i∨(f j=f i∧i≤j):=fun j hj=>by
 by_cases e:j=i
 ·subst e;exact Or.inr ⟨rfl,Nat.le_refl _⟩
 ·have:=h j (by omega);omega
theorem same_best (f:Nat→Int) (b i:Nat) (hb:b<i) (h:∀ j,j<i→f j<f b∨(f j=f b∧b≤j)) (hg:¬ f b<f i):∀ j,j<i+1→f j<f b∨(f j=f b∧b≤j):=fun j hj=>by
 by_cases e:j=i
 ·subst e;omega
 ·exact h j (by omega)
set_option maxRecDepth 100000 in
set_option maxHeartbeats 4000000 in
theorem rshare_ok (t:Int) (A:Option Addr) (n c:Nat) (xs:List Int) (w:World) (h:Ints w A n xs) (hn:n≤1000) (ht0:0≤t) (ht:t≤1000000000000) (ha:AllIn xs) (hnt:n=0→t=0) :
  Calls Tryz.prog 41 #[.int .i64 t,.slice A n c] w (SlRes w 0 (shareL t xs)):=by
 have d1:decide (t<0)=false:=by simp;omega
 have d2:decide (1000000000000<t)=false:=by simp;omega
 have HL:=Lib.hid h.1
 have HA:=Lib.hid ha
 have HNT:=Lib.hid hnt
 clear ha hnt
 obtain⟨C1,HC1,hmk1⟩:=make_any (P:=Tryz.prog) 22 3 _ 1 8 n Tryz.underlying22 infoI (by omega) (by omega)
 have HMK:=Lib.hid hmk1
 clear hmk1
 go_enter Tryz.func41,Tryz.ntmps41
 go_wp2
 go_loop [6,8] (fun b i=>∃ k:Nat,k≤n∧i=.int .i64 k∧b=.bool false) (fun _ i=>n - (intOf i).toNat)
 case atStart=>exact⟨0,Nat.zero_le _,rfl,rfl⟩
 case round =>
  obtain⟨k,hk,rfl,rfl⟩:=hrel
  by_cases hlt:k<n
  ·obtain⟨b,off,x,rfl,_,hc,HX⟩:=h.get hlt
   have hx:=HA.out k
   rw [HX.out] at hx
   have d3:decide (x<0)=false:=by simp;omega
   have d4:decide (1000000000000<x)=false:=by simp;omega
   go_wp2
   go_round
   case rel=>exact⟨k+1,by omega,by go_num,rfl⟩
   case measure=>simp [intOf];omega
  ·have hE:((n:Int) == 0 && decide (0<t))=false:=by
    by_cases e:n=0
    ·have:=HNT.out e;simp [this]
    ·simp;omega
   have b1:((n:Int) == 0)=false∨(((n:Int) == 0)=true∧decide (0<t)=false):=by
    by_cases e:n=0
    ·right;have:=HNT.out e;simp [this,e]
    ·left;simp;omega
   clear hE
   rcases b1 with b1 | ⟨b1,b2⟩
   all_goals
    go_wp2
    clear hlt hk
    go_loop [7,9] (fun s i=>∃ k:Nat,k≤n∧i=.int .i64 k∧s=.int .i64 (xs.take k).sum) (fun _ i=>n - (intOf i).toNat)
    case atStart=>exact⟨0,Nat.zero_le _,rfl,by simp⟩
    case round =>
     obtain⟨k,hk,rfl,rfl⟩:=hrel
     by_cases hlt:k<n
     ·obtain⟨b,off,x,rfl,_,hc,HX⟩:=h.get hlt
      have hb:=sum_take_bound xs 1000000000000 HA.out k (by have:=HL.out;omega)
      have hb0:=HA.out k
      have HS:=Lib.hid (sum_take_succ xs k (by have:=HL.out;omega))
      rw [HX.out] at hb0 HS
      generalize (xs.take k).sum=s at *
      go_wp2
      go_round
      case rel=>exact⟨k+1,by omega,by go_num,by rw [HS.out]⟩
      case measure=>simp [intOf];omega
     ·obtain rfl:k=n:=by omega
      rw [List.take_of_length_le (by have:=HL.out;omega)]
      have hmk1:=HMK.out
      have HN:Hid (NonNeg xs):=fun i=>(HA.out i).1
      have hS0:=sum_nonneg HN.out
      have hS1:xs.sum≤1000000000000000:=by
       have:=(sum_take_bound xs 1000000000000 HA.out xs.length (Nat.le_refl _)).2
       rw [List.take_length] at this
       have:=HL.out
       omega
      obtain⟨S,hS⟩:∃ S,xs.sum=S:=⟨_,rfl⟩
      have HSS:=Lib.hid hS
      rw [hS] at hS0 hS1 ⊢
      clear hS
      go_upto_region 16 with (fail)
      go_cut [10,11,12] (fun o r l wx=>∃ g1 g2:Nat,o=.slice (some ⟨g1,0,none⟩) k k∧r=.slice (some ⟨g2,0,none⟩) k k∧l=.int .i64 t∧g1≠g2∧w.heap.size≤g1∧w.heap.size≤g2∧Bl wx g1 3 C1∧Bl wx g2 3 C1∧RowKit.Below w.heap.size w wx)
      case first =>
       go_region
       ·go_wp2_with fail
        go_meet
        exact⟨_,_,rfl,rfl,rfl,by omega,Nat.le_refl _,Nat.le_succ _,(Bl.new _ _ _).alloc _,Bl.new1 _ _ _ _,(((Below.refl _ _).alloc (Nat.le_refl _) _).alloc (by simp) _).drew⟩
       ·go_wp2_with fail
        go_meet
        exact⟨_,_,rfl,rfl,rfl,by omega,Nat.le_succ _,Nat.le_refl _,Bl.new1 _ _ _ _,(Bl.new _ _ _).alloc _,(((Below.refl _ _).alloc (Nat.le_refl _) _).alloc (by simp) _).drew⟩
      case rest =>
       obtain⟨g1,g2,rfl,rfl,rfl,hne,hg1,hg2,HB1,HB2,hbel⟩:=hcut
       have hne':g2≠g1:=fun e=>hne e.symm
       have HZ:=Lib.hid (IntRow.zeros HC1.out)
       clear hmk1 HMK HC1
       go_wp2
       go_loopw [12,13] (fun l i wr=>∃ (m:Nat) (c1 c2:Array Value),m≤k∧i=.int .i64 m∧l=.int .i64 (t - sumN m (quoI t xs))∧Bl wr g1 3 c1∧IntRow c1 k (fun j=>if j<m then quoI t xs j else 0)∧Bl wr g2 3 c2∧IntRow c2 k (fun j=>if j<m then rstI t xs j else 0)∧RowKit.Below w.heap.size w wr) (fun _ i _=>k - (intOf i).toNat)
       case atStart=>exact⟨0,C1,C1,Nat.zero_le _,rfl,by simp [sumN_zero],HB1,HZ.out.congr (fun j _=>by simp),HB2,HZ.out.congr (fun j _=>by simp),hbel⟩
       case round =>
        clear HB1 HB2 hbel HZ
        obtain⟨m,c1,c2,hm,rfl,rfl,HB1,HR1,HB2,HR2,hbel⟩:=hrel
        by_cases hlt2:m<k
        ·obtain⟨b,off,x,hA,hbw,hc,HX⟩:=h.get hlt2
         subst hA
         have hc1:wr.cell? ⟨b,off+m,none⟩=some (.int .i64 x):=(hbel.cell (p:=⟨b,off+m,none⟩) hbw).trans hc
         have hlen:0<xs.length:=by have:=HL.out;omega
         have hmx:m<xs.length:=by have:=HL.out;omega
         have hqn:=quo_nonneg HN.out ht0 hlen m
         have hql:=quo_le t xs ht0 HN.out m hmx
         have hrn:=rst_nonneg (t:=t) HN.out hlen m
         have hrl:=rst_lt (t:=t) HN.out hlen m
         have hWp:=wsum_pos HN.out hlen
         have hx0:0≤x:=by have:=HN.out m;rw [HX.out] at this;exact this
         have hxS:x≤S:=by have:=getD_le_sum xs HN.out m hmx;rw [HX.out,HSS.out] at this;exact this
         have HQ:=Lib.hid (sumN_succ m (quoI t xs))
         obtain⟨hb1,hb2⟩:=sum_quo_bounds t xs ht0 HN.out m (by omega) hlen
         obtain⟨hb3,hb4⟩:=sum_quo_bounds t xs ht0 HN.out (m+1) (by omega) hlen
         rw [HQ.out] at hb3 hb4
         have HR1':∀ q,quoI t xs m=q→IntRow (c1.setIfInBounds m (.int .i64 q)) k (fun j=>if j<m+1 then quoI t xs j else 0):=fun q hq=>HR1.set m q (fun j hj=>by
          by_cases e:j=m
          ·subst e;rw [if_pos (by omega),if_pos rfl,hq]
          ·rw [if_neg e];by_cases e2:j<m
           ·rw [if_pos e2,if_pos (by omega)]
           ·rw [if_neg e2,if_neg (by omega)])
         have HR2':∀ q,rstI t xs m=q→IntRow (c2.setIfInBounds m (.int .i64 q)) k (fun j=>if j<m+1 then rstI t xs j else 0):=fun q hq=>HR2.set m q (fun j hj=>by
          by_cases e:j=m
          ·subst e;rw [if_pos (by omega),if_pos rfl,hq]
          ·rw [if_neg e];by_cases e2:j<m
           ·rw [if_pos e2,if_pos (by omega)]
           ·rw [if_neg e2,if_neg (by omega)])
         have HRA:=Lib.hid HR1'
         have HRB:=Lib.hid HR2'
         clear HR1' HR2'
         have k1:=HR1.cell HB1 hlt2
         have k2:=HR2.cell HB2 hlt2
         rw [if_neg (by omega)] at k1 k2
         have hcall:∀ W y:Int,wsum xs=W→wt xs m=y→0<W→W≤1000000000000000→0≤y→y≤1000000000000000→(∀ w:World,Calls Tryz.prog 79 #[.int .u64 t,.int .u64 y] w fun e w'=>e=.returned (.agg #[.int .u64 (t*y / 18446744073709551616),.int .u64 (t*y % 18446744073709551616)])∧RowKit.Below w.heap.size w w') ∧
           (∀ w:World,∃ z,Calls Tryz.prog 78 #[.agg #[.int .u64 (t*y / 18446744073709551616),.int .u64 (t*y % 18446744073709551616)],.int .u64 W] w fun e w'=>e=.returned (.tuple #[.agg #[.int .u64 z,.int .u64 (quoI t xs m)],.int .u64 (rstI t xs m)])∧RowKit.Below w.heap.size w w'):=by
          intro W y hW hy h1 h2 h3 h4
          refine⟨fun w=>rmul_any t y w ht0 (by omega) h3 (by omega),fun w=>⟨t*y / W / 18446744073709551616,?_⟩⟩
          obtain⟨p1,p2,p3,p4,p5⟩:=prod_parts t y ht0 (by omega) h3 (by omega)
          have:=rdivmod_any _ _ W w p1 p2 p3 p4 h1 (by omega)
          rw [p5] at this
          have e1:t*y / W=quoI t xs m:=by unfold quoI;rw [hW,hy]
          have e2:t*y % W=rstI t xs m:=by unfold rstI;rw [hW,hy]
          rw [e1,e2,show quoI t xs m % 18446744073709551616=quoI t xs m by omega] at this
          rw [e1]
          exact this
         have HCALL:=Lib.hid hcall
         clear hcall
         have hrl2:rstI t xs m<1000000000000000:=by
          have:wsum xs≤1000000000000000:=by unfold wsum;rw [HSS.out,HL.out];split <;> omega
          omega
         have HW1:Hid (S=0→wsum xs=(k:Int)∧wt xs m=1):=by
          intro hz;unfold wsum wt;rw [HSS.out,hz,HL.out];simp
         have HW2:Hid (S≠0→wsum xs=S∧wt xs m=x):=by
          intro hz;unfold wsum wt;rw [HSS.out,if_neg hz,if_neg hz];exact⟨rfl,HX.out⟩
         clear hrl hWp
         by_cases hz:S=0
         ·have b5:(S == 0)=true:=by simpa using hz
          obtain⟨HM0,HD0⟩:=HCALL.out k 1 (HW1.out hz).1 (HW1.out hz).2 (by omega) (by omega) (by omega) (by omega)
          have HM:=Lib.hid HM0
          have HD:=Lib.hid HD0
          clear HM0 HD0 HCALL hz HW1 HW2
          generalize t*1 / 18446744073709551616=ph at *
          generalize t*1 % 18446744073709551616=pl at *
          generalize quoI t xs m=q at *
          generalize rstI t xs m=r at *
          generalize sumN m (quoI t xs)=sq at *
          go_wp2_with fail
          refine (HM.out _).mono ?_
          rintro e w1 ⟨rfl,hbd1⟩
          go_wp2_with fail
          obtain⟨z,hd⟩:=HD.out w1
          refine hd.mono ?_
          clear hd
          rintro e w2 ⟨rfl,hbd2⟩
          have HK1:=(HB1.keep hbd1).keep hbd2
          have HK2:=(HB2.keep hbd1).keep hbd2
          have hbel2:=(hbel.trans (hbd1.mono hbel.size)).trans (hbd2.mono (Nat.le_trans hbel.size hbd1.size))
          have n1:w2.cell? ⟨g1,m,none⟩=some (.int .i64 0):=((HB1.keep hbd1).keep hbd2).cell m |>.trans ((HB1.cell m).symm.trans k1)
          have n2:w2.cell? ⟨g2,m,none⟩=some (.int .i64 0):=((HB2.keep hbd1).keep hbd2).cell m |>.trans ((HB2.cell m).symm.trans k2)
          have n3:w2.frozen? ⟨g1,m,none⟩=false:=HK1.free m
          have n4:w2.frozen? ⟨g2,m,none⟩=false:=HK2.free m
          have l1:=HK1.lt
          have l2:=HK2.lt
          have n1':∀ o,(w2.alloc o).cell? ⟨g1,m,none⟩=some (.int .i64 0):=fun o=>(World.cell?_alloc_lt _ _ _ l1).trans n1
          have n2':∀ o,(w2.alloc o).cell? ⟨g2,m,none⟩=some (.int .i64 0):=fun o=>(World.cell?_alloc_lt _ _ _ l2).trans n2
          have n3':∀ o,(w2.alloc o).frozen? ⟨g1,m,none⟩=false:=fun o=>(HK1.alloc o).free m
          have n4':∀ o,(w2.alloc o).frozen? ⟨g2,m,none⟩=false:=fun o=>(HK2.alloc o).free m
          clear k1 k2
          go_wp2
          go_roundw
          case rel=>exact⟨m+1,_,_,by omega,by go_num,by rw [HQ.out];go_num,((HK1.put _ _).far (p:=⟨g2,m,none⟩) hne _).alloc _,HRA.out _ rfl,((HK2.far (p:=⟨g1,m,none⟩) hne' _).put _ _).alloc _,HRB.out _ rfl,((hbel2.setCell (p:=⟨g1,m,none⟩) hg1 _).setCell (p:=⟨g2,m,none⟩) hg2 _).alloc (by have:=hbel2.size;simpa [World.setCell] using this) _⟩
          case measure=>simp [intOf];omega
         ·have b5:(S == 0)=false:=by simpa using hz
          obtain⟨HM0,HD0⟩:=HCALL.out S x (HW2.out hz).1 (HW2.out hz).2 (by omega) (by omega) (by omega) (by omega)
          have HM:=Lib.hid HM0
          have HD:=Lib.hid HD0
          clear HM0 HD0 HCALL hz HW1 HW2
          generalize t*x / 18446744073709551616=ph at *
          generalize t*x % 18446744073709551616=pl at *
          generalize quoI t xs m=q at *
          generalize rstI t xs m=r at *
          generalize sumN m (quoI t xs)=sq at *
          go_wp2_with fail
          refine (HM.out _).mono ?_
          rintro e w1 ⟨rfl,hbd1⟩
          go_wp2_with fail
          obtain⟨z,hd⟩:=HD.out w1
          refine hd.mono ?_
          clear hd
          rintro e w2 ⟨rfl,hbd2⟩
          have HK1:=(HB1.keep hbd1).keep hbd2
          have HK2:=(HB2.keep hbd1).keep hbd2
          have hbel2:=(hbel.trans (hbd1.mono hbel.size)).trans (hbd2.mono (Nat.le_trans hbel.size hbd1.size))
          have n1:w2.cell? ⟨g1,m,none⟩=some (.int .i64 0):=((HB1.keep hbd1).keep hbd2).cell m |>.trans ((HB1.cell m).symm.trans k1)
          have n2:w2.cell? ⟨g2,m,none⟩=some (.int .i64 0):=((HB2.keep hbd1).keep hbd2).cell m |>.trans ((HB2.cell m).symm.trans k2)
          have n3:w2.frozen? ⟨g1,m,none⟩=false:=HK1.free m
          have n4:w2.frozen? ⟨g2,m,none⟩=false:=HK2.free m
          have l1:=HK1.lt
          have l2:=HK2.lt
          have n1':∀ o,(w2.alloc o).cell? ⟨g1,m,none⟩=some (.int .i64 0):=fun o=>(World.cell?_alloc_lt _ _ _ l1).trans n1
          have n2':∀ o,(w2.alloc o).cell? ⟨g2,m,none⟩=some (.int .i64 0):=fun o=>(World.cell?_alloc_lt _ _ _ l2).trans n2
          have n3':∀ o,(w2.alloc o).frozen? ⟨g1,m,none⟩=false:=fun o=>(HK1.alloc o).free m
          have n4':∀ o,(w2.alloc o).frozen? ⟨g2,m,none⟩=false:=fun o=>(HK2.alloc o).free m
          clear k1 k2
          go_wp2
          go_roundw
          case rel=>exact⟨m+1,_,_,by omega,by go_num,by rw [HQ.out];go_num,((HK1.put _ _).far (p:=⟨g2,m,none⟩) hne _).alloc _,HRA.out _ rfl,((HK2.far (p:=⟨g1,m,none⟩) hne' _).put _ _).alloc _,HRB.out _ rfl,((hbel2.setCell (p:=⟨g1,m,none⟩) hg1 _).setCell (p:=⟨g2,m,none⟩) hg2 _).alloc (by have:=hbel2.size;simpa [World.setCell] using this) _⟩
          case measure=>simp [intOf];omega
        ·obtain rfl:m=k:=by omega
         have eL:t - sumN m (quoI t xs)=leftI t xs:=by unfold leftI;rw [HL.out]
         rw [eL]
         have hLL:0≤leftI t xs∧leftI t xs≤m:=by
          by_cases e:m=0
          ·have:=HNT.out e
           unfold leftI
           rw [HL.out,e,sumN_zero,this]
           omega
          ·have h1:=left_nonneg (t:=t) HN.out (by have:=HL.out;omega)
           have h2:=left_lt (t:=t) HN.out (by have:=HL.out;omega)
           have:=HL.out
           omega
         obtain⟨L,hLe⟩:∃ L,leftI t xs=L:=⟨_,rfl⟩
         rw [hLe] at hLL ⊢
         have HLE:=Lib.hid hLe
         obtain⟨hL0,hL1⟩:=hLL
         clear eL hLe
         go_wp2
         go_loopw [12] (fun l wr=>∃ (p:Nat) (c1 c2:Array Value),(p:Int)≤L∧l=.int .i64 (L - p)∧Bl wr g1 3 c1∧IntRow c1 m (fun j=>quoI t xs j+if rank (rstI t xs) m j<p then 1 else 0)∧Bl wr g2 3 c2∧IntRow c2 m (restAt (rstI t xs) m p)∧RowKit.Below w.heap.size w wr) (fun l _=>(intOf l).toNat)
         case atStart=>exact⟨0,c1,c2,by omega,by simp,HB1,HR1.congr (fun j hj=>by simp [hj]),HB2,HR2.congr (fun j hj=>by simp [hj,restAt]),hbel⟩
         case round =>
          clear HB1 HR1 HB2 HR2 hbel c1 c2
          obtain⟨p,c1,c2,hp,rfl,HB1,HR1,HB2,HR2,hbel⟩:=hrel
          by_cases hpL:(p:Int)<L
          ·have hpos:0<L - (p:Int):=by omega
           have hpm:p<m:=by omega
           go_wp2
           obtain⟨wo,rfl⟩:∃ wo:World,wo=wr:=⟨_,rfl⟩
           have HRN:Hid (∀ j,j<m→0≤rstI t xs j):=fun j hj=>rst_nonneg HN.out (by have:=HL.out;omega) j
           go_loopw [18,19] (fun bb ii wi=>∃ (bst i nn:Nat),bst<i∧i≤m∧bb=.int .i64 bst∧ii=.int .i64 i∧Hid (∀ j,j<i→restAt (rstI t xs) m p j<restAt (rstI t xs) m p bst∨(restAt (rstI t xs) m p j=restAt (rstI t xs) m p bst∧bst≤j))∧wi=wo.drewN nn) (fun _ ii _=>m - (intOf ii).toNat)
           case atStart=>exact⟨0,1,0,by omega,by omega,rfl,rfl,first_best _,rfl⟩
           case round =>
            obtain⟨bst,i,nn,hbi,him,rfl,rfl,HBS,rfl⟩:=hrel
            by_cases hlt3:i<m
            ·have q1:=HR2.cell HB2 hlt3
             have q2:=HR2.cell HB2 (show bst<m by omega)
             have HV1:Hid (restAt (rstI t xs) m p i=restAt (rstI t xs) m p i):=rfl
             obtain⟨vi,hvi⟩:∃ v,restAt (rstI t xs) m p i=v:=⟨_,rfl⟩
             obtain⟨vb,hvb⟩:∃ v,restAt (rstI t xs) m p bst=v:=⟨_,rfl⟩
             rw [hvi] at q1
             rw [hvb] at q2
             have HVI:=Lib.hid hvi
             have HVB:=Lib.hid hvb
             clear hvi hvb
             have i1:(0:Int)≤(i:Int):=by omega
             have i2:(i:Int)<(m:Int):=by omega
             have i3:(0:Int)≤(bst:Int):=by omega
             have i4:(bst:Int)<(m:Int):=by omega
             by_cases hgt:vb<vi
             ·have HNB:Hid (∀ j,j<i+1→restAt (rstI t xs) m p j<restAt (rstI t xs) m p i∨(restAt (rstI t xs) m p j=restAt (rstI t xs) m p i∧i≤j)):=next_best _ bst i hbi HBS.out (by rw [HVI.out,HVB.out];exact hgt)
              go_wp2
              go_quiet (fail)
              go_wp2
              go_roundw
              case rel=>exact⟨i,i+1,_,by omega,by omega,rfl,by go_num,HNB.out,rfl⟩
              case measure=>simp [intOf];omega
             ·have HNB:Hid (∀ j,j<i+1→restAt (rstI t xs) m p j<restAt (rstI t xs) m p bst∨(restAt (rstI t xs) m p j=restAt (rstI t xs) m p bst∧bst≤j)):=same_best _ bst i hbi HBS.out (by rw [HVI.out,HVB.out];exact hgt)
              go_wp2
              go_quiet (fail)
              go_wp2
              go_roundw
              case rel=>exact⟨bst,i+1,_,by omega,by omega,rfl,by go_num,HNB.out,rfl⟩
              case measure=>simp [intOf];omega
            ·obtain rfl:i=m:=by omega
             have hrk:=best_rank (rstI t xs) i p bst hpm (by omega) HRN.out HBS.out
             have hbm:bst<i:=hbi
             have hrj:∀ j,j<i→j≠bst→(rank (rstI t xs) i j<p+1 ↔ rank (rstI t xs) i j<p):=fun j hj hne2=>by
              have:rank (rstI t xs) i j≠p:=fun e=>hne2 (rank_inj (rstI t xs) i j bst hj hbm (by omega))
              omega
             have q1:=HR1.cell HB1 hbm
             have q2:=HR2.cell HB2 hbm
             simp only [restAt] at q2
             rw [if_neg (by omega)] at q1 q2
             have HO1:Hid (∀ v,quoI t xs bst+0+1=v→IntRow (c1.setIfInBounds bst (.int .i64 v)) i (fun j=>quoI t xs j+if rank (rstI t xs) i j<p+1 then 1 else 0)):=fun v hv=>HR1.set bst v (fun j hj=>by
              by_cases e:j=bst
              ·subst e;rw [if_pos rfl,if_pos (by omega)];omega
              ·rw [if_neg e];simp only [hrj j hj e])
             have HO2:Hid (IntRow (c2.setIfInBounds bst (.int .i64 (-1))) i (restAt (rstI t xs) i (p+1))):=HR2.set bst (-1) (fun j hj=>by
              unfold restAt
              by_cases e:j=bst
              ·subst e;rw [if_pos rfl,if_pos (by omega)]
              ·rw [if_neg e];simp only [hrj j hj e])
             have hqn:0≤quoI t xs bst:=quo_nonneg HN.out ht0 (by have:=HL.out;omega) bst
             have hql:=quo_le t xs ht0 HN.out bst (by have:=HL.out;omega)
             obtain⟨rv,hrv⟩:∃ v,rstI t xs bst=v:=⟨_,rfl⟩
             rw [hrv] at q2
             clear hrv hrj hrk
             rw [Int.add_zero] at q1 HO1
             generalize quoI t xs bst=q at *
             have f1:wo.frozen? ⟨g1,bst,none⟩=false:=HB1.free bst
             have f2:wo.frozen? ⟨g2,bst,none⟩=false:=HB2.free bst
             go_wp2
             go_roundw
             case rel=>exact⟨p+1,_,_,by omega,by go_num,((HB1.drewN nn).put _ _).far (p:=⟨g2,bst,none⟩) hne _,HO1.out _ rfl,((HB2.drewN nn).far (p:=⟨g1,bst,none⟩) hne' _).put _ _,HO2.out,((below_drewN hbel nn).setCell (p:=⟨g1,bst,none⟩) hg1 _).setCell (p:=⟨g2,bst,none⟩) hg2 _⟩
             case measure=>simp [intOf];omega
          ·have hpe:L=p:=by omega
           have hnp:¬ 0<L - (p:Int):=by omega
           have HO:Hid ((List.range m).map (fun j=>quoI t xs j+if rank (rstI t xs) m j<p then 1 else 0)=shareL t xs):=by
            unfold shareL
            rw [HL.out]
            refine List.map_congr_left fun j hj=>?_
            unfold shareI
            rw [HL.out,HLE.out,hpe]
            by_cases e:rank (rstI t xs) m j<p
            ·rw [if_pos e,if_pos (by omega)]
            ·rw [if_neg e,if_neg (by omega)]
           have HPE:=Lib.hid hpe
           clear hpe
           go_wp2
           go_ret2
           have how:=HR1.own HB1 hg1 (by omega)
           rw [HO.out] at how
           exact⟨_,_,_,rfl,how,hbel⟩
end Go.Proofs.YtbokkeooahodaaaGreatDoor

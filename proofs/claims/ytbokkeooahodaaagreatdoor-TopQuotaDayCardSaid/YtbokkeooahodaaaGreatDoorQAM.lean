/-
  A part of the proof of TopQuotaDayCardSaid: lemmas and contracts of functions that the law calls. No statement of the seat is proved here. Conditions: as each says.
-/
import Derived.Test.YtbokkeooahodaaaGreatDoorQAL
import Derived.Test.YtbokkeooahodaaaGreatDoorQAE
import Derived.Test.YtbokkeooahodaaaGreatDoorQAF
import Derived.Deep.QuietTactic
import Derived.BigQuiet
import Derived.Deep.RegionHeld3
import Derived.Deep.DeepCutAuto
namespace Go.Proofs.YtbokkeooahodaaaGreatDoor
open Go.RowKit
set_option linter.unusedVariables false
def hiW (n:Int):Int:=n / 18446744073709551616
def loW (n:Int):Int:=n % 18446744073709551616
theorem hl_join (n:Int):hiW n*18446744073709551616+loW n=n:=by unfold hiW loW;omega
theorem mul_w (a b n:Int) (w:World) (hn:a*b=n) (ha:0≤a) (ha':a≤18446744073709551615) (hb:0≤b) (hb':b≤18446744073709551615) :
  Calls Tryz.prog 98 #[.int .u64 a,.int .u64 b] w fun e w'=>e=.returned (.agg #[.int .u64 (hiW n),.int .u64 (loW n)])∧RowKit.Below w.heap.size w w':=by
 rw [← hn]
 exact mul_any a b w ha ha' hb hb'
theorem add_w (P Q:Int) (w:World) (h0:0≤P) (h1:P≤10000000000000000000000000) (h2:0≤Q) (h3:Q≤10000000000000000000000000) :
  Calls Tryz.prog 99 #[.agg #[.int .u64 (hiW P),.int .u64 (loW P)],.agg #[.int .u64 (hiW Q),.int .u64 (loW Q)]] w fun e w'=>e=.returned (.tuple #[.agg #[.int .u64 (hiW (P+Q)),.int .u64 (loW (P+Q))],.int .i64 0])∧RowKit.Below w.heap.size w w':=by
 have h4:hiW P+hiW Q<18446744073709551615:=by unfold hiW;omega
 have:=wadd_any (hiW P) (loW P) (hiW Q) (loW Q) w (by unfold hiW;omega) (by unfold loW;omega) (by unfold loW;omega) (by unfold hiW;omega) (by unfold loW;omega) (by unfold loW;omega) h4
 rw [hl_join P,hl_join Q] at this
 exact this
theorem cmp_w (P Q:Int) (w:World) (h0:0≤P) (h2:0≤Q) :
  Calls Tryz.prog 100 #[.agg #[.int .u64 (hiW P),.int .u64 (loW P)],.agg #[.int .u64 (hiW Q),.int .u64 (loW Q)]] w fun e w'=>e=.returned (.int .i64 (cmpV P Q))∧RowKit.Below w.heap.size w w':=by
 have:=cmpW_any (hiW P) (loW P) (hiW Q) (loW Q) w (by unfold hiW;omega) (by unfold loW;omega) (by unfold loW;omega) (by unfold hiW;omega) (by unfold loW;omega) (by unfold loW;omega)
 rw [hl_join P,hl_join Q] at this
 exact this
theorem div_w (P c m:Int) (w:World) (h0:0≤P) (h1:P≤20000000000000000000000000) (hc:0≤c) (hc':c≤18446744073709551615) :
  Calls Tryz.prog 101 #[.agg #[.int .u64 (hiW P),.int .u64 (loW P)],.int .u64 c,.int .i64 m] w fun e w'=>e=.returned (.tuple #[.int .u64 (divOut P c m).1,.int .i64 (divOut P c m).2])∧RowKit.Below w.heap.size w w':=by
 have:=div_any (hiW P) (loW P) c m w (by unfold hiW;omega) (by unfold hiW;omega) (by unfold loW;omega) (by unfold loW;omega) hc hc'
 rw [hl_join P] at this
 exact this
def ERes (w:World) (o:Int × Int) (e:Ending) (w':World):Prop:=e=.returned (.tuple #[.int .i64 o.1,.int .i64 o.2])∧RowKit.Below w.heap.size w w'
theorem ERes.of {w w':World} {o:Int × Int} {a b:Int} (h:o=(a,b)) (hb:RowKit.Below w.heap.size w w'):ERes w o (.returned (.tuple #[.int .i64 a,.int .i64 b])) w':=⟨by rw [h],hb⟩
structure EvB (w:World) (N bp gs:Nat) (cs:Array Value) (v pp n:Int) (wx:World):Prop where
 below:RowKit.Below N w wx
 d:Bl wx N 58 cs
 v:Bl wx (N+1) 3 #[.int .i64 v]
 p:Bl wx bp 168 #[.int .u64 pp]
 s:Bl wx gs 197 #[.int .u64 (hiW n),.int .u64 (loW n)]
 base:N≤gs
section
variable {w wx w':World} {N bp gs:Nat} {cs:Array Value} {v pp n:Int}
theorem EvB.size (h:EvB w N bp gs cs v pp n wx):N≤wx.heap.size:=Nat.le_of_lt h.d.lt
theorem EvB.under (h:EvB w N bp gs cs v pp n wx) (hb:RowKit.Below wx.heap.size wx w'):EvB w N bp gs cs v pp n w' :=
 ⟨h.below.trans (hb.mono h.size),h.d.keep hb,h.v.keep hb,h.p.keep hb,h.s.keep hb,h.base⟩
theorem EvB.drew (h:EvB w N bp gs cs v pp n wx):EvB w N bp gs cs v pp n wx.drew:=⟨h.below.drew,h.d,h.v,h.p,h.s,h.base⟩
theorem EvB.drewN (h:EvB w N bp gs cs v pp n wx) (q:Nat):EvB w N bp gs cs v pp n (wx.drewN q):=⟨below_drewN h.below q,h.d,h.v,h.p,h.s,h.base⟩
theorem EvB.only (h:EvB w N bp gs cs v pp n wx) (hO:Only gs wx w') {n2:Int} (hs:Bl w' gs 197 #[.int .u64 (hiW n2),.int .u64 (loW n2)]):EvB w N bp gs cs v pp n2 w' :=
 ⟨h.below.trans (hO.below h.base),hO.bl h.d (bl_far h.d h.s (by decide)),hO.bl h.v (bl_far h.v h.s (by decide)),hO.bl h.p (bl_far h.p h.s (by decide)),hs,h.base⟩
theorem EvB.put (h:EvB w N bp gs cs v pp n wx) (n2:Int):EvB w N bp gs cs v pp n2 ((wx.setCell ⟨gs,0,none⟩ (.int .u64 (hiW n2))).setCell ⟨gs,1,none⟩ (.int .u64 (loW n2))) :=
 h.only (((Only.refl gs wx).setCell 0 _).setCell 1 _) (set2_bl h.s _ _)
theorem EvB.part (h:EvB w N bp gs cs v pp n wx) (r x:Int) (hx:r*v*pp=x) (hr0:0≤r) (hr1:r≤10000000) (hv0:0≤v) (hv1:v≤1000000000000) (hp0:1≤pp) (hp1:pp≤1000000) :
  Calls Tryz.prog 97 #[.int .i64 r,.pointer (some ⟨N+1,0,none⟩),.pointer (some ⟨bp,0,none⟩)] wx fun e w'=>e=.returned (.agg #[.int .u64 (hiW x),.int .u64 (loW x)])∧EvB w N bp gs cs v pp n w':=by
 rw [← hx]
 exact (part18_any r v pp (N+1) bp wx h.v.lt h.p.lt (h.v.cell 0) (h.p.cell 0) hr0 hr1 hv0 hv1 hp0 hp1).mono fun e w' ⟨h1,h2⟩=>⟨h1,h.under h2⟩
theorem EvB.cmp (h:EvB w N bp gs cs v pp n wx) (x:Int) (h0:0≤n) (hx:0≤x) :
  Calls Tryz.prog 100 #[.agg #[.int .u64 (hiW n),.int .u64 (loW n)],.agg #[.int .u64 (hiW x),.int .u64 (loW x)]] wx fun e w'=>e=.returned (.int .i64 (cmpV n x))∧EvB w N bp gs cs v pp n w' :=
 (cmp_w n x wx h0 hx).mono fun e w' ⟨h1,h2⟩=>⟨h1,h.under h2⟩
theorem cmp_gt (x y:Int):decide (cmpV x y > 0)=decide (y<x):=by
 unfold cmpV
 by_cases h:x<y
 ·rw [if_pos h,decide_eq_false (by omega),decide_eq_false (by omega)]
 ·rw [if_neg h]
  by_cases e:x=y
  ·rw [if_pos e,decide_eq_false (by omega),decide_eq_false (by omega)]
  ·rw [if_neg e,decide_eq_true (by omega),decide_eq_true (by omega)]
theorem cmp_lt (x y:Int):decide (cmpV x y<0)=decide (x<y):=by
 unfold cmpV
 by_cases h:x<y
 ·rw [if_pos h,decide_eq_true (by omega),decide_eq_true (by omega)]
 ·rw [if_neg h]
  by_cases e:x=y
  ·rw [if_pos e,decide_eq_false (by omega),decide_eq_false (by omega)]
  ·rw [if_neg e,decide_eq_false (by omega),decide_eq_false (by omega)]
end
set_option maxRecDepth 100000 in
set_option maxHeartbeats 8000000 in
theorem evaluate_any (d:Du) (v q:Int) (w:World) :
  Calls Tryz.prog 56 #[.agg (duA d),.int .i64 v,.int .i64 q] w (ERes w (evalOut d v q)):=by
 obtain⟨r,am,pe,hm,mo,hl,le⟩:=d
 have HV:=Lib.hid (fun w'=>dvalidate_any r am pe mo le hm hl w')
 have HBad:=Lib.hid (fun h=>evalOut_bad (d:=⟨r,am,pe,hm,mo,hl,le⟩) (v:=v) (q:=q) h)
 have HRng:=Lib.hid (fun h h2=>evalOut_range (d:=⟨r,am,pe,hm,mo,hl,le⟩) (v:=v) (q:=q) h h2)
 have HZ:=Lib.hid (fun h=>duErr_zero (d:=⟨r,am,pe,hm,mo,hl,le⟩) h)
 have hal:RowKit.Below w.heap.size w ((w.alloc (.cells #[.int .i64 r,.int .i64 am,.int .i64 pe,.bool hm,.int .i64 mo,.bool hl,.int .i64 le] 58)).alloc (.cells #[.int .i64 v] 3)):=((Below.refl _ _).alloc (Nat.le_refl _) _).alloc (by simp) _
 have HX:=(Bl.new w 58 #[.int .i64 r,.int .i64 am,.int .i64 pe,.bool hm,.int .i64 mo,.bool hl,.int .i64 le]).alloc (.cells #[.int .i64 v] 3)
 have HXv:=Bl.new (w.alloc (.cells #[.int .i64 r,.int .i64 am,.int .i64 pe,.bool hm,.int .i64 mo,.bool hl,.int .i64 le] 58)) 3 #[.int .i64 v]
 have hsz:(w.alloc (.cells #[.int .i64 r,.int .i64 am,.int .i64 pe,.bool hm,.int .i64 mo,.bool hl,.int .i64 le] 58)).heap.size=w.heap.size+1:=by simp
 rw [hsz] at HXv
 unfold duA at *
 dsimp only at *
 go_enter Tryz.func56,Tryz.ntmps56
 go_wp2_with fail
 refine (HV.out _).mono ?_
 rintro e w1 ⟨rfl,hb1⟩
 have HX1:=HX.keep hb1
 have HXv1:=HXv.keep hb1
 have HB1:=Lib.hid (hal.trans (hb1.mono hal.size))
 clear HX HXv hal hb1 hsz HV
 obtain⟨de,hde⟩:∃ q,duErr ⟨r,am,pe,hm,mo,hl,le⟩=q:=⟨_,rfl⟩
 rw [hde] at HBad HRng HZ ⊢
 have hde2:=hde
 clear hde
 have cv:w1.cell? ⟨w.heap.size+1,0,none⟩=some (.int .i64 v):=HXv1.cell 0
 by_cases z1:de=0
 ·have y1:(de == 0)=true:=by simpa using z1
  have y1n:(de != 0)=false:=by simpa using z1
  by_cases g1:v<0
  ·have d1:decide (v<0)=true:=by simp;omega
   have E:=Lib.hid (HRng.out z1 (fun hx=>by unfold inRange at hx;omega))
   clear z1 HBad HRng HZ
   go_wp2
   go_ret2
   exact ERes.of E.out HB1.out
  have d1:decide (v<0)=false:=by simp;omega
  by_cases g2:1000000000000<v
  ·have d2:decide (1000000000000<v)=true:=by simp;omega
   have E:=Lib.hid (HRng.out z1 (fun hx=>by unfold inRange at hx;omega))
   clear z1 HBad HRng HZ
   go_wp2
   go_ret2
   exact ERes.of E.out HB1.out
  have d2:decide (1000000000000<v)=false:=by simp;omega
  by_cases g3:q<0
  ·have d3:decide (q<0)=true:=by simp;omega
   have E:=Lib.hid (HRng.out z1 (fun hx=>by unfold inRange at hx;omega))
   clear z1 HBad HRng HZ
   go_wp2
   go_ret2
   exact ERes.of E.out HB1.out
  have d3:decide (q<0)=false:=by simp;omega
  by_cases g4:1000000000<q
  ·have d4:decide (1000000000<q)=true:=by simp;omega
   have E:=Lib.hid (HRng.out z1 (fun hx=>by unfold inRange at hx;omega))
   clear z1 HBad HRng HZ
   go_wp2
   go_ret2
   exact ERes.of E.out HB1.out
  have d4:decide (1000000000<q)=false:=by simp;omega
  obtain⟨hdr,hdf⟩:=HZ.out z1
  have hir:inRange v q:=by unfold inRange;omega
  have HDR:=Lib.hid hdr
  have HIR:=Lib.hid hir
  have HP:=Lib.hid (perOf_pos ⟨r,am,pe,hm,mo,hl,le⟩)
  have HP2:=Lib.hid (perOf_le hdr)
  have hde0:=hde2.trans z1
  clear HBad HRng HZ hdf z1 hir
  obtain⟨pp,hpp⟩:∃ x,perOf ⟨r,am,pe,hm,mo,hl,le⟩=x:=⟨_,rfl⟩
  have q2:w1.cell? ⟨w.heap.size,2,none⟩=some (.int .i64 pe):=HX1.cell 2
  have hmx:max pe 1=pp:=by rw [← hpp];unfold perOf;simp only [];split <;> omega
  have u0:IntKind.u64.wrap pp=pp:=IntWalk.u64_in _ (by have:=HP.out;have:=HP2.out;omega)
  go_wp2
  have HWp:=Bl.new w1 168 #[.int .u64 pp]
  have hW:RowKit.Below w1.heap.size w1 (w1.alloc (.cells #[.int .u64 pp] 168)):=(Below.refl _ _).alloc (Nat.le_refl _) _
  have HXw:=HX1.keep hW
  have HXvw:=HXv1.keep hW
  have HBW:=Lib.hid (HB1.out.trans (hW.mono HB1.out.size))
  clear HX1 HXv1 HB1 hW cv q2 hmx
  generalize hWW:w1.alloc (.cells #[.int .u64 pp] 168)=W at *
  clear hWW
  obtain⟨r0,r1,am0,am1,_,_,mo0,mo1,le0,le1⟩:0≤r∧r≤10000000∧0≤am∧am≤100000000∧(0<am→1≤pe∧pe≤1000000)∧(am=0→pe=0)∧0≤mo∧mo≤10000000∧0≤le∧le≤10000000:=HDR.out
  obtain⟨v0,v1,qq0,qq1⟩:=HIR.out
  have pp0:1≤pp:=by have:=HP.out;omega
  have pp1:pp≤1000000:=by have:=HP2.out;omega
  obtain⟨x0,x1⟩:=mul_bound r0 r1 v0 v1
  obtain⟨y0,y1b⟩:=mul_bound am0 am1 qq0 qq1
  obtain⟨k0,k1⟩:=mul_bound x0 x1 (show 0≤pp by omega) pp1
  obtain⟨mb0,mb1⟩:=mul_bound mo0 mo1 v0 v1
  obtain⟨lb0,lb1⟩:=mul_bound le0 le1 v0 v1
  obtain⟨mc0,mc1⟩:=mul_bound mb0 mb1 (show 0≤pp by omega) pp1
  obtain⟨lc0,lc1⟩:=mul_bound lb0 lb1 (show 0≤pp by omega) pp1
  have lW0:w.heap.size<W.heap.size:=HXw.lt
  have lW1:w.heap.size+1<W.heap.size:=HXvw.lt
  have lW2:w1.heap.size<W.heap.size:=HWp.lt
  have q0:W.cell? ⟨w.heap.size,0,none⟩=some (.int .i64 r):=HXw.cell 0
  have q1:W.cell? ⟨w.heap.size,1,none⟩=some (.int .i64 am):=HXw.cell 1
  have u1:IntKind.u64.wrap am=am:=IntWalk.u64_in _ (by omega)
  have u2:IntKind.u64.wrap q=q:=IntWalk.u64_in _ (by omega)
  obtain⟨p0,hp0⟩:∃ x,r*v*pp=x:=⟨_,rfl⟩
  obtain⟨ms,hms⟩:∃ x,mo*v*pp=x:=⟨_,rfl⟩
  obtain⟨ls,hls⟩:∃ x,le*v*pp=x:=⟨_,rfl⟩
  obtain⟨y,hy⟩:∃ x,am*q=x:=⟨_,rfl⟩
  rw [hp0] at k0 k1
  rw [hms] at mc0 mc1
  rw [hls] at lc0 lc1
  rw [hy] at y0 y1b
  obtain⟨ym,hym⟩:∃ x,y*1000000=x:=⟨_,rfl⟩
  obtain⟨n0,hn0⟩:∃ x,p0+ym=x:=⟨_,rfl⟩
  have b0:0≤n0∧n0≤10100000000000000000000000:=by omega
  have hN0:num0 ⟨r,am,pe,hm,mo,hl,le⟩ v q=n0:=by
   show r*v*perOf ⟨r,am,pe,hm,mo,hl,le⟩+am*q*1000000=n0
   rw [hpp,hp0,hy,hym,hn0]
  have HN1:Hid (num1 ⟨r,am,pe,hm,mo,hl,le⟩ v q=if hm=true∧ms<n0 then ms else n0):=by
   show (if hm=true∧mo*v*perOf ⟨r,am,pe,hm,mo,hl,le⟩<num0 ⟨r,am,pe,hm,mo,hl,le⟩ v q then mo*v*perOf ⟨r,am,pe,hm,mo,hl,le⟩ else num0 ⟨r,am,pe,hm,mo,hl,le⟩ v q)=_
   rw [hpp,hms,hN0]
  have HN2:Hid (num2 ⟨r,am,pe,hm,mo,hl,le⟩ v q=if hl=true∧num1 ⟨r,am,pe,hm,mo,hl,le⟩ v q<ls then ls else num1 ⟨r,am,pe,hm,mo,hl,le⟩ v q):=by
   show (if hl=true∧num1 ⟨r,am,pe,hm,mo,hl,le⟩ v q<le*v*perOf ⟨r,am,pe,hm,mo,hl,le⟩ then le*v*perOf ⟨r,am,pe,hm,mo,hl,le⟩ else num1 ⟨r,am,pe,hm,mo,hl,le⟩ v q)=_
   rw [hpp,hls]
  have HQ:Hid (quo18 ⟨r,am,pe,hm,mo,hl,le⟩ v q=divOut (num2 ⟨r,am,pe,hm,mo,hl,le⟩ v q) (1000000*pp) 2):=by
   show divOut _ (1000000*perOf ⟨r,am,pe,hm,mo,hl,le⟩) 2=_
   rw [hpp]
  have HOV:=Lib.hid (fun h=>evalOut_over (d:=⟨r,am,pe,hm,mo,hl,le⟩) (v:=v) (q:=q) hde0 HIR.out h)
  have HOK:=Lib.hid (fun h=>evalOut_ok (d:=⟨r,am,pe,hm,mo,hl,le⟩) (v:=v) (q:=q) hde0 HIR.out h)
  have HPt:Hid (∀ wx,RowKit.Below W.heap.size W wx→Calls Tryz.prog 97 #[.int .i64 r,.pointer (some ⟨w.heap.size+1,0,none⟩),.pointer (some ⟨w1.heap.size,0,none⟩)] wx fun e w'=>e=.returned (.agg #[.int .u64 (hiW p0),.int .u64 (loW p0)])∧RowKit.Below wx.heap.size wx w'):=fun wx hb=>by
   rw [← hp0]
   exact part18_any r v pp _ _ wx (Nat.lt_of_lt_of_le lW1 hb.size) (Nat.lt_of_lt_of_le lW2 hb.size) ((HXvw.keep hb).cell 0) ((HWp.keep hb).cell 0) r0 r1 v0 v1 pp0 pp1
  have HMl:Hid (∀ wx,Calls Tryz.prog 98 #[.int .u64 y,.int .u64 1000000] wx fun e w'=>e=.returned (.agg #[.int .u64 (hiW ym),.int .u64 (loW ym)])∧RowKit.Below wx.heap.size wx w'):=fun wx=>mul_w y 1000000 ym wx hym y0 (by omega) (by omega) (by omega)
  have HAd:Hid (∀ wx,Calls Tryz.prog 99 #[.agg #[.int .u64 (hiW p0),.int .u64 (loW p0)],.agg #[.int .u64 (hiW ym),.int .u64 (loW ym)]] wx fun e w'=>e=.returned (.tuple #[.agg #[.int .u64 (hiW n0),.int .u64 (loW n0)],.int .i64 0])∧RowKit.Below wx.heap.size wx w'):=fun wx=>by
   rw [← hn0]
   exact add_w p0 ym wx k0 (Int.le_trans k1 (by decide)) (by omega) (by omega)
  have HPM:Hid (∀ (n:Int) gs wx,EvB w w.heap.size w1.heap.size gs #[.int .i64 r,.int .i64 am,.int .i64 pe,.bool hm,.int .i64 mo,.bool hl,.int .i64 le] v pp n wx→Calls Tryz.prog 97 #[.int .i64 mo,.pointer (some ⟨w.heap.size+1,0,none⟩),.pointer (some ⟨w1.heap.size,0,none⟩)] wx fun e w'=>e=.returned (.agg #[.int .u64 (hiW ms),.int .u64 (loW ms)])∧EvB w w.heap.size w1.heap.size gs #[.int .i64 r,.int .i64 am,.int .i64 pe,.bool hm,.int .i64 mo,.bool hl,.int .i64 le] v pp n w'):=fun n gs wx h=>h.part mo ms hms mo0 mo1 v0 v1 pp0 pp1
  have HPL:Hid (∀ (n:Int) gs wx,EvB w w.heap.size w1.heap.size gs #[.int .i64 r,.int .i64 am,.int .i64 pe,.bool hm,.int .i64 mo,.bool hl,.int .i64 le] v pp n wx→Calls Tryz.prog 97 #[.int .i64 le,.pointer (some ⟨w.heap.size+1,0,none⟩),.pointer (some ⟨w1.heap.size,0,none⟩)] wx fun e w'=>e=.returned (.agg #[.int .u64 (hiW ls),.int .u64 (loW ls)])∧EvB w w.heap.size w1.heap.size gs #[.int .i64 r,.int .i64 am,.int .i64 pe,.bool hm,.int .i64 mo,.bool hl,.int .i64 le] v pp n w'):=fun n gs wx h=>h.part le ls hls le0 le1 v0 v1 pp0 pp1
  have HCM:Hid (∀ (n x:Int) gs wx,EvB w w.heap.size w1.heap.size gs #[.int .i64 r,.int .i64 am,.int .i64 pe,.bool hm,.int .i64 mo,.bool hl,.int .i64 le] v pp n wx→0≤n→0≤x→Calls Tryz.prog 100 #[.agg #[.int .u64 (hiW n),.int .u64 (loW n)],.agg #[.int .u64 (hiW x),.int .u64 (loW x)]] wx fun e w'=>e=.returned (.int .i64 (cmpV n x))∧EvB w w.heap.size w1.heap.size gs #[.int .i64 r,.int .i64 am,.int .i64 pe,.bool hm,.int .i64 mo,.bool hl,.int .i64 le] v pp n w'):=fun n x gs wx h h0 hx=>h.cmp x h0 hx
  have u3:IntKind.u64.wrap y=y:=IntWalk.u64_in _ (by omega)
  have u3b:IntKind.u64.wrap (am*q)=y:=by rw [hy];exact u3
  clear hp0 hms hls hy hym hn0 hN0 hpp x0 x1 mb0 mb1 lb0 lb1
  refine wp_region_rows [
    ⟨⟨some 39,[],[]⟩,fun _ v=>v=.func (.func 97) #[] #[.pointer (some ⟨w.heap.size+1,0,none⟩),.pointer (some ⟨w1.heap.size,0,none⟩)],NoR⟩,
    ⟨⟨some 40,[],[]⟩,fun _ v=>v=.pointer (some ⟨w.heap.size,0,none⟩),NoR⟩,
    ⟨⟨some 41,[1],[]⟩,fun _ v=>v=.int .i64 r,NoR⟩,
    ⟨⟨some 42,[2,0],[]⟩,fun _ v=>v=.agg #[.int .u64 (hiW p0),.int .u64 (loW p0)],NoR⟩,
    ⟨⟨some 43,[],[]⟩,fun _ v=>v=.pointer (some ⟨w.heap.size,1,none⟩),NoR⟩,
    ⟨⟨some 44,[4],[]⟩,fun _ v=>v=.int .i64 am,NoR⟩,
    ⟨⟨some 45,[5],[]⟩,fun _ v=>v=.int .u64 am,NoR⟩,
    ⟨⟨some 46,[],[]⟩,fun _ v=>v=.int .i64 q,NoR⟩,
    ⟨⟨some 47,[7],[]⟩,fun _ v=>v=.int .u64 q,NoR⟩,
    ⟨⟨some 48,[6,8],[]⟩,fun _ v=>v=.int .u64 y,NoR⟩,
    ⟨⟨some 49,[9],[]⟩,fun _ v=>v=.agg #[.int .u64 (hiW ym),.int .u64 (loW ym)],NoR⟩,
    ⟨⟨some 50,[3,10],[]⟩,fun _ v=>v=.tuple #[.agg #[.int .u64 (hiW n0),.int .u64 (loW n0)],.int .i64 0],NoR⟩,
    ⟨⟨some 38,[11],[]⟩,fun _ v=>v=.tuple #[.agg #[.int .u64 (hiW n0),.int .u64 (loW n0)],.int .i64 0],NoR⟩,
    ⟨⟨some 51,[12],[]⟩,fun _ v=>v=.agg #[.int .u64 (hiW n0),.int .u64 (loW n0)],NoR⟩,
    ⟨⟨some 52,[12],[]⟩,fun _ v=>v=.int .i64 0,NoR⟩,
    ⟨⟨some 11,[],[]⟩,NoF,PtrR 197 #[.int .u64 0,.int .u64 0]⟩,
    ⟨⟨none,[15,13],[15]⟩,NoF,PutR 197 #[.int .u64 (hiW n0),.int .u64 (loW n0)]⟩,
    ⟨⟨some 12,[14],[]⟩,fun _ v=>v=.int .i64 0,NoR⟩] (by kernel_rfl) (by kernel_rfl) (by kernel_rfl) ⟨NoR.loc,NoR.loc,NoR.loc,NoR.loc,NoR.loc,NoR.loc,NoR.loc,NoR.loc,NoR.loc,NoR.loc,NoR.loc,NoR.loc,NoR.loc,NoR.loc,NoR.loc,PtrR.loc,PutR.loc,NoR.loc,trivial⟩ ⟨?r0,?r1,?r2,?r3,?r4,?r5,?r6,?r7,?r8,?r9,?r10,?r11,?r12,?r13,?r14,?r15,?r16,?r17,trivial⟩ ?fin
  case r0 =>
   refine step_of rfl rfl ?_
   intro a wx vs fp K hF hK
   exact op_move rfl (hF.at_ 10 rfl) (hK _ _ _ (hF.only rfl trivial))
  case r1 =>
   refine step_of rfl rfl ?_
   intro a wx vs fp K hF hK
   have ea:a.eval (.tmp 3)=.pointer (some ⟨w.heap.size,0,none⟩):=hF.at_ 3 rfl
   refine op_value (v:=.pointer (some ⟨w.heap.size,0,none⟩)) ?_ (hK _ _ _ (hF.only rfl trivial))
   clear hF hK
   generalize a.eval=ρ at *
   go_simp
  case r2 =>
   refine step_of rfl rfl ?_
   intro a wx vs fp K hF hK
   have ea:a.eval (.tmp 40)=.pointer (some ⟨w.heap.size,0,none⟩):=(hF.ev 1 40 rfl rfl).trans (hF.va 1 rfl)
   have mc:=(hF.below.cell (p:=⟨w.heap.size,0,none⟩) lW0).trans q0
   refine op_value (v:=.int .i64 r) ?_ (hK _ _ _ (hF.only rfl trivial))
   clear hF hK
   generalize a.eval=ρ at *
   go_simp
  case r3 =>
   refine step_of rfl rfl ?_
   intro a wx vs fp K hF hK
   have e0:a.eval (.tmp 41)=.int .i64 r:=(hF.ev 2 41 rfl rfl).trans (hF.va 2 rfl)
   have ef:a.eval (.tmp 39)=.func (.func 97) #[] #[.pointer (some ⟨w.heap.size+1,0,none⟩),.pointer (some ⟨w1.heap.size,0,none⟩)]:=(hF.ev 0 39 rfl rfl).trans (hF.va 0 rfl)
   refine op_callf (vals:=#[.int .i64 r]) rfl ef (by kernel_rfl) ?_ rfl ((HPt.out wx hF.below).mono ?_)
   ·simp only [List.map_toArray,List.map_cons,List.map_nil,e0] <;> rfl
   rintro e w' ⟨rfl,hb⟩
   exact⟨_,rfl,hK _ _ [] (hF.under hb rfl trivial (fun g hg=>(by cases hg)))⟩
  case r4 =>
   refine step_of rfl rfl ?_
   intro a wx vs fp K hF hK
   have ea:a.eval (.tmp 3)=.pointer (some ⟨w.heap.size,0,none⟩):=hF.at_ 3 rfl
   refine op_value (v:=.pointer (some ⟨w.heap.size,1,none⟩)) ?_ (hK _ _ _ (hF.only rfl trivial))
   clear hF hK
   generalize a.eval=ρ at *
   go_simp
  case r5 =>
   refine step_of rfl rfl ?_
   intro a wx vs fp K hF hK
   have ea:a.eval (.tmp 43)=.pointer (some ⟨w.heap.size,1,none⟩):=(hF.ev 4 43 rfl rfl).trans (hF.va 4 rfl)
   have mc:=(hF.below.cell (p:=⟨w.heap.size,1,none⟩) lW0).trans q1
   refine op_value (v:=.int .i64 am) ?_ (hK _ _ _ (hF.only rfl trivial))
   clear hF hK
   generalize a.eval=ρ at *
   go_simp
  case r6 =>
   refine step_of rfl rfl ?_
   intro a wx vs fp K hF hK
   have ev5:a.eval (.tmp 44)=.int .i64 am:=(hF.ev 5 44 rfl rfl).trans (hF.va 5 rfl)
   refine op_value (v:=.int .u64 am) ?_ (hK _ _ _ (hF.only rfl trivial))
   have ec:∀ v,a.eval (.const v)=v:=fun _=>rfl
   clear hF hK
   generalize a.eval=ρ at *
   go_simp
  case r7 =>
   refine step_of rfl rfl ?_
   intro a wx vs fp K hF hK
   exact op_move rfl (hF.at_ 2 rfl) (hK _ _ _ (hF.only rfl trivial))
  case r8 =>
   refine step_of rfl rfl ?_
   intro a wx vs fp K hF hK
   have ev7:a.eval (.tmp 46)=.int .i64 q:=(hF.ev 7 46 rfl rfl).trans (hF.va 7 rfl)
   refine op_value (v:=.int .u64 q) ?_ (hK _ _ _ (hF.only rfl trivial))
   have ec:∀ v,a.eval (.const v)=v:=fun _=>rfl
   clear hF hK
   generalize a.eval=ρ at *
   go_simp
  case r9 =>
   refine step_of rfl rfl ?_
   intro a wx vs fp K hF hK
   have ev6:a.eval (.tmp 45)=.int .u64 am:=(hF.ev 6 45 rfl rfl).trans (hF.va 6 rfl)
   have ev8:a.eval (.tmp 47)=.int .u64 q:=(hF.ev 8 47 rfl rfl).trans (hF.va 8 rfl)
   refine op_value (v:=.int .u64 y) ?_ (hK _ _ _ (hF.only rfl trivial))
   have ec:∀ v,a.eval (.const v)=v:=fun _=>rfl
   clear hF hK
   generalize a.eval=ρ at *
   go_simp
  case r10 =>
   refine step_of rfl rfl ?_
   intro a wx vs fp K hF hK
   have e0:a.eval (.tmp 48)=.int .u64 y:=(hF.ev 9 48 rfl rfl).trans (hF.va 9 rfl)
   refine op_call (vals:=#[.int .u64 y,.int .u64 1000000]) rfl (by kernel_rfl) ?_ ((HMl.out wx).mono ?_)
   ·simp only [List.map_toArray,List.map_cons,List.map_nil,e0] <;> rfl
   rintro e w' ⟨rfl,hb⟩
   exact⟨_,rfl,hK _ _ [] (hF.under hb rfl trivial (fun g hg=>(by cases hg)))⟩
  case r11 =>
   refine step_of rfl rfl ?_
   intro a wx vs fp K hF hK
   have e0:a.eval (.tmp 42)=.agg #[.int .u64 (hiW p0),.int .u64 (loW p0)]:=(hF.ev 3 42 rfl rfl).trans (hF.va 3 rfl)
   have e1:a.eval (.tmp 49)=.agg #[.int .u64 (hiW ym),.int .u64 (loW ym)]:=(hF.ev 10 49 rfl rfl).trans (hF.va 10 rfl)
   refine op_call (vals:=#[.agg #[.int .u64 (hiW p0),.int .u64 (loW p0)],.agg #[.int .u64 (hiW ym),.int .u64 (loW ym)]]) rfl (by kernel_rfl) ?_ ((HAd.out wx).mono ?_)
   ·simp only [List.map_toArray,List.map_cons,List.map_nil,e0,e1] <;> rfl
   rintro e w' ⟨rfl,hb⟩
   exact⟨_,rfl,hK _ _ [] (hF.under hb rfl trivial (fun g hg=>(by cases hg)))⟩
  case r12 =>
   refine step_of rfl rfl ?_
   intro a wx vs fp K hF hK
   exact op_move rfl ((hF.ev 11 50 rfl rfl).trans (hF.va 11 rfl)) (hK _ _ _ (hF.only rfl trivial))
  case r13 =>
   refine step_of rfl rfl ?_
   intro a wx vs fp K hF hK
   exact op_extract rfl ((hF.ev 12 38 rfl rfl).trans (hF.va 12 rfl)) rfl (hK _ _ _ (hF.only rfl trivial))
  case r14 =>
   refine step_of rfl rfl ?_
   intro a wx vs fp K hF hK
   exact op_extract rfl ((hF.ev 12 38 rfl rfl).trans (hF.va 12 rfl)) rfl (hK _ _ _ (hF.only rfl trivial))
  case r15 =>
   refine step_of rfl rfl ?_
   intro a wx vs fp K hF hK
   refine op_value (v:=.pointer (some ⟨wx.heap.size,0,none⟩)) (w':=wx.alloc (.cells #[.int .u64 0,.int .u64 0] 197)) ?_ (hK _ _ _ (hF.made _ trivial ⟨_,rfl,rfl,Bl.new _ _ _⟩))
   have ec:∀ v,a.eval (.const v)=v:=fun _=>rfl
   clear hF hK
   generalize a.eval=ρ at *
   go_simp
  case r16 =>
   refine step_of rfl rfl ?_
   intro a wx vs fp K hF hK
   have hm:PtrR 197 #[.int .u64 0,.int .u64 0] [] (vs 15) (fp 15) wx:=hF.me 15 rfl
   obtain⟨g,hg,hfg,hbl⟩:=hm
   have e1:a.eval (.tmp 11)=.pointer (some ⟨g,0,none⟩):=(hF.ev 15 11 rfl rfl).trans hg
   have e2:a.eval (.tmp 51)=.agg #[.int .u64 (hiW n0),.int .u64 (loW n0)]:=(hF.ev 13 51 rfl rfl).trans (hF.va 13 rfl)
   have y0:wx.cell? ⟨g,0,none⟩=some (.int .u64 0):=hbl.cell 0
   have y1:wx.cell? ⟨g,1,none⟩=some (.int .u64 0):=hbl.cell 1
   have f0:wx.frozen? ⟨g,0,none⟩=false:=hbl.free 0
   have f1:wx.frozen? ⟨g,1,none⟩=false:=hbl.free 1
   refine op_skip (w':=(wx.setCell ⟨g,0,none⟩ (.int .u64 (hiW n0))).setCell ⟨g,1,none⟩ (.int .u64 (loW n0))) ?_ (hK undef _ _ (hF.wrote 15 rfl hfg (((Only.refl g wx).setCell 0 _).setCell 1 _) trivial ⟨g,congrArg some hg,rfl,set2_bl hbl _ _⟩))
   have ec:∀ v,a.eval (.const v)=v:=fun _=>rfl
   clear hF hK
   generalize a.eval=ρ at *
   go_simp
  case r17 =>
   refine step_of rfl rfl ?_
   intro a wx vs fp K hF hK
   exact op_assign rfl ((hF.ev 14 52 rfl rfl).trans (hF.va 14 rfl)) (hK _ _ _ (hF.only rfl trivial))
  case fin =>
   intro wz vs fp hI
   obtain⟨⟨gs,hg,hfg,hbl⟩,hgo⟩:PutR 197 #[.int .u64 (hiW n0),.int .u64 (loW n0)] [vs 15,vs 13] (vs 16) (fp 16) wz∧_:=hI.finM 16 (by decide) rfl
   have hv15:vs 15=.pointer (some ⟨gs,0,none⟩):=by simpa using hg
   have hv17:vs 17=.int .i64 0:=hI.fin 17 (by decide)
   have hgs:W.heap.size≤gs:=(hgo gs (by rw [hfg];simp)).1
   have HBz:=HBW.out.trans (hI.below.mono HBW.out.size)
   have HE0:Hid (EvB w w.heap.size w1.heap.size gs #[.int .i64 r,.int .i64 am,.int .i64 pe,.bool hm,.int .i64 mo,.bool hl,.int .i64 le] v pp n0 wz):=⟨HBz,HXw.keep hI.below,HXvw.keep hI.below,HWp.keep hI.below,hbl,Nat.le_trans HBW.out.size hgs⟩
   clear hI hg hbl hgs HBz hgo hfg
   simp only [rj,number,putJ,List.map_cons,List.map_nil,if_true,Act.put,List.setIfInBounds_toArray,List.set_cons_zero,List.set_cons_succ,hv15,hv17]
   generalize vs 0=zv0
   generalize vs 1=zv1
   generalize vs 2=zv2
   generalize vs 3=zv3
   generalize vs 4=zv4
   generalize vs 5=zv5
   generalize vs 6=zv6
   generalize vs 7=zv7
   generalize vs 8=zv8
   generalize vs 9=zv9
   generalize vs 10=zv10
   generalize vs 11=zv11
   generalize vs 12=zv12
   generalize vs 13=zv13
   generalize vs 14=zv14
   generalize vs 16=zv16
   clear hv15 hv17
   clear q0 q1 HPt HMl HAd HWp HXw HXvw HBW lW0 lW1 lW2 HDR HIR HP HP2
   go_upto_region 11 with (fail)
   clear u0 u1 u2 u3 u3b
   have e3:wz.cell? ⟨w.heap.size,3,none⟩=some (.bool hm):=HE0.out.d.cell 3
   have e4:wz.cell? ⟨w.heap.size,4,none⟩=some (.int .i64 mo):=HE0.out.d.cell 4
   have s0:wz.cell? ⟨gs,0,none⟩=some (.int .u64 (hiW n0)):=HE0.out.s.cell 0
   have s1:wz.cell? ⟨gs,1,none⟩=some (.int .u64 (loW n0)):=HE0.out.s.cell 1
   go_cut [65] (fun b wx=>b=.bool (hm && decide (ms<n0))∧Hid (EvB w w.heap.size w1.heap.size gs #[.int .i64 r,.int .i64 am,.int .i64 pe,.bool hm,.int .i64 mo,.bool hl,.int .i64 le] v pp n0 wx))
   case first =>
    cases hm
    case false =>
     go_quiet (fail)
     go_wp2_with fail
     go_meet
     exact⟨rfl,HE0.out.drewN _⟩
    case true =>
     have dc:decide (cmpV n0 ms > 0)=decide (ms<n0):=cmp_gt _ _
     have HS:Hid (∀ wx,EvB w w.heap.size w1.heap.size gs #[.int .i64 r,.int .i64 am,.int .i64 pe,.bool true,.int .i64 mo,.bool hl,.int .i64 le] v pp n0 wx→wx.cell? ⟨w.heap.size,3,none⟩=some (.bool true)∧wx.cell? ⟨w.heap.size,4,none⟩=some (.int .i64 mo)∧wx.cell? ⟨gs,0,none⟩=some (.int .u64 (hiW n0))∧wx.cell? ⟨gs,1,none⟩=some (.int .u64 (loW n0))):=fun wx h=>⟨h.d.cell 3,h.d.cell 4,h.s.cell 0,h.s.cell 1⟩
     have hk0:=Lib.hid HE0.out.drew
     go_region_held3 (fun wx=>wx.cell? ⟨w.heap.size,3,none⟩=some (.bool true)∧wx.cell? ⟨w.heap.size,4,none⟩=some (.int .i64 mo)∧wx.cell? ⟨gs,0,none⟩=some (.int .u64 (hiW n0))∧wx.cell? ⟨gs,1,none⟩=some (.int .u64 (loW n0)))
      (first
       | with_reducible exact HS.out _ hkb.out
       | with_reducible exact HS.out _ hka.out
       | with_reducible exact HS.out _ hk0.out
       | with_reducible exact HS.out _ HE0.out)
      (first
       | (go_at_call 97;with_reducible (refine (HPM.out _ _ _ hk0.out).mono ?_);rintro e wa ⟨rfl,ha⟩;have hka:=Lib.hid ha)
       | (go_at_call 100;with_reducible (refine (HCM.out _ _ _ _ hka.out b0.1 mc0).mono ?_);rintro e wb ⟨rfl,hb⟩;have hkb:=Lib.hid hb))
     all_goals (go_wp2_with fail;go_meet;exact⟨by rw [Bool.true_and],hkb.out⟩)
   case rest =>
   obtain⟨rfl,HE1a⟩:=hcut
   clear e3 e4 s0 s1
   go_upto_if 65 with (fail)
   go_cut [11] (fun a wx=>∃ n:Int,a=.pointer (some ⟨gs,0,none⟩)∧(0≤n∧n≤10100000000000000000000000)∧Hid (num1 ⟨r,am,pe,hm,mo,hl,le⟩ v q=n)∧Hid (EvB w w.heap.size w1.heap.size gs #[.int .i64 r,.int .i64 am,.int .i64 pe,.bool hm,.int .i64 mo,.bool hl,.int .i64 le] v pp n wx))
   case first =>
    cases hb:(hm && decide (ms<n0))
    case false =>
     go_wp2_with fail
     go_meet
     exact⟨n0,rfl,b0,(by show _=_;rw [HN1.out,if_neg (by intro h;rw [h.1] at hb;simp at hb;omega)]),HE1a.out⟩
    case true =>
     have e4:wc.cell? ⟨w.heap.size,4,none⟩=some (.int .i64 mo):=HE1a.out.d.cell 4
     go_wp2_with fail
     refine (HPM.out _ _ _ HE1a.out).mono ?_
     rintro e wa ⟨rfl,ha⟩
     have s0:wa.cell? ⟨gs,0,none⟩=some (.int .u64 (hiW n0)):=ha.s.cell 0
     have s1:wa.cell? ⟨gs,1,none⟩=some (.int .u64 (loW n0)):=ha.s.cell 1
     have f0:wa.frozen? ⟨gs,0,none⟩=false:=ha.s.free 0
     have f1:wa.frozen? ⟨gs,1,none⟩=false:=ha.s.free 1
     have HA:=Lib.hid (ha.put ms)
     clear ha
     go_wp2_with fail
     go_meet
     exact⟨ms,rfl,by omega,(by show _=_;rw [HN1.out,if_pos (by simpa using hb)]),HA.out⟩
   case rest =>
   obtain⟨n1,rfl,hn1,HNM1,HE1⟩:=hcut
   clear HE1a
   go_upto_region 13 with (fail)
   have e3:wc.cell? ⟨w.heap.size,5,none⟩=some (.bool hl):=HE1.out.d.cell 5
   have e4:wc.cell? ⟨w.heap.size,6,none⟩=some (.int .i64 le):=HE1.out.d.cell 6
   have s0:wc.cell? ⟨gs,0,none⟩=some (.int .u64 (hiW n1)):=HE1.out.s.cell 0
   have s1:wc.cell? ⟨gs,1,none⟩=some (.int .u64 (loW n1)):=HE1.out.s.cell 1
   go_cut [80] (fun b wx=>b=.bool (hl && decide (n1<ls))∧Hid (EvB w w.heap.size w1.heap.size gs #[.int .i64 r,.int .i64 am,.int .i64 pe,.bool hm,.int .i64 mo,.bool hl,.int .i64 le] v pp n1 wx))
   case first =>
    cases hl
    case false =>
     go_quiet (fail)
     go_wp2_with fail
     go_meet
     exact⟨rfl,HE1.out.drewN _⟩
    case true =>
     have dc:decide (cmpV n1 ls<0)=decide (n1<ls):=cmp_lt _ _
     have HS:Hid (∀ wx,EvB w w.heap.size w1.heap.size gs #[.int .i64 r,.int .i64 am,.int .i64 pe,.bool hm,.int .i64 mo,.bool true,.int .i64 le] v pp n1 wx→wx.cell? ⟨w.heap.size,5,none⟩=some (.bool true)∧wx.cell? ⟨w.heap.size,6,none⟩=some (.int .i64 le)∧wx.cell? ⟨gs,0,none⟩=some (.int .u64 (hiW n1))∧wx.cell? ⟨gs,1,none⟩=some (.int .u64 (loW n1))):=fun wx h=>⟨h.d.cell 5,h.d.cell 6,h.s.cell 0,h.s.cell 1⟩
     have hk0:=Lib.hid HE1.out.drew
     go_region_held3 (fun wx=>wx.cell? ⟨w.heap.size,5,none⟩=some (.bool true)∧wx.cell? ⟨w.heap.size,6,none⟩=some (.int .i64 le)∧wx.cell? ⟨gs,0,none⟩=some (.int .u64 (hiW n1))∧wx.cell? ⟨gs,1,none⟩=some (.int .u64 (loW n1)))
      (first
       | with_reducible exact HS.out _ hkb.out
       | with_reducible exact HS.out _ hka.out
       | with_reducible exact HS.out _ hk0.out
       | with_reducible exact HS.out _ HE1.out)
      (first
       | (go_at_call 97;with_reducible (refine (HPL.out _ _ _ hk0.out).mono ?_);rintro e wa ⟨rfl,ha⟩;have hka:=Lib.hid ha)
       | (go_at_call 100;with_reducible (refine (HCM.out _ _ _ _ hka.out hn1.1 lc0).mono ?_);rintro e wb ⟨rfl,hb⟩;have hkb:=Lib.hid hb))
     all_goals (go_wp2_with fail;go_meet;exact⟨by rw [Bool.true_and],hkb.out⟩)
   case rest =>
   obtain⟨rfl,HE2a⟩:=hcut
   clear e3 e4 s0 s1
   go_upto_if 80 with (fail)
   go_cut [11] (fun a wx=>∃ n:Int,a=.pointer (some ⟨gs,0,none⟩)∧(0≤n∧n≤10100000000000000000000000)∧Hid (num2 ⟨r,am,pe,hm,mo,hl,le⟩ v q=n)∧Hid (EvB w w.heap.size w1.heap.size gs #[.int .i64 r,.int .i64 am,.int .i64 pe,.bool hm,.int .i64 mo,.bool hl,.int .i64 le] v pp n wx))
   case first =>
    cases hb:(hl && decide (n1<ls))
    case false =>
     go_wp2_with fail
     go_meet
     exact⟨n1,rfl,hn1,(by show _=_;rw [HN2.out,HNM1.out,if_neg (by intro h;rw [h.1] at hb;simp at hb;omega)]),HE2a.out⟩
    case true =>
     have e4:wc.cell? ⟨w.heap.size,6,none⟩=some (.int .i64 le):=HE2a.out.d.cell 6
     go_wp2_with fail
     refine (HPL.out _ _ _ HE2a.out).mono ?_
     rintro e wa ⟨rfl,ha⟩
     have s0:wa.cell? ⟨gs,0,none⟩=some (.int .u64 (hiW n1)):=ha.s.cell 0
     have s1:wa.cell? ⟨gs,1,none⟩=some (.int .u64 (loW n1)):=ha.s.cell 1
     have f0:wa.frozen? ⟨gs,0,none⟩=false:=ha.s.free 0
     have f1:wa.frozen? ⟨gs,1,none⟩=false:=ha.s.free 1
     have HA:=Lib.hid (ha.put ls)
     clear ha
     go_wp2_with fail
     go_meet
     exact⟨ls,rfl,by omega,(by show _=_;rw [HN2.out,HNM1.out,if_pos (by simpa using hb)]),HA.out⟩
   case rest =>
   obtain⟨n2,rfl,hn2,HNM2,HE2⟩:=hcut
   clear HE2a
   have s0:wc.cell? ⟨gs,0,none⟩=some (.int .u64 (hiW n2)):=HE2.out.s.cell 0
   have s1:wc.cell? ⟨gs,1,none⟩=some (.int .u64 (loW n2)):=HE2.out.s.cell 1
   have p0':wc.cell? ⟨w1.heap.size,0,none⟩=some (.int .u64 pp):=HE2.out.p.cell 0
   have w6:IntKind.u64.wrap (1000000*pp)=1000000*pp:=IntWalk.u64_in _ (by omega)
   have HDV:=Lib.hid (div_w n2 (1000000*pp) 2 wc hn2.1 (by omega) (by omega) (by omega))
   rw [← HNM2.out,← HQ.out] at HDV
   obtain⟨qq,hqq⟩:∃ x,quo18 ⟨r,am,pe,hm,mo,hl,le⟩ v q=x:=⟨_,rfl⟩
   rw [hqq] at HDV HOV HOK
   clear hqq HQ
   obtain⟨qv,qe⟩:=qq
   dsimp only at HDV HOV HOK
   rw [HNM2.out] at HDV
   go_wp2_with fail
   refine HDV.out.mono ?_
   rintro e wd ⟨rfl,hbd⟩
   have HBD:=Lib.hid (HE2.out.under hbd).below
   clear hbd s0 s1 p0' HDV HE2
   by_cases h1:qe=0
   case neg =>
    have d1:(qe != 0)=true:=by simpa using h1
    have E:=Lib.hid (HOV.out (.inl h1))
    clear h1
    go_wp2
    go_ret2
    exact ERes.of E.out HBD.out
   case pos =>
   have d1:(qe != 0)=false:=by simpa using h1
   by_cases h2:1000000000000<qv
   case pos =>
    have d2:decide (qv > 1000000000000)=true:=by simp;omega
    have d2b:decide (1000000000000<qv)=true:=by simp;omega
    have E:=Lib.hid (HOV.out (.inr h2))
    clear h1 h2
    go_wp2
    go_ret2
    exact ERes.of E.out HBD.out
   case neg =>
   have d2:decide (qv > 1000000000000)=false:=by simp;omega
   have d2b:decide (1000000000000<qv)=false:=by simp;omega
   have E:=Lib.hid (HOK.out (by rintro (h | h);exact h h1;exact h2 h))
   have hq0:=evalOut_bounds (d:=⟨r,am,pe,hm,mo,hl,le⟩) (v:=v) (q:=q) (by rw [E.out])
   rw [E.out] at hq0
   have w7:IntKind.i64.wrap qv=qv:=IntWalk.i64_in _ (by have:=hq0.1;have:=hq0.2;dsimp only at *;omega)
   clear h1 h2 hq0
   go_wp2
   go_ret2
   exact ERes.of E.out HBD.out
 ·have y1:(de == 0)=false:=by simpa using z1
  have y1n:(de != 0)=true:=by simpa using z1
  have E:=Lib.hid (HBad.out z1)
  clear z1 HBad HRng HZ
  go_wp2
  go_ret2
  exact ERes.of E.out HB1.out
theorem set5_bl {w:World} {g:Nat} {T:TypeId} {z0 z1 z2 z3 z4:Value} (h:Bl w g T #[z0,z1,z2,z3,z4]) (a b c d e:Value):Bl (((((w.setCell ⟨g,0,none⟩ a).setCell ⟨g,1,none⟩ b).setCell ⟨g,2,none⟩ c).setCell ⟨g,3,none⟩ d).setCell ⟨g,4,none⟩ e) g T #[a,b,c,d,e]:=by
 have:=((((h.put 0 a).put 1 b).put 2 c).put 3 d).put 4 e
 simpa using this
theorem only5 (g:Nat) (w:World) (a b c d e:Value):Only g w (((((w.setCell ⟨g,0,none⟩ a).setCell ⟨g,1,none⟩ b).setCell ⟨g,2,none⟩ c).setCell ⟨g,3,none⟩ d).setCell ⟨g,4,none⟩ e) :=
 (((((Only.refl g w).setCell 0 a).setCell 1 b).setCell 2 c).setCell 3 d).setCell 4 e
def dlA (x:Dl):Array Value:=#[.int .i64 x.kind,.int .i64 x.meas,.int .i64 x.qty,.int .i64 x.val,.int .i64 x.amt]
def LeRes (w:World) (o:Int × Option Dl) (e:Ending) (w':World):Prop:=e=.returned (.tuple #[.agg (dlA (bestL o)),.bool (fndOf o),.int .i64 o.1])∧RowKit.Below w.heap.size w w'
structure LdB (w:World) (N:Nat) (cs:Array Value) (x:Dl) (wx:World):Prop where
 below:RowKit.Below N w wx
 p:Bl wx N 74 cs
 r:Bl wx (N+1) 38 #[.int .i64 0,.int .i64 0,.int .i64 0,.int .i64 0,.int .i64 0]
 b:Bl wx (N+2) 38 #[.int .i64 x.kind,.int .i64 x.meas,.int .i64 x.qty,.int .i64 x.val,.int .i64 x.amt]
section
variable {w wx w':World} {N:Nat} {cs:Array Value} {x:Dl}
theorem LdB.size (h:LdB w N cs x wx):N≤wx.heap.size:=Nat.le_of_lt h.p.lt
theorem LdB.under (h:LdB w N cs x wx) (hb:RowKit.Below wx.heap.size wx w'):LdB w N cs x w' :=
 ⟨h.below.trans (hb.mono h.size),h.p.keep hb,h.r.keep hb,h.b.keep hb⟩
theorem LdB.alloc (h:LdB w N cs x wx) (o:Obj):LdB w N cs x (wx.alloc o):=h.under ((Below.refl _ _).alloc (Nat.le_refl _) _)
theorem LdB.put (h:LdB w N cs x wx) (k m q v a:Int):LdB w N cs ⟨k,m,q,v,a⟩ (((((wx.setCell ⟨N+2,0,none⟩ (.int .i64 k)).setCell ⟨N+2,1,none⟩ (.int .i64 m)).setCell ⟨N+2,2,none⟩ (.int .i64 q)).setCell ⟨N+2,3,none⟩ (.int .i64 v)).setCell ⟨N+2,4,none⟩ (.int .i64 a)):=by
 have hO:=only5 (N+2) wx (.int .i64 k) (.int .i64 m) (.int .i64 q) (.int .i64 v) (.int .i64 a)
 exact⟨h.below.trans (hO.below (by omega)),hO.bl h.p (by omega),hO.bl h.r (by omega),set5_bl h.b _ _ _ _ _⟩
theorem LdB.res (h:LdB w N cs x wx) (y:Dl):RowKit.Below N w (((((wx.setCell ⟨N+1,0,none⟩ (.int .i64 y.kind)).setCell ⟨N+1,1,none⟩ (.int .i64 y.meas)).setCell ⟨N+1,2,none⟩ (.int .i64 y.qty)).setCell ⟨N+1,3,none⟩ (.int .i64 y.val)).setCell ⟨N+1,4,none⟩ (.int .i64 y.amt))∧Bl (((((wx.setCell ⟨N+1,0,none⟩ (.int .i64 y.kind)).setCell ⟨N+1,1,none⟩ (.int .i64 y.meas)).setCell ⟨N+1,2,none⟩ (.int .i64 y.qty)).setCell ⟨N+1,3,none⟩ (.int .i64 y.val)).setCell ⟨N+1,4,none⟩ (.int .i64 y.amt)) (N+1) 38 #[.int .i64 y.kind,.int .i64 y.meas,.int .i64 y.qty,.int .i64 y.val,.int .i64 y.amt] :=
 ⟨h.below.trans ((only5 (N+1) wx _ _ _ _ _).below (by omega)),set5_bl h.r _ _ _ _ _⟩
end
set_option maxRecDepth 100000 in
set_option maxHeartbeats 16000000 in
theorem leastDuty_any (A:Option Addr) (n c:Nat) (xs:List MsA) (qty val:Int) (KA:Option Addr) (kn kc:Nat) (ks:List Int) (w:World) (h:Recs encM 15 w A n xs) (hk:Ints w KA kn ks) (hn:n≤1000000) (hkn:kn≤1000000) :
  Calls Tryz.prog 26 #[.slice A n c,.agg #[.int .i64 qty,.int .i64 val,.slice KA kn kc]] w (LeRes w (leastOf (msL xs) ⟨qty,val,ks⟩)):=by
 have HX:=Lib.hid h
 have HK:=Lib.hid hk
 have hxl:(msL xs).length=n:=by rw [msL_len];exact h.1
 have hkl:ks.length=kn:=hk.1
 obtain⟨pt,hpt⟩:∃ pt:Pt,pt=⟨qty,val,ks⟩:=⟨_,rfl⟩
 obtain⟨l,hl⟩:∃ l,msL xs=l:=⟨_,rfl⟩
 have HG:Hid (∀ i:Nat,l[i]! = xs[i]!.m):=fun i=>by rw [← hl,msL_get]
 have HEV:Hid (∀ (y:MsA) wx,Calls Tryz.prog 56 #[.agg #[.int .i64 y.m.du.rate,.int .i64 y.m.du.am,.int .i64 y.m.du.per,.bool y.m.du.hm,.int .i64 y.m.du.most,.bool y.m.du.hl,.int .i64 y.m.du.least],.int .i64 val,.int .i64 qty] wx fun e w'=>e=.returned (.tuple #[.int .i64 (evalOut y.m.du pt.val pt.qty).1,.int .i64 (evalOut y.m.du pt.val pt.qty).2])∧RowKit.Below wx.heap.size wx w'):=fun y wx=>by
  rw [hpt]
  exact evaluate_any y.m.du val qty wx
 have HPK:Hid (pt.kinds=ks):=by rw [hpt];exact Lib.hid rfl
 have HQ:Hid (pt.qty=qty∧pt.val=val):=by rw [hpt];exact⟨rfl,rfl⟩
 rw [hl] at hxl ⊢
 rw [← hpt]
 clear h hk hl hpt
 obtain⟨N,hN⟩:∃ N,w.heap.size=N:=⟨_,rfl⟩
 have HL0:Hid (LdB w N #[.int .i64 qty,.int .i64 val,.slice KA kn kc] (bestL (0,none)) (((w.alloc (.cells #[.int .i64 qty,.int .i64 val,.slice KA kn kc] 74)).alloc (.cells #[.int .i64 0,.int .i64 0,.int .i64 0,.int .i64 0,.int .i64 0] 38)).alloc (.cells #[.int .i64 0,.int .i64 0,.int .i64 0,.int .i64 0,.int .i64 0] 38))):=by
  subst hN
  exact⟨(((Below.refl _ _).alloc (Nat.le_refl _) _).alloc (by simp) _).alloc (by simp;omega) _,Bl.alloc (Bl.alloc (Bl.new _ _ _) _) _,by have:=Bl.alloc (Bl.new (w.alloc (.cells #[.int .i64 qty,.int .i64 val,.slice KA kn kc] 74)) 38 #[.int .i64 0,.int .i64 0,.int .i64 0,.int .i64 0,.int .i64 0]) (.cells #[.int .i64 0,.int .i64 0,.int .i64 0,.int .i64 0,.int .i64 0] 38);simpa using this,by have:=Bl.new ((w.alloc (.cells #[.int .i64 qty,.int .i64 val,.slice KA kn kc] 74)).alloc (.cells #[.int .i64 0,.int .i64 0,.int .i64 0,.int .i64 0,.int .i64 0] 38)) 38 #[.int .i64 0,.int .i64 0,.int .i64 0,.int .i64 0,.int .i64 0];simpa [bestL] using this⟩
 go_enter Tryz.func26,Tryz.ntmps26
 go_upto_region 2 with (fail)
 have s1:(w.alloc (.cells #[.int .i64 qty,.int .i64 val,.slice KA kn kc] 74)).heap.size=N+1:=by rw [← hN];simp
 have s2:((w.alloc (.cells #[.int .i64 qty,.int .i64 val,.slice KA kn kc] 74)).alloc (.cells #[.int .i64 0,.int .i64 0,.int .i64 0,.int .i64 0,.int .i64 0] 38)).heap.size=N+2:=by rw [← hN];simp
 try rw [s1]
 try rw [s2]
 try rw [hN]
 try rw [show N+1+1=N+2 from rfl]
 generalize ((w.alloc (.cells #[.int .i64 qty,.int .i64 val,.slice KA kn kc] 74)).alloc (.cells #[.int .i64 0,.int .i64 0,.int .i64 0,.int .i64 0,.int .i64 0] 38)).alloc (.cells #[.int .i64 0,.int .i64 0,.int .i64 0,.int .i64 0,.int .i64 0] 38)=W0 at *
 clear s1 s2
 have c2:W0.cell? ⟨N,2,none⟩=some (.slice KA kn kc):=HL0.out.p.cell 2
 go_wp2_with fail
 go_loopw [8,18] (fun f v wx=>∃ (j:Nat) (s:Int × Option Dl),v=.int .i64 (j:Int)∧f=.bool (fndOf s)∧j≤kn∧Hid (leF l pt j=s)∧s.1=0∧Hid (LdB w N #[.int .i64 qty,.int .i64 val,.slice KA kn kc] (bestL s) wx)) (fun _ v _=>kn - (intOf v).toNat)
 case atStart=>exact⟨0,(0,none),rfl,rfl,Nat.zero_le _,rfl,rfl,HL0.out⟩
 case round =>
  clear HL0 c2
  obtain⟨j,s,rfl,rfl,hj,HS,hs0,HL⟩:=hrel
  by_cases hlt:j<kn
  case neg =>
   obtain rfl:j=kn:=by omega
   have dj:decide ((j:Int)<(j:Int))=false:=by simp
   have HE:Hid (leastOf l pt=s):=by
    show _=_
    rw [← HS.out,← leF_all,HPK.out,hkl]
   have e0:wr.cell? ⟨N+2,0,none⟩=some (.int .i64 (bestL s).kind):=HL.out.b.cell 0
   have e1:wr.cell? ⟨N+2,1,none⟩=some (.int .i64 (bestL s).meas):=HL.out.b.cell 1
   have e2:wr.cell? ⟨N+2,2,none⟩=some (.int .i64 (bestL s).qty):=HL.out.b.cell 2
   have e3:wr.cell? ⟨N+2,3,none⟩=some (.int .i64 (bestL s).val):=HL.out.b.cell 3
   have e4:wr.cell? ⟨N+2,4,none⟩=some (.int .i64 (bestL s).amt):=HL.out.b.cell 4
   have z0:wr.cell? ⟨N+1,0,none⟩=some (.int .i64 0):=HL.out.r.cell 0
   have f0:wr.frozen? ⟨N+1,0,none⟩=false:=HL.out.r.free 0
   have z1:wr.cell? ⟨N+1,1,none⟩=some (.int .i64 0):=HL.out.r.cell 1
   have f1:wr.frozen? ⟨N+1,1,none⟩=false:=HL.out.r.free 1
   have z2:wr.cell? ⟨N+1,2,none⟩=some (.int .i64 0):=HL.out.r.cell 2
   have f2:wr.frozen? ⟨N+1,2,none⟩=false:=HL.out.r.free 2
   have z3:wr.cell? ⟨N+1,3,none⟩=some (.int .i64 0):=HL.out.r.cell 3
   have f3:wr.frozen? ⟨N+1,3,none⟩=false:=HL.out.r.free 3
   have z4:wr.cell? ⟨N+1,4,none⟩=some (.int .i64 0):=HL.out.r.cell 4
   have f4:wr.frozen? ⟨N+1,4,none⟩=false:=HL.out.r.free 4
   have HR:=Lib.hid (HL.out.res (bestL s))
   have HRS:Hid (∀ w',RowKit.Below N w w'→LeRes w (leastOf l pt) (.returned (.tuple #[.agg #[.int .i64 (bestL s).kind,.int .i64 (bestL s).meas,.int .i64 (bestL s).qty,.int .i64 (bestL s).val,.int .i64 (bestL s).amt],.bool (fndOf s),.int .i64 0])) w'):=fun w' hb=>by
    rw [HE.out]
    unfold LeRes dlA
    rw [hs0,hN]
    exact⟨rfl,hb⟩
   clear hs0 HS HE
   generalize fndOf s=fb at *
   generalize (bestL s).kind=k0 at *
   generalize (bestL s).meas=k1 at *
   generalize (bestL s).qty=k2 at *
   generalize (bestL s).val=k3 at *
   generalize (bestL s).amt=k4 at *
   go_wp2
   generalize (((((wr.setCell ⟨N+1,0,none⟩ (.int .i64 k0)).setCell ⟨N+1,1,none⟩ (.int .i64 k1)).setCell ⟨N+1,2,none⟩ (.int .i64 k2)).setCell ⟨N+1,3,none⟩ (.int .i64 k3)).setCell ⟨N+1,4,none⟩ (.int .i64 k4))=W5 at *
   have y0:W5.cell? ⟨N+1,0,none⟩=some (.int .i64 k0):=HR.out.2.cell 0
   have y1:W5.cell? ⟨N+1,1,none⟩=some (.int .i64 k1):=HR.out.2.cell 1
   have y2:W5.cell? ⟨N+1,2,none⟩=some (.int .i64 k2):=HR.out.2.cell 2
   have y3:W5.cell? ⟨N+1,3,none⟩=some (.int .i64 k3):=HR.out.2.cell 3
   have y4:W5.cell? ⟨N+1,4,none⟩=some (.int .i64 k4):=HR.out.2.cell 4
   refine bodyPost_ret (v:=.tuple #[.agg #[.int .i64 k0,.int .i64 k1,.int .i64 k2,.int .i64 k3,.int .i64 k4],.bool fb,.int .i64 0]) (by simp [results,Tryz.results26,go_sem,y0,y1,y2,y3,y4]) rfl (HRS.out _ HR.out.1)
  case pos =>
  have dj:decide ((j:Int)<(kn:Int))=true:=by simp;omega
  obtain⟨bk,ok,kd,rfl,hbk,hck,hkd⟩:=(HK.out).get hlt
  have HKD:Hid (pt.kinds[j]! = kd):=by
   show _=_
   rw [HPK.out,getElem!_pos ks j (by omega),← hkd.out,List.getD_eq_getElem?_getD,List.getElem?_eq_getElem (by omega)]
   rfl
  have hNs:w.heap.size≤N:=by omega
  have c3:wr.cell? ⟨bk,ok+j,none⟩=some (.int .i64 kd):=(HL.out.below.cell (p:=⟨bk,ok+j,none⟩) (show bk<N by omega)).trans hck
  have hjj:(j:Int)<(kn:Int):=by omega
  have hjz:(0:Int)≤(j:Int):=by omega
  clear hck hkd
  go_wp2_with fail
  go_loopw [8,24] (fun f v wx=>∃ (i:Nat) (s:Int × Option Dl),v=.int .i64 (i:Int)∧f=.bool (fndOf s)∧i≤n∧Hid (leG l pt j i=s)∧s.1=0∧Hid (LdB w N #[.int .i64 qty,.int .i64 val,.slice (some ⟨bk,ok,none⟩) kn kc] (bestL s) wx)) (fun _ v _=>n - (intOf v).toNat)
  case atStart=>exact⟨0,s,rfl,rfl,Nat.zero_le _,HS.out,hs0,HL.out⟩
  case round =>
   clear HL HS hs0 c3
   obtain⟨i,s,rfl,rfl,hi,HS,hs0,HL⟩:=hrel
   by_cases hlti:i<n
   case neg =>
    obtain rfl:i=n:=by omega
    have di:decide ((i:Int)<(i:Int))=false:=by simp
    have HS2:Hid (leF l pt (j+1)=s):=by
     show _=_
     rw [leF_step (by rw [HPK.out];omega),hxl]
     exact HS.out
    have uj:IntKind.i64.wrap ((j:Int)+1)=((j+1:Nat):Int):=IntWalk.i64_in _ (by omega)
    go_wp2_with fail
    go_roundw
    case rel=>exact⟨j+1,s,by go_num,rfl,by omega,HS2.out,hs0,HL.out⟩
    case measure=>simp [intOf];omega
   case pos =>
   have di:decide ((i:Int)<(n:Int))=true:=by simp;omega
   obtain⟨b1,o1,hA,hb1,ha⟩:=HX.out.at_ hlti
   subst hA
   obtain⟨y,hy⟩:∃ y,xs[i]! = y:=⟨_,rfl⟩
   rw [hy] at ha
   have HY:Hid (l[i]! = y.m):=by show _=_;rw [HG.out,hy]
   have a0:wr.cell? ⟨b1,o1+i*15,none⟩=some (.int .i64 y.m.id):=(HL.out.below.cell (p:=⟨b1,o1+i*15,none⟩) (show b1<N by omega)).trans (ha 0 (by omega))
   have a1:wr.cell? ⟨b1,o1+i*15+1,none⟩=some (.int .i64 y.m.kind):=(HL.out.below.cell (p:=⟨b1,o1+i*15+1,none⟩) (show b1<N by omega)).trans (ha 1 (by omega))
   have a2:wr.cell? ⟨b1,o1+i*15+2,none⟩=some (.string y.m.pre):=(HL.out.below.cell (p:=⟨b1,o1+i*15+2,none⟩) (show b1<N by omega)).trans (ha 2 (by omega))
   have a3:wr.cell? ⟨b1,o1+i*15+3,none⟩=some (.slice y.A y.n y.c):=(HL.out.below.cell (p:=⟨b1,o1+i*15+3,none⟩) (show b1<N by omega)).trans (ha 3 (by omega))
   have a4:wr.cell? ⟨b1,o1+i*15+4,none⟩=some (.int .i64 y.m.co):=(HL.out.below.cell (p:=⟨b1,o1+i*15+4,none⟩) (show b1<N by omega)).trans (ha 4 (by omega))
   have a5:wr.cell? ⟨b1,o1+i*15+5,none⟩=some (.int .i64 y.m.fr):=(HL.out.below.cell (p:=⟨b1,o1+i*15+5,none⟩) (show b1<N by omega)).trans (ha 5 (by omega))
   have a6:wr.cell? ⟨b1,o1+i*15+6,none⟩=some (.int .i64 y.m.til):=(HL.out.below.cell (p:=⟨b1,o1+i*15+6,none⟩) (show b1<N by omega)).trans (ha 6 (by omega))
   have a7:wr.cell? ⟨b1,o1+i*15+7,none⟩=some (.int .i64 y.m.reg):=(HL.out.below.cell (p:=⟨b1,o1+i*15+7,none⟩) (show b1<N by omega)).trans (ha 7 (by omega))
   have a8:wr.cell? ⟨b1,o1+i*15+8,none⟩=some (.int .i64 y.m.du.rate):=(HL.out.below.cell (p:=⟨b1,o1+i*15+8,none⟩) (show b1<N by omega)).trans (ha 8 (by omega))
   have a9:wr.cell? ⟨b1,o1+i*15+9,none⟩=some (.int .i64 y.m.du.am):=(HL.out.below.cell (p:=⟨b1,o1+i*15+9,none⟩) (show b1<N by omega)).trans (ha 9 (by omega))
   have a10:wr.cell? ⟨b1,o1+i*15+10,none⟩=some (.int .i64 y.m.du.per):=(HL.out.below.cell (p:=⟨b1,o1+i*15+10,none⟩) (show b1<N by omega)).trans (ha 10 (by omega))
   have a11:wr.cell? ⟨b1,o1+i*15+11,none⟩=some (.bool y.m.du.hm):=(HL.out.below.cell (p:=⟨b1,o1+i*15+11,none⟩) (show b1<N by omega)).trans (ha 11 (by omega))
   have a12:wr.cell? ⟨b1,o1+i*15+12,none⟩=some (.int .i64 y.m.du.most):=(HL.out.below.cell (p:=⟨b1,o1+i*15+12,none⟩) (show b1<N by omega)).trans (ha 12 (by omega))
   have a13:wr.cell? ⟨b1,o1+i*15+13,none⟩=some (.bool y.m.du.hl):=(HL.out.below.cell (p:=⟨b1,o1+i*15+13,none⟩) (show b1<N by omega)).trans (ha 13 (by omega))
   have a14:wr.cell? ⟨b1,o1+i*15+14,none⟩=some (.int .i64 y.m.du.least):=(HL.out.below.cell (p:=⟨b1,o1+i*15+14,none⟩) (show b1<N by omega)).trans (ha 14 (by omega))
   have hii:(i:Int)<(n:Int):=by omega
   have hiz:(0:Int)≤(i:Int):=by omega
   have ui:IntKind.i64.wrap ((i:Int)+1)=((i+1:Nat):Int):=IntWalk.i64_in _ (by omega)
   clear ha hy
   have HLA:Hid (LdB w N #[.int .i64 qty,.int .i64 val,.slice (some ⟨bk,ok,none⟩) kn kc] (bestL s) (wr.alloc (.cells #[.int .i64 y.m.id,.int .i64 y.m.kind,.string y.m.pre,.slice y.A y.n y.c,.int .i64 y.m.co,.int .i64 y.m.fr,.int .i64 y.m.til,.int .i64 y.m.reg,.int .i64 y.m.du.rate,.int .i64 y.m.du.am,.int .i64 y.m.du.per,.bool y.m.du.hm,.int .i64 y.m.du.most,.bool y.m.du.hl,.int .i64 y.m.du.least] 62))):=HL.out.alloc _
   have HBY:Hid (Bl (wr.alloc (.cells #[.int .i64 y.m.id,.int .i64 y.m.kind,.string y.m.pre,.slice y.A y.n y.c,.int .i64 y.m.co,.int .i64 y.m.fr,.int .i64 y.m.til,.int .i64 y.m.reg,.int .i64 y.m.du.rate,.int .i64 y.m.du.am,.int .i64 y.m.du.per,.bool y.m.du.hm,.int .i64 y.m.du.most,.bool y.m.du.hl,.int .i64 y.m.du.least] 62)) wr.heap.size 62 #[.int .i64 y.m.id,.int .i64 y.m.kind,.string y.m.pre,.slice y.A y.n y.c,.int .i64 y.m.co,.int .i64 y.m.fr,.int .i64 y.m.til,.int .i64 y.m.reg,.int .i64 y.m.du.rate,.int .i64 y.m.du.am,.int .i64 y.m.du.per,.bool y.m.du.hm,.int .i64 y.m.du.most,.bool y.m.du.hl,.int .i64 y.m.du.least]):=Bl.new _ _ _
   go_upto_region 9 with (fail)
   clear HL a0 a1 a2 a3 a4 a5 a6 a7 a8 a9 a10 a11 a12 a13 a14
   generalize wr.alloc (.cells #[.int .i64 y.m.id,.int .i64 y.m.kind,.string y.m.pre,.slice y.A y.n y.c,.int .i64 y.m.co,.int .i64 y.m.fr,.int .i64 y.m.til,.int .i64 y.m.reg,.int .i64 y.m.du.rate,.int .i64 y.m.du.am,.int .i64 y.m.du.per,.bool y.m.du.hm,.int .i64 y.m.du.most,.bool y.m.du.hl,.int .i64 y.m.du.least] 62)=W1 at *
   generalize wr.heap.size=gy at *
   have g1:W1.cell? ⟨gy,1,none⟩=some (.int .i64 y.m.kind):=HBY.out.cell 1
   have g8:W1.cell? ⟨gy,8,none⟩=some (.int .i64 y.m.du.rate):=HBY.out.cell 8
   have g9:W1.cell? ⟨gy,9,none⟩=some (.int .i64 y.m.du.am):=HBY.out.cell 9
   have g10:W1.cell? ⟨gy,10,none⟩=some (.int .i64 y.m.du.per):=HBY.out.cell 10
   have g11:W1.cell? ⟨gy,11,none⟩=some (.bool y.m.du.hm):=HBY.out.cell 11
   have g12:W1.cell? ⟨gy,12,none⟩=some (.int .i64 y.m.du.most):=HBY.out.cell 12
   have g13:W1.cell? ⟨gy,13,none⟩=some (.bool y.m.du.hl):=HBY.out.cell 13
   have g14:W1.cell? ⟨gy,14,none⟩=some (.int .i64 y.m.du.least):=HBY.out.cell 14
   by_cases hkd:y.m.kind=kd
   case neg =>
    have dk:(y.m.kind == kd)=false:=by simpa using hkd
    have dkn:(y.m.kind != kd)=true:=by simpa using hkd
    have HS2:Hid (leG l pt j (i+1)=s):=by
     show _=_
     rw [leG_skip (by omega) (by rw [HY.out,HKD.out];exact hkd)]
     exact HS.out
    clear hkd
    go_wp2_with fail
    go_roundw
    case rel=>exact⟨i+1,s,by go_num,rfl,by omega,HS2.out,hs0,HLA.out⟩
    case measure=>simp [intOf];omega
   case pos =>
   have dk:(y.m.kind == kd)=true:=by simpa using hkd
   have dkn:(y.m.kind != kd)=false:=by simpa using hkd
   have HST:Hid (leG l pt j (i+1)=stepL pt s y.m):=by
    show _=_
    rw [leG_step (by omega) (by rw [HY.out,HKD.out];exact hkd),HS.out,HY.out]
   have p0:W1.cell? ⟨N,0,none⟩=some (.int .i64 qty):=HLA.out.p.cell 0
   have p1:W1.cell? ⟨N,1,none⟩=some (.int .i64 val):=HLA.out.p.cell 1
   clear hkd
   go_wp2_with fail
   refine (HEV.out y _).mono ?_
   rintro e w2 ⟨rfl,hb2⟩
   have HL2:Hid (LdB w N #[.int .i64 qty,.int .i64 val,.slice (some ⟨bk,ok,none⟩) kn kc] (bestL s) w2):=HLA.out.under hb2
   have HY2:Hid (Bl w2 gy 62 #[.int .i64 y.m.id,.int .i64 y.m.kind,.string y.m.pre,.slice y.A y.n y.c,.int .i64 y.m.co,.int .i64 y.m.fr,.int .i64 y.m.til,.int .i64 y.m.reg,.int .i64 y.m.du.rate,.int .i64 y.m.du.am,.int .i64 y.m.du.per,.bool y.m.du.hm,.int .i64 y.m.du.most,.bool y.m.du.hl,.int .i64 y.m.du.least]):=HBY.out.keep hb2
   clear p0 p1 HLA HBY g1 g8 g9 g10 g11 g12 g13 g14 hb2
   have HBN:=Lib.hid (fun h:(evalOut y.m.du pt.val pt.qty).2=0=>evalOut_bounds h)
   obtain⟨am,ham⟩:∃ am,(evalOut y.m.du pt.val pt.qty).1=am:=⟨_,rfl⟩
   obtain⟨er,her⟩:∃ er,(evalOut y.m.du pt.val pt.qty).2=er:=⟨_,rfl⟩
   have HER:=Lib.hid her
   have HAM:=Lib.hid ham
   rw [ham,her]
   clear ham her
   by_cases he:er=0
   case neg =>
    have de:(er == 0)=false:=by simpa using he
    have den:(er != 0)=true:=by simpa using he
    have HE:Hid (leastOf l pt=(er,none)):=by
     have h1:leG l pt j (i+1)=(er,none):=by rw [HST.out,stepL_bad hs0 (by rw [HER.out];exact he),HER.out]
     show _=_
     rw [← h1]
     exact least_err (by rw [HPK.out];omega) (by omega) (by rw [h1];exact he)
    have HR:=Lib.hid (HL2.out.res ⟨0,0,0,0,0⟩)
    have z0:w2.cell? ⟨N+1,0,none⟩=some (.int .i64 0):=HL2.out.r.cell 0
    have f0:w2.frozen? ⟨N+1,0,none⟩=false:=HL2.out.r.free 0
    have z1:w2.cell? ⟨N+1,1,none⟩=some (.int .i64 0):=HL2.out.r.cell 1
    have f1:w2.frozen? ⟨N+1,1,none⟩=false:=HL2.out.r.free 1
    have z2:w2.cell? ⟨N+1,2,none⟩=some (.int .i64 0):=HL2.out.r.cell 2
    have f2:w2.frozen? ⟨N+1,2,none⟩=false:=HL2.out.r.free 2
    have z3:w2.cell? ⟨N+1,3,none⟩=some (.int .i64 0):=HL2.out.r.cell 3
    have f3:w2.frozen? ⟨N+1,3,none⟩=false:=HL2.out.r.free 3
    have z4:w2.cell? ⟨N+1,4,none⟩=some (.int .i64 0):=HL2.out.r.cell 4
    have f4:w2.frozen? ⟨N+1,4,none⟩=false:=HL2.out.r.free 4
    have HRS:Hid (∀ w',RowKit.Below N w w'→LeRes w (leastOf l pt) (.returned (.tuple #[.agg #[.int .i64 0,.int .i64 0,.int .i64 0,.int .i64 0,.int .i64 0],.bool false,.int .i64 er])) w'):=fun w' hb=>by
     rw [HE.out]
     unfold LeRes dlA bestL fndOf
     rw [hN]
     exact⟨rfl,hb⟩
    clear hs0 HS HE HST HER HAM HBN
    dsimp only at HR
    go_wp2
    generalize (((((w2.setCell ⟨N+1,0,none⟩ (.int .i64 0)).setCell ⟨N+1,1,none⟩ (.int .i64 0)).setCell ⟨N+1,2,none⟩ (.int .i64 0)).setCell ⟨N+1,3,none⟩ (.int .i64 0)).setCell ⟨N+1,4,none⟩ (.int .i64 0))=W5 at *
    have y0:W5.cell? ⟨N+1,0,none⟩=some (.int .i64 0):=HR.out.2.cell 0
    have y1:W5.cell? ⟨N+1,1,none⟩=some (.int .i64 0):=HR.out.2.cell 1
    have y2:W5.cell? ⟨N+1,2,none⟩=some (.int .i64 0):=HR.out.2.cell 2
    have y3:W5.cell? ⟨N+1,3,none⟩=some (.int .i64 0):=HR.out.2.cell 3
    have y4:W5.cell? ⟨N+1,4,none⟩=some (.int .i64 0):=HR.out.2.cell 4
    refine bodyPost_ret (v:=.tuple #[.agg #[.int .i64 0,.int .i64 0,.int .i64 0,.int .i64 0,.int .i64 0],.bool false,.int .i64 er]) (by simp [results,Tryz.results26,go_sem,y0,y1,y2,y3,y4]) rfl (HRS.out _ HR.out.1)
   case pos =>
   subst he
   have hb0:=HBN.out HER.out
   rw [HAM.out] at hb0
   cases hf:fndOf s
   case false =>
    have HS2:Hid (leG l pt j (i+1)=(0,some ⟨y.m.kind,y.m.id,qty,val,am⟩)):=by
     show _=_
     rw [HST.out,stepL_take hs0 HER.out (.inl hf),HAM.out,HQ.out.1,HQ.out.2]
    have b0:w2.cell? ⟨N+2,0,none⟩=some (.int .i64 (bestL s).kind):=HL2.out.b.cell 0
    have b1':w2.cell? ⟨N+2,1,none⟩=some (.int .i64 (bestL s).meas):=HL2.out.b.cell 1
    have b2':w2.cell? ⟨N+2,2,none⟩=some (.int .i64 (bestL s).qty):=HL2.out.b.cell 2
    have b3':w2.cell? ⟨N+2,3,none⟩=some (.int .i64 (bestL s).val):=HL2.out.b.cell 3
    have b4':w2.cell? ⟨N+2,4,none⟩=some (.int .i64 (bestL s).amt):=HL2.out.b.cell 4
    have f0:w2.frozen? ⟨N+2,0,none⟩=false:=HL2.out.b.free 0
    have f1:w2.frozen? ⟨N+2,1,none⟩=false:=HL2.out.b.free 1
    have f2:w2.frozen? ⟨N+2,2,none⟩=false:=HL2.out.b.free 2
    have f3:w2.frozen? ⟨N+2,3,none⟩=false:=HL2.out.b.free 3
    have f4:w2.frozen? ⟨N+2,4,none⟩=false:=HL2.out.b.free 4
    have g0:w2.cell? ⟨gy,0,none⟩=some (.int .i64 y.m.id):=HY2.out.cell 0
    have g1:w2.cell? ⟨gy,1,none⟩=some (.int .i64 y.m.kind):=HY2.out.cell 1
    have p0:w2.cell? ⟨N,0,none⟩=some (.int .i64 qty):=HL2.out.p.cell 0
    have p1:w2.cell? ⟨N,1,none⟩=some (.int .i64 val):=HL2.out.p.cell 1
    have HL3:=Lib.hid (HL2.out.put y.m.kind y.m.id qty val am)
    clear HST HBN HL2 HY2
    go_wp2_with fail
    go_roundw
    case rel=>exact⟨i+1,_,by go_num,rfl,by omega,HS2.out,rfl,HL3.out⟩
    case measure=>simp [intOf];omega
   case true =>
   have b4:w2.cell? ⟨N+2,4,none⟩=some (.int .i64 (bestL s).amt):=HL2.out.b.cell 4
   by_cases hlt2:am<(bestL s).amt
   case pos =>
    have d2:decide (am<(bestL s).amt)=true:=decide_eq_true hlt2
    have HS2:Hid (leG l pt j (i+1)=(0,some ⟨y.m.kind,y.m.id,qty,val,am⟩)):=by
     show _=_
     rw [HST.out,stepL_take hs0 HER.out (.inr (by rw [HAM.out];exact hlt2)),HAM.out,HQ.out.1,HQ.out.2]
    have b0:w2.cell? ⟨N+2,0,none⟩=some (.int .i64 (bestL s).kind):=HL2.out.b.cell 0
    have b1':w2.cell? ⟨N+2,1,none⟩=some (.int .i64 (bestL s).meas):=HL2.out.b.cell 1
    have b2':w2.cell? ⟨N+2,2,none⟩=some (.int .i64 (bestL s).qty):=HL2.out.b.cell 2
    have b3':w2.cell? ⟨N+2,3,none⟩=some (.int .i64 (bestL s).val):=HL2.out.b.cell 3
    have b4':w2.cell? ⟨N+2,4,none⟩=some (.int .i64 (bestL s).amt):=HL2.out.b.cell 4
    have f0:w2.frozen? ⟨N+2,0,none⟩=false:=HL2.out.b.free 0
    have f1:w2.frozen? ⟨N+2,1,none⟩=false:=HL2.out.b.free 1
    have f2:w2.frozen? ⟨N+2,2,none⟩=false:=HL2.out.b.free 2
    have f3:w2.frozen? ⟨N+2,3,none⟩=false:=HL2.out.b.free 3
    have f4:w2.frozen? ⟨N+2,4,none⟩=false:=HL2.out.b.free 4
    have g0:w2.cell? ⟨gy,0,none⟩=some (.int .i64 y.m.id):=HY2.out.cell 0
    have g1:w2.cell? ⟨gy,1,none⟩=some (.int .i64 y.m.kind):=HY2.out.cell 1
    have p0:w2.cell? ⟨N,0,none⟩=some (.int .i64 qty):=HL2.out.p.cell 0
    have p1:w2.cell? ⟨N,1,none⟩=some (.int .i64 val):=HL2.out.p.cell 1
    have HL3:=Lib.hid (HL2.out.put y.m.kind y.m.id qty val am)
    clear HST HBN HL2 HY2
    go_wp2_with fail
    go_roundw
    case rel=>exact⟨i+1,_,by go_num,rfl,by omega,HS2.out,rfl,HL3.out⟩
    case measure=>simp [intOf];omega
   case neg =>
    have d2:decide (am<(bestL s).amt)=false:=decide_eq_false hlt2
    have HS2:Hid (leG l pt j (i+1)=s):=by
     show _=_
     rw [HST.out,stepL_keep hs0 HER.out hf (by rw [HAM.out];exact hlt2)]
    clear HST hlt2 HBN
    go_wp2_with fail
    go_roundw
    case rel=>exact⟨i+1,s,by go_num,by rw [hf],by omega,HS2.out,hs0,HL2.out⟩
    case measure=>simp [intOf];omega
end Go.Proofs.YtbokkeooahodaaaGreatDoor

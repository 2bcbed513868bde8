/-
  A part of the proof of TopQuotaDayCardSaid: lemmas and contracts of functions that the law calls. No statement of the seat is proved here. Conditions: as each says.
-/
import Derived.Test.YtbokkeooahodaaaGreatDoorQAU
import Derived.Test.YtbokkeooahodaaaGreatDoorQAP
import Derived.Test.YtbokkeooahodaaaGreatDoorQAV
import Derived.Test.YtbokkeooahodaaaGreatDoorQAQ
namespace Go.Proofs.YtbokkeooahodaaaGreatDoor
open Go.RowKit
set_option linter.unusedVariables false
abbrev fixM:Ms:=⟨1,1,s94,[],0,0,100,-1,⟨50000,0,0,false,0,false,0⟩⟩
abbrev fixMA:MsA:=⟨fixM,none,0,0⟩
abbrev fixX:It:=⟨(⟨#[57,52,48,49,48,48,48,48]⟩:ByteArray),(⟨#[65,65]⟩:ByteArray),false,0,0,1,1000,0⟩
theorem lit_recs20 (w:World) (T:TypeId) (xs:List (Int × Int)):Recs enc2 2 (w.alloc (.cells (flat enc2 xs).toArray T)) (some ⟨w.heap.size,0,none⟩) xs.length xs :=
 ⟨rfl,fun _=>⟨w.heap.size,0,rfl,by simp,fun i hi c hc=>by
  rw [Nat.zero_add,(Bl.new w T _).cell]
  simpa using flat_get enc2_len xs i c hi hc⟩⟩
theorem fix_out:(asOut [fixM] fixX).1=0∧sumA (asOut [fixM] fixX).2=50:=by decide +kernel
theorem fix_val:valErr [] eur 0 [(1000,0)] [] = 0∧valOut [] eur 0 [(1000,0)] [] = [1000]:=by decide +kernel
set_option maxRecDepth 100000 in
set_option maxHeartbeats 16000000 in
theorem fixed20 (w:World) (hM:MaxG w) (hG:LenG w):Calls Tryz.prog 10 #[] w (BRes w true):=by
 have HM:=Lib.hid hM
 have HG:=Lib.hid hG
 clear hM hG
 go_enter Tryz.func10,Tryz.ntmps10
 go_wp2_with fail
 refine (gparse20 w HM.out).mono ?_
 rintro e w1 ⟨D,d,rfl,hd,hS,hb⟩
 have HS1:=Lib.hid hS
 have HD:=Lib.hid hd
 have HB1:=Lib.hid hb
 clear hS hd hb
 have HY2:Hid (Bl (w1.alloc (.cells #[.slice D 2 d,.slice none 0 0,.slice none 0 0,.bool false] 90)) w1.heap.size 90 #[.slice D 2 d,.slice none 0 0,.slice none 0 0,.bool false]):=Bl.new _ _ _
 have HB2:=Lib.hid (HB1.out.alloc HB1.out.size (.cells #[.slice D 2 d,.slice none 0 0,.slice none 0 0,.bool false] 90))
 have HS2:=Lib.hid (HS1.out.below ((Below.refl w1.heap.size w1).alloc (Nat.le_refl _) (.cells #[.slice D 2 d,.slice none 0 0,.slice none 0 0,.bool false] 90)))
 go_upto_region 2 with (fail)
 generalize w1.alloc (.cells #[.slice D 2 d,.slice none 0 0,.slice none 0 0,.bool false] 90)=w2 at *
 skip
 have hs1:(w2.alloc (.cells #[.string sChair] 9)).heap.size=w2.heap.size+1:=by simp
 have hs2:((w2.alloc (.cells #[.string sChair] 9)).alloc (.cells #[.slice (some ⟨w2.heap.size,0,none⟩) 1 1] 60)).heap.size=w2.heap.size+1+1:=by simp
 have hs3:(((w2.alloc (.cells #[.string sChair] 9)).alloc (.cells #[.slice (some ⟨w2.heap.size,0,none⟩) 1 1] 60)).alloc (.cells #[.string s94,.int .i64 0,.int .i64 100,.slice none 0 0,.bool false,.string s9401,.int .i64 0,.int .i64 100,.slice (some ⟨w2.heap.size+1,0,none⟩) 1 1,.bool false] 95)).heap.size=w2.heap.size+1+1+1:=by simp
 have hb3:RowKit.Below w2.heap.size w2 ((((w2.alloc (.cells #[.string sChair] 9)).alloc (.cells #[.slice (some ⟨w2.heap.size,0,none⟩) 1 1] 60)).alloc (.cells #[.string s94,.int .i64 0,.int .i64 100,.slice none 0 0,.bool false,.string s9401,.int .i64 0,.int .i64 100,.slice (some ⟨w2.heap.size+1,0,none⟩) 1 1,.bool false] 95)).alloc (.cells #[.slice (some ⟨w2.heap.size+1+1,0,none⟩) 2 2,.slice none 0 0] 99)):=((((Below.refl _ w2).alloc (Nat.le_refl _) _).alloc (by simp) _).alloc (by simp;omega) _).alloc (by simp;omega) _
 have k1:Bl ((((w2.alloc (.cells #[.string sChair] 9)).alloc (.cells #[.slice (some ⟨w2.heap.size,0,none⟩) 1 1] 60)).alloc (.cells #[.string s94,.int .i64 0,.int .i64 100,.slice none 0 0,.bool false,.string s9401,.int .i64 0,.int .i64 100,.slice (some ⟨w2.heap.size+1,0,none⟩) 1 1,.bool false] 95)).alloc (.cells #[.slice (some ⟨w2.heap.size+1+1,0,none⟩) 2 2,.slice none 0 0] 99)) w2.heap.size 9 #[.string sChair]:=(((Bl.new w2 _ _).alloc _).alloc _).alloc _
 have k2:Bl ((((w2.alloc (.cells #[.string sChair] 9)).alloc (.cells #[.slice (some ⟨w2.heap.size,0,none⟩) 1 1] 60)).alloc (.cells #[.string s94,.int .i64 0,.int .i64 100,.slice none 0 0,.bool false,.string s9401,.int .i64 0,.int .i64 100,.slice (some ⟨w2.heap.size+1,0,none⟩) 1 1,.bool false] 95)).alloc (.cells #[.slice (some ⟨w2.heap.size+1+1,0,none⟩) 2 2,.slice none 0 0] 99)) (w2.heap.size+1) 60 #[.slice (some ⟨w2.heap.size,0,none⟩) 1 1]:=by
  have h:=((Bl.new (w2.alloc (.cells #[.string sChair] 9)) 60 #[.slice (some ⟨w2.heap.size,0,none⟩) 1 1]).alloc (.cells #[.string s94,.int .i64 0,.int .i64 100,.slice none 0 0,.bool false,.string s9401,.int .i64 0,.int .i64 100,.slice (some ⟨w2.heap.size+1,0,none⟩) 1 1,.bool false] 95)).alloc (.cells #[.slice (some ⟨w2.heap.size+1+1,0,none⟩) 2 2,.slice none 0 0] 99)
  rwa [hs1] at h
 have k3:Bl ((((w2.alloc (.cells #[.string sChair] 9)).alloc (.cells #[.slice (some ⟨w2.heap.size,0,none⟩) 1 1] 60)).alloc (.cells #[.string s94,.int .i64 0,.int .i64 100,.slice none 0 0,.bool false,.string s9401,.int .i64 0,.int .i64 100,.slice (some ⟨w2.heap.size+1,0,none⟩) 1 1,.bool false] 95)).alloc (.cells #[.slice (some ⟨w2.heap.size+1+1,0,none⟩) 2 2,.slice none 0 0] 99)) (w2.heap.size+1+1) 95 #[.string s94,.int .i64 0,.int .i64 100,.slice none 0 0,.bool false,.string s9401,.int .i64 0,.int .i64 100,.slice (some ⟨w2.heap.size+1,0,none⟩) 1 1,.bool false]:=by
  have h:=(Bl.new ((w2.alloc (.cells #[.string sChair] 9)).alloc (.cells #[.slice (some ⟨w2.heap.size,0,none⟩) 1 1] 60)) 95 #[.string s94,.int .i64 0,.int .i64 100,.slice none 0 0,.bool false,.string s9401,.int .i64 0,.int .i64 100,.slice (some ⟨w2.heap.size+1,0,none⟩) 1 1,.bool false]).alloc (.cells #[.slice (some ⟨w2.heap.size+1+1,0,none⟩) 2 2,.slice none 0 0] 99)
  rwa [hs2] at h
 have k4:Bl ((((w2.alloc (.cells #[.string sChair] 9)).alloc (.cells #[.slice (some ⟨w2.heap.size,0,none⟩) 1 1] 60)).alloc (.cells #[.string s94,.int .i64 0,.int .i64 100,.slice none 0 0,.bool false,.string s9401,.int .i64 0,.int .i64 100,.slice (some ⟨w2.heap.size+1,0,none⟩) 1 1,.bool false] 95)).alloc (.cells #[.slice (some ⟨w2.heap.size+1+1,0,none⟩) 2 2,.slice none 0 0] 99)) (w2.heap.size+1+1+1) 99 #[.slice (some ⟨w2.heap.size+1+1,0,none⟩) 2 2,.slice none 0 0]:=by
  have h:=Bl.new (((w2.alloc (.cells #[.string sChair] 9)).alloc (.cells #[.slice (some ⟨w2.heap.size,0,none⟩) 1 1] 60)).alloc (.cells #[.string s94,.int .i64 0,.int .i64 100,.slice none 0 0,.bool false,.string s9401,.int .i64 0,.int .i64 100,.slice (some ⟨w2.heap.size+1,0,none⟩) 1 1,.bool false] 95)) 99 #[.slice (some ⟨w2.heap.size+1+1,0,none⟩) 2 2,.slice none 0 0]
  rwa [hs3] at h
 have HBK:Hid (BkR ((((w2.alloc (.cells #[.string sChair] 9)).alloc (.cells #[.slice (some ⟨w2.heap.size,0,none⟩) 1 1] 60)).alloc (.cells #[.string s94,.int .i64 0,.int .i64 100,.slice none 0 0,.bool false,.string s9401,.int .i64 0,.int .i64 100,.slice (some ⟨w2.heap.size+1,0,none⟩) 1 1,.bool false] 95)).alloc (.cells #[.slice (some ⟨w2.heap.size+1+1,0,none⟩) 2 2,.slice none 0 0] 99)) (w2.heap.size+1+1) (some ⟨w2.heap.size+1,0,none⟩) 1):=⟨k3,w2.heap.size+1,0,some ⟨w2.heap.size,0,none⟩,1,rfl,k2.lt,k2.cell 0,Sr.lit [sChair] k1 rfl (by decide) (fun s hs=>by simp at hs;subst hs;decide)⟩
 have HX3:=Lib.hid k4
 have HY3:=Lib.hid (HY2.out.keep hb3)
 have HB3:=Lib.hid (HB2.out.trans (hb3.mono HB2.out.size))
 have HS3:=Lib.hid (HS2.out.below hb3)
 clear k1 k2 k3 k4 hb3 HS2 HB2 HY2 HS1
 go_upto_region 3 with (fail)
 try simp only [hs1,hs2,hs3]
 clear hs1 hs2 hs3
 generalize (((w2.alloc (.cells #[.string sChair] 9)).alloc (.cells #[.slice (some ⟨w2.heap.size,0,none⟩) 1 1] 60)).alloc (.cells #[.string s94,.int .i64 0,.int .i64 100,.slice none 0 0,.bool false,.string s9401,.int .i64 0,.int .i64 100,.slice (some ⟨w2.heap.size+1,0,none⟩) 1 1,.bool false] 95)).alloc (.cells #[.slice (some ⟨w2.heap.size+1+1,0,none⟩) 2 2,.slice none 0 0] 99)=w3 at *
 generalize w2.heap.size=m0 at *
 clear HB1
 have q1:w3.cell? ⟨(m0+1+1+1),0,none⟩=some (.slice (some ⟨m0+1+1,0,none⟩) 2 2):=HX3.out.cell 0
 have q2:w3.cell? ⟨(m0+1+1+1),1,none⟩=some (.slice none 0 0):=HX3.out.cell 1
 have q3:w3.cell? ⟨w1.heap.size,0,none⟩=some (.slice D 2 d):=HY3.out.cell 0
 have q4:w3.cell? ⟨w1.heap.size,1,none⟩=some (.slice none 0 0):=HY3.out.cell 1
 have q5:w3.cell? ⟨w1.heap.size,2,none⟩=some (.slice none 0 0):=HY3.out.cell 2
 have q6:w3.cell? ⟨w1.heap.size,3,none⟩=some (.bool false):=HY3.out.cell 3
 go_wp2_with fail
 refine (classify20 (m0+1+1) (some ⟨m0+1,0,none⟩) 1 D d w3 HBK.out HS3.out (HG.out.below HB3.out)).mono ?_
 rintro e w4 ⟨ST,sn,sc,rfl,hb⟩
 have HB4:=Lib.hid (HB3.out.trans (hb.mono HB3.out.size))
 clear q1 q2 q3 q4 q5 q6 hb HX3 HY3 HBK HS3 HB3 HD
 have HV:Hid (Calls Tryz.prog 34 #[.slice none 0 0,.agg #[.string ⟨#[69,85,82]⟩,.int .i64 0,.slice (some ⟨w4.heap.size,0,none⟩) 1 1,.slice none 0 0]] (w4.alloc (.cells #[.int .i64 1000,.int .i64 0] 106)) (SlRes (w4.alloc (.cells #[.int .i64 1000,.int .i64 0] 106)) 0 [1000])):=by
  have h:=values_any none 0 0 [] ⟨#[69,85,82]⟩ 0 (some ⟨w4.heap.size,0,none⟩) none 1 1 0 0 [(1000,0)] [] (w4.alloc (.cells #[.int .i64 1000,.int .i64 0] 106)) Recs.nil (by decide) (fun i hi=>absurd hi (Nat.not_lt_zero _)) (by decide) (lit_recs20 w4 106 [(1000,0)]) (by decide) Recs.nil (by decide) (fun i hi=>absurd hi (Nat.not_lt_zero _))
  rw [show (⟨#[69,85,82]⟩:ByteArray).toList=eur by decide +kernel,fix_val.1,fix_val.2] at h
  exact h
 have HB5:=Lib.hid (HB4.out.alloc HB4.out.size (.cells #[.int .i64 1000,.int .i64 0] 106))
 have e1:(s9401.toList != s9401.toList)=false:=by decide +kernel
 go_wp2_with fail
 refine HV.out.mono ?_
 rintro e w6 ⟨VA,vn,vc,rfl,hv,hb⟩
 obtain rfl:vn=1:=by have:=hv.1;simp at this;omega
 obtain⟨vb,vo,hA,hlt,hcv⟩:=(IntsK.of_own hv).2 (by decide)
 subst hA
 have HVC:Hid (w6.cell? ⟨vb,vo,none⟩=some (.int .i64 1000)):=by show _=_;exact hcv 0 (by decide)
 have HVL:=Lib.hid hlt
 have HB6:=Lib.hid (HB5.out.trans (hb.mono HB5.out.size))
 clear hv hb hcv hlt HB5 HB4 HV
 have hb7:RowKit.Below w6.heap.size w6 (w6.alloc (.cells #[.int .i64 1,.int .i64 1,.string s94,.slice none 0 0,.int .i64 0,.int .i64 0,.int .i64 100,.int .i64 (-1),.int .i64 50000,.int .i64 0,.int .i64 0,.bool false,.int .i64 0,.bool false,.int .i64 0] 62)):=(Below.refl _ _).alloc (Nat.le_refl _) _
 have hk7:Bl (w6.alloc (.cells #[.int .i64 1,.int .i64 1,.string s94,.slice none 0 0,.int .i64 0,.int .i64 0,.int .i64 100,.int .i64 (-1),.int .i64 50000,.int .i64 0,.int .i64 0,.bool false,.int .i64 0,.bool false,.int .i64 0] 62)) w6.heap.size 62 #[.int .i64 1,.int .i64 1,.string s94,.slice none 0 0,.int .i64 0,.int .i64 0,.int .i64 100,.int .i64 (-1),.int .i64 50000,.int .i64 0,.int .i64 0,.bool false,.int .i64 0,.bool false,.int .i64 0]:=Bl.new _ _ _
 have HMR:Hid (MsR (w6.alloc (.cells #[.int .i64 1,.int .i64 1,.string s94,.slice none 0 0,.int .i64 0,.int .i64 0,.int .i64 100,.int .i64 (-1),.int .i64 50000,.int .i64 0,.int .i64 0,.bool false,.int .i64 0,.bool false,.int .i64 0] 62)) (some ⟨w6.heap.size,0,none⟩) 1 [fixMA]):=by
  refine⟨⟨rfl,fun _=>⟨w6.heap.size,0,rfl,hk7.lt,fun i hi c hc=>?_⟩⟩,by decide,fun i hi=>?_⟩
  ·obtain rfl:i=0:=by omega
   rw [Nat.zero_mul,Nat.zero_add,hk7.cell c]
   match c,hc with
   | 0,_=>rfl
   | 1,_=>rfl
   | 2,_=>rfl
   | 3,_=>rfl
   | 4,_=>rfl
   | 5,_=>rfl
   | 6,_=>rfl
   | 7,_=>rfl
   | 8,_=>rfl
   | 9,_=>rfl
   | 10,_=>rfl
   | 11,_=>rfl
   | 12,_=>rfl
   | 13,_=>rfl
   | 14,_=>rfl
  ·obtain rfl:i=0:=by omega
   exact⟨Sr.nil,by decide⟩
 have HVC7:Hid ((w6.alloc (.cells #[.int .i64 1,.int .i64 1,.string s94,.slice none 0 0,.int .i64 0,.int .i64 0,.int .i64 100,.int .i64 (-1),.int .i64 50000,.int .i64 0,.int .i64 0,.bool false,.int .i64 0,.bool false,.int .i64 0] 62)).cell? ⟨vb,vo,none⟩=some (.int .i64 1000)):=(hb7.cell (p:=⟨vb,vo,none⟩) HVL.out).trans HVC.out
 have HVL7:Hid (vb<(w6.alloc (.cells #[.int .i64 1,.int .i64 1,.string s94,.slice none 0 0,.int .i64 0,.int .i64 0,.int .i64 100,.int .i64 (-1),.int .i64 50000,.int .i64 0,.int .i64 0,.bool false,.int .i64 0,.bool false,.int .i64 0] 62)).heap.size):=Nat.lt_of_lt_of_le HVL.out hb7.size
 have HB7:=Lib.hid (HB6.out.trans (hb7.mono HB6.out.size))
 clear hb7 hk7 HVC HVL HB6
 go_upto_region 8 with (fail)
 generalize w6.alloc (.cells #[.int .i64 1,.int .i64 1,.string s94,.slice none 0 0,.int .i64 0,.int .i64 0,.int .i64 100,.int .i64 (-1),.int .i64 50000,.int .i64 0,.int .i64 0,.bool false,.int .i64 0,.bool false,.int .i64 0] 62)=w7 at *
 generalize w6.heap.size=gm at *
 have HTO:Hid (∀ wx,RowKit.Below w7.heap.size w7 wx→Calls Tryz.prog 35 #[.slice (some ⟨gm,0,none⟩) 1 1,.agg #[.string ⟨#[57,52,48,49,48,48,48,48]⟩,.string ⟨#[65,65]⟩,.bool false,.int .i64 0,.int .i64 0,.int .i64 1,.int .i64 1000,.int .i64 0]] wx (fun e w'=>e=.returned (.tuple #[.int .i64 50,.int .i64 0])∧RowKit.Below wx.heap.size wx w')):=fun wx hb=>by
  have h:=total20_any (some ⟨gm,0,none⟩) 1 1 [fixMA] fixX wx (HMR.out.below hb) (HG.out.below (HB7.out.trans (hb.mono HB7.out.size))) (by decide) (by decide)
  refine h.mono ?_
  rintro e w' ⟨rfl,h2⟩
  refine⟨?_,h2⟩
  have e1:(asOut (msL [fixMA]) fixX).1=0:=fix_out.1
  have e2:sumA (asOut (msL [fixMA]) fixX).2=50:=fix_out.2
  rw [e1,e2]
 have HLN:Hid (∀ wx,Calls Tryz.prog 36 #[.string s9401] wx (fun e w'=>e=.returned (.string ⟨#[57,52,48,49,48,48,48,48]⟩)∧wx=w')):=fun wx=>line20 wx
 have HSS:Hid (∀ wx,RowKit.Below w7.heap.size w7 wx→wx.cell? ⟨vb,vo,none⟩=some (.int .i64 1000)):=fun wx hb=>(hb.cell (p:=⟨vb,vo,none⟩) HVL7.out).trans HVC7.out
 have hk0:Hid (RowKit.Below w7.heap.size w7 w7.drew):=(Below.refl _ _).drew
 have hk00:Hid (RowKit.Below w7.heap.size w7 w7):=Below.refl _ _
 have q1:=HSS.out _ hk00.out
 go_region_held3 (fun wx=>wx.cell? ⟨vb,vo,none⟩=some (.int .i64 1000))
  (first | with_reducible exact HSS.out _ hkz.out | with_reducible exact HSS.out _ hk0.out | with_reducible exact HSS.out _ hk00.out)
  (first | (go_at_call 36;with_reducible (refine (HLN.out _).mono ?_);rintro e wz ⟨rfl,rfl⟩) | (go_at_call 35;with_reducible (refine (HTO.out _ hk0.out).mono ?_);rintro e wz ⟨rfl,hbz⟩;have hkz:=Lib.hid (hk0.out.trans (hbz.mono hk0.out.size))) | fail)
 all_goals
  have HBZ:=Lib.hid (HB7.out.trans (hkz.out.mono HB7.out.size))
  go_wp2_with fail
  go_ret
  exact⟨rfl,HBZ.out⟩
def OwnY (B:Nat) (wx:World) (y:MsA):Prop:=wx.ownsRow B 9 1 (.slice y.A y.n y.c) y.n (y.m.orgs.map Value.string)∧y.n≤10∧(∀ s∈y.m.orgs,s.size≤1000)∧y.m.pre.size≤1000
structure MeW (w:World) (gs:Nat) (LA:Option Addr) (m lc:Nat) (xs:List Int) (R:Option Addr) (d:Nat) (ys:List MsA) (wx:World):Prop where
 src:SrcOk w wx gs LA m lc xs
 o:wx.ownsRow w.heap.size 62 15 (.slice R ys.length d) ys.length (flat encM ys)
 orgs:∀ y∈ys,OwnY w.heap.size wx y
structure MeB (w:World) (gs:Nat) (LA:Option Addr) (m lc:Nat) (xs:List Int) (R:Option Addr) (d:Nat) (ys:List MsA) (gx:Nat) (y:MsA) (wx:World):Prop where
 mw:MeW w gs LA m lc xs R d ys wx
 b:Bl wx gx 62 #[.int .i64 y.m.id,.int .i64 y.m.kind,.string y.m.pre,.slice y.A y.n y.c,.int .i64 y.m.co,.int .i64 y.m.fr,.int .i64 y.m.til,.int .i64 y.m.reg,.int .i64 y.m.du.rate,.int .i64 y.m.du.am,.int .i64 y.m.du.per,.bool y.m.du.hm,.int .i64 y.m.du.most,.bool y.m.du.hl,.int .i64 y.m.du.least]
 yo:OwnY gx wx y
 lt:∀ g,(Value.slice R ys.length d).ownBlock=some g→g<gx
 lts:∀ z∈ys,∀ g,(Value.slice z.A z.n z.c).ownBlock=some g→g<gx
 gl:gs<gx
section
variable {w wx w':World} {gs:Nat} {LA:Option Addr} {m lc:Nat} {xs:List Int} {R:Option Addr} {d:Nat} {ys:List MsA} {gx:Nat} {y:MsA}
theorem MeW.go (h:MeW w gs LA m lc xs R d ys wx) (ht:TrE gs LA m lc wx w'):MeW w gs LA m lc xs R d ys w':=by
 obtain⟨J,hJ⟩:=h.src.src
 exact⟨h.src.tr ht,ht.own hJ h.o (by decide),fun z hz=>⟨ht.own hJ (h.orgs z hz).1 (by decide),(h.orgs z hz).2⟩⟩
theorem MeW.alloc (h:MeW w gs LA m lc xs R d ys wx) (o:Obj):MeW w gs LA m lc xs R d ys (wx.alloc o):=h.go (h.src.start.alloc o)
theorem MeB.go (h:MeB w gs LA m lc xs R d ys gx y wx) (ht:TrE gs LA m lc wx w'):MeB w gs LA m lc xs R d ys gx y w':=by
 obtain⟨J,hJ⟩:=h.mw.src.src
 exact⟨h.mw.go ht,ht.bl h.b (by have:=h.gl;omega),⟨ht.own hJ h.yo.1 (by decide),h.yo.2⟩,h.lt,h.lts,h.gl⟩
theorem MeB.alloc (h:MeB w gs LA m lc xs R d ys gx y wx) (o:Obj):MeB w gs LA m lc xs R d ys gx y (wx.alloc o):=h.go (h.mw.src.start.alloc o)
theorem MeB.drew (h:MeB w gs LA m lc xs R d ys gx y wx):MeB w gs LA m lc xs R d ys gx y wx.drew:=h.go h.mw.src.start.drew
theorem MeB.mk2 {cs:Array Value} (hm:MeW w gs LA m lc xs R d ys wx) (hbx:Bl wx gx 62 cs) (hlt:∀ g,(Value.slice R ys.length d).ownBlock=some g→g<gx) (hlts:∀ z∈ys,∀ g,(Value.slice z.A z.n z.c).ownBlock=some g→g<gx) (hg:gs<gx) (ho:Only gx wx w') {y':MsA} (hb:Bl w' gx 62 #[.int .i64 y'.m.id,.int .i64 y'.m.kind,.string y'.m.pre,.slice y'.A y'.n y'.c,.int .i64 y'.m.co,.int .i64 y'.m.fr,.int .i64 y'.m.til,.int .i64 y'.m.reg,.int .i64 y'.m.du.rate,.int .i64 y'.m.du.am,.int .i64 y'.m.du.per,.bool y'.m.du.hm,.int .i64 y'.m.du.most,.bool y'.m.du.hl,.int .i64 y'.m.du.least]) (hy:OwnY gx wx y'):MeB w gs LA m lc xs R d ys gx y' w':=by
 have hs:=hm.src
 have hbs:=hs.base
 refine⟨⟨⟨hs.src.elim fun J hJ=>⟨J,ho.bl hJ (by omega)⟩,hs.ints,hs.below.trans (ho.below (by omega)),hs.base,hs.few⟩,own_of_block hm.o fun g hgb=>ho.block g (fun e=>by have:=hlt g hgb;omega),fun z hz=>⟨own_of_block (hm.orgs z hz).1 fun g hgb=>ho.block g (fun e=>by have:=hlts z hz g hgb;omega),(hm.orgs z hz).2⟩⟩,hb,⟨own_of_block hy.1 fun g hgb=>ho.block g (fun e=>?_),hy.2⟩,hlt,hlts,hg⟩
 subst e
 exact own_apart hy.1 hbx (by decide) hgb.symm
theorem MeB.put (h:MeB w gs LA m lc xs R d ys gx y wx) (ho:Only gx wx w') {y':MsA} (hb:Bl w' gx 62 #[.int .i64 y'.m.id,.int .i64 y'.m.kind,.string y'.m.pre,.slice y'.A y'.n y'.c,.int .i64 y'.m.co,.int .i64 y'.m.fr,.int .i64 y'.m.til,.int .i64 y'.m.reg,.int .i64 y'.m.du.rate,.int .i64 y'.m.du.am,.int .i64 y'.m.du.per,.bool y'.m.du.hm,.int .i64 y'.m.du.most,.bool y'.m.du.hl,.int .i64 y'.m.du.least]) (hy:OwnY gx wx y'):MeB w gs LA m lc xs R d ys gx y' w':=MeB.mk2 h.mw h.b h.lt h.lts h.gl ho hb hy
theorem MeB.grow (h:MeB w gs LA m lc xs R d ys gx y wx) {o:Obj} (hg:(wx.alloc o).grownBy w' (Value.slice y.A y.n y.c).ownBlock) {A':Option Addr} {n' c':Nat} {l':List ByteArray} (ho:w'.ownsRow gx 9 1 (.slice A' n' c') n' (l'.map Value.string)) (hn:n'≤10) (hl:∀ s∈l',s.size≤1000) :
  MeW w gs LA m lc xs R d ys w'∧Bl w' gx 62 #[.int .i64 y.m.id,.int .i64 y.m.kind,.string y.m.pre,.slice y.A y.n y.c,.int .i64 y.m.co,.int .i64 y.m.fr,.int .i64 y.m.til,.int .i64 y.m.reg,.int .i64 y.m.du.rate,.int .i64 y.m.du.am,.int .i64 y.m.du.per,.bool y.m.du.hm,.int .i64 y.m.du.most,.bool y.m.du.hl,.int .i64 y.m.du.least]∧OwnY gx w' ⟨{ y.m with orgs:=l' },A',n',c'⟩:=by
 have ha:=h.alloc o
 obtain⟨J,hJ⟩:=ha.mw.src.src
 have hy:=ha.yo.1
 have hge:∀ g,(Value.slice y.A y.n y.c).ownBlock=some g→gx≤g:=fun g e=>own_base hy g e
 have hbx:Bl w' gx 62 #[.int .i64 y.m.id,.int .i64 y.m.kind,.string y.m.pre,.slice y.A y.n y.c,.int .i64 y.m.co,.int .i64 y.m.fr,.int .i64 y.m.til,.int .i64 y.m.reg,.int .i64 y.m.du.rate,.int .i64 y.m.du.am,.int .i64 y.m.du.per,.bool y.m.du.hm,.int .i64 y.m.du.most,.bool y.m.du.hl,.int .i64 y.m.du.least]:=(hg.block gx ha.b.lt (fun e=>own_apart hy ha.b (by decide) e)).trans ha.b
 refine⟨⟨⟨⟨J,(hg.block gs hJ.lt (fun e=>own_apart hy hJ (by decide) e)).trans hJ⟩,ha.mw.src.ints,ha.mw.src.below.grown hg ha.mw.src.below.size (fun g e=>by have:=hge g e;have:=h.gl;have:=ha.mw.src.base;omega),ha.mw.src.base,ha.mw.src.few⟩,own_of_block ha.mw.o fun g hgb=>hg.block g (own_lt ha.mw.o g hgb) (fun e=>by have:=hge g e.symm;have:=h.lt g hgb;omega),fun z hz=>⟨own_of_block (ha.mw.orgs z hz).1 fun g hgb=>hg.block g (own_lt (ha.mw.orgs z hz).1 g hgb) (fun e=>by have:=hge g e.symm;have:=h.lts z hz g hgb;omega),(ha.mw.orgs z hz).2⟩⟩,hbx,ho,hn,hl,h.yo.2.2.2⟩
theorem MeB.more (h:MeB w gs LA m lc xs R d ys gx y wx) {o:Obj} (hg:(wx.alloc o).grownBy w' (Value.slice y.A y.n y.c).ownBlock) {A':Option Addr} {n' c':Nat} {l':List ByteArray} (ho:w'.ownsRow gx 9 1 (.slice A' n' c') n' (l'.map Value.string)) (hn:n'≤10) (hl:∀ s∈l',s.size≤1000) :
  MeB w gs LA m lc xs R d ys gx ⟨{ y.m with orgs:=l' },A',n',c'⟩ (w'.setCell ⟨gx,3,none⟩ (.slice A' n' c')):=by
 obtain⟨h1,h2,h3⟩:=h.grow hg ho hn hl
 exact MeB.mk2 h1 h2 h.lt h.lts h.gl ((Only.refl gx w').setCell 3 _) (by simpa using h2.put 3 (.slice A' n' c')) h3
theorem MeW.app (h:MeW w gs LA m lc xs R d ys wx) {o:Obj} (hg:(wx.alloc o).grownBy w' (Value.slice R ys.length d).ownBlock) {R':Option Addr} {d':Nat} {zs:List MsA} (ho:w'.ownsRow w.heap.size 62 15 (.slice R' (ys.length+zs.length) d') (ys.length+zs.length) (flat encM ys ++ flat encM zs)) (hz:∀ z∈zs,OwnY w.heap.size wx z) :
  MeW w gs LA m lc xs R' d' (ys ++ zs) w':=by
 have ha:=h.alloc o
 obtain⟨J,hJ⟩:=ha.src.src
 have hw:∀ z,OwnY w.heap.size wx z→OwnY w.heap.size w' z:=fun z hz=>by
  have hr1:=own_alloc hz.1 o
  exact⟨own_of_block hr1 fun g hgb=>hg.block g (own_lt hr1 g hgb) (fun e=>own_far20 hr1 ha.o (by decide) g hgb e.symm),hz.2⟩
 refine⟨⟨⟨J,(hg.block gs hJ.lt (fun e=>own_apart ha.o hJ (by decide) e)).trans hJ⟩,ha.src.ints,ha.src.below.grown hg ha.src.below.size (fun g e=>own_base ha.o g e),ha.src.base,ha.src.few⟩,by rw [List.length_append,flat_append];exact ho,fun z hz'=>?_⟩
 rcases List.mem_append.1 hz' with h1 | h1
 ·exact hw z (h.orgs z h1)
 ·exact hw z (hz z h1)
theorem MeB.own0 (h:OwnY gx wx y) (hl:w.heap.size≤gx):OwnY w.heap.size wx y:=⟨own_mono h.1 hl,h.2⟩
theorem OwnY.nil {B:Nat} {mm:Ms} (h:mm.orgs = []) (hp:mm.pre.size≤1000):OwnY B wx ⟨mm,none,0,0⟩:=⟨by rw [h];exact⟨by simp,.inl ⟨rfl,rfl⟩⟩,by simp,fun s hs=>(by rw [h] at hs;cases hs),hp⟩
theorem OwnY.sr {B:Nat} (h:OwnY B wx y):Sr wx y.A y.n y.m.orgs:=Sr.own h.1 (by have:=h.2.1;omega) (fun s hs=>by have:=h.2.2.1 s hs;omega)
theorem MeW.reads (h:MeW w gs LA m lc xs R d ys wx) (hl:ys.length≤100):MsR wx R ys.length ys:=by
 refine⟨Recs.of_own encM_len h.o rfl,by omega,fun i hi=>?_⟩
 have hm:ys[i]! ∈ ys:=by rw [getElem!_pos ys i hi];exact List.getElem_mem _
 exact⟨(h.orgs _ hm).sr,by have:=(h.orgs _ hm).2.2.2;omega⟩
end
def MesRes (w:World) (e:Ending) (w':World):Prop:=∃ (R:Option Addr) (c:Nat) (ys:List MsA),e=.returned (.slice R ys.length c)∧MsR w' R ys.length ys∧ys.length≤100∧RowKit.Below w.heap.size w w'
theorem step_callf0 {P:Program} {w:World} {ops:Array Oper} {o:Oper} {a:Act} {K:Act→World→Prop} {Q:Exit→Act→World→Prop} {E:Prop} (hgd:o.guard=none) {f:FuncId} {ts:Array TypeId}
  (ho:o.op=.call { callee:=.value (.func f),args:=#[],argTypes:=ts }) (hf:hasBody P f=true) (hc:Calls P f #[] w fun e w'=>∃ v,e=.returned v∧K (a.put o.dst v) w') :
  if Region.wanted o (yielded ops a.tmps)=true then Oper.wp P o a w K Q else E:=by
 have hw:Region.wanted o (yielded ops a.tmps)=true:=by simp [Region.wanted,hgd]
 rw [if_pos hw]
 exact op_call ho hf (by simp) hc
set_option maxRecDepth 100000 in
set_option maxHeartbeats 32000000 in
theorem measures20_any (A1:Option Addr) (n1 c1:Nat) (xs1:List Int) (w:World) (h1:Ints w A1 n1 xs1) (hnc1:n1≤c1) (hcm1:c1≤9223372036854775807) :
  Calls Tryz.prog 5 #[.slice A1 n1 c1] w (MesRes w):=by
 have hT:=h1.take (m:=min n1 300) (by omega)
 obtain⟨m,hm⟩:∃ m,m=min n1 300:=⟨_,rfl⟩
 have HC:Hid (Calls Tryz.prog 15 #[.slice A1 n1 c1,.int .i64 300] w fun e w'=>e=.returned (.slice A1 m c1)∧w=w'):=by
  rw [hm]
  exact cut_any A1 n1 c1 300 xs1 _ h1 hnc1 hcm1 (by omega) (by omega)
 rw [← hm] at hT
 have hm1:m≤300:=by omega
 obtain⟨xs,hxs⟩:∃ xs,xs1.take m=xs:=⟨_,rfl⟩
 rw [hxs] at hT
 have HI:=Lib.hid hT
 clear hm hxs hT h1 hnc1 hcm1
 go_enter Tryz.func5,Tryz.ntmps5
 go_wp2_with fail
 refine HC.out.mono ?_
 rintro e wz ⟨rfl,rfl⟩
 clear HC
 have HW0:Hid (MeW w w.heap.size A1 m c1 xs none 0 [] (w.alloc (.cells #[.slice A1 m c1,.int .i64 0] 55))):=⟨⟨⟨0,Bl.new _ _ _⟩,HI.out,(Below.refl _ _).alloc (Nat.le_refl _) _,Nat.le_refl _,by omega⟩,⟨by simp [flat],.inl ⟨rfl,rfl⟩⟩,fun z hz=>by cases hz⟩
 go_upto_region 3 with (fail)
 generalize w.alloc (.cells #[.slice A1 m c1,.int .i64 0] 55)=W0 at *
 obtain⟨gs,hgs⟩:∃ gs,w.heap.size=gs:=⟨_,rfl⟩
 rw [hgs] at HW0
 try rw [hgs]
 go_wp2_with fail
 refine (next20 HW0.out.src 8 (by decide) (by decide)).mono ?_
 rintro e w1 ⟨v0,rfl,hv0,ht⟩
 have HW1:=Lib.hid (HW0.out.go ht)
 clear ht HW0
 go_upto_if 16 with (fail)
 go_cut [4] (fun v wx=>∃ R d ys,v=.slice R ys.length d∧ys.length≤2∧Hid (MeW w gs A1 m c1 xs R d ys wx))
 case first =>
  by_cases hp:0<v0
  case neg =>
   have q0:decide (v0 > 0)=false:=by simp;omega
   go_wp2_with fail
   go_meet
   exact⟨none,0,[],rfl,by simp,HW1.out⟩
  case pos =>
   have q0:decide (v0 > 0)=true:=by simp;omega
   go_wp2_with fail
   refine (duty20 HW1.out.src).mono ?_
   rintro e w2 ⟨d1,rfl,ht⟩
   have HW2:=Lib.hid (HW1.out.go ht)
   clear ht HW1
   go_wp2_with fail
   refine (duty20 HW2.out.src).mono ?_
   rintro e w3 ⟨d2,rfl,ht⟩
   have HW3:=Lib.hid (HW2.out.go ht)
   clear ht HW2
   have HOA:Hid ((w3.alloc (.cells #[.int .i64 1,.int .i64 1,.string ⟨#[57,52]⟩,.slice none 0 0,.int .i64 0,.int .i64 0,.int .i64 36525,.int .i64 (-1),.int .i64 d1.rate,.int .i64 d1.am,.int .i64 d1.per,.bool d1.hm,.int .i64 d1.most,.bool d1.hl,.int .i64 d1.least,.int .i64 2,.int .i64 1,.string ⟨#[57,53]⟩,.slice none 0 0,.int .i64 0,.int .i64 0,.int .i64 25,.int .i64 (-1),.int .i64 d2.rate,.int .i64 d2.am,.int .i64 d2.per,.bool d2.hm,.int .i64 d2.most,.bool d2.hl,.int .i64 d2.least] 62)).ownsRow w.heap.size 62 15 (.slice none 0 0) 0 []):=⟨by simp,.inl ⟨rfl,rfl⟩⟩
   have HRD:Hid (Rd (w3.alloc (.cells #[.int .i64 1,.int .i64 1,.string ⟨#[57,52]⟩,.slice none 0 0,.int .i64 0,.int .i64 0,.int .i64 36525,.int .i64 (-1),.int .i64 d1.rate,.int .i64 d1.am,.int .i64 d1.per,.bool d1.hm,.int .i64 d1.most,.bool d1.hl,.int .i64 d1.least,.int .i64 2,.int .i64 1,.string ⟨#[57,53]⟩,.slice none 0 0,.int .i64 0,.int .i64 0,.int .i64 25,.int .i64 (-1),.int .i64 d2.rate,.int .i64 d2.am,.int .i64 d2.per,.bool d2.hm,.int .i64 d2.most,.bool d2.hl,.int .i64 d2.least] 62)) 15 (some ⟨w3.heap.size,0,none⟩) 2 [.int .i64 1,.int .i64 1,.string ⟨#[57,52]⟩,.slice none 0 0,.int .i64 0,.int .i64 0,.int .i64 36525,.int .i64 (-1),.int .i64 d1.rate,.int .i64 d1.am,.int .i64 d1.per,.bool d1.hm,.int .i64 d1.most,.bool d1.hl,.int .i64 d1.least,.int .i64 2,.int .i64 1,.string ⟨#[57,53]⟩,.slice none 0 0,.int .i64 0,.int .i64 0,.int .i64 25,.int .i64 (-1),.int .i64 d2.rate,.int .i64 d2.am,.int .i64 d2.per,.bool d2.hm,.int .i64 d2.most,.bool d2.hl,.int .i64 d2.least]):=rd_bl (xs:=[.int .i64 1,.int .i64 1,.string ⟨#[57,52]⟩,.slice none 0 0,.int .i64 0,.int .i64 0,.int .i64 36525,.int .i64 (-1),.int .i64 d1.rate,.int .i64 d1.am,.int .i64 d1.per,.bool d1.hm,.int .i64 d1.most,.bool d1.hl,.int .i64 d1.least,.int .i64 2,.int .i64 1,.string ⟨#[57,53]⟩,.slice none 0 0,.int .i64 0,.int .i64 0,.int .i64 25,.int .i64 (-1),.int .i64 d2.rate,.int .i64 d2.am,.int .i64 d2.per,.bool d2.hm,.int .i64 d2.most,.bool d2.hl,.int .i64 d2.least]) (Bl.new _ _ _) rfl
   have HON:Hid (∀ u∈([.int .i64 1,.int .i64 1,.string ⟨#[57,52]⟩,.slice none 0 0,.int .i64 0,.int .i64 0,.int .i64 36525,.int .i64 (-1),.int .i64 d1.rate,.int .i64 d1.am,.int .i64 d1.per,.bool d1.hm,.int .i64 d1.most,.bool d1.hl,.int .i64 d1.least,.int .i64 2,.int .i64 1,.string ⟨#[57,53]⟩,.slice none 0 0,.int .i64 0,.int .i64 0,.int .i64 25,.int .i64 (-1),.int .i64 d2.rate,.int .i64 d2.am,.int .i64 d2.per,.bool d2.hm,.int .i64 d2.most,.bool d2.hl,.int .i64 d2.least]:List Value),u.oneCell'=true):=fun u hu=>by
    simp only [List.mem_cons,List.not_mem_nil,or_false] at hu
    rcases hu with rfl | rfl | rfl | rfl | rfl | rfl | rfl | rfl | rfl | rfl | rfl | rfl | rfl | rfl | rfl | rfl | rfl | rfl | rfl | rfl | rfl | rfl | rfl | rfl | rfl | rfl | rfl | rfl | rfl | rfl <;> rfl
   have HM1:Hid (0+2≤maxLen∧(0+2)*144≤140737488355328):=⟨by unfold maxLen;omega,by omega⟩
   have HBA:=Lib.hid ((HW3.out.alloc (.cells #[.int .i64 1,.int .i64 1,.string ⟨#[57,52]⟩,.slice none 0 0,.int .i64 0,.int .i64 0,.int .i64 36525,.int .i64 (-1),.int .i64 d1.rate,.int .i64 d1.am,.int .i64 d1.per,.bool d1.hm,.int .i64 d1.most,.bool d1.hl,.int .i64 d1.least,.int .i64 2,.int .i64 1,.string ⟨#[57,53]⟩,.slice none 0 0,.int .i64 0,.int .i64 0,.int .i64 25,.int .i64 (-1),.int .i64 d2.rate,.int .i64 d2.am,.int .i64 d2.per,.bool d2.hm,.int .i64 d2.most,.bool d2.hl,.int .i64 d2.least] 62)).src.below.size)
   go_wp2_with (at_builtin;go_loud (refine wpList_append_rd _ rfl (.tmp 17) (.tmp 24) 24 rfl w.heap.size 62 _ 15 144 Tryz.underlying24 infoMs rfl (by decide) (.slice none 0 0) 0 [] rfl HOA.out (some ⟨w3.heap.size,0,none⟩) 2 _ [.int .i64 1,.int .i64 1,.string ⟨#[57,52]⟩,.slice none 0 0,.int .i64 0,.int .i64 0,.int .i64 36525,.int .i64 (-1),.int .i64 d1.rate,.int .i64 d1.am,.int .i64 d1.per,.bool d1.hm,.int .i64 d1.most,.bool d1.hl,.int .i64 d1.least,.int .i64 2,.int .i64 1,.string ⟨#[57,53]⟩,.slice none 0 0,.int .i64 0,.int .i64 0,.int .i64 25,.int .i64 (-1),.int .i64 d2.rate,.int .i64 d2.am,.int .i64 d2.per,.bool d2.hm,.int .i64 d2.most,.bool d2.hl,.int .i64 d2.least] rfl HRD.out HON.out HM1.out.1 HM1.out.2 HBA.out ?_;intro v4a w4 ho4 hg4 hv4;obtain⟨R4,d4,rfl⟩:=own_slice ho4))
   have HW4:Hid (MeW w gs A1 m c1 xs R4 d4 ([] ++ [(⟨⟨1,1,⟨#[57,52]⟩,[],0,0,36525,-1,d1⟩,none,0,0⟩:MsA),⟨⟨2,1,⟨#[57,53]⟩,[],0,0,25,-1,d2⟩,none,0,0⟩]) w4):=HW3.out.app (zs:=[⟨⟨1,1,⟨#[57,52]⟩,[],0,0,36525,-1,d1⟩,none,0,0⟩,⟨⟨2,1,⟨#[57,53]⟩,[],0,0,25,-1,d2⟩,none,0,0⟩]) hg4 ho4 (fun z hz=>by
    simp only [List.mem_cons,List.not_mem_nil,or_false] at hz
    rcases hz with rfl | rfl
    ·exact OwnY.nil rfl (by show 2≤1000;decide)
    ·exact OwnY.nil rfl (by show 2≤1000;decide))
   clear ho4 hg4 hv4 HOA HRD HON HM1 HBA HW3
   go_meet
   exact⟨R4,d4,[⟨⟨1,1,⟨#[57,52]⟩,[],0,0,36525,-1,d1⟩,none,0,0⟩,⟨⟨2,1,⟨#[57,53]⟩,[],0,0,25,-1,d2⟩,none,0,0⟩],rfl,by simp,HW4.out⟩
 case rest =>
 clear HW1
 obtain⟨R,d,ys,rfl,hys,HW2⟩:=hcut
 go_wp2_with fail
 refine (next20 HW2.out.src 13 (by decide) (by decide)).mono ?_
 rintro e w3 ⟨nn,rfl,hnn,ht⟩
 have HW3:=Lib.hid (HW2.out.go ht)
 clear ht HW2
 go_wp2_with fail
 go_loopw [4,5] (fun v i wx=>∃ (R:Option Addr) (d:Nat) (ys:List MsA) (k:Nat),v=.slice R ys.length d∧i=.int .i64 (k:Int)∧(k:Int)≤12∧ys.length≤2+k∧Hid (MeW w gs A1 m c1 xs R d ys wx)) (fun _ i _=>13 - (intOf i).toNat)
 case atStart=>exact⟨R,d,ys,0,rfl,rfl,by omega,by omega,HW3.out⟩
 case round =>
  clear HW3
  obtain⟨R,d,ys,k,rfl,rfl,hk,hyl,HW⟩:=hrel
  by_cases hlt:(k:Int)<nn
  case neg =>
   have q0:decide ((k:Int)<nn)=false:=by simp;omega
   go_wp2_with fail
   go_ret
   exact⟨R,d,ys,rfl,HW.out.reads (by omega),by omega,HW.out.src.below⟩
  case pos =>
  have q0:decide ((k:Int)<nn)=true:=by simp;omega
  have u1:IntKind.i64.wrap (2*(k:Int))=2*(k:Int):=IntWalk.i64_in _ (by omega)
  have u2:IntKind.i64.wrap (3+2*(k:Int))=3+2*(k:Int):=IntWalk.i64_in _ (by omega)
  have uk:IntKind.i64.wrap ((k:Int)+1)=((k+1:Nat):Int):=IntWalk.i64_in _ (by omega)
  go_wp2_with fail
  refine (next20 HW.out.src 6 (by decide) (by decide)).mono ?_
  rintro e w4 ⟨v1,rfl,hv1,ht⟩
  have HW4:=Lib.hid (HW.out.go ht)
  clear ht HW
  have u3:IntKind.i64.wrap (1+v1)=1+v1:=IntWalk.i64_in _ (by omega)
  go_wp2_with fail
  refine (next20 HW4.out.src 4 (by decide) (by decide)).mono ?_
  rintro e w5 ⟨v2,rfl,hv2,ht⟩
  have HW5:=Lib.hid (HW4.out.go ht)
  clear ht HW4
  have u4:IntKind.i64.wrap (2*v2)=2*v2:=IntWalk.i64_in _ (by omega)
  obtain⟨q,hq,hq2⟩:∃ q:Nat,IntKind.i64.wrap (2+2*v2)=(q:Int)∧q≤100:=⟨(2+2*v2).toNat,by rw [Int.toNat_of_nonneg (by omega)];exact IntWalk.i64_in _ (by omega),by omega⟩
  go_wp2_with fail
  refine (code20 q hq2 HW5.out.src).mono ?_
  rintro e w6 ⟨pre,rfl,hpre,ht⟩
  have HW6:=Lib.hid (HW5.out.go ht)
  clear ht HW5
  go_wp2_with fail
  refine (next20 HW6.out.src 20 (by decide) (by decide)).mono ?_
  rintro e w7 ⟨fr,rfl,hfr,ht⟩
  have HW7:=Lib.hid (HW6.out.go ht)
  clear ht HW6
  go_wp2_with fail
  refine (duty20 HW7.out.src).mono ?_
  rintro e w8 ⟨du,rfl,ht⟩
  have HW8:=Lib.hid (HW7.out.go ht)
  clear ht HW7
  have HB0:Hid (MeB w gs A1 m c1 xs R d ys w8.heap.size ⟨⟨3+2*(k:Int),1+v1,pre,[],0,fr,0,-1,du⟩,none,0,0⟩ (w8.alloc (.cells #[.int .i64 (3+2*(k:Int)),.int .i64 (1+v1),.string pre,.slice none 0 0,.int .i64 0,.int .i64 fr,.int .i64 0,.int .i64 (-1),.int .i64 du.rate,.int .i64 du.am,.int .i64 du.per,.bool du.hm,.int .i64 du.most,.bool du.hl,.int .i64 du.least] 62))):=⟨HW8.out.alloc _,Bl.new _ _ _,OwnY.nil rfl hpre,fun g hg=>own_lt HW8.out.o g hg,fun z hz g hg=>own_lt (HW8.out.orgs z hz).1 g hg,HW8.out.src.lt⟩
  clear HW8
  go_upto_region 9 with (fail)
  generalize w8.alloc (.cells #[.int .i64 (3+2*(k:Int)),.int .i64 (1+v1),.string pre,.slice none 0 0,.int .i64 0,.int .i64 fr,.int .i64 0,.int .i64 (-1),.int .i64 du.rate,.int .i64 du.am,.int .i64 du.per,.bool du.hm,.int .i64 du.most,.bool du.hl,.int .i64 du.least] 62)=V0 at *
  generalize w8.heap.size=gx at *
  obtain⟨y,hy⟩:∃ y:MsA,y=⟨⟨3+2*(k:Int),1+v1,pre,[],0,fr,0,-1,du⟩,none,0,0⟩:=⟨_,rfl⟩
  have hy0:y.n=0∧0≤y.m.fr∧y.m.fr≤19:=by subst hy;exact⟨rfl,by simpa using hfr.1,by simp;omega⟩
  rw [← hy] at HB0
  clear hy hpre hfr u1 u2 u3 u4 hq
  go_cut [7] from 28 to 100 (fun pp wx=>∃ y:MsA,pp=.pointer (some ⟨gx,0,none⟩)∧(y.n=0∧0≤y.m.fr∧y.m.fr≤19)∧Hid (MeB w gs A1 m c1 xs R d ys gx y wx))
  case first =>
   have y5:V0.cell? ⟨gx,5,none⟩=some (.int .i64 y.m.fr):=HB0.out.b.cell 5
   have y6:V0.cell? ⟨gx,6,none⟩=some (.int .i64 y.m.til):=HB0.out.b.cell 6
   have f6:V0.frozen? ⟨gx,6,none⟩=false:=HB0.out.b.free 6
   have u1:IntKind.i64.wrap (y.m.fr+1)=y.m.fr+1:=IntWalk.i64_in _ (by omega)
   have HD:Hid (MeB w gs A1 m c1 xs R d ys gx y V0.drew):=HB0.out.drew
   have HN:Hid (Calls Tryz.prog 16 #[.pointer (some ⟨gs,0,none⟩),.int .i64 30] V0.drew fun e w'=>∃ v:Int,e=.returned (.int .i64 v)∧(0≤v∧v≤29)∧MeB w gs A1 m c1 xs R d ys gx y w'):=(next20 HD.out.mw.src 30 (by decide) (by decide)).mono (fun e w' hh=>by obtain⟨v,he,hv,ht⟩:=hh;exact⟨v,he,by omega,HD.out.go ht⟩)
   have HSS:Hid (∀ wx,MeB w gs A1 m c1 xs R d ys gx y wx→wx.cell? ⟨gx,5,none⟩=some (.int .i64 y.m.fr)):=fun wx h=>h.b.cell 5
   have HS6:Hid (∀ wx,MeB w gs A1 m c1 xs R d ys gx y wx→wx.cell? ⟨gx,6,none⟩=some (.int .i64 y.m.til)∧wx.frozen? ⟨gx,6,none⟩=false):=fun wx h=>⟨h.b.cell 6,h.b.free 6⟩
   have HP:Hid (∀ wx (v:Int),MeB w gs A1 m c1 xs R d ys gx y wx→MeB w gs A1 m c1 xs R d ys gx ⟨{ y.m with til:=v },y.A,y.n,y.c⟩ (wx.setCell ⟨gx,6,none⟩ (.int .i64 v))):=fun wx v h=>h.put ((Only.refl gx wx).setCell 6 _) (by simpa using h.b.put 6 (.int .i64 v)) h.yo
   have HSP:Hid (∀ wx (v:Int),MeB w gs A1 m c1 xs R d ys gx y wx→(wx.setCell ⟨gx,6,none⟩ (.int .i64 v)).cell? ⟨gx,5,none⟩=some (.int .i64 y.m.fr)):=fun wx v h=>(HP.out wx v h).b.cell 5
   have hk00:=HB0
   go_region_held3 (fun wx=>wx.cell? ⟨gx,5,none⟩=some (.int .i64 y.m.fr))
    (first | with_reducible exact HSP.out _ _ hkz.out | with_reducible exact HSS.out _ hkz.out | with_reducible exact HSS.out _ HD.out | with_reducible exact HSS.out _ hk00.out)
    (first | (go_at_call 16;with_reducible (refine HN.out.mono ?_);rintro e wz ⟨v,rfl,hv,hkz0⟩;have hkz:=Lib.hid hkz0;obtain⟨z6,g6⟩:=HS6.out _ hkz.out) | fail)
   all_goals
    go_wp2_with fail
    go_meet
    exact⟨⟨{ y.m with til:=IntKind.i64.wrap (y.m.fr+1+v) },y.A,y.n,y.c⟩,rfl,hy0,HP.out _ _ hkz.out⟩
  case rest =>
  clear HB0 hy0
  obtain⟨y,rfl,hy0,HB⟩:=hcut
  go_wp2_with fail
  refine (next20 HB.out.mw.src 3 (by decide) (by decide)).mono ?_
  rintro e wa ⟨va,rfl,hva,ht⟩
  have HA:=Lib.hid (HB.out.go ht)
  clear ht HB
  go_upto_if 59 with (fail)
  go_cut [7] from 28 to 100 (fun pp wx=>∃ y:MsA,pp=.pointer (some ⟨gx,0,none⟩)∧y.n=0∧Hid (MeB w gs A1 m c1 xs R d ys gx y wx))
  case first =>
   by_cases hp:va=1
   case neg =>
    have q1:(va == 1)=false:=by simp;omega
    go_wp2_with fail
    go_meet
    exact⟨y,rfl,hy0.1,HA.out⟩
   case pos =>
    have q1:(va == 1)=true:=by simp;omega
    have y5:wa.cell? ⟨gx,5,none⟩=some (.int .i64 y.m.fr):=HA.out.b.cell 5
    have y7:wa.cell? ⟨gx,7,none⟩=some (.int .i64 y.m.reg):=HA.out.b.cell 7
    have f7:wa.frozen? ⟨gx,7,none⟩=false:=HA.out.b.free 7
    have u1:IntKind.i64.wrap (y.m.fr+1)=y.m.fr+1:=IntWalk.i64_in _ (by omega)
    go_wp2_with fail
    refine (next20 HA.out.mw.src (y.m.fr+1) (by omega) (by omega)).mono ?_
    rintro e wb ⟨v1,rfl,hv1,ht⟩
    have HC:=Lib.hid (HA.out.go ht)
    clear ht HA y5 y7 f7
    have y7:wb.cell? ⟨gx,7,none⟩=some (.int .i64 y.m.reg):=HC.out.b.cell 7
    have f7:wb.frozen? ⟨gx,7,none⟩=false:=HC.out.b.free 7
    have HE:Hid (MeB w gs A1 m c1 xs R d ys gx ⟨{ y.m with reg:=v1 },y.A,y.n,y.c⟩ (wb.setCell ⟨gx,7,none⟩ (.int .i64 v1))):=HC.out.put ((Only.refl gx wb).setCell 7 _) (by simpa using HC.out.b.put 7 (.int .i64 v1)) HC.out.yo
    clear HC
    go_wp2_with fail
    go_meet
    exact⟨⟨{ y.m with reg:=v1 },y.A,y.n,y.c⟩,rfl,hy0.1,HE.out⟩
  case rest =>
  clear HA
  obtain⟨y,rfl,hy0,HB⟩:=hcut
  go_wp2_with fail
  refine (next20 HB.out.mw.src 3 (by decide) (by decide)).mono ?_
  rintro e wa ⟨va,rfl,hva,ht⟩
  have HA:=Lib.hid (HB.out.go ht)
  clear ht HB
  go_upto_if 68 with (fail)
  go_cut [7] from 28 to 100 (fun pp wx=>∃ y:MsA,pp=.pointer (some ⟨gx,0,none⟩)∧y.n=0∧Hid (MeB w gs A1 m c1 xs R d ys gx y wx))
  case first =>
   by_cases hp:va=1
   case neg =>
    have q1:(va == 1)=false:=by simp;omega
    go_wp2_with fail
    go_meet
    exact⟨y,rfl,hy0,HA.out⟩
   case pos =>
    have q1:(va == 1)=true:=by simp;omega
    go_wp2_with fail
    refine (next20 HA.out.mw.src 2 (by omega) (by omega)).mono ?_
    rintro e wb ⟨v1,rfl,hv1,ht⟩
    have HC:=Lib.hid (HA.out.go ht)
    have u1:IntKind.i64.wrap (1+v1)=1+v1:=IntWalk.i64_in _ (by omega)
    clear ht HA
    have y4:wb.cell? ⟨gx,4,none⟩=some (.int .i64 y.m.co):=HC.out.b.cell 4
    have f4:wb.frozen? ⟨gx,4,none⟩=false:=HC.out.b.free 4
    have HE:Hid (MeB w gs A1 m c1 xs R d ys gx ⟨{ y.m with co:=1+v1 },y.A,y.n,y.c⟩ (wb.setCell ⟨gx,4,none⟩ (.int .i64 (1+v1)))):=HC.out.put ((Only.refl gx wb).setCell 4 _) (by simpa using HC.out.b.put 4 (.int .i64 (1+v1))) HC.out.yo
    clear HC
    go_wp2_with fail
    go_meet
    exact⟨⟨{ y.m with co:=1+v1 },y.A,y.n,y.c⟩,rfl,hy0,HE.out⟩
  case rest =>
  clear HA
  obtain⟨y,rfl,hy0,HB⟩:=hcut
  go_wp2_with fail
  refine (next20 HB.out.mw.src 16 (by decide) (by decide)).mono ?_
  rintro e wa ⟨mask,rfl,hmask,ht⟩
  have HA:=Lib.hid (HB.out.go ht)
  clear ht HB
  go_wp2_with fail
  go_loopw [9] (fun i wx=>∃ (j:Nat) (y:MsA),i=.int .i64 (j:Int)∧j≤3∧y.n≤j∧Hid (MeB w gs A1 m c1 xs R d ys gx y wx)) (fun i _=>4 - (intOf i).toNat)
  case atStart=>exact⟨0,y,rfl,by omega,by omega,HA.out⟩
  case round =>
   clear HA hy0
   obtain⟨j,y,rfl,hj,hyn,HB⟩:=hrel
   by_cases hj3:j=3
   case pos =>
    have q2:decide ((j:Int)<3)=false:=by simp;omega
    have y0:wr.cell? ⟨gx,0,none⟩=some (.int .i64 y.m.id):=HB.out.b.cell 0
    have y1:wr.cell? ⟨gx,1,none⟩=some (.int .i64 y.m.kind):=HB.out.b.cell 1
    have y2:wr.cell? ⟨gx,2,none⟩=some (.string y.m.pre):=HB.out.b.cell 2
    have y3:wr.cell? ⟨gx,3,none⟩=some (.slice y.A y.n y.c):=HB.out.b.cell 3
    have y4:wr.cell? ⟨gx,4,none⟩=some (.int .i64 y.m.co):=HB.out.b.cell 4
    have y5:wr.cell? ⟨gx,5,none⟩=some (.int .i64 y.m.fr):=HB.out.b.cell 5
    have y6:wr.cell? ⟨gx,6,none⟩=some (.int .i64 y.m.til):=HB.out.b.cell 6
    have y7:wr.cell? ⟨gx,7,none⟩=some (.int .i64 y.m.reg):=HB.out.b.cell 7
    have y8:wr.cell? ⟨gx,8,none⟩=some (.int .i64 y.m.du.rate):=HB.out.b.cell 8
    have y9:wr.cell? ⟨gx,9,none⟩=some (.int .i64 y.m.du.am):=HB.out.b.cell 9
    have y10:wr.cell? ⟨gx,10,none⟩=some (.int .i64 y.m.du.per):=HB.out.b.cell 10
    have y11:wr.cell? ⟨gx,11,none⟩=some (.bool y.m.du.hm):=HB.out.b.cell 11
    have y12:wr.cell? ⟨gx,12,none⟩=some (.int .i64 y.m.du.most):=HB.out.b.cell 12
    have y13:wr.cell? ⟨gx,13,none⟩=some (.bool y.m.du.hl):=HB.out.b.cell 13
    have y14:wr.cell? ⟨gx,14,none⟩=some (.int .i64 y.m.du.least):=HB.out.b.cell 14
    have HOA:=Lib.hid (own_alloc HB.out.mw.o (.cells #[.int .i64 y.m.id,.int .i64 y.m.kind,.string y.m.pre,.slice y.A y.n y.c,.int .i64 y.m.co,.int .i64 y.m.fr,.int .i64 y.m.til,.int .i64 y.m.reg,.int .i64 y.m.du.rate,.int .i64 y.m.du.am,.int .i64 y.m.du.per,.bool y.m.du.hm,.int .i64 y.m.du.most,.bool y.m.du.hl,.int .i64 y.m.du.least] 62))
    have HRD:Hid (Rd (wr.alloc (.cells #[.int .i64 y.m.id,.int .i64 y.m.kind,.string y.m.pre,.slice y.A y.n y.c,.int .i64 y.m.co,.int .i64 y.m.fr,.int .i64 y.m.til,.int .i64 y.m.reg,.int .i64 y.m.du.rate,.int .i64 y.m.du.am,.int .i64 y.m.du.per,.bool y.m.du.hm,.int .i64 y.m.du.most,.bool y.m.du.hl,.int .i64 y.m.du.least] 62)) 15 (some ⟨wr.heap.size,0,none⟩) 1 (encM y)):=rd_bl (xs:=encM y) (Bl.new _ _ _) rfl
    have HON:=Lib.hid (encM_one y)
    have HM1:Hid (ys.length+1≤maxLen∧(ys.length+1)*144≤140737488355328):=⟨by unfold maxLen;omega,by omega⟩
    have HBA:=Lib.hid ((HB.out.mw.alloc (.cells #[.int .i64 y.m.id,.int .i64 y.m.kind,.string y.m.pre,.slice y.A y.n y.c,.int .i64 y.m.co,.int .i64 y.m.fr,.int .i64 y.m.til,.int .i64 y.m.reg,.int .i64 y.m.du.rate,.int .i64 y.m.du.am,.int .i64 y.m.du.per,.bool y.m.du.hm,.int .i64 y.m.du.most,.bool y.m.du.hl,.int .i64 y.m.du.least] 62)).src.below.size)
    have HY0:Hid (OwnY w.heap.size wr y):=MeB.own0 HB.out.yo (by have:=HB.out.gl;have:=HB.out.mw.src.base;omega)
    go_wp2_with (at_builtin;go_loud (refine wpList_append_rd _ rfl (.tmp 97) (.tmp 99) 24 rfl w.heap.size 62 _ 15 144 Tryz.underlying24 infoMs rfl (by decide) (.slice R ys.length d) ys.length (flat encM ys) rfl HOA.out (some ⟨wr.heap.size,0,none⟩) 1 _ (encM y) rfl HRD.out HON.out HM1.out.1 HM1.out.2 HBA.out ?_;intro v4a w4 ho4 hg4 hv4;obtain⟨R4,d4,rfl⟩:=own_slice ho4))
    have HW5:Hid (MeW w gs A1 m c1 xs R4 d4 (ys ++ [y]) w4):=HB.out.mw.app (zs:=[y]) hg4 (by simpa [flat] using ho4) (fun z hz=>by rw [List.mem_singleton] at hz;subst hz;exact HY0.out)
    clear ho4 hg4 hv4 HOA HRD HON HM1 HBA HY0 HB
    go_roundw
    case rel=>exact⟨R4,d4,ys ++ [y],k+1,by rw [List.length_append];rfl,by go_num,by omega,by rw [List.length_append];simp;omega,HW5.out⟩
    case measure=>simp [intOf];omega
   case neg =>
   have q2:decide ((j:Int)<3)=true:=by simp;omega
   by_cases hm7:mask≤7
   case pos =>
    have q3:decide (mask > 7)=false:=by simp;omega
    have y0:wr.cell? ⟨gx,0,none⟩=some (.int .i64 y.m.id):=HB.out.b.cell 0
    have y1:wr.cell? ⟨gx,1,none⟩=some (.int .i64 y.m.kind):=HB.out.b.cell 1
    have y2:wr.cell? ⟨gx,2,none⟩=some (.string y.m.pre):=HB.out.b.cell 2
    have y3:wr.cell? ⟨gx,3,none⟩=some (.slice y.A y.n y.c):=HB.out.b.cell 3
    have y4:wr.cell? ⟨gx,4,none⟩=some (.int .i64 y.m.co):=HB.out.b.cell 4
    have y5:wr.cell? ⟨gx,5,none⟩=some (.int .i64 y.m.fr):=HB.out.b.cell 5
    have y6:wr.cell? ⟨gx,6,none⟩=some (.int .i64 y.m.til):=HB.out.b.cell 6
    have y7:wr.cell? ⟨gx,7,none⟩=some (.int .i64 y.m.reg):=HB.out.b.cell 7
    have y8:wr.cell? ⟨gx,8,none⟩=some (.int .i64 y.m.du.rate):=HB.out.b.cell 8
    have y9:wr.cell? ⟨gx,9,none⟩=some (.int .i64 y.m.du.am):=HB.out.b.cell 9
    have y10:wr.cell? ⟨gx,10,none⟩=some (.int .i64 y.m.du.per):=HB.out.b.cell 10
    have y11:wr.cell? ⟨gx,11,none⟩=some (.bool y.m.du.hm):=HB.out.b.cell 11
    have y12:wr.cell? ⟨gx,12,none⟩=some (.int .i64 y.m.du.most):=HB.out.b.cell 12
    have y13:wr.cell? ⟨gx,13,none⟩=some (.bool y.m.du.hl):=HB.out.b.cell 13
    have y14:wr.cell? ⟨gx,14,none⟩=some (.int .i64 y.m.du.least):=HB.out.b.cell 14
    have HOA:=Lib.hid (own_alloc HB.out.mw.o (.cells #[.int .i64 y.m.id,.int .i64 y.m.kind,.string y.m.pre,.slice y.A y.n y.c,.int .i64 y.m.co,.int .i64 y.m.fr,.int .i64 y.m.til,.int .i64 y.m.reg,.int .i64 y.m.du.rate,.int .i64 y.m.du.am,.int .i64 y.m.du.per,.bool y.m.du.hm,.int .i64 y.m.du.most,.bool y.m.du.hl,.int .i64 y.m.du.least] 62))
    have HRD:Hid (Rd (wr.alloc (.cells #[.int .i64 y.m.id,.int .i64 y.m.kind,.string y.m.pre,.slice y.A y.n y.c,.int .i64 y.m.co,.int .i64 y.m.fr,.int .i64 y.m.til,.int .i64 y.m.reg,.int .i64 y.m.du.rate,.int .i64 y.m.du.am,.int .i64 y.m.du.per,.bool y.m.du.hm,.int .i64 y.m.du.most,.bool y.m.du.hl,.int .i64 y.m.du.least] 62)) 15 (some ⟨wr.heap.size,0,none⟩) 1 (encM y)):=rd_bl (xs:=encM y) (Bl.new _ _ _) rfl
    have HON:=Lib.hid (encM_one y)
    have HM1:Hid (ys.length+1≤maxLen∧(ys.length+1)*144≤140737488355328):=⟨by unfold maxLen;omega,by omega⟩
    have HBA:=Lib.hid ((HB.out.mw.alloc (.cells #[.int .i64 y.m.id,.int .i64 y.m.kind,.string y.m.pre,.slice y.A y.n y.c,.int .i64 y.m.co,.int .i64 y.m.fr,.int .i64 y.m.til,.int .i64 y.m.reg,.int .i64 y.m.du.rate,.int .i64 y.m.du.am,.int .i64 y.m.du.per,.bool y.m.du.hm,.int .i64 y.m.du.most,.bool y.m.du.hl,.int .i64 y.m.du.least] 62)).src.below.size)
    have HY0:Hid (OwnY w.heap.size wr y):=MeB.own0 HB.out.yo (by have:=HB.out.gl;have:=HB.out.mw.src.base;omega)
    go_wp2_with (at_builtin;go_loud (refine wpList_append_rd _ rfl (.tmp 97) (.tmp 99) 24 rfl w.heap.size 62 _ 15 144 Tryz.underlying24 infoMs rfl (by decide) (.slice R ys.length d) ys.length (flat encM ys) rfl HOA.out (some ⟨wr.heap.size,0,none⟩) 1 _ (encM y) rfl HRD.out HON.out HM1.out.1 HM1.out.2 HBA.out ?_;intro v4a w4 ho4 hg4 hv4;obtain⟨R4,d4,rfl⟩:=own_slice ho4))
    have HW5:Hid (MeW w gs A1 m c1 xs R4 d4 (ys ++ [y]) w4):=HB.out.mw.app (zs:=[y]) hg4 (by simpa [flat] using ho4) (fun z hz=>by rw [List.mem_singleton] at hz;subst hz;exact HY0.out)
    clear ho4 hg4 hv4 HOA HRD HON HM1 HBA HY0 HB
    go_roundw
    case rel=>exact⟨R4,d4,ys ++ [y],k+1,by rw [List.length_append];rfl,by go_num,by omega,by rw [List.length_append];simp;omega,HW5.out⟩
    case measure=>simp [intOf];omega
   case neg =>
   have q3:decide (mask > 7)=true:=by simp;omega
   have uj:IntKind.i64.wrap ((j:Int)+1)=((j+1:Nat):Int):=IntWalk.i64_in _ (by omega)
   go_upto_if 87 with (fail)
   generalize (bits BinOp.and IntKind.i64 (mask / 2 ^ j) 1 == 1)=cb
   cases cb
   case false =>
     go_wp2_with fail
     go_roundw
     case rel=>exact⟨j+1,y,by go_num,by omega,by omega,HB.out⟩
     case measure=>simp [intOf];omega
   case true =>
     have hji:(j:Int)<6:=by omega
     have hjz:(0:Int)≤(j:Int):=by omega
     have HCN:Hid (Calls Tryz.prog 19 #[] wr.drew fun e w'=>e=.returned (.slice (some ⟨wr.drew.heap.size,0,none⟩) 6 6)∧w'=wr.drew.alloc (.cells #[.string ⟨#[65,65]⟩,.string ⟨#[66,66]⟩,.string ⟨#[67,67]⟩,.string ⟨#[68,68]⟩,.string ⟨#[69,69]⟩,.string ⟨#[70,70]⟩] 9)):=countries20 wr.drew
     obtain⟨sj,hsj,hsz⟩:=six_at (Bl.new wr.drew 9 #[.string ⟨#[65,65]⟩,.string ⟨#[66,66]⟩,.string ⟨#[67,67]⟩,.string ⟨#[68,68]⟩,.string ⟨#[69,69]⟩,.string ⟨#[70,70]⟩]) (show j<6 by omega)
     have HDR:Hid (MeB w gs A1 m c1 xs R d ys gx y (wr.drew.alloc (.cells #[.string ⟨#[65,65]⟩,.string ⟨#[66,66]⟩,.string ⟨#[67,67]⟩,.string ⟨#[68,68]⟩,.string ⟨#[69,69]⟩,.string ⟨#[70,70]⟩] 9))):=HB.out.drew.alloc _
     have HOA:Hid (((wr.alloc (.cells #[.string ⟨#[65,65]⟩,.string ⟨#[66,66]⟩,.string ⟨#[67,67]⟩,.string ⟨#[68,68]⟩,.string ⟨#[69,69]⟩,.string ⟨#[70,70]⟩] 9)).alloc (.cells #[.string sj] 9)).drew.ownsRow gx 9 1 (.slice y.A y.n y.c) y.n (y.m.orgs.map Value.string)):=own_alloc HDR.out.yo.1 _
     have HRD:Hid (Rd (((wr.alloc (.cells #[.string ⟨#[65,65]⟩,.string ⟨#[66,66]⟩,.string ⟨#[67,67]⟩,.string ⟨#[68,68]⟩,.string ⟨#[69,69]⟩,.string ⟨#[70,70]⟩] 9)).alloc (.cells #[.string sj] 9)).drew) 1 (some ⟨wr.heap.size+1,0,none⟩) 1 [.string sj]):=by
      have h:=rd_bl (xs:=[.string sj]) (size:=1) (n:=1) (Bl.new (wr.alloc (.cells #[.string ⟨#[65,65]⟩,.string ⟨#[66,66]⟩,.string ⟨#[67,67]⟩,.string ⟨#[68,68]⟩,.string ⟨#[69,69]⟩,.string ⟨#[70,70]⟩] 9)) 9 #[.string sj]) rfl
      rw [show (wr.alloc (.cells #[.string ⟨#[65,65]⟩,.string ⟨#[66,66]⟩,.string ⟨#[67,67]⟩,.string ⟨#[68,68]⟩,.string ⟨#[69,69]⟩,.string ⟨#[70,70]⟩] 9)).heap.size=wr.heap.size+1 by simp] at h
      exact h
     have HON:Hid (∀ u∈([.string sj]:List Value),u.oneCell'=true):=fun u hu=>by
      simp only [List.mem_cons,List.not_mem_nil,or_false] at hu
      subst hu;rfl
     have HM1:Hid (y.n+1≤maxLen∧(y.n+1)*16≤140737488355328):=⟨by unfold maxLen;omega,by omega⟩
     have HSZ:Hid (gx≤(((wr.alloc (.cells #[.string ⟨#[65,65]⟩,.string ⟨#[66,66]⟩,.string ⟨#[67,67]⟩,.string ⟨#[68,68]⟩,.string ⟨#[69,69]⟩,.string ⟨#[70,70]⟩] 9)).alloc (.cells #[.string sj] 9)).drew).heap.size):=by have:=(HDR.out.alloc (.cells #[.string sj] 9)).b.lt;exact Nat.le_of_lt this
     have HGR:Hid (∀ (w4:World) (A':Option Addr) (c':Nat),(((wr.alloc (.cells #[.string ⟨#[65,65]⟩,.string ⟨#[66,66]⟩,.string ⟨#[67,67]⟩,.string ⟨#[68,68]⟩,.string ⟨#[69,69]⟩,.string ⟨#[70,70]⟩] 9)).alloc (.cells #[.string sj] 9)).drew).grownBy w4 (Value.slice y.A y.n y.c).ownBlock→w4.ownsRow gx 9 1 (.slice A' (y.n+1) c') (y.n+1) (y.m.orgs.map Value.string ++ [.string sj]) →
       (w4.cell? ⟨gx,3,none⟩=some (.slice y.A y.n y.c)∧w4.frozen? ⟨gx,3,none⟩=false)∧MeB w gs A1 m c1 xs R d ys gx ⟨{ y.m with orgs:=y.m.orgs ++ [sj] },A',y.n+1,c'⟩ (w4.setCell ⟨gx,3,none⟩ (.slice A' (y.n+1) c'))):=fun w4 A' c' hg ho=>by
      have ho2:w4.ownsRow gx 9 1 (.slice A' (y.n+1) c') (y.n+1) ((y.m.orgs ++ [sj]).map Value.string):=by rw [List.map_append];exact ho
      have hl:∀ s∈y.m.orgs ++ [sj],s.size≤1000:=fun s hs=>by
       rcases List.mem_append.1 hs with h1 | h1
       ·exact HDR.out.yo.2.2.1 s h1
       ·rw [List.mem_singleton] at h1;subst h1;exact hsz
      obtain⟨_,h2,_⟩:=HDR.out.grow hg ho2 (by omega) hl
      exact⟨⟨h2.cell 3,h2.free 3⟩,HDR.out.more hg ho2 (by omega) hl⟩
     have HBO:Hid (hasBody Tryz.prog 19=true):=by show _=_;kernel_rfl
     have c3:wr.cell? ⟨gx,3,none⟩=some (.slice y.A y.n y.c):=HB.out.b.cell 3
     have c3d:wr.drew.cell? ⟨gx,3,none⟩=some (.slice y.A y.n y.c):=HB.out.b.cell 3
     have c3a:(wr.drew.alloc (.cells #[.string ⟨#[65,65]⟩,.string ⟨#[66,66]⟩,.string ⟨#[67,67]⟩,.string ⟨#[68,68]⟩,.string ⟨#[69,69]⟩,.string ⟨#[70,70]⟩] 9)).cell? ⟨gx,3,none⟩=some (.slice y.A y.n y.c):=HDR.out.b.cell 3
     have c3b:((wr.drew.alloc (.cells #[.string ⟨#[65,65]⟩,.string ⟨#[66,66]⟩,.string ⟨#[67,67]⟩,.string ⟨#[68,68]⟩,.string ⟨#[69,69]⟩,.string ⟨#[70,70]⟩] 9)).alloc (.cells #[.string sj] 9)).cell? ⟨gx,3,none⟩=some (.slice y.A y.n y.c):=(HDR.out.alloc _).b.cell 3
     have csb:((wr.drew.alloc (.cells #[.string ⟨#[65,65]⟩,.string ⟨#[66,66]⟩,.string ⟨#[67,67]⟩,.string ⟨#[68,68]⟩,.string ⟨#[69,69]⟩,.string ⟨#[70,70]⟩] 9)).alloc (.cells #[.string sj] 9)).cell? ⟨wr.drew.heap.size,j,none⟩=some (.string sj):=by
      have:=hsj
      rw [← this]
      exact Below.cell ((Below.refl _ _).alloc (Nat.le_refl _) _) (p:=⟨wr.drew.heap.size,j,none⟩) (by simp)
     have hsj2:(wr.alloc (.cells #[.string ⟨#[65,65]⟩,.string ⟨#[66,66]⟩,.string ⟨#[67,67]⟩,.string ⟨#[68,68]⟩,.string ⟨#[69,69]⟩,.string ⟨#[70,70]⟩] 9)).drew.cell? ⟨wr.heap.size,j,none⟩=some (.string sj):=hsj
     have c3a2:(wr.alloc (.cells #[.string ⟨#[65,65]⟩,.string ⟨#[66,66]⟩,.string ⟨#[67,67]⟩,.string ⟨#[68,68]⟩,.string ⟨#[69,69]⟩,.string ⟨#[70,70]⟩] 9)).drew.cell? ⟨gx,3,none⟩=some (.slice y.A y.n y.c):=c3a
     have c3a3:(wr.alloc (.cells #[.string ⟨#[65,65]⟩,.string ⟨#[66,66]⟩,.string ⟨#[67,67]⟩,.string ⟨#[68,68]⟩,.string ⟨#[69,69]⟩,.string ⟨#[70,70]⟩] 9)).cell? ⟨gx,3,none⟩=some (.slice y.A y.n y.c):=c3a
     have hsj3:(wr.alloc (.cells #[.string ⟨#[65,65]⟩,.string ⟨#[66,66]⟩,.string ⟨#[67,67]⟩,.string ⟨#[68,68]⟩,.string ⟨#[69,69]⟩,.string ⟨#[70,70]⟩] 9)).cell? ⟨wr.heap.size,j,none⟩=some (.string sj):=hsj
     have c3b2:((wr.alloc (.cells #[.string ⟨#[65,65]⟩,.string ⟨#[66,66]⟩,.string ⟨#[67,67]⟩,.string ⟨#[68,68]⟩,.string ⟨#[69,69]⟩,.string ⟨#[70,70]⟩] 9)).alloc (.cells #[.string sj] 9)).drew.cell? ⟨gx,3,none⟩=some (.slice y.A y.n y.c):=c3b
     have c3b3:((wr.alloc (.cells #[.string ⟨#[65,65]⟩,.string ⟨#[66,66]⟩,.string ⟨#[67,67]⟩,.string ⟨#[68,68]⟩,.string ⟨#[69,69]⟩,.string ⟨#[70,70]⟩] 9)).alloc (.cells #[.string sj] 9)).cell? ⟨gx,3,none⟩=some (.slice y.A y.n y.c):=c3b
     clear hsz
     go_upto_region 19 with (fail)
     go_region_law (first | (refine step_callf0 rfl (f:=19) (ts:=#[]) rfl HBO.out (HCN.out.mono ?_);rintro e w2 ⟨rfl,rfl⟩;refine⟨_,rfl,?_⟩) | (refine step_append_rd _ rfl (.tmp 89) (.tmp 94) 60 rfl gx 9 _ 1 16 Tryz.underlying60 infoStr20 rfl (by decide) (.slice y.A y.n y.c) y.n (y.m.orgs.map Value.string) rfl HOA.out (some ⟨_,0,none⟩) 1 1 [.string sj] rfl HRD.out HON.out HM1.out.1 HM1.out.2 HSZ.out ?_;intro v4 w4 ho4 hg4;obtain⟨R4,d4,rfl⟩:=own_slice ho4;obtain⟨⟨c4,f4⟩,hB4⟩:=HGR.out w4 R4 d4 hg4 ho4) | fail)
     all_goals
      go_wp2_with fail
      go_roundw
      case rel=>exact⟨j+1,⟨{ y.m with orgs:=y.m.orgs ++ [sj] },R4,y.n+1,d4⟩,by go_num,by omega,by simp;omega,hB4⟩
      case measure=>simp [intOf];omega
end Go.Proofs.YtbokkeooahodaaaGreatDoor

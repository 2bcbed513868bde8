/-
  A part of the proof of TopQuotaDayCardSaid: lemmas and contracts of functions that the law calls. No statement of the seat is proved here. Conditions: as each says.
-/
import Derived.Test.YtbokkeooahodaaaGreatDoorQBB
import Derived.Test.YtbokkeooahodaaaGreatDoorQBD
import Derived.Test.YtbokkeooahodaaaGreatDoorQBE
import Derived.Test.YtbokkeooahodaaaGreatDoorQAX
import Derived.Test.YtbokkeooahodaaaGreatDoorQAN
import Derived.BigRegion
namespace Go.Proofs.YtbokkeooahodaaaGreatDoor
open Go.RowKit
set_option linter.unusedVariables false
theorem rshare2 {x:It} (hr:itRange x) (hq:0<x.qty) (A:Option Addr) (c:Nat) (w:World) (h:Ints w A 2 [x.gr,x.qty - x.gr]) :
  Calls Tryz.prog 41 #[.int .i64 x.val,.slice A 2 c] w (SlRes w 0 [shA x,shB x]):=by
 have h1:=share2_out hr hq
 unfold shareOut at h1
 rw [if_pos (share2_ok hr)] at h1
 rw [← h1]
 obtain⟨a1,a2,a3,a4,a5,a6,a7,a8,a9,a10⟩:=hr
 refine rshare_ok x.val A 2 c [x.gr,x.qty - x.gr] w h (by decide) a7 a8 (fun i=>?_) (fun h=>absurd h (by decide))
 match i with
 | 0=>show 0≤x.gr∧x.gr≤1000000000000;omega
 | 1=>show 0≤x.qty - x.gr∧x.qty - x.gr≤1000000000000;omega
 | (k+2)=>show 0≤(0:Int)∧(0:Int)≤1000000000000;omega
theorem ints_at {w:World} {b o n i:Nat} {xs:List Int} {q:Int} (h:Ints w (some ⟨b,o,none⟩) n xs) (hi:i<n) (hq:xs.getD i 0=q):w.cell? ⟨b,o+i,none⟩=some (.int .i64 q):=by
 obtain⟨b',o',e,_,hc⟩:=h.at_ hi
 injection e with e
 injection e with e1 e2
 rw [hq] at hc
 rw [e1,e2]
 exact hc
structure AsC (W0:World) (gd:Nat) (R:Option Addr) (m c:Nat) (ls:List Dl) (t:Int) (wx:World):Prop where
 below:RowKit.Below gd W0 wx
 d:Bl wx gd 28 #[.slice R m c,.int .i64 t]
 o:wx.ownsRow gd 38 5 (.slice R m c) m (flat encDl ls)
 len:ls.length=m
section
variable {W0 wx w':World} {gd:Nat} {R:Option Addr} {m c:Nat} {ls:List Dl} {t:Int}
theorem AsC.size (h:AsC W0 gd R m c ls t wx):gd≤wx.heap.size:=Nat.le_of_lt h.d.lt
theorem AsC.under (h:AsC W0 gd R m c ls t wx) (hb:RowKit.Below wx.heap.size wx w'):AsC W0 gd R m c ls t w':=⟨h.below.trans (hb.mono h.size),h.d.keep hb,own_below h.o hb,h.len⟩
theorem AsC.alloc (h:AsC W0 gd R m c ls t wx) (o:Obj):AsC W0 gd R m c ls t (wx.alloc o):=h.under ((Below.refl _ _).alloc (Nat.le_refl _) _)
theorem AsC.drew (h:AsC W0 gd R m c ls t wx):AsC W0 gd R m c ls t wx.drew:=h.under (Below.refl _ _).drew
theorem AsC.only (h:AsC W0 gd R m c ls t wx) {gb:Nat} (hO:Only gb wx w') (hg:gd<gb) (hne:∀ g,(Value.slice R m c).ownBlock=some g→g≠gb):AsC W0 gd R m c ls t w' :=
 ⟨h.below.trans (hO.below (Nat.le_of_lt hg)),hO.bl h.d (Nat.ne_of_lt hg),own_of_block h.o fun g hgb=>hO.block g (hne g hgb),h.len⟩
theorem bl_drewR {w:World} {g:Nat} {T:TypeId} {cs:Array Value} (h:Bl w g T cs):Bl w.drew g T cs:=h
theorem AsC.five (h:AsC W0 gd R m c ls t wx) {gb:Nat} {T:TypeId} {z0 z1 z2 z3 z4:Value} (hb:Bl wx gb T #[z0,z1,z2,z3,z4]) (hg:gd<gb) (hne:∀ g,(Value.slice R m c).ownBlock=some g→g≠gb) (a0 a1 a2 a3 a4:Value) :
  AsC W0 gd R m c ls t (((((wx.setCell ⟨gb,0,none⟩ a0).setCell ⟨gb,1,none⟩ a1).setCell ⟨gb,2,none⟩ a2).setCell ⟨gb,3,none⟩ a3).setCell ⟨gb,4,none⟩ a4)∧Bl (((((wx.setCell ⟨gb,0,none⟩ a0).setCell ⟨gb,1,none⟩ a1).setCell ⟨gb,2,none⟩ a2).setCell ⟨gb,3,none⟩ a3).setCell ⟨gb,4,none⟩ a4) gb T #[a0,a1,a2,a3,a4] :=
 ⟨h.only ((((((Only.refl gb wx).setCell 0 _).setCell 1 _).setCell 2 _).setCell 3 _).setCell 4 _) hg hne,set5_bl hb _ _ _ _ _⟩
theorem AsC.total (h:AsC W0 gd R m c ls t wx) (u:Int):AsC W0 gd R m c ls u (wx.setCell ⟨gd,1,none⟩ (.int .i64 u)):=by
 have hO:Only gd wx (wx.setCell ⟨gd,1,none⟩ (.int .i64 u)):=(Only.refl gd wx).setCell 1 _
 refine⟨h.below.trans (hO.below (Nat.le_refl _)),by simpa using h.d.put 1 (.int .i64 u),own_of_block h.o fun g hgb=>hO.block g (fun e=>?_),h.len⟩
 exact own_apart h.o h.d (by decide) (by rw [hgb,e])
theorem AsC.app (h:AsC W0 gd R m c ls t wx) {o:Obj} {R4:Option Addr} {d4:Nat} {x:Dl} (hg:(wx.alloc o).grownBy w' (Value.slice R m c).ownBlock) (ho:w'.ownsRow gd 38 5 (.slice R4 (m+1) d4) (m+1) (flat encDl ls ++ encDl x)) :
  Bl w' gd 28 #[.slice R m c,.int .i64 t]∧AsC W0 gd R4 (m+1) d4 (ls ++ [x]) t (w'.setCell ⟨gd,0,none⟩ (.slice R4 (m+1) d4)):=by
 have h1:=h.alloc o
 have hd:Bl w' gd 28 #[.slice R m c,.int .i64 t]:=(hg.block gd h1.d.lt (fun e=>own_apart h1.o h1.d (by decide) e)).trans h1.d
 have hd1:Bl (w'.setCell ⟨gd,0,none⟩ (.slice R4 (m+1) d4)) gd 28 #[.slice R4 (m+1) d4,.int .i64 t]:=by simpa using hd.put 0 (.slice R4 (m+1) d4)
 refine⟨hd,?_⟩
 have hO:Only gd w' (w'.setCell ⟨gd,0,none⟩ (.slice R4 (m+1) d4)):=(Only.refl gd w').setCell 0 _
 refine⟨(h1.below.grown hg h1.size (fun g e=>own_base h.o g e)).trans (hO.below (Nat.le_refl _)),hd1,?_,by rw [List.length_append,h.len];rfl⟩
 rw [flat_append,flat_one]
 refine own_of_block ho fun g hgb=>hO.block g (fun e=>?_)
 exact own_apart ho hd (by decide) (by rw [hgb,e])
end
set_option maxRecDepth 100000 in
set_option maxHeartbeats 16000000 in
theorem rassess_any (A:Option Addr) (n c:Nat) (xs:List MsA) (x:It) (w:World) (h:MsR w A n xs) (h1:x.code.size≤1000000) (h2:x.org.size≤1000000) :
  Calls Tryz.prog 13 #[.slice A n c,.agg #[.string x.code,.string x.org,.bool x.proof,.int .i64 x.co,.int .i64 x.day,.int .i64 x.qty,.int .i64 x.val,.int .i64 x.gr]] w (AsRes w (refOut (msL xs) x)):=by
 have HX:=Lib.hid h
 have HMV:=Lib.hid rmeasures_any
 have HIV:Hid (∀ wx,Calls Tryz.prog 40 #[.agg #[.string x.code,.string x.org,.bool x.proof,.int .i64 x.co,.int .i64 x.day,.int .i64 x.qty,.int .i64 x.val,.int .i64 x.gr]] wx (VRes wx (itErr x))):=fun wx=>ritem_any x wx h1 h2
 have HOF0:Hid (mssErr (msL xs)=0→∀ (kd:Int) wx,MsR wx A n xs→Calls Tryz.prog 42 #[.slice A n c,.int .i64 kd,.string x.code,.string x.org,.int .i64 x.co,.int .i64 x.day] wx (OfRes wx (msL xs) kd x)):=fun hv kd wx hm=>rof_any A n c xs kd x wx hm hv h1
 have HSH0:Hid (itRange x→0<x.qty→∀ (A:Option Addr) (c:Nat) wx,Ints wx A 2 [x.gr,x.qty - x.gr]→Calls Tryz.prog 41 #[.int .i64 x.val,.slice A 2 c] wx (SlRes wx 0 [shA x,shB x])):=fun hr hq A c wx h=>rshare2 hr hq A c wx h
 obtain⟨l,hl⟩:∃ l,msL xs=l:=⟨_,rfl⟩
 obtain⟨N,hN⟩:∃ N,w.heap.size=N:=⟨_,rfl⟩
 have HE1:=Lib.hid (fun h=>refOut_1 (l:=l) (x:=x) h)
 have HE2:=Lib.hid (fun h h2=>refOut_2 (l:=l) (x:=x) h h2)
 have HE3:=Lib.hid (fun h h2 h3=>refOut_3 (l:=l) (x:=x) h h2 h3)
 have HE5:=Lib.hid (fun h h2 h3=>refOut_ok (l:=l) (x:=x) h h2 h3)
 rw [hl] at HOF0 ⊢
 have HVM:Hid (∀ wx,MsR wx A n xs→Calls Tryz.prog 39 #[.slice A n c] wx (VRes wx (mssErr l))):=fun wx h3=>by rw [← hl];exact HMV.out A n c xs wx h3
 have HERR:Hid (∀ (er:Int) (w':World),RowKit.Below N w w'→refOut l x=(er,[])→AsRes w (refOut l x) (.returned (.tuple #[.agg #[.slice none 0 0,.int .i64 0],.int .i64 er])) w'):=fun er w' hb he=>AsRes.err he (by rw [hN];exact hb)
 clear HMV h h1 h2 hl
 have HX0:Hid (Bl ((w.alloc (.cells #[.string x.code,.string x.org,.bool x.proof,.int .i64 x.co,.int .i64 x.day,.int .i64 x.qty,.int .i64 x.val,.int .i64 x.gr] 33)).alloc (.cells #[.slice none 0 0,.int .i64 0] 28)) N 33 #[.string x.code,.string x.org,.bool x.proof,.int .i64 x.co,.int .i64 x.day,.int .i64 x.qty,.int .i64 x.val,.int .i64 x.gr]):=by rw [← hN];exact Bl.alloc (Bl.new _ _ _) _
 have s1:(w.alloc (.cells #[.string x.code,.string x.org,.bool x.proof,.int .i64 x.co,.int .i64 x.day,.int .i64 x.qty,.int .i64 x.val,.int .i64 x.gr] 33)).heap.size=N+1:=by rw [← hN];simp
 have HR0:Hid (Bl ((w.alloc (.cells #[.string x.code,.string x.org,.bool x.proof,.int .i64 x.co,.int .i64 x.day,.int .i64 x.qty,.int .i64 x.val,.int .i64 x.gr] 33)).alloc (.cells #[.slice none 0 0,.int .i64 0] 28)) (N+1) 28 #[.slice none 0 0,.int .i64 0]):=by rw [← s1];exact Bl.new _ _ _
 have HB0:Hid (RowKit.Below N w ((w.alloc (.cells #[.string x.code,.string x.org,.bool x.proof,.int .i64 x.co,.int .i64 x.day,.int .i64 x.qty,.int .i64 x.val,.int .i64 x.gr] 33)).alloc (.cells #[.slice none 0 0,.int .i64 0] 28))):=by rw [← hN];exact ((Below.refl _ _).alloc (Nat.le_refl _) _).alloc (by simp) _
 go_enter Tryz.func13,Tryz.ntmps13
 go_upto_region 1 with (fail)
 try rw [s1]
 try rw [hN]
 generalize (w.alloc (.cells #[.string x.code,.string x.org,.bool x.proof,.int .i64 x.co,.int .i64 x.day,.int .i64 x.qty,.int .i64 x.val,.int .i64 x.gr] 33)).alloc (.cells #[.slice none 0 0,.int .i64 0] 28)=W0 at *
 clear s1
 have HBW:Hid (∀ wx,RowKit.Below N w wx→RowKit.Below w.heap.size w wx):=fun wx hb=>by rw [hN];exact hb
 go_wp2_with fail
 refine (HVM.out _ (HX.out.below (HBW.out _ HB0.out))).mono ?_
 rintro e w1 ⟨rfl,hb1⟩
 have HX1:=Lib.hid (HX0.out.keep hb1)
 have HR1:=Lib.hid (HR0.out.keep hb1)
 have HB1:=Lib.hid (HB0.out.trans (hb1.mono (Nat.le_of_lt HX0.out.lt)))
 clear hb1 HX0 HR0 HB0 HVM
 obtain⟨me,hme⟩:∃ q,mssErr l=q:=⟨_,rfl⟩
 rw [hme] at HE1 HE2 HE3 HE5 HOF0 ⊢
 clear hme
 by_cases z1:me=0
 case neg =>
  have y1':(me != 0)=true:=by simpa using z1
  have HE:=Lib.hid (HE1.out z1)
  have HZ:=set2_bl HR1.out (.slice none 0 0) (.int .i64 0)
  have HBZ:=Lib.hid ((HB1.out.setCell (p:=⟨N+1,0,none⟩) (show N≤N+1 by omega) (.slice none 0 0)).setCell (p:=⟨N+1,1,none⟩) (show N≤N+1 by omega) (.int .i64 0))
  have t0:w1.cell? ⟨N+1,0,none⟩=some (.slice none 0 0):=HR1.out.cell 0
  have t1:w1.cell? ⟨N+1,1,none⟩=some (.int .i64 0):=HR1.out.cell 1
  have t2:w1.frozen? ⟨N+1,0,none⟩=false:=HR1.out.free 0
  have t3:w1.frozen? ⟨N+1,1,none⟩=false:=HR1.out.free 1
  go_wp2
  generalize (w1.setCell ⟨N+1,0,none⟩ (.slice none 0 0)).setCell ⟨N+1,1,none⟩ (.int .i64 0)=WZ at *
  have y0:WZ.cell? ⟨N+1,0,none⟩=some (.slice none 0 0):=HZ.cell 0
  have y1:WZ.cell? ⟨N+1,1,none⟩=some (.int .i64 0):=HZ.cell 1
  refine bodyPost_ret (v:=.tuple #[.agg #[.slice none 0 0,.int .i64 0],.int .i64 me]) (by simp [results,Tryz.results13,go_sem,y0,y1]) rfl (HERR.out _ _ HBZ.out HE.out)
 case pos =>
 subst z1
 have HOF:=Lib.hid (HOF0.out rfl)
 clear HOF0
 have i0:w1.cell? ⟨N,0,none⟩=some (.string x.code):=HX1.out.cell 0
 have i1:w1.cell? ⟨N,1,none⟩=some (.string x.org):=HX1.out.cell 1
 have i2:w1.cell? ⟨N,2,none⟩=some (.bool x.proof):=HX1.out.cell 2
 have i3:w1.cell? ⟨N,3,none⟩=some (.int .i64 x.co):=HX1.out.cell 3
 have i4:w1.cell? ⟨N,4,none⟩=some (.int .i64 x.day):=HX1.out.cell 4
 have i5:w1.cell? ⟨N,5,none⟩=some (.int .i64 x.qty):=HX1.out.cell 5
 have i6:w1.cell? ⟨N,6,none⟩=some (.int .i64 x.val):=HX1.out.cell 6
 have i7:w1.cell? ⟨N,7,none⟩=some (.int .i64 x.gr):=HX1.out.cell 7
 go_wp2_with fail
 refine (HIV.out _).mono ?_
 rintro e w2 ⟨rfl,hb2⟩
 have HX2:=Lib.hid (HX1.out.keep hb2)
 have HR2:=Lib.hid (HR1.out.keep hb2)
 have HB2:=Lib.hid (HB1.out.trans (hb2.mono (Nat.le_of_lt HX1.out.lt)))
 clear hb2 HX1 HR1 HB1 HIV i0 i1 i2 i3 i4 i5 i6 i7
 obtain⟨ie,hie⟩:∃ q,itErr x=q:=⟨_,rfl⟩
 have HIE:=Lib.hid hie
 rw [hie] at HE2 HE3 HE5 ⊢
 clear hie
 by_cases z2:ie=0
 case neg =>
  have y1':(ie != 0)=true:=by simpa using z2
  have HE:=Lib.hid (HE2.out (by first | trivial | rfl) z2)
  have HZ:=set2_bl HR2.out (.slice none 0 0) (.int .i64 0)
  have HBZ:=Lib.hid ((HB2.out.setCell (p:=⟨N+1,0,none⟩) (show N≤N+1 by omega) (.slice none 0 0)).setCell (p:=⟨N+1,1,none⟩) (show N≤N+1 by omega) (.int .i64 0))
  have t0:w2.cell? ⟨N+1,0,none⟩=some (.slice none 0 0):=HR2.out.cell 0
  have t1:w2.cell? ⟨N+1,1,none⟩=some (.int .i64 0):=HR2.out.cell 1
  have t2:w2.frozen? ⟨N+1,0,none⟩=false:=HR2.out.free 0
  have t3:w2.frozen? ⟨N+1,1,none⟩=false:=HR2.out.free 1
  go_wp2
  generalize (w2.setCell ⟨N+1,0,none⟩ (.slice none 0 0)).setCell ⟨N+1,1,none⟩ (.int .i64 0)=WZ at *
  have y0:WZ.cell? ⟨N+1,0,none⟩=some (.slice none 0 0):=HZ.cell 0
  have y1:WZ.cell? ⟨N+1,1,none⟩=some (.int .i64 0):=HZ.cell 1
  refine bodyPost_ret (v:=.tuple #[.agg #[.slice none 0 0,.int .i64 0],.int .i64 ie]) (by simp [results,Tryz.results13,go_sem,y0,y1]) rfl (HERR.out _ _ HBZ.out HE.out)
 case pos =>
 subst z2
 have HRG:=Lib.hid (itErr_zero HIE.out).2
 have HSH:=Lib.hid (HSH0.out HRG.out)
 clear HSH0 HIE
 obtain⟨r1,r2,r3,r4,r5,r6,r7,r8,r9,r10⟩:=HRG.out
 have i5:w2.cell? ⟨N,5,none⟩=some (.int .i64 x.qty):=HX2.out.cell 5
 have i6:w2.cell? ⟨N,6,none⟩=some (.int .i64 x.val):=HX2.out.cell 6
 have i7:w2.cell? ⟨N,7,none⟩=some (.int .i64 x.gr):=HX2.out.cell 7
 have us:IntKind.i64.wrap (x.qty - x.gr)=x.qty - x.gr:=IntWalk.i64_in _ (by omega)
 go_upto_region 7 with (fail)
 have HXa:=Lib.hid (Bl.alloc HX2.out (.cells #[.int .i64 0,.int .i64 x.val] 3))
 have HXb:=Lib.hid (Bl.alloc HX2.out (.cells #[.int .i64 x.gr,.int .i64 (x.qty - x.gr)] 3))
 have j5:(w2.alloc (.cells #[.int .i64 0,.int .i64 x.val] 3)).cell? ⟨N,5,none⟩=some (.int .i64 x.qty):=HXa.out.cell 5
 have j7:(w2.alloc (.cells #[.int .i64 0,.int .i64 x.val] 3)).cell? ⟨N,7,none⟩=some (.int .i64 x.gr):=HXa.out.cell 7
 have j6:(w2.alloc (.cells #[.int .i64 x.gr,.int .i64 (x.qty - x.gr)] 3)).cell? ⟨N,6,none⟩=some (.int .i64 x.val):=HXb.out.cell 6
 go_cut [8,9] from 39 to 49 (fun a b wx=>∃ bq bv:Nat,a=.slice (some ⟨bq,0,none⟩) 2 2∧b=.slice (some ⟨bv,0,none⟩) 2 2∧Hid (Bl wx bq 3 #[.int .i64 x.gr,.int .i64 (x.qty - x.gr)])∧Hid (Bl wx bv 3 #[.int .i64 0,.int .i64 x.val])∧Hid (RowKit.Below w2.heap.size w2 wx))
 case first =>
  as_aux_lemma =>
   have HA1:Hid (Bl ((w2.alloc (.cells #[.int .i64 x.gr,.int .i64 (x.qty - x.gr)] 3)).alloc (.cells #[.int .i64 0,.int .i64 x.val] 3)) w2.heap.size 3 #[.int .i64 x.gr,.int .i64 (x.qty - x.gr)]):=Bl.alloc (Bl.new _ _ _) _
   have HA2:Hid (Bl ((w2.alloc (.cells #[.int .i64 x.gr,.int .i64 (x.qty - x.gr)] 3)).alloc (.cells #[.int .i64 0,.int .i64 x.val] 3)) (w2.heap.size+1) 3 #[.int .i64 0,.int .i64 x.val]):=Bl.new1 _ _ _ _
   have HA3:Hid (Bl ((w2.alloc (.cells #[.int .i64 0,.int .i64 x.val] 3)).alloc (.cells #[.int .i64 x.gr,.int .i64 (x.qty - x.gr)] 3)) w2.heap.size 3 #[.int .i64 0,.int .i64 x.val]):=Bl.alloc (Bl.new _ _ _) _
   have HA4:Hid (Bl ((w2.alloc (.cells #[.int .i64 0,.int .i64 x.val] 3)).alloc (.cells #[.int .i64 x.gr,.int .i64 (x.qty - x.gr)] 3)) (w2.heap.size+1) 3 #[.int .i64 x.gr,.int .i64 (x.qty - x.gr)]):=Bl.new1 _ _ _ _
   have HA5:Hid (∀ o1 o2,RowKit.Below w2.heap.size w2 ((w2.alloc o1).alloc o2)):=fun o1 o2=>((Below.refl _ _).alloc (Nat.le_refl _) _).alloc (by simp) _
   go_region
   all_goals (go_wp2_with fail;go_meet)
   all_goals (first | exact⟨_,_,rfl,rfl,HA1.out,HA2.out,(HA5.out _ _).drew⟩ | exact⟨_,_,rfl,rfl,HA4.out,HA3.out,(HA5.out _ _).drew⟩ | fail)
 case rest =>
 clear i5 i6 i7 j5 j6 j7 HXa HXb us
 obtain⟨bq,bv,rfl,rfl,HQ,HV,HK⟩:=hcut
 have HX3:=Lib.hid (HX2.out.keep HK.out)
 have HR3:=Lib.hid (HR2.out.keep HK.out)
 have HB3:=Lib.hid (HB2.out.trans (HK.out.mono (Nat.le_of_lt HX2.out.lt)))
 clear HX2 HR2 HB2 HK
 have i5:wc.cell? ⟨N,5,none⟩=some (.int .i64 x.qty):=HX3.out.cell 5
 have i6:wc.cell? ⟨N,6,none⟩=some (.int .i64 x.val):=HX3.out.cell 6
 have HQI:Hid (Ints wc (some ⟨bq,0,none⟩) 2 [x.gr,x.qty - x.gr]):=IntsK.of_own (own_lit (base:=0) (xs:=[.int .i64 x.gr,.int .i64 (x.qty - x.gr)]) HQ.out (Nat.zero_le _) rfl (by decide))
 have HVI:Hid (Ints wc (some ⟨bv,0,none⟩) 2 [0,x.val]):=IntsK.of_own (own_lit (base:=0) (xs:=[.int .i64 0,.int .i64 x.val]) HV.out (Nat.zero_le _) rfl (by decide))
 clear HQ HV
 go_upto_if 52 with (fail)
 go_cut [9] from 50 to 59 (fun s wx=>∃ (VA:Option Addr) (vc:Nat),s=.slice VA 2 vc∧Hid (Ints wx VA 2 [shA x,shB x])∧Hid (RowKit.Below wc.heap.size wc wx))
 case first =>
  as_aux_lemma =>
   by_cases hq:0<x.qty
   case neg =>
    have dq:decide (x.qty > 0)=false:=by simp;omega
    have dq2:decide (0<x.qty)=false:=by simp;omega
    have HE:Hid (shA x=0∧shB x=x.val):=by unfold shA shB;rw [if_neg hq,if_neg hq];exact Lib.hid ⟨rfl,rfl⟩
    go_wp2_with fail
    go_meet
    exact⟨_,2,rfl,by rw [HE.out.1,HE.out.2];exact HVI.out,Below.refl _ _⟩
   case pos =>
    have dq:decide (x.qty > 0)=true:=by simp;omega
    have dq2:decide (0<x.qty)=true:=by simp;omega
    have HS:=Lib.hid (HSH.out hq (some ⟨bq,0,none⟩) 2 wc HQI.out)
    go_wp2_with fail
    refine HS.out.mono ?_
    rintro e w4 ⟨VA,vn,vc,rfl,ho,hb⟩
    obtain rfl:vn=2:=by have:=ho.1;simp at this;omega
    have HV3:Hid (Ints w4 VA 2 [shA x,shB x]):=IntsK.of_own ho
    have HB4:=Lib.hid hb
    clear ho hb
    go_wp2_with fail
    go_meet
    exact⟨VA,vc,rfl,HV3.out,HB4.out⟩
 case rest =>
 clear i5 i6 HVI HSH
 obtain⟨VA,vc,rfl,HVI,HK⟩:=hcut
 have HX4:=Lib.hid (HX3.out.keep HK.out)
 have HR4:=Lib.hid (HR3.out.keep HK.out)
 have HB4:=Lib.hid (HB3.out.trans (HK.out.mono (Nat.le_of_lt HX3.out.lt)))
 have HQ4:=Lib.hid (HQI.out.below HK.out)
 clear HX3 HR3 HB3 HK HQI
 have i0:wc.cell? ⟨N,0,none⟩=some (.string x.code):=HX4.out.cell 0
 have i1:wc.cell? ⟨N,1,none⟩=some (.string x.org):=HX4.out.cell 1
 have i3:wc.cell? ⟨N,3,none⟩=some (.int .i64 x.co):=HX4.out.cell 3
 have i4:wc.cell? ⟨N,4,none⟩=some (.int .i64 x.day):=HX4.out.cell 4
 go_wp2_with fail
 refine (HOF.out 1 _ (HX.out.below (HBW.out _ HB4.out))).mono ?_
 unfold OfRes msA
 rintro e w5 ⟨y1,f1,rfl,hb5,hof⟩
 have HF1:=Lib.hid hof
 have HX5:=Lib.hid ((HX4.out.keep hb5).alloc (.cells #[.int .i64 y1.m.id,.int .i64 y1.m.kind,.string y1.m.pre,.slice y1.A y1.n y1.c,.int .i64 y1.m.co,.int .i64 y1.m.fr,.int .i64 y1.m.til,.int .i64 y1.m.reg,.int .i64 y1.m.du.rate,.int .i64 y1.m.du.am,.int .i64 y1.m.du.per,.bool y1.m.du.hm,.int .i64 y1.m.du.most,.bool y1.m.du.hl,.int .i64 y1.m.du.least] 62))
 have HR5:=Lib.hid ((HR4.out.keep hb5).alloc (.cells #[.int .i64 y1.m.id,.int .i64 y1.m.kind,.string y1.m.pre,.slice y1.A y1.n y1.c,.int .i64 y1.m.co,.int .i64 y1.m.fr,.int .i64 y1.m.til,.int .i64 y1.m.reg,.int .i64 y1.m.du.rate,.int .i64 y1.m.du.am,.int .i64 y1.m.du.per,.bool y1.m.du.hm,.int .i64 y1.m.du.most,.bool y1.m.du.hl,.int .i64 y1.m.du.least] 62))
 have HB5:=Lib.hid ((HB4.out.trans (hb5.mono (Nat.le_of_lt HX4.out.lt))).alloc (Nat.le_of_lt (HX4.out.keep hb5).lt) (.cells #[.int .i64 y1.m.id,.int .i64 y1.m.kind,.string y1.m.pre,.slice y1.A y1.n y1.c,.int .i64 y1.m.co,.int .i64 y1.m.fr,.int .i64 y1.m.til,.int .i64 y1.m.reg,.int .i64 y1.m.du.rate,.int .i64 y1.m.du.am,.int .i64 y1.m.du.per,.bool y1.m.du.hm,.int .i64 y1.m.du.most,.bool y1.m.du.hl,.int .i64 y1.m.du.least] 62))
 have HQ5:=Lib.hid ((HQ4.out.below hb5).alloc (.cells #[.int .i64 y1.m.id,.int .i64 y1.m.kind,.string y1.m.pre,.slice y1.A y1.n y1.c,.int .i64 y1.m.co,.int .i64 y1.m.fr,.int .i64 y1.m.til,.int .i64 y1.m.reg,.int .i64 y1.m.du.rate,.int .i64 y1.m.du.am,.int .i64 y1.m.du.per,.bool y1.m.du.hm,.int .i64 y1.m.du.most,.bool y1.m.du.hl,.int .i64 y1.m.du.least] 62))
 have HV5:=Lib.hid ((HVI.out.below hb5).alloc (.cells #[.int .i64 y1.m.id,.int .i64 y1.m.kind,.string y1.m.pre,.slice y1.A y1.n y1.c,.int .i64 y1.m.co,.int .i64 y1.m.fr,.int .i64 y1.m.til,.int .i64 y1.m.reg,.int .i64 y1.m.du.rate,.int .i64 y1.m.du.am,.int .i64 y1.m.du.per,.bool y1.m.du.hm,.int .i64 y1.m.du.most,.bool y1.m.du.hl,.int .i64 y1.m.du.least] 62))
 clear hb5 hof HX4 HR4 HB4 HQ4 HVI i0 i1 i3 i4
 go_upto_region 11 with (fail)
 generalize w5.alloc (.cells #[.int .i64 y1.m.id,.int .i64 y1.m.kind,.string y1.m.pre,.slice y1.A y1.n y1.c,.int .i64 y1.m.co,.int .i64 y1.m.fr,.int .i64 y1.m.til,.int .i64 y1.m.reg,.int .i64 y1.m.du.rate,.int .i64 y1.m.du.am,.int .i64 y1.m.du.per,.bool y1.m.du.hm,.int .i64 y1.m.du.most,.bool y1.m.du.hl,.int .i64 y1.m.du.least] 62)=W6 at *
 cases f1
 case false =>
  have HE:Hid (refOut l x=(7,[])):=HE3.out (by first | trivial | rfl) (by first | trivial | rfl) (by rw [HF1.out];rfl)
  clear HE5 HF1
  have HZ:=set2_bl HR5.out (.slice none 0 0) (.int .i64 0)
  have HBZ:=Lib.hid ((HB5.out.setCell (p:=⟨N+1,0,none⟩) (show N≤N+1 by omega) (.slice none 0 0)).setCell (p:=⟨N+1,1,none⟩) (show N≤N+1 by omega) (.int .i64 0))
  have t0:W6.cell? ⟨N+1,0,none⟩=some (.slice none 0 0):=HR5.out.cell 0
  have t1:W6.cell? ⟨N+1,1,none⟩=some (.int .i64 0):=HR5.out.cell 1
  have t2:W6.frozen? ⟨N+1,0,none⟩=false:=HR5.out.free 0
  have t3:W6.frozen? ⟨N+1,1,none⟩=false:=HR5.out.free 1
  go_wp2
  generalize (W6.setCell ⟨N+1,0,none⟩ (.slice none 0 0)).setCell ⟨N+1,1,none⟩ (.int .i64 0)=WZ at *
  have y0:WZ.cell? ⟨N+1,0,none⟩=some (.slice none 0 0):=HZ.cell 0
  have y1:WZ.cell? ⟨N+1,1,none⟩=some (.int .i64 0):=HZ.cell 1
  refine bodyPost_ret (v:=.tuple #[.agg #[.slice none 0 0,.int .i64 0],.int .i64 7]) (by simp [results,Tryz.results13,go_sem,y0,y1]) rfl (HERR.out _ _ HBZ.out HE.out)
 case true =>
 have HE6:=Lib.hid (HE5.out (by first | trivial | rfl) (by first | trivial | rfl) (by rw [HF1.out];rfl))
 clear HE1 HE2 HE3 HE5 HF1
 obtain⟨K,hK⟩:∃ K,W6.heap.size=K:=⟨_,rfl⟩
 have HC0:Hid (AsC W6 K none 0 0 [] 0 (W6.alloc (.cells #[.slice none 0 0,.int .i64 0] 28))):=by rw [← hK];exact⟨(Below.refl _ _).alloc (Nat.le_refl _) _,Bl.new _ _ _,⟨by simp [flat],.inl ⟨rfl,rfl⟩⟩,rfl⟩
 have HNK:Hid (N+1<K):=by rw [← hK];exact HR5.out.lt
 have HIT:Hid (∀ wx,RowKit.Below K W6 wx→Bl wx N 33 #[.string x.code,.string x.org,.bool x.proof,.int .i64 x.co,.int .i64 x.day,.int .i64 x.qty,.int .i64 x.val,.int .i64 x.gr]):=fun wx hb=>HX5.out.keep (by rw [hK];exact hb)
 have HRT:Hid (∀ wx,RowKit.Below K W6 wx→Bl wx (N+1) 28 #[.slice none 0 0,.int .i64 0]):=fun wx hb=>HR5.out.keep (by rw [hK];exact hb)
 have HQT:Hid (∀ wx,RowKit.Below K W6 wx→Ints wx (some ⟨bq,0,none⟩) 2 [x.gr,x.qty - x.gr]):=fun wx hb=>HQ5.out.below (by rw [hK];exact hb)
 have HVT:Hid (∀ wx,RowKit.Below K W6 wx→Ints wx VA 2 [shA x,shB x]):=fun wx hb=>HV5.out.below (by rw [hK];exact hb)
 have HBT:Hid (∀ wx,RowKit.Below K W6 wx→RowKit.Below N w wx):=fun wx hb=>HB5.out.trans (hb.mono (by have:=HNK.out;omega))
 have HXT:Hid (∀ wx,RowKit.Below K W6 wx→MsR wx A n xs):=fun wx hb=>HX.out.below (HBW.out _ (HBT.out wx hb))
 clear HX HX5 HR5 HQ5 HV5 HB5 HBW
 go_upto_region 14 with (fail)
 try rw [hK]
 generalize W6.alloc (.cells #[.slice none 0 0,.int .i64 0] 28)=W7 at *
 clear hK
 obtain⟨QA,hQA⟩:∃ QA:Option Addr,(some ⟨bq,0,none⟩:Option Addr)=QA:=⟨_,rfl⟩
 rw [hQA] at HQT ⊢
 clear hQA
 go_wp2_with fail
 go_loopw [13,14] (fun o v wx=>∃ (i:Nat) (R:Option Addr) (m cc:Nat) (ob:Bool),v=.int .i64 (i:Int)∧o=.bool ob∧Hid (ob=ovR l x i)∧i≤2∧m≤i∧Hid (AsC W6 K R m cc (lsR l x i) 0 wx)) (fun _ v _=>2 - (intOf v).toNat)
 case atStart=>exact⟨0,none,0,0,false,rfl,rfl,rfl,by omega,by omega,HC0.out⟩
 case round =>
  clear HC0
  obtain⟨i,R,m,cc,ob,rfl,rfl,HOV,hi,hmi,HC⟩:=hrel
  by_cases hlt:i<2
  case neg =>
   have di:decide ((i:Int)<2)=false:=by simp;omega
   have hi2:i=2:=by omega
   have HC2:Hid (AsC W6 K R m cc (addR l x 0) 0 wr):=by have h:=HC.out;rw [hi2] at h;exact h
   have HO2:Hid (ob=ovA l x 0):=by show _=_;rw [HOV.out,hi2];rfl
   clear hi2 HOV HC
   go_wp2_with fail
   go_loopw [13,21] (fun o v wx=>∃ (j:Nat) (R:Option Addr) (m cc:Nat) (oa:Bool),v=.int .i64 ((j:Int)+5)∧o=.bool oa∧Hid (oa=ovA l x j)∧j≤2∧m≤2+j∧Hid (AsC W6 K R m cc (addR l x j) 0 wx)) (fun _ v _=>7 - (intOf v).toNat)
   case atStart=>exact⟨0,R,m,cc,ob,rfl,rfl,HO2.out,by omega,by omega,HC2.out⟩
   case round =>
    clear HC2 HO2
    obtain⟨j,R2,m2,cc2,oa,rfl,rfl,HOA,hj,hmj,HC⟩:=hrel
    by_cases hlt3:j<2
    case neg =>
     have dk:decide ((j:Int)+5≤6)=false:=by simp;omega
     have hj2:j=2:=by omega
     obtain⟨ls,hls⟩:∃ ls,addR l x 2=ls:=⟨_,rfl⟩
     have HLS:=Lib.hid hls
     have hm4:m2≤4:=by omega
     have HC4:Hid (AsC W6 K R2 m2 cc2 ls 0 wr):=by have h:=HC.out;rw [hj2,hls] at h;exact h
     have HOA2:Hid (oa=ovA l x 2):=by show _=_;rw [HOA.out,hj2]
     have HAM:Hid (∀ d∈ls,AmOk d):=by rw [← hls];exact (addR_ok l x 2).2
     clear HC hls hj2 HOA
     go_wp2_with fail
     go_loopw [26] (fun v wx=>∃ k:Nat,v=.int .i64 (k:Int)∧k≤m2∧Hid (AsC W6 K R2 m2 cc2 ls (sumA (ls.take k)) wx)) (fun v _=>m2 - (intOf v).toNat)
     case atStart=>exact⟨0,rfl,Nat.zero_le _,by rw [List.take_zero,sumA_nil];exact HC4.out⟩
     case round =>
      clear HC4
      obtain⟨k,rfl,hk,HC⟩:=hrel
      have hlm:=HC.out.len
      by_cases hlt4:k<m2
      case pos =>
       have dk4:decide ((k:Int)<(m2:Int))=true:=by simp;omega
       have uk4:IntKind.i64.wrap ((k:Int)+1)=(k:Int)+1:=IntWalk.i64_in _ (by omega)
       obtain⟨b3,o3,hA,_,ha⟩:=(Recs.of_own encDl_len HC.out.o HC.out.len).at_ hlt4
       have a4:wr.cell? ⟨b3,o3+k*5+4,none⟩=some (.int .i64 ls[k]!.amt):=ha 4 (by omega)
       have HT:=sumA_take (l:=ls) (k:=k) (by omega)
       have hb0:=sumA_bound (l:=ls.take k) (fun d hd=>HAM.out d (List.mem_of_mem_take hd))
       rw [List.length_take] at hb0
       obtain⟨ha0,ha1⟩:AmOk ls[k]!:=HAM.out _ (by rw [getElem!_pos ls k (by omega)];exact List.getElem_mem _)
       have d1:wr.cell? ⟨K,1,none⟩=some (.int .i64 (sumA (ls.take k))):=HC.out.d.cell 1
       have HT:=Lib.hid HT
       generalize ls[k]!.amt=am at *
       generalize sumA (ls.take k)=sk at *
       have us:IntKind.i64.wrap (sk+am)=sk+am:=IntWalk.i64_in _ (by omega)
       have i1:(0:Int)≤(k:Int):=by omega
       have i2:(k:Int)<(m2:Int):=by omega
       have f1:wr.frozen? ⟨K,1,none⟩=false:=HC.out.d.free 1
       have HNT:=Lib.hid (HC.out.drew.total (sk+am))
       have d0:wr.cell? ⟨K,0,none⟩=some (.slice (some ⟨b3,o3,none⟩) m2 cc2):=by rw [← hA];exact HC.out.d.cell 0
       have d0':wr.cell? ⟨K,0,none⟩=some (.slice R2 m2 cc2):=HC.out.d.cell 0
       clear ha HC
       go_upto_region 40 with (fail)
       clear d0'
       go_region
       all_goals
        clear d0 d1 a4 f1
        go_wp2_with fail
        go_roundw
       case rel=>exact⟨k+1,by go_num,by omega,by rw [HT.out];exact HNT.out⟩
       case measure=>simp [intOf];omega
      case neg =>
      have dk4:decide ((k:Int)<(m2:Int))=false:=by simp;omega
      have HSM:Hid (sumA (ls.take k)=sumA ls):=by show _=_;rw [List.take_of_length_le (by omega)]
      have HA6:refOut l x=if oa=true∨1000000000000<sumA ls then (3,[]) else (0,ls):=by rw [HE6.out,HLS.out,← HOA2.out]
      have HCe:Hid (AsC W6 K R2 m2 cc2 ls (sumA ls) wr):=by rw [← HSM.out];exact Lib.hid HC.out
      clear HC HSM
      have hNg:=HNK.out
      have d0:wr.cell? ⟨K,0,none⟩=some (.slice R2 m2 cc2):=HCe.out.d.cell 0
      have d1:wr.cell? ⟨K,1,none⟩=some (.int .i64 (sumA ls)):=HCe.out.d.cell 1
      have HR6:Hid (Bl wr (N+1) 28 #[.slice none 0 0,.int .i64 0]):=HRT.out wr HCe.out.below
      have HB6:Hid (RowKit.Below N w wr):=HBT.out wr HCe.out.below
      as_aux_lemma =>
       cases oa
       case true =>
        have HE:Hid (refOut l x=(3,[])):=by rw [HA6,if_pos (.inl rfl)];exact Lib.hid rfl
        clear HA6
        have HZ:=set2_bl HR6.out (.slice none 0 0) (.int .i64 0)
        have HBZ:=Lib.hid ((HB6.out.setCell (p:=⟨N+1,0,none⟩) (show N≤N+1 by omega) (.slice none 0 0)).setCell (p:=⟨N+1,1,none⟩) (show N≤N+1 by omega) (.int .i64 0))
        have t0:wr.cell? ⟨N+1,0,none⟩=some (.slice none 0 0):=HR6.out.cell 0
        have t1:wr.cell? ⟨N+1,1,none⟩=some (.int .i64 0):=HR6.out.cell 1
        have t2:wr.frozen? ⟨N+1,0,none⟩=false:=HR6.out.free 0
        have t3:wr.frozen? ⟨N+1,1,none⟩=false:=HR6.out.free 1
        go_wp2
        generalize (wr.setCell ⟨N+1,0,none⟩ (.slice none 0 0)).setCell ⟨N+1,1,none⟩ (.int .i64 0)=WZ at *
        have y0:WZ.cell? ⟨N+1,0,none⟩=some (.slice none 0 0):=HZ.cell 0
        have y1:WZ.cell? ⟨N+1,1,none⟩=some (.int .i64 0):=HZ.cell 1
        refine bodyPost_ret (v:=.tuple #[.agg #[.slice none 0 0,.int .i64 0],.int .i64 3]) (by simp [results,Tryz.results13,go_sem,y0,y1]) rfl (HERR.out _ _ HBZ.out HE.out)
       case false =>
       by_cases hov:1000000000000<sumA ls
       case pos =>
        have dv:decide (sumA ls > 1000000000000)=true:=decide_eq_true hov
        have dv2:decide (1000000000000<sumA ls)=true:=decide_eq_true hov
        have HE:Hid (refOut l x=(3,[])):=by rw [HA6,if_pos (.inr hov)];exact Lib.hid rfl
        clear HA6
        have HZ:=set2_bl HR6.out (.slice none 0 0) (.int .i64 0)
        have HBZ:=Lib.hid ((HB6.out.setCell (p:=⟨N+1,0,none⟩) (show N≤N+1 by omega) (.slice none 0 0)).setCell (p:=⟨N+1,1,none⟩) (show N≤N+1 by omega) (.int .i64 0))
        have t0:wr.cell? ⟨N+1,0,none⟩=some (.slice none 0 0):=HR6.out.cell 0
        have t1:wr.cell? ⟨N+1,1,none⟩=some (.int .i64 0):=HR6.out.cell 1
        have t2:wr.frozen? ⟨N+1,0,none⟩=false:=HR6.out.free 0
        have t3:wr.frozen? ⟨N+1,1,none⟩=false:=HR6.out.free 1
        go_wp2
        generalize (wr.setCell ⟨N+1,0,none⟩ (.slice none 0 0)).setCell ⟨N+1,1,none⟩ (.int .i64 0)=WZ at *
        have y0:WZ.cell? ⟨N+1,0,none⟩=some (.slice none 0 0):=HZ.cell 0
        have y1:WZ.cell? ⟨N+1,1,none⟩=some (.int .i64 0):=HZ.cell 1
        refine bodyPost_ret (v:=.tuple #[.agg #[.slice none 0 0,.int .i64 0],.int .i64 3]) (by simp [results,Tryz.results13,go_sem,y0,y1]) rfl (HERR.out _ _ HBZ.out HE.out)
       case neg =>
        have dv:decide (sumA ls > 1000000000000)=false:=decide_eq_false hov
        have dv2:decide (1000000000000<sumA ls)=false:=decide_eq_false hov
        have HE:Hid (refOut l x=(0,ls)):=by rw [HA6,if_neg (by simpa using hov)];exact Lib.hid rfl
        have HZ:=set2_bl HR6.out (.slice R2 m2 cc2) (.int .i64 (sumA ls))
        have HBZ:=Lib.hid ((HB6.out.setCell (p:=⟨N+1,0,none⟩) (show N≤N+1 by omega) (.slice R2 m2 cc2)).setCell (p:=⟨N+1,1,none⟩) (show N≤N+1 by omega) (.int .i64 (sumA ls)))
        have t0:wr.cell? ⟨N+1,0,none⟩=some (.slice none 0 0):=HR6.out.cell 0
        have t1:wr.cell? ⟨N+1,1,none⟩=some (.int .i64 0):=HR6.out.cell 1
        have t2:wr.frozen? ⟨N+1,0,none⟩=false:=HR6.out.free 0
        have t3:wr.frozen? ⟨N+1,1,none⟩=false:=HR6.out.free 1
        have hRO:Only (N+1) wr ((wr.setCell ⟨N+1,0,none⟩ (.slice R2 m2 cc2)).setCell ⟨N+1,1,none⟩ (.int .i64 (sumA ls))):=((Only.refl _ _).setCell 0 _).setCell 1 _
        have hOW:((wr.setCell ⟨N+1,0,none⟩ (.slice R2 m2 cc2)).setCell ⟨N+1,1,none⟩ (.int .i64 (sumA ls))).ownsRow K 38 5 (.slice R2 m2 cc2) m2 (flat encDl ls):=own_of_block HCe.out.o fun g hg=>hRO.block g (fun e=>by have:=own_base HCe.out.o g hg;omega)
        have HRES:Hid (AsRes w (refOut l x) (.returned (.tuple #[.agg #[.slice R2 m2 cc2,.int .i64 (sumA ls)],.int .i64 0])) ((wr.setCell ⟨N+1,0,none⟩ (.slice R2 m2 cc2)).setCell ⟨N+1,1,none⟩ (.int .i64 (sumA ls)))):=by
         rw [HE.out]
         have hlm2:=HCe.out.len
         subst hlm2
         exact⟨R2,cc2,rfl,own_mono hOW (by omega),by rw [hN];exact HBZ.out⟩
        clear HA6 hRO hOW
        go_wp2
        generalize (wr.setCell ⟨N+1,0,none⟩ (.slice R2 m2 cc2)).setCell ⟨N+1,1,none⟩ (.int .i64 (sumA ls))=WZ at *
        have y0:WZ.cell? ⟨N+1,0,none⟩=some (.slice R2 m2 cc2):=HZ.cell 0
        have y1:WZ.cell? ⟨N+1,1,none⟩=some (.int .i64 (sumA ls)):=HZ.cell 1
        refine bodyPost_ret (v:=.tuple #[.agg #[.slice R2 m2 cc2,.int .i64 (sumA ls)],.int .i64 0]) (by simp [results,Tryz.results13,go_sem,y0,y1]) rfl HRES.out
    case pos =>
    have dk:decide ((j:Int)+5≤6)=true:=by simp;omega
    have uk:IntKind.i64.wrap ((j:Int)+5+1)=(j:Int)+5+1:=IntWalk.i64_in _ (by omega)
    have x0:wr.cell? ⟨N,0,none⟩=some (.string x.code):=(HIT.out wr HC.out.below).cell 0
    have x1:wr.cell? ⟨N,1,none⟩=some (.string x.org):=(HIT.out wr HC.out.below).cell 1
    have x3:wr.cell? ⟨N,3,none⟩=some (.int .i64 x.co):=(HIT.out wr HC.out.below).cell 3
    have x4:wr.cell? ⟨N,4,none⟩=some (.int .i64 x.day):=(HIT.out wr HC.out.below).cell 4
    go_wp2_with fail
    refine (HOF.out ((j:Int)+5) _ (HXT.out _ HC.out.below)).mono ?_
    unfold OfRes msA
    rintro e w8 ⟨y,t,rfl,hb,hof⟩
    have HC8:=Lib.hid ((HC.out.under hb).alloc (.cells #[.int .i64 y.m.id,.int .i64 y.m.kind,.string y.m.pre,.slice y.A y.n y.c,.int .i64 y.m.co,.int .i64 y.m.fr,.int .i64 y.m.til,.int .i64 y.m.reg,.int .i64 y.m.du.rate,.int .i64 y.m.du.am,.int .i64 y.m.du.per,.bool y.m.du.hm,.int .i64 y.m.du.most,.bool y.m.du.hl,.int .i64 y.m.du.least] 62))
    have HM8:Hid (Bl (w8.alloc (.cells #[.int .i64 y.m.id,.int .i64 y.m.kind,.string y.m.pre,.slice y.A y.n y.c,.int .i64 y.m.co,.int .i64 y.m.fr,.int .i64 y.m.til,.int .i64 y.m.reg,.int .i64 y.m.du.rate,.int .i64 y.m.du.am,.int .i64 y.m.du.per,.bool y.m.du.hm,.int .i64 y.m.du.most,.bool y.m.du.hl,.int .i64 y.m.du.least] 62)) w8.heap.size 62 #[.int .i64 y.m.id,.int .i64 y.m.kind,.string y.m.pre,.slice y.A y.n y.c,.int .i64 y.m.co,.int .i64 y.m.fr,.int .i64 y.m.til,.int .i64 y.m.reg,.int .i64 y.m.du.rate,.int .i64 y.m.du.am,.int .i64 y.m.du.per,.bool y.m.du.hm,.int .i64 y.m.du.most,.bool y.m.du.hl,.int .i64 y.m.du.least]):=Bl.new _ _ _
    have HOFF:=Lib.hid hof
    clear hb hof HC x0 x1 x3 x4
    go_upto_region 33 with (fail)
    generalize w8.alloc (.cells #[.int .i64 y.m.id,.int .i64 y.m.kind,.string y.m.pre,.slice y.A y.n y.c,.int .i64 y.m.co,.int .i64 y.m.fr,.int .i64 y.m.til,.int .i64 y.m.reg,.int .i64 y.m.du.rate,.int .i64 y.m.du.am,.int .i64 y.m.du.per,.bool y.m.du.hm,.int .i64 y.m.du.most,.bool y.m.du.hl,.int .i64 y.m.du.least] 62)=W9 at *
    generalize w8.heap.size=gm at *
    cases t
    case false =>
     have HA:=Lib.hid (addR_no (l:=l) (x:=x) (j:=j) (by simpa using HOFF.out))
     clear HOFF
     go_wp2_with fail
     go_roundw
     case rel=>exact⟨j+1,R2,m2,cc2,oa,by go_num,rfl,(by show _=_;rw [HA.out.2];exact HOA.out),by omega,by omega,by rw [HA.out.1];exact HC8.out⟩
     case measure=>simp [intOf];omega
    case true =>
    have HA:=addR_yes (l:=l) (x:=x) (j:=j) (m:=y.m) (by simpa using HOFF.out)
    clear HOFF
    obtain⟨n,er,hev⟩:∃ n er,evalOut y.m.du x.val x.qty=(n,er):=⟨_,_,rfl⟩
    have HA2:Hid (addR l x (j+1)=addR l x j ++ [⟨(j:Int)+5,y.m.id,x.qty,x.val,n⟩]∧ovA l x (j+1)=(ovA l x j || decide (er≠0))):=by
     simp only [lineR,hev] at HA
     exact HA
    have HEV:Hid (∀ wx,Calls Tryz.prog 43 #[.agg #[.int .i64 y.m.du.rate,.int .i64 y.m.du.am,.int .i64 y.m.du.per,.bool y.m.du.hm,.int .i64 y.m.du.most,.bool y.m.du.hl,.int .i64 y.m.du.least],.int .i64 x.val,.int .i64 x.qty] wx fun e w'=>e=.returned (.tuple #[.int .i64 n,.int .i64 er])∧RowKit.Below wx.heap.size wx w'):=fun wx=>by
     have h:=reval_any y.m.du x.val x.qty wx
     rw [hev] at h
     exact h
    clear hev HA
    have m8:W9.cell? ⟨gm,8,none⟩=some (.int .i64 y.m.du.rate):=HM8.out.cell 8
    have m9:W9.cell? ⟨gm,9,none⟩=some (.int .i64 y.m.du.am):=HM8.out.cell 9
    have m10:W9.cell? ⟨gm,10,none⟩=some (.int .i64 y.m.du.per):=HM8.out.cell 10
    have m11:W9.cell? ⟨gm,11,none⟩=some (.bool y.m.du.hm):=HM8.out.cell 11
    have m12:W9.cell? ⟨gm,12,none⟩=some (.int .i64 y.m.du.most):=HM8.out.cell 12
    have m13:W9.cell? ⟨gm,13,none⟩=some (.bool y.m.du.hl):=HM8.out.cell 13
    have m14:W9.cell? ⟨gm,14,none⟩=some (.int .i64 y.m.du.least):=HM8.out.cell 14
    have x5:W9.cell? ⟨N,5,none⟩=some (.int .i64 x.qty):=(HIT.out W9 HC8.out.below).cell 5
    have x6:W9.cell? ⟨N,6,none⟩=some (.int .i64 x.val):=(HIT.out W9 HC8.out.below).cell 6
    go_wp2_with fail
    refine (HEV.out _).mono ?_
    rintro e w10 ⟨rfl,hb⟩
    have HC9:=Lib.hid (HC8.out.under hb)
    have HM9:=Lib.hid (HM8.out.keep hb)
    clear hb m8 m9 m10 m11 m12 m13 m14 x5 x6 HC8 HM8 HEV
    obtain⟨o3,ho3⟩:∃ o3,(oa || decide (er≠0))=o3:=⟨_,rfl⟩
    have HO3:=Lib.hid ho3
    clear ho3
    go_upto_region 35 with (fail)
    go_cut [13] from 179 to 226 (fun o wx=>o=.bool o3∧w10=wx)
    case first =>
     as_aux_lemma =>
      cases oa
      case true =>
       go_wp2_with fail
       go_meet
       exact⟨by rw [← HO3.out];simp,rfl⟩
      case false =>
       by_cases he:er=0
       case pos =>
        have de:(er != 0)=false:=by simpa using he
        have HE0:=Lib.hid he
        clear he
        go_wp2_with fail
        go_meet
        exact⟨by have he:=HE0.out;rw [← HO3.out];simp [he],rfl⟩
       case neg =>
        have de:(er != 0)=true:=by simpa using he
        have HE0:=Lib.hid he
        clear he
        go_wp2_with fail
        go_meet
        exact⟨by have he:=HE0.out;rw [← HO3.out];simp [he],rfl⟩
    case rest =>
    obtain⟨rfl,rfl⟩:=hcut
    have m0:w10.cell? ⟨gm,0,none⟩=some (.int .i64 y.m.id):=HM9.out.cell 0
    have x5:w10.cell? ⟨N,5,none⟩=some (.int .i64 x.qty):=(HIT.out w10 HC9.out.below).cell 5
    have x6:w10.cell? ⟨N,6,none⟩=some (.int .i64 x.val):=(HIT.out w10 HC9.out.below).cell 6
    have d0:w10.cell? ⟨K,0,none⟩=some (.slice R2 m2 cc2):=HC9.out.d.cell 0
    have HDA:=Lib.hid (HC9.out.alloc (.cells #[.int .i64 ((j:Int)+5),.int .i64 y.m.id,.int .i64 x.qty,.int .i64 x.val,.int .i64 n] 38))
    have HRD:Hid (Rd (w10.alloc (.cells #[.int .i64 ((j:Int)+5),.int .i64 y.m.id,.int .i64 x.qty,.int .i64 x.val,.int .i64 n] 38)) 5 (some ⟨w10.heap.size,0,none⟩) 1 (encDl ⟨(j:Int)+5,y.m.id,x.qty,x.val,n⟩)):=rd_bl (xs:=encDl ⟨(j:Int)+5,y.m.id,x.qty,x.val,n⟩) (Bl.new _ _ _) rfl
    have HON:=Lib.hid (encDl_one ⟨(j:Int)+5,y.m.id,x.qty,x.val,n⟩)
    have HM1:Hid (m2+1≤maxLen∧(m2+1)*40≤140737488355328):=⟨by unfold maxLen;omega,by omega⟩
    clear HM9
    go_wp2_with (at_builtin;refine wpList_append_rd _ rfl (.tmp 214) (.tmp 224) 26 rfl K 38 _ 5 40 Tryz.underlying26 infoDl rfl (by decide) (.slice R2 m2 cc2) m2 _ rfl HDA.out.o (some ⟨w10.heap.size,0,none⟩) 1 _ (encDl ⟨(j:Int)+5,y.m.id,x.qty,x.val,n⟩) rfl HRD.out HON.out HM1.out.1 HM1.out.2 HDA.out.size ?_;intro v12 w12 ho12 hg12 hv12;obtain⟨R12,d12,rfl⟩:=own_slice ho12;have hap:=HC9.out.app hg12 ho12;have c12:w12.cell? ⟨K,0,none⟩=some (.slice R2 m2 cc2):=hap.1.cell 0;have c13:w12.frozen? ⟨K,0,none⟩=false:=hap.1.free 0)
    have HD11:=Lib.hid hap.2
    clear hap
    go_roundw
    case rel=>exact⟨j+1,R12,m2+1,d12,o3,by go_num,rfl,(by show _=_;rw [HA2.out.2,← HO3.out,HOA.out]),by omega,by omega,by rw [HA2.out.1];exact HD11.out⟩
    case measure=>simp [intOf];omega
  case pos =>
  have di:decide ((i:Int)<2)=true:=by simp;omega
  obtain⟨b1,o1,qv,rfl,hb1,hcq,HQV⟩:=(HQT.out wr HC.out.below).get hlt
  obtain⟨b2,o2,vv,rfl,hb2,hcv,HVV⟩:=(HVT.out wr HC.out.below).get hlt
  have HQC:Hid (∀ wx,RowKit.Below K W6 wx→wx.cell? ⟨b1,o1+i,none⟩=some (.int .i64 qv)):=fun wx hb=>ints_at (HQT.out wx hb) hlt HQV.out
  have HVC:Hid (∀ wx,RowKit.Below K W6 wx→wx.cell? ⟨b2,o2+i,none⟩=some (.int .i64 vv)):=fun wx hb=>ints_at (HVT.out wx hb) hlt HVV.out
  have HQI:Hid (qI x i=qv):=by
   show _=_
   rw [← HQV.out]
   have hi2:i=0∨i=1:=by omega
   rcases hi2 with rfl | rfl <;> rfl
  have HVI2:Hid (vI x i=vv):=by
   show _=_
   rw [← HVV.out]
   have hi2:i=0∨i=1:=by omega
   rcases hi2 with rfl | rfl <;> rfl
  have ii1:(0:Int)≤(i:Int):=by omega
  have ii2:(i:Int)<((2:Nat):Int):=by omega
  have ii3:(i:Int)<2:=by omega
  have x5:wr.cell? ⟨N,5,none⟩=some (.int .i64 x.qty):=(HIT.out wr HC.out.below).cell 5
  go_upto_region 17 with (fail)
  obtain⟨nh,hnh⟩:∃ nh,(!hI x i)=nh:=⟨_,rfl⟩
  have HNH:=Lib.hid hnh
  clear hnh
  go_cut [94] from 81 to 178 (fun b wx=>b=.bool nh∧Hid (AsC W6 K R m cc (lsR l x i) 0 wx))
  case first =>
   as_aux_lemma =>
    have HH:Hid (hI x i=if i=0 then decide (qv≠0) else decide (qv≠0∨¬ 0<x.qty)):=by
     show _=_
     rw [← HQI.out]
     have hi2:i=0∨i=1:=by omega
     rcases hi2 with rfl | rfl <;> rfl
    by_cases hz:qv=0
    case neg =>
     have dz:(qv == 0)=false:=by simpa using hz
     have E:Hid (hI x i=true):=by show _=_;rw [HH.out];split <;> simp [hz]
     go_wp2_with fail
     go_meet
     exact⟨by rw [← HNH.out,E.out];rfl,HC.out⟩
    case pos =>
    have dz:(qv == 0)=true:=by simpa using hz
    by_cases hi0:i=0
    case pos =>
     have d0:((i:Int) == 0)=true:=by simp;omega
     have E:Hid (hI x i=false):=by show _=_;rw [HH.out,if_pos hi0];simp [hz]
     clear hz hi0
     go_wp2_with fail
     go_meet
     exact⟨by rw [← HNH.out,E.out];rfl,HC.out⟩
    case neg =>
    have d0:((i:Int) == 0)=false:=by simp;omega
    by_cases hq:0<x.qty
    case pos =>
     have dq:decide (x.qty > 0)=true:=by simp;omega
     have dq2:decide (0<x.qty)=true:=by simp;omega
     have E:Hid (hI x i=false):=by show _=_;rw [HH.out,if_neg hi0];simp [hz,hq]
     clear hz
     go_wp2_with fail
     go_meet
     exact⟨by rw [← HNH.out,E.out];rfl,HC.out⟩
    case neg =>
     have dq:decide (x.qty > 0)=false:=by simp;omega
     have dq2:decide (0<x.qty)=false:=by simp;omega
     have E:Hid (hI x i=true):=by show _=_;rw [HH.out,if_neg hi0];simp [hq]
     clear hz
     go_wp2_with fail
     go_meet
     exact⟨by rw [← HNH.out,E.out];rfl,HC.out⟩
  case rest =>
  obtain⟨rfl,HC1⟩:=hcut
  clear HC x5
  have ui:IntKind.i64.wrap ((i:Int)+1)=((i+1:Nat):Int):=IntWalk.i64_in _ (by omega)
  cases nh
  case true =>
   have HL:=Lib.hid (lsR_no (l:=l) (x:=x) (i:=i) (by have:=HNH.out;simpa using this))
   clear HNH
   go_wp2_with fail
   go_roundw
   case rel=>exact⟨i+1,R,m,cc,ob,by go_num,rfl,by rw [HL.out.2];exact HOV.out,by omega,by omega,by rw [HL.out.1];exact HC1.out⟩
   case measure=>simp [intOf];omega
  case false =>
  have HL:=Lib.hid (lsR_yes (l:=l) (x:=x) (i:=i) (by have:=HNH.out;simpa using this))
  clear HNH
  have HCb:=Lib.hid (HC1.out.alloc (.cells #[.int .i64 0,.int .i64 0,.int .i64 0,.int .i64 0,.int .i64 0] 38))
  have HBb:Hid (Bl (wc.alloc (.cells #[.int .i64 0,.int .i64 0,.int .i64 0,.int .i64 0,.int .i64 0] 38)) wc.heap.size 38 #[.int .i64 0,.int .i64 0,.int .i64 0,.int .i64 0,.int .i64 0]):=Bl.new _ _ _
  have HKg:Hid (K<wc.heap.size):=HC1.out.d.lt
  have HNE:Hid (∀ g,(Value.slice R m cc).ownBlock=some g→g≠wc.heap.size):=fun g hg e=>by have:=own_lt HC1.out.o g hg;omega
  go_upto_region 19 with (fail)
  clear HC1
  generalize wc.alloc (.cells #[.int .i64 0,.int .i64 0,.int .i64 0,.int .i64 0,.int .i64 0] 38)=W8 at *
  generalize wc.heap.size=gb at *
  go_wp2_with fail
  go_loopw [13,16] (fun o v wx=>∃ (j:Nat) (bd:Dl) (bo ob2:Bool),v=.int .i64 ((j:Int)+1)∧o=.bool ob2∧j≤4∧Hid (ob2=(ob || bo))∧Hid (prI l x i j=(bd,bo))∧Hid (AsC W6 K R m cc (lsR l x i) 0 wx)∧Hid (Bl wx gb 38 #[.int .i64 bd.kind,.int .i64 bd.meas,.int .i64 bd.qty,.int .i64 bd.val,.int .i64 bd.amt])) (fun _ v _=>5 - (intOf v).toNat)
  case atStart=>exact⟨0,zeroD,false,ob,rfl,rfl,by omega,by show _=_;rw [Bool.or_false],rfl,HCb.out,HBb.out⟩
  case round =>
   clear HCb HBb
   obtain⟨j,bd,bo,ob2,rfl,rfl,hj,HOB,HPR,HC,HB⟩:=hrel
   by_cases hlt2:j<4
   case neg =>
    have dk:decide ((j:Int)+1≤4)=false:=by simp;omega
    have HP4:Hid (prI l x i 4=(bd,bo)):=by show _=_;rw [← HPR.out,show j=4 by omega]
    have l0:wr.cell? ⟨gb,0,none⟩=some (.int .i64 bd.kind):=HB.out.cell 0
    have l1:wr.cell? ⟨gb,1,none⟩=some (.int .i64 bd.meas):=HB.out.cell 1
    have l2:wr.cell? ⟨gb,2,none⟩=some (.int .i64 bd.qty):=HB.out.cell 2
    have l3:wr.cell? ⟨gb,3,none⟩=some (.int .i64 bd.val):=HB.out.cell 3
    have l4:wr.cell? ⟨gb,4,none⟩=some (.int .i64 bd.amt):=HB.out.cell 4
    have d0:wr.cell? ⟨K,0,none⟩=some (.slice R m cc):=HC.out.d.cell 0
    have HDA:=Lib.hid (HC.out.alloc (.cells #[.int .i64 bd.kind,.int .i64 bd.meas,.int .i64 bd.qty,.int .i64 bd.val,.int .i64 bd.amt] 38))
    have HRD:Hid (Rd (wr.alloc (.cells #[.int .i64 bd.kind,.int .i64 bd.meas,.int .i64 bd.qty,.int .i64 bd.val,.int .i64 bd.amt] 38)) 5 (some ⟨wr.heap.size,0,none⟩) 1 (encDl bd)):=rd_bl (xs:=encDl bd) (Bl.new _ _ _) rfl
    have HON:=Lib.hid (encDl_one bd)
    have HM1:Hid (m+1≤maxLen∧(m+1)*40≤140737488355328):=⟨by unfold maxLen;omega,by omega⟩
    go_wp2_with (at_builtin;refine wpList_append_rd _ rfl (.tmp 174) (.tmp 176) 26 rfl K 38 _ 5 40 Tryz.underlying26 infoDl rfl (by decide) (.slice R m cc) m _ rfl HDA.out.o (some ⟨wr.heap.size,0,none⟩) 1 _ (encDl bd) rfl HRD.out HON.out HM1.out.1 HM1.out.2 HDA.out.size ?_;intro v10 w10 ho10 hg10 hv10;obtain⟨R10,d10,rfl⟩:=own_slice ho10;have hap:=HC.out.app hg10 ho10;have c10:w10.cell? ⟨K,0,none⟩=some (.slice R m cc):=hap.1.cell 0;have c11:w10.frozen? ⟨K,0,none⟩=false:=hap.1.free 0)
    have HD11:=Lib.hid hap.2
    clear hap
    go_roundw
    case rel=>exact⟨i+1,R10,m+1,d10,ob2,by go_num,rfl,(by show _=_;rw [HL.out.2,HP4.out,HOB.out,HOV.out]),by omega,by omega,by rw [HL.out.1,HP4.out];exact HD11.out⟩
    case measure=>simp [intOf];omega
   case pos =>
   have dk:decide ((j:Int)+1≤4)=true:=by simp;omega
   have uk:IntKind.i64.wrap ((j:Int)+1+1)=(j:Int)+1+1:=IntWalk.i64_in _ (by omega)
   have x0:wr.cell? ⟨N,0,none⟩=some (.string x.code):=(HIT.out wr HC.out.below).cell 0
   have x1:wr.cell? ⟨N,1,none⟩=some (.string x.org):=(HIT.out wr HC.out.below).cell 1
   have x3:wr.cell? ⟨N,3,none⟩=some (.int .i64 x.co):=(HIT.out wr HC.out.below).cell 3
   have x4:wr.cell? ⟨N,4,none⟩=some (.int .i64 x.day):=(HIT.out wr HC.out.below).cell 4
   go_wp2_with fail
   refine (HOF.out ((j:Int)+1) _ (HXT.out _ HC.out.below)).mono ?_
   unfold OfRes msA
   rintro e w8 ⟨y,t,rfl,hb,hof⟩
   have HC8:=Lib.hid ((HC.out.under hb).alloc (.cells #[.int .i64 y.m.id,.int .i64 y.m.kind,.string y.m.pre,.slice y.A y.n y.c,.int .i64 y.m.co,.int .i64 y.m.fr,.int .i64 y.m.til,.int .i64 y.m.reg,.int .i64 y.m.du.rate,.int .i64 y.m.du.am,.int .i64 y.m.du.per,.bool y.m.du.hm,.int .i64 y.m.du.most,.bool y.m.du.hl,.int .i64 y.m.du.least] 62))
   have HB8:=Lib.hid (Bl.alloc (HB.out.keep hb) (.cells #[.int .i64 y.m.id,.int .i64 y.m.kind,.string y.m.pre,.slice y.A y.n y.c,.int .i64 y.m.co,.int .i64 y.m.fr,.int .i64 y.m.til,.int .i64 y.m.reg,.int .i64 y.m.du.rate,.int .i64 y.m.du.am,.int .i64 y.m.du.per,.bool y.m.du.hm,.int .i64 y.m.du.most,.bool y.m.du.hl,.int .i64 y.m.du.least] 62))
   have HM8:Hid (Bl (w8.alloc (.cells #[.int .i64 y.m.id,.int .i64 y.m.kind,.string y.m.pre,.slice y.A y.n y.c,.int .i64 y.m.co,.int .i64 y.m.fr,.int .i64 y.m.til,.int .i64 y.m.reg,.int .i64 y.m.du.rate,.int .i64 y.m.du.am,.int .i64 y.m.du.per,.bool y.m.du.hm,.int .i64 y.m.du.most,.bool y.m.du.hl,.int .i64 y.m.du.least] 62)) w8.heap.size 62 #[.int .i64 y.m.id,.int .i64 y.m.kind,.string y.m.pre,.slice y.A y.n y.c,.int .i64 y.m.co,.int .i64 y.m.fr,.int .i64 y.m.til,.int .i64 y.m.reg,.int .i64 y.m.du.rate,.int .i64 y.m.du.am,.int .i64 y.m.du.per,.bool y.m.du.hm,.int .i64 y.m.du.most,.bool y.m.du.hl,.int .i64 y.m.du.least]):=Bl.new _ _ _
   have HOFF:=Lib.hid hof
   clear hb hof HC HB x0 x1 x3 x4
   go_upto_region 23 with (fail)
   generalize w8.alloc (.cells #[.int .i64 y.m.id,.int .i64 y.m.kind,.string y.m.pre,.slice y.A y.n y.c,.int .i64 y.m.co,.int .i64 y.m.fr,.int .i64 y.m.til,.int .i64 y.m.reg,.int .i64 y.m.du.rate,.int .i64 y.m.du.am,.int .i64 y.m.du.per,.bool y.m.du.hm,.int .i64 y.m.du.most,.bool y.m.du.hl,.int .i64 y.m.du.least] 62)=W9 at *
   generalize w8.heap.size=gm at *
   have x2:W9.cell? ⟨N,2,none⟩=some (.bool x.proof):=(HIT.out W9 HC8.out.below).cell 2
   go_cut [132] from 96 to 172 (fun b wx=>b=.bool (!t || ((decide (j=2) && !x.proof) || (decide (j=3) && decide (i=1))))∧W9=wx)
   case first =>
    as_aux_lemma =>
     cases t
     case false =>
      go_wp2_with fail
      go_meet
      exact⟨by simp,rfl⟩
     case true =>
     by_cases e3:j=2
     case pos =>
      have d3:((j:Int)+1 == 3)=true:=by simp;omega
      have d4:((j:Int)+1 == 4)=false:=by simp;omega
      have E3:=Lib.hid e3
      obtain⟨pf,hpf⟩:∃ pf,x.proof=pf:=⟨_,rfl⟩
      rw [hpf] at x2
      have HPF:=Lib.hid hpf
      clear e3 hpf
      cases pf
      case false =>
       go_wp2_with fail
       go_meet
       exact⟨by have a:=E3.out;have b:=HPF.out;simp [a,b],rfl⟩
      case true =>
       go_wp2_with fail
       go_meet
       exact⟨by have a:=E3.out;have b:=HPF.out;simp [a,b],rfl⟩
     case neg =>
     have d3:((j:Int)+1 == 3)=false:=by simp;omega
     by_cases e4:j=3
     case pos =>
      have d4:((j:Int)+1 == 4)=true:=by simp;omega
      have E4:=Lib.hid e4
      clear e3 e4
      by_cases e1:i=1
      case pos =>
       have d1:((i:Int) == 1)=true:=by simp;omega
       have E1:=Lib.hid e1
       clear e1
       go_wp2_with fail
       go_meet
       exact⟨by have a:=E4.out;have b:=E1.out;simp [a,b],rfl⟩
      case neg =>
       have d1:((i:Int) == 1)=false:=by simp;omega
       have E1:Hid (¬ i=1):=Lib.hid e1
       clear e1
       go_wp2_with fail
       go_meet
       exact⟨by have a:=E4.out;have b:=E1.out;simp [a,b],rfl⟩
     case neg =>
      have d4:((j:Int)+1 == 4)=false:=by simp;omega
      have E3:Hid (¬ j=2):=Lib.hid e3
      have E4:Hid (¬ j=3):=Lib.hid e4
      clear e3 e4
      go_wp2_with fail
      go_meet
      exact⟨by have a:=E3.out;have b:=E4.out;simp [a,b],rfl⟩
   case rest =>
   obtain⟨rfl,rfl⟩:=hcut
   clear x2
   obtain⟨sk,hsk⟩:∃ sk,(!t || ((decide (j=2) && !x.proof) || (decide (j=3) && decide (i=1))))=sk:=⟨_,rfl⟩
   rw [hsk]
   cases sk
   case true =>
    have HPN:Hid (prI l x i (j+1)=(bd,bo)):=by
     have h1:prI l x i (j+1)=stepR l x (qI x i) (vI x i) (decide (i=1)) (prI l x i j) ((j:Int)+1):=rfl
     show _=_
     rw [h1,HPR.out]
     cases t
     ·exact stepR_none (by simpa using HOFF.out)
     ·refine stepR_skip (m:=y.m) (by simpa using HOFF.out) ?_
      simp at hsk
      rcases hsk with ⟨a,b⟩ | ⟨a,b⟩
      ·exact .inl ⟨by omega,b⟩
      ·exact .inr ⟨by omega,by simpa using b⟩
    clear hsk
    go_wp2_with fail
    go_roundw
    case rel=>exact⟨j+1,bd,bo,ob2,by go_num,rfl,by omega,HOB.out,HPN.out,HC8.out,HB8.out⟩
    case measure=>simp [intOf];omega
   case false =>
   obtain⟨rfl,HNS⟩:t=true∧Hid (¬ (((j:Int)+1=3∧x.proof=false)∨((j:Int)+1=4∧decide (i=1)=true))):=by
    cases t
    ·simp at hsk
    ·refine⟨rfl,fun hh=>?_⟩
     rcases hh with ⟨a,b⟩ | ⟨a,b⟩
     ·have e:j=2:=by omega
      simp [e,b] at hsk
     ·have e:j=3:=by omega
      have b':i=1:=by simpa using b
      simp [e,b'] at hsk
   have HOM:Hid (ofKind l ((j:Int)+1) x=some y.m):=by show _=_;rw [HOFF.out];rfl
   clear HOFF hsk
   obtain⟨n,er,hev⟩:∃ n er,evalOut y.m.du vv qv=(n,er):=⟨_,_,rfl⟩
   have HPS:Hid (prI l x i (j+1)=(if (j:Int)+1=1∨n<bd.amt then ⟨(j:Int)+1,y.m.id,qv,vv,n⟩ else bd,bo || decide (er≠0))):=by
    have h1:prI l x i (j+1)=stepR l x (qI x i) (vI x i) (decide (i=1)) (prI l x i j) ((j:Int)+1):=rfl
    show _=_
    rw [h1,HPR.out,HQI.out,HVI2.out,stepR_some HOM.out HNS.out]
    simp only [lineR,hev]
   have HEV:Hid (∀ wx,Calls Tryz.prog 43 #[.agg #[.int .i64 y.m.du.rate,.int .i64 y.m.du.am,.int .i64 y.m.du.per,.bool y.m.du.hm,.int .i64 y.m.du.most,.bool y.m.du.hl,.int .i64 y.m.du.least],.int .i64 vv,.int .i64 qv] wx fun e w'=>e=.returned (.tuple #[.int .i64 n,.int .i64 er])∧RowKit.Below wx.heap.size wx w'):=fun wx=>by
    have h:=reval_any y.m.du vv qv wx
    rw [hev] at h
    exact h
   clear hev
   have HSS:Hid (∀ wx,RowKit.Below W9.heap.size W9 wx→wx.cell? ⟨gm,8,none⟩=some (.int .i64 y.m.du.rate)∧wx.cell? ⟨gm,9,none⟩=some (.int .i64 y.m.du.am)∧wx.cell? ⟨gm,10,none⟩=some (.int .i64 y.m.du.per)∧wx.cell? ⟨gm,11,none⟩=some (.bool y.m.du.hm)∧wx.cell? ⟨gm,12,none⟩=some (.int .i64 y.m.du.most)∧wx.cell? ⟨gm,13,none⟩=some (.bool y.m.du.hl)∧wx.cell? ⟨gm,14,none⟩=some (.int .i64 y.m.du.least)∧wx.cell? ⟨b1,o1+i,none⟩=some (.int .i64 qv)∧wx.cell? ⟨b2,o2+i,none⟩=some (.int .i64 vv)):=fun wx hb=>by
    have hm:=HM8.out.keep hb
    have hc:=HC8.out.below.trans (hb.mono HC8.out.size)
    exact⟨hm.cell 8,hm.cell 9,hm.cell 10,hm.cell 11,hm.cell 12,hm.cell 13,hm.cell 14,HQC.out wx hc,HVC.out wx hc⟩
   go_upto_region 24 with (fail)
   go_cut [19,20] from 96 to 172 (fun a b wx=>a=.int .i64 n∧b=.int .i64 er∧Hid (AsC W6 K R m cc (lsR l x i) 0 wx)∧Hid (Bl wx gb 38 #[.int .i64 bd.kind,.int .i64 bd.meas,.int .i64 bd.qty,.int .i64 bd.val,.int .i64 bd.amt])∧Hid (Bl wx gm 62 #[.int .i64 y.m.id,.int .i64 y.m.kind,.string y.m.pre,.slice y.A y.n y.c,.int .i64 y.m.co,.int .i64 y.m.fr,.int .i64 y.m.til,.int .i64 y.m.reg,.int .i64 y.m.du.rate,.int .i64 y.m.du.am,.int .i64 y.m.du.per,.bool y.m.du.hm,.int .i64 y.m.du.most,.bool y.m.du.hl,.int .i64 y.m.du.least]))
   case first =>
    as_aux_lemma =>
     obtain⟨m8,m9,m10,m11,m12,m13,m14,qc,vc⟩:=HSS.out W9 (Below.refl _ _)
     have hk0:Hid (RowKit.Below W9.heap.size W9 W9.drew):=(Below.refl _ _).drew
     have hk00:Hid (RowKit.Below W9.heap.size W9 W9):=Below.refl _ _
     go_region_held3 (fun wx=>wx.cell? ⟨gm,8,none⟩=some (.int .i64 y.m.du.rate)∧wx.cell? ⟨gm,9,none⟩=some (.int .i64 y.m.du.am)∧wx.cell? ⟨gm,10,none⟩=some (.int .i64 y.m.du.per)∧wx.cell? ⟨gm,11,none⟩=some (.bool y.m.du.hm)∧wx.cell? ⟨gm,12,none⟩=some (.int .i64 y.m.du.most)∧wx.cell? ⟨gm,13,none⟩=some (.bool y.m.du.hl)∧wx.cell? ⟨gm,14,none⟩=some (.int .i64 y.m.du.least)∧wx.cell? ⟨b1,o1+i,none⟩=some (.int .i64 qv)∧wx.cell? ⟨b2,o2+i,none⟩=some (.int .i64 vv))
      (first | with_reducible exact HSS.out _ hkz.out | with_reducible exact HSS.out _ hk0.out | with_reducible exact HSS.out _ hk00.out)
      (first | (go_at_call 43;with_reducible (refine (HEV.out _).mono ?_);rintro e wz ⟨rfl,hbz⟩;have hkz:=Lib.hid (hk0.out.trans (hbz.mono hk0.out.size))) | fail)
     all_goals
      go_wp2_with fail
      go_meet
      exact⟨rfl,rfl,HC8.out.under hkz.out,HB8.out.keep hkz.out,HM8.out.keep hkz.out⟩
   case rest =>
   obtain⟨rfl,rfl,HC9,HB9,HM9⟩:=hcut
   clear HC8 HB8 HM8 HSS HEV
   obtain⟨w10,hw10⟩:∃ w10:World,w10=wc:=⟨_,rfl⟩
   subst hw10
   obtain⟨o3,ho3⟩:∃ o3,(ob2 || decide (er≠0))=o3:=⟨_,rfl⟩
   have HO3:=Lib.hid ho3
   clear ho3
   go_upto_region 25 with (fail)
   go_cut [13] from 96 to 172 (fun o wx=>o=.bool o3∧w10=wx)
   case first =>
    as_aux_lemma =>
     cases ob2
     case true =>
      go_wp2_with fail
      go_meet
      exact⟨by rw [← HO3.out];simp,rfl⟩
     case false =>
      by_cases he:er=0
      case pos =>
       have de:(er != 0)=false:=by simpa using he
       have HE0:=Lib.hid he
       clear he
       go_wp2_with fail
       go_meet
       exact⟨by have he:=HE0.out;rw [← HO3.out];simp [he],rfl⟩
      case neg =>
       have de:(er != 0)=true:=by simpa using he
       have HE0:=Lib.hid he
       clear he
       go_wp2_with fail
       go_meet
       exact⟨by have he:=HE0.out;rw [← HO3.out];simp [he],rfl⟩
   case rest =>
   obtain⟨rfl,rfl⟩:=hcut
   have HOB3:Hid (o3=(ob || (bo || decide (er≠0)))):=by show _=_;rw [← HO3.out,HOB.out,Bool.or_assoc]
   have b4:w10.cell? ⟨gb,4,none⟩=some (.int .i64 bd.amt):=HB9.out.cell 4
   go_upto_region 26 with (fail)
   go_cut [159] from 96 to 172 (fun b wx=>b=.bool (decide ((j:Int)+1=1∨n<bd.amt))∧w10=wx)
   case first =>
    as_aux_lemma =>
     by_cases e1:j=0
     case pos =>
      have d1:((j:Int)+1 == 1)=true:=by simp;omega
      have E1:=Lib.hid e1
      clear e1
      go_wp2_with fail
      go_meet
      exact⟨by have a:=E1.out;simp [a],rfl⟩
     case neg =>
      have d1:((j:Int)+1 == 1)=false:=by simp;omega
      have E2:Hid (¬ ((j:Int)+1=1)):=Lib.hid (by omega)
      clear e1
      go_wp2_with fail
      go_meet
      exact⟨by have a:=E2.out;simp [a],rfl⟩
   case rest =>
   obtain⟨rfl,rfl⟩:=hcut
   clear b4
   by_cases hbest:(j:Int)+1=1∨n<bd.amt
   case neg =>
    have HPN:Hid (prI l x i (j+1)=(bd,bo || decide (er≠0))):=by show _=_;rw [HPS.out,if_neg hbest]
    have db:decide ((j:Int)+1=1∨n<bd.amt)=false:=decide_eq_false hbest
    clear hbest HPS
    rw [db]
    go_wp2_with fail
    go_roundw
    case rel=>exact⟨j+1,bd,bo || decide (er≠0),o3,by go_num,rfl,by omega,HOB3.out,HPN.out,HC9.out,HB9.out⟩
    case measure=>simp [intOf];omega
   case pos =>
   have HPN:Hid (prI l x i (j+1)=(⟨(j:Int)+1,y.m.id,qv,vv,n⟩,bo || decide (er≠0))):=by show _=_;rw [HPS.out,if_pos hbest]
   have db:decide ((j:Int)+1=1∨n<bd.amt)=true:=decide_eq_true hbest
   clear hbest HPS
   rw [db]
   have m0:w10.cell? ⟨gm,0,none⟩=some (.int .i64 y.m.id):=HM9.out.cell 0
   have qc:w10.cell? ⟨b1,o1+i,none⟩=some (.int .i64 qv):=HQC.out w10 HC9.out.below
   have vc:w10.cell? ⟨b2,o2+i,none⟩=some (.int .i64 vv):=HVC.out w10 HC9.out.below
   have c0:w10.cell? ⟨gb,0,none⟩=some (.int .i64 bd.kind):=HB9.out.cell 0
   have c1:w10.cell? ⟨gb,1,none⟩=some (.int .i64 bd.meas):=HB9.out.cell 1
   have c2:w10.cell? ⟨gb,2,none⟩=some (.int .i64 bd.qty):=HB9.out.cell 2
   have c3:w10.cell? ⟨gb,3,none⟩=some (.int .i64 bd.val):=HB9.out.cell 3
   have c4:w10.cell? ⟨gb,4,none⟩=some (.int .i64 bd.amt):=HB9.out.cell 4
   have f0:w10.frozen? ⟨gb,0,none⟩=false:=HB9.out.free 0
   have f1:w10.frozen? ⟨gb,1,none⟩=false:=HB9.out.free 1
   have f2:w10.frozen? ⟨gb,2,none⟩=false:=HB9.out.free 2
   have f3:w10.frozen? ⟨gb,3,none⟩=false:=HB9.out.free 3
   have f4:w10.frozen? ⟨gb,4,none⟩=false:=HB9.out.free 4
   go_upto_region 27 with (fail)
   have HNEW:Hid (AsC W6 K R m cc (lsR l x i) 0 (((((w10.drew.setCell ⟨gb,0,none⟩ (.int .i64 ((j:Int)+1))).setCell ⟨gb,1,none⟩ (.int .i64 y.m.id)).setCell ⟨gb,2,none⟩ (.int .i64 qv)).setCell ⟨gb,3,none⟩ (.int .i64 vv)).setCell ⟨gb,4,none⟩ (.int .i64 n))∧Bl (((((w10.drew.setCell ⟨gb,0,none⟩ (.int .i64 ((j:Int)+1))).setCell ⟨gb,1,none⟩ (.int .i64 y.m.id)).setCell ⟨gb,2,none⟩ (.int .i64 qv)).setCell ⟨gb,3,none⟩ (.int .i64 vv)).setCell ⟨gb,4,none⟩ (.int .i64 n)) gb 38 #[.int .i64 ((j:Int)+1),.int .i64 y.m.id,.int .i64 qv,.int .i64 vv,.int .i64 n]) :=
     AsC.five HC9.out.drew (bl_drewR HB9.out) HKg.out HNE.out _ _ _ _ _
   go_region
   all_goals
    clear m0 qc vc c0 c1 c2 c3 c4 f0 f1 f2 f3 f4 HC9 HB9 HM9
    go_wp2_with fail
    go_roundw
   case rel=>exact⟨j+1,⟨(j:Int)+1,y.m.id,qv,vv,n⟩,bo || decide (er≠0),o3,by go_num,rfl,by omega,HOB3.out,HPN.out,HNEW.out.1,HNEW.out.2⟩
   case measure=>simp [intOf];omega
end Go.Proofs.YtbokkeooahodaaaGreatDoor

/-
  A part of the proof of TopQuotaDayCardSaid: lemmas and contracts of functions that the law calls. No statement of the seat is proved here. Conditions: as each says.
-/
import Derived.Test.YtbokkeooahodaaaGreatDoorQAQ
import Derived.Test.YtbokkeooahodaaaGreatDoorQAK
namespace Go.Proofs.YtbokkeooahodaaaGreatDoor
open Go.RowKit
set_option linter.unusedVariables false
def BkR (w:World) (g:Nat) (A:Option Addr) (c:Nat):Prop:=Bl w g 95 #[.string s94,.int .i64 0,.int .i64 100,.slice none 0 0,.bool false,.string s9401,.int .i64 0,.int .i64 100,.slice A 1 c,.bool false]∧TermR w A
theorem BkR.below {w w':World} {g:Nat} {A:Option Addr} {c:Nat} (h:BkR w g A c) (hb:RowKit.Below w.heap.size w w'):BkR w' g A c:=⟨h.1.keep hb,h.2.below hb⟩
set_option maxRecDepth 100000 in
set_option maxHeartbeats 4000000 in
theorem ventry0 (w:World) (hG:LenG w):Calls Tryz.prog 122 #[.agg #[.string s94,.int .i64 0,.int .i64 100,.slice none 0 0,.bool false]] w fun e w'=>e=.returned (.int .i64 0)∧RowKit.Below w.heap.size w w':=by
 have hal:RowKit.Below w.heap.size w (w.alloc (.cells #[.string s94,.int .i64 0,.int .i64 100,.slice none 0 0,.bool false] 95)):=(Below.refl _ _).alloc (Nat.le_refl _) _
 have HX:Hid (Bl (w.alloc (.cells #[.string s94,.int .i64 0,.int .i64 100,.slice none 0 0,.bool false] 95)) w.heap.size 95 #[.string s94,.int .i64 0,.int .i64 100,.slice none 0 0,.bool false]):=Bl.new _ _ _
 have HL:=Lib.hid (level_any s94 _ (hG.below hal) (by decide))
 have HB:=Lib.hid hal
 have hlv:levelV s94=2:=by decide +kernel
 clear hal hG
 go_enter Tryz.func122,Tryz.ntmps122
 go_upto_region 1 with (fail)
 generalize w.alloc (.cells #[.string s94,.int .i64 0,.int .i64 100,.slice none 0 0,.bool false] 95)=W at *
 have x0:W.cell? ⟨w.heap.size,0,none⟩=some (.string s94):=HX.out.cell 0
 have x1:W.cell? ⟨w.heap.size,1,none⟩=some (.int .i64 0):=HX.out.cell 1
 have x2:W.cell? ⟨w.heap.size,2,none⟩=some (.int .i64 100):=HX.out.cell 2
 have x3:W.cell? ⟨w.heap.size,3,none⟩=some (.slice none 0 0):=HX.out.cell 3
 have x4:W.cell? ⟨w.heap.size,4,none⟩=some (.bool false):=HX.out.cell 4
 go_wp2_with fail
 refine HL.out.mono ?_
 rintro e w1 ⟨rfl,hb⟩
 rw [hlv]
 have HX1:=Lib.hid (HX.out.keep hb)
 have HB1:=Lib.hid (HB.out.trans (hb.mono HB.out.size))
 clear hb HX HB HL x0 x1 x2 x3 x4
 have x0:w1.cell? ⟨w.heap.size,0,none⟩=some (.string s94):=HX1.out.cell 0
 have x1:w1.cell? ⟨w.heap.size,1,none⟩=some (.int .i64 0):=HX1.out.cell 1
 have x2:w1.cell? ⟨w.heap.size,2,none⟩=some (.int .i64 100):=HX1.out.cell 2
 have x3:w1.cell? ⟨w.heap.size,3,none⟩=some (.slice none 0 0):=HX1.out.cell 3
 have x4:w1.cell? ⟨w.heap.size,4,none⟩=some (.bool false):=HX1.out.cell 4
 go_wp2_with fail
 refine wp_loop_rounds 1 ?_
 rw [rounds_succ]
 go_wp2_with fail
 go_ret
 exact⟨rfl,HB1.out⟩
set_option maxRecDepth 100000 in
set_option maxHeartbeats 4000000 in
theorem ventry1 (A:Option Addr) (c:Nat) (w:World) (hG:LenG w) (hT:TermR w A):Calls Tryz.prog 122 #[.agg #[.string s9401,.int .i64 0,.int .i64 100,.slice A 1 c,.bool false]] w fun e w'=>e=.returned (.int .i64 0)∧RowKit.Below w.heap.size w w':=by
 have hal:RowKit.Below w.heap.size w (w.alloc (.cells #[.string s9401,.int .i64 0,.int .i64 100,.slice A 1 c,.bool false] 95)):=(Below.refl _ _).alloc (Nat.le_refl _) _
 have HX:Hid (Bl (w.alloc (.cells #[.string s9401,.int .i64 0,.int .i64 100,.slice A 1 c,.bool false] 95)) w.heap.size 95 #[.string s9401,.int .i64 0,.int .i64 100,.slice A 1 c,.bool false]):=Bl.new _ _ _
 have HL:=Lib.hid (level_any s9401 _ (hG.below hal) (by decide))
 have HB:=Lib.hid hal
 have hlv:levelV s9401=4:=by decide +kernel
 have HT:=Lib.hid (hT.below hal)
 clear hT
 clear hal hG
 go_enter Tryz.func122,Tryz.ntmps122
 go_upto_region 1 with (fail)
 generalize w.alloc (.cells #[.string s9401,.int .i64 0,.int .i64 100,.slice A 1 c,.bool false] 95)=W at *
 have x0:W.cell? ⟨w.heap.size,0,none⟩=some (.string s9401):=HX.out.cell 0
 have x1:W.cell? ⟨w.heap.size,1,none⟩=some (.int .i64 0):=HX.out.cell 1
 have x2:W.cell? ⟨w.heap.size,2,none⟩=some (.int .i64 100):=HX.out.cell 2
 have x3:W.cell? ⟨w.heap.size,3,none⟩=some (.slice A 1 c):=HX.out.cell 3
 have x4:W.cell? ⟨w.heap.size,4,none⟩=some (.bool false):=HX.out.cell 4
 go_wp2_with fail
 refine HL.out.mono ?_
 rintro e w1 ⟨rfl,hb⟩
 rw [hlv]
 have HX1:=Lib.hid (HX.out.keep hb)
 have HB1:=Lib.hid (HB.out.trans (hb.mono HB.out.size))
 have HT1:=Lib.hid (HT.out.below hb)
 clear HT
 clear hb HX HB HL x0 x1 x2 x3 x4
 have x0:w1.cell? ⟨w.heap.size,0,none⟩=some (.string s9401):=HX1.out.cell 0
 have x1:w1.cell? ⟨w.heap.size,1,none⟩=some (.int .i64 0):=HX1.out.cell 1
 have x2:w1.cell? ⟨w.heap.size,2,none⟩=some (.int .i64 100):=HX1.out.cell 2
 have x3:w1.cell? ⟨w.heap.size,3,none⟩=some (.slice A 1 c):=HX1.out.cell 3
 have x4:w1.cell? ⟨w.heap.size,4,none⟩=some (.bool false):=HX1.out.cell 4
 obtain⟨tb,tf,A',c',rfl,hlt,t0,HS⟩:=HT1.out
 have HD:=Lib.hid (described_n A' 1 c' [sChair] w1 HS wordsL1 (by decide))
 clear HS HT1
 go_wp2_with fail
 refine wp_loop_rounds 2 ?_
 rw [rounds_succ]
 go_wp2_with fail
 refine HD.out.mono ?_
 rintro e w2 ⟨rfl,hb⟩
 have HX2:=Lib.hid (HX1.out.keep hb)
 have HB2:=Lib.hid (HB1.out.trans (hb.mono HB1.out.size))
 clear hb HX1 HB1 HD t0 x0 x1 x2 x3 x4
 have x0:w2.cell? ⟨w.heap.size,0,none⟩=some (.string s9401):=HX2.out.cell 0
 have x1:w2.cell? ⟨w.heap.size,1,none⟩=some (.int .i64 0):=HX2.out.cell 1
 have x2:w2.cell? ⟨w.heap.size,2,none⟩=some (.int .i64 100):=HX2.out.cell 2
 have x3:w2.cell? ⟨w.heap.size,3,none⟩=some (.slice (some ⟨tb,tf,none⟩) 1 c):=HX2.out.cell 3
 have x4:w2.cell? ⟨w.heap.size,4,none⟩=some (.bool false):=HX2.out.cell 4
 go_wp2_with fail
 rw [rounds_succ]
 go_wp2_with fail
 go_ret
 exact⟨rfl,HB2.out⟩
set_option maxRecDepth 100000 in
set_option maxHeartbeats 4000000 in
theorem hasParent0 (g:Nat) (A:Option Addr) (c:Nat) (w:World) (h:BkR w g A c):Calls Tryz.prog 124 #[.agg #[.slice (some ⟨g,0,none⟩) 2 2,.slice none 0 0],.agg #[.string s94,.int .i64 0,.int .i64 100,.slice none 0 0,.bool false]] w fun e w'=>e=.returned (.bool true)∧RowKit.Below w.heap.size w w':=by
 have e1:(s94.toList == s94.toList)=true:=by decide +kernel
 have e2:(s9401.toList == s94.toList)=false:=by decide +kernel
 have e3:(s9401.extract 0 2).toList = [57,52]:=by decide +kernel
 have hs1:(w.alloc (.cells #[.slice (some ⟨g,0,none⟩) 2 2,.slice none 0 0] 99)).heap.size=w.heap.size+1:=by simp
 have HB:=Lib.hid (((Below.refl _ w).alloc (Nat.le_refl _) (.cells #[.slice (some ⟨g,0,none⟩) 2 2,.slice none 0 0] 99)).alloc (by simp) (.cells #[.string s94,.int .i64 0,.int .i64 100,.slice none 0 0,.bool false] 95))
 have HX:Hid (Bl ((w.alloc (.cells #[.slice (some ⟨g,0,none⟩) 2 2,.slice none 0 0] 99)).alloc (.cells #[.string s94,.int .i64 0,.int .i64 100,.slice none 0 0,.bool false] 95)) w.heap.size 99 #[.slice (some ⟨g,0,none⟩) 2 2,.slice none 0 0]):=(Bl.new _ _ _).alloc _
 have HY:Hid (Bl ((w.alloc (.cells #[.slice (some ⟨g,0,none⟩) 2 2,.slice none 0 0] 99)).alloc (.cells #[.string s94,.int .i64 0,.int .i64 100,.slice none 0 0,.bool false] 95)) (w.heap.size+1) 95 #[.string s94,.int .i64 0,.int .i64 100,.slice none 0 0,.bool false]):=by
  rw [← hs1]
  exact Bl.new _ _ _
 have HK:=Lib.hid (h.below HB.out)
 clear h
 go_enter Tryz.func124,Tryz.ntmps124
 go_upto_region 1 with (fail)
 generalize (w.alloc (.cells #[.slice (some ⟨g,0,none⟩) 2 2,.slice none 0 0] 99)).alloc (.cells #[.string s94,.int .i64 0,.int .i64 100,.slice none 0 0,.bool false] 95)=W at *
 try rw [hs1]
 have x0:W.cell? ⟨w.heap.size,0,none⟩=some (.slice (some ⟨g,0,none⟩) 2 2):=HX.out.cell 0
 have x1:W.cell? ⟨w.heap.size,1,none⟩=some (.slice none 0 0):=HX.out.cell 1
 have y0:W.cell? ⟨(w.heap.size+1),0,none⟩=some (.string s94):=HY.out.cell 0
 have y1:W.cell? ⟨(w.heap.size+1),1,none⟩=some (.int .i64 0):=HY.out.cell 1
 have y2:W.cell? ⟨(w.heap.size+1),2,none⟩=some (.int .i64 100):=HY.out.cell 2
 have y3:W.cell? ⟨(w.heap.size+1),3,none⟩=some (.slice none 0 0):=HY.out.cell 3
 have y4:W.cell? ⟨(w.heap.size+1),4,none⟩=some (.bool false):=HY.out.cell 4
 go_wp2_with fail
 go_ret
 exact⟨rfl,HB.out⟩
set_option maxRecDepth 100000 in
set_option maxHeartbeats 4000000 in
theorem hasParent1 (g:Nat) (A:Option Addr) (c:Nat) (w:World) (h:BkR w g A c):Calls Tryz.prog 124 #[.agg #[.slice (some ⟨g,0,none⟩) 2 2,.slice none 0 0],.agg #[.string s9401,.int .i64 0,.int .i64 100,.slice A 1 c,.bool false]] w fun e w'=>e=.returned (.bool true)∧RowKit.Below w.heap.size w w':=by
 have e1:(s94.toList == s94.toList)=true:=by decide +kernel
 have e2:(s9401.toList == s94.toList)=false:=by decide +kernel
 have e3:(s9401.extract 0 2).toList = [57,52]:=by decide +kernel
 have hs1:(w.alloc (.cells #[.slice (some ⟨g,0,none⟩) 2 2,.slice none 0 0] 99)).heap.size=w.heap.size+1:=by simp
 have HB:=Lib.hid (((Below.refl _ w).alloc (Nat.le_refl _) (.cells #[.slice (some ⟨g,0,none⟩) 2 2,.slice none 0 0] 99)).alloc (by simp) (.cells #[.string s9401,.int .i64 0,.int .i64 100,.slice A 1 c,.bool false] 95))
 have HX:Hid (Bl ((w.alloc (.cells #[.slice (some ⟨g,0,none⟩) 2 2,.slice none 0 0] 99)).alloc (.cells #[.string s9401,.int .i64 0,.int .i64 100,.slice A 1 c,.bool false] 95)) w.heap.size 99 #[.slice (some ⟨g,0,none⟩) 2 2,.slice none 0 0]):=(Bl.new _ _ _).alloc _
 have HY:Hid (Bl ((w.alloc (.cells #[.slice (some ⟨g,0,none⟩) 2 2,.slice none 0 0] 99)).alloc (.cells #[.string s9401,.int .i64 0,.int .i64 100,.slice A 1 c,.bool false] 95)) (w.heap.size+1) 95 #[.string s9401,.int .i64 0,.int .i64 100,.slice A 1 c,.bool false]):=by
  rw [← hs1]
  exact Bl.new _ _ _
 have HK:=Lib.hid (h.below HB.out)
 clear h
 go_enter Tryz.func124,Tryz.ntmps124
 go_upto_region 1 with (fail)
 generalize (w.alloc (.cells #[.slice (some ⟨g,0,none⟩) 2 2,.slice none 0 0] 99)).alloc (.cells #[.string s9401,.int .i64 0,.int .i64 100,.slice A 1 c,.bool false] 95)=W at *
 try rw [hs1]
 have x0:W.cell? ⟨w.heap.size,0,none⟩=some (.slice (some ⟨g,0,none⟩) 2 2):=HX.out.cell 0
 have x1:W.cell? ⟨w.heap.size,1,none⟩=some (.slice none 0 0):=HX.out.cell 1
 have y0:W.cell? ⟨(w.heap.size+1),0,none⟩=some (.string s9401):=HY.out.cell 0
 have y1:W.cell? ⟨(w.heap.size+1),1,none⟩=some (.int .i64 0):=HY.out.cell 1
 have y2:W.cell? ⟨(w.heap.size+1),2,none⟩=some (.int .i64 100):=HY.out.cell 2
 have y3:W.cell? ⟨(w.heap.size+1),3,none⟩=some (.slice A 1 c):=HY.out.cell 3
 have y4:W.cell? ⟨(w.heap.size+1),4,none⟩=some (.bool false):=HY.out.cell 4
 go_wp2_with fail
 obtain⟨HKB,HKT⟩:=HK.out
 have b0:W.cell? ⟨g,0,none⟩=some (.string s94):=HKB.cell 0
 have b1:W.cell? ⟨g,1,none⟩=some (.int .i64 0):=HKB.cell 1
 have b2:W.cell? ⟨g,2,none⟩=some (.int .i64 100):=HKB.cell 2
 have b3:W.cell? ⟨g,3,none⟩=some (.slice none 0 0):=HKB.cell 3
 have b4:W.cell? ⟨g,4,none⟩=some (.bool false):=HKB.cell 4
 have b5:W.cell? ⟨g,5,none⟩=some (.string s9401):=HKB.cell 5
 have b6:W.cell? ⟨g,6,none⟩=some (.int .i64 0):=HKB.cell 6
 have b7:W.cell? ⟨g,7,none⟩=some (.int .i64 100):=HKB.cell 7
 have b8:W.cell? ⟨g,8,none⟩=some (.slice A 1 c):=HKB.cell 8
 have b9:W.cell? ⟨g,9,none⟩=some (.bool false):=HKB.cell 9
 have HB2:=Lib.hid ((HB.out.alloc HB.out.size (.cells #[.string s94,.int .i64 0,.int .i64 100,.slice none 0 0,.bool false] 95)).alloc (Nat.le_trans HB.out.size (by simp)) (.cells #[.string s9401,.int .i64 0,.int .i64 100,.slice A 1 c,.bool false] 95))
 have kk:=HKB.alloc (.cells #[.string s94,.int .i64 0,.int .i64 100,.slice none 0 0,.bool false] 95)
 have vv:=(HY.out.alloc (.cells #[.string s94,.int .i64 0,.int .i64 100,.slice none 0 0,.bool false] 95)).alloc (.cells #[.string s9401,.int .i64 0,.int .i64 100,.slice A 1 c,.bool false] 95)
 have c0:(W.alloc (.cells #[.string s94,.int .i64 0,.int .i64 100,.slice none 0 0,.bool false] 95)).cell? ⟨g,0,none⟩=some (.string s94):=kk.cell 0
 have c1:(W.alloc (.cells #[.string s94,.int .i64 0,.int .i64 100,.slice none 0 0,.bool false] 95)).cell? ⟨g,1,none⟩=some (.int .i64 0):=kk.cell 1
 have c2:(W.alloc (.cells #[.string s94,.int .i64 0,.int .i64 100,.slice none 0 0,.bool false] 95)).cell? ⟨g,2,none⟩=some (.int .i64 100):=kk.cell 2
 have c3:(W.alloc (.cells #[.string s94,.int .i64 0,.int .i64 100,.slice none 0 0,.bool false] 95)).cell? ⟨g,3,none⟩=some (.slice none 0 0):=kk.cell 3
 have c4:(W.alloc (.cells #[.string s94,.int .i64 0,.int .i64 100,.slice none 0 0,.bool false] 95)).cell? ⟨g,4,none⟩=some (.bool false):=kk.cell 4
 have c5:(W.alloc (.cells #[.string s94,.int .i64 0,.int .i64 100,.slice none 0 0,.bool false] 95)).cell? ⟨g,5,none⟩=some (.string s9401):=kk.cell 5
 have c6:(W.alloc (.cells #[.string s94,.int .i64 0,.int .i64 100,.slice none 0 0,.bool false] 95)).cell? ⟨g,6,none⟩=some (.int .i64 0):=kk.cell 6
 have c7:(W.alloc (.cells #[.string s94,.int .i64 0,.int .i64 100,.slice none 0 0,.bool false] 95)).cell? ⟨g,7,none⟩=some (.int .i64 100):=kk.cell 7
 have c8:(W.alloc (.cells #[.string s94,.int .i64 0,.int .i64 100,.slice none 0 0,.bool false] 95)).cell? ⟨g,8,none⟩=some (.slice A 1 c):=kk.cell 8
 have c9:(W.alloc (.cells #[.string s94,.int .i64 0,.int .i64 100,.slice none 0 0,.bool false] 95)).cell? ⟨g,9,none⟩=some (.bool false):=kk.cell 9
 have v0:((W.alloc (.cells #[.string s94,.int .i64 0,.int .i64 100,.slice none 0 0,.bool false] 95)).alloc (.cells #[.string s9401,.int .i64 0,.int .i64 100,.slice A 1 c,.bool false] 95)).cell? ⟨(w.heap.size+1),0,none⟩=some (.string s9401):=vv.cell 0
 have v1:((W.alloc (.cells #[.string s94,.int .i64 0,.int .i64 100,.slice none 0 0,.bool false] 95)).alloc (.cells #[.string s9401,.int .i64 0,.int .i64 100,.slice A 1 c,.bool false] 95)).cell? ⟨(w.heap.size+1),1,none⟩=some (.int .i64 0):=vv.cell 1
 have v2:((W.alloc (.cells #[.string s94,.int .i64 0,.int .i64 100,.slice none 0 0,.bool false] 95)).alloc (.cells #[.string s9401,.int .i64 0,.int .i64 100,.slice A 1 c,.bool false] 95)).cell? ⟨(w.heap.size+1),2,none⟩=some (.int .i64 100):=vv.cell 2
 have v3:((W.alloc (.cells #[.string s94,.int .i64 0,.int .i64 100,.slice none 0 0,.bool false] 95)).alloc (.cells #[.string s9401,.int .i64 0,.int .i64 100,.slice A 1 c,.bool false] 95)).cell? ⟨(w.heap.size+1),3,none⟩=some (.slice A 1 c):=vv.cell 3
 have v4:((W.alloc (.cells #[.string s94,.int .i64 0,.int .i64 100,.slice none 0 0,.bool false] 95)).alloc (.cells #[.string s9401,.int .i64 0,.int .i64 100,.slice A 1 c,.bool false] 95)).cell? ⟨(w.heap.size+1),4,none⟩=some (.bool false):=vv.cell 4
 refine wp_loop_rounds 3 ?_
 rw [rounds_succ]
 go_wp2_with fail
 rw [rounds_succ]
 go_wp2_with fail
 rw [rounds_succ]
 go_wp2_with fail
 go_ret
 exact⟨rfl,HB2.out⟩
set_option maxRecDepth 100000 in
set_option maxHeartbeats 8000000 in
theorem nvalid20 (g:Nat) (A:Option Addr) (c:Nat) (w:World) (h:BkR w g A c) (hG:LenG w):Calls Tryz.prog 65 #[.agg #[.slice (some ⟨g,0,none⟩) 2 2,.slice none 0 0]] w fun e w'=>e=.returned (.int .i64 0)∧RowKit.Below w.heap.size w w':=by
 have HB0:=Lib.hid ((Below.refl _ w).alloc (Nat.le_refl _) (.cells #[.slice (some ⟨g,0,none⟩) 2 2,.slice none 0 0] 99))
 have HX0:Hid (Bl (w.alloc (.cells #[.slice (some ⟨g,0,none⟩) 2 2,.slice none 0 0] 99)) w.heap.size 99 #[.slice (some ⟨g,0,none⟩) 2 2,.slice none 0 0]):=Bl.new _ _ _
 have HR0:=Lib.hid (h.1.keep HB0.out)
 have HT0:=Lib.hid (h.2.below HB0.out)
 have HG0:=Lib.hid (hG.below HB0.out)
 clear h hG
 go_enter Tryz.func65,Tryz.ntmps65
 go_upto_region 1 with (fail)
 generalize w.alloc (.cells #[.slice (some ⟨g,0,none⟩) 2 2,.slice none 0 0] 99)=W at *
 have q1:W.cell? ⟨w.heap.size,0,none⟩=some (.slice (some ⟨g,0,none⟩) 2 2):=HX0.out.cell 0
 have q2:W.cell? ⟨w.heap.size,1,none⟩=some (.slice none 0 0):=HX0.out.cell 1
 have q3:W.cell? ⟨g,0,none⟩=some (.string s94):=HR0.out.cell 0
 have q4:W.cell? ⟨g,1,none⟩=some (.int .i64 0):=HR0.out.cell 1
 have q5:W.cell? ⟨g,2,none⟩=some (.int .i64 100):=HR0.out.cell 2
 have q6:W.cell? ⟨g,3,none⟩=some (.slice none 0 0):=HR0.out.cell 3
 have q7:W.cell? ⟨g,4,none⟩=some (.bool false):=HR0.out.cell 4
 have q8:W.cell? ⟨g,5,none⟩=some (.string s9401):=HR0.out.cell 5
 have q9:W.cell? ⟨g,6,none⟩=some (.int .i64 0):=HR0.out.cell 6
 have q10:W.cell? ⟨g,7,none⟩=some (.int .i64 100):=HR0.out.cell 7
 have q11:W.cell? ⟨g,8,none⟩=some (.slice A 1 c):=HR0.out.cell 8
 have q12:W.cell? ⟨g,9,none⟩=some (.bool false):=HR0.out.cell 9
 go_wp2_with fail
 refine wp_loop_rounds 3 ?_
 rw [rounds_succ]
 have hal0:RowKit.Below W.heap.size W (W.alloc (.cells #[.string s94,.int .i64 0,.int .i64 100,.slice none 0 0,.bool false] 95)):=(Below.refl _ _).alloc (Nat.le_refl _) _
 have HB0a:=Lib.hid (HB0.out.trans (hal0.mono HB0.out.size))
 have HX0a:=Lib.hid (HX0.out.keep hal0)
 have HR0a:=Lib.hid (HR0.out.keep hal0)
 have HT0a:=Lib.hid (HT0.out.below hal0)
 have HG0a:=Lib.hid (HG0.out.below hal0)
 have HE0a:Hid (Bl (W.alloc (.cells #[.string s94,.int .i64 0,.int .i64 100,.slice none 0 0,.bool false] 95)) W.heap.size 95 #[.string s94,.int .i64 0,.int .i64 100,.slice none 0 0,.bool false]):=Bl.new _ _ _
 have q13:(W.alloc (.cells #[.string s94,.int .i64 0,.int .i64 100,.slice none 0 0,.bool false] 95)).cell? ⟨w.heap.size,0,none⟩=some (.slice (some ⟨g,0,none⟩) 2 2):=HX0a.out.cell 0
 have q14:(W.alloc (.cells #[.string s94,.int .i64 0,.int .i64 100,.slice none 0 0,.bool false] 95)).cell? ⟨w.heap.size,1,none⟩=some (.slice none 0 0):=HX0a.out.cell 1
 have q15:(W.alloc (.cells #[.string s94,.int .i64 0,.int .i64 100,.slice none 0 0,.bool false] 95)).cell? ⟨g,0,none⟩=some (.string s94):=HR0a.out.cell 0
 have q16:(W.alloc (.cells #[.string s94,.int .i64 0,.int .i64 100,.slice none 0 0,.bool false] 95)).cell? ⟨g,1,none⟩=some (.int .i64 0):=HR0a.out.cell 1
 have q17:(W.alloc (.cells #[.string s94,.int .i64 0,.int .i64 100,.slice none 0 0,.bool false] 95)).cell? ⟨g,2,none⟩=some (.int .i64 100):=HR0a.out.cell 2
 have q18:(W.alloc (.cells #[.string s94,.int .i64 0,.int .i64 100,.slice none 0 0,.bool false] 95)).cell? ⟨g,3,none⟩=some (.slice none 0 0):=HR0a.out.cell 3
 have q19:(W.alloc (.cells #[.string s94,.int .i64 0,.int .i64 100,.slice none 0 0,.bool false] 95)).cell? ⟨g,4,none⟩=some (.bool false):=HR0a.out.cell 4
 have q20:(W.alloc (.cells #[.string s94,.int .i64 0,.int .i64 100,.slice none 0 0,.bool false] 95)).cell? ⟨g,5,none⟩=some (.string s9401):=HR0a.out.cell 5
 have q21:(W.alloc (.cells #[.string s94,.int .i64 0,.int .i64 100,.slice none 0 0,.bool false] 95)).cell? ⟨g,6,none⟩=some (.int .i64 0):=HR0a.out.cell 6
 have q22:(W.alloc (.cells #[.string s94,.int .i64 0,.int .i64 100,.slice none 0 0,.bool false] 95)).cell? ⟨g,7,none⟩=some (.int .i64 100):=HR0a.out.cell 7
 have q23:(W.alloc (.cells #[.string s94,.int .i64 0,.int .i64 100,.slice none 0 0,.bool false] 95)).cell? ⟨g,8,none⟩=some (.slice A 1 c):=HR0a.out.cell 8
 have q24:(W.alloc (.cells #[.string s94,.int .i64 0,.int .i64 100,.slice none 0 0,.bool false] 95)).cell? ⟨g,9,none⟩=some (.bool false):=HR0a.out.cell 9
 have q25:(W.alloc (.cells #[.string s94,.int .i64 0,.int .i64 100,.slice none 0 0,.bool false] 95)).cell? ⟨W.heap.size,0,none⟩=some (.string s94):=HE0a.out.cell 0
 have q26:(W.alloc (.cells #[.string s94,.int .i64 0,.int .i64 100,.slice none 0 0,.bool false] 95)).cell? ⟨W.heap.size,1,none⟩=some (.int .i64 0):=HE0a.out.cell 1
 have q27:(W.alloc (.cells #[.string s94,.int .i64 0,.int .i64 100,.slice none 0 0,.bool false] 95)).cell? ⟨W.heap.size,2,none⟩=some (.int .i64 100):=HE0a.out.cell 2
 have q28:(W.alloc (.cells #[.string s94,.int .i64 0,.int .i64 100,.slice none 0 0,.bool false] 95)).cell? ⟨W.heap.size,3,none⟩=some (.slice none 0 0):=HE0a.out.cell 3
 have q29:(W.alloc (.cells #[.string s94,.int .i64 0,.int .i64 100,.slice none 0 0,.bool false] 95)).cell? ⟨W.heap.size,4,none⟩=some (.bool false):=HE0a.out.cell 4
 go_wp2_with fail
 refine (ventry0 _ HG0a.out).mono ?_
 rintro e w1 ⟨rfl,hb⟩
 have HX1:=Lib.hid (HX0a.out.keep hb)
 have HR1:=Lib.hid (HR0a.out.keep hb)
 have HE1:=Lib.hid (HE0a.out.keep hb)
 have HT1:=Lib.hid (HT0a.out.below hb)
 have HG1:=Lib.hid (HG0a.out.below hb)
 have HB1:=Lib.hid (HB0a.out.trans (hb.mono HB0a.out.size))
 clear q1 q2 q3 q4 q5 q6 q7 q8 q9 q10 q11 q12 q13 q14 q15 q16 q17 q18 q19 q20 q21 q22 q23 q24 q25 q26 q27 q28 q29
 clear hb HX0 HR0 HT0 HG0 HB0 HX0a HR0a HE0a HT0a HG0a HB0a hal0
 have q30:w1.cell? ⟨w.heap.size,0,none⟩=some (.slice (some ⟨g,0,none⟩) 2 2):=HX1.out.cell 0
 have q31:w1.cell? ⟨w.heap.size,1,none⟩=some (.slice none 0 0):=HX1.out.cell 1
 have q32:w1.cell? ⟨g,0,none⟩=some (.string s94):=HR1.out.cell 0
 have q33:w1.cell? ⟨g,1,none⟩=some (.int .i64 0):=HR1.out.cell 1
 have q34:w1.cell? ⟨g,2,none⟩=some (.int .i64 100):=HR1.out.cell 2
 have q35:w1.cell? ⟨g,3,none⟩=some (.slice none 0 0):=HR1.out.cell 3
 have q36:w1.cell? ⟨g,4,none⟩=some (.bool false):=HR1.out.cell 4
 have q37:w1.cell? ⟨g,5,none⟩=some (.string s9401):=HR1.out.cell 5
 have q38:w1.cell? ⟨g,6,none⟩=some (.int .i64 0):=HR1.out.cell 6
 have q39:w1.cell? ⟨g,7,none⟩=some (.int .i64 100):=HR1.out.cell 7
 have q40:w1.cell? ⟨g,8,none⟩=some (.slice A 1 c):=HR1.out.cell 8
 have q41:w1.cell? ⟨g,9,none⟩=some (.bool false):=HR1.out.cell 9
 have q42:w1.cell? ⟨W.heap.size,0,none⟩=some (.string s94):=HE1.out.cell 0
 have q43:w1.cell? ⟨W.heap.size,1,none⟩=some (.int .i64 0):=HE1.out.cell 1
 have q44:w1.cell? ⟨W.heap.size,2,none⟩=some (.int .i64 100):=HE1.out.cell 2
 have q45:w1.cell? ⟨W.heap.size,3,none⟩=some (.slice none 0 0):=HE1.out.cell 3
 have q46:w1.cell? ⟨W.heap.size,4,none⟩=some (.bool false):=HE1.out.cell 4
 go_wp2_with fail
 rw [rounds_succ]
 have hal1:RowKit.Below w1.heap.size w1 (w1.alloc (.cells #[.string s9401,.int .i64 0,.int .i64 100,.slice A 1 c,.bool false] 95)):=(Below.refl _ _).alloc (Nat.le_refl _) _
 have HB1a:=Lib.hid (HB1.out.trans (hal1.mono HB1.out.size))
 have HX1a:=Lib.hid (HX1.out.keep hal1)
 have HR1a:=Lib.hid (HR1.out.keep hal1)
 have HT1a:=Lib.hid (HT1.out.below hal1)
 have HG1a:=Lib.hid (HG1.out.below hal1)
 have HF1a:Hid (Bl (w1.alloc (.cells #[.string s9401,.int .i64 0,.int .i64 100,.slice A 1 c,.bool false] 95)) w1.heap.size 95 #[.string s9401,.int .i64 0,.int .i64 100,.slice A 1 c,.bool false]):=Bl.new _ _ _
 have q47:(w1.alloc (.cells #[.string s9401,.int .i64 0,.int .i64 100,.slice A 1 c,.bool false] 95)).cell? ⟨w.heap.size,0,none⟩=some (.slice (some ⟨g,0,none⟩) 2 2):=HX1a.out.cell 0
 have q48:(w1.alloc (.cells #[.string s9401,.int .i64 0,.int .i64 100,.slice A 1 c,.bool false] 95)).cell? ⟨w.heap.size,1,none⟩=some (.slice none 0 0):=HX1a.out.cell 1
 have q49:(w1.alloc (.cells #[.string s9401,.int .i64 0,.int .i64 100,.slice A 1 c,.bool false] 95)).cell? ⟨g,0,none⟩=some (.string s94):=HR1a.out.cell 0
 have q50:(w1.alloc (.cells #[.string s9401,.int .i64 0,.int .i64 100,.slice A 1 c,.bool false] 95)).cell? ⟨g,1,none⟩=some (.int .i64 0):=HR1a.out.cell 1
 have q51:(w1.alloc (.cells #[.string s9401,.int .i64 0,.int .i64 100,.slice A 1 c,.bool false] 95)).cell? ⟨g,2,none⟩=some (.int .i64 100):=HR1a.out.cell 2
 have q52:(w1.alloc (.cells #[.string s9401,.int .i64 0,.int .i64 100,.slice A 1 c,.bool false] 95)).cell? ⟨g,3,none⟩=some (.slice none 0 0):=HR1a.out.cell 3
 have q53:(w1.alloc (.cells #[.string s9401,.int .i64 0,.int .i64 100,.slice A 1 c,.bool false] 95)).cell? ⟨g,4,none⟩=some (.bool false):=HR1a.out.cell 4
 have q54:(w1.alloc (.cells #[.string s9401,.int .i64 0,.int .i64 100,.slice A 1 c,.bool false] 95)).cell? ⟨g,5,none⟩=some (.string s9401):=HR1a.out.cell 5
 have q55:(w1.alloc (.cells #[.string s9401,.int .i64 0,.int .i64 100,.slice A 1 c,.bool false] 95)).cell? ⟨g,6,none⟩=some (.int .i64 0):=HR1a.out.cell 6
 have q56:(w1.alloc (.cells #[.string s9401,.int .i64 0,.int .i64 100,.slice A 1 c,.bool false] 95)).cell? ⟨g,7,none⟩=some (.int .i64 100):=HR1a.out.cell 7
 have q57:(w1.alloc (.cells #[.string s9401,.int .i64 0,.int .i64 100,.slice A 1 c,.bool false] 95)).cell? ⟨g,8,none⟩=some (.slice A 1 c):=HR1a.out.cell 8
 have q58:(w1.alloc (.cells #[.string s9401,.int .i64 0,.int .i64 100,.slice A 1 c,.bool false] 95)).cell? ⟨g,9,none⟩=some (.bool false):=HR1a.out.cell 9
 have q59:(w1.alloc (.cells #[.string s9401,.int .i64 0,.int .i64 100,.slice A 1 c,.bool false] 95)).cell? ⟨w1.heap.size,0,none⟩=some (.string s9401):=HF1a.out.cell 0
 have q60:(w1.alloc (.cells #[.string s9401,.int .i64 0,.int .i64 100,.slice A 1 c,.bool false] 95)).cell? ⟨w1.heap.size,1,none⟩=some (.int .i64 0):=HF1a.out.cell 1
 have q61:(w1.alloc (.cells #[.string s9401,.int .i64 0,.int .i64 100,.slice A 1 c,.bool false] 95)).cell? ⟨w1.heap.size,2,none⟩=some (.int .i64 100):=HF1a.out.cell 2
 have q62:(w1.alloc (.cells #[.string s9401,.int .i64 0,.int .i64 100,.slice A 1 c,.bool false] 95)).cell? ⟨w1.heap.size,3,none⟩=some (.slice A 1 c):=HF1a.out.cell 3
 have q63:(w1.alloc (.cells #[.string s9401,.int .i64 0,.int .i64 100,.slice A 1 c,.bool false] 95)).cell? ⟨w1.heap.size,4,none⟩=some (.bool false):=HF1a.out.cell 4
 go_wp2_with fail
 refine (ventry1 A c _ HG1a.out HT1a.out).mono ?_
 rintro e w2 ⟨rfl,hb⟩
 have HX2:=Lib.hid (HX1a.out.keep hb)
 have HR2:=Lib.hid (HR1a.out.keep hb)
 have HF2:=Lib.hid (HF1a.out.keep hb)
 have HT2:=Lib.hid (HT1a.out.below hb)
 have HG2:=Lib.hid (HG1a.out.below hb)
 have HB2:=Lib.hid (HB1a.out.trans (hb.mono HB1a.out.size))
 clear q30 q31 q32 q33 q34 q35 q36 q37 q38 q39 q40 q41 q42 q43 q44 q45 q46 q47 q48 q49 q50 q51 q52 q53 q54 q55 q56 q57 q58 q59 q60 q61 q62 q63
 clear hb HX1 HR1 HT1 HG1 HB1 HX1a HR1a HF1a HT1a HG1a HB1a hal1
 have q64:w2.cell? ⟨w.heap.size,0,none⟩=some (.slice (some ⟨g,0,none⟩) 2 2):=HX2.out.cell 0
 have q65:w2.cell? ⟨w.heap.size,1,none⟩=some (.slice none 0 0):=HX2.out.cell 1
 have q66:w2.cell? ⟨g,0,none⟩=some (.string s94):=HR2.out.cell 0
 have q67:w2.cell? ⟨g,1,none⟩=some (.int .i64 0):=HR2.out.cell 1
 have q68:w2.cell? ⟨g,2,none⟩=some (.int .i64 100):=HR2.out.cell 2
 have q69:w2.cell? ⟨g,3,none⟩=some (.slice none 0 0):=HR2.out.cell 3
 have q70:w2.cell? ⟨g,4,none⟩=some (.bool false):=HR2.out.cell 4
 have q71:w2.cell? ⟨g,5,none⟩=some (.string s9401):=HR2.out.cell 5
 have q72:w2.cell? ⟨g,6,none⟩=some (.int .i64 0):=HR2.out.cell 6
 have q73:w2.cell? ⟨g,7,none⟩=some (.int .i64 100):=HR2.out.cell 7
 have q74:w2.cell? ⟨g,8,none⟩=some (.slice A 1 c):=HR2.out.cell 8
 have q75:w2.cell? ⟨g,9,none⟩=some (.bool false):=HR2.out.cell 9
 have q76:w2.cell? ⟨w1.heap.size,0,none⟩=some (.string s9401):=HF2.out.cell 0
 have q77:w2.cell? ⟨w1.heap.size,1,none⟩=some (.int .i64 0):=HF2.out.cell 1
 have q78:w2.cell? ⟨w1.heap.size,2,none⟩=some (.int .i64 100):=HF2.out.cell 2
 have q79:w2.cell? ⟨w1.heap.size,3,none⟩=some (.slice A 1 c):=HF2.out.cell 3
 have q80:w2.cell? ⟨w1.heap.size,4,none⟩=some (.bool false):=HF2.out.cell 4
 go_wp2_with fail
 have uw:IntKind.i64.wrap 0=0:=IntWalk.i64_in 0 (by omega)
 have HS2:Hid (∀ wx,RowKit.Below w2.heap.size w2 wx→(wx.cell? ⟨w.heap.size,0,none⟩=some (.slice (some ⟨g,0,none⟩) 2 2)∧wx.cell? ⟨w.heap.size,1,none⟩=some (.slice none 0 0)∧wx.cell? ⟨g,0,none⟩=some (.string s94)∧wx.cell? ⟨g,1,none⟩=some (.int .i64 0)∧wx.cell? ⟨g,2,none⟩=some (.int .i64 100)∧wx.cell? ⟨g,3,none⟩=some (.slice none 0 0)∧wx.cell? ⟨g,4,none⟩=some (.bool false)∧wx.cell? ⟨g,5,none⟩=some (.string s9401)∧wx.cell? ⟨g,6,none⟩=some (.int .i64 0)∧wx.cell? ⟨g,7,none⟩=some (.int .i64 100)∧wx.cell? ⟨g,8,none⟩=some (.slice A 1 c)∧wx.cell? ⟨g,9,none⟩=some (.bool false)∧wx.cell? ⟨w1.heap.size,0,none⟩=some (.string s9401)∧wx.cell? ⟨w1.heap.size,1,none⟩=some (.int .i64 0)∧wx.cell? ⟨w1.heap.size,2,none⟩=some (.int .i64 100)∧wx.cell? ⟨w1.heap.size,3,none⟩=some (.slice A 1 c)∧wx.cell? ⟨w1.heap.size,4,none⟩=some (.bool false)∧RowKit.Below w2.heap.size w2 wx)):=fun wx hb=>⟨(HX2.out.keep hb).cell 0,(HX2.out.keep hb).cell 1,(HR2.out.keep hb).cell 0,(HR2.out.keep hb).cell 1,(HR2.out.keep hb).cell 2,(HR2.out.keep hb).cell 3,(HR2.out.keep hb).cell 4,(HR2.out.keep hb).cell 5,(HR2.out.keep hb).cell 6,(HR2.out.keep hb).cell 7,(HR2.out.keep hb).cell 8,(HR2.out.keep hb).cell 9,(HF2.out.keep hb).cell 0,(HF2.out.keep hb).cell 1,(HF2.out.keep hb).cell 2,(HF2.out.keep hb).cell 3,(HF2.out.keep hb).cell 4,hb⟩
 have hk0:Hid (RowKit.Below w2.heap.size w2 w2.drew):=(Below.refl _ _).drew
 have hk00:Hid (RowKit.Below w2.heap.size w2 w2):=Below.refl _ _
 go_region_held3 (fun wx=>wx.cell? ⟨w.heap.size,0,none⟩=some (.slice (some ⟨g,0,none⟩) 2 2)∧wx.cell? ⟨w.heap.size,1,none⟩=some (.slice none 0 0)∧wx.cell? ⟨g,0,none⟩=some (.string s94)∧wx.cell? ⟨g,1,none⟩=some (.int .i64 0)∧wx.cell? ⟨g,2,none⟩=some (.int .i64 100)∧wx.cell? ⟨g,3,none⟩=some (.slice none 0 0)∧wx.cell? ⟨g,4,none⟩=some (.bool false)∧wx.cell? ⟨g,5,none⟩=some (.string s9401)∧wx.cell? ⟨g,6,none⟩=some (.int .i64 0)∧wx.cell? ⟨g,7,none⟩=some (.int .i64 100)∧wx.cell? ⟨g,8,none⟩=some (.slice A 1 c)∧wx.cell? ⟨g,9,none⟩=some (.bool false)∧wx.cell? ⟨w1.heap.size,0,none⟩=some (.string s9401)∧wx.cell? ⟨w1.heap.size,1,none⟩=some (.int .i64 0)∧wx.cell? ⟨w1.heap.size,2,none⟩=some (.int .i64 100)∧wx.cell? ⟨w1.heap.size,3,none⟩=some (.slice A 1 c)∧wx.cell? ⟨w1.heap.size,4,none⟩=some (.bool false)∧RowKit.Below w2.heap.size w2 wx)
  (first | with_reducible exact HS2.out _ hkz.out | with_reducible exact HS2.out _ hk0.out | with_reducible exact HS2.out _ hk00.out)
  (first
   | (go_at_call 123;with_reducible (refine (vorder20 A c _).mono ?_);rintro e wz ⟨rfl,hbz⟩;have hkz:=Lib.hid (hkz.out.trans (hbz.mono hkz.out.size)))
   | (go_at_call 123;with_reducible (refine (vorder20 A c _).mono ?_);rintro e wz ⟨rfl,hbz⟩;have hkz:=Lib.hid (hk0.out.trans (hbz.mono hk0.out.size))))
 clear q64 q65 q66 q67 q68 q69 q70 q71 q72 q73 q74 q75 q76 q77 q78 q79 q80
 generalize wz=w3 at *
 have HX3:=Lib.hid (HX2.out.keep hkz.out)
 have HR3:=Lib.hid (HR2.out.keep hkz.out)
 have HF3:=Lib.hid (HF2.out.keep hkz.out)
 have HT3:=Lib.hid (HT2.out.below hkz.out)
 have HG3:=Lib.hid (HG2.out.below hkz.out)
 have HB3:=Lib.hid (HB2.out.trans (hkz.out.mono HB2.out.size))
 clear hkz hk0 hk00 HS2 HB2 HX2 HR2 HF2 HT2 HG2
 have q81:w3.cell? ⟨w.heap.size,0,none⟩=some (.slice (some ⟨g,0,none⟩) 2 2):=HX3.out.cell 0
 have q82:w3.cell? ⟨w.heap.size,1,none⟩=some (.slice none 0 0):=HX3.out.cell 1
 have q83:w3.cell? ⟨g,0,none⟩=some (.string s94):=HR3.out.cell 0
 have q84:w3.cell? ⟨g,1,none⟩=some (.int .i64 0):=HR3.out.cell 1
 have q85:w3.cell? ⟨g,2,none⟩=some (.int .i64 100):=HR3.out.cell 2
 have q86:w3.cell? ⟨g,3,none⟩=some (.slice none 0 0):=HR3.out.cell 3
 have q87:w3.cell? ⟨g,4,none⟩=some (.bool false):=HR3.out.cell 4
 have q88:w3.cell? ⟨g,5,none⟩=some (.string s9401):=HR3.out.cell 5
 have q89:w3.cell? ⟨g,6,none⟩=some (.int .i64 0):=HR3.out.cell 6
 have q90:w3.cell? ⟨g,7,none⟩=some (.int .i64 100):=HR3.out.cell 7
 have q91:w3.cell? ⟨g,8,none⟩=some (.slice A 1 c):=HR3.out.cell 8
 have q92:w3.cell? ⟨g,9,none⟩=some (.bool false):=HR3.out.cell 9
 have q93:w3.cell? ⟨w1.heap.size,0,none⟩=some (.string s9401):=HF3.out.cell 0
 have q94:w3.cell? ⟨w1.heap.size,1,none⟩=some (.int .i64 0):=HF3.out.cell 1
 have q95:w3.cell? ⟨w1.heap.size,2,none⟩=some (.int .i64 100):=HF3.out.cell 2
 have q96:w3.cell? ⟨w1.heap.size,3,none⟩=some (.slice A 1 c):=HF3.out.cell 3
 have q97:w3.cell? ⟨w1.heap.size,4,none⟩=some (.bool false):=HF3.out.cell 4
 go_wp2_with fail
 rw [rounds_succ]
 go_wp2_with fail
 refine wp_loop_rounds 3 ?_
 rw [rounds_succ]
 have hal3:RowKit.Below w3.heap.size w3 (w3.alloc (.cells #[.string s94,.int .i64 0,.int .i64 100,.slice none 0 0,.bool false] 95)):=(Below.refl _ _).alloc (Nat.le_refl _) _
 have HB3a:=Lib.hid (HB3.out.trans (hal3.mono HB3.out.size))
 have HX3a:=Lib.hid (HX3.out.keep hal3)
 have HR3a:=Lib.hid (HR3.out.keep hal3)
 have HT3a:=Lib.hid (HT3.out.below hal3)
 have HG3a:=Lib.hid (HG3.out.below hal3)
 have HE3a:Hid (Bl (w3.alloc (.cells #[.string s94,.int .i64 0,.int .i64 100,.slice none 0 0,.bool false] 95)) w3.heap.size 95 #[.string s94,.int .i64 0,.int .i64 100,.slice none 0 0,.bool false]):=Bl.new _ _ _
 have q98:(w3.alloc (.cells #[.string s94,.int .i64 0,.int .i64 100,.slice none 0 0,.bool false] 95)).cell? ⟨w.heap.size,0,none⟩=some (.slice (some ⟨g,0,none⟩) 2 2):=HX3a.out.cell 0
 have q99:(w3.alloc (.cells #[.string s94,.int .i64 0,.int .i64 100,.slice none 0 0,.bool false] 95)).cell? ⟨w.heap.size,1,none⟩=some (.slice none 0 0):=HX3a.out.cell 1
 have q100:(w3.alloc (.cells #[.string s94,.int .i64 0,.int .i64 100,.slice none 0 0,.bool false] 95)).cell? ⟨g,0,none⟩=some (.string s94):=HR3a.out.cell 0
 have q101:(w3.alloc (.cells #[.string s94,.int .i64 0,.int .i64 100,.slice none 0 0,.bool false] 95)).cell? ⟨g,1,none⟩=some (.int .i64 0):=HR3a.out.cell 1
 have q102:(w3.alloc (.cells #[.string s94,.int .i64 0,.int .i64 100,.slice none 0 0,.bool false] 95)).cell? ⟨g,2,none⟩=some (.int .i64 100):=HR3a.out.cell 2
 have q103:(w3.alloc (.cells #[.string s94,.int .i64 0,.int .i64 100,.slice none 0 0,.bool false] 95)).cell? ⟨g,3,none⟩=some (.slice none 0 0):=HR3a.out.cell 3
 have q104:(w3.alloc (.cells #[.string s94,.int .i64 0,.int .i64 100,.slice none 0 0,.bool false] 95)).cell? ⟨g,4,none⟩=some (.bool false):=HR3a.out.cell 4
 have q105:(w3.alloc (.cells #[.string s94,.int .i64 0,.int .i64 100,.slice none 0 0,.bool false] 95)).cell? ⟨g,5,none⟩=some (.string s9401):=HR3a.out.cell 5
 have q106:(w3.alloc (.cells #[.string s94,.int .i64 0,.int .i64 100,.slice none 0 0,.bool false] 95)).cell? ⟨g,6,none⟩=some (.int .i64 0):=HR3a.out.cell 6
 have q107:(w3.alloc (.cells #[.string s94,.int .i64 0,.int .i64 100,.slice none 0 0,.bool false] 95)).cell? ⟨g,7,none⟩=some (.int .i64 100):=HR3a.out.cell 7
 have q108:(w3.alloc (.cells #[.string s94,.int .i64 0,.int .i64 100,.slice none 0 0,.bool false] 95)).cell? ⟨g,8,none⟩=some (.slice A 1 c):=HR3a.out.cell 8
 have q109:(w3.alloc (.cells #[.string s94,.int .i64 0,.int .i64 100,.slice none 0 0,.bool false] 95)).cell? ⟨g,9,none⟩=some (.bool false):=HR3a.out.cell 9
 have q110:(w3.alloc (.cells #[.string s94,.int .i64 0,.int .i64 100,.slice none 0 0,.bool false] 95)).cell? ⟨w3.heap.size,0,none⟩=some (.string s94):=HE3a.out.cell 0
 have q111:(w3.alloc (.cells #[.string s94,.int .i64 0,.int .i64 100,.slice none 0 0,.bool false] 95)).cell? ⟨w3.heap.size,1,none⟩=some (.int .i64 0):=HE3a.out.cell 1
 have q112:(w3.alloc (.cells #[.string s94,.int .i64 0,.int .i64 100,.slice none 0 0,.bool false] 95)).cell? ⟨w3.heap.size,2,none⟩=some (.int .i64 100):=HE3a.out.cell 2
 have q113:(w3.alloc (.cells #[.string s94,.int .i64 0,.int .i64 100,.slice none 0 0,.bool false] 95)).cell? ⟨w3.heap.size,3,none⟩=some (.slice none 0 0):=HE3a.out.cell 3
 have q114:(w3.alloc (.cells #[.string s94,.int .i64 0,.int .i64 100,.slice none 0 0,.bool false] 95)).cell? ⟨w3.heap.size,4,none⟩=some (.bool false):=HE3a.out.cell 4
 go_wp2_with fail
 refine (hasParent0 g A c _ ⟨HR3a.out,HT3a.out⟩).mono ?_
 rintro e w4 ⟨rfl,hb⟩
 have HX4:=Lib.hid (HX3a.out.keep hb)
 have HR4:=Lib.hid (HR3a.out.keep hb)
 have HE4:=Lib.hid (HE3a.out.keep hb)
 have HT4:=Lib.hid (HT3a.out.below hb)
 have HG4:=Lib.hid (HG3a.out.below hb)
 have HB4:=Lib.hid (HB3a.out.trans (hb.mono HB3a.out.size))
 clear q81 q82 q83 q84 q85 q86 q87 q88 q89 q90 q91 q92 q93 q94 q95 q96 q97 q98 q99 q100 q101 q102 q103 q104 q105 q106 q107 q108 q109 q110 q111 q112 q113 q114
 clear hb HX3 HR3 HT3 HG3 HB3 HX3a HR3a HE3a HT3a HG3a HB3a hal3
 have q115:w4.cell? ⟨w.heap.size,0,none⟩=some (.slice (some ⟨g,0,none⟩) 2 2):=HX4.out.cell 0
 have q116:w4.cell? ⟨w.heap.size,1,none⟩=some (.slice none 0 0):=HX4.out.cell 1
 have q117:w4.cell? ⟨g,0,none⟩=some (.string s94):=HR4.out.cell 0
 have q118:w4.cell? ⟨g,1,none⟩=some (.int .i64 0):=HR4.out.cell 1
 have q119:w4.cell? ⟨g,2,none⟩=some (.int .i64 100):=HR4.out.cell 2
 have q120:w4.cell? ⟨g,3,none⟩=some (.slice none 0 0):=HR4.out.cell 3
 have q121:w4.cell? ⟨g,4,none⟩=some (.bool false):=HR4.out.cell 4
 have q122:w4.cell? ⟨g,5,none⟩=some (.string s9401):=HR4.out.cell 5
 have q123:w4.cell? ⟨g,6,none⟩=some (.int .i64 0):=HR4.out.cell 6
 have q124:w4.cell? ⟨g,7,none⟩=some (.int .i64 100):=HR4.out.cell 7
 have q125:w4.cell? ⟨g,8,none⟩=some (.slice A 1 c):=HR4.out.cell 8
 have q126:w4.cell? ⟨g,9,none⟩=some (.bool false):=HR4.out.cell 9
 have q127:w4.cell? ⟨w3.heap.size,0,none⟩=some (.string s94):=HE4.out.cell 0
 have q128:w4.cell? ⟨w3.heap.size,1,none⟩=some (.int .i64 0):=HE4.out.cell 1
 have q129:w4.cell? ⟨w3.heap.size,2,none⟩=some (.int .i64 100):=HE4.out.cell 2
 have q130:w4.cell? ⟨w3.heap.size,3,none⟩=some (.slice none 0 0):=HE4.out.cell 3
 have q131:w4.cell? ⟨w3.heap.size,4,none⟩=some (.bool false):=HE4.out.cell 4
 go_wp2_with fail
 rw [rounds_succ]
 have hal4:RowKit.Below w4.heap.size w4 (w4.alloc (.cells #[.string s9401,.int .i64 0,.int .i64 100,.slice A 1 c,.bool false] 95)):=(Below.refl _ _).alloc (Nat.le_refl _) _
 have HB4a:=Lib.hid (HB4.out.trans (hal4.mono HB4.out.size))
 have HX4a:=Lib.hid (HX4.out.keep hal4)
 have HR4a:=Lib.hid (HR4.out.keep hal4)
 have HT4a:=Lib.hid (HT4.out.below hal4)
 have HG4a:=Lib.hid (HG4.out.below hal4)
 have HE4a:Hid (Bl (w4.alloc (.cells #[.string s9401,.int .i64 0,.int .i64 100,.slice A 1 c,.bool false] 95)) w4.heap.size 95 #[.string s9401,.int .i64 0,.int .i64 100,.slice A 1 c,.bool false]):=Bl.new _ _ _
 have q132:(w4.alloc (.cells #[.string s9401,.int .i64 0,.int .i64 100,.slice A 1 c,.bool false] 95)).cell? ⟨w.heap.size,0,none⟩=some (.slice (some ⟨g,0,none⟩) 2 2):=HX4a.out.cell 0
 have q133:(w4.alloc (.cells #[.string s9401,.int .i64 0,.int .i64 100,.slice A 1 c,.bool false] 95)).cell? ⟨w.heap.size,1,none⟩=some (.slice none 0 0):=HX4a.out.cell 1
 have q134:(w4.alloc (.cells #[.string s9401,.int .i64 0,.int .i64 100,.slice A 1 c,.bool false] 95)).cell? ⟨g,0,none⟩=some (.string s94):=HR4a.out.cell 0
 have q135:(w4.alloc (.cells #[.string s9401,.int .i64 0,.int .i64 100,.slice A 1 c,.bool false] 95)).cell? ⟨g,1,none⟩=some (.int .i64 0):=HR4a.out.cell 1
 have q136:(w4.alloc (.cells #[.string s9401,.int .i64 0,.int .i64 100,.slice A 1 c,.bool false] 95)).cell? ⟨g,2,none⟩=some (.int .i64 100):=HR4a.out.cell 2
 have q137:(w4.alloc (.cells #[.string s9401,.int .i64 0,.int .i64 100,.slice A 1 c,.bool false] 95)).cell? ⟨g,3,none⟩=some (.slice none 0 0):=HR4a.out.cell 3
 have q138:(w4.alloc (.cells #[.string s9401,.int .i64 0,.int .i64 100,.slice A 1 c,.bool false] 95)).cell? ⟨g,4,none⟩=some (.bool false):=HR4a.out.cell 4
 have q139:(w4.alloc (.cells #[.string s9401,.int .i64 0,.int .i64 100,.slice A 1 c,.bool false] 95)).cell? ⟨g,5,none⟩=some (.string s9401):=HR4a.out.cell 5
 have q140:(w4.alloc (.cells #[.string s9401,.int .i64 0,.int .i64 100,.slice A 1 c,.bool false] 95)).cell? ⟨g,6,none⟩=some (.int .i64 0):=HR4a.out.cell 6
 have q141:(w4.alloc (.cells #[.string s9401,.int .i64 0,.int .i64 100,.slice A 1 c,.bool false] 95)).cell? ⟨g,7,none⟩=some (.int .i64 100):=HR4a.out.cell 7
 have q142:(w4.alloc (.cells #[.string s9401,.int .i64 0,.int .i64 100,.slice A 1 c,.bool false] 95)).cell? ⟨g,8,none⟩=some (.slice A 1 c):=HR4a.out.cell 8
 have q143:(w4.alloc (.cells #[.string s9401,.int .i64 0,.int .i64 100,.slice A 1 c,.bool false] 95)).cell? ⟨g,9,none⟩=some (.bool false):=HR4a.out.cell 9
 have q144:(w4.alloc (.cells #[.string s9401,.int .i64 0,.int .i64 100,.slice A 1 c,.bool false] 95)).cell? ⟨w4.heap.size,0,none⟩=some (.string s9401):=HE4a.out.cell 0
 have q145:(w4.alloc (.cells #[.string s9401,.int .i64 0,.int .i64 100,.slice A 1 c,.bool false] 95)).cell? ⟨w4.heap.size,1,none⟩=some (.int .i64 0):=HE4a.out.cell 1
 have q146:(w4.alloc (.cells #[.string s9401,.int .i64 0,.int .i64 100,.slice A 1 c,.bool false] 95)).cell? ⟨w4.heap.size,2,none⟩=some (.int .i64 100):=HE4a.out.cell 2
 have q147:(w4.alloc (.cells #[.string s9401,.int .i64 0,.int .i64 100,.slice A 1 c,.bool false] 95)).cell? ⟨w4.heap.size,3,none⟩=some (.slice A 1 c):=HE4a.out.cell 3
 have q148:(w4.alloc (.cells #[.string s9401,.int .i64 0,.int .i64 100,.slice A 1 c,.bool false] 95)).cell? ⟨w4.heap.size,4,none⟩=some (.bool false):=HE4a.out.cell 4
 go_wp2_with fail
 refine (hasParent1 g A c _ ⟨HR4a.out,HT4a.out⟩).mono ?_
 rintro e w5 ⟨rfl,hb⟩
 have HX5:=Lib.hid (HX4a.out.keep hb)
 have HR5:=Lib.hid (HR4a.out.keep hb)
 have HE5:=Lib.hid (HE4a.out.keep hb)
 have HT5:=Lib.hid (HT4a.out.below hb)
 have HG5:=Lib.hid (HG4a.out.below hb)
 have HB5:=Lib.hid (HB4a.out.trans (hb.mono HB4a.out.size))
 clear q115 q116 q117 q118 q119 q120 q121 q122 q123 q124 q125 q126 q127 q128 q129 q130 q131 q132 q133 q134 q135 q136 q137 q138 q139 q140 q141 q142 q143 q144 q145 q146 q147 q148
 clear hb HX4 HR4 HT4 HG4 HB4 HX4a HR4a HE4a HT4a HG4a HB4a hal4
 have q149:w5.cell? ⟨w.heap.size,0,none⟩=some (.slice (some ⟨g,0,none⟩) 2 2):=HX5.out.cell 0
 have q150:w5.cell? ⟨w.heap.size,1,none⟩=some (.slice none 0 0):=HX5.out.cell 1
 have q151:w5.cell? ⟨g,0,none⟩=some (.string s94):=HR5.out.cell 0
 have q152:w5.cell? ⟨g,1,none⟩=some (.int .i64 0):=HR5.out.cell 1
 have q153:w5.cell? ⟨g,2,none⟩=some (.int .i64 100):=HR5.out.cell 2
 have q154:w5.cell? ⟨g,3,none⟩=some (.slice none 0 0):=HR5.out.cell 3
 have q155:w5.cell? ⟨g,4,none⟩=some (.bool false):=HR5.out.cell 4
 have q156:w5.cell? ⟨g,5,none⟩=some (.string s9401):=HR5.out.cell 5
 have q157:w5.cell? ⟨g,6,none⟩=some (.int .i64 0):=HR5.out.cell 6
 have q158:w5.cell? ⟨g,7,none⟩=some (.int .i64 100):=HR5.out.cell 7
 have q159:w5.cell? ⟨g,8,none⟩=some (.slice A 1 c):=HR5.out.cell 8
 have q160:w5.cell? ⟨g,9,none⟩=some (.bool false):=HR5.out.cell 9
 have q161:w5.cell? ⟨w4.heap.size,0,none⟩=some (.string s9401):=HE5.out.cell 0
 have q162:w5.cell? ⟨w4.heap.size,1,none⟩=some (.int .i64 0):=HE5.out.cell 1
 have q163:w5.cell? ⟨w4.heap.size,2,none⟩=some (.int .i64 100):=HE5.out.cell 2
 have q164:w5.cell? ⟨w4.heap.size,3,none⟩=some (.slice A 1 c):=HE5.out.cell 3
 have q165:w5.cell? ⟨w4.heap.size,4,none⟩=some (.bool false):=HE5.out.cell 4
 go_wp2_with fail
 rw [rounds_succ]
 go_wp2_with fail
 refine wp_loop_rounds 1 ?_
 rw [rounds_succ]
 go_wp2_with fail
 go_ret
 exact⟨rfl,HB5.out⟩
structure En where
 code:ByteArray
 fr:Int
 til:Int
 A:Option Addr
 n:Nat
 c:Nat
 oth:Bool
instance : Inhabited En:=⟨⟨⟨#[]⟩,0,0,none,0,0,false⟩⟩
def encE (e:En):List Value:=[.string e.code,.int .i64 e.fr,.int .i64 e.til,.slice e.A e.n e.c,.bool e.oth]
theorem encE_len (e:En):(encE e).length=5:=rfl
abbrev en0:En:=⟨s94,0,100,none,0,0,false⟩
abbrev en1 (A:Option Addr) (c:Nat):En:=⟨s9401,0,100,A,1,c,false⟩
theorem infoE20:(Tryz.prog.info? 95).map (fun i=>(i.zero,i.size,i.bytes))=some (some (.agg #[.string ⟨#[]⟩,.int .i64 0,.int .i64 0,.slice none 0 0,.bool false]),5,64):=by kernel_rfl
theorem infoSl20:(Tryz.prog.info? 60).map (fun i=>(i.zero,i.size,i.bytes))=some (some (.slice none 0 0),1,24):=by kernel_rfl
theorem cloneS20 (A:Option Addr) (n c:Nat) (l:List ByteArray) (w:World) (h:Sr w A n l) (h0:0<n) (hn:n≤1000):Calls Tryz.prog 52 #[.slice A n c] w fun e w'=>∃ D d,e=.returned (.slice D n d)∧w'.ownsRow w.heap.size 9 1 (.slice D n d) n (l.map Value.string)∧RowKit.Below w.heap.size w w':=by
 obtain⟨b,o,hA,hb,hc⟩:=h.cells h0
 have hl:=h.len
 subst hA
 refine (Tryz.slices_Clone_string b o n c l w (by omega) (by omega) (fun j hj=>?_)).mono ?_
 ·refine hc j _ ?_
  rw [List.getD_eq_getElem?_getD,List.getElem?_eq_getElem hj]
  rfl
 ·rintro e w' ⟨v,rfl,ho,_,hb⟩
  obtain⟨D,d,rfl⟩:=own_slice ho
  rw [List.take_of_length_le (by omega)] at ho
  exact⟨D,d,rfl,ho,hb⟩
def TermN (N:Nat) (w:World) (A:Option Addr) (c:Nat):Prop:=∃ D d,w.ownsRow N 60 1 (.slice A 1 c) 1 [.slice D 1 d]∧w.ownsRow N 9 1 (.slice D 1 d) 1 [.string sChair]
theorem TermN.of_block {N:Nat} {w w':World} {A:Option Addr} {c:Nat} (h:TermN N w A c) (hk:∀ b,N≤b→b<w.heap.size→w'.heap[b]? = w.heap[b]?):TermN N w' A c:=by
 obtain⟨D,d,h1,h2⟩:=h
 exact⟨D,d,own_of_block h1 fun b hb=>hk b (own_base h1 b hb) (own_lt h1 b hb),own_of_block h2 fun b hb=>hk b (own_base h2 b hb) (own_lt h2 b hb)⟩
theorem TermN.below {N:Nat} {w w':World} {A:Option Addr} {c:Nat} (h:TermN N w A c) (hb:RowKit.Below w.heap.size w w'):TermN N w' A c:=h.of_block fun b _ hl=>hb.block b hl
theorem TermN.mono {N M:Nat} {w:World} {A:Option Addr} {c:Nat} (h:TermN N w A c) (hn:M≤N):TermN M w A c:=by
 obtain⟨D,d,h1,h2⟩:=h
 exact⟨D,d,own_mono h1 hn,own_mono h2 hn⟩
theorem TermN.reads {N:Nat} {w:World} {A:Option Addr} {c:Nat} (h:TermN N w A c):TermR w A:=by
 obtain⟨D,d,h1,h2⟩:=h
 have hr:Recs (fun v:Value=>[v]) 1 w A 1 [.slice D 1 d]:=Recs.of_own (fun _=>rfl) h1 rfl
 obtain⟨b,o,hA,hb,hc⟩:=hr.at_ (i:=0) (by decide)
 have:=hc 0 (by decide)
 exact⟨b,o,D,d,hA,hb,by simpa using this,Sr.own h2 (by decide) (fun s hs=>by simp at hs;subst hs;decide)⟩
set_option maxRecDepth 100000 in
theorem cloneW0 (w:World):Calls Tryz.prog 223 #[.slice none 0 0] w fun e w'=>e=.returned (.slice none 0 0)∧w=w':=by
 go_enter Tryz.func223,Tryz.ntmps223
 go_wp2_with fail
 refine wp_loop_rounds 1 ?_
 rw [rounds_succ]
 go_wp2_with fail
 go_ret
 exact⟨rfl,rfl⟩
def TeRes (w:World) (e:Ending) (w':World):Prop:=∃ A c,e=.returned (.slice A 1 c)∧TermN w.heap.size w' A c∧RowKit.Below w.heap.size w w'
set_option maxRecDepth 100000 in
set_option maxHeartbeats 4000000 in
theorem cloneW1 (A:Option Addr) (c:Nat) (w:World) (h:TermR w A):Calls Tryz.prog 223 #[.slice A 1 c] w (TeRes w):=by
 obtain⟨b,o,A',c',rfl,hlt,h0,hS⟩:=h
 have HC:=Lib.hid (cloneS20 A' 1 c' [sChair] w hS (by decide) (by decide))
 clear hS
 go_enter Tryz.func223,Tryz.ntmps223
 go_wp2_with fail
 refine wp_loop_rounds 2 ?_
 rw [rounds_succ]
 go_wp2_with fail
 refine HC.out.mono ?_
 rintro e w1 ⟨D,d,rfl,hs,hb⟩
 have HS:=Lib.hid hs
 have HB:=Lib.hid hb
 clear hs hb h0 HC
 have HOA1:Hid ((w1.alloc (.cells #[.slice D 1 d] 60)).ownsRow w.heap.size 60 1 (.slice none 0 0) 0 []):=⟨by simp,.inl ⟨rfl,rfl⟩⟩
 have HRD1:Hid (Rd (w1.alloc (.cells #[.slice D 1 d] 60)) 1 (some ⟨w1.heap.size,0,none⟩) 1 [.slice D 1 d]):=rd_bl (xs:=[.slice D 1 d]) (Bl.new _ _ _) rfl
 have HON1:Hid (∀ u∈([.slice D 1 d]:List Value),u.oneCell'=true):=fun u hu=>by
  simp only [List.mem_cons,List.not_mem_nil,or_false] at hu
  subst hu;rfl
 have HM1:Hid (0+1≤maxLen∧(0+1)*24≤140737488355328):=⟨by unfold maxLen;omega,by omega⟩
 have HBA1:=Lib.hid (HB.out.alloc HB.out.size (.cells #[.slice D 1 d] 60))
 go_wp2_with (at_builtin;go_loud (refine wpList_append_rd _ rfl (.tmp 12) (.tmp 15) 93 rfl w.heap.size 60 _ 1 24 Tryz.underlying93 infoSl20 rfl (by decide) (.slice none 0 0) 0 [] rfl HOA1.out (some ⟨w1.heap.size,0,none⟩) 1 _ [.slice D 1 d] rfl HRD1.out HON1.out HM1.out.1 HM1.out.2 HBA1.out.size ?_;intro v1a v1 ho1 hg1 hv1;obtain⟨R1,d1,rfl⟩:=own_slice ho1))
 have HR:Hid (TermN w.heap.size v1 R1 d1):=⟨D,d,ho1,own_below HS.out (((Below.refl _ w1).alloc (Nat.le_refl _) _).grown hg1 (by simp) (fun g e=>by cases e))⟩
 have HBZ:=Lib.hid (HBA1.out.grown hg1 HBA1.out.size (fun g e=>by cases e))
 clear hg1 ho1 hv1 HBA1 HM1 HON1 HRD1 HOA1 HB HS
 rw [rounds_succ]
 go_wp2_with fail
 go_ret
 exact⟨R1,d1,rfl,HR.out,HBZ.out⟩
theorem setE_bl {w:World} {g:Nat} {T:TypeId} {z0 z1 z2 z3 z4:Value} (h:Bl w g T #[z0,z1,z2,z3,z4]) (v:Value):Bl (w.setCell ⟨g,3,none⟩ v) g T #[z0,z1,z2,v,z4]:=by
 have:=h.put 3 v
 simpa using this
theorem own_set20 {w:World} {base:Nat} {e:TypeId} {size n:Nat} {v:Value} {xs:List Value} (h:w.ownsRow base e size v n xs) {g:Nat} (hg:∀ b,v.ownBlock=some b→b≠g) (i:Nat) (z:Value):(w.setCell ⟨g,i,none⟩ z).ownsRow base e size v n xs :=
 own_of_block h fun b hb=>Below.heap_setCell w ⟨g,i,none⟩ z b (hg b hb)
def AtRes (w:World) (e:Ending) (w':World):Prop:=∃ R d A c,e=.returned (.slice R 2 d)∧Recs encE 5 w' R 2 [en0,en1 A c]∧TermN w.heap.size w' A c∧RowKit.Below w.heap.size w w'
set_option maxRecDepth 100000 in
set_option maxHeartbeats 8000000 in
theorem at20 (g:Nat) (A:Option Addr) (c:Nat) (w:World) (h:BkR w g A c):Calls Tryz.prog 181 #[.agg #[.slice (some ⟨g,0,none⟩) 2 2,.slice none 0 0],.int .i64 5] w (AtRes w):=by
 have hK:=Lib.hid h
 have HB0:Hid (RowKit.Below w.heap.size w (w.alloc (.cells #[.slice (some ⟨g,0,none⟩) 2 2,.slice none 0 0] 99))):=(Below.refl _ _).alloc (Nat.le_refl _) _
 have HX0:Hid (Bl (w.alloc (.cells #[.slice (some ⟨g,0,none⟩) 2 2,.slice none 0 0] 99)) w.heap.size 99 #[.slice (some ⟨g,0,none⟩) 2 2,.slice none 0 0]):=Bl.new _ _ _
 clear h
 go_enter Tryz.func181,Tryz.ntmps181
 go_upto_region 1 with (fail)
 generalize w.alloc (.cells #[.slice (some ⟨g,0,none⟩) 2 2,.slice none 0 0] 99)=W0 at *
 have q1:W0.cell? ⟨w.heap.size,0,none⟩=some (.slice (some ⟨g,0,none⟩) 2 2):=HX0.out.cell 0
 go_wp2_with fail
 clear q1 HX0
 refine wp_loop_rounds 3 ?_
 rw [rounds_succ]
 have HR0:=Lib.hid (hK.out.1.keep HB0.out)
 have q2:W0.cell? ⟨g,0,none⟩=some (.string s94):=HR0.out.cell 0
 have q3:W0.cell? ⟨g,1,none⟩=some (.int .i64 0):=HR0.out.cell 1
 have q4:W0.cell? ⟨g,2,none⟩=some (.int .i64 100):=HR0.out.cell 2
 have q5:W0.cell? ⟨g,3,none⟩=some (.slice none 0 0):=HR0.out.cell 3
 have q6:W0.cell? ⟨g,4,none⟩=some (.bool false):=HR0.out.cell 4
 have HBv0:=Lib.hid (HB0.out.alloc HB0.out.size (.cells #[.string s94,.int .i64 0,.int .i64 100,.slice none 0 0,.bool false] 95))
 have HE0:Hid (Bl (W0.alloc (.cells #[.string s94,.int .i64 0,.int .i64 100,.slice none 0 0,.bool false] 95)) W0.heap.size 95 #[.string s94,.int .i64 0,.int .i64 100,.slice none 0 0,.bool false]):=Bl.new _ _ _
 have HgN0:Hid (w.heap.size≤W0.heap.size):=HB0.out.size
 go_upto_region 5 with (fail)
 clear q2 q3 q4 q5 q6 HR0 HB0
 generalize W0.alloc (.cells #[.string s94,.int .i64 0,.int .i64 100,.slice none 0 0,.bool false] 95)=V0 at *
 generalize W0.heap.size=g0 at *
 have q7:V0.cell? ⟨g0,1,none⟩=some (.int .i64 0):=HE0.out.cell 1
 have q8:V0.cell? ⟨g0,2,none⟩=some (.int .i64 100):=HE0.out.cell 2
 have q9:V0.cell? ⟨g0,3,none⟩=some (.slice none 0 0):=HE0.out.cell 3
 have q10:V0.frozen? ⟨g0,3,none⟩=false:=HE0.out.free 3
 go_wp2_with fail
 refine (cloneW0 _).mono ?_
 rintro e w1 ⟨rfl,rfl⟩
 have HBz0:Hid (RowKit.Below w.heap.size w (V0.setCell ⟨g0,3,none⟩ (.slice none 0 0))):=HBv0.out.setCell (p:=⟨g0,3,none⟩) HgN0.out (.slice none 0 0)
 have HEs0:=Lib.hid (setE_bl HE0.out (.slice none 0 0))
 have q11:(V0.setCell ⟨g0,3,none⟩ (.slice none 0 0)).cell? ⟨g0,0,none⟩=some (.string s94):=HEs0.out.cell 0
 have q12:(V0.setCell ⟨g0,3,none⟩ (.slice none 0 0)).cell? ⟨g0,1,none⟩=some (.int .i64 0):=HEs0.out.cell 1
 have q13:(V0.setCell ⟨g0,3,none⟩ (.slice none 0 0)).cell? ⟨g0,2,none⟩=some (.int .i64 100):=HEs0.out.cell 2
 have q14:(V0.setCell ⟨g0,3,none⟩ (.slice none 0 0)).cell? ⟨g0,3,none⟩=some (.slice none 0 0):=HEs0.out.cell 3
 have q15:(V0.setCell ⟨g0,3,none⟩ (.slice none 0 0)).cell? ⟨g0,4,none⟩=some (.bool false):=HEs0.out.cell 4
 have HOA1:Hid (((V0.setCell ⟨g0,3,none⟩ (.slice none 0 0)).alloc (.cells #[.string s94,.int .i64 0,.int .i64 100,.slice none 0 0,.bool false] 95)).ownsRow w.heap.size 95 5 (.slice none 0 0) 0 []):=⟨by simp,.inl ⟨rfl,rfl⟩⟩
 have HRD1:Hid (Rd ((V0.setCell ⟨g0,3,none⟩ (.slice none 0 0)).alloc (.cells #[.string s94,.int .i64 0,.int .i64 100,.slice none 0 0,.bool false] 95)) 5 (some ⟨V0.heap.size,0,none⟩) 1 [.string s94,.int .i64 0,.int .i64 100,.slice none 0 0,.bool false]):=by have h:=rd_bl (size:=5) (n:=1) (xs:=[.string s94,.int .i64 0,.int .i64 100,.slice none 0 0,.bool false]) (Bl.new (V0.setCell ⟨g0,3,none⟩ (.slice none 0 0)) 95 #[.string s94,.int .i64 0,.int .i64 100,.slice none 0 0,.bool false]) rfl;rwa [show (V0.setCell ⟨g0,3,none⟩ (.slice none 0 0)).heap.size=V0.heap.size by simp [World.setCell]] at h
 have HON1:Hid (∀ u∈([.string s94,.int .i64 0,.int .i64 100,.slice none 0 0,.bool false]:List Value),u.oneCell'=true):=fun u hu=>by
  simp only [List.mem_cons,List.not_mem_nil,or_false] at hu
  rcases hu with rfl | rfl | rfl | rfl | rfl <;> rfl
 have HM1:Hid (0+1≤maxLen∧(0+1)*64≤140737488355328):=⟨by unfold maxLen;omega,by omega⟩
 have HBA1:=Lib.hid (HBz0.out.alloc HBz0.out.size (.cells #[.string s94,.int .i64 0,.int .i64 100,.slice none 0 0,.bool false] 95))
 go_wp2_with (at_builtin;go_loud (refine wpList_append_rd _ rfl (.tmp 29) (.tmp 31) 96 rfl w.heap.size 95 _ 5 64 Tryz.underlying96 infoE20 rfl (by decide) (.slice none 0 0) 0 [] rfl HOA1.out (some ⟨V0.heap.size,0,none⟩) 1 _ [.string s94,.int .i64 0,.int .i64 100,.slice none 0 0,.bool false] rfl HRD1.out HON1.out HM1.out.1 HM1.out.2 HBA1.out.size ?_;intro v1a v1 ho1 hg1 hv1;obtain⟨R1,d1,rfl⟩:=own_slice ho1))
 clear q7 q8 q9 q10 q11 q12 q13 q14 q15
 have HO:Hid (v1.ownsRow w.heap.size 95 5 (.slice R1 1 d1) 1 (flat encE [en0])):=ho1
 have HB1:Hid (RowKit.Below w.heap.size w v1):=HBA1.out.grown hg1 HBA1.out.size (fun g e=>by cases e)
 clear ho1 hg1 hv1 HBA1 HM1 HON1 HRD1 HOA1 HBz0 HEs0 HE0 HBv0 HgN0
 rw [rounds_succ]
 have HR1:=Lib.hid (hK.out.1.keep HB1.out)
 have q16:v1.cell? ⟨g,5,none⟩=some (.string s9401):=HR1.out.cell 5
 have q17:v1.cell? ⟨g,6,none⟩=some (.int .i64 0):=HR1.out.cell 6
 have q18:v1.cell? ⟨g,7,none⟩=some (.int .i64 100):=HR1.out.cell 7
 have q19:v1.cell? ⟨g,8,none⟩=some (.slice A 1 c):=HR1.out.cell 8
 have q20:v1.cell? ⟨g,9,none⟩=some (.bool false):=HR1.out.cell 9
 have HBv1:=Lib.hid (HB1.out.alloc HB1.out.size (.cells #[.string s9401,.int .i64 0,.int .i64 100,.slice A 1 c,.bool false] 95))
 have HE1:Hid (Bl (v1.alloc (.cells #[.string s9401,.int .i64 0,.int .i64 100,.slice A 1 c,.bool false] 95)) v1.heap.size 95 #[.string s9401,.int .i64 0,.int .i64 100,.slice A 1 c,.bool false]):=Bl.new _ _ _
 have HgN1:Hid (w.heap.size≤v1.heap.size):=HB1.out.size
 have HOr:=Lib.hid (own_alloc HO.out (.cells #[.string s9401,.int .i64 0,.int .i64 100,.slice A 1 c,.bool false] 95))
 have HgO:Hid (∀ b,(Value.slice R1 1 d1).ownBlock=some b→b≠v1.heap.size):=fun b hb e=>by have:=own_lt HO.out b hb;omega
 clear HO
 go_upto_region 5 with (fail)
 clear q16 q17 q18 q19 q20 HR1 HB1
 generalize v1.alloc (.cells #[.string s9401,.int .i64 0,.int .i64 100,.slice A 1 c,.bool false] 95)=V1 at *
 generalize v1.heap.size=g1 at *
 have q21:V1.cell? ⟨g1,1,none⟩=some (.int .i64 0):=HE1.out.cell 1
 have q22:V1.cell? ⟨g1,2,none⟩=some (.int .i64 100):=HE1.out.cell 2
 have q23:V1.cell? ⟨g1,3,none⟩=some (.slice A 1 c):=HE1.out.cell 3
 go_wp2_with fail
 have HlV:Hid (g1<V1.heap.size):=HE1.out.lt
 have HrV:Hid (∀ b,(Value.slice R1 1 d1).ownBlock=some b→b<V1.heap.size):=own_lt HOr.out
 refine (cloneW1 A c V1 (hK.out.2.below HBv1.out)).mono ?_
 rintro e U ⟨A',c',rfl,hT,hb⟩
 have HT:=Lib.hid hT
 have HBu:=Lib.hid (HBv1.out.trans (hb.mono HBv1.out.size))
 have HEu:=Lib.hid (HE1.out.keep hb)
 have HOu:=Lib.hid (own_below HOr.out hb)
 have HVU:=Lib.hid hb.size
 have HNV:=Lib.hid HBv1.out.size
 clear q21 q22 q23 hT hb HOr HE1 HBv1
 have q24:U.cell? ⟨g1,3,none⟩=some (.slice A 1 c):=HEu.out.cell 3
 have q25:U.frozen? ⟨g1,3,none⟩=false:=HEu.out.free 3
 have HBz1:Hid (RowKit.Below w.heap.size w (U.setCell ⟨g1,3,none⟩ (.slice A' 1 c'))):=HBu.out.setCell (p:=⟨g1,3,none⟩) HgN1.out (.slice A' 1 c')
 have HEs1:=Lib.hid (setE_bl HEu.out (.slice A' 1 c'))
 have HOs:=Lib.hid (own_set20 HOu.out (g:=g1) HgO.out 3 (.slice A' 1 c'))
 have q26:(U.setCell ⟨g1,3,none⟩ (.slice A' 1 c')).cell? ⟨g1,0,none⟩=some (.string s9401):=HEs1.out.cell 0
 have q27:(U.setCell ⟨g1,3,none⟩ (.slice A' 1 c')).cell? ⟨g1,1,none⟩=some (.int .i64 0):=HEs1.out.cell 1
 have q28:(U.setCell ⟨g1,3,none⟩ (.slice A' 1 c')).cell? ⟨g1,2,none⟩=some (.int .i64 100):=HEs1.out.cell 2
 have q29:(U.setCell ⟨g1,3,none⟩ (.slice A' 1 c')).cell? ⟨g1,3,none⟩=some (.slice A' 1 c'):=HEs1.out.cell 3
 have q30:(U.setCell ⟨g1,3,none⟩ (.slice A' 1 c')).cell? ⟨g1,4,none⟩=some (.bool false):=HEs1.out.cell 4
 have HOA2:Hid (((U.setCell ⟨g1,3,none⟩ (.slice A' 1 c')).alloc (.cells #[.string s9401,.int .i64 0,.int .i64 100,.slice A' 1 c',.bool false] 95)).ownsRow w.heap.size 95 5 (.slice R1 1 d1) 1 (flat encE [en0])):=own_alloc HOs.out _
 have HRD2:Hid (Rd ((U.setCell ⟨g1,3,none⟩ (.slice A' 1 c')).alloc (.cells #[.string s9401,.int .i64 0,.int .i64 100,.slice A' 1 c',.bool false] 95)) 5 (some ⟨U.heap.size,0,none⟩) 1 [.string s9401,.int .i64 0,.int .i64 100,.slice A' 1 c',.bool false]):=by have h:=rd_bl (size:=5) (n:=1) (xs:=[.string s9401,.int .i64 0,.int .i64 100,.slice A' 1 c',.bool false]) (Bl.new (U.setCell ⟨g1,3,none⟩ (.slice A' 1 c')) 95 #[.string s9401,.int .i64 0,.int .i64 100,.slice A' 1 c',.bool false]) rfl;rwa [show (U.setCell ⟨g1,3,none⟩ (.slice A' 1 c')).heap.size=U.heap.size by simp [World.setCell]] at h
 have HON2:Hid (∀ u∈([.string s9401,.int .i64 0,.int .i64 100,.slice A' 1 c',.bool false]:List Value),u.oneCell'=true):=fun u hu=>by
  simp only [List.mem_cons,List.not_mem_nil,or_false] at hu
  rcases hu with rfl | rfl | rfl | rfl | rfl <;> rfl
 have HM2:Hid (1+1≤maxLen∧(1+1)*64≤140737488355328):=⟨by unfold maxLen;omega,by omega⟩
 have HBA2:=Lib.hid (HBz1.out.alloc HBz1.out.size (.cells #[.string s9401,.int .i64 0,.int .i64 100,.slice A' 1 c',.bool false] 95))
 go_wp2_with (at_builtin;go_loud (refine wpList_append_rd _ rfl (.tmp 29) (.tmp 31) 96 rfl w.heap.size 95 _ 5 64 Tryz.underlying96 infoE20 rfl (by decide) (.slice R1 1 d1) 1 (flat encE [en0]) rfl HOA2.out (some ⟨U.heap.size,0,none⟩) 1 _ [.string s9401,.int .i64 0,.int .i64 100,.slice A' 1 c',.bool false] rfl HRD2.out HON2.out HM2.out.1 HM2.out.2 HBA2.out.size ?_;intro v2a v2 ho2 hg2 hv2;obtain⟨R2,d2,rfl⟩:=own_slice ho2))
 clear q24 q25 q26 q27 q28 q29 q30
 have HO2:Hid (v2.ownsRow w.heap.size 95 5 (.slice R2 2 d2) 2 (flat encE [en0,en1 A' c'])):=ho2
 have HBe:=Lib.hid (HBA2.out.grown hg2 HBA2.out.size (fun g e=>own_base HOs.out g e))
 have HTe:Hid (TermN w.heap.size v2 A' c'):=(HT.out.of_block fun b hb hl=>(hg2.block b (by simp [World.setCell];omega) (fun e=>by have:=HrV.out b e.symm;omega)).trans ((Below.heap_alloc _ _ b (by simp [World.setCell];exact hl)).trans (Below.heap_setCell U ⟨g1,3,none⟩ _ b (fun e=>by have:=HlV.out;simp at e;omega)))).mono HNV.out
 clear ho2 hg2 hv2 HBA2 HM2 HON2 HRD2 HOA2 HBz1 HEs1 HOs HT HrV HlV
 rw [rounds_succ]
 go_wp2_with fail
 go_ret
 exact⟨R2,d2,A',c',rfl,Recs.of_own encE_len HO2.out rfl,HTe.out,HBe.out⟩
end Go.Proofs.YtbokkeooahodaaaGreatDoor

/-
  A part of the proof of TopQuotaDayCardSaid: lemmas and contracts of functions that the law calls. No statement of the seat is proved here. Conditions: as each says.
-/
import Derived.Test.YtbokkeooahodaaaGreatDoorQAR
namespace Go.Proofs.YtbokkeooahodaaaGreatDoor
open Go.RowKit
set_option linter.unusedVariables false
def BeRes (w:World) (e:Ending) (w':World):Prop:=∃ R d A c,e=.returned (.slice R 1 d)∧w'.ownsRow w.heap.size 95 5 (.slice R 1 d) 1 (flat encE [en1 A c])∧TermN w.heap.size w' A c∧RowKit.Below w.heap.size w w'
set_option maxRecDepth 100000 in
set_option maxHeartbeats 8000000 in
theorem below1 (g:Nat) (A:Option Addr) (c:Nat) (w:World) (h:BkR w g A c):Calls Tryz.prog 126 #[.agg #[.slice (some ⟨g,0,none⟩) 2 2,.slice none 0 0],.int .i64 5,.string ⟨#[]⟩] w (BeRes w):=by
 have e1:((⟨#[]⟩:ByteArray).toList == (⟨#[]⟩:ByteArray).toList)=true:=by decide +kernel
 have e2:((⟨#[]⟩:ByteArray).toList != (⟨#[]⟩:ByteArray).toList)=false:=by decide +kernel
 have e3:(s9401.extract 0 2).toList = [57,52]:=by decide +kernel
 have e4:(([57,52]:List UInt8) == s9401.toList)=false:=by decide +kernel
 have HA:Hid (∀ wx,RowKit.Below w.heap.size w wx→Calls Tryz.prog 181 #[.agg #[.slice (some ⟨g,0,none⟩) 2 2,.slice none 0 0],.int .i64 5] wx (AtRes wx)):=fun wx hb=>at20 g A c wx (h.below hb)
 clear h
 have HB0:Hid (RowKit.Below w.heap.size w (w.alloc (.cells #[.slice (some ⟨g,0,none⟩) 2 2,.slice none 0 0] 99))):=(Below.refl _ _).alloc (Nat.le_refl _) _
 have HX0:Hid (Bl (w.alloc (.cells #[.slice (some ⟨g,0,none⟩) 2 2,.slice none 0 0] 99)) w.heap.size 99 #[.slice (some ⟨g,0,none⟩) 2 2,.slice none 0 0]):=Bl.new _ _ _
 go_enter Tryz.func126,Tryz.ntmps126
 go_upto_region 1 with (fail)
 generalize w.alloc (.cells #[.slice (some ⟨g,0,none⟩) 2 2,.slice none 0 0] 99)=W0 at *
 have q1:W0.cell? ⟨w.heap.size,0,none⟩=some (.slice (some ⟨g,0,none⟩) 2 2):=HX0.out.cell 0
 have q2:W0.cell? ⟨w.heap.size,1,none⟩=some (.slice none 0 0):=HX0.out.cell 1
 go_wp2_with fail
 refine (HA.out _ HB0.out).mono ?_
 rintro e w1 ⟨R,d,A',c',rfl,hR,hT,hb⟩
 have HT:=Lib.hid hT
 have HR:=Lib.hid hR
 have HB1:=Lib.hid (HB0.out.trans (hb.mono HB0.out.size))
 have HNW:=Lib.hid HB0.out.size
 clear q1 q2 hb HB0 HX0 HA hT
 obtain⟨b,o,hRA,hlt,hc0⟩:=hR.at_ (i:=0) (by decide)
 obtain⟨b2,o2,hRA2,hlt2,hc1⟩:=hR.at_ (i:=1) (by decide)
 obtain⟨rfl,rfl⟩:b=b2∧o=o2:=by rw [hRA] at hRA2;simpa using hRA2
 clear hRA2 hlt2 hR
 subst hRA
 have HLT:=Lib.hid hlt
 have HC00:Hid (w1.cell? ⟨b,o,none⟩=some (.string s94)):=hc0 0 (by decide)
 have HC01:Hid (w1.cell? ⟨b,o+1,none⟩=some (.int .i64 0)):=hc0 1 (by decide)
 have HC02:Hid (w1.cell? ⟨b,o+2,none⟩=some (.int .i64 100)):=hc0 2 (by decide)
 have HC03:Hid (w1.cell? ⟨b,o+3,none⟩=some (.slice none 0 0)):=hc0 3 (by decide)
 have HC04:Hid (w1.cell? ⟨b,o+4,none⟩=some (.bool false)):=hc0 4 (by decide)
 have HC10:Hid (w1.cell? ⟨b,o+5,none⟩=some (.string s9401)):=hc1 0 (by decide)
 have HC11:Hid (w1.cell? ⟨b,o+6,none⟩=some (.int .i64 0)):=hc1 1 (by decide)
 have HC12:Hid (w1.cell? ⟨b,o+7,none⟩=some (.int .i64 100)):=hc1 2 (by decide)
 have HC13:Hid (w1.cell? ⟨b,o+8,none⟩=some (.slice A' 1 c')):=hc1 3 (by decide)
 have HC14:Hid (w1.cell? ⟨b,o+9,none⟩=some (.bool false)):=hc1 4 (by decide)
 clear hc0 hc1 hlt
 go_wp2_with fail
 refine wp_loop_rounds 3 ?_
 have q3:w1.cell? ⟨b,o,none⟩=some (.string s94):=HC00.out
 have q4:w1.cell? ⟨b,o+1,none⟩=some (.int .i64 0):=HC01.out
 have q5:w1.cell? ⟨b,o+2,none⟩=some (.int .i64 100):=HC02.out
 have q6:w1.cell? ⟨b,o+3,none⟩=some (.slice none 0 0):=HC03.out
 have q7:w1.cell? ⟨b,o+4,none⟩=some (.bool false):=HC04.out
 have HBv0:=Lib.hid (HB1.out.alloc HB1.out.size (.cells #[.string s94,.int .i64 0,.int .i64 100,.slice none 0 0,.bool false] 95))
 have HE0:Hid (Bl (w1.alloc (.cells #[.string s94,.int .i64 0,.int .i64 100,.slice none 0 0,.bool false] 95)) w1.heap.size 95 #[.string s94,.int .i64 0,.int .i64 100,.slice none 0 0,.bool false]):=Bl.new _ _ _
 have HWv0:Hid (RowKit.Below w1.heap.size w1 (w1.alloc (.cells #[.string s94,.int .i64 0,.int .i64 100,.slice none 0 0,.bool false] 95))):=(Below.refl _ _).alloc (Nat.le_refl _) _
 rw [rounds_succ]
 go_upto_region 5 with (fail)
 clear q3 q4 q5 q6 q7 HB1
 generalize w1.alloc (.cells #[.string s94,.int .i64 0,.int .i64 100,.slice none 0 0,.bool false] 95)=V0 at *
 have q8:V0.cell? ⟨w1.heap.size,0,none⟩=some (.string s94):=HE0.out.cell 0
 have q9:V0.cell? ⟨w1.heap.size,1,none⟩=some (.int .i64 0):=HE0.out.cell 1
 have q10:V0.cell? ⟨w1.heap.size,2,none⟩=some (.int .i64 100):=HE0.out.cell 2
 have q11:V0.cell? ⟨w1.heap.size,3,none⟩=some (.slice none 0 0):=HE0.out.cell 3
 have q12:V0.cell? ⟨w1.heap.size,4,none⟩=some (.bool false):=HE0.out.cell 4
 go_wp2_with fail
 clear q8 q9 q10 q11 q12
 have HW1:=Lib.hid HWv0.out
 clear HWv0 HE0
 have q13:V0.cell? ⟨b,o+5,none⟩=some (.string s9401):=(HW1.out.cell (p:=⟨b,o+5,none⟩) HLT.out).trans HC10.out
 have q14:V0.cell? ⟨b,o+6,none⟩=some (.int .i64 0):=(HW1.out.cell (p:=⟨b,o+6,none⟩) HLT.out).trans HC11.out
 have q15:V0.cell? ⟨b,o+7,none⟩=some (.int .i64 100):=(HW1.out.cell (p:=⟨b,o+7,none⟩) HLT.out).trans HC12.out
 have q16:V0.cell? ⟨b,o+8,none⟩=some (.slice A' 1 c'):=(HW1.out.cell (p:=⟨b,o+8,none⟩) HLT.out).trans HC13.out
 have q17:V0.cell? ⟨b,o+9,none⟩=some (.bool false):=(HW1.out.cell (p:=⟨b,o+9,none⟩) HLT.out).trans HC14.out
 have HBv1:=Lib.hid (HBv0.out.alloc HBv0.out.size (.cells #[.string s9401,.int .i64 0,.int .i64 100,.slice A' 1 c',.bool false] 95))
 have HE1:Hid (Bl (V0.alloc (.cells #[.string s9401,.int .i64 0,.int .i64 100,.slice A' 1 c',.bool false] 95)) V0.heap.size 95 #[.string s9401,.int .i64 0,.int .i64 100,.slice A' 1 c',.bool false]):=Bl.new _ _ _
 have HWv1:Hid (RowKit.Below w1.heap.size w1 (V0.alloc (.cells #[.string s9401,.int .i64 0,.int .i64 100,.slice A' 1 c',.bool false] 95))):=HW1.out.alloc HW1.out.size _
 rw [rounds_succ]
 go_upto_region 5 with (fail)
 clear q13 q14 q15 q16 q17 HBv0
 generalize V0.alloc (.cells #[.string s9401,.int .i64 0,.int .i64 100,.slice A' 1 c',.bool false] 95)=V1 at *
 generalize V0.heap.size=g1 at *
 have q18:V1.cell? ⟨g1,0,none⟩=some (.string s9401):=HE1.out.cell 0
 have q19:V1.cell? ⟨g1,1,none⟩=some (.int .i64 0):=HE1.out.cell 1
 have q20:V1.cell? ⟨g1,2,none⟩=some (.int .i64 100):=HE1.out.cell 2
 have q21:V1.cell? ⟨g1,3,none⟩=some (.slice A' 1 c'):=HE1.out.cell 3
 have q22:V1.cell? ⟨g1,4,none⟩=some (.bool false):=HE1.out.cell 4
 have HOA1:Hid ((V1.alloc (.cells #[.string s9401,.int .i64 0,.int .i64 100,.slice A' 1 c',.bool false] 95)).ownsRow w.heap.size 95 5 (.slice none 0 0) 0 []):=⟨by simp,.inl ⟨rfl,rfl⟩⟩
 have HRD1:Hid (Rd (V1.alloc (.cells #[.string s9401,.int .i64 0,.int .i64 100,.slice A' 1 c',.bool false] 95)) 5 (some ⟨V1.heap.size,0,none⟩) 1 [.string s9401,.int .i64 0,.int .i64 100,.slice A' 1 c',.bool false]):=rd_bl (xs:=[.string s9401,.int .i64 0,.int .i64 100,.slice A' 1 c',.bool false]) (Bl.new _ _ _) rfl
 have HON1:Hid (∀ u∈([.string s9401,.int .i64 0,.int .i64 100,.slice A' 1 c',.bool false]:List Value),u.oneCell'=true):=fun u hu=>by
  simp only [List.mem_cons,List.not_mem_nil,or_false] at hu
  rcases hu with rfl | rfl | rfl | rfl | rfl <;> rfl
 have HM1:Hid (0+1≤maxLen∧(0+1)*64≤140737488355328):=⟨by unfold maxLen;omega,by omega⟩
 have HBA1:=Lib.hid (HBv1.out.alloc HBv1.out.size (.cells #[.string s9401,.int .i64 0,.int .i64 100,.slice A' 1 c',.bool false] 95))
 go_wp2_with (at_builtin;go_loud (refine wpList_append_rd _ rfl (.tmp 45) (.tmp 47) 96 rfl w.heap.size 95 _ 5 64 Tryz.underlying96 infoE20 rfl (by decide) (.slice none 0 0) 0 [] rfl HOA1.out (some ⟨V1.heap.size,0,none⟩) 1 _ [.string s9401,.int .i64 0,.int .i64 100,.slice A' 1 c',.bool false] rfl HRD1.out HON1.out HM1.out.1 HM1.out.2 HBA1.out.size ?_;intro v1a v1 ho1 hg1 hv1;obtain⟨R1,d1,rfl⟩:=own_slice ho1))
 clear q18 q19 q20 q21 q22
 have HBe:=Lib.hid (HBA1.out.grown hg1 HBA1.out.size (fun g e=>by cases e))
 have HTe:Hid (TermN w.heap.size v1 A' c'):=((HT.out.mono HNW.out).below HWv1.out).of_block fun b hb hl=>(hg1.block b (by simp;omega) (fun e=>by cases e)).trans (Below.heap_alloc _ _ b hl)
 have HO1:Hid (v1.ownsRow w.heap.size 95 5 (.slice R1 1 d1) 1 (flat encE [en1 A' c'])):=ho1
 clear ho1 hg1 hv1 HBA1 HM1 HON1 HRD1 HOA1 HE1 HBv1 HWv1 HT
 rw [rounds_succ]
 go_wp2_with fail
 go_ret
 exact⟨R1,d1,A',c',rfl,HO1.out,HTe.out,HBe.out⟩
set_option maxRecDepth 100000 in
set_option maxHeartbeats 8000000 in
theorem below0 (g:Nat) (A:Option Addr) (c:Nat) (w:World) (h:BkR w g A c):Calls Tryz.prog 126 #[.agg #[.slice (some ⟨g,0,none⟩) 2 2,.slice none 0 0],.int .i64 5,.string s9401] w fun e w'=>e=.returned (.slice none 0 0)∧RowKit.Below w.heap.size w w':=by
 have e1:((s9401:ByteArray).toList == (⟨#[]⟩:ByteArray).toList)=false:=by decide +kernel
 have e2:((s9401:ByteArray).toList != (⟨#[]⟩:ByteArray).toList)=true:=by decide +kernel
 have e3:(s9401.extract 0 2).toList = [57,52]:=by decide +kernel
 have e4:(([57,52]:List UInt8) == s9401.toList)=false:=by decide +kernel
 have HA:Hid (∀ wx,RowKit.Below w.heap.size w wx→Calls Tryz.prog 181 #[.agg #[.slice (some ⟨g,0,none⟩) 2 2,.slice none 0 0],.int .i64 5] wx (AtRes wx)):=fun wx hb=>at20 g A c wx (h.below hb)
 clear h
 have HB0:Hid (RowKit.Below w.heap.size w (w.alloc (.cells #[.slice (some ⟨g,0,none⟩) 2 2,.slice none 0 0] 99))):=(Below.refl _ _).alloc (Nat.le_refl _) _
 have HX0:Hid (Bl (w.alloc (.cells #[.slice (some ⟨g,0,none⟩) 2 2,.slice none 0 0] 99)) w.heap.size 99 #[.slice (some ⟨g,0,none⟩) 2 2,.slice none 0 0]):=Bl.new _ _ _
 go_enter Tryz.func126,Tryz.ntmps126
 go_upto_region 1 with (fail)
 generalize w.alloc (.cells #[.slice (some ⟨g,0,none⟩) 2 2,.slice none 0 0] 99)=W0 at *
 have q1:W0.cell? ⟨w.heap.size,0,none⟩=some (.slice (some ⟨g,0,none⟩) 2 2):=HX0.out.cell 0
 have q2:W0.cell? ⟨w.heap.size,1,none⟩=some (.slice none 0 0):=HX0.out.cell 1
 go_wp2_with fail
 refine (HA.out _ HB0.out).mono ?_
 rintro e w1 ⟨R,d,A',c',rfl,hR,hT,hb⟩
 have HT:=Lib.hid hT
 have HR:=Lib.hid hR
 have HB1:=Lib.hid (HB0.out.trans (hb.mono HB0.out.size))
 have HNW:=Lib.hid HB0.out.size
 clear q1 q2 hb HB0 HX0 HA hT
 obtain⟨b,o,hRA,hlt,hc0⟩:=hR.at_ (i:=0) (by decide)
 obtain⟨b2,o2,hRA2,hlt2,hc1⟩:=hR.at_ (i:=1) (by decide)
 obtain⟨rfl,rfl⟩:b=b2∧o=o2:=by rw [hRA] at hRA2;simpa using hRA2
 clear hRA2 hlt2 hR
 subst hRA
 have HLT:=Lib.hid hlt
 have HC00:Hid (w1.cell? ⟨b,o,none⟩=some (.string s94)):=hc0 0 (by decide)
 have HC01:Hid (w1.cell? ⟨b,o+1,none⟩=some (.int .i64 0)):=hc0 1 (by decide)
 have HC02:Hid (w1.cell? ⟨b,o+2,none⟩=some (.int .i64 100)):=hc0 2 (by decide)
 have HC03:Hid (w1.cell? ⟨b,o+3,none⟩=some (.slice none 0 0)):=hc0 3 (by decide)
 have HC04:Hid (w1.cell? ⟨b,o+4,none⟩=some (.bool false)):=hc0 4 (by decide)
 have HC10:Hid (w1.cell? ⟨b,o+5,none⟩=some (.string s9401)):=hc1 0 (by decide)
 have HC11:Hid (w1.cell? ⟨b,o+6,none⟩=some (.int .i64 0)):=hc1 1 (by decide)
 have HC12:Hid (w1.cell? ⟨b,o+7,none⟩=some (.int .i64 100)):=hc1 2 (by decide)
 have HC13:Hid (w1.cell? ⟨b,o+8,none⟩=some (.slice A' 1 c')):=hc1 3 (by decide)
 have HC14:Hid (w1.cell? ⟨b,o+9,none⟩=some (.bool false)):=hc1 4 (by decide)
 clear hc0 hc1 hlt
 go_wp2_with fail
 refine wp_loop_rounds 3 ?_
 have q3:w1.cell? ⟨b,o,none⟩=some (.string s94):=HC00.out
 have q4:w1.cell? ⟨b,o+1,none⟩=some (.int .i64 0):=HC01.out
 have q5:w1.cell? ⟨b,o+2,none⟩=some (.int .i64 100):=HC02.out
 have q6:w1.cell? ⟨b,o+3,none⟩=some (.slice none 0 0):=HC03.out
 have q7:w1.cell? ⟨b,o+4,none⟩=some (.bool false):=HC04.out
 have HBv0:=Lib.hid (HB1.out.alloc HB1.out.size (.cells #[.string s94,.int .i64 0,.int .i64 100,.slice none 0 0,.bool false] 95))
 have HE0:Hid (Bl (w1.alloc (.cells #[.string s94,.int .i64 0,.int .i64 100,.slice none 0 0,.bool false] 95)) w1.heap.size 95 #[.string s94,.int .i64 0,.int .i64 100,.slice none 0 0,.bool false]):=Bl.new _ _ _
 have HWv0:Hid (RowKit.Below w1.heap.size w1 (w1.alloc (.cells #[.string s94,.int .i64 0,.int .i64 100,.slice none 0 0,.bool false] 95))):=(Below.refl _ _).alloc (Nat.le_refl _) _
 rw [rounds_succ]
 go_upto_region 5 with (fail)
 clear q3 q4 q5 q6 q7 HB1
 generalize w1.alloc (.cells #[.string s94,.int .i64 0,.int .i64 100,.slice none 0 0,.bool false] 95)=V0 at *
 have q8:V0.cell? ⟨w1.heap.size,0,none⟩=some (.string s94):=HE0.out.cell 0
 have q9:V0.cell? ⟨w1.heap.size,1,none⟩=some (.int .i64 0):=HE0.out.cell 1
 have q10:V0.cell? ⟨w1.heap.size,2,none⟩=some (.int .i64 100):=HE0.out.cell 2
 have q11:V0.cell? ⟨w1.heap.size,3,none⟩=some (.slice none 0 0):=HE0.out.cell 3
 have q12:V0.cell? ⟨w1.heap.size,4,none⟩=some (.bool false):=HE0.out.cell 4
 go_wp2_with fail
 clear q8 q9 q10 q11 q12
 have HW1:=Lib.hid HWv0.out
 clear HWv0 HE0
 have q13:V0.cell? ⟨b,o+5,none⟩=some (.string s9401):=(HW1.out.cell (p:=⟨b,o+5,none⟩) HLT.out).trans HC10.out
 have q14:V0.cell? ⟨b,o+6,none⟩=some (.int .i64 0):=(HW1.out.cell (p:=⟨b,o+6,none⟩) HLT.out).trans HC11.out
 have q15:V0.cell? ⟨b,o+7,none⟩=some (.int .i64 100):=(HW1.out.cell (p:=⟨b,o+7,none⟩) HLT.out).trans HC12.out
 have q16:V0.cell? ⟨b,o+8,none⟩=some (.slice A' 1 c'):=(HW1.out.cell (p:=⟨b,o+8,none⟩) HLT.out).trans HC13.out
 have q17:V0.cell? ⟨b,o+9,none⟩=some (.bool false):=(HW1.out.cell (p:=⟨b,o+9,none⟩) HLT.out).trans HC14.out
 have HBv1:=Lib.hid (HBv0.out.alloc HBv0.out.size (.cells #[.string s9401,.int .i64 0,.int .i64 100,.slice A' 1 c',.bool false] 95))
 have HE1:Hid (Bl (V0.alloc (.cells #[.string s9401,.int .i64 0,.int .i64 100,.slice A' 1 c',.bool false] 95)) V0.heap.size 95 #[.string s9401,.int .i64 0,.int .i64 100,.slice A' 1 c',.bool false]):=Bl.new _ _ _
 have HWv1:Hid (RowKit.Below w1.heap.size w1 (V0.alloc (.cells #[.string s9401,.int .i64 0,.int .i64 100,.slice A' 1 c',.bool false] 95))):=HW1.out.alloc HW1.out.size _
 rw [rounds_succ]
 go_upto_region 5 with (fail)
 clear q13 q14 q15 q16 q17 HBv0
 generalize V0.alloc (.cells #[.string s9401,.int .i64 0,.int .i64 100,.slice A' 1 c',.bool false] 95)=V1 at *
 generalize V0.heap.size=g1 at *
 have q18:V1.cell? ⟨g1,0,none⟩=some (.string s9401):=HE1.out.cell 0
 have q19:V1.cell? ⟨g1,1,none⟩=some (.int .i64 0):=HE1.out.cell 1
 have q20:V1.cell? ⟨g1,2,none⟩=some (.int .i64 100):=HE1.out.cell 2
 have q21:V1.cell? ⟨g1,3,none⟩=some (.slice A' 1 c'):=HE1.out.cell 3
 have q22:V1.cell? ⟨g1,4,none⟩=some (.bool false):=HE1.out.cell 4
 go_wp2_with fail
 clear q18 q19 q20 q21 q22
 rw [rounds_succ]
 go_wp2_with fail
 go_ret
 exact⟨rfl,HBv1.out⟩
set_option maxRecDepth 100000 in
set_option maxHeartbeats 4000000 in
theorem excl20 (g:Nat) (s:ByteArray) (D:Option Addr) (n d:Nat) (w:World):Calls Tryz.prog 184 #[.agg #[.slice (some ⟨g,0,none⟩) 2 2,.slice none 0 0],.string s,.slice D n d] w fun e w'=>e=.returned (.bool false)∧RowKit.Below w.heap.size w w':=by
 have HB0:Hid (RowKit.Below w.heap.size w (w.alloc (.cells #[.slice (some ⟨g,0,none⟩) 2 2,.slice none 0 0] 99))):=(Below.refl _ _).alloc (Nat.le_refl _) _
 have HX0:Hid (Bl (w.alloc (.cells #[.slice (some ⟨g,0,none⟩) 2 2,.slice none 0 0] 99)) w.heap.size 99 #[.slice (some ⟨g,0,none⟩) 2 2,.slice none 0 0]):=Bl.new _ _ _
 go_enter Tryz.func184,Tryz.ntmps184
 go_upto_region 1 with (fail)
 generalize w.alloc (.cells #[.slice (some ⟨g,0,none⟩) 2 2,.slice none 0 0] 99)=W0 at *
 have q1:W0.cell? ⟨w.heap.size,0,none⟩=some (.slice (some ⟨g,0,none⟩) 2 2):=HX0.out.cell 0
 have q2:W0.cell? ⟨w.heap.size,1,none⟩=some (.slice none 0 0):=HX0.out.cell 1
 go_wp2_with fail
 refine wp_loop_rounds 1 ?_
 rw [rounds_succ]
 go_wp2_with fail
 go_ret
 exact⟨rfl,HB0.out⟩
set_option maxRecDepth 100000 in
set_option maxHeartbeats 4000000 in
theorem altern20 (g:Nat) (A:Option Addr) (c:Nat) (w:World) (h:TermR w A):Calls Tryz.prog 185 #[.agg #[.slice (some ⟨g,0,none⟩) 2 2,.slice none 0 0],.agg #[.string s9401,.int .i64 0,.int .i64 100,.slice A 1 c,.bool false]] w (TeRes w):=by
 have HH:=Lib.hid h
 clear h
 have hs1:(w.alloc (.cells #[.slice (some ⟨g,0,none⟩) 2 2,.slice none 0 0] 99)).heap.size=w.heap.size+1:=by simp
 have HB0:Hid (RowKit.Below w.heap.size w ((w.alloc (.cells #[.slice (some ⟨g,0,none⟩) 2 2,.slice none 0 0] 99)).alloc (.cells #[.string s9401,.int .i64 0,.int .i64 100,.slice A 1 c,.bool false] 95))):=((Below.refl _ w).alloc (Nat.le_refl _) _).alloc (by simp) _
 have HX0:Hid (Bl ((w.alloc (.cells #[.slice (some ⟨g,0,none⟩) 2 2,.slice none 0 0] 99)).alloc (.cells #[.string s9401,.int .i64 0,.int .i64 100,.slice A 1 c,.bool false] 95)) w.heap.size 99 #[.slice (some ⟨g,0,none⟩) 2 2,.slice none 0 0]):=(Bl.new _ _ _).alloc _
 have HY0:Hid (Bl ((w.alloc (.cells #[.slice (some ⟨g,0,none⟩) 2 2,.slice none 0 0] 99)).alloc (.cells #[.string s9401,.int .i64 0,.int .i64 100,.slice A 1 c,.bool false] 95)) (w.heap.size+1) 95 #[.string s9401,.int .i64 0,.int .i64 100,.slice A 1 c,.bool false]):=by
  rw [← hs1]
  exact Bl.new _ _ _
 go_enter Tryz.func185,Tryz.ntmps185
 go_upto_region 1 with (fail)
 generalize (w.alloc (.cells #[.slice (some ⟨g,0,none⟩) 2 2,.slice none 0 0] 99)).alloc (.cells #[.string s9401,.int .i64 0,.int .i64 100,.slice A 1 c,.bool false] 95)=W0 at *
 try rw [hs1]
 have q1:W0.cell? ⟨w.heap.size,0,none⟩=some (.slice (some ⟨g,0,none⟩) 2 2):=HX0.out.cell 0
 have q2:W0.cell? ⟨w.heap.size,1,none⟩=some (.slice none 0 0):=HX0.out.cell 1
 have q3:W0.cell? ⟨(w.heap.size+1),0,none⟩=some (.string s9401):=HY0.out.cell 0
 have q4:W0.cell? ⟨(w.heap.size+1),1,none⟩=some (.int .i64 0):=HY0.out.cell 1
 have q5:W0.cell? ⟨(w.heap.size+1),2,none⟩=some (.int .i64 100):=HY0.out.cell 2
 have q6:W0.cell? ⟨(w.heap.size+1),3,none⟩=some (.slice A 1 c):=HY0.out.cell 3
 have q7:W0.cell? ⟨(w.heap.size+1),4,none⟩=some (.bool false):=HY0.out.cell 4
 go_wp2_with fail
 refine (cloneW1 A c _ (HH.out.below HB0.out)).mono ?_
 rintro e w1 ⟨A',c',rfl,hT,hb⟩
 have HX1:=Lib.hid (HX0.out.keep hb)
 have HB1:=Lib.hid (HB0.out.trans (hb.mono HB0.out.size))
 have HT:=Lib.hid (hT.mono HB0.out.size)
 clear q1 q2 q3 q4 q5 q6 q7 hb hT HX0 HY0 HB0
 have q8:w1.cell? ⟨w.heap.size,0,none⟩=some (.slice (some ⟨g,0,none⟩) 2 2):=HX1.out.cell 0
 have q9:w1.cell? ⟨w.heap.size,1,none⟩=some (.slice none 0 0):=HX1.out.cell 1
 go_wp2_with fail
 refine wp_loop_rounds 1 ?_
 rw [rounds_succ]
 go_wp2_with fail
 go_ret
 exact⟨A',c',rfl,HT.out,HB1.out⟩
set_option maxRecDepth 100000 in
set_option maxHeartbeats 4000000 in
theorem member20 (A:Option Addr) (n c:Nat) (w:World) (hn:n≤50):Calls Tryz.prog 224 #[.slice A n c] w fun e w'=>e=.returned (.func (.func 258) #[] #[.pointer (some ⟨w.heap.size,0,none⟩)])∧w.alloc (.cells #[.slice A n c] 60)=w':=by
 have HB:Hid (RowKit.Below w.heap.size w (w.alloc (.cells #[.slice A n c] 60))):=(Below.refl _ _).alloc (Nat.le_refl _) _
 have d1:decide ((n:Int)≤50)=true:=by simp;omega
 go_enter Tryz.func224,Tryz.ntmps224
 go_wp2
 go_ret
 exact⟨rfl,rfl⟩
set_option maxRecDepth 100000 in
set_option maxHeartbeats 4000000 in
theorem member1_20 (x:ByteArray) (g:Nat) (A:Option Addr) (n c:Nat) (l:List ByteArray) (w:World) (h:Sr w A n l) (hc:w.cell? ⟨g,0,none⟩=some (.slice A n c)):Calls Tryz.prog 258 #[.string x,.pointer (some ⟨g,0,none⟩)] w (BRes w (l.any fun s=>s.toList == x.toList)):=by
 have HC:=Lib.hid (contS_any A n c l x w h)
 clear h
 go_enter Tryz.func258,Tryz.ntmps258
 go_wp2_with fail
 refine HC.out.mono ?_
 rintro e w1 ⟨rfl,rfl⟩
 clear hc HC
 go_wp2_with fail
 go_ret
 exact⟨rfl,Below.refl _ _⟩
set_option maxRecDepth 100000 in
set_option maxHeartbeats 4000000 in
theorem subset20 (A:Option Addr) (c:Nat) (D:Option Addr) (d:Nat) (w:World) (h:Sr w A 1 [sChair]) (k:Sr w D 2 [sChair,sOffice]):Calls Tryz.prog 186 #[.slice A 1 c,.slice D 2 d] w fun e w'=>e=.returned (.bool true)∧RowKit.Below w.heap.size w w':=by
 obtain⟨b,o,hA,hlt,hcl⟩:=h.cells (by decide)
 subst hA
 have hb0:RowKit.Below w.heap.size w (w.alloc (.cells #[.slice D 2 d] 60)):=(Below.refl _ _).alloc (Nat.le_refl _) _
 have q1:=(hb0.cell (p:=⟨b,o,none⟩) hlt).trans (hcl 0 sChair rfl)
 have HM:=Lib.hid (member1_20 sChair w.heap.size D 2 d [sChair,sOffice] _ (k.below hb0) ((Bl.new w 60 #[.slice D 2 d]).cell 0))
 have ea:([sChair,sOffice].any fun s=>s.toList == sChair.toList)=true:=by decide +kernel
 rw [ea] at HM
 have HB0:=Lib.hid hb0
 clear h k hb0 hcl
 go_enter Tryz.func186,Tryz.ntmps186
 go_wp2_with fail
 refine (member20 D 2 d w (by decide)).mono ?_
 rintro e w1 ⟨rfl,rfl⟩
 go_wp2_with fail
 refine wp_loop_rounds 2 ?_
 rw [rounds_succ]
 go_wp2_with fail
 refine HM.out.mono ?_
 rintro e w1 ⟨rfl,hb⟩
 have HB1:=Lib.hid (HB0.out.trans (hb.mono HB0.out.size))
 clear hb q1 HM HB0
 go_wp2_with fail
 rw [rounds_succ]
 go_wp2_with fail
 go_ret
 exact⟨rfl,HB1.out⟩
set_option maxRecDepth 100000 in
set_option maxHeartbeats 4000000 in
theorem score20 (g:Nat) (A:Option Addr) (c:Nat) (D:Option Addr) (d:Nat) (w:World) (h:TermR w A) (k:Sr w D 2 [sChair,sOffice]):Calls Tryz.prog 190 #[.agg #[.slice (some ⟨g,0,none⟩) 2 2,.slice none 0 0],.agg #[.string s9401,.int .i64 0,.int .i64 100,.slice A 1 c,.bool false],.slice D 2 d] w fun e w'=>e=.returned (.int .i64 1)∧RowKit.Below w.heap.size w w':=by
 have HH:=Lib.hid h
 have HK:=Lib.hid k
 clear h k
 have hs1:(w.alloc (.cells #[.slice (some ⟨g,0,none⟩) 2 2,.slice none 0 0] 99)).heap.size=w.heap.size+1:=by simp
 have HB0:Hid (RowKit.Below w.heap.size w ((w.alloc (.cells #[.slice (some ⟨g,0,none⟩) 2 2,.slice none 0 0] 99)).alloc (.cells #[.string s9401,.int .i64 0,.int .i64 100,.slice A 1 c,.bool false] 95))):=((Below.refl _ w).alloc (Nat.le_refl _) _).alloc (by simp) _
 have HX0:Hid (Bl ((w.alloc (.cells #[.slice (some ⟨g,0,none⟩) 2 2,.slice none 0 0] 99)).alloc (.cells #[.string s9401,.int .i64 0,.int .i64 100,.slice A 1 c,.bool false] 95)) w.heap.size 99 #[.slice (some ⟨g,0,none⟩) 2 2,.slice none 0 0]):=(Bl.new _ _ _).alloc _
 have HY0:Hid (Bl ((w.alloc (.cells #[.slice (some ⟨g,0,none⟩) 2 2,.slice none 0 0] 99)).alloc (.cells #[.string s9401,.int .i64 0,.int .i64 100,.slice A 1 c,.bool false] 95)) (w.heap.size+1) 95 #[.string s9401,.int .i64 0,.int .i64 100,.slice A 1 c,.bool false]):=by
  rw [← hs1]
  exact Bl.new _ _ _
 go_enter Tryz.func190,Tryz.ntmps190
 go_upto_region 1 with (fail)
 generalize (w.alloc (.cells #[.slice (some ⟨g,0,none⟩) 2 2,.slice none 0 0] 99)).alloc (.cells #[.string s9401,.int .i64 0,.int .i64 100,.slice A 1 c,.bool false] 95)=W0 at *
 try rw [hs1]
 have q1:W0.cell? ⟨w.heap.size,0,none⟩=some (.slice (some ⟨g,0,none⟩) 2 2):=HX0.out.cell 0
 have q2:W0.cell? ⟨w.heap.size,1,none⟩=some (.slice none 0 0):=HX0.out.cell 1
 have q3:W0.cell? ⟨(w.heap.size+1),0,none⟩=some (.string s9401):=HY0.out.cell 0
 have q4:W0.cell? ⟨(w.heap.size+1),1,none⟩=some (.int .i64 0):=HY0.out.cell 1
 have q5:W0.cell? ⟨(w.heap.size+1),2,none⟩=some (.int .i64 100):=HY0.out.cell 2
 have q6:W0.cell? ⟨(w.heap.size+1),3,none⟩=some (.slice A 1 c):=HY0.out.cell 3
 have q7:W0.cell? ⟨(w.heap.size+1),4,none⟩=some (.bool false):=HY0.out.cell 4
 go_wp2_with fail
 refine (excl20 g s9401 D 2 d _).mono ?_
 rintro e w1 ⟨rfl,hb⟩
 have HX1:=Lib.hid (HX0.out.keep hb)
 have HY1:=Lib.hid (HY0.out.keep hb)
 have HB1:=Lib.hid (HB0.out.trans (hb.mono HB0.out.size))
 clear q1 q2 q3 q4 q5 q6 q7 hb HX0 HY0 HB0
 have q8:w1.cell? ⟨w.heap.size,0,none⟩=some (.slice (some ⟨g,0,none⟩) 2 2):=HX1.out.cell 0
 have q9:w1.cell? ⟨w.heap.size,1,none⟩=some (.slice none 0 0):=HX1.out.cell 1
 have q10:w1.cell? ⟨(w.heap.size+1),0,none⟩=some (.string s9401):=HY1.out.cell 0
 have q11:w1.cell? ⟨(w.heap.size+1),1,none⟩=some (.int .i64 0):=HY1.out.cell 1
 have q12:w1.cell? ⟨(w.heap.size+1),2,none⟩=some (.int .i64 100):=HY1.out.cell 2
 have q13:w1.cell? ⟨(w.heap.size+1),3,none⟩=some (.slice A 1 c):=HY1.out.cell 3
 have q14:w1.cell? ⟨(w.heap.size+1),4,none⟩=some (.bool false):=HY1.out.cell 4
 go_wp2_with fail
 refine (altern20 g A c _ (HH.out.below HB1.out)).mono ?_
 rintro e w2 ⟨A',c',rfl,hT,hb⟩
 have HB2:=Lib.hid (HB1.out.trans (hb.mono HB1.out.size))
 have HT:=Lib.hid hT
 clear q8 q9 q10 q11 q12 q13 q14 hb hT HX1 HY1 HB1
 obtain⟨b,o,P,p,rfl,hlt,q1,hS⟩:=HT.out.reads
 have HS:=Lib.hid (subset20 P p D d w2 hS (HK.out.below HB2.out))
 clear hS HT hlt
 go_wp2_with fail
 refine wp_loop_rounds 2 ?_
 rw [rounds_succ]
 go_wp2_with fail
 refine HS.out.mono ?_
 rintro e w3 ⟨rfl,hb⟩
 have HB3:=Lib.hid (HB2.out.trans (hb.mono HB2.out.size))
 clear hb q1 HS HB2
 go_wp2_with fail
 rw [rounds_succ]
 go_wp2_with fail
 go_ret
 exact⟨rfl,HB3.out⟩
set_option maxRecDepth 100000 in
set_option maxHeartbeats 4000000 in
theorem scored1_20 (g gb gw:Nat) (A:Option Addr) (c:Nat) (D:Option Addr) (d:Nat) (w:World) (h:TermR w A) (k:Sr w D 2 [sChair,sOffice]) (hp:Bl w gb 99 #[.slice (some ⟨g,0,none⟩) 2 2,.slice none 0 0]) (hq:Bl w gw 60 #[.slice D 2 d]):Calls Tryz.prog 198 #[.agg #[.string s9401,.int .i64 0,.int .i64 100,.slice A 1 c,.bool false],.pointer (some ⟨gb,0,none⟩),.pointer (some ⟨gw,0,none⟩)] w fun e w'=>e=.returned (.bool true)∧RowKit.Below w.heap.size w w':=by
 have HH:=Lib.hid h
 have HK:=Lib.hid k
 have HP:=Lib.hid hp
 have HQ:=Lib.hid hq
 clear h k hp hq
 have HB0:Hid (RowKit.Below w.heap.size w (w.alloc (.cells #[.string s9401,.int .i64 0,.int .i64 100,.slice A 1 c,.bool false] 95))):=(Below.refl _ _).alloc (Nat.le_refl _) _
 have HX0:Hid (Bl (w.alloc (.cells #[.string s9401,.int .i64 0,.int .i64 100,.slice A 1 c,.bool false] 95)) w.heap.size 95 #[.string s9401,.int .i64 0,.int .i64 100,.slice A 1 c,.bool false]):=Bl.new _ _ _
 go_enter Tryz.func198,Tryz.ntmps198
 go_upto_region 1 with (fail)
 generalize w.alloc (.cells #[.string s9401,.int .i64 0,.int .i64 100,.slice A 1 c,.bool false] 95)=W0 at *
 have q1:W0.cell? ⟨w.heap.size,0,none⟩=some (.string s9401):=HX0.out.cell 0
 have q2:W0.cell? ⟨w.heap.size,1,none⟩=some (.int .i64 0):=HX0.out.cell 1
 have q3:W0.cell? ⟨w.heap.size,2,none⟩=some (.int .i64 100):=HX0.out.cell 2
 have q4:W0.cell? ⟨w.heap.size,3,none⟩=some (.slice A 1 c):=HX0.out.cell 3
 have q5:W0.cell? ⟨w.heap.size,4,none⟩=some (.bool false):=HX0.out.cell 4
 have q90:W0.cell? ⟨gb,0,none⟩=some (.slice (some ⟨g,0,none⟩) 2 2):=(HP.out.keep HB0.out).cell 0
 have q91:W0.cell? ⟨gb,1,none⟩=some (.slice none 0 0):=(HP.out.keep HB0.out).cell 1
 have q92:W0.cell? ⟨gw,0,none⟩=some (.slice D 2 d):=(HQ.out.keep HB0.out).cell 0
 go_wp2_with fail
 refine (score20 g A c D d _ (HH.out.below HB0.out) (HK.out.below HB0.out)).mono ?_
 rintro e w1 ⟨rfl,hb⟩
 have HB1:=Lib.hid (HB0.out.trans (hb.mono HB0.out.size))
 clear q1 q2 q3 q4 q5 hb q90 q91 q92
 go_wp2_with fail
 go_ret
 exact⟨rfl,HB1.out⟩
set_option maxRecDepth 100000 in
set_option maxHeartbeats 4000000 in
theorem keep0_20 (fv:Value) (w:World):Calls Tryz.prog 182 #[.slice none 0 0,fv] w fun e w'=>e=.returned (.slice none 0 0)∧w=w':=by
 go_enter Tryz.func182,Tryz.ntmps182
 go_wp2_with fail
 refine wp_loop_rounds 1 ?_
 rw [rounds_succ]
 go_wp2_with fail
 go_ret
 exact⟨rfl,rfl⟩
def KeRes (w:World) (A:Option Addr) (c:Nat) (e:Ending) (w':World):Prop:=∃ R d,e=.returned (.slice R 1 d)∧Recs encE 5 w' R 1 [en1 A c]∧RowKit.Below w.heap.size w w'
set_option maxRecDepth 100000 in
set_option maxHeartbeats 8000000 in
theorem keep1_20 (E:Option Addr) (x g gb gw:Nat) (A:Option Addr) (c:Nat) (D:Option Addr) (d:Nat) (w:World) (hr:Recs encE 5 w E 1 [en1 A c]) (h:TermR w A) (k:Sr w D 2 [sChair,sOffice]) (hp:Bl w gb 99 #[.slice (some ⟨g,0,none⟩) 2 2,.slice none 0 0]) (hq:Bl w gw 60 #[.slice D 2 d]):Calls Tryz.prog 182 #[.slice E 1 x,.func (.func 198) #[] #[.pointer (some ⟨gb,0,none⟩),.pointer (some ⟨gw,0,none⟩)]] w (KeRes w A c):=by
 have HH:=Lib.hid h
 have HK:=Lib.hid k
 have HP:=Lib.hid hp
 have HQ:=Lib.hid hq
 obtain⟨b,o,hA,hlt,hc⟩:=hr.at_ (i:=0) (by decide)
 subst hA
 have q1:w.cell? ⟨b,o,none⟩=some (.string s9401):=hc 0 (by decide)
 have q2:w.cell? ⟨b,o+1,none⟩=some (.int .i64 0):=hc 1 (by decide)
 have q3:w.cell? ⟨b,o+2,none⟩=some (.int .i64 100):=hc 2 (by decide)
 have q4:w.cell? ⟨b,o+3,none⟩=some (.slice A 1 c):=hc 3 (by decide)
 have q5:w.cell? ⟨b,o+4,none⟩=some (.bool false):=hc 4 (by decide)
 have HB0:Hid (RowKit.Below w.heap.size w (w.alloc (.cells #[.string s9401,.int .i64 0,.int .i64 100,.slice A 1 c,.bool false] 95))):=(Below.refl _ _).alloc (Nat.le_refl _) _
 have HE0:Hid (Bl (w.alloc (.cells #[.string s9401,.int .i64 0,.int .i64 100,.slice A 1 c,.bool false] 95)) w.heap.size 95 #[.string s9401,.int .i64 0,.int .i64 100,.slice A 1 c,.bool false]):=Bl.new _ _ _
 clear h k hp hq hr hc hlt
 go_enter Tryz.func182,Tryz.ntmps182
 go_wp2_with fail
 refine wp_loop_rounds 2 ?_
 rw [rounds_succ]
 go_upto_region 5 with (fail)
 clear q1 q2 q3 q4 q5
 generalize w.alloc (.cells #[.string s9401,.int .i64 0,.int .i64 100,.slice A 1 c,.bool false] 95)=V0 at *
 have q6:V0.cell? ⟨w.heap.size,0,none⟩=some (.string s9401):=HE0.out.cell 0
 have q7:V0.cell? ⟨w.heap.size,1,none⟩=some (.int .i64 0):=HE0.out.cell 1
 have q8:V0.cell? ⟨w.heap.size,2,none⟩=some (.int .i64 100):=HE0.out.cell 2
 have q9:V0.cell? ⟨w.heap.size,3,none⟩=some (.slice A 1 c):=HE0.out.cell 3
 have q10:V0.cell? ⟨w.heap.size,4,none⟩=some (.bool false):=HE0.out.cell 4
 go_wp2_with fail
 refine (scored1_20 g gb gw A c D d _ (HH.out.below HB0.out) (HK.out.below HB0.out) (HP.out.keep HB0.out) (HQ.out.keep HB0.out)).mono ?_
 rintro e w1 ⟨rfl,hb⟩
 have HE1:=Lib.hid (HE0.out.keep hb)
 have HB1:=Lib.hid (HB0.out.trans (hb.mono HB0.out.size))
 clear q6 q7 q8 q9 q10 hb HE0 HB0
 have q11:w1.cell? ⟨w.heap.size,0,none⟩=some (.string s9401):=HE1.out.cell 0
 have q12:w1.cell? ⟨w.heap.size,1,none⟩=some (.int .i64 0):=HE1.out.cell 1
 have q13:w1.cell? ⟨w.heap.size,2,none⟩=some (.int .i64 100):=HE1.out.cell 2
 have q14:w1.cell? ⟨w.heap.size,3,none⟩=some (.slice A 1 c):=HE1.out.cell 3
 have q15:w1.cell? ⟨w.heap.size,4,none⟩=some (.bool false):=HE1.out.cell 4
 have HOA1:Hid ((w1.alloc (.cells #[.string s9401,.int .i64 0,.int .i64 100,.slice A 1 c,.bool false] 95)).ownsRow w.heap.size 95 5 (.slice none 0 0) 0 []):=⟨by simp,.inl ⟨rfl,rfl⟩⟩
 have HRD1:Hid (Rd (w1.alloc (.cells #[.string s9401,.int .i64 0,.int .i64 100,.slice A 1 c,.bool false] 95)) 5 (some ⟨w1.heap.size,0,none⟩) 1 [.string s9401,.int .i64 0,.int .i64 100,.slice A 1 c,.bool false]):=rd_bl (xs:=[.string s9401,.int .i64 0,.int .i64 100,.slice A 1 c,.bool false]) (Bl.new _ _ _) rfl
 have HON1:Hid (∀ u∈([.string s9401,.int .i64 0,.int .i64 100,.slice A 1 c,.bool false]:List Value),u.oneCell'=true):=fun u hu=>by
  simp only [List.mem_cons,List.not_mem_nil,or_false] at hu
  rcases hu with rfl | rfl | rfl | rfl | rfl <;> rfl
 have HM1:Hid (0+1≤maxLen∧(0+1)*64≤140737488355328):=⟨by unfold maxLen;omega,by omega⟩
 have HBA1:=Lib.hid (HB1.out.alloc HB1.out.size (.cells #[.string s9401,.int .i64 0,.int .i64 100,.slice A 1 c,.bool false] 95))
 go_wp2_with (at_builtin;go_loud (refine wpList_append_rd _ rfl (.tmp 17) (.tmp 19) 96 rfl w.heap.size 95 _ 5 64 Tryz.underlying96 infoE20 rfl (by decide) (.slice none 0 0) 0 [] rfl HOA1.out (some ⟨w1.heap.size,0,none⟩) 1 _ [.string s9401,.int .i64 0,.int .i64 100,.slice A 1 c,.bool false] rfl HRD1.out HON1.out HM1.out.1 HM1.out.2 HBA1.out.size ?_;intro v1a v1 ho1 hg1 hv1;obtain⟨R1,d1,rfl⟩:=own_slice ho1))
 clear q11 q12 q13 q14 q15
 have HBe:=Lib.hid (HBA1.out.grown hg1 HBA1.out.size (fun g e=>by cases e))
 have HO1:Hid (v1.ownsRow w.heap.size 95 5 (.slice R1 1 d1) 1 (flat encE [en1 A c])):=ho1
 clear ho1 hg1 hv1 HBA1 HM1 HON1 HRD1 HOA1 HE1 HB1
 rw [rounds_succ]
 go_wp2_with fail
 go_ret
 exact⟨R1,d1,rfl,Recs.of_own encE_len HO1.out rfl,HBe.out⟩
set_option maxRecDepth 100000 in
set_option maxHeartbeats 4000000 in
theorem scored_1 (E:Option Addr) (x g:Nat) (A:Option Addr) (c:Nat) (D:Option Addr) (d:Nat) (w:World) (hr:Recs encE 5 w E 1 [en1 A c]) (h:TermR w A) (k:Sr w D 2 [sChair,sOffice]):Calls Tryz.prog 137 #[.agg #[.slice (some ⟨g,0,none⟩) 2 2,.slice none 0 0],.slice E 1 x,.slice D 2 d] w (KeRes w A c):=by
 have HH:=Lib.hid h
 have HK:=Lib.hid k
 have HR:=Lib.hid hr
 clear h k hr
 have hs1:(w.alloc (.cells #[.slice (some ⟨g,0,none⟩) 2 2,.slice none 0 0] 99)).heap.size=w.heap.size+1:=by simp
 have HB0:Hid (RowKit.Below w.heap.size w ((w.alloc (.cells #[.slice (some ⟨g,0,none⟩) 2 2,.slice none 0 0] 99)).alloc (.cells #[.slice D 2 d] 60))):=((Below.refl _ w).alloc (Nat.le_refl _) _).alloc (by simp) _
 have HX0:Hid (Bl ((w.alloc (.cells #[.slice (some ⟨g,0,none⟩) 2 2,.slice none 0 0] 99)).alloc (.cells #[.slice D 2 d] 60)) w.heap.size 99 #[.slice (some ⟨g,0,none⟩) 2 2,.slice none 0 0]):=(Bl.new _ _ _).alloc _
 have HY0:Hid (Bl ((w.alloc (.cells #[.slice (some ⟨g,0,none⟩) 2 2,.slice none 0 0] 99)).alloc (.cells #[.slice D 2 d] 60)) (w.heap.size+1) 60 #[.slice D 2 d]):=by
  rw [← hs1]
  exact Bl.new _ _ _
 go_enter Tryz.func137,Tryz.ntmps137
 go_upto_region 1 with (fail)
 generalize (w.alloc (.cells #[.slice (some ⟨g,0,none⟩) 2 2,.slice none 0 0] 99)).alloc (.cells #[.slice D 2 d] 60)=W0 at *
 try rw [hs1]
 have HKP:=Lib.hid (keep1_20 E x g w.heap.size (w.heap.size+1) A c D d W0 (HR.out.below HB0.out) (HH.out.below HB0.out) (HK.out.below HB0.out) HX0.out HY0.out)
 go_wp2_with fail
 refine HKP.out.mono ?_
 rintro e w1 ⟨R,r,rfl,hR,hb⟩
 have HB1:=Lib.hid (HB0.out.trans (hb.mono HB0.out.size))
 have HR1:=Lib.hid hR
 clear hb hR HKP HB0 HX0 HY0
 go_wp2_with fail
 go_ret
 exact⟨R,r,rfl,HR1.out,HB1.out⟩
set_option maxRecDepth 100000 in
set_option maxHeartbeats 4000000 in
theorem scored_0 (g:Nat) (D:Option Addr) (d:Nat) (w:World):Calls Tryz.prog 137 #[.agg #[.slice (some ⟨g,0,none⟩) 2 2,.slice none 0 0],.slice none 0 0,.slice D 2 d] w fun e w'=>e=.returned (.slice none 0 0)∧RowKit.Below w.heap.size w w':=by
 have hs1:(w.alloc (.cells #[.slice (some ⟨g,0,none⟩) 2 2,.slice none 0 0] 99)).heap.size=w.heap.size+1:=by simp
 have HB0:Hid (RowKit.Below w.heap.size w ((w.alloc (.cells #[.slice (some ⟨g,0,none⟩) 2 2,.slice none 0 0] 99)).alloc (.cells #[.slice D 2 d] 60))):=((Below.refl _ w).alloc (Nat.le_refl _) _).alloc (by simp) _
 have HX0:Hid (Bl ((w.alloc (.cells #[.slice (some ⟨g,0,none⟩) 2 2,.slice none 0 0] 99)).alloc (.cells #[.slice D 2 d] 60)) w.heap.size 99 #[.slice (some ⟨g,0,none⟩) 2 2,.slice none 0 0]):=(Bl.new _ _ _).alloc _
 have HY0:Hid (Bl ((w.alloc (.cells #[.slice (some ⟨g,0,none⟩) 2 2,.slice none 0 0] 99)).alloc (.cells #[.slice D 2 d] 60)) (w.heap.size+1) 60 #[.slice D 2 d]):=by
  rw [← hs1]
  exact Bl.new _ _ _
 go_enter Tryz.func137,Tryz.ntmps137
 go_upto_region 1 with (fail)
 generalize (w.alloc (.cells #[.slice (some ⟨g,0,none⟩) 2 2,.slice none 0 0] 99)).alloc (.cells #[.slice D 2 d] 60)=W0 at *
 try rw [hs1]
 go_wp2_with fail
 refine (keep0_20 _ _).mono ?_
 rintro e w1 ⟨rfl,rfl⟩
 go_wp2_with fail
 go_ret
 exact⟨rfl,HB0.out⟩
set_option maxRecDepth 100000 in
set_option maxHeartbeats 4000000 in
theorem byTerms_1 (s:ByteArray) (E:Option Addr) (x g:Nat) (A:Option Addr) (c:Nat) (D:Option Addr) (d:Nat) (w:World) (hr:Recs encE 5 w E 1 [en1 A c]) (h:TermR w A) (k:Sr w D 2 [sChair,sOffice]):Calls Tryz.prog 127 #[.agg #[.slice (some ⟨g,0,none⟩) 2 2,.slice none 0 0,.slice D 2 d,.slice none 0 0,.slice none 0 0,.bool false,.string s,.slice E 1 x]] w (KeRes w A c):=by
 have HH:=Lib.hid h
 have HK:=Lib.hid k
 have HR:=Lib.hid hr
 clear h k hr
 have HB0:Hid (RowKit.Below w.heap.size w (w.alloc (.cells #[.slice (some ⟨g,0,none⟩) 2 2,.slice none 0 0,.slice D 2 d,.slice none 0 0,.slice none 0 0,.bool false,.string s,.slice E 1 x] 232))):=(Below.refl _ _).alloc (Nat.le_refl _) _
 have HX0:Hid (Bl (w.alloc (.cells #[.slice (some ⟨g,0,none⟩) 2 2,.slice none 0 0,.slice D 2 d,.slice none 0 0,.slice none 0 0,.bool false,.string s,.slice E 1 x] 232)) w.heap.size 232 #[.slice (some ⟨g,0,none⟩) 2 2,.slice none 0 0,.slice D 2 d,.slice none 0 0,.slice none 0 0,.bool false,.string s,.slice E 1 x]):=Bl.new _ _ _
 go_enter Tryz.func127,Tryz.ntmps127
 go_upto_region 1 with (fail)
 generalize w.alloc (.cells #[.slice (some ⟨g,0,none⟩) 2 2,.slice none 0 0,.slice D 2 d,.slice none 0 0,.slice none 0 0,.bool false,.string s,.slice E 1 x] 232)=W0 at *
 have q1:W0.cell? ⟨w.heap.size,0,none⟩=some (.slice (some ⟨g,0,none⟩) 2 2):=HX0.out.cell 0
 have q2:W0.cell? ⟨w.heap.size,1,none⟩=some (.slice none 0 0):=HX0.out.cell 1
 have q3:W0.cell? ⟨w.heap.size,2,none⟩=some (.slice D 2 d):=HX0.out.cell 2
 have q4:W0.cell? ⟨w.heap.size,3,none⟩=some (.slice none 0 0):=HX0.out.cell 3
 have q5:W0.cell? ⟨w.heap.size,4,none⟩=some (.slice none 0 0):=HX0.out.cell 4
 have q6:W0.cell? ⟨w.heap.size,5,none⟩=some (.bool false):=HX0.out.cell 5
 have q7:W0.cell? ⟨w.heap.size,6,none⟩=some (.string s):=HX0.out.cell 6
 have q8:W0.cell? ⟨w.heap.size,7,none⟩=some (.slice E 1 x):=HX0.out.cell 7
 go_wp2_with fail
 refine (scored_1 E x g A c D d _ (HR.out.below HB0.out) (HH.out.below HB0.out) (HK.out.below HB0.out)).mono ?_
 rintro e w1 ⟨R,r,rfl,hR,hb⟩
 have HB1:=Lib.hid (HB0.out.trans (hb.mono HB0.out.size))
 have HR1:=Lib.hid hR
 clear q1 q2 q3 q4 q5 q6 q7 q8 hb hR
 go_wp2_with fail
 go_ret
 exact⟨R,r,rfl,HR1.out,HB1.out⟩
set_option maxRecDepth 100000 in
set_option maxHeartbeats 4000000 in
theorem byTerms_0 (s:ByteArray) (g:Nat) (D:Option Addr) (d:Nat) (w:World):Calls Tryz.prog 127 #[.agg #[.slice (some ⟨g,0,none⟩) 2 2,.slice none 0 0,.slice D 2 d,.slice none 0 0,.slice none 0 0,.bool false,.string s,.slice none 0 0]] w fun e w'=>e=.returned (.slice none 0 0)∧RowKit.Below w.heap.size w w':=by
 have HB0:Hid (RowKit.Below w.heap.size w (w.alloc (.cells #[.slice (some ⟨g,0,none⟩) 2 2,.slice none 0 0,.slice D 2 d,.slice none 0 0,.slice none 0 0,.bool false,.string s,.slice none 0 0] 232))):=(Below.refl _ _).alloc (Nat.le_refl _) _
 have HX0:Hid (Bl (w.alloc (.cells #[.slice (some ⟨g,0,none⟩) 2 2,.slice none 0 0,.slice D 2 d,.slice none 0 0,.slice none 0 0,.bool false,.string s,.slice none 0 0] 232)) w.heap.size 232 #[.slice (some ⟨g,0,none⟩) 2 2,.slice none 0 0,.slice D 2 d,.slice none 0 0,.slice none 0 0,.bool false,.string s,.slice none 0 0]):=Bl.new _ _ _
 go_enter Tryz.func127,Tryz.ntmps127
 go_upto_region 1 with (fail)
 generalize w.alloc (.cells #[.slice (some ⟨g,0,none⟩) 2 2,.slice none 0 0,.slice D 2 d,.slice none 0 0,.slice none 0 0,.bool false,.string s,.slice none 0 0] 232)=W0 at *
 have q1:W0.cell? ⟨w.heap.size,0,none⟩=some (.slice (some ⟨g,0,none⟩) 2 2):=HX0.out.cell 0
 have q2:W0.cell? ⟨w.heap.size,1,none⟩=some (.slice none 0 0):=HX0.out.cell 1
 have q3:W0.cell? ⟨w.heap.size,2,none⟩=some (.slice D 2 d):=HX0.out.cell 2
 have q4:W0.cell? ⟨w.heap.size,3,none⟩=some (.slice none 0 0):=HX0.out.cell 3
 have q5:W0.cell? ⟨w.heap.size,4,none⟩=some (.slice none 0 0):=HX0.out.cell 4
 have q6:W0.cell? ⟨w.heap.size,5,none⟩=some (.bool false):=HX0.out.cell 5
 have q7:W0.cell? ⟨w.heap.size,6,none⟩=some (.string s):=HX0.out.cell 6
 have q8:W0.cell? ⟨w.heap.size,7,none⟩=some (.slice none 0 0):=HX0.out.cell 7
 go_wp2_with fail
 refine (scored_0 g D d _).mono ?_
 rintro e w1 ⟨rfl,hb⟩
 have HB1:=Lib.hid (HB0.out.trans (hb.mono HB0.out.size))
 clear q1 q2 q3 q4 q5 q6 q7 q8 hb
 go_wp2_with fail
 go_ret
 exact⟨rfl,HB1.out⟩
set_option maxRecDepth 100000 in
set_option maxHeartbeats 4000000 in
theorem asComplete_0 (s:ByteArray) (g:Nat) (D:Option Addr) (d:Nat) (w:World):Calls Tryz.prog 128 #[.agg #[.slice (some ⟨g,0,none⟩) 2 2,.slice none 0 0,.slice D 2 d,.slice none 0 0,.slice none 0 0,.bool false,.string s,.slice none 0 0]] w fun e w'=>e=.returned (.slice none 0 0)∧RowKit.Below w.heap.size w w':=by
 have HB0:Hid (RowKit.Below w.heap.size w (w.alloc (.cells #[.slice (some ⟨g,0,none⟩) 2 2,.slice none 0 0,.slice D 2 d,.slice none 0 0,.slice none 0 0,.bool false,.string s,.slice none 0 0] 232))):=(Below.refl _ _).alloc (Nat.le_refl _) _
 have HX0:Hid (Bl (w.alloc (.cells #[.slice (some ⟨g,0,none⟩) 2 2,.slice none 0 0,.slice D 2 d,.slice none 0 0,.slice none 0 0,.bool false,.string s,.slice none 0 0] 232)) w.heap.size 232 #[.slice (some ⟨g,0,none⟩) 2 2,.slice none 0 0,.slice D 2 d,.slice none 0 0,.slice none 0 0,.bool false,.string s,.slice none 0 0]):=Bl.new _ _ _
 go_enter Tryz.func128,Tryz.ntmps128
 go_upto_region 1 with (fail)
 generalize w.alloc (.cells #[.slice (some ⟨g,0,none⟩) 2 2,.slice none 0 0,.slice D 2 d,.slice none 0 0,.slice none 0 0,.bool false,.string s,.slice none 0 0] 232)=W0 at *
 have q1:W0.cell? ⟨w.heap.size,5,none⟩=some (.bool false):=HX0.out.cell 5
 go_wp2_with fail
 go_ret
 exact⟨rfl,HB0.out⟩
set_option maxRecDepth 100000 in
set_option maxHeartbeats 4000000 in
theorem residual_0 (g:Nat) (D:Option Addr) (d:Nat) (w:World):Calls Tryz.prog 130 #[.agg #[.slice (some ⟨g,0,none⟩) 2 2,.slice none 0 0,.slice D 2 d,.slice none 0 0,.slice none 0 0,.bool false,.string s9401,.slice none 0 0]] w fun e w'=>e=.returned (.slice none 0 0)∧RowKit.Below w.heap.size w w':=by
 have e1:(s9401.toList == (⟨#[]⟩:ByteArray).toList)=false:=by decide +kernel
 have HB0:Hid (RowKit.Below w.heap.size w (w.alloc (.cells #[.slice (some ⟨g,0,none⟩) 2 2,.slice none 0 0,.slice D 2 d,.slice none 0 0,.slice none 0 0,.bool false,.string s9401,.slice none 0 0] 232))):=(Below.refl _ _).alloc (Nat.le_refl _) _
 have HX0:Hid (Bl (w.alloc (.cells #[.slice (some ⟨g,0,none⟩) 2 2,.slice none 0 0,.slice D 2 d,.slice none 0 0,.slice none 0 0,.bool false,.string s9401,.slice none 0 0] 232)) w.heap.size 232 #[.slice (some ⟨g,0,none⟩) 2 2,.slice none 0 0,.slice D 2 d,.slice none 0 0,.slice none 0 0,.bool false,.string s9401,.slice none 0 0]):=Bl.new _ _ _
 go_enter Tryz.func130,Tryz.ntmps130
 go_upto_region 1 with (fail)
 generalize w.alloc (.cells #[.slice (some ⟨g,0,none⟩) 2 2,.slice none 0 0,.slice D 2 d,.slice none 0 0,.slice none 0 0,.bool false,.string s9401,.slice none 0 0] 232)=W0 at *
 have q1:W0.cell? ⟨w.heap.size,6,none⟩=some (.string s9401):=HX0.out.cell 6
 have q2:W0.cell? ⟨w.heap.size,7,none⟩=some (.slice none 0 0):=HX0.out.cell 7
 go_wp2_with fail
 refine (keep0_20 _ _).mono ?_
 rintro e w1 ⟨rfl,rfl⟩
 go_wp2_with fail
 go_ret
 exact⟨rfl,HB0.out⟩
set_option maxRecDepth 100000 in
set_option maxHeartbeats 4000000 in
theorem all_0 (g:Nat) (D:Option Addr) (d:Nat) (w:World):Calls Tryz.prog 132 #[.agg #[.slice (some ⟨g,0,none⟩) 2 2,.slice none 0 0,.slice D 2 d,.slice none 0 0,.slice none 0 0,.bool false,.string s9401,.slice none 0 0]] w fun e w'=>e=.returned (.slice none 0 0)∧RowKit.Below w.heap.size w w':=by
 have e1:(s9401.toList == (⟨#[]⟩:ByteArray).toList)=false:=by decide +kernel
 have HB0:Hid (RowKit.Below w.heap.size w (w.alloc (.cells #[.slice (some ⟨g,0,none⟩) 2 2,.slice none 0 0,.slice D 2 d,.slice none 0 0,.slice none 0 0,.bool false,.string s9401,.slice none 0 0] 232))):=(Below.refl _ _).alloc (Nat.le_refl _) _
 have HX0:Hid (Bl (w.alloc (.cells #[.slice (some ⟨g,0,none⟩) 2 2,.slice none 0 0,.slice D 2 d,.slice none 0 0,.slice none 0 0,.bool false,.string s9401,.slice none 0 0] 232)) w.heap.size 232 #[.slice (some ⟨g,0,none⟩) 2 2,.slice none 0 0,.slice D 2 d,.slice none 0 0,.slice none 0 0,.bool false,.string s9401,.slice none 0 0]):=Bl.new _ _ _
 go_enter Tryz.func132,Tryz.ntmps132
 go_upto_region 1 with (fail)
 generalize w.alloc (.cells #[.slice (some ⟨g,0,none⟩) 2 2,.slice none 0 0,.slice D 2 d,.slice none 0 0,.slice none 0 0,.bool false,.string s9401,.slice none 0 0] 232)=W0 at *
 have q1:W0.cell? ⟨w.heap.size,6,none⟩=some (.string s9401):=HX0.out.cell 6
 have q2:W0.cell? ⟨w.heap.size,7,none⟩=some (.slice none 0 0):=HX0.out.cell 7
 go_wp2_with fail
 go_ret
 exact⟨rfl,HB0.out⟩
set_option maxRecDepth 100000 in
set_option maxHeartbeats 4000000 in
theorem akin_0 (s:ByteArray) (g:Nat) (D:Option Addr) (d:Nat) (w:World):Calls Tryz.prog 131 #[.agg #[.slice (some ⟨g,0,none⟩) 2 2,.slice none 0 0,.slice D 2 d,.slice none 0 0,.slice none 0 0,.bool false,.string s,.slice none 0 0]] w fun e w'=>e=.returned (.slice none 0 0)∧RowKit.Below w.heap.size w w':=by
 have hs1:(w.alloc (.cells #[.slice (some ⟨g,0,none⟩) 2 2,.slice none 0 0,.slice D 2 d,.slice none 0 0,.slice none 0 0,.bool false,.string s,.slice none 0 0] 232)).heap.size=w.heap.size+1:=by simp
 have HB0:Hid (RowKit.Below w.heap.size w ((w.alloc (.cells #[.slice (some ⟨g,0,none⟩) 2 2,.slice none 0 0,.slice D 2 d,.slice none 0 0,.slice none 0 0,.bool false,.string s,.slice none 0 0] 232)).alloc (.cells #[.int .i64 0] 3))):=((Below.refl _ w).alloc (Nat.le_refl _) _).alloc (by simp) _
 have HX0:Hid (Bl ((w.alloc (.cells #[.slice (some ⟨g,0,none⟩) 2 2,.slice none 0 0,.slice D 2 d,.slice none 0 0,.slice none 0 0,.bool false,.string s,.slice none 0 0] 232)).alloc (.cells #[.int .i64 0] 3)) w.heap.size 232 #[.slice (some ⟨g,0,none⟩) 2 2,.slice none 0 0,.slice D 2 d,.slice none 0 0,.slice none 0 0,.bool false,.string s,.slice none 0 0]):=(Bl.new _ _ _).alloc _
 have HY0:Hid (Bl ((w.alloc (.cells #[.slice (some ⟨g,0,none⟩) 2 2,.slice none 0 0,.slice D 2 d,.slice none 0 0,.slice none 0 0,.bool false,.string s,.slice none 0 0] 232)).alloc (.cells #[.int .i64 0] 3)) (w.heap.size+1) 3 #[.int .i64 0]):=by
  rw [← hs1]
  exact Bl.new _ _ _
 go_enter Tryz.func131,Tryz.ntmps131
 go_upto_region 2 with (fail)
 generalize (w.alloc (.cells #[.slice (some ⟨g,0,none⟩) 2 2,.slice none 0 0,.slice D 2 d,.slice none 0 0,.slice none 0 0,.bool false,.string s,.slice none 0 0] 232)).alloc (.cells #[.int .i64 0] 3)=W0 at *
 try rw [hs1]
 have q1:W0.cell? ⟨w.heap.size,7,none⟩=some (.slice none 0 0):=HX0.out.cell 7
 have q2:W0.cell? ⟨(w.heap.size+1),0,none⟩=some (.int .i64 0):=HY0.out.cell 0
 go_wp2_with fail
 refine wp_loop_rounds 1 ?_
 rw [rounds_succ]
 go_wp2_with fail
 go_ret
 exact⟨rfl,HB0.out⟩
set_option maxRecDepth 100000 in
set_option maxHeartbeats 4000000 in
theorem ins0_20 (fv:Value) (w:World):Calls Tryz.prog 263 #[.slice none 0 0,.int .i64 0,.int .i64 0,fv] w fun e w'=>e=.returned (.tuple #[])∧w=w':=by
 have u0:IntKind.i64.wrap (0+1)=1:=IntWalk.i64_in 1 (by omega)
 go_enter Tryz.func263,Tryz.ntmps263
 go_wp2_with fail
 refine wp_loop_rounds 1 ?_
 rw [rounds_succ]
 go_wp2_with fail
 go_end0
 exact⟨rfl,rfl⟩
set_option maxRecDepth 100000 in
set_option maxHeartbeats 4000000 in
theorem stab0_20 (fv:Value) (w:World):Calls Tryz.prog 230 #[.slice none 0 0,.int .i64 0,fv] w fun e w'=>e=.returned (.tuple #[])∧w=w':=by
 go_enter Tryz.func230,Tryz.ntmps230
 go_wp2_with fail
 refine wp_loop_rounds 1 ?_
 rw [rounds_succ]
 go_wp2_with fail
 refine (ins0_20 _ _).mono ?_
 rintro e w1 ⟨rfl,rfl⟩
 go_wp2_with fail
 refine wp_loop_rounds 1 ?_
 rw [rounds_succ]
 go_wp2_with fail
 go_end0
 exact⟨rfl,rfl⟩
set_option maxRecDepth 100000 in
set_option maxHeartbeats 4000000 in
theorem sstab0_20 (fv:Value) (w:World):Calls Tryz.prog 196 #[.slice none 0 0,fv] w fun e w'=>e=.returned (.tuple #[])∧w=w':=by
 go_enter Tryz.func196,Tryz.ntmps196
 go_wp2_with fail
 refine (stab0_20 _ _).mono ?_
 rintro e w1 ⟨rfl,rfl⟩
 go_wp2_with fail
 go_end0
 exact⟨rfl,rfl⟩
set_option maxRecDepth 100000 in
set_option maxHeartbeats 4000000 in
theorem chars_20 (D:Option Addr) (d:Nat) (w:World):Calls Tryz.prog 136 #[.agg #[.slice D 2 d,.slice none 0 0,.slice none 0 0,.bool false]] w fun e w'=>e=.returned (.slice none 0 0)∧RowKit.Below w.heap.size w w':=by
 have HB0:Hid (RowKit.Below w.heap.size w (w.alloc (.cells #[.slice D 2 d,.slice none 0 0,.slice none 0 0,.bool false] 90))):=(Below.refl _ _).alloc (Nat.le_refl _) _
 have HX0:Hid (Bl (w.alloc (.cells #[.slice D 2 d,.slice none 0 0,.slice none 0 0,.bool false] 90)) w.heap.size 90 #[.slice D 2 d,.slice none 0 0,.slice none 0 0,.bool false]):=Bl.new _ _ _
 go_enter Tryz.func136,Tryz.ntmps136
 go_upto_region 1 with (fail)
 generalize w.alloc (.cells #[.slice D 2 d,.slice none 0 0,.slice none 0 0,.bool false] 90)=W0 at *
 have q1:W0.cell? ⟨w.heap.size,0,none⟩=some (.slice D 2 d):=HX0.out.cell 0
 have q2:W0.cell? ⟨w.heap.size,1,none⟩=some (.slice none 0 0):=HX0.out.cell 1
 have q3:W0.cell? ⟨w.heap.size,2,none⟩=some (.slice none 0 0):=HX0.out.cell 2
 have q4:W0.cell? ⟨w.heap.size,3,none⟩=some (.bool false):=HX0.out.cell 3
 go_wp2_with fail
 refine wp_loop_rounds 1 ?_
 rw [rounds_succ]
 go_wp2_with fail
 refine wp_loop_rounds 1 ?_
 rw [rounds_succ]
 go_wp2_with fail
 refine (sstab0_20 _ _).mono ?_
 rintro e w1 ⟨rfl,rfl⟩
 go_wp2_with fail
 go_ret
 exact⟨rfl,HB0.out⟩
set_option maxRecDepth 100000 in
set_option maxHeartbeats 4000000 in
theorem byChar_0 (s:ByteArray) (g:Nat) (D:Option Addr) (d:Nat) (w:World):Calls Tryz.prog 129 #[.agg #[.slice (some ⟨g,0,none⟩) 2 2,.slice none 0 0,.slice D 2 d,.slice none 0 0,.slice none 0 0,.bool false,.string s,.slice none 0 0]] w fun e w'=>e=.returned (.slice none 0 0)∧RowKit.Below w.heap.size w w':=by
 have HB0:Hid (RowKit.Below w.heap.size w (w.alloc (.cells #[.slice (some ⟨g,0,none⟩) 2 2,.slice none 0 0,.slice D 2 d,.slice none 0 0,.slice none 0 0,.bool false,.string s,.slice none 0 0] 232))):=(Below.refl _ _).alloc (Nat.le_refl _) _
 have HX0:Hid (Bl (w.alloc (.cells #[.slice (some ⟨g,0,none⟩) 2 2,.slice none 0 0,.slice D 2 d,.slice none 0 0,.slice none 0 0,.bool false,.string s,.slice none 0 0] 232)) w.heap.size 232 #[.slice (some ⟨g,0,none⟩) 2 2,.slice none 0 0,.slice D 2 d,.slice none 0 0,.slice none 0 0,.bool false,.string s,.slice none 0 0]):=Bl.new _ _ _
 go_enter Tryz.func129,Tryz.ntmps129
 go_upto_region 1 with (fail)
 generalize w.alloc (.cells #[.slice (some ⟨g,0,none⟩) 2 2,.slice none 0 0,.slice D 2 d,.slice none 0 0,.slice none 0 0,.bool false,.string s,.slice none 0 0] 232)=W0 at *
 have q1:W0.cell? ⟨w.heap.size,0,none⟩=some (.slice (some ⟨g,0,none⟩) 2 2):=HX0.out.cell 0
 have q2:W0.cell? ⟨w.heap.size,1,none⟩=some (.slice none 0 0):=HX0.out.cell 1
 have q3:W0.cell? ⟨w.heap.size,2,none⟩=some (.slice D 2 d):=HX0.out.cell 2
 have q4:W0.cell? ⟨w.heap.size,3,none⟩=some (.slice none 0 0):=HX0.out.cell 3
 have q5:W0.cell? ⟨w.heap.size,4,none⟩=some (.slice none 0 0):=HX0.out.cell 4
 have q6:W0.cell? ⟨w.heap.size,5,none⟩=some (.bool false):=HX0.out.cell 5
 have q7:W0.cell? ⟨w.heap.size,6,none⟩=some (.string s):=HX0.out.cell 6
 have q8:W0.cell? ⟨w.heap.size,7,none⟩=some (.slice none 0 0):=HX0.out.cell 7
 go_wp2_with fail
 refine (chars_20 D d _).mono ?_
 rintro e w1 ⟨rfl,hb⟩
 have HX1:=Lib.hid (HX0.out.keep hb)
 have HB1:=Lib.hid (HB0.out.trans (hb.mono HB0.out.size))
 clear q1 q2 q3 q4 q5 q6 q7 q8 hb HX0 HB0
 have HX2:=Lib.hid (HX1.out.alloc (.cells #[.slice none 0 0] 88))
 have HB2:=Lib.hid (HB1.out.alloc HB1.out.size (.cells #[.slice none 0 0] 88))
 have q9:(w1.alloc (.cells #[.slice none 0 0] 88)).cell? ⟨w.heap.size,0,none⟩=some (.slice (some ⟨g,0,none⟩) 2 2):=HX2.out.cell 0
 have q10:(w1.alloc (.cells #[.slice none 0 0] 88)).cell? ⟨w.heap.size,1,none⟩=some (.slice none 0 0):=HX2.out.cell 1
 have q11:(w1.alloc (.cells #[.slice none 0 0] 88)).cell? ⟨w.heap.size,2,none⟩=some (.slice D 2 d):=HX2.out.cell 2
 have q12:(w1.alloc (.cells #[.slice none 0 0] 88)).cell? ⟨w.heap.size,3,none⟩=some (.slice none 0 0):=HX2.out.cell 3
 have q13:(w1.alloc (.cells #[.slice none 0 0] 88)).cell? ⟨w.heap.size,4,none⟩=some (.slice none 0 0):=HX2.out.cell 4
 have q14:(w1.alloc (.cells #[.slice none 0 0] 88)).cell? ⟨w.heap.size,5,none⟩=some (.bool false):=HX2.out.cell 5
 have q15:(w1.alloc (.cells #[.slice none 0 0] 88)).cell? ⟨w.heap.size,6,none⟩=some (.string s):=HX2.out.cell 6
 have q16:(w1.alloc (.cells #[.slice none 0 0] 88)).cell? ⟨w.heap.size,7,none⟩=some (.slice none 0 0):=HX2.out.cell 7
 go_wp2_with fail
 refine (keep0_20 _ _).mono ?_
 rintro e w2 ⟨rfl,rfl⟩
 go_wp2_with fail
 go_ret
 exact⟨rfl,HB2.out⟩
end Go.Proofs.YtbokkeooahodaaaGreatDoor

/-
  A part of the proof of TopQuotaDayCardSaid: lemmas and contracts of functions that the law calls. No statement of the seat is proved here. Conditions: as each says.
-/
import Derived.Test.YtbokkeooahodaaaGreatDoorQBB
namespace Go.Proofs.YtbokkeooahodaaaGreatDoor
open Go.RowKit
set_option linter.unusedVariables false
theorem inB_true {x m:Int} (h:inB x m=true):0≤x∧x≤m:=by unfold inB at h;simpa using h
theorem inB_false {x m:Int} (h:inB x m=false):¬ (0≤x∧x≤m):=by unfold inB at h;simpa using h
set_option maxRecDepth 100000 in
set_option maxHeartbeats 8000000 in
theorem rduty_any (r am pe mo le:Int) (hm hl:Bool) (w:World) :
  Calls Tryz.prog 82 #[.agg (duA ⟨r,am,pe,hm,mo,hl,le⟩)] w (VRes w (duErr ⟨r,am,pe,hm,mo,hl,le⟩)):=by
 have HB:Hid (∀ T,RowKit.Below w.heap.size w (w.alloc (.cells (duA ⟨r,am,pe,hm,mo,hl,le⟩) T))):=fun T=>(Below.refl _ _).alloc (Nat.le_refl _) _
 unfold duA at *
 dsimp only at *
 have HN:Hid (¬ (0≤r∧r≤10000000∧0≤am∧am≤100000000∧(0<am→1≤pe∧pe≤1000000)∧(am=0→pe=0)∧0≤mo∧mo≤10000000∧0≤le∧le≤10000000)→duErr ⟨r,am,pe,hm,mo,hl,le⟩=2):=fun h=>duErr_range h
 have HF:Hid ((0≤r∧r≤10000000∧0≤am∧am≤100000000∧(0<am→1≤pe∧pe≤1000000)∧(am=0→pe=0)∧0≤mo∧mo≤10000000∧0≤le∧le≤10000000)→¬ ((hm=false→mo=0)∧(hl=false→le=0)∧(hm=true→hl=true→le≤mo))→duErr ⟨r,am,pe,hm,mo,hl,le⟩=1):=fun h h2=>duErr_fit h h2
 have HY:Hid ((0≤r∧r≤10000000∧0≤am∧am≤100000000∧(0<am→1≤pe∧pe≤1000000)∧(am=0→pe=0)∧0≤mo∧mo≤10000000∧0≤le∧le≤10000000)→((hm=false→mo=0)∧(hl=false→le=0)∧(hm=true→hl=true→le≤mo))→duErr ⟨r,am,pe,hm,mo,hl,le⟩=0):=fun h h2=>duErr_ok h h2
 obtain⟨b1,hb1⟩:∃ b,inB r 10000000=b:=⟨_,rfl⟩
 have H1:Hid (∀ w,Calls Tryz.prog 83 #[.int .i64 r,.int .i64 10000000] w fun e w'=>e=.returned (.bool b1)∧w=w'):=fun w=>by rw [← hb1];exact rin_any _ _ w
 have T1:Hid (b1=true→0≤r∧r≤10000000):=fun h=>inB_true (hb1.trans h)
 have N1:Hid (b1=false→¬ (0≤r∧r≤10000000)):=fun h=>inB_false (hb1.trans h)
 clear hb1
 obtain⟨b2,hb2⟩:∃ b,inB am 100000000=b:=⟨_,rfl⟩
 have H2:Hid (∀ w,Calls Tryz.prog 83 #[.int .i64 am,.int .i64 100000000] w fun e w'=>e=.returned (.bool b2)∧w=w'):=fun w=>by rw [← hb2];exact rin_any _ _ w
 have T2:Hid (b2=true→0≤am∧am≤100000000):=fun h=>inB_true (hb2.trans h)
 have N2:Hid (b2=false→¬ (0≤am∧am≤100000000)):=fun h=>inB_false (hb2.trans h)
 clear hb2
 obtain⟨b3,hb3⟩:∃ b,inB mo 10000000=b:=⟨_,rfl⟩
 have H3:Hid (∀ w,Calls Tryz.prog 83 #[.int .i64 mo,.int .i64 10000000] w fun e w'=>e=.returned (.bool b3)∧w=w'):=fun w=>by rw [← hb3];exact rin_any _ _ w
 have T3:Hid (b3=true→0≤mo∧mo≤10000000):=fun h=>inB_true (hb3.trans h)
 have N3:Hid (b3=false→¬ (0≤mo∧mo≤10000000)):=fun h=>inB_false (hb3.trans h)
 clear hb3
 obtain⟨b4,hb4⟩:∃ b,inB le 10000000=b:=⟨_,rfl⟩
 have H4:Hid (∀ w,Calls Tryz.prog 83 #[.int .i64 le,.int .i64 10000000] w fun e w'=>e=.returned (.bool b4)∧w=w'):=fun w=>by rw [← hb4];exact rin_any _ _ w
 have T4:Hid (b4=true→0≤le∧le≤10000000):=fun h=>inB_true (hb4.trans h)
 have N4:Hid (b4=false→¬ (0≤le∧le≤10000000)):=fun h=>inB_false (hb4.trans h)
 clear hb4
 cases b1 with
 | false =>
  have g1:=N1.out rfl
  have E:=Lib.hid (HN.out (by omega))
  clear HN HF HY T1 T2 T3 T4 N1 N2 N3 N4
  try clear HR
  go_enter Tryz.func82,Tryz.ntmps82
  go_wp2_with fail
  refine (H1.out _).mono ?_
  rintro e w1 ⟨rfl,rfl⟩
  go_wp2
  go_ret
  exact⟨ret_int' E.out.symm,HB.out _⟩
 | true =>
 have g1:=T1.out rfl
 cases b2 with
 | false =>
  have g2:=N2.out rfl
  have E:=Lib.hid (HN.out (by omega))
  clear HN HF HY T1 T2 T3 T4 N1 N2 N3 N4
  try clear HR
  go_enter Tryz.func82,Tryz.ntmps82
  go_wp2_with fail
  refine (H1.out _).mono ?_
  rintro e w1 ⟨rfl,rfl⟩
  go_wp2_with fail
  refine (H2.out _).mono ?_
  rintro e w1 ⟨rfl,rfl⟩
  go_wp2
  go_ret
  exact⟨ret_int' E.out.symm,HB.out _⟩
 | true =>
 have g2:=T2.out rfl
 by_cases a0:0<am
 ·have x0:decide (0<am)=true:=by simpa using a0
  have x1:(am == 0)=false:=by simp;omega
  by_cases g5:pe<1
  ·have d5:decide (pe<1)=true:=by simpa using g5
   have E:=Lib.hid (HN.out (by omega))
   clear HN HF HY T1 T2 T3 T4 N1 N2 N3 N4
   try clear HR
   go_enter Tryz.func82,Tryz.ntmps82
   go_wp2_with fail
   refine (H1.out _).mono ?_
   rintro e w1 ⟨rfl,rfl⟩
   go_wp2_with fail
   refine (H2.out _).mono ?_
   rintro e w1 ⟨rfl,rfl⟩
   go_wp2
   go_ret
   exact⟨ret_int' E.out.symm,HB.out _⟩
  have d5:decide (pe<1)=false:=by simpa using g5
  by_cases g6:1000000<pe
  ·have d6:decide (1000000<pe)=true:=by simpa using g6
   have E:=Lib.hid (HN.out (by omega))
   clear HN HF HY T1 T2 T3 T4 N1 N2 N3 N4
   try clear HR
   go_enter Tryz.func82,Tryz.ntmps82
   go_wp2_with fail
   refine (H1.out _).mono ?_
   rintro e w1 ⟨rfl,rfl⟩
   go_wp2_with fail
   refine (H2.out _).mono ?_
   rintro e w1 ⟨rfl,rfl⟩
   go_wp2
   go_ret
   exact⟨ret_int' E.out.symm,HB.out _⟩
  have d6:decide (1000000<pe)=false:=by simpa using g6
  cases b3 with
  | false =>
   have g3:=N3.out rfl
   have E:=Lib.hid (HN.out (by omega))
   clear HN HF HY T1 T2 T3 T4 N1 N2 N3 N4
   try clear HR
   go_enter Tryz.func82,Tryz.ntmps82
   go_wp2_with fail
   refine (H1.out _).mono ?_
   rintro e w1 ⟨rfl,rfl⟩
   go_wp2_with fail
   refine (H2.out _).mono ?_
   rintro e w1 ⟨rfl,rfl⟩
   go_wp2_with fail
   refine (H3.out _).mono ?_
   rintro e w1 ⟨rfl,rfl⟩
   go_wp2
   go_ret
   exact⟨ret_int' E.out.symm,HB.out _⟩
  | true =>
  have g3:=T3.out rfl
  cases b4 with
  | false =>
   have g4:=N4.out rfl
   have E:=Lib.hid (HN.out (by omega))
   clear HN HF HY T1 T2 T3 T4 N1 N2 N3 N4
   try clear HR
   go_enter Tryz.func82,Tryz.ntmps82
   go_wp2_with fail
   refine (H1.out _).mono ?_
   rintro e w1 ⟨rfl,rfl⟩
   go_wp2_with fail
   refine (H2.out _).mono ?_
   rintro e w1 ⟨rfl,rfl⟩
   go_wp2_with fail
   refine (H3.out _).mono ?_
   rintro e w1 ⟨rfl,rfl⟩
   go_wp2_with fail
   refine (H4.out _).mono ?_
   rintro e w1 ⟨rfl,rfl⟩
   go_wp2
   go_ret
   exact⟨ret_int' E.out.symm,HB.out _⟩
  | true =>
  have g4:=T4.out rfl
  have HR:Hid (0≤r∧r≤10000000∧0≤am∧am≤100000000∧(0<am→1≤pe∧pe≤1000000)∧(am=0→pe=0)∧0≤mo∧mo≤10000000∧0≤le∧le≤10000000):=by unfold Hid;omega
  by_cases e1:mo=0
  ·subst e1
   by_cases e2:le=0
   ·subst e2
    cases hm with
    | false =>
     cases hl with
     | false =>
      have E:=Lib.hid (HY.out HR.out (by first | (simp;done) | (simp;omega) | omega))
      clear HN HF HY T1 T2 T3 T4 N1 N2 N3 N4
      try clear HR
      go_enter Tryz.func82,Tryz.ntmps82
      go_wp2_with fail
      refine (H1.out _).mono ?_
      rintro e w1 ⟨rfl,rfl⟩
      go_wp2_with fail
      refine (H2.out _).mono ?_
      rintro e w1 ⟨rfl,rfl⟩
      go_wp2_with fail
      refine (H3.out _).mono ?_
      rintro e w1 ⟨rfl,rfl⟩
      go_wp2_with fail
      refine (H4.out _).mono ?_
      rintro e w1 ⟨rfl,rfl⟩
      go_wp2
      go_ret
      exact⟨ret_int' E.out.symm,HB.out _⟩
     | true =>
      have E:=Lib.hid (HY.out HR.out (by first | (simp;done) | (simp;omega) | omega))
      clear HN HF HY T1 T2 T3 T4 N1 N2 N3 N4
      try clear HR
      go_enter Tryz.func82,Tryz.ntmps82
      go_wp2_with fail
      refine (H1.out _).mono ?_
      rintro e w1 ⟨rfl,rfl⟩
      go_wp2_with fail
      refine (H2.out _).mono ?_
      rintro e w1 ⟨rfl,rfl⟩
      go_wp2_with fail
      refine (H3.out _).mono ?_
      rintro e w1 ⟨rfl,rfl⟩
      go_wp2_with fail
      refine (H4.out _).mono ?_
      rintro e w1 ⟨rfl,rfl⟩
      go_wp2
      go_ret
      exact⟨ret_int' E.out.symm,HB.out _⟩
    | true =>
     cases hl with
     | false =>
      have E:=Lib.hid (HY.out HR.out (by first | (simp;done) | (simp;omega) | omega))
      clear HN HF HY T1 T2 T3 T4 N1 N2 N3 N4
      try clear HR
      go_enter Tryz.func82,Tryz.ntmps82
      go_wp2_with fail
      refine (H1.out _).mono ?_
      rintro e w1 ⟨rfl,rfl⟩
      go_wp2_with fail
      refine (H2.out _).mono ?_
      rintro e w1 ⟨rfl,rfl⟩
      go_wp2_with fail
      refine (H3.out _).mono ?_
      rintro e w1 ⟨rfl,rfl⟩
      go_wp2_with fail
      refine (H4.out _).mono ?_
      rintro e w1 ⟨rfl,rfl⟩
      go_wp2
      go_ret
      exact⟨ret_int' E.out.symm,HB.out _⟩
     | true =>
      have E:=Lib.hid (HY.out HR.out (by first | (simp;done) | (simp;omega) | omega))
      clear HN HF HY T1 T2 T3 T4 N1 N2 N3 N4
      try clear HR
      go_enter Tryz.func82,Tryz.ntmps82
      go_wp2_with fail
      refine (H1.out _).mono ?_
      rintro e w1 ⟨rfl,rfl⟩
      go_wp2_with fail
      refine (H2.out _).mono ?_
      rintro e w1 ⟨rfl,rfl⟩
      go_wp2_with fail
      refine (H3.out _).mono ?_
      rintro e w1 ⟨rfl,rfl⟩
      go_wp2_with fail
      refine (H4.out _).mono ?_
      rintro e w1 ⟨rfl,rfl⟩
      go_wp2
      go_ret
      exact⟨ret_int' E.out.symm,HB.out _⟩
   ·have m2:(le != 0)=true:=by simpa using e2
    cases hm with
    | false =>
     cases hl with
     | false =>
      have E:=Lib.hid (HF.out HR.out (by first | (simp;done) | (simp;omega) | omega))
      clear HN HF HY T1 T2 T3 T4 N1 N2 N3 N4
      try clear HR
      go_enter Tryz.func82,Tryz.ntmps82
      go_wp2_with fail
      refine (H1.out _).mono ?_
      rintro e w1 ⟨rfl,rfl⟩
      go_wp2_with fail
      refine (H2.out _).mono ?_
      rintro e w1 ⟨rfl,rfl⟩
      go_wp2_with fail
      refine (H3.out _).mono ?_
      rintro e w1 ⟨rfl,rfl⟩
      go_wp2_with fail
      refine (H4.out _).mono ?_
      rintro e w1 ⟨rfl,rfl⟩
      go_wp2
      go_ret
      exact⟨ret_int' E.out.symm,HB.out _⟩
     | true =>
      have E:=Lib.hid (HY.out HR.out (by first | (simp;done) | (simp;omega) | omega))
      clear HN HF HY T1 T2 T3 T4 N1 N2 N3 N4
      try clear HR
      go_enter Tryz.func82,Tryz.ntmps82
      go_wp2_with fail
      refine (H1.out _).mono ?_
      rintro e w1 ⟨rfl,rfl⟩
      go_wp2_with fail
      refine (H2.out _).mono ?_
      rintro e w1 ⟨rfl,rfl⟩
      go_wp2_with fail
      refine (H3.out _).mono ?_
      rintro e w1 ⟨rfl,rfl⟩
      go_wp2_with fail
      refine (H4.out _).mono ?_
      rintro e w1 ⟨rfl,rfl⟩
      go_wp2
      go_ret
      exact⟨ret_int' E.out.symm,HB.out _⟩
    | true =>
     cases hl with
     | false =>
      have E:=Lib.hid (HF.out HR.out (by first | (simp;done) | (simp;omega) | omega))
      clear HN HF HY T1 T2 T3 T4 N1 N2 N3 N4
      try clear HR
      go_enter Tryz.func82,Tryz.ntmps82
      go_wp2_with fail
      refine (H1.out _).mono ?_
      rintro e w1 ⟨rfl,rfl⟩
      go_wp2_with fail
      refine (H2.out _).mono ?_
      rintro e w1 ⟨rfl,rfl⟩
      go_wp2_with fail
      refine (H3.out _).mono ?_
      rintro e w1 ⟨rfl,rfl⟩
      go_wp2_with fail
      refine (H4.out _).mono ?_
      rintro e w1 ⟨rfl,rfl⟩
      go_wp2
      go_ret
      exact⟨ret_int' E.out.symm,HB.out _⟩
     | true =>
      by_cases e3:(0:Int)<le
      ·have d3:decide ((0:Int)<le)=true:=by simpa using e3
       have E:=Lib.hid (HF.out HR.out (by first | (simp;done) | (simp;omega) | omega))
       clear HN HF HY T1 T2 T3 T4 N1 N2 N3 N4
       try clear HR
       go_enter Tryz.func82,Tryz.ntmps82
       go_wp2_with fail
       refine (H1.out _).mono ?_
       rintro e w1 ⟨rfl,rfl⟩
       go_wp2_with fail
       refine (H2.out _).mono ?_
       rintro e w1 ⟨rfl,rfl⟩
       go_wp2_with fail
       refine (H3.out _).mono ?_
       rintro e w1 ⟨rfl,rfl⟩
       go_wp2_with fail
       refine (H4.out _).mono ?_
       rintro e w1 ⟨rfl,rfl⟩
       go_wp2
       go_ret
       exact⟨ret_int' E.out.symm,HB.out _⟩
      ·exfalso;omega
  ·have m1:(mo != 0)=true:=by simpa using e1
   by_cases e2:le=0
   ·subst e2
    cases hm with
    | false =>
     have E:=Lib.hid (HF.out HR.out (by first | (simp;done) | (simp;omega) | omega))
     clear HN HF HY T1 T2 T3 T4 N1 N2 N3 N4
     try clear HR
     go_enter Tryz.func82,Tryz.ntmps82
     go_wp2_with fail
     refine (H1.out _).mono ?_
     rintro e w1 ⟨rfl,rfl⟩
     go_wp2_with fail
     refine (H2.out _).mono ?_
     rintro e w1 ⟨rfl,rfl⟩
     go_wp2_with fail
     refine (H3.out _).mono ?_
     rintro e w1 ⟨rfl,rfl⟩
     go_wp2_with fail
     refine (H4.out _).mono ?_
     rintro e w1 ⟨rfl,rfl⟩
     go_wp2
     go_ret
     exact⟨ret_int' E.out.symm,HB.out _⟩
    | true =>
     cases hl with
     | false =>
      have E:=Lib.hid (HY.out HR.out (by first | (simp;done) | (simp;omega) | omega))
      clear HN HF HY T1 T2 T3 T4 N1 N2 N3 N4
      try clear HR
      go_enter Tryz.func82,Tryz.ntmps82
      go_wp2_with fail
      refine (H1.out _).mono ?_
      rintro e w1 ⟨rfl,rfl⟩
      go_wp2_with fail
      refine (H2.out _).mono ?_
      rintro e w1 ⟨rfl,rfl⟩
      go_wp2_with fail
      refine (H3.out _).mono ?_
      rintro e w1 ⟨rfl,rfl⟩
      go_wp2_with fail
      refine (H4.out _).mono ?_
      rintro e w1 ⟨rfl,rfl⟩
      go_wp2
      go_ret
      exact⟨ret_int' E.out.symm,HB.out _⟩
     | true =>
      by_cases e3:mo<(0:Int)
      ·exfalso;omega
      ·have d3:decide (mo<(0:Int))=false:=by simpa using e3
       have E:=Lib.hid (HY.out HR.out (by first | (simp;done) | (simp;omega) | omega))
       clear HN HF HY T1 T2 T3 T4 N1 N2 N3 N4
       try clear HR
       go_enter Tryz.func82,Tryz.ntmps82
       go_wp2_with fail
       refine (H1.out _).mono ?_
       rintro e w1 ⟨rfl,rfl⟩
       go_wp2_with fail
       refine (H2.out _).mono ?_
       rintro e w1 ⟨rfl,rfl⟩
       go_wp2_with fail
       refine (H3.out _).mono ?_
       rintro e w1 ⟨rfl,rfl⟩
       go_wp2_with fail
       refine (H4.out _).mono ?_
       rintro e w1 ⟨rfl,rfl⟩
       go_wp2
       go_ret
       exact⟨ret_int' E.out.symm,HB.out _⟩
   ·have m2:(le != 0)=true:=by simpa using e2
    cases hm with
    | false =>
     have E:=Lib.hid (HF.out HR.out (by first | (simp;done) | (simp;omega) | omega))
     clear HN HF HY T1 T2 T3 T4 N1 N2 N3 N4
     try clear HR
     go_enter Tryz.func82,Tryz.ntmps82
     go_wp2_with fail
     refine (H1.out _).mono ?_
     rintro e w1 ⟨rfl,rfl⟩
     go_wp2_with fail
     refine (H2.out _).mono ?_
     rintro e w1 ⟨rfl,rfl⟩
     go_wp2_with fail
     refine (H3.out _).mono ?_
     rintro e w1 ⟨rfl,rfl⟩
     go_wp2_with fail
     refine (H4.out _).mono ?_
     rintro e w1 ⟨rfl,rfl⟩
     go_wp2
     go_ret
     exact⟨ret_int' E.out.symm,HB.out _⟩
    | true =>
     cases hl with
     | false =>
      have E:=Lib.hid (HF.out HR.out (by first | (simp;done) | (simp;omega) | omega))
      clear HN HF HY T1 T2 T3 T4 N1 N2 N3 N4
      try clear HR
      go_enter Tryz.func82,Tryz.ntmps82
      go_wp2_with fail
      refine (H1.out _).mono ?_
      rintro e w1 ⟨rfl,rfl⟩
      go_wp2_with fail
      refine (H2.out _).mono ?_
      rintro e w1 ⟨rfl,rfl⟩
      go_wp2_with fail
      refine (H3.out _).mono ?_
      rintro e w1 ⟨rfl,rfl⟩
      go_wp2_with fail
      refine (H4.out _).mono ?_
      rintro e w1 ⟨rfl,rfl⟩
      go_wp2
      go_ret
      exact⟨ret_int' E.out.symm,HB.out _⟩
     | true =>
      by_cases e3:mo<le
      ·have d3:decide (mo<le)=true:=by simpa using e3
       have E:=Lib.hid (HF.out HR.out (by first | (simp;done) | (simp;omega) | omega))
       clear HN HF HY T1 T2 T3 T4 N1 N2 N3 N4
       try clear HR
       go_enter Tryz.func82,Tryz.ntmps82
       go_wp2_with fail
       refine (H1.out _).mono ?_
       rintro e w1 ⟨rfl,rfl⟩
       go_wp2_with fail
       refine (H2.out _).mono ?_
       rintro e w1 ⟨rfl,rfl⟩
       go_wp2_with fail
       refine (H3.out _).mono ?_
       rintro e w1 ⟨rfl,rfl⟩
       go_wp2_with fail
       refine (H4.out _).mono ?_
       rintro e w1 ⟨rfl,rfl⟩
       go_wp2
       go_ret
       exact⟨ret_int' E.out.symm,HB.out _⟩
      ·have d3:decide (mo<le)=false:=by simpa using e3
       have E:=Lib.hid (HY.out HR.out (by first | (simp;done) | (simp;omega) | omega))
       clear HN HF HY T1 T2 T3 T4 N1 N2 N3 N4
       try clear HR
       go_enter Tryz.func82,Tryz.ntmps82
       go_wp2_with fail
       refine (H1.out _).mono ?_
       rintro e w1 ⟨rfl,rfl⟩
       go_wp2_with fail
       refine (H2.out _).mono ?_
       rintro e w1 ⟨rfl,rfl⟩
       go_wp2_with fail
       refine (H3.out _).mono ?_
       rintro e w1 ⟨rfl,rfl⟩
       go_wp2_with fail
       refine (H4.out _).mono ?_
       rintro e w1 ⟨rfl,rfl⟩
       go_wp2
       go_ret
       exact⟨ret_int' E.out.symm,HB.out _⟩
 ·have x0:decide (0<am)=false:=by simpa using a0
  have x1:(am == 0)=true:=by simp;omega
  by_cases a1:pe=0
  case neg =>
   have x2:(pe != 0)=true:=by simpa using a1
   have E:=Lib.hid (HN.out (by omega))
   clear HN HF HY T1 T2 T3 T4 N1 N2 N3 N4
   try clear HR
   go_enter Tryz.func82,Tryz.ntmps82
   go_wp2_with fail
   refine (H1.out _).mono ?_
   rintro e w1 ⟨rfl,rfl⟩
   go_wp2_with fail
   refine (H2.out _).mono ?_
   rintro e w1 ⟨rfl,rfl⟩
   go_wp2
   go_ret
   exact⟨ret_int' E.out.symm,HB.out _⟩
  subst a1
  cases b3 with
  | false =>
   have g3:=N3.out rfl
   have E:=Lib.hid (HN.out (by omega))
   clear HN HF HY T1 T2 T3 T4 N1 N2 N3 N4
   try clear HR
   go_enter Tryz.func82,Tryz.ntmps82
   go_wp2_with fail
   refine (H1.out _).mono ?_
   rintro e w1 ⟨rfl,rfl⟩
   go_wp2_with fail
   refine (H2.out _).mono ?_
   rintro e w1 ⟨rfl,rfl⟩
   go_wp2_with fail
   refine (H3.out _).mono ?_
   rintro e w1 ⟨rfl,rfl⟩
   go_wp2
   go_ret
   exact⟨ret_int' E.out.symm,HB.out _⟩
  | true =>
  have g3:=T3.out rfl
  cases b4 with
  | false =>
   have g4:=N4.out rfl
   have E:=Lib.hid (HN.out (by omega))
   clear HN HF HY T1 T2 T3 T4 N1 N2 N3 N4
   try clear HR
   go_enter Tryz.func82,Tryz.ntmps82
   go_wp2_with fail
   refine (H1.out _).mono ?_
   rintro e w1 ⟨rfl,rfl⟩
   go_wp2_with fail
   refine (H2.out _).mono ?_
   rintro e w1 ⟨rfl,rfl⟩
   go_wp2_with fail
   refine (H3.out _).mono ?_
   rintro e w1 ⟨rfl,rfl⟩
   go_wp2_with fail
   refine (H4.out _).mono ?_
   rintro e w1 ⟨rfl,rfl⟩
   go_wp2
   go_ret
   exact⟨ret_int' E.out.symm,HB.out _⟩
  | true =>
  have g4:=T4.out rfl
  have HR:Hid (0≤r∧r≤10000000∧0≤am∧am≤100000000∧(0<am→1≤(0:Int)∧(0:Int)≤1000000)∧(am=0→(0:Int)=0)∧0≤mo∧mo≤10000000∧0≤le∧le≤10000000):=by unfold Hid;omega
  by_cases e1:mo=0
  ·subst e1
   by_cases e2:le=0
   ·subst e2
    cases hm with
    | false =>
     cases hl with
     | false =>
      have E:=Lib.hid (HY.out HR.out (by first | (simp;done) | (simp;omega) | omega))
      clear HN HF HY T1 T2 T3 T4 N1 N2 N3 N4
      try clear HR
      go_enter Tryz.func82,Tryz.ntmps82
      go_wp2_with fail
      refine (H1.out _).mono ?_
      rintro e w1 ⟨rfl,rfl⟩
      go_wp2_with fail
      refine (H2.out _).mono ?_
      rintro e w1 ⟨rfl,rfl⟩
      go_wp2_with fail
      refine (H3.out _).mono ?_
      rintro e w1 ⟨rfl,rfl⟩
      go_wp2_with fail
      refine (H4.out _).mono ?_
      rintro e w1 ⟨rfl,rfl⟩
      go_wp2
      go_ret
      exact⟨ret_int' E.out.symm,HB.out _⟩
     | true =>
      have E:=Lib.hid (HY.out HR.out (by first | (simp;done) | (simp;omega) | omega))
      clear HN HF HY T1 T2 T3 T4 N1 N2 N3 N4
      try clear HR
      go_enter Tryz.func82,Tryz.ntmps82
      go_wp2_with fail
      refine (H1.out _).mono ?_
      rintro e w1 ⟨rfl,rfl⟩
      go_wp2_with fail
      refine (H2.out _).mono ?_
      rintro e w1 ⟨rfl,rfl⟩
      go_wp2_with fail
      refine (H3.out _).mono ?_
      rintro e w1 ⟨rfl,rfl⟩
      go_wp2_with fail
      refine (H4.out _).mono ?_
      rintro e w1 ⟨rfl,rfl⟩
      go_wp2
      go_ret
      exact⟨ret_int' E.out.symm,HB.out _⟩
    | true =>
     cases hl with
     | false =>
      have E:=Lib.hid (HY.out HR.out (by first | (simp;done) | (simp;omega) | omega))
      clear HN HF HY T1 T2 T3 T4 N1 N2 N3 N4
      try clear HR
      go_enter Tryz.func82,Tryz.ntmps82
      go_wp2_with fail
      refine (H1.out _).mono ?_
      rintro e w1 ⟨rfl,rfl⟩
      go_wp2_with fail
      refine (H2.out _).mono ?_
      rintro e w1 ⟨rfl,rfl⟩
      go_wp2_with fail
      refine (H3.out _).mono ?_
      rintro e w1 ⟨rfl,rfl⟩
      go_wp2_with fail
      refine (H4.out _).mono ?_
      rintro e w1 ⟨rfl,rfl⟩
      go_wp2
      go_ret
      exact⟨ret_int' E.out.symm,HB.out _⟩
     | true =>
      have E:=Lib.hid (HY.out HR.out (by first | (simp;done) | (simp;omega) | omega))
      clear HN HF HY T1 T2 T3 T4 N1 N2 N3 N4
      try clear HR
      go_enter Tryz.func82,Tryz.ntmps82
      go_wp2_with fail
      refine (H1.out _).mono ?_
      rintro e w1 ⟨rfl,rfl⟩
      go_wp2_with fail
      refine (H2.out _).mono ?_
      rintro e w1 ⟨rfl,rfl⟩
      go_wp2_with fail
      refine (H3.out _).mono ?_
      rintro e w1 ⟨rfl,rfl⟩
      go_wp2_with fail
      refine (H4.out _).mono ?_
      rintro e w1 ⟨rfl,rfl⟩
      go_wp2
      go_ret
      exact⟨ret_int' E.out.symm,HB.out _⟩
   ·have m2:(le != 0)=true:=by simpa using e2
    cases hm with
    | false =>
     cases hl with
     | false =>
      have E:=Lib.hid (HF.out HR.out (by first | (simp;done) | (simp;omega) | omega))
      clear HN HF HY T1 T2 T3 T4 N1 N2 N3 N4
      try clear HR
      go_enter Tryz.func82,Tryz.ntmps82
      go_wp2_with fail
      refine (H1.out _).mono ?_
      rintro e w1 ⟨rfl,rfl⟩
      go_wp2_with fail
      refine (H2.out _).mono ?_
      rintro e w1 ⟨rfl,rfl⟩
      go_wp2_with fail
      refine (H3.out _).mono ?_
      rintro e w1 ⟨rfl,rfl⟩
      go_wp2_with fail
      refine (H4.out _).mono ?_
      rintro e w1 ⟨rfl,rfl⟩
      go_wp2
      go_ret
      exact⟨ret_int' E.out.symm,HB.out _⟩
     | true =>
      have E:=Lib.hid (HY.out HR.out (by first | (simp;done) | (simp;omega) | omega))
      clear HN HF HY T1 T2 T3 T4 N1 N2 N3 N4
      try clear HR
      go_enter Tryz.func82,Tryz.ntmps82
      go_wp2_with fail
      refine (H1.out _).mono ?_
      rintro e w1 ⟨rfl,rfl⟩
      go_wp2_with fail
      refine (H2.out _).mono ?_
      rintro e w1 ⟨rfl,rfl⟩
      go_wp2_with fail
      refine (H3.out _).mono ?_
      rintro e w1 ⟨rfl,rfl⟩
      go_wp2_with fail
      refine (H4.out _).mono ?_
      rintro e w1 ⟨rfl,rfl⟩
      go_wp2
      go_ret
      exact⟨ret_int' E.out.symm,HB.out _⟩
    | true =>
     cases hl with
     | false =>
      have E:=Lib.hid (HF.out HR.out (by first | (simp;done) | (simp;omega) | omega))
      clear HN HF HY T1 T2 T3 T4 N1 N2 N3 N4
      try clear HR
      go_enter Tryz.func82,Tryz.ntmps82
      go_wp2_with fail
      refine (H1.out _).mono ?_
      rintro e w1 ⟨rfl,rfl⟩
      go_wp2_with fail
      refine (H2.out _).mono ?_
      rintro e w1 ⟨rfl,rfl⟩
      go_wp2_with fail
      refine (H3.out _).mono ?_
      rintro e w1 ⟨rfl,rfl⟩
      go_wp2_with fail
      refine (H4.out _).mono ?_
      rintro e w1 ⟨rfl,rfl⟩
      go_wp2
      go_ret
      exact⟨ret_int' E.out.symm,HB.out _⟩
     | true =>
      by_cases e3:(0:Int)<le
      ·have d3:decide ((0:Int)<le)=true:=by simpa using e3
       have E:=Lib.hid (HF.out HR.out (by first | (simp;done) | (simp;omega) | omega))
       clear HN HF HY T1 T2 T3 T4 N1 N2 N3 N4
       try clear HR
       go_enter Tryz.func82,Tryz.ntmps82
       go_wp2_with fail
       refine (H1.out _).mono ?_
       rintro e w1 ⟨rfl,rfl⟩
       go_wp2_with fail
       refine (H2.out _).mono ?_
       rintro e w1 ⟨rfl,rfl⟩
       go_wp2_with fail
       refine (H3.out _).mono ?_
       rintro e w1 ⟨rfl,rfl⟩
       go_wp2_with fail
       refine (H4.out _).mono ?_
       rintro e w1 ⟨rfl,rfl⟩
       go_wp2
       go_ret
       exact⟨ret_int' E.out.symm,HB.out _⟩
      ·exfalso;omega
  ·have m1:(mo != 0)=true:=by simpa using e1
   by_cases e2:le=0
   ·subst e2
    cases hm with
    | false =>
     have E:=Lib.hid (HF.out HR.out (by first | (simp;done) | (simp;omega) | omega))
     clear HN HF HY T1 T2 T3 T4 N1 N2 N3 N4
     try clear HR
     go_enter Tryz.func82,Tryz.ntmps82
     go_wp2_with fail
     refine (H1.out _).mono ?_
     rintro e w1 ⟨rfl,rfl⟩
     go_wp2_with fail
     refine (H2.out _).mono ?_
     rintro e w1 ⟨rfl,rfl⟩
     go_wp2_with fail
     refine (H3.out _).mono ?_
     rintro e w1 ⟨rfl,rfl⟩
     go_wp2_with fail
     refine (H4.out _).mono ?_
     rintro e w1 ⟨rfl,rfl⟩
     go_wp2
     go_ret
     exact⟨ret_int' E.out.symm,HB.out _⟩
    | true =>
     cases hl with
     | false =>
      have E:=Lib.hid (HY.out HR.out (by first | (simp;done) | (simp;omega) | omega))
      clear HN HF HY T1 T2 T3 T4 N1 N2 N3 N4
      try clear HR
      go_enter Tryz.func82,Tryz.ntmps82
      go_wp2_with fail
      refine (H1.out _).mono ?_
      rintro e w1 ⟨rfl,rfl⟩
      go_wp2_with fail
      refine (H2.out _).mono ?_
      rintro e w1 ⟨rfl,rfl⟩
      go_wp2_with fail
      refine (H3.out _).mono ?_
      rintro e w1 ⟨rfl,rfl⟩
      go_wp2_with fail
      refine (H4.out _).mono ?_
      rintro e w1 ⟨rfl,rfl⟩
      go_wp2
      go_ret
      exact⟨ret_int' E.out.symm,HB.out _⟩
     | true =>
      by_cases e3:mo<(0:Int)
      ·exfalso;omega
      ·have d3:decide (mo<(0:Int))=false:=by simpa using e3
       have E:=Lib.hid (HY.out HR.out (by first | (simp;done) | (simp;omega) | omega))
       clear HN HF HY T1 T2 T3 T4 N1 N2 N3 N4
       try clear HR
       go_enter Tryz.func82,Tryz.ntmps82
       go_wp2_with fail
       refine (H1.out _).mono ?_
       rintro e w1 ⟨rfl,rfl⟩
       go_wp2_with fail
       refine (H2.out _).mono ?_
       rintro e w1 ⟨rfl,rfl⟩
       go_wp2_with fail
       refine (H3.out _).mono ?_
       rintro e w1 ⟨rfl,rfl⟩
       go_wp2_with fail
       refine (H4.out _).mono ?_
       rintro e w1 ⟨rfl,rfl⟩
       go_wp2
       go_ret
       exact⟨ret_int' E.out.symm,HB.out _⟩
   ·have m2:(le != 0)=true:=by simpa using e2
    cases hm with
    | false =>
     have E:=Lib.hid (HF.out HR.out (by first | (simp;done) | (simp;omega) | omega))
     clear HN HF HY T1 T2 T3 T4 N1 N2 N3 N4
     try clear HR
     go_enter Tryz.func82,Tryz.ntmps82
     go_wp2_with fail
     refine (H1.out _).mono ?_
     rintro e w1 ⟨rfl,rfl⟩
     go_wp2_with fail
     refine (H2.out _).mono ?_
     rintro e w1 ⟨rfl,rfl⟩
     go_wp2_with fail
     refine (H3.out _).mono ?_
     rintro e w1 ⟨rfl,rfl⟩
     go_wp2_with fail
     refine (H4.out _).mono ?_
     rintro e w1 ⟨rfl,rfl⟩
     go_wp2
     go_ret
     exact⟨ret_int' E.out.symm,HB.out _⟩
    | true =>
     cases hl with
     | false =>
      have E:=Lib.hid (HF.out HR.out (by first | (simp;done) | (simp;omega) | omega))
      clear HN HF HY T1 T2 T3 T4 N1 N2 N3 N4
      try clear HR
      go_enter Tryz.func82,Tryz.ntmps82
      go_wp2_with fail
      refine (H1.out _).mono ?_
      rintro e w1 ⟨rfl,rfl⟩
      go_wp2_with fail
      refine (H2.out _).mono ?_
      rintro e w1 ⟨rfl,rfl⟩
      go_wp2_with fail
      refine (H3.out _).mono ?_
      rintro e w1 ⟨rfl,rfl⟩
      go_wp2_with fail
      refine (H4.out _).mono ?_
      rintro e w1 ⟨rfl,rfl⟩
      go_wp2
      go_ret
      exact⟨ret_int' E.out.symm,HB.out _⟩
     | true =>
      by_cases e3:mo<le
      ·have d3:decide (mo<le)=true:=by simpa using e3
       have E:=Lib.hid (HF.out HR.out (by first | (simp;done) | (simp;omega) | omega))
       clear HN HF HY T1 T2 T3 T4 N1 N2 N3 N4
       try clear HR
       go_enter Tryz.func82,Tryz.ntmps82
       go_wp2_with fail
       refine (H1.out _).mono ?_
       rintro e w1 ⟨rfl,rfl⟩
       go_wp2_with fail
       refine (H2.out _).mono ?_
       rintro e w1 ⟨rfl,rfl⟩
       go_wp2_with fail
       refine (H3.out _).mono ?_
       rintro e w1 ⟨rfl,rfl⟩
       go_wp2_with fail
       refine (H4.out _).mono ?_
       rintro e w1 ⟨rfl,rfl⟩
       go_wp2
       go_ret
       exact⟨ret_int' E.out.symm,HB.out _⟩
      ·have d3:decide (mo<le)=false:=by simpa using e3
       have E:=Lib.hid (HY.out HR.out (by first | (simp;done) | (simp;omega) | omega))
       clear HN HF HY T1 T2 T3 T4 N1 N2 N3 N4
       try clear HR
       go_enter Tryz.func82,Tryz.ntmps82
       go_wp2_with fail
       refine (H1.out _).mono ?_
       rintro e w1 ⟨rfl,rfl⟩
       go_wp2_with fail
       refine (H2.out _).mono ?_
       rintro e w1 ⟨rfl,rfl⟩
       go_wp2_with fail
       refine (H3.out _).mono ?_
       rintro e w1 ⟨rfl,rfl⟩
       go_wp2_with fail
       refine (H4.out _).mono ?_
       rintro e w1 ⟨rfl,rfl⟩
       go_wp2
       go_ret
       exact⟨ret_int' E.out.symm,HB.out _⟩
end Go.Proofs.YtbokkeooahodaaaGreatDoor

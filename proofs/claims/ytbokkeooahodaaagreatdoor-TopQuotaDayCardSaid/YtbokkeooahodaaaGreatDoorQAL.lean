/-
  A part of the proof of TopQuotaDayCardSaid: lemmas and contracts of functions that the law calls. No statement of the seat is proved here. Conditions: as each says.
-/
import Derived.Test.YtbokkeooahodaaaGreatDoorQAD
import Derived.Test.YtbokkeooahodaaaGreatDoorQAA
import Derived.Shelf.Spec.BitsCarry
namespace Go.Proofs.YtbokkeooahodaaaGreatDoor
open Go.RowKit
set_option linter.unusedVariables false
set_option maxRecDepth 100000 in
set_option maxHeartbeats 8000000 in
theorem dvalidate_any (r am pe mo le:Int) (hm hl:Bool) (w:World) :
  Calls Tryz.prog 48 #[.agg (duA ⟨r,am,pe,hm,mo,hl,le⟩)] w (VRes w (duErr ⟨r,am,pe,hm,mo,hl,le⟩)):=by
 have HB:Hid (∀ T,RowKit.Below w.heap.size w (w.alloc (.cells (duA ⟨r,am,pe,hm,mo,hl,le⟩) T))):=fun T=>(Below.refl _ _).alloc (Nat.le_refl _) _
 unfold duA at *
 dsimp only at *
 have HN:Hid (¬ (0≤r∧r≤10000000∧0≤am∧am≤100000000∧(0<am→1≤pe∧pe≤1000000)∧(am=0→pe=0)∧0≤mo∧mo≤10000000∧0≤le∧le≤10000000)→duErr ⟨r,am,pe,hm,mo,hl,le⟩=2):=fun h=>duErr_range h
 have HF:Hid ((0≤r∧r≤10000000∧0≤am∧am≤100000000∧(0<am→1≤pe∧pe≤1000000)∧(am=0→pe=0)∧0≤mo∧mo≤10000000∧0≤le∧le≤10000000)→¬ ((hm=false→mo=0)∧(hl=false→le=0)∧(hm=true→hl=true→le≤mo))→duErr ⟨r,am,pe,hm,mo,hl,le⟩=1):=fun h h2=>duErr_fit h h2
 have HY:Hid ((0≤r∧r≤10000000∧0≤am∧am≤100000000∧(0<am→1≤pe∧pe≤1000000)∧(am=0→pe=0)∧0≤mo∧mo≤10000000∧0≤le∧le≤10000000)→((hm=false→mo=0)∧(hl=false→le=0)∧(hm=true→hl=true→le≤mo))→duErr ⟨r,am,pe,hm,mo,hl,le⟩=0):=fun h h2=>duErr_ok h h2
 by_cases g1:r<0
 ·have d1:decide (r<0)=true:=by simpa using g1
  have E:=Lib.hid (HN.out (by omega))
  clear HN HF HY
  try clear HR
  go_enter Tryz.func48,Tryz.ntmps48
  go_wp2
  go_ret
  exact⟨ret_int' E.out.symm,HB.out _⟩
 have d1:decide (r<0)=false:=by simpa using g1
 by_cases g2:10000000<r
 ·have d2:decide (10000000<r)=true:=by simpa using g2
  have E:=Lib.hid (HN.out (by omega))
  clear HN HF HY
  try clear HR
  go_enter Tryz.func48,Tryz.ntmps48
  go_wp2
  go_ret
  exact⟨ret_int' E.out.symm,HB.out _⟩
 have d2:decide (10000000<r)=false:=by simpa using g2
 by_cases g3:am<0
 ·have d3:decide (am<0)=true:=by simpa using g3
  have E:=Lib.hid (HN.out (by omega))
  clear HN HF HY
  try clear HR
  go_enter Tryz.func48,Tryz.ntmps48
  go_wp2
  go_ret
  exact⟨ret_int' E.out.symm,HB.out _⟩
 have d3:decide (am<0)=false:=by simpa using g3
 by_cases g4:100000000<am
 ·have d4:decide (100000000<am)=true:=by simpa using g4
  have E:=Lib.hid (HN.out (by omega))
  clear HN HF HY
  try clear HR
  go_enter Tryz.func48,Tryz.ntmps48
  go_wp2
  go_ret
  exact⟨ret_int' E.out.symm,HB.out _⟩
 have d4:decide (100000000<am)=false:=by simpa using g4
 by_cases a0:0<am
 ·have x0:decide (0<am)=true:=by simpa using a0
  have x1:(am == 0)=false:=by simp;omega
  by_cases g5:pe<1
  ·have d5:decide (pe<1)=true:=by simpa using g5
   have E:=Lib.hid (HN.out (by omega))
   clear HN HF HY
   try clear HR
   go_enter Tryz.func48,Tryz.ntmps48
   go_wp2
   go_ret
   exact⟨ret_int' E.out.symm,HB.out _⟩
  have d5:decide (pe<1)=false:=by simpa using g5
  by_cases g6:1000000<pe
  ·have d6:decide (1000000<pe)=true:=by simpa using g6
   have E:=Lib.hid (HN.out (by omega))
   clear HN HF HY
   try clear HR
   go_enter Tryz.func48,Tryz.ntmps48
   go_wp2
   go_ret
   exact⟨ret_int' E.out.symm,HB.out _⟩
  have d6:decide (1000000<pe)=false:=by simpa using g6
  by_cases g7:mo<0
  ·have d7:decide (mo<0)=true:=by simpa using g7
   have E:=Lib.hid (HN.out (by omega))
   clear HN HF HY
   try clear HR
   go_enter Tryz.func48,Tryz.ntmps48
   go_wp2
   go_ret
   exact⟨ret_int' E.out.symm,HB.out _⟩
  have d7:decide (mo<0)=false:=by simpa using g7
  by_cases g8:10000000<mo
  ·have d8:decide (10000000<mo)=true:=by simpa using g8
   have E:=Lib.hid (HN.out (by omega))
   clear HN HF HY
   try clear HR
   go_enter Tryz.func48,Tryz.ntmps48
   go_wp2
   go_ret
   exact⟨ret_int' E.out.symm,HB.out _⟩
  have d8:decide (10000000<mo)=false:=by simpa using g8
  by_cases g9:le<0
  ·have d9:decide (le<0)=true:=by simpa using g9
   have E:=Lib.hid (HN.out (by omega))
   clear HN HF HY
   try clear HR
   go_enter Tryz.func48,Tryz.ntmps48
   go_wp2
   go_ret
   exact⟨ret_int' E.out.symm,HB.out _⟩
  have d9:decide (le<0)=false:=by simpa using g9
  by_cases g10:10000000<le
  ·have d10:decide (10000000<le)=true:=by simpa using g10
   have E:=Lib.hid (HN.out (by omega))
   clear HN HF HY
   try clear HR
   go_enter Tryz.func48,Tryz.ntmps48
   go_wp2
   go_ret
   exact⟨ret_int' E.out.symm,HB.out _⟩
  have d10:decide (10000000<le)=false:=by simpa using g10
  have HR:Hid (0≤r∧r≤10000000∧0≤am∧am≤100000000∧(0<am→1≤pe∧pe≤1000000)∧(am=0→pe=0)∧0≤mo∧mo≤10000000∧0≤le∧le≤10000000):=by unfold Hid;omega
  by_cases e1:mo=0
  ·subst e1
   by_cases e2:le=0
   ·subst e2
    cases hm with
    | false =>
     have E:=Lib.hid (HY.out HR.out (by first | (simp;done) | (simp;omega) | omega))
     clear HN HF HY
     try clear HR
     go_enter Tryz.func48,Tryz.ntmps48
     go_wp2
     go_ret
     exact⟨ret_int' E.out.symm,HB.out _⟩
    | true =>
     cases hl with
     | false =>
      have E:=Lib.hid (HY.out HR.out (by first | (simp;done) | (simp;omega) | omega))
      clear HN HF HY
      try clear HR
      go_enter Tryz.func48,Tryz.ntmps48
      go_wp2
      go_ret
      exact⟨ret_int' E.out.symm,HB.out _⟩
     | true =>
      have E:=Lib.hid (HY.out HR.out (by simp))
      clear HN HF HY
      try clear HR
      go_enter Tryz.func48,Tryz.ntmps48
      go_wp2
      go_ret
      exact⟨ret_int' E.out.symm,HB.out _⟩
   ·have b2:(le == 0)=false:=by simpa using e2
    have b2n:(le != 0)=true:=by simpa using e2
    cases hl with
    | false =>
     have E:=Lib.hid (HF.out HR.out (by first | (simp;done) | (simp;omega) | omega))
     clear HN HF HY
     try clear HR
     go_enter Tryz.func48,Tryz.ntmps48
     go_wp2
     go_ret
     exact⟨ret_int' E.out.symm,HB.out _⟩
    | true =>
     cases hm with
     | false =>
      have E:=Lib.hid (HY.out HR.out (by first | (simp;done) | (simp;omega) | omega))
      clear HN HF HY
      try clear HR
      go_enter Tryz.func48,Tryz.ntmps48
      go_wp2
      go_ret
      exact⟨ret_int' E.out.symm,HB.out _⟩
     | true =>
      by_cases e3:(0:Int)<le
      ·have d3:decide ((0:Int)<le)=true:=by simpa using e3
       have E:=Lib.hid (HF.out HR.out (by first | (simp;done) | (simp;omega) | omega))
       clear HN HF HY
       try clear HR
       go_enter Tryz.func48,Tryz.ntmps48
       go_wp2
       go_ret
       exact⟨ret_int' E.out.symm,HB.out _⟩
      ·have d3:decide ((0:Int)<le)=false:=by simpa using e3
       exfalso;omega
  ·have b1:(mo == 0)=false:=by simpa using e1
   have b1n:(mo != 0)=true:=by simpa using e1
   cases hm with
   | false =>
    have E:=Lib.hid (HF.out HR.out (by first | (simp;done) | (simp;omega) | omega))
    clear HN HF HY
    try clear HR
    go_enter Tryz.func48,Tryz.ntmps48
    go_wp2
    go_ret
    exact⟨ret_int' E.out.symm,HB.out _⟩
   | true =>
    by_cases e2:le=0
    ·subst e2
     cases hl with
     | false =>
      have E:=Lib.hid (HY.out HR.out (by first | (simp;done) | (simp;omega) | omega))
      clear HN HF HY
      try clear HR
      go_enter Tryz.func48,Tryz.ntmps48
      go_wp2
      go_ret
      exact⟨ret_int' E.out.symm,HB.out _⟩
     | true =>
      have E:=Lib.hid (HY.out HR.out (by first | (simp;done) | (simp;omega) | omega))
      clear HN HF HY
      try clear HR
      go_enter Tryz.func48,Tryz.ntmps48
      go_wp2
      go_ret
      exact⟨ret_int' E.out.symm,HB.out _⟩
    ·have b2:(le == 0)=false:=by simpa using e2
     have b2n:(le != 0)=true:=by simpa using e2
     cases hl with
     | false =>
      have E:=Lib.hid (HF.out HR.out (by first | (simp;done) | (simp;omega) | omega))
      clear HN HF HY
      try clear HR
      go_enter Tryz.func48,Tryz.ntmps48
      go_wp2
      go_ret
      exact⟨ret_int' E.out.symm,HB.out _⟩
     | true =>
      by_cases e3:mo<le
      ·have d3:decide (mo<le)=true:=by simpa using e3
       have E:=Lib.hid (HF.out HR.out (by first | (simp;done) | (simp;omega) | omega))
       clear HN HF HY
       try clear HR
       go_enter Tryz.func48,Tryz.ntmps48
       go_wp2
       go_ret
       exact⟨ret_int' E.out.symm,HB.out _⟩
      ·have d3:decide (mo<le)=false:=by simpa using e3
       have E:=Lib.hid (HY.out HR.out (by first | (simp;done) | (simp;omega) | omega))
       clear HN HF HY
       try clear HR
       go_enter Tryz.func48,Tryz.ntmps48
       go_wp2
       go_ret
       exact⟨ret_int' E.out.symm,HB.out _⟩
 ·have x0:decide (0<am)=false:=by simpa using a0
  have x1:(am == 0)=true:=by simp;omega
  by_cases a1:pe=0
  ·subst a1
   by_cases g11:mo<0
   ·have d11:decide (mo<0)=true:=by simpa using g11
    have E:=Lib.hid (HN.out (by omega))
    clear HN HF HY
    try clear HR
    go_enter Tryz.func48,Tryz.ntmps48
    go_wp2
    go_ret
    exact⟨ret_int' E.out.symm,HB.out _⟩
   have d11:decide (mo<0)=false:=by simpa using g11
   by_cases g12:10000000<mo
   ·have d12:decide (10000000<mo)=true:=by simpa using g12
    have E:=Lib.hid (HN.out (by omega))
    clear HN HF HY
    try clear HR
    go_enter Tryz.func48,Tryz.ntmps48
    go_wp2
    go_ret
    exact⟨ret_int' E.out.symm,HB.out _⟩
   have d12:decide (10000000<mo)=false:=by simpa using g12
   by_cases g13:le<0
   ·have d13:decide (le<0)=true:=by simpa using g13
    have E:=Lib.hid (HN.out (by omega))
    clear HN HF HY
    try clear HR
    go_enter Tryz.func48,Tryz.ntmps48
    go_wp2
    go_ret
    exact⟨ret_int' E.out.symm,HB.out _⟩
   have d13:decide (le<0)=false:=by simpa using g13
   by_cases g14:10000000<le
   ·have d14:decide (10000000<le)=true:=by simpa using g14
    have E:=Lib.hid (HN.out (by omega))
    clear HN HF HY
    try clear HR
    go_enter Tryz.func48,Tryz.ntmps48
    go_wp2
    go_ret
    exact⟨ret_int' E.out.symm,HB.out _⟩
   have d14:decide (10000000<le)=false:=by simpa using g14
   have HR:Hid (0≤r∧r≤10000000∧0≤am∧am≤100000000∧(0<am→1≤(0:Int)∧(0:Int)≤1000000)∧(am=0→(0:Int)=0)∧0≤mo∧mo≤10000000∧0≤le∧le≤10000000):=by unfold Hid;omega
   by_cases e1:mo=0
   ·subst e1
    by_cases e2:le=0
    ·subst e2
     cases hm with
     | false =>
      have E:=Lib.hid (HY.out HR.out (by first | (simp;done) | (simp;omega) | omega))
      clear HN HF HY
      try clear HR
      go_enter Tryz.func48,Tryz.ntmps48
      go_wp2
      go_ret
      exact⟨ret_int' E.out.symm,HB.out _⟩
     | true =>
      cases hl with
      | false =>
       have E:=Lib.hid (HY.out HR.out (by first | (simp;done) | (simp;omega) | omega))
       clear HN HF HY
       try clear HR
       go_enter Tryz.func48,Tryz.ntmps48
       go_wp2
       go_ret
       exact⟨ret_int' E.out.symm,HB.out _⟩
      | true =>
       have E:=Lib.hid (HY.out HR.out (by simp))
       clear HN HF HY
       try clear HR
       go_enter Tryz.func48,Tryz.ntmps48
       go_wp2
       go_ret
       exact⟨ret_int' E.out.symm,HB.out _⟩
    ·have b2:(le == 0)=false:=by simpa using e2
     have b2n:(le != 0)=true:=by simpa using e2
     cases hl with
     | false =>
      have E:=Lib.hid (HF.out HR.out (by first | (simp;done) | (simp;omega) | omega))
      clear HN HF HY
      try clear HR
      go_enter Tryz.func48,Tryz.ntmps48
      go_wp2
      go_ret
      exact⟨ret_int' E.out.symm,HB.out _⟩
     | true =>
      cases hm with
      | false =>
       have E:=Lib.hid (HY.out HR.out (by first | (simp;done) | (simp;omega) | omega))
       clear HN HF HY
       try clear HR
       go_enter Tryz.func48,Tryz.ntmps48
       go_wp2
       go_ret
       exact⟨ret_int' E.out.symm,HB.out _⟩
      | true =>
       by_cases e3:(0:Int)<le
       ·have d3:decide ((0:Int)<le)=true:=by simpa using e3
        have E:=Lib.hid (HF.out HR.out (by first | (simp;done) | (simp;omega) | omega))
        clear HN HF HY
        try clear HR
        go_enter Tryz.func48,Tryz.ntmps48
        go_wp2
        go_ret
        exact⟨ret_int' E.out.symm,HB.out _⟩
       ·have d3:decide ((0:Int)<le)=false:=by simpa using e3
        exfalso;omega
   ·have b1:(mo == 0)=false:=by simpa using e1
    have b1n:(mo != 0)=true:=by simpa using e1
    cases hm with
    | false =>
     have E:=Lib.hid (HF.out HR.out (by first | (simp;done) | (simp;omega) | omega))
     clear HN HF HY
     try clear HR
     go_enter Tryz.func48,Tryz.ntmps48
     go_wp2
     go_ret
     exact⟨ret_int' E.out.symm,HB.out _⟩
    | true =>
     by_cases e2:le=0
     ·subst e2
      cases hl with
      | false =>
       have E:=Lib.hid (HY.out HR.out (by first | (simp;done) | (simp;omega) | omega))
       clear HN HF HY
       try clear HR
       go_enter Tryz.func48,Tryz.ntmps48
       go_wp2
       go_ret
       exact⟨ret_int' E.out.symm,HB.out _⟩
      | true =>
       have E:=Lib.hid (HY.out HR.out (by first | (simp;done) | (simp;omega) | omega))
       clear HN HF HY
       try clear HR
       go_enter Tryz.func48,Tryz.ntmps48
       go_wp2
       go_ret
       exact⟨ret_int' E.out.symm,HB.out _⟩
     ·have b2:(le == 0)=false:=by simpa using e2
      have b2n:(le != 0)=true:=by simpa using e2
      cases hl with
      | false =>
       have E:=Lib.hid (HF.out HR.out (by first | (simp;done) | (simp;omega) | omega))
       clear HN HF HY
       try clear HR
       go_enter Tryz.func48,Tryz.ntmps48
       go_wp2
       go_ret
       exact⟨ret_int' E.out.symm,HB.out _⟩
      | true =>
       by_cases e3:mo<le
       ·have d3:decide (mo<le)=true:=by simpa using e3
        have E:=Lib.hid (HF.out HR.out (by first | (simp;done) | (simp;omega) | omega))
        clear HN HF HY
        try clear HR
        go_enter Tryz.func48,Tryz.ntmps48
        go_wp2
        go_ret
        exact⟨ret_int' E.out.symm,HB.out _⟩
       ·have d3:decide (mo<le)=false:=by simpa using e3
        have E:=Lib.hid (HY.out HR.out (by first | (simp;done) | (simp;omega) | omega))
        clear HN HF HY
        try clear HR
        go_enter Tryz.func48,Tryz.ntmps48
        go_wp2
        go_ret
        exact⟨ret_int' E.out.symm,HB.out _⟩
  ·have x2:(pe == 0)=false:=by simpa using a1
   have E:=Lib.hid (HN.out (by omega))
   clear HN HF HY
   try clear HR
   go_enter Tryz.func48,Tryz.ntmps48
   go_wp2
   go_ret
   exact⟨ret_int' E.out.symm,HB.out _⟩
def carryRen:Go.Shelf.Ren:=⟨fun | 25=>158 | n=>n,fun | 22=>168 | n=>n,fun | n=>n⟩
theorem carryLays:Go.Proofs.Lays7.n25 Tryz.prog carryRen:={
 mixed:=by kernel_rfl
 f25:=Tryz.func158.trans (congrArg some (by kernel_rfl))
 t22:=Tryz.underlying168
 a22:=Tryz.isAgg168
 z22:=Tryz.sizeOf168
 v22:=Tryz.zeroValue168
 i22:=by kernel_rfl }
open Go.Lib in
theorem add64_run (x y c:Nat) (hc:c≤1) (w:World) :
  (callFunc 158 #[.int .u64 (x:Nat),.int .u64 (y:Nat),.int .u64 (c:Nat)]).run Tryz.prog w =
   .ok (.value (.tuple #[.int .u64 (((x+y+c) % 18446744073709551616:Nat):Int),.int .u64 (((x+y+c) / 18446744073709551616:Nat):Int)])) w:=Any7.bits_Add64 carryLays x y c hc w
theorem add64_run' (x y c:Int) (w:World) (hx:0≤x) (hy:0≤y) (hc:0≤c) (hc':c≤1) :
  (callFunc 158 #[.int .u64 x,.int .u64 y,.int .u64 c]).run Tryz.prog w =
   .ok (.value (.tuple #[.int .u64 ((x+y+c) % 18446744073709551616),.int .u64 ((x+y+c) / 18446744073709551616)])) w:=by
 obtain⟨x,rfl⟩:=Int.eq_ofNat_of_zero_le hx
 obtain⟨y,rfl⟩:=Int.eq_ofNat_of_zero_le hy
 obtain⟨c,rfl⟩:=Int.eq_ofNat_of_zero_le hc
 exact add64_run x y c (by omega) w
theorem wadd_any (a b c d:Int) (w:World) (ha:0≤a) (hb:0≤b) (hb':b≤18446744073709551615) (hc:0≤c) (hd:0≤d) (hd':d≤18446744073709551615) (hs:a+c<18446744073709551615) :
  Calls Tryz.prog 99 #[.agg #[.int .u64 a,.int .u64 b],.agg #[.int .u64 c,.int .u64 d]] w fun e w'=>e=.returned (.tuple #[.agg #[.int .u64 ((a*18446744073709551616+b+(c*18446744073709551616+d)) / 18446744073709551616),.int .u64 ((a*18446744073709551616+b+(c*18446744073709551616+d)) % 18446744073709551616)],.int .i64 0])∧Below w.heap.size w w':=by
 have e1:(a*18446744073709551616+b+(c*18446744073709551616+d)) / 18446744073709551616=(a+c+(b+d+0) / 18446744073709551616) % 18446744073709551616:=by omega
 have e2:(a*18446744073709551616+b+(c*18446744073709551616+d)) % 18446744073709551616=(b+d+0) % 18446744073709551616:=by omega
 have e3:(a+c+(b+d+0) / 18446744073709551616) / 18446744073709551616=0:=by omega
 have H1:Hid (∀ w:World,(callFunc 158 #[.int .u64 b,.int .u64 d,.int .u64 0]).run Tryz.prog w=_):=fun w:World=>add64_run' b d 0 w hb hd (by omega) (by omega)
 have H2:Hid (∀ w:World,(callFunc 158 #[.int .u64 a,.int .u64 c,.int .u64 ((b+d+0) / 18446744073709551616)]).run Tryz.prog w=_):=fun w:World=>add64_run' a c ((b+d+0) / 18446744073709551616) w ha hc (by omega) (by omega)
 rw [e3] at H2
 rw [e1,e2]
 clear e1 e2 e3
 generalize (b+d+0) % 18446744073709551616=lo at *
 generalize (b+d+0) / 18446744073709551616=k at *
 generalize (a+c+k) % 18446744073709551616=hi at *
 have HB:Hid (∀ o1 o2 o3,RowKit.Below w.heap.size w (((w.alloc o1).alloc o2).alloc o3)):=fun o1 o2 o3=>(((Below.refl _ _).alloc (Nat.le_refl _) _).alloc (by simp) _).alloc (by simp;omega) _
 go_enter Tryz.func99,Tryz.ntmps99
 go_wp2_with (first | (simp only [H1.out]) | (simp only [H2.out]))
 refine bodyPost_ret (v:=.tuple #[.agg #[.int .u64 hi,.int .u64 lo],.int .i64 0]) (by simp [results,Tryz.results99,go_sem]) rfl ⟨rfl,?_⟩
 exact HB.out _ _ _
def cmpV (x y:Int):Int:=if x<y then -1 else if x=y then 0 else 1
theorem cmpW_any (a b c d:Int) (w:World) (ha:0≤a) (hb:0≤b) (hb':b≤18446744073709551615) (hc:0≤c) (hd:0≤d) (hd':d≤18446744073709551615) :
  Calls Tryz.prog 100 #[.agg #[.int .u64 a,.int .u64 b],.agg #[.int .u64 c,.int .u64 d]] w fun e w'=>e=.returned (.int .i64 (cmpV (a*18446744073709551616+b) (c*18446744073709551616+d)))∧Below w.heap.size w w':=by
 have HB:Hid (∀ o1 o2,RowKit.Below w.heap.size w ((w.alloc o1).alloc o2)):=fun o1 o2=>((Below.refl _ _).alloc (Nat.le_refl _) _).alloc (by simp) _
 have HL:Hid (a*18446744073709551616+b<c*18446744073709551616+d→cmpV (a*18446744073709551616+b) (c*18446744073709551616+d) = -1):=fun h=>by unfold cmpV;rw [if_pos h]
 have HG:Hid (c*18446744073709551616+d<a*18446744073709551616+b→cmpV (a*18446744073709551616+b) (c*18446744073709551616+d)=1):=fun h=>by unfold cmpV;rw [if_neg (by omega),if_neg (by omega)]
 have HE:Hid (a*18446744073709551616+b=c*18446744073709551616+d→cmpV (a*18446744073709551616+b) (c*18446744073709551616+d)=0):=fun h=>by unfold cmpV;rw [if_neg (by omega),if_pos h]
 by_cases g1:a<c
 ·have d1:decide (a<c)=true:=by simpa using g1
  have E:=Lib.hid (HL.out (by omega))
  go_enter Tryz.func100,Tryz.ntmps100
  go_wp2
  go_ret
  exact⟨ret_int' E.out.symm,HB.out _ _⟩
 have d1:decide (a<c)=false:=by simpa using g1
 by_cases g2:a=c
 ·subst g2
  by_cases g3:b<d
  ·have d3:decide (b<d)=true:=by simpa using g3
   have E:=Lib.hid (HL.out (by omega))
   clear d1
   go_enter Tryz.func100,Tryz.ntmps100
   go_wp2
   go_ret
   exact⟨ret_int' E.out.symm,HB.out _ _⟩
  have d3:decide (b<d)=false:=by simpa using g3
  by_cases g4:b=d
  ·subst g4
   have E:=Lib.hid (HE.out rfl)
   clear d1
   go_enter Tryz.func100,Tryz.ntmps100
   go_wp2
   go_ret
   exact⟨ret_int' E.out.symm,HB.out _ _⟩
  ·have d4:(b == d)=false:=by simpa using g4
   have E:=Lib.hid (HG.out (by omega))
   clear d1
   go_enter Tryz.func100,Tryz.ntmps100
   go_wp2
   go_ret
   exact⟨ret_int' E.out.symm,HB.out _ _⟩
 ·have d2:(a == c)=false:=by simpa using g2
  have E:=Lib.hid (HG.out (by omega))
  go_enter Tryz.func100,Tryz.ntmps100
  go_wp2
  go_ret
  exact⟨ret_int' E.out.symm,HB.out _ _⟩
theorem set2_bl {w:World} {g:Nat} {T:TypeId} {z0 z1:Value} (h:Bl w g T #[z0,z1]) (a b:Value):Bl ((w.setCell ⟨g,0,none⟩ a).setCell ⟨g,1,none⟩ b) g T #[a,b]:=by
 have:=(h.put 0 a).put 1 b
 simpa using this
def wideA (x:Int):Array Value:=#[.int .u64 (x / 18446744073709551616),.int .u64 (x % 18446744073709551616)]
def WRes (w:World) (x:Int) (e:Ending) (w':World):Prop:=e=.returned (.agg (wideA x))∧RowKit.Below w.heap.size w w'
set_option maxRecDepth 100000 in
set_option maxHeartbeats 2000000 in
theorem part18_any (r v pe:Int) (bv bp:Nat) (w:World) (hbv:bv<w.heap.size) (hbp:bp<w.heap.size) (hv:w.cell? ⟨bv,0,none⟩=some (.int .i64 v)) (hp:w.cell? ⟨bp,0,none⟩=some (.int .u64 pe)) (hr0:0≤r) (hr1:r≤10000000) (hv0:0≤v) (hv1:v≤1000000000000) (hp0:1≤pe) (hp1:pe≤1000000) :
  Calls Tryz.prog 97 #[.int .i64 r,.pointer (some ⟨bv,0,none⟩),.pointer (some ⟨bp,0,none⟩)] w (WRes w (r*v*pe)):=by
 obtain⟨x0,x1⟩:=mul_bound hr0 hr1 hv0 hv1
 obtain⟨x,hx⟩:∃ x,r*v=x:=⟨_,rfl⟩
 rw [hx] at x0 x1 ⊢
 have HM:=Lib.hid (fun w:World=>mul_any x pe w x0 (by omega) (by omega) (by omega))
 have hal:∀ o,RowKit.Below w.heap.size w (w.alloc o):=fun o=>(Below.refl _ _).alloc (Nat.le_refl _) _
 unfold WRes wideA
 generalize x*pe / 18446744073709551616=hi at *
 generalize x*pe % 18446744073709551616=lo at *
 have u1:IntKind.u64.wrap r=r:=IntWalk.u64_in _ (by omega)
 have u2:IntKind.u64.wrap v=v:=IntWalk.u64_in _ (by omega)
 have u3:IntKind.u64.wrap x=x:=IntWalk.u64_in _ (by omega)
 have c1:=((hal (.cells #[.int .u64 0,.int .u64 0] 197)).cell (p:=⟨bv,0,none⟩) hbv).trans hv
 have c2:=((hal (.cells #[.int .u64 0,.int .u64 0] 197)).cell (p:=⟨bp,0,none⟩) hbp).trans hp
 have HB:=Lib.hid (hal (.cells #[.int .u64 0,.int .u64 0] 197))
 have HX:=Bl.new w 197 #[.int .u64 0,.int .u64 0]
 clear hal hv hp
 go_enter Tryz.func97,Tryz.ntmps97
 go_wp2_with fail
 refine (HM.out _).mono ?_
 rintro e w2 ⟨rfl,hb2⟩
 have HY:=HX.keep hb2
 have z0:w2.cell? ⟨w.heap.size,0,none⟩=some (.int .u64 0):=HY.cell 0
 have z1:w2.cell? ⟨w.heap.size,1,none⟩=some (.int .u64 0):=HY.cell 1
 have f0:w2.frozen? ⟨w.heap.size,0,none⟩=false:=HY.free 0
 have f1:w2.frozen? ⟨w.heap.size,1,none⟩=false:=HY.free 1
 have HB2:=Lib.hid (HB.out.trans (hb2.mono HB.out.size))
 clear hb2
 go_wp2
 have HZ:=set2_bl HY (.int .u64 hi) (.int .u64 lo)
 have HB3:=Lib.hid ((HB2.out.setCell (p:=⟨w.heap.size,0,none⟩) (Nat.le_refl _) (.int .u64 hi)).setCell (p:=⟨w.heap.size,1,none⟩) (Nat.le_refl _) (.int .u64 lo))
 generalize (w2.setCell ⟨w.heap.size,0,none⟩ (.int .u64 hi)).setCell ⟨w.heap.size,1,none⟩ (.int .u64 lo)=W at *
 have y0:W.cell? ⟨w.heap.size,0,none⟩=some (.int .u64 hi):=HZ.cell 0
 have y1:W.cell? ⟨w.heap.size,1,none⟩=some (.int .u64 lo):=HZ.cell 1
 refine bodyPost_ret (v:=.agg #[.int .u64 hi,.int .u64 lo]) (by simp [results,Tryz.results97,go_sem,y0,y1]) rfl ⟨rfl,HB3.out⟩
end Go.Proofs.YtbokkeooahodaaaGreatDoor

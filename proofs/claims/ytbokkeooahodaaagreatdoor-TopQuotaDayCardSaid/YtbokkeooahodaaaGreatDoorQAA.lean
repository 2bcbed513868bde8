/-
  A part of the proof of TopQuotaDayCardSaid: lemmas and contracts of functions that the law calls. No statement of the seat is proved here. Conditions: as each says.
-/
import Derived.Lib.Hide
import Derived.Below
import Derived.Laws.OwnMore
import Derived.Deep.Draws
import Derived.IntWalk
import Derived.WalkKit
import Derived.Laws.Rows
import Derived.OwnWalk
import Derived.Test.YtbokkeooahodaaaGreatDoorProg
import Derived.BigQuiet
import Derived.Deep.QuietTactic
import Derived.WalkLawsBesides
import Derived.Laws.Bits64b
import Derived.Test.YtbokkeooahodaaaGreatDoorQSH
import Derived.Lib.ItoaNum
import Derived.RegionTactic
namespace Go.Proofs.YtbokkeooahodaaaGreatDoor
namespace DivMath
structure Inv (u n1 n0 l q r:Int):Prop where
 split:q*n1+r=u
 above:(u*4294967296+l) / (n1*4294967296+n0)≤q
 small:r<4294967296
 pos:0≤r
 qpos:0≤q
structure Dom (u n1 n0 l:Int):Prop where
 n1l:2147483648≤n1
 n1h:n1<4294967296
 n0l:0≤n0
 n0h:n0<4294967296
 ll:0≤l
 lh:l<4294967296
 ul:0≤u
 uh:u<n1*4294967296+n0
variable {u n1 n0 l q r:Int}
theorem start (d:Dom u n1 n0 l):Inv u n1 n0 l (u / n1) (u - u / n1*n1):=by
 obtain⟨d1,d2,d3,d4,d5,d6,d7,d8⟩:=d
 have h1:=Int.mul_ediv_add_emod u n1
 have h2:=Int.emod_lt_of_pos u (show 0<n1 by omega)
 have h2':=Int.emod_nonneg u (show n1≠0 by omega)
 have h3:u / n1*n1=n1*(u / n1):=Int.mul_comm _ _
 have hq0:0≤u / n1:=Int.ediv_nonneg d7 (by omega)
 refine⟨by omega,?_,by omega,by omega,hq0⟩
 have hlt:u*4294967296+l<(u / n1+1)*(n1*4294967296+n0):=by
  have h4:(u / n1+1)*(n1*4294967296+n0)=(n1*(u / n1)+n1)*4294967296+(u / n1+1)*n0:=by grind
  have h7:0≤(u / n1+1)*n0:=Int.mul_nonneg (by omega) d3
  rw [h4]
  omega
 have:=(Int.ediv_lt_iff_lt_mul (show 0<n1*4294967296+n0 by omega)).2 hlt
 omega
theorem le_top (h:Inv u n1 n0 l q r) (d:Dom u n1 n0 l):q≤4294967297:=by
 obtain⟨d1,d2,d3,d4,d5,d6,d7,d8⟩:=d
 have hs:=h.split
 have hp:=h.pos
 rcases Int.lt_or_le 4294967297 q with hq | hq
 ·exfalso
  have:4294967298*n1≤q*n1:=Int.mul_le_mul_of_nonneg_right hq (by omega)
  omega
 ·exact hq
theorem prod (h:Inv u n1 n0 l q r):q*(n1*4294967296+n0)+r*4294967296=u*4294967296+q*n0:=by
 have hs:=h.split
 rw [← hs]
 grind
theorem digit_lt (d:Dom u n1 n0 l):(u*4294967296+l) / (n1*4294967296+n0)<4294967296:=by
 obtain⟨d1,d2,d3,d4,d5,d6,d7,d8⟩:=d
 exact (Int.ediv_lt_iff_lt_mul (by omega)).2 (by omega)
theorem digit_nonneg (d:Dom u n1 n0 l):0≤(u*4294967296+l) / (n1*4294967296+n0):=by
 obtain⟨d1,d2,d3,d4,d5,d6,d7,d8⟩:=d
 exact Int.ediv_nonneg (by omega) (by omega)
theorem down (h:Inv u n1 n0 l q r) (d:Dom u n1 n0 l) (ht:4294967296≤q∨4294967296*r+l<q*n0) :
  (u*4294967296+l) / (n1*4294967296+n0)+1≤q:=by
 rcases ht with ht | ht
 ·have:=digit_lt d;omega
 ·have hp:=prod h
  obtain⟨d1,d2,d3,d4,d5,d6,d7,d8⟩:=d
  exact (Int.ediv_lt_iff_lt_mul (by omega)).2 (by omega)
theorem one_le (h:Inv u n1 n0 l q r) (d:Dom u n1 n0 l) (ht:4294967296≤q∨4294967296*r+l<q*n0):1≤q:=by
 have:=down h d ht
 have:=digit_nonneg d
 omega
theorem step (h:Inv u n1 n0 l q r) (d:Dom u n1 n0 l) (ht:4294967296≤q∨4294967296*r+l<q*n0) (hr:r+n1<4294967296):Inv u n1 n0 l (q - 1) (r+n1):=by
 have hd:=down h d ht
 have h1:=one_le h d ht
 have hs:=h.split
 have hp:=h.pos
 have hn:=d.n1l
 refine⟨?_,by omega,hr,by omega,by omega⟩
 rw [Int.sub_mul]
 omega
theorem ends (h:Inv u n1 n0 l q r) (d:Dom u n1 n0 l) (h2:q*n0≤4294967296*r+l):q=(u*4294967296+l) / (n1*4294967296+n0):=by
 have hp:=prod h
 obtain⟨d1,d2,d3,d4,d5,d6,d7,d8⟩:=d
 have hle:q≤(u*4294967296+l) / (n1*4294967296+n0):=(Int.le_ediv_iff_mul_le (by omega)).2 (by omega)
 have:=h.above
 omega
theorem breaks (h:Inv u n1 n0 l q r) (d:Dom u n1 n0 l) (ht:4294967296≤q∨4294967296*r+l<q*n0) (hr:4294967296≤r+n1) :
  q - 1=(u*4294967296+l) / (n1*4294967296+n0):=by
 have hd:=down h d ht
 have htop:=le_top h d
 have hp:=prod h
 obtain⟨d1,d2,d3,d4,d5,d6,d7,d8⟩:=d
 have h1:(q - 1)*n0≤4294967296*n0:=Int.mul_le_mul_of_nonneg_right (by omega) d3
 have e1:(q - 1)*(n1*4294967296+n0)=q*(n1*4294967296+n0) - (n1*4294967296+n0):=by grind
 have e2:(q - 1)*n0=q*n0 - n0:=by grind
 have hle:q - 1≤(u*4294967296+l) / (n1*4294967296+n0):=(Int.le_ediv_iff_mul_le (by omega)).2 (by omega)
 omega
theorem join {U Y u un1 un0 q1 u21 q0:Int} (hY:0<Y) (hU:U=u*18446744073709551616+un1*4294967296+un0) (hq1:q1=(u*4294967296+un1) / Y) (hu21:u21=(u*4294967296+un1) % Y)
  (hq0:q0=(u21*4294967296+un0) / Y):U / Y=q1*4294967296+q0∧U % Y=(u21*4294967296+un0) % Y:=by
 have h1:=Int.mul_ediv_add_emod (u*4294967296+un1) Y
 rw [← hq1,← hu21] at h1
 have h2:U=(u21*4294967296+un0)+Y*(q1*4294967296):=by grind
 rw [h2,Int.add_mul_ediv_left _ _ (by omega),Int.add_mul_emod_self_left,← hq0]
 exact⟨by omega,rfl⟩
end DivMath
end Go.Proofs.YtbokkeooahodaaaGreatDoor
namespace Go.Proofs.YtbokkeooahodaaaGreatDoor
open Go.RowKit
def IntsK (k:IntKind) (w:World) (A:Option Addr) (n:Nat) (xs:List Int):Prop :=
 xs.length=n∧(0<n→∃ b off,A=some ⟨b,off,none⟩∧b<w.heap.size∧∀ i,i<n→w.cell? ⟨b,off+i,none⟩=some (.int k (xs.getD i 0)))
abbrev Ints:=IntsK .i64
section
variable {k:IntKind} {w w':World} {A:Option Addr} {n:Nat} {xs:List Int}
theorem IntsK.len (h:IntsK k w A n xs):xs.length=n:=h.1
theorem IntsK.at_ {i:Nat} (h:IntsK k w A n xs) (hi:i<n):∃ b off,A=some ⟨b,off,none⟩∧b<w.heap.size∧w.cell? ⟨b,off+i,none⟩=some (.int k (xs.getD i 0)):=by
 obtain⟨b,off,e,hb,hc⟩:=h.2 (by omega)
 exact⟨b,off,e,hb,hc i hi⟩
theorem IntsK.get {i:Nat} (h:IntsK k w A n xs) (hi:i<n):∃ b off x,A=some ⟨b,off,none⟩∧b<w.heap.size∧w.cell? ⟨b,off+i,none⟩=some (.int k x)∧Hid (xs.getD i 0=x):=by
 obtain⟨b,off,e,hb,hc⟩:=h.at_ hi
 exact⟨b,off,_,e,hb,hc,rfl⟩
theorem IntsK.keep (h:IntsK k w A n xs) (hs:w.heap.size≤w'.heap.size) (hk:∀ p:Addr,p.block<w.heap.size→w'.cell? p=w.cell? p):IntsK k w' A n xs :=
 ⟨h.1,fun hn=>by
  obtain⟨b,off,e,hb,hc⟩:=h.2 hn
  exact⟨b,off,e,by omega,fun i hi=>(hk _ hb).trans (hc i hi)⟩⟩
theorem IntsK.below (h:IntsK k w A n xs) (hb:Below w.heap.size w w'):IntsK k w' A n xs:=h.keep hb.size fun _ hp=>hb.cell hp
theorem IntsK.alloc (h:IntsK k w A n xs) (o:Obj):IntsK k (w.alloc o) A n xs:=h.below ((Below.refl _ _).alloc (Nat.le_refl _) _)
theorem IntsK.take (h:IntsK k w A n xs) {m:Nat} (hm:m≤n):IntsK k w A m (xs.take m):=by
 refine⟨by rw [List.length_take,h.1];omega,fun h0=>?_⟩
 obtain⟨b,off,e,hb,hc⟩:=h.2 (by omega)
 refine⟨b,off,e,hb,fun i hi=>?_⟩
 rw [hc i (by omega)]
 simp [List.getD,hi]
theorem IntsK.of_own {base:Nat} {e:TypeId} {c:Nat} (h:w.ownsRow base e 1 (.slice A n c) n (xs.map (Value.int k))):IntsK k w A n xs:=by
 have hl:xs.length=n:=by have:=h.1;simpa using this
 refine⟨hl,fun hn=>?_⟩
 rcases h.2 with ⟨hv,h0⟩ | ⟨g,cap,cur,hv,_,hh,_⟩
 ·omega
 ·injection hv with h1 h2 h3
  subst h1
  have hlt:g<w.heap.size:=by
   rcases Nat.lt_or_ge g w.heap.size with h | h
   ·exact h
   ·rw [Array.getElem?_eq_none h] at hh;cases hh
  refine⟨g,0,rfl,hlt,fun i hi=>?_⟩
  have:=h.cellAt (g:=g) i (by omega)
  rw [Nat.zero_add,this,List.getElem?_map,List.getD,List.getElem?_eq_getElem (by omega)]
  rfl
end
def Bl (w:World) (g:Nat) (t:TypeId) (cs:Array Value):Prop:=w.heap[g]? = some (.cells cs t (0,0))
section
variable {w w':World} {g:Nat} {t:TypeId} {cs:Array Value}
theorem Bl.lt (h:Bl w g t cs):g<w.heap.size:=by
 rcases Nat.lt_or_ge g w.heap.size with h1 | h1
 ·exact h1
 ·unfold Bl at h;rw [Array.getElem?_eq_none h1] at h;cases h
theorem Bl.cell (h:Bl w g t cs) (i:Nat):w.cell? ⟨g,i,none⟩=cs[i]?:=cell_of_row w g i cs t (0,0) h
theorem Bl.free (h:Bl w g t cs) (i:Nat):w.frozen? ⟨g,i,none⟩=false:=by
 unfold Bl at h
 simp [World.frozen?,h]
theorem Bl.new (w:World) (t:TypeId) (cs:Array Value):Bl (w.alloc (.cells cs t)) w.heap.size t cs:=heap_alloc_new w _
theorem Bl.drewN (h:Bl w g t cs) (n:Nat):Bl (w.drewN n) g t cs:=h
theorem Bl.alloc (h:Bl w g t cs) (o:Obj):Bl (w.alloc o) g t cs:=(Below.heap_alloc w o g h.lt).trans h
theorem Bl.keep (h:Bl w g t cs) (hb:Below w.heap.size w w'):Bl w' g t cs:=(hb.block g h.lt).trans h
theorem Bl.put (h:Bl w g t cs) (i:Nat) (u:Value):Bl (w.setCell ⟨g,i,none⟩ u) g t (cs.setIfInBounds i u):=by
 unfold Bl at h ⊢
 simp [World.setCell,Array.getElem?_modify,h]
theorem Bl.far (h:Bl w g t cs) {p:Addr} (hp:g≠p.block) (u:Value):Bl (w.setCell p u) g t cs:=(Below.heap_setCell w p u g hp).trans h
theorem Bl.ints {k:IntKind} {xs:List Int} (h:Bl w g t cs) (hx:∀ i,i<xs.length→cs[i]? = some (.int k (xs.getD i 0))):IntsK k w (some ⟨g,0,none⟩) xs.length xs :=
 ⟨rfl,fun _=>⟨g,0,rfl,h.lt,fun i hi=>by rw [Nat.zero_add,h.cell,hx i hi]⟩⟩
end
theorem Bl.own_ints {w:World} {g base n:Nat} {t:TypeId} {cs:Array Value} {k:IntKind} {xs:List Int} (h:Bl w g t cs) (hb:base≤g) (hs:cs.size=n) (hl:xs.length=n) (hn:n≤9223372036854775807) (hx:∀ i,i<n→cs[i]? = some (.int k (xs.getD i 0))) :
  w.ownsRow base t 1 (.slice (some ⟨g,0,none⟩) n n) n (xs.map (Value.int k)):=by
 refine⟨by simp [hl],.inr ⟨g,n,cs,rfl,hb,h,Nat.le_refl _,by unfold maxLen;omega,by omega,?_⟩⟩
 apply List.ext_getElem?
 intro i
 by_cases hi:i<n
 ·have:=hx i hi
  rw [List.getElem?_take,if_pos (by omega),Array.getElem?_toList,this,List.getElem?_map,List.getElem?_eq_getElem (show i<xs.length by omega)]
  simp [List.getD,List.getElem?_eq_getElem (show i<xs.length by omega)]
 ·rw [List.getElem?_eq_none (by simp;omega),List.getElem?_eq_none (by simp;omega)]
theorem make_any {P:Program} (t e:TypeId) (z:Value) (size bytes n:Nat) (ht:P.underlying t=some (.slice e)) (hi:(P.info? e).map (fun i=>(i.zero,i.size,i.bytes))=some (some z,size,bytes)) (hb:bytes*n≤281474976710656) (hn:n≤9223372036854775807) :
  ∃ C:Array Value,Hid (C.size=n*size∧∀ j,j<n*size→C[j]? = some (z.cells[j % z.cells.size]!))∧∀ w:World,(Instr.makeSlice t (.int .i64 (n:Int)) (.int .i64 (n:Int))).run P w=.ok (.slice (some ⟨w.heap.size,0,none⟩) n n) (w.alloc (.cells C e)):=by
 obtain⟨i,hi0,hz,hs,hby⟩:=info_parts hi
 refine⟨madeCells z.cells (n*size),⟨size_madeCells _ _,fun j hj=>by simp [madeCells,hj]⟩,fun w=>?_⟩
 have:=run_make (P:=P) w t e i z ht hi0 hz .i64 .i64 (n:Int) (n:Int) (by omega) (Int.le_refl _) (by rw [hby,← Int.natCast_mul];omega) (by omega)
 rw [hs] at this
 simpa using this
set_option linter.unusedVariables false
set_option maxRecDepth 10000 in
set_option maxHeartbeats 4000000 in
theorem div64_core (hi lo y Y n1 n0 a b u un10 un1 un0 q p r qd c1 c2 c3 u21 qq pp rr qe d1 d2 d3 d4 rem:Int) (s:Nat) (w:World) (h1:hi<y) (h2:y≤18446744073709551615) (h3:lo≤18446744073709551615) (h30:0≤lo) (h0:0<hi) (hs:s≤63)
 (hlz:∀ w:World,Calls Tryz.prog 209 #[.int .u64 y] w fun e w'=>e=.returned (.int .i64 s)∧w=w')
 (e1:IntKind.u64.wrap (y*2 ^ s)=Y) (e2:Y / 4294967296=n1) (e3:bits .and .u64 Y 4294967295=n0) (e4:IntKind.u64.wrap (hi*2 ^ s)=a) (e5:lo / 2 ^ (64 - s)=b)
 (e6:bits .or .u64 a b=u) (e7:IntKind.u64.wrap (lo*2 ^ s)=un10) (e8:un10 / 4294967296=un1) (e9:bits .and .u64 un10 4294967295=un0)
 (e10:u / n1=q) (e11:IntKind.u64.wrap (q*n1)=p) (e12:u - p=r)
 (hpu:0≤p∧p≤u) (hq:q≤4294967297) (hq00:0≤q) (hu:u≤18446744073709551615) (D:DivMath.Dom u n1 n0 un1) (HI:DivMath.Inv u n1 n0 un1 q r) (hY0:0≤Y) (hY:Y≤18446744073709551615) (h10:0≤un10) (h10':un10≤18446744073709551615)
 (hqd:Hid (qd=(u*4294967296+un1) / (n1*4294967296+n0))) (hqd0:0≤qd) (hqd':qd<4294967296)
 (f1:IntKind.u64.wrap (u*4294967296)=c1) (f2:IntKind.u64.wrap (c1+un1)=c2) (f3:IntKind.u64.wrap (qd*Y)=c3) (f4:IntKind.u64.wrap (c2 - c3)=u21)
 (e10':u21 / n1=qq) (e11':IntKind.u64.wrap (qq*n1)=pp) (e12':u21 - pp=rr) (hu':u21≤18446744073709551615) (hu0':0≤u21) (hpu':0≤pp∧pp≤u21) (hq':qq≤4294967297) (hq00':0≤qq) (DD:DivMath.Dom u21 n1 n0 un0) (HI':DivMath.Inv u21 n1 n0 un0 qq rr)
 (hqe:Hid (qe=(u21*4294967296+un0) / (n1*4294967296+n0))) (hqe0:0≤qe) (hqe':qe<4294967296)
 (g1:IntKind.u64.wrap (u21*4294967296)=d1) (g2:IntKind.u64.wrap (d1+un0)=d2) (g3:IntKind.u64.wrap (qe*Y)=d3) (g4:IntKind.u64.wrap (d2 - d3)=d4) (g5:d4 / 2 ^ s=rem) :
  Calls Tryz.prog 159 #[.int .u64 hi,.int .u64 lo,.int .u64 y] w fun e w'=>e=.returned (.tuple #[.int .u64 (qd*4294967296+qe),.int .u64 rem])∧w=w':=by
 have b1:(y == 0)=false:=by simp;omega
 have b2:(hi == 0)=false:=by simp;omega
 have z1:=D.n1l
 have z2:=D.n1h
 have z30:=D.n0l
 have z3:=D.n0h
 have z40:=D.ll
 have z4:=D.lh
 have z50:=DD.ll
 have z5:=DD.lh
 have zu:=D.ul
 have b3:(n1 == 0)=false:=by simp;omega
 go_enter Tryz.func159,Tryz.ntmps159
 go_wp2_with (go_at_call 209;refine (hlz _).mono ?_;rintro e w' ⟨rfl,rfl⟩)
 clear e1 e2 e3 e4 e5 e6 e7 e8 e9 b1 b2 hlz h1 h2 h3 h0 h30
 go_loop [15,16] (fun x z=>∃ q r:Int,DivMath.Inv u n1 n0 un1 q r∧q≤4294967297∧x=.int .u64 q∧z=.int .u64 r) (fun x _=>(intOf x).toNat)
 case atStart=>exact⟨q,r,HI,hq,(by first | rfl | simp only [e10]),(by first | rfl | simp only [e12])⟩
 case round =>
  clear HI hq hpu e10 e11 e12
  obtain⟨q,r,HI,hq,rfl,rfl⟩:=hrel
  have hr:=HI.small
  have hr0:=HI.pos
  have hq0:=HI.qpos
  by_cases t1:4294967296≤q
  ·have HT:=Lib.hid (show 4294967296≤q∨4294967296*r+un1<q*n0 from Or.inl t1)
   have hq1:=DivMath.one_le HI D HT.out
   by_cases t2:r+n1<4294967296
   ·have HS:=DivMath.step HI D HT.out t2
    go_wp2
    go_round
    case rel=>exact⟨q - 1,r+n1,HS,by omega,rfl,rfl⟩
    case measure=>simp [intOf];omega
   ·have E:q - 1=qd:=(DivMath.breaks HI D HT.out (by omega)).trans hqd.out.symm
    go_wp2
    clear f1 f2 f3 f4
    go_loop [18,16] (fun x z=>∃ q r:Int,DivMath.Inv u21 n1 n0 un0 q r∧q≤4294967297∧x=.int .u64 q∧z=.int .u64 r) (fun x _=>(intOf x).toNat)
    case atStart=>exact⟨qq,rr,HI',hq',(by first | rfl | simp only [e10']),(by first | rfl | simp only [e12'])⟩
    case round =>
     clear HI hq HI' hr hr0 hq0 e10' e11' e12'
     obtain⟨q,r,HI,hq,rfl,rfl⟩:=hrel
     have hr:=HI.small
     have hr0:=HI.pos
     have hq0:=HI.qpos
     by_cases t1:4294967296≤q
     ·have HT:=Lib.hid (show 4294967296≤q∨4294967296*r+un0<q*n0 from Or.inl t1)
      have hq1:=DivMath.one_le HI DD HT.out
      by_cases t2:r+n1<4294967296
      ·have HS:=DivMath.step HI DD HT.out t2
       go_wp2
       go_round
       case rel=>exact⟨q - 1,r+n1,HS,by omega,rfl,rfl⟩
       case measure=>simp [intOf];omega
      ·have E:q - 1=qe:=(DivMath.breaks HI DD HT.out (by omega)).trans hqe.out.symm
       go_wp2
       go_ret2
       exact⟨rfl,rfl⟩
     ·obtain⟨x,hx⟩:∃ x,q*n0=x:=⟨_,rfl⟩
      have hx0:0≤x:=by rw [← hx];exact Int.mul_nonneg hq0 z30
      have hx1:x≤18446744073709551615:=by
       have h1:q*n0≤4294967295*n0:=Int.mul_le_mul_of_nonneg_right (by omega) z30
       omega
      have HX:=Lib.hid hx
      by_cases t3:4294967296*r+un0<x
      ·have HT:=Lib.hid (show 4294967296≤q∨4294967296*r+un0<q*n0 from Or.inr (by rw [hx];exact t3))
       have hq1:=DivMath.one_le HI DD HT.out
       by_cases t2:r+n1<4294967296
       ·have HS:=DivMath.step HI DD HT.out t2
        go_wp2
        go_round
        case rel=>exact⟨q - 1,r+n1,HS,by omega,rfl,rfl⟩
        case measure=>simp [intOf];omega
       ·have E:q - 1=qe:=(DivMath.breaks HI DD HT.out (by omega)).trans hqe.out.symm
        go_wp2
        go_ret2
        exact⟨rfl,rfl⟩
      ·obtain rfl:q=qe:=(DivMath.ends HI DD (by rw [hx];omega)).trans hqe.out.symm
       go_wp2
       go_ret2
       exact⟨rfl,rfl⟩
  ·obtain⟨x,hx⟩:∃ x,q*n0=x:=⟨_,rfl⟩
   have hx0:0≤x:=by rw [← hx];exact Int.mul_nonneg hq0 z30
   have hx1:x≤18446744073709551615:=by
    have h1:q*n0≤4294967295*n0:=Int.mul_le_mul_of_nonneg_right (by omega) z30
    omega
   have HX:=Lib.hid hx
   by_cases t3:4294967296*r+un1<x
   ·have HT:=Lib.hid (show 4294967296≤q∨4294967296*r+un1<q*n0 from Or.inr (by rw [hx];exact t3))
    have hq1:=DivMath.one_le HI D HT.out
    by_cases t2:r+n1<4294967296
    ·have HS:=DivMath.step HI D HT.out t2
     go_wp2
     go_round
     case rel=>exact⟨q - 1,r+n1,HS,by omega,rfl,rfl⟩
     case measure=>simp [intOf];omega
    ·have E:q - 1=qd:=(DivMath.breaks HI D HT.out (by omega)).trans hqd.out.symm
     go_wp2
     clear f1 f2 f3 f4
     go_loop [18,16] (fun x z=>∃ q r:Int,DivMath.Inv u21 n1 n0 un0 q r∧q≤4294967297∧x=.int .u64 q∧z=.int .u64 r) (fun x _=>(intOf x).toNat)
     case atStart=>exact⟨qq,rr,HI',hq',(by first | rfl | simp only [e10']),(by first | rfl | simp only [e12'])⟩
     case round =>
      clear HI hq HI' hr hr0 hq0 e10' e11' e12'
      obtain⟨q,r,HI,hq,rfl,rfl⟩:=hrel
      have hr:=HI.small
      have hr0:=HI.pos
      have hq0:=HI.qpos
      by_cases t1:4294967296≤q
      ·have HT:=Lib.hid (show 4294967296≤q∨4294967296*r+un0<q*n0 from Or.inl t1)
       have hq1:=DivMath.one_le HI DD HT.out
       by_cases t2:r+n1<4294967296
       ·have HS:=DivMath.step HI DD HT.out t2
        go_wp2
        go_round
        case rel=>exact⟨q - 1,r+n1,HS,by omega,rfl,rfl⟩
        case measure=>simp [intOf];omega
       ·have E:q - 1=qe:=(DivMath.breaks HI DD HT.out (by omega)).trans hqe.out.symm
        go_wp2
        go_ret2
        exact⟨rfl,rfl⟩
      ·obtain⟨x,hx⟩:∃ x,q*n0=x:=⟨_,rfl⟩
       have hx0:0≤x:=by rw [← hx];exact Int.mul_nonneg hq0 z30
       have hx1:x≤18446744073709551615:=by
        have h1:q*n0≤4294967295*n0:=Int.mul_le_mul_of_nonneg_right (by omega) z30
        omega
       have HX:=Lib.hid hx
       by_cases t3:4294967296*r+un0<x
       ·have HT:=Lib.hid (show 4294967296≤q∨4294967296*r+un0<q*n0 from Or.inr (by rw [hx];exact t3))
        have hq1:=DivMath.one_le HI DD HT.out
        by_cases t2:r+n1<4294967296
        ·have HS:=DivMath.step HI DD HT.out t2
         go_wp2
         go_round
         case rel=>exact⟨q - 1,r+n1,HS,by omega,rfl,rfl⟩
         case measure=>simp [intOf];omega
        ·have E:q - 1=qe:=(DivMath.breaks HI DD HT.out (by omega)).trans hqe.out.symm
         go_wp2
         go_ret2
         exact⟨rfl,rfl⟩
       ·obtain rfl:q=qe:=(DivMath.ends HI DD (by rw [hx];omega)).trans hqe.out.symm
        go_wp2
        go_ret2
        exact⟨rfl,rfl⟩
   ·obtain rfl:q=qd:=(DivMath.ends HI D (by rw [hx];omega)).trans hqd.out.symm
    go_wp2
    clear f1 f2 f3 f4
    go_loop [18,16] (fun x z=>∃ q r:Int,DivMath.Inv u21 n1 n0 un0 q r∧q≤4294967297∧x=.int .u64 q∧z=.int .u64 r) (fun x _=>(intOf x).toNat)
    case atStart=>exact⟨qq,rr,HI',hq',(by first | rfl | simp only [e10']),(by first | rfl | simp only [e12'])⟩
    case round =>
     clear HI hq HI' hr hr0 hq0 e10' e11' e12'
     obtain⟨q,r,HI,hq,rfl,rfl⟩:=hrel
     have hr:=HI.small
     have hr0:=HI.pos
     have hq0:=HI.qpos
     by_cases t1:4294967296≤q
     ·have HT:=Lib.hid (show 4294967296≤q∨4294967296*r+un0<q*n0 from Or.inl t1)
      have hq1:=DivMath.one_le HI DD HT.out
      by_cases t2:r+n1<4294967296
      ·have HS:=DivMath.step HI DD HT.out t2
       go_wp2
       go_round
       case rel=>exact⟨q - 1,r+n1,HS,by omega,rfl,rfl⟩
       case measure=>simp [intOf];omega
      ·have E:q - 1=qe:=(DivMath.breaks HI DD HT.out (by omega)).trans hqe.out.symm
       go_wp2
       go_ret2
       exact⟨rfl,rfl⟩
     ·obtain⟨x,hx⟩:∃ x,q*n0=x:=⟨_,rfl⟩
      have hx0:0≤x:=by rw [← hx];exact Int.mul_nonneg hq0 z30
      have hx1:x≤18446744073709551615:=by
       have h1:q*n0≤4294967295*n0:=Int.mul_le_mul_of_nonneg_right (by omega) z30
       omega
      have HX:=Lib.hid hx
      by_cases t3:4294967296*r+un0<x
      ·have HT:=Lib.hid (show 4294967296≤q∨4294967296*r+un0<q*n0 from Or.inr (by rw [hx];exact t3))
       have hq1:=DivMath.one_le HI DD HT.out
       by_cases t2:r+n1<4294967296
       ·have HS:=DivMath.step HI DD HT.out t2
        go_wp2
        go_round
        case rel=>exact⟨q - 1,r+n1,HS,by omega,rfl,rfl⟩
        case measure=>simp [intOf];omega
       ·have E:q - 1=qe:=(DivMath.breaks HI DD HT.out (by omega)).trans hqe.out.symm
        go_wp2
        go_ret2
        exact⟨rfl,rfl⟩
      ·obtain rfl:q=qe:=(DivMath.ends HI DD (by rw [hx];omega)).trans hqe.out.symm
       go_wp2
       go_ret2
       exact⟨rfl,rfl⟩
namespace DivMath
theorem mask (a:Int) (h0:0≤a) (h:a≤18446744073709551615):bits .and .u64 a 4294967295=a % 4294967296:=by
 obtain⟨n,rfl⟩:=Int.eq_ofNat_of_zero_le h0
 have h1:=bits_and_u64_nat n 4294967295 (by omega) (by omega)
 have e:n &&& 4294967295=n % 4294967296:=Nat.and_two_pow_sub_one_eq_mod n 32
 rw [e] at h1
 exact h1.trans (by omega)
theorem orAdd (h t b:Int) (s:Nat) (h0:0≤h) (hb0:0≤b) (hb:b<2 ^ s) (hs:s≤63) (ha:h*2 ^ s≤18446744073709551615):bits .or .u64 (h*2 ^ s) b=h*2 ^ s+b:=by
 obtain⟨n,rfl⟩:=Int.eq_ofNat_of_zero_le h0
 obtain⟨m,rfl⟩:=Int.eq_ofNat_of_zero_le hb0
 have hp:(2:Nat) ^ s≤2 ^ 63:=Nat.pow_le_pow_right (by omega) hs
 have hc:((n:Int)*2 ^ s)=((n*2 ^ s:Nat):Int):=by rw [Int.natCast_mul,Int.natCast_pow];rfl
 have hc2:((2:Int) ^ s)=((2 ^ s:Nat):Int):=by rw [Int.natCast_pow];rfl
 rw [hc2] at hb
 rw [hc] at ha ⊢
 have h1:=bits_or_u64_nat (n*2 ^ s) m (by omega) (by omega)
 rw [h1]
 have:n*2 ^ s ||| m=n*2 ^ s+m:=by
  rw [Nat.mul_comm,← Nat.two_pow_add_eq_or_of_lt (by omega)]
 rw [this,Int.natCast_add]
theorem norm (y:Int) (h0:0<y) (h1:y≤18446744073709551615):∃ s:Nat,s≤63∧(64 - (Lib.bitLen y.toNat:Int))=s∧9223372036854775808≤y*2 ^ s∧y*2 ^ s≤18446744073709551615:=by
 obtain⟨n,rfl⟩:=Int.eq_ofNat_of_zero_le (Int.le_of_lt h0)
 rw [Int.toNat_natCast]
 obtain⟨b1,b2,b3⟩:=Lib.bitLenAux_bounds 64 n (by omega) (by omega)
 have b4:Lib.bitLen n≤64:=Lib.bitLen_le n 64 (by omega) (by omega)
 change 1≤Lib.bitLen n at b1
 change 2 ^ (Lib.bitLen n - 1)≤n at b2
 change n<2 ^ Lib.bitLen n at b3
 generalize Lib.bitLen n=b at *
 refine⟨64 - b,by omega,by omega,?_⟩
 have hc:((n:Int)*2 ^ (64 - b))=((n*2 ^ (64 - b):Nat):Int):=by rw [Int.natCast_mul,Int.natCast_pow];rfl
 rw [hc]
 have e1:2 ^ (b - 1)*2 ^ (64 - b)=9223372036854775808:=by rw [← Nat.pow_add,show b - 1+(64 - b)=63 by omega]
 have e2:2 ^ b*2 ^ (64 - b)=18446744073709551616:=by rw [← Nat.pow_add,show b+(64 - b)=64 by omega]
 have l1:2 ^ (b - 1)*2 ^ (64 - b)≤n*2 ^ (64 - b):=Nat.mul_le_mul_right _ b2
 have l2:n*2 ^ (64 - b)<2 ^ b*2 ^ (64 - b):=Nat.mul_lt_mul_of_pos_right b3 (Nat.pow_pos (by omega))
 omega
theorem wrap_u64_mod (a:Int):IntKind.u64.wrap a=a % 18446744073709551616:=IntKind.wrap_u64 a
theorem shifted (hi lo y P Q:Int) (hPQ:P*Q=18446744073709551616) (hP:0<P) (hQ:0<Q) (h0:0≤hi) (h1:hi<y) (hl0:0≤lo) (hl1:lo≤18446744073709551615) :
  0≤lo / Q∧lo / Q<P∧hi*P+lo / Q<y*P∧(lo*P) % 18446744073709551616=lo % Q*P∧(hi*18446744073709551616+lo)*P=(hi*P+lo / Q)*18446744073709551616+lo % Q*P:=by
 have hd:=Int.mul_ediv_add_emod lo Q
 have hm:=Int.emod_nonneg lo (show Q≠0 by omega)
 have hm2:=Int.emod_lt_of_pos lo hQ
 have hb:lo / Q<P:=(Int.ediv_lt_iff_lt_mul hQ).2 (by rw [hPQ];omega)
 have hb0:0≤lo / Q:=Int.ediv_nonneg hl0 (by omega)
 refine⟨hb0,hb,?_,?_,?_⟩
 ·have:(hi+1)*P≤y*P:=Int.mul_le_mul_of_nonneg_right h1 (by omega)
  rw [Int.add_mul,Int.one_mul] at this
  omega
 ·have e:lo*P=lo % Q*P+18446744073709551616*(lo / Q):=by
   conv=>lhs;rw [← hd]
   rw [← hPQ];grind
  rw [e,Int.add_mul_emod_self_left]
  refine Int.emod_eq_of_lt (Int.mul_nonneg hm (by omega)) ?_
  rw [← hPQ,Int.mul_comm P Q]
  exact Int.mul_lt_mul_of_pos_right hm2 hP
 ·conv=>lhs;rw [← hd]
  rw [← hPQ];grind
theorem sub_mod_word (N q Y:Int) (hY0:0<Y) (hY:Y≤18446744073709551615) (hq:q=N / Y):(N % 18446744073709551616 - q*Y % 18446744073709551616) % 18446744073709551616=N % Y:=by
 have h1:=Int.mul_ediv_add_emod N Y
 have h2:=Int.emod_nonneg N (show Y≠0 by omega)
 have h3:=Int.emod_lt_of_pos N hY0
 rw [← hq] at h1
 have h4:Y*q=q*Y:=Int.mul_comm _ _
 generalize N % Y=r at *
 generalize q*Y=m at *
 omega
theorem head_digit (u n1 n0 un1 Y:Int) (hY:Y=n1*4294967296+n0) (D:Dom u n1 n0 un1) (hYh:Y≤18446744073709551615) (qd:Int) (hqd:qd=(u*4294967296+un1) / (n1*4294967296+n0)) :
  IntKind.u64.wrap (IntKind.u64.wrap (IntKind.u64.wrap (u*4294967296)+un1) - IntKind.u64.wrap (qd*Y))=(u*4294967296+un1) % Y:=by
 rw [← hY] at hqd
 have h:=sub_mod_word (u*4294967296+un1) qd Y (by have:=D.n1l;have:=D.n0l;omega) hYh hqd
 rw [← h]
 simp only [wrap_u64_mod]
 generalize u*4294967296=x
 generalize qd*Y=z
 omega
theorem guess (u n1 n0 l:Int) (d:Dom u n1 n0 l) (hu:u≤18446744073709551615):IntKind.u64.wrap (u / n1*n1)=u / n1*n1∧0≤u / n1*n1∧u / n1*n1≤u∧u / n1≤4294967297∧0≤u / n1:=by
 have h:=start d
 have h1:=h.split
 have h2:=h.pos
 have h3:=h.qpos
 have h5:0≤u / n1*n1:=Int.mul_nonneg h3 (by have:=d.n1l;omega)
 refine⟨?_,h5,by omega,le_top h d,h3⟩
 rw [wrap_u64_mod]
 generalize u / n1*n1=x at *
 omega
end DivMath
set_option maxHeartbeats 1000000 in
theorem div64_low (lo y:Int) (w:World) (h1:0<y) (h2:y≤18446744073709551615) (hl0:0≤lo) (hl1:lo≤18446744073709551615) :
  Calls Tryz.prog 159 #[.int .u64 0,.int .u64 lo,.int .u64 y] w fun e w'=>e=.returned (.tuple #[.int .u64 (lo / y),.int .u64 (lo % y)])∧∃ n,w'=w.drewN n:=by
 have b1:(y == 0)=false:=by simp;omega
 have q0:¬ y≤0:=by omega
 have b2:y≠0:=by omega
 have w1:IntKind.u64.wrap (lo.tdiv y)=lo / y:=IntWalk.u64_quo lo y ⟨hl0,hl1,h1⟩
 have w2:lo.tmod y=lo % y:=IntWalk.rem_in lo y hl0
 go_enter Tryz.func159,Tryz.ntmps159
 go_wp2
 go_quiet (fail)
 go_wp2
 go_ret2
 exact⟨rfl,_,rfl⟩
set_option maxHeartbeats 1000000 in
theorem div64_any (hi lo y:Int) (w:World) (h0:0≤hi) (h1:hi<y) (h2:y≤18446744073709551615) (hl0:0≤lo) (hl1:lo≤18446744073709551615) :
  Calls Tryz.prog 159 #[.int .u64 hi,.int .u64 lo,.int .u64 y] w fun e w'=>e=.returned (.tuple #[.int .u64 ((hi*18446744073709551616+lo) / y),.int .u64 ((hi*18446744073709551616+lo) % y)])∧∃ n,w'=w.drewN n:=by
 by_cases hz:hi=0
 ·subst hz
  simpa using div64_low lo y w h1 h2 hl0 hl1
 obtain⟨s,hs,hsl,hY0,hY1⟩:=DivMath.norm y (by omega) h2
 have hPQ:(2:Int) ^ s*2 ^ (64 - s)=18446744073709551616:=by
  rw [← Int.pow_add,show s+(64 - s)=64 by omega];rfl
 have hP:(0:Int)<2 ^ s:=Int.pow_pos (by omega)
 have hQ:(0:Int)<2 ^ (64 - s):=Int.pow_pos (by omega)
 obtain⟨k1,k2,k3,k4,k5⟩:=DivMath.shifted hi lo y (2 ^ s) (2 ^ (64 - s)) hPQ hP hQ h0 h1 hl0 hl1
 have k6:0≤hi*2 ^ s:=Int.mul_nonneg h0 (by omega)
 have hor:=DivMath.orAdd hi 0 (lo / 2 ^ (64 - s)) s h0 k1 k2 hs (by omega)
 have hdY:=Int.mul_ediv_add_emod (y*2 ^ s) 4294967296
 have hn0:=Int.emod_nonneg (y*2 ^ s) (show (4294967296:Int)≠0 by omega)
 have hn0':=Int.emod_lt_of_pos (y*2 ^ s) (show (0:Int)<4294967296 by omega)
 have hYe:y*2 ^ s=y*2 ^ s / 4294967296*4294967296+y*2 ^ s % 4294967296:=by omega
 have k7:0≤lo % 2 ^ (64 - s)*2 ^ s:=by rw [← k4];omega
 have k8:lo % 2 ^ (64 - s)*2 ^ s≤18446744073709551615:=by rw [← k4];omega
 have D1:DivMath.Dom (hi*2 ^ s+lo / 2 ^ (64 - s)) (y*2 ^ s / 4294967296) (y*2 ^ s % 4294967296) (lo % 2 ^ (64 - s)*2 ^ s / 4294967296):=⟨by omega,by omega,by omega,by omega,by omega,by omega,by omega,by omega⟩
 obtain⟨g1,g2,g3,g4,g5⟩:=DivMath.guess _ _ _ _ D1 (by omega)
 have hh:=DivMath.head_digit _ _ _ _ (y*2 ^ s) hYe D1 hY1 _ rfl
 have hm0:=Int.emod_nonneg ((hi*2 ^ s+lo / 2 ^ (64 - s))*4294967296+lo % 2 ^ (64 - s)*2 ^ s / 4294967296) (show y*2 ^ s≠0 by omega)
 have hm1:=Int.emod_lt_of_pos ((hi*2 ^ s+lo / 2 ^ (64 - s))*4294967296+lo % 2 ^ (64 - s)*2 ^ s / 4294967296) (show 0<y*2 ^ s by omega)
 have D2:DivMath.Dom (((hi*2 ^ s+lo / 2 ^ (64 - s))*4294967296+lo % 2 ^ (64 - s)*2 ^ s / 4294967296) % (y*2 ^ s)) (y*2 ^ s / 4294967296) (y*2 ^ s % 4294967296) (lo % 2 ^ (64 - s)*2 ^ s % 4294967296):=⟨by omega,by omega,by omega,by omega,by omega,by omega,hm0,by omega⟩
 obtain⟨g1',g2',g3',g4',g5'⟩:=DivMath.guess _ _ _ _ D2 (by omega)
 have hh':=DivMath.head_digit _ _ _ _ (y*2 ^ s) hYe D2 hY1 _ rfl
 have hj:=DivMath.join (U:=(hi*18446744073709551616+lo)*2 ^ s) (Y:=y*2 ^ s) (u:=hi*2 ^ s+lo / 2 ^ (64 - s)) (un1:=lo % 2 ^ (64 - s)*2 ^ s / 4294967296) (un0:=lo % 2 ^ (64 - s)*2 ^ s % 4294967296) (by omega) (by rw [k5];omega) rfl rfl rfl
 obtain⟨hj1,hj2⟩:=hj
 rw [Int.mul_ediv_mul_of_pos_left _ _ hP] at hj1
 rw [Int.mul_comm _ (2 ^ s),Int.mul_comm y (2 ^ s),Int.mul_emod_mul_of_pos _ _ hP,Int.mul_comm (2 ^ s) y] at hj2
 have hlz:∀ w:World,Calls Tryz.prog 209 #[.int .u64 y] w fun e w'=>e=.returned (.int .i64 s)∧w=w':=fun w =>
  (Tryz.bits_LeadingZeros64 y w (by omega) h2).mono fun e w' ⟨he,hw⟩=>⟨by rw [he,hsl],hw.symm⟩
 have q1:=DivMath.digit_lt D1
 have q2:=DivMath.digit_nonneg D1
 have q3:=DivMath.digit_lt D2
 have q4:=DivMath.digit_nonneg D2
 refine (div64_core hi lo y (y*2 ^ s) (y*2 ^ s / 4294967296) (y*2 ^ s % 4294967296) (hi*2 ^ s) (lo / 2 ^ (64 - s)) (hi*2 ^ s+lo / 2 ^ (64 - s)) (lo % 2 ^ (64 - s)*2 ^ s) (lo % 2 ^ (64 - s)*2 ^ s / 4294967296) (lo % 2 ^ (64 - s)*2 ^ s % 4294967296)
  _ _ _ _ _ _ _ _ _ _ _ _ _ _ _ _ _ s w h1 h2 hl1 hl0 (by omega) hs hlz (by rw [DivMath.wrap_u64_mod];omega) rfl (DivMath.mask _ (by omega) hY1) (by rw [DivMath.wrap_u64_mod];omega) rfl hor (by rw [DivMath.wrap_u64_mod,k4]) rfl (DivMath.mask _ k7 k8) rfl g1 rfl ⟨g2,g3⟩ g4 g5 (by omega) D1 (DivMath.start D1) (by omega) hY1 k7 k8 rfl q2 q1 rfl rfl rfl hh rfl g1' rfl (by omega) hm0 ⟨g2',g3'⟩ g4' g5' D2 (DivMath.start D2) rfl q4 q3 rfl rfl rfl hh' rfl).mono ?_
 rintro e w' ⟨rfl,rfl⟩
 refine⟨?_,0,rfl⟩
 rw [← hYe,← hj2,Int.mul_ediv_cancel_left _ (by omega),hj1]
def raisedB (q r c m:Int):Bool :=
 if m=1 then decide (0<r) else if m=2 then decide (c - r≤r) else if m=3 then (decide (c - r<r) || (decide (r=c - r) && decide (q % 2=1))) else false
theorem ret_int' {k:IntKind} {a b:Int} (h:a=b):Ending.returned (.int k a)=.returned (.int k b):=by rw [h]
theorem ret_bool {a b:Bool} (h:a=b):Ending.returned (.bool a)=.returned (.bool b):=by rw [h]
set_option maxHeartbeats 1000000 in
theorem raised_any (q r c m:Int) (w:World) (hq:0≤q) (hr:0≤r) (hc:r≤c) (hc':c≤18446744073709551615) :
  Calls Tryz.prog 160 #[.int .u64 q,.int .u64 r,.int .u64 c,.int .i64 m] w fun e w'=>e=.returned (.bool (raisedB q r c m))∧w=w':=by
 by_cases h1:m=1
 ·subst h1
  go_enter Tryz.func160,Tryz.ntmps160
  go_wp2
  go_ret
  exact⟨ret_bool (by simp [raisedB]),rfl⟩
 by_cases h2:m=2
 ·subst h2
  go_enter Tryz.func160,Tryz.ntmps160
  go_wp2
  go_ret
  exact⟨ret_bool (by simp [raisedB]),rfl⟩
 have b1:(m == 1)=false:=by simpa using h1
 have b2:(m == 2)=false:=by simpa using h2
 by_cases h3:m=3
 ·subst h3
  by_cases t1:c - r<r
  ·have d1:decide (c - r<r)=true:=by simpa using t1
   have E:=Lib.hid (show raisedB q r c 3=true by simp [raisedB,t1])
   go_enter Tryz.func160,Tryz.ntmps160
   go_wp2
   go_ret
   exact⟨ret_bool E.out.symm,rfl⟩
  ·have d1:decide (c - r<r)=false:=by simpa using t1
   by_cases t2:r=c - r
   ·have d2:(r == c - r)=true:=by simpa using t2
    by_cases t3:q % 2=1
    ·have d3:(q % 2 == 1)=true:=by simpa using t3
     have E:=Lib.hid (show raisedB q r c 3=true by simp [raisedB,t3,← t2])
     have T2:=Lib.hid t2
     clear t2 t3
     go_enter Tryz.func160,Tryz.ntmps160
     go_wp2
     go_ret
     exact⟨ret_bool E.out.symm,rfl⟩
    ·have d3:(q % 2 == 1)=false:=by simpa using t3
     have E:=Lib.hid (show raisedB q r c 3=false by simp [raisedB,t3,← t2])
     have T2:=Lib.hid t2
     clear t2 t3
     go_enter Tryz.func160,Tryz.ntmps160
     go_wp2
     go_ret
     exact⟨ret_bool E.out.symm,rfl⟩
   ·have d2:(r == c - r)=false:=by simpa using t2
    have E:=Lib.hid (show raisedB q r c 3=false by simp [raisedB,t2];omega)
    go_enter Tryz.func160,Tryz.ntmps160
    go_wp2
    go_ret
    exact⟨ret_bool E.out.symm,rfl⟩
 ·have b3:(m == 3)=false:=by simpa using h3
  have E:=Lib.hid (show raisedB q r c m=false by simp [raisedB,h1,h2,h3])
  go_enter Tryz.func160,Tryz.ntmps160
  go_wp2
  go_ret
  exact⟨ret_bool E.out.symm,rfl⟩
set_option maxHeartbeats 1000000 in
theorem rem64_any (hi lo y:Int) (w:World) (h0:0≤hi) (h1:hi≤18446744073709551615) (hy:0<y) (h2:y≤18446744073709551615) (hl0:0≤lo) (hl1:lo≤18446744073709551615) :
  Calls Tryz.prog 153 #[.int .u64 hi,.int .u64 lo,.int .u64 y] w fun e w'=>e=.returned (.int .u64 ((hi*18446744073709551616+lo) % y))∧∃ n,w'=w.drewN n:=by
 have b1:(y == 0)=false:=by simp;omega
 have k1:=Int.emod_nonneg hi (show y≠0 by omega)
 have k2:=Int.emod_lt_of_pos hi hy
 have hd:=div64_any (hi % y) lo y w k1 k2 h2 hl0 hl1
 have e:(hi % y*18446744073709551616+lo) % y=(hi*18446744073709551616+lo) % y:=by
  rw [Int.add_emod,Int.mul_emod,Int.emod_emod_of_dvd _ (Int.dvd_refl y),← Int.mul_emod,← Int.add_emod]
 rw [e] at hd
 have HD:=Lib.hid hd
 clear hd e k1 k2
 go_enter Tryz.func153,Tryz.ntmps153
 go_wp2_with (go_at_call 159;refine HD.out.mono ?_;rintro e w' ⟨rfl,n,rfl⟩)
 go_ret
 exact⟨rfl,_,rfl⟩
set_option maxHeartbeats 1000000 in
theorem mul_any (a b:Int) (w:World) (ha:0≤a) (ha':a≤18446744073709551615) (hb:0≤b) (hb':b≤18446744073709551615) :
  Calls Tryz.prog 98 #[.int .u64 a,.int .u64 b] w fun e w'=>e=.returned (.agg #[.int .u64 (a*b / 18446744073709551616),.int .u64 (a*b % 18446744073709551616)])∧Below w.heap.size w w':=by
 have hm:∀ w:World,Calls Tryz.prog 157 #[.int .u64 a,.int .u64 b] w fun e w'=>e=.returned (.tuple #[.int .u64 (a*b / 18446744073709551616),.int .u64 (a*b % 18446744073709551616)])∧w=w':=by
  intro w
  obtain⟨x,rfl⟩:=Int.eq_ofNat_of_zero_le ha
  obtain⟨y,rfl⟩:=Int.eq_ofNat_of_zero_le hb
  refine (Tryz.bits_Mul64 x y (by omega) (by omega) w).mono fun e w' ⟨he,hw⟩=>⟨?_,hw.symm⟩
  rw [he]
  rfl
 have HM:=Lib.hid hm
 clear hm
 generalize a*b / 18446744073709551616=h at *
 generalize a*b % 18446744073709551616=l at *
 go_enter Tryz.func98,Tryz.ntmps98
 go_wp2_with (go_at_call 157;refine (HM.out _).mono ?_;rintro e w' ⟨rfl,rfl⟩)
 refine bodyPost_ret (v:=.agg #[.int .u64 h,.int .u64 l]) (by simp [results,Tryz.results98,go_sem]) rfl ⟨rfl,?_⟩
 exact (Below.refl _ _).alloc (Nat.le_refl _) _
def divOut (n c m:Int):Int × Int :=
 if c=0∨m<0∨3<m then (0,2)
 else if c≤n / 18446744073709551616 then (0,3)
 else if raisedB (n / c) (n % c) c m=true then (if n / c=18446744073709551615 then (0,3) else (n / c+1,0))
 else (n / c,0)
theorem ret_div {n c m q e:Int} (h:divOut n c m=(q,e)):Ending.returned (.tuple #[.int .u64 q,.int .i64 e])=.returned (.tuple #[.int .u64 (divOut n c m).1,.int .i64 (divOut n c m).2]):=by rw [h]
set_option maxHeartbeats 1000000 in
theorem div_any (h l c m:Int) (w:World) (hh:0≤h) (hh':h≤18446744073709551615) (hl:0≤l) (hl':l≤18446744073709551615) (hc:0≤c) (hc':c≤18446744073709551615) :
  Calls Tryz.prog 101 #[.agg #[.int .u64 h,.int .u64 l],.int .u64 c,.int .i64 m] w fun e w'=>e=.returned (.tuple #[.int .u64 (divOut (h*18446744073709551616+l) c m).1,.int .i64 (divOut (h*18446744073709551616+l) c m).2])∧Below w.heap.size w w':=by
 by_cases c0:c=0
 ·have E:=Lib.hid (show divOut (h*18446744073709551616+l) c m=(0,2) by simp [divOut,c0])
  have b0:(c == 0)=true:=by simpa using c0
  clear c0
  go_enter Tryz.func101,Tryz.ntmps101
  go_wp2
  go_ret2
  exact⟨ret_div E.out,(Below.refl _ _).alloc (Nat.le_refl _) _⟩
 have b0:(c == 0)=false:=by simpa using c0
 by_cases m0:m<0
 ·have E:=Lib.hid (show divOut (h*18446744073709551616+l) c m=(0,2) by simp [divOut,m0])
  have d0:decide (m<0)=true:=by simpa using m0
  go_enter Tryz.func101,Tryz.ntmps101
  go_wp2
  go_ret2
  exact⟨ret_div E.out,(Below.refl _ _).alloc (Nat.le_refl _) _⟩
 have d0:decide (m<0)=false:=by simpa using m0
 by_cases m3:3<m
 ·have E:=Lib.hid (show divOut (h*18446744073709551616+l) c m=(0,2) by simp [divOut,m3])
  have d3:decide (3<m)=true:=by simpa using m3
  go_enter Tryz.func101,Tryz.ntmps101
  go_wp2
  go_ret2
  exact⟨ret_div E.out,(Below.refl _ _).alloc (Nat.le_refl _) _⟩
 have d3:decide (3<m)=false:=by simpa using m3
 have en:(h*18446744073709551616+l) / 18446744073709551616=h:=by omega
 by_cases t1:c≤h
 ·have E:=Lib.hid (show divOut (h*18446744073709551616+l) c m=(0,3) by simp [divOut,c0,m0,m3,en,t1])
  clear en
  go_enter Tryz.func101,Tryz.ntmps101
  go_wp2
  go_ret2
  exact⟨ret_div E.out,(Below.refl _ _).alloc (Nat.le_refl _) _⟩
 have HD:=Lib.hid (fun w:World=>div64_any h l c w hh (by omega) hc' hl hl')
 have HE:=Lib.hid (show divOut (h*18446744073709551616+l) c m=if raisedB ((h*18446744073709551616+l) / c) ((h*18446744073709551616+l) % c) c m=true then (if (h*18446744073709551616+l) / c=18446744073709551615 then (0,3) else ((h*18446744073709551616+l) / c+1,0)) else ((h*18446744073709551616+l) / c,0) by simp [divOut,c0,m0,m3,en,t1])
 have hN:0≤h*18446744073709551616+l:=by omega
 have q0:0≤(h*18446744073709551616+l) / c:=Int.ediv_nonneg hN hc
 have q1:(h*18446744073709551616+l) / c<18446744073709551616:=(Int.ediv_lt_iff_lt_mul (by omega)).2 (by omega)
 have r0:=Int.emod_nonneg (h*18446744073709551616+l) c0
 have r1:=Int.emod_lt_of_pos (h*18446744073709551616+l) (show 0<c by omega)
 clear en hN
 generalize h*18446744073709551616+l=N at *
 generalize N / c=q at *
 generalize N % c=r at *
 have HR:=Lib.hid (fun w:World=>raised_any q r c m w q0 r0 (by omega) hc')
 cases hb:raisedB q r c m with
 | false =>
  have E:=Lib.hid (show divOut N c m=(q,0) by rw [HE.out,if_neg (by simp [hb])])
  have HR':=Lib.hid (fun w=>by have:=HR.out w;rw [hb] at this;exact this)
  clear hb HE
  go_enter Tryz.func101,Tryz.ntmps101
  go_wp2_with (first | (go_at_call 159;refine (HD.out _).mono ?_;rintro e w' ⟨rfl,n,rfl⟩) | (go_at_call 160;refine (HR'.out _).mono ?_;rintro e w' ⟨rfl,rfl⟩))
  go_ret2
  exact⟨ret_div E.out,below_drewN ((Below.refl _ _).alloc (Nat.le_refl _) _) _⟩
 | true =>
  have HR':=Lib.hid (fun w=>by have:=HR.out w;rw [hb] at this;exact this)
  by_cases t2:q=18446744073709551615
  ·have E:=Lib.hid (show divOut N c m=(0,3) by rw [HE.out,if_pos hb,if_pos t2])
   have b2:(q == 18446744073709551615)=true:=by simpa using t2
   clear hb HE t2
   go_enter Tryz.func101,Tryz.ntmps101
   go_wp2_with (first | (go_at_call 159;refine (HD.out _).mono ?_;rintro e w' ⟨rfl,n,rfl⟩) | (go_at_call 160;refine (HR'.out _).mono ?_;rintro e w' ⟨rfl,rfl⟩))
   go_ret2
   exact⟨ret_div E.out,below_drewN ((Below.refl _ _).alloc (Nat.le_refl _) _) _⟩
  ·have E:=Lib.hid (show divOut N c m=(q+1,0) by rw [HE.out,if_pos hb,if_neg t2])
   have b2:(q == 18446744073709551615)=false:=by simpa using t2
   clear hb HE
   go_enter Tryz.func101,Tryz.ntmps101
   go_wp2_with (first | (go_at_call 159;refine (HD.out _).mono ?_;rintro e w' ⟨rfl,n,rfl⟩) | (go_at_call 160;refine (HR'.out _).mono ?_;rintro e w' ⟨rfl,rfl⟩))
   go_ret2
   exact⟨ret_div E.out,below_drewN ((Below.refl _ _).alloc (Nat.le_refl _) _) _⟩
theorem prod_parts (a b:Int) (ha:0≤a) (ha':a≤18446744073709551615) (hb:0≤b) (hb':b≤18446744073709551615) :
  0≤a*b / 18446744073709551616∧a*b / 18446744073709551616≤18446744073709551615∧0≤a*b % 18446744073709551616∧a*b % 18446744073709551616≤18446744073709551615∧a*b / 18446744073709551616*18446744073709551616+a*b % 18446744073709551616=a*b:=by
 have h0:0≤a*b:=Int.mul_nonneg ha hb
 have h1:a*b≤18446744073709551615*18446744073709551615:=Int.mul_le_mul ha' hb' hb (by omega)
 omega
set_option maxHeartbeats 1000000 in
theorem mulDiv_any (a b c m:Int) (w:World) (ha:0≤a) (ha':a≤18446744073709551615) (hb:0≤b) (hb':b≤18446744073709551615) (hc:0≤c) (hc':c≤18446744073709551615) :
  Calls Tryz.prog 93 #[.int .u64 a,.int .u64 b,.int .u64 c,.int .i64 m] w fun e w'=>e=.returned (.tuple #[.int .u64 (divOut (a*b) c m).1,.int .i64 (divOut (a*b) c m).2])∧Below w.heap.size w w':=by
 obtain⟨p1,p2,p3,p4,p5⟩:=prod_parts a b ha ha' hb hb'
 have HM:=Lib.hid (fun w:World=>mul_any a b w ha ha' hb hb')
 have HD:=Lib.hid (fun w:World=>div_any (a*b / 18446744073709551616) (a*b % 18446744073709551616) c m w p1 p2 p3 p4 hc hc')
 rw [p5] at HD
 clear p1 p2 p3 p4 p5
 generalize a*b / 18446744073709551616=h at *
 generalize a*b % 18446744073709551616=l at *
 generalize divOut (a*b) c m=o at *
 go_enter Tryz.func93,Tryz.ntmps93
 go_wp2_with (first | (go_at_call 98;refine (HM.out _).mono ?_;rintro e w1 ⟨rfl,hb1⟩) | (go_at_call 101;refine (HD.out _).mono ?_;rintro e w2 ⟨rfl,hb2⟩))
 go_ret2
 exact⟨rfl,hb1.trans (hb2.mono hb1.size)⟩
set_option maxHeartbeats 1000000 in
theorem mulMod_any (a b c:Int) (w:World) (ha:0≤a) (ha':a≤18446744073709551615) (hb:0≤b) (hb':b≤18446744073709551615) (hc:0<c) (hc':c≤18446744073709551615) :
  Calls Tryz.prog 94 #[.int .u64 a,.int .u64 b,.int .u64 c] w fun e w'=>e=.returned (.int .u64 (a*b % c))∧Below w.heap.size w w':=by
 obtain⟨p1,p2,p3,p4,p5⟩:=prod_parts a b ha ha' hb hb'
 have HM:=Lib.hid (fun w:World=>mul_any a b w ha ha' hb hb')
 have HD:=Lib.hid (fun w:World=>rem64_any (a*b / 18446744073709551616) (a*b % 18446744073709551616) c w p1 p2 hc hc' p3 p4)
 rw [p5] at HD
 clear p1 p2 p3 p4 p5
 generalize a*b / 18446744073709551616=h at *
 generalize a*b % 18446744073709551616=l at *
 generalize a*b % c=o at *
 have b0:(c == 0)=false:=by simp;omega
 go_enter Tryz.func94,Tryz.ntmps94
 go_wp2_with (first | (go_at_call 98;refine (HM.out _).mono ?_;rintro e w1 ⟨rfl,hb1⟩) | (go_at_call 153;refine (HD.out _).mono ?_;rintro e w2 ⟨rfl,n,rfl⟩))
 go_ret
 exact⟨rfl,below_drewN (hb1.alloc hb1.size _) n⟩
end Go.Proofs.YtbokkeooahodaaaGreatDoor
namespace Go.Proofs.YtbokkeooahodaaaGreatDoor
set_option linter.unusedVariables false
def sumN (n:Nat) (f:Nat→Int):Int:=((List.range n).map f).sum
theorem sumN_zero (f:Nat→Int):sumN 0 f=0:=rfl
theorem sumN_succ (n:Nat) (f:Nat→Int):sumN (n+1) f=sumN n f+f n:=by
 simp [sumN,List.range_succ]
theorem sumN_congr {n:Nat} {f g:Nat→Int} (h:∀ i,i<n→f i=g i):sumN n f=sumN n g:=by
 unfold sumN
 rw [List.map_congr_left (fun i hi=>h i (List.mem_range.1 hi))]
theorem sumN_add (n:Nat) (f g:Nat→Int):sumN n (fun i=>f i+g i)=sumN n f+sumN n g:=by
 induction n with
 | zero=>rfl
 | succ n ih=>simp only [sumN_succ,ih];omega
theorem sumN_mul (n:Nat) (c:Int) (f:Nat→Int):sumN n (fun i=>c*f i)=c*sumN n f:=by
 induction n with
 | zero=>simp [sumN_zero]
 | succ n ih=>simp only [sumN_succ,ih,Int.mul_add]
theorem sumN_const (n:Nat) (c:Int):sumN n (fun _=>c)=n*c:=by
 induction n with
 | zero=>simp [sumN_zero]
 | succ n ih=>rw [sumN_succ,ih,Int.natCast_succ,Int.add_mul];omega
theorem sumN_le {n:Nat} {f g:Nat→Int} (h:∀ i,i<n→f i≤g i):sumN n f≤sumN n g:=by
 induction n with
 | zero=>simp [sumN_zero]
 | succ n ih=>rw [sumN_succ,sumN_succ];have:=ih (fun i hi=>h i (by omega));have:=h n (by omega);omega
theorem sumN_nonneg {n:Nat} {f:Nat→Int} (h:∀ i,i<n→0≤f i):0≤sumN n f:=by
 have:=sumN_le (n:=n) (f:=fun _=>0) (g:=f) h
 rw [sumN_const] at this
 omega
theorem sumN_list (ws:List Int):sumN ws.length (fun i=>ws.getD i 0)=ws.sum:=by
 unfold sumN
 congr 1
 apply List.ext_getElem
 ·simp
 ·intro i h1 h2
  simp [List.getD,List.getElem?_eq_getElem h2]
theorem perm_sum {l l':List Int} (h:l.Perm l'):l.sum=l'.sum:=by
 induction h with
 | nil=>rfl
 | cons x _ ih=>simp [ih]
 | swap x y l=>simp;omega
 | trans _ _ ih1 ih2=>exact ih1.trans ih2
def bef (r:Nat→Int) (j i:Nat):Bool:=decide (r i<r j∨(r j=r i∧j<i))
def rank (r:Nat→Int) (n i:Nat):Nat:=(List.range n).countP (fun j=>bef r j i)
theorem countP_pos_eq {α:Type} (f:α→Bool) (l:List α) (p:Nat) (hp:p≤l.length) (h1:∀ k (h:k<l.length),k<p→f l[k] = true) (h2:∀ k (h:k<l.length),p≤k→f l[k] = false):l.countP f=p:=by
 rw [← List.take_append_drop p l,List.countP_append]
 have e1:(l.take p).countP f=p:=by
  rw [List.countP_eq_length.2]
  ·rw [List.length_take];omega
  ·intro a ha
   obtain⟨k,hk,rfl⟩:=List.mem_iff_getElem.1 ha
   rw [List.length_take] at hk
   rw [List.getElem_take]
   exact h1 k (by omega) (by omega)
 have e2:(l.drop p).countP f=0:=by
  rw [List.countP_eq_zero]
  intro a ha
  obtain⟨k,hk,rfl⟩:=List.mem_iff_getElem.1 ha
  rw [List.length_drop] at hk
  rw [List.getElem_drop,h2 (p+k) (by omega) (by omega)]
  simp
 omega
theorem rank_of_sorted (r:Nat→Int) (n:Nat) (l:List Nat) (hp:l.Perm (List.range n)) (hs:∀ i j (hi:i<l.length) (hj:j<l.length),i<j→bef r l[j] l[i] = false) (p:Nat) (h:p<l.length):rank r n l[p] = p:=by
 unfold rank
 rw [← hp.countP_eq]
 have hnd:l.Nodup:=hp.nodup_iff.2 List.nodup_range
 refine countP_pos_eq _ l p (by omega) ?_ ?_
 ·intro k hk hkp
  have h1:=hs k p hk h hkp
  have h2:l[k]≠l[p]:=List.pairwise_iff_getElem.1 hnd k p hk h hkp
  simp [bef] at h1 ⊢
  omega
 ·intro k hk hkp
  rcases Nat.lt_or_ge p k with h3 | h3
  ·exact hs p k h hk h3
  ·obtain rfl:k=p:=by omega
   simp [bef]
theorem exists_sorted (r:Nat→Int) (n:Nat):∃ l:List Nat,l.Perm (List.range n)∧∀ i j (hi:i<l.length) (hj:j<l.length),i<j→bef r l[j] l[i] = false:=by
 refine⟨(List.range n).mergeSort (fun a b=>!bef r b a),List.mergeSort_perm _ _,?_⟩
 have hpw:=List.pairwise_mergeSort (le:=fun a b=>!bef r b a) (fun a b c h1 h2=>by simp [bef] at *;omega) (fun a b=>by simp [bef];omega) (List.range n)
 intro i j hi hj hij
 have:=List.pairwise_iff_getElem.1 hpw i j hi hj hij
 simpa using this
theorem perm_rank (r:Nat→Int) (n:Nat):((List.range n).map (rank r n)).Perm (List.range n):=by
 obtain⟨l,hp,hs⟩:=exists_sorted r n
 have h1:(l.map (rank r n)).Perm ((List.range n).map (rank r n)):=hp.map _
 have h2:l.map (rank r n)=List.range n:=by
  have hl:l.length=n:=by rw [hp.length_eq,List.length_range]
  apply List.ext_getElem
  ·simp [hl]
  ·intro i h3 h4
   rw [List.getElem_map,rank_of_sorted r n l hp hs,List.getElem_range]
 rw [h2] at h1
 exact h1.symm
theorem rank_lt (r:Nat→Int) (n i:Nat) (hi:i<n):rank r n i<n:=by
 have:rank r n i∈List.range n:=(perm_rank r n).mem_iff.1 (List.mem_map.2 ⟨i,List.mem_range.2 hi,rfl⟩)
 exact List.mem_range.1 this
theorem rank_surj (r:Nat→Int) (n p:Nat) (hp:p<n):∃ i,i<n∧rank r n i=p:=by
 have:=(perm_rank r n).mem_iff.2 (List.mem_range.2 hp)
 obtain⟨i,hi,e⟩:=List.mem_map.1 this
 exact⟨i,List.mem_range.1 hi,e⟩
theorem rank_inj (r:Nat→Int) (n i j:Nat) (hi:i<n) (hj:j<n) (h:rank r n i=rank r n j):i=j:=by
 have hnd:((List.range n).map (rank r n)).Nodup:=(perm_rank r n).nodup_iff.2 List.nodup_range
 have hl:((List.range n).map (rank r n)).length=n:=by simp
 rcases Nat.lt_trichotomy i j with h1 | h1 | h1
 ·have:=List.pairwise_iff_getElem.1 hnd i j (by omega) (by omega) h1
  simp at this
  exact absurd h this
 ·exact h1
 ·have:=List.pairwise_iff_getElem.1 hnd j i (by omega) (by omega) h1
  simp at this
  exact absurd h.symm this
theorem bef_trans {r:Nat→Int} {a b c:Nat} (h1:bef r a b=true) (h2:bef r b c=true):bef r a c=true:=by simp [bef] at *;omega
theorem rank_lt_of_bef (r:Nat→Int) (n j i:Nat) (hj:j<n) (h:bef r j i=true):rank r n j<rank r n i:=by
 unfold rank
 have key:∀ l:List Nat,(∃ a∈l,a=j)→l.countP (fun k=>bef r k j)<l.countP (fun k=>bef r k i):=by
  intro l
  induction l with
  | nil=>rintro ⟨a,ha,_⟩;cases ha
  | cons x l ih =>
   rintro ⟨a,ha,rfl⟩
   have hmono:l.countP (fun k=>bef r k a)≤l.countP (fun k=>bef r k i):=List.countP_mono_left fun k _ hk=>bef_trans hk h
   rcases List.mem_cons.1 ha with e | e
   ·subst e
    have hx:bef r a a=false:=by simp [bef]
    rw [List.countP_cons,List.countP_cons,hx,h]
    simp
    omega
   ·have:=ih ⟨a,e,rfl⟩
    rw [List.countP_cons,List.countP_cons]
    by_cases hx:bef r x a=true
    ·rw [hx,bef_trans hx h]
     simp
     omega
    ·rw [Bool.eq_false_iff.2 hx]
     simp
     split <;> omega
 exact key _ ⟨j,List.mem_range.2 hj,rfl⟩
theorem bef_total {r:Nat→Int} {a b:Nat} (h:a≠b) (h2:bef r a b=false):bef r b a=true:=by simp [bef] at *;omega
theorem sum_below (r:Nat→Int) (n:Nat) (L:Int) (h0:0≤L) (hL:L≤n):sumN n (fun i=>if (rank r n i:Int)<L then 1 else 0)=L:=by
 have h1:sumN n (fun i=>if (rank r n i:Int)<L then 1 else 0)=sumN n (fun p:Nat=>if (p:Int)<L then 1 else 0):=by
  unfold sumN
  have:(List.range n).map (fun i=>if (rank r n i:Int)<L then (1:Int) else 0)=((List.range n).map (rank r n)).map (fun p:Nat=>if (p:Int)<L then (1:Int) else 0):=by simp
  rw [this]
  exact perm_sum ((perm_rank r n).map _)
 rw [h1]
 have h2:∀ m:Nat,sumN m (fun p=>if (p:Int)<L then 1 else 0)=min (m:Int) L:=by
  intro m
  induction m with
  | zero=>simp [sumN_zero];omega
  | succ m ih=>rw [sumN_succ,ih];split <;> omega
 rw [h2]
 omega
end Go.Proofs.YtbokkeooahodaaaGreatDoor

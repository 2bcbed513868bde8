/-
  A part of the proof of TopQuotaDayCardSaid: lemmas and contracts of functions that the law calls. No statement of the seat is proved here. Conditions: as each says.
-/
import Derived.Test.YtbokkeooahodaaaGreatDoorQAF
import Derived.Test.YtbokkeooahodaaaGreatDoorQAE
import Derived.Test.YtbokkeooahodaaaGreatDoorQAG
import Derived.Test.YtbokkeooahodaaaGreatDoorQAC
import Derived.Deep.DeepCutAuto
namespace Go.Proofs.YtbokkeooahodaaaGreatDoor
open Go.RowKit
set_option linter.unusedVariables false
theorem infoI20:(Tryz.prog.info? 3).map (fun i=>(i.zero,i.size,i.bytes))=some (some (.int .i64 0),1,8):=by kernel_rfl
theorem infoP20:(Tryz.prog.info? 74).map (fun i=>(i.zero,i.size,i.bytes))=some (some (.agg #[.int .i64 0,.int .i64 0,.slice none 0 0]),3,40):=by kernel_rfl
theorem ints_one20 (l:List Int):∀ u∈l.map (Value.int .i64),u.oneCell'=true:=fun u hu=>by
 obtain⟨x,_,rfl⟩:=List.mem_map.1 hu
 rfl
theorem own_addr20 {w:World} {N:Nat} {T:TypeId} {k n cap:Nat} {A:Option Addr} {xs:List Value} (h:w.ownsRow N T k (.slice A n cap) n xs) (hn:0<n):∃ g,A=some ⟨g,0,none⟩:=by
 rcases h.2 with ⟨hv,h0⟩ | ⟨g,_,_,hv,_⟩
 ·omega
 ·injection hv with h1
  exact⟨g,h1⟩
theorem own_far20 {w:World} {b1 b2 s1 s2 n1 n2:Nat} {e1 e2:TypeId} {v1 v2:Value} {xs1 xs2:List Value} (h1:w.ownsRow b1 e1 s1 v1 n1 xs1) (h2:w.ownsRow b2 e2 s2 v2 n2 xs2) (hne:e1≠e2) (g:Nat) (hg:v1.ownBlock=some g):v2.ownBlock≠some g:=by
 rcases h1.2 with ⟨hv,_⟩ | ⟨g1,_,_,hv,_,hh,_⟩
 ·subst hv
  cases hg
 ·subst hv
  have:g1=g:=by simpa [Value.ownBlock] using hg
  subst this
  intro e
  exact own_apart h2 (show Bl w g1 e1 _ from hh) (fun x=>hne x.symm) e.symm
structure PtA where
 p:Pt
 A:Option Addr
 n:Nat
 c:Nat
deriving Inhabited
def encPt (y:PtA):List Value:=[.int .i64 y.p.qty,.int .i64 y.p.val,.slice y.A y.n y.c]
theorem encPt_len (y:PtA):(encPt y).length=3:=rfl
theorem encPt_one (y:PtA):∀ v∈encPt y,v.oneCell'=true:=fun v hv=>by
 simp only [encPt,List.mem_cons,List.not_mem_nil,or_false] at hv
 rcases hv with rfl | rfl | rfl <;> rfl
abbrev OwnI (wx:World) (N:Nat) (A:Option Addr) (n c:Nat) (l:List Int):Prop:=wx.ownsRow N 3 1 (.slice A n c) n (l.map (Value.int .i64))
structure PoW (w:World) (N:Nat) (cs:Array Value) (VA:Option Addr) (vc:Nat) (a b:Int) (KA:Option Addr) (kn kc:Nat) (ks:List Int) (R:Option Addr) (m d:Nat) (ps:List PtA) (wx:World):Prop where
 below:RowKit.Below N w wx
 x:Bl wx N 33 cs
 v:OwnI wx N VA 2 vc [a,b]
 k:OwnI wx N KA kn kc ks
 o:wx.ownsRow N 74 3 (.slice R m d) m (flat encPt ps)
 len:ps.length=m
 kinds:∀ y∈ps,OwnI wx N y.A y.n y.c y.p.kinds
section
variable {w wx w':World} {N:Nat} {cs:Array Value} {VA:Option Addr} {vc:Nat} {a b:Int} {KA:Option Addr} {kn kc:Nat} {ks:List Int} {R:Option Addr} {m d:Nat} {ps:List PtA}
theorem PoW.size (h:PoW w N cs VA vc a b KA kn kc ks R m d ps wx):N≤wx.heap.size:=Nat.le_of_lt h.x.lt
theorem PoW.under (h:PoW w N cs VA vc a b KA kn kc ks R m d ps wx) (hb:RowKit.Below wx.heap.size wx w'):PoW w N cs VA vc a b KA kn kc ks R m d ps w' :=
 ⟨h.below.trans (hb.mono h.size),h.x.keep hb,own_below h.v hb,own_below h.k hb,own_below h.o hb,h.len,fun y hy=>own_below (h.kinds y hy) hb⟩
theorem PoW.alloc (h:PoW w N cs VA vc a b KA kn kc ks R m d ps wx) (o:Obj):PoW w N cs VA vc a b KA kn kc ks R m d ps (wx.alloc o):=h.under ((Below.refl _ _).alloc (Nat.le_refl _) _)
theorem PoW.with (h:PoW w N cs VA vc a b KA kn kc ks R m d ps wx) {R':Option Addr} {m' d':Nat} {ps':List PtA} (ho:wx.ownsRow N 74 3 (.slice R' m' d') m' (flat encPt ps')) (hl:ps'.length=m') (hk:∀ y∈ps',OwnI wx N y.A y.n y.c y.p.kinds):PoW w N cs VA vc a b KA kn kc ks R' m' d' ps' wx :=
 ⟨h.below,h.x,h.v,h.k,ho,hl,hk⟩
theorem PoW.app (h:PoW w N cs VA vc a b KA kn kc ks R m d ps wx) {o:Obj} {R4:Option Addr} {j d4:Nat} {zs:List PtA} (hj:zs.length=j) (hg:(wx.alloc o).grownBy w' (Value.slice R m d).ownBlock) (ho:w'.ownsRow N 74 3 (.slice R4 (m+j) d4) (m+j) (flat encPt ps ++ flat encPt zs)) (hz:∀ z∈zs,OwnI wx N z.A z.n z.c z.p.kinds) :
  PoW w N cs VA vc a b KA kn kc ks R4 (m+j) d4 (ps ++ zs) w':=by
 have hs:=h.size
 have h1:=h.alloc o
 have hw:∀ {A:Option Addr} {n c:Nat} {l:List Int},OwnI wx N A n c l→OwnI w' N A n c l:=fun {A n c l} hr=>by
  have hr1:OwnI (wx.alloc o) N A n c l:=own_alloc hr o
  refine own_of_block hr1 fun g hgb=>hg.block g (own_lt hr1 g hgb) (fun e=>?_)
  exact own_far20 hr1 h1.o (by decide) g hgb e.symm
 refine⟨h1.below.grown hg h1.size (fun g e=>own_base h.o g e),?_,hw h.v,hw h.k,by rw [flat_append];exact ho,by rw [List.length_append,h.len,hj],fun y hy=>?_⟩
 ·exact (hg.block N h1.x.lt (fun e=>own_apart h1.o h1.x (by decide) e)).trans h1.x
 ·rcases List.mem_append.1 hy with hy | hy
  ·exact hw (h.kinds y hy)
  ·exact hw (hz y hy)
end
def shA (x:It):Int:=if 0<x.qty then shareI x.val [x.gr,x.qty - x.gr] 0 else 0
def shB (x:It):Int:=if 0<x.qty then shareI x.val [x.gr,x.qty - x.gr] 1 else x.val
theorem share2_ok {x:It} (hr:itRange x):chkErr x.val [x.gr,x.qty - x.gr] = 0:=by
 obtain⟨h1,h2,h3,h4,h5,h6,h7,h8,h9,h10⟩:=hr
 have hall:AllIn [x.gr,x.qty - x.gr]:=fun i=>by
  match i with
  | 0=>show 0≤x.gr∧x.gr≤1000000000000;omega
  | 1=>show 0≤x.qty - x.gr∧x.qty - x.gr≤1000000000000;omega
  | (k+2)=>show 0≤(0:Int)∧(0:Int)≤1000000000000;omega
 unfold chkErr
 rw [if_neg (by simp),if_neg (by omega),if_pos hall,if_neg (by simp)]
theorem share2_out {x:It} (hr:itRange x) (hq:0<x.qty):shareOut x.val [x.gr,x.qty - x.gr] = [shA x,shB x]:=by
 unfold shareOut shA shB
 rw [if_pos (share2_ok hr),if_pos hq,if_pos hq]
 rfl
def pt1 (x:It) (a:Int):List Pt:=if 0<x.gr then [⟨x.gr,a,kindsOf x ++ [4]⟩] else []
def pt2 (x:It) (b:Int):List Pt:=if 0<x.qty - x.gr∨x.qty=0 then [⟨x.qty - x.gr,b,kindsOf x⟩] else []
theorem partsL_eq (x:It) (a b:Int):partsL x a b=pt1 x a ++ pt2 x b ++ [⟨x.qty,x.val,[5]⟩,⟨x.qty,x.val,[6]⟩]:=rfl
theorem clone_int20 (A:Option Addr) (n c N:Nat) (l:List Int) (w:World) (h:OwnI w N A n c l) (hn:n≤1000) (h0:0<n) :
  Calls Tryz.prog 55 #[.slice A n c] w fun e w'=>∃ B d,e=.returned (.slice B n d)∧w'.ownsRow w.heap.size 3 1 (.slice B n d) n (l.map (Value.int .i64))∧RowKit.Below w.heap.size w w':=by
 have hi:=IntsK.of_own h
 have hl:=hi.len
 obtain⟨b,off,e,hlt,hc⟩:=hi.2 h0
 subst e
 refine (Tryz.slices_Clone_int b off n c l w (by omega) (by omega) (fun j hj=>?_)).mono ?_
 ·rw [hc j (by omega)]
 ·rintro e w' ⟨v,rfl,ho,_,hb⟩
  obtain⟨B,d,rfl⟩:=own_slice ho
  rw [List.take_of_length_le (by omega)] at ho
  exact⟨B,d,rfl,ho,hb⟩
def PaR (N:Nat) (gr a:Int) (k:Nat) (l:List Int):List Value→Value→List Nat→World→Prop:=fun _ v f w=>∃ B d,v=.agg #[.int .i64 gr,.int .i64 a,.slice B k d]∧OwnI w N B k d l∧f=(Value.slice B k d).ownBlock.toList
theorem PaR.loc {w0:World} {N:Nat} {gr a:Int} {k:Nat} {l:List Int}:Loc w0 (PaR N gr a k l):=by
 rintro _ v f w w' h1 h2 h3 h4 ⟨B,d,rfl,h5,rfl⟩
 exact⟨B,d,rfl,own_of_block h5 fun j hj=>(h4 j (by simp [hj])).2.2,rfl⟩
def PlR (N:Nat) (gr a:Int) (k:Nat) (l:List Int):List Value→Value→List Nat→World→Prop:=fun _ v f w=>∃ g B d,v=.slice (some ⟨g,0,none⟩) 1 1∧Bl w g 74 #[.int .i64 gr,.int .i64 a,.slice B k d]∧OwnI w N B k d l∧f=g :: (Value.slice B k d).ownBlock.toList
theorem PlR.loc {w0:World} {N:Nat} {gr a:Int} {k:Nat} {l:List Int}:Loc w0 (PlR N gr a k l):=by
 rintro _ v f w w' h1 h2 h3 h4 ⟨g,B,d,rfl,hb,h5,rfl⟩
 exact⟨g,B,d,rfl,(h4 g (by simp)).2.2.trans hb,own_of_block h5 fun j hj=>(h4 j (by simp [hj])).2.2,rfl⟩
def PoR (N:Nat) (gr a:Int) (k:Nat) (l:List Int):List Value→Value→List Nat→World→Prop:=fun _ v f w=>∃ B d,w.ownsRow N 74 3 v 1 [.int .i64 gr,.int .i64 a,.slice B k d]∧OwnI w N B k d l∧f=v.ownBlock.toList ++ (Value.slice B k d).ownBlock.toList
theorem PoR.loc {w0:World} {N:Nat} {gr a:Int} {k:Nat} {l:List Int}:Loc w0 (PoR N gr a k l):=by
 rintro _ v f w w' h1 h2 h3 h4 ⟨B,d,ho,h5,rfl⟩
 exact⟨B,d,own_of_block ho fun j hj=>(h4 j (by simp [hj])).2.2,own_of_block h5 fun j hj=>(h4 j (by simp [hj])).2.2,rfl⟩
def PtRes (w:World) (l:List Pt) (e:Ending) (w':World):Prop:=∃ (R:Option Addr) (n c:Nat) (ps:List PtA),e=.returned (.tuple #[.slice R n c,.int .i64 0])∧w'.ownsRow w.heap.size 74 3 (.slice R n c) n (flat encPt ps)∧ps.length=n∧(∀ y∈ps,OwnI w' w.heap.size y.A y.n y.c y.p.kinds)∧ps.map (·.p)=l∧RowKit.Below w.heap.size w w'
set_option maxRecDepth 100000 in
set_option maxHeartbeats 16000000 in
theorem partsOf_any (x:It) (w:World) (hr:itRange x) :
  Calls Tryz.prog 25 #[.agg #[.string x.code,.string x.org,.bool x.proof,.int .i64 x.co,.int .i64 x.day,.int .i64 x.qty,.int .i64 x.val,.int .i64 x.gr]] w (PtRes w (partsL x (shA x) (shB x))):=by
 have HR:=Lib.hid hr
 obtain⟨r1,r2,r3,r4,r5,r6,r7,r8,r9,r10⟩:=hr
 obtain⟨N,hN⟩:∃ N,w.heap.size=N:=⟨_,rfl⟩
 have HX0:Hid (Bl (w.alloc (.cells #[.string x.code,.string x.org,.bool x.proof,.int .i64 x.co,.int .i64 x.day,.int .i64 x.qty,.int .i64 x.val,.int .i64 x.gr] 33)) N 33 #[.string x.code,.string x.org,.bool x.proof,.int .i64 x.co,.int .i64 x.day,.int .i64 x.qty,.int .i64 x.val,.int .i64 x.gr]):=by rw [← hN];exact Bl.new _ _ _
 have HB0:Hid (RowKit.Below N w (w.alloc (.cells #[.string x.code,.string x.org,.bool x.proof,.int .i64 x.co,.int .i64 x.day,.int .i64 x.qty,.int .i64 x.val,.int .i64 x.gr] 33))):=by rw [← hN];exact (Below.refl _ _).alloc (Nat.le_refl _) _
 have u1:IntKind.i64.wrap (x.qty - x.gr)=x.qty - x.gr:=IntWalk.i64_in _ (by omega)
 go_enter Tryz.func25,Tryz.ntmps25
 go_upto_region 1 with (fail)
 try rw [hN]
 generalize w.alloc (.cells #[.string x.code,.string x.org,.bool x.proof,.int .i64 x.co,.int .i64 x.day,.int .i64 x.qty,.int .i64 x.val,.int .i64 x.gr] 33)=W0 at *
 have x2:W0.cell? ⟨N,2,none⟩=some (.bool x.proof):=HX0.out.cell 2
 have x5:W0.cell? ⟨N,5,none⟩=some (.int .i64 x.qty):=HX0.out.cell 5
 have x6:W0.cell? ⟨N,6,none⟩=some (.int .i64 x.val):=HX0.out.cell 6
 have x7:W0.cell? ⟨N,7,none⟩=some (.int .i64 x.gr):=HX0.out.cell 7
 have hN0:N<W0.heap.size:=HX0.out.lt
 have HXA:Hid (∀ o,Bl (W0.alloc o) N 33 #[.string x.code,.string x.org,.bool x.proof,.int .i64 x.co,.int .i64 x.day,.int .i64 x.qty,.int .i64 x.val,.int .i64 x.gr]):=fun o=>Bl.alloc HX0.out o
 have HBA:Hid (∀ o,RowKit.Below N w (W0.alloc o)):=fun o=>HB0.out.alloc (Nat.le_of_lt hN0) o
 have y5:(W0.alloc (.cells #[.int .i64 0,.int .i64 x.val] 3)).cell? ⟨N,5,none⟩=some (.int .i64 x.qty):=(HXA.out _).cell 5
 have HVA:Hid (OwnI (W0.alloc (.cells #[.int .i64 0,.int .i64 x.val] 3)) N (some ⟨W0.heap.size,0,none⟩) 2 2 [0,x.val]):=own_lit (xs:=[.int .i64 0,.int .i64 x.val]) (Bl.new _ _ _) (Nat.le_of_lt hN0) rfl (by decide)
 go_upto_region 3 with (fail)
 have HX1:=Lib.hid (HXA.out (.cells #[.int .i64 0,.int .i64 x.val] 3))
 have HB1:=Lib.hid (HBA.out (.cells #[.int .i64 0,.int .i64 x.val] 3))
 clear x2 x5 x6 x7 HXA HBA HX0 HB0 hN0
 generalize W0.alloc (.cells #[.int .i64 0,.int .i64 x.val] 3)=W1 at *
 generalize (some ⟨W0.heap.size,0,none⟩:Option Addr)=V0 at *
 clear u1
 go_upto_if 19 with (fail)
 go_cut [5] (fun s wx=>∃ (VA:Option Addr) (vc:Nat),s=.slice VA 2 vc∧Hid (RowKit.Below N w wx)∧Hid (Bl wx N 33 #[.string x.code,.string x.org,.bool x.proof,.int .i64 x.co,.int .i64 x.day,.int .i64 x.qty,.int .i64 x.val,.int .i64 x.gr])∧Hid (OwnI wx N VA 2 vc [shA x,shB x]))
 case first =>
  by_cases hq:0<x.qty
  case neg =>
   have dq:decide (x.qty > 0)=false:=by simp;omega
   have dq2:decide (0<x.qty)=false:=by simp;omega
   have HE:Hid (shA x=0∧shB x=x.val):=by unfold shA shB;rw [if_neg hq,if_neg hq];exact Lib.hid ⟨rfl,rfl⟩
   go_wp2_with fail
   go_meet
   exact⟨V0,2,rfl,HB1.out,HX1.out,by show OwnI _ _ _ _ _ _;rw [HE.out.1,HE.out.2];exact HVA.out⟩
  case pos =>
   have dq:decide (x.qty > 0)=true:=by simp;omega
   have dq2:decide (0<x.qty)=true:=by simp;omega
   have z6:W1.cell? ⟨N,6,none⟩=some (.int .i64 x.val):=HX1.out.cell 6
   have z7:W1.cell? ⟨N,7,none⟩=some (.int .i64 x.gr):=HX1.out.cell 7
   have HB2:=Lib.hid (HB1.out.alloc (Nat.le_of_lt HX1.out.lt) (.cells #[.int .i64 x.gr,.int .i64 (x.qty - x.gr)] 3))
   have HX2:=Lib.hid (Bl.alloc HX1.out (.cells #[.int .i64 x.gr,.int .i64 (x.qty - x.gr)] 3))
   have hI2:Ints (W1.alloc (.cells #[.int .i64 x.gr,.int .i64 (x.qty - x.gr)] 3)) (some ⟨W1.heap.size,0,none⟩) 2 [x.gr,x.qty - x.gr]:=IntsK.of_own (own_lit (base:=0) (xs:=[.int .i64 x.gr,.int .i64 (x.qty - x.gr)]) (Bl.new _ _ _) (Nat.zero_le _) rfl (by decide))
   have HS:=Lib.hid (share_any x.val (some ⟨W1.heap.size,0,none⟩) 2 2 [x.gr,x.qty - x.gr] _ hI2 (by decide))
   rw [share2_ok HR.out,share2_out HR.out hq] at HS
   clear hI2
   go_wp2_with fail
   refine HS.out.mono ?_
   rintro e w2 ⟨VA,vn,vc,rfl,ho,hb⟩
   obtain rfl:vn=2:=by have:=ho.1;simp at this;omega
   have HB3:=Lib.hid (HB2.out.trans (hb.mono (Nat.le_of_lt HX2.out.lt)))
   have HX3:=Lib.hid (HX2.out.keep hb)
   have HV3:Hid (OwnI w2 N VA 2 vc [shA x,shB x]):=own_mono ho (Nat.le_of_lt HX2.out.lt)
   clear ho hb
   go_wp2_with fail
   go_meet
   exact⟨VA,vc,rfl,HB3.out,HX3.out,HV3.out⟩
 case rest =>
 clear HB1 HX1 HVA y5
 obtain⟨VA,vc,rfl,HB1,HX1,HV1⟩:=hcut
 generalize shA x=sa at *
 generalize shB x=sb at *
 have HK2:Hid (OwnI (wc.alloc (.cells #[.int .i64 1,.int .i64 2] 3)) N (some ⟨wc.heap.size,0,none⟩) 2 2 [1,2]):=own_lit (xs:=[.int .i64 1,.int .i64 2]) (Bl.new _ _ _) (Nat.le_of_lt HX1.out.lt) rfl (by decide)
 have HB2:=Lib.hid (HB1.out.alloc (Nat.le_of_lt HX1.out.lt) (.cells #[.int .i64 1,.int .i64 2] 3))
 have HX2:=Lib.hid (Bl.alloc HX1.out (.cells #[.int .i64 1,.int .i64 2] 3))
 have HV2:Hid (OwnI (wc.alloc (.cells #[.int .i64 1,.int .i64 2] 3)) N VA 2 vc [sa,sb]):=own_alloc HV1.out _
 have hva:∀ g,(Value.slice VA 2 vc).ownBlock=some g→g≠wc.heap.size:=fun g hg e=>by have:=own_lt HV1.out g hg;omega
 have x2:(wc.alloc (.cells #[.int .i64 1,.int .i64 2] 3)).cell? ⟨N,2,none⟩=some (.bool x.proof):=HX2.out.cell 2
 have HVK:=Lib.hid hva
 clear hva
 go_upto_if 35 with (fail)
 clear HB1 HX1 HV1
 generalize wc.alloc (.cells #[.int .i64 1,.int .i64 2] 3)=W2 at *
 generalize wc.heap.size=gk at *
 go_cut [0,7,35] (fun p0 s p35 wx=>∃ (KA:Option Addr) (kn kc:Nat),s=.slice KA kn kc∧(0<kn∧kn≤3)∧Hid (RowKit.Below N w wx)∧Hid (Bl wx N 33 #[.string x.code,.string x.org,.bool x.proof,.int .i64 x.co,.int .i64 x.day,.int .i64 x.qty,.int .i64 x.val,.int .i64 x.gr])∧Hid (OwnI wx N VA 2 vc [sa,sb])∧Hid (OwnI wx N KA kn kc (kindsOf x)))
 case first =>
  rcases Bool.eq_false_or_eq_true x.proof with hp | hp
  case inr =>
   have HE:Hid (kindsOf x = [1,2]):=by unfold kindsOf;rw [hp];exact Lib.hid rfl
   rw [hp]
   go_wp2_with fail
   go_meet
   exact⟨some ⟨gk,0,none⟩,2,2,rfl,by decide,HB2.out,HX2.out,HV2.out,by show OwnI _ _ _ _ _ _;rw [HE.out];exact HK2.out⟩
  case inl =>
   have HE:Hid (kindsOf x = [1,2] ++ [3]):=by unfold kindsOf;rw [hp];exact Lib.hid rfl
   have hs2:N≤W2.heap.size:=Nat.le_of_lt HX2.out.lt
   have HK3:Hid (OwnI (W2.alloc (.cells #[.int .i64 3] 3)) N (some ⟨gk,0,none⟩) 2 2 [1,2]):=own_alloc HK2.out _
   have HB3:=Lib.hid (HB2.out.alloc hs2 (.cells #[.int .i64 3] 3))
   have HX3:=Lib.hid (Bl.alloc HX2.out (.cells #[.int .i64 3] 3))
   have HV3:Hid (OwnI (W2.alloc (.cells #[.int .i64 3] 3)) N VA 2 vc [sa,sb]):=own_alloc HV2.out _
   have HRD:Hid (Rd (W2.alloc (.cells #[.int .i64 3] 3)) 1 (some ⟨W2.heap.size,0,none⟩) 1 [.int .i64 3]):=rd_bl (xs:=[.int .i64 3]) (Bl.new _ _ _) rfl
   rw [hp]
   go_wp2_with (at_builtin;refine wpList_append_rd _ rfl (.tmp 36) (.tmp 37) 22 rfl N 3 _ 1 8 Tryz.underlying22 infoI20 rfl (by decide) (.slice (some ⟨gk,0,none⟩) 2 2) 2 _ rfl HK3.out (some ⟨W2.heap.size,0,none⟩) 1 _ [.int .i64 3] rfl HRD.out (ints_one20 [3]) (by unfold maxLen;omega) (by omega) (Nat.le_of_lt HX3.out.lt) ?_;intro v4 w4 ho4 hg4 hv4;obtain⟨K4,d4,rfl⟩:=own_slice ho4)
   have hb4:=HB3.out.grown hg4 (Nat.le_of_lt HX3.out.lt) (fun j hj=>own_base HK3.out j hj)
   have HX4:Hid (Bl w4 N 33 #[.string x.code,.string x.org,.bool x.proof,.int .i64 x.co,.int .i64 x.day,.int .i64 x.qty,.int .i64 x.val,.int .i64 x.gr]):=(hg4.block N HX3.out.lt (fun e=>own_apart HK3.out HX3.out (by decide) e)).trans HX3.out
   have HV4:Hid (OwnI w4 N VA 2 vc [sa,sb]):=own_of_block HV3.out (fun g hg=>hg4.block g (own_lt HV3.out g hg) (fun e=>by
    have h1:=HVK.out g hg
    simp [Value.ownBlock] at e
    omega))
   go_meet
   exact⟨K4,3,d4,rfl,by decide,hb4,HX4.out,HV4.out,by show OwnI _ _ _ _ _ _;rw [HE.out];exact ho4⟩
 case rest =>
 clear HB2 HX2 HV2 HK2 HVK x2
 obtain⟨KA,kn,kc,rfl,hkn,HB3,HX3,HV3,HK3⟩:=hcut
 generalize hks:kindsOf x=ks at *
 have HP3:Hid (PoW w N #[.string x.code,.string x.org,.bool x.proof,.int .i64 x.co,.int .i64 x.day,.int .i64 x.qty,.int .i64 x.val,.int .i64 x.gr] VA vc sa sb KA kn kc ks none 0 0 [] wc):=⟨HB3.out,HX3.out,HV3.out,HK3.out,⟨by simp [flat],.inl ⟨rfl,rfl⟩⟩,rfl,fun y hy=>by cases hy⟩
 clear HB3 HX3 HV3 HK3
 have x7:wc.cell? ⟨N,7,none⟩=some (.int .i64 x.gr):=HP3.out.x.cell 7
 go_upto_if 41 with (fail)
 go_cut [8] (fun s wx=>∃ (R:Option Addr) (m d:Nat) (ps:List PtA),s=.slice R m d∧m≤1∧Hid (PoW w N #[.string x.code,.string x.org,.bool x.proof,.int .i64 x.co,.int .i64 x.day,.int .i64 x.qty,.int .i64 x.val,.int .i64 x.gr] VA vc sa sb KA kn kc ks R m d ps wx)∧Hid (ps.map (·.p)=pt1 x sa))
 case first =>
  by_cases hg:0<x.gr
  case neg =>
   have dq:decide (x.gr > 0)=false:=by simp;omega
   have dq2:decide (0<x.gr)=false:=by simp;omega
   have dqe:decide (x.gr > 0)=false:=dq
   have HE:Hid (([]:List PtA).map (·.p)=pt1 x sa):=by unfold pt1;rw [if_neg hg];exact Lib.hid rfl
   clear hg
   rw [dqe]
   go_wp2_with fail
   go_meet
   exact⟨none,0,0,[],rfl,by decide,HP3.out,HE.out⟩
  case pos =>
   have dq:decide (x.gr > 0)=true:=by simp;omega
   have dq2:decide (0<x.gr)=true:=by simp;omega
   have HE:Hid (pt1 x sa = [⟨x.gr,sa,ks ++ [4]⟩]):=by unfold pt1;rw [if_pos hg,hks];exact Lib.hid rfl
   clear hg
   rw [dq2]
   go_upto_region 13 with (fail)
   obtain⟨vb,hvb⟩:=own_addr20 HP3.out.v (by decide)
   subst hvb
   have lN:N<wc.heap.size:=HP3.out.x.lt
   have lV:vb<wc.heap.size:=own_lt HP3.out.v vb rfl
   have v0:wc.cell? ⟨vb,0,none⟩=some (.int .i64 sa):=by
    have:=(IntsK.of_own HP3.out.v).at_ (i:=0) (by decide)
    obtain⟨b',o',e,_,hc⟩:=this
    injection e with e
    injection e with e e2
    subst e e2
    exact hc
   have HKO:Hid (OwnI wc N KA kn kc ks):=HP3.out.k
   have HKL:Hid (∀ wx,RowKit.Below wc.heap.size wc wx→Calls Tryz.prog 55 #[.slice KA kn kc] wx fun e w'=>∃ B d,e=.returned (.slice B kn d)∧w'.ownsRow wx.heap.size 3 1 (.slice B kn d) kn (ks.map (Value.int .i64))∧RowKit.Below wx.heap.size wx w'):=fun wx hb=>clone_int20 KA kn kc N ks wx (own_below HKO.out hb) (by omega) hkn.1
   refine wp_region_rows [
     ⟨⟨some 42,[],[]⟩,fun _ v=>v=.slice none 0 0,NoR⟩,
     ⟨⟨some 43,[],[]⟩,fun _ v=>v=.pointer (some ⟨N,7,none⟩),NoR⟩,
     ⟨⟨some 44,[1],[]⟩,fun _ v=>v=.int .i64 x.gr,NoR⟩,
     ⟨⟨some 45,[],[]⟩,fun _ v=>v=.slice (some ⟨vb,0,none⟩) 2 vc,NoR⟩,
     ⟨⟨some 46,[3],[]⟩,fun _ v=>v=.pointer (some ⟨vb,0,none⟩),NoR⟩,
     ⟨⟨some 47,[4],[]⟩,fun _ v=>v=.int .i64 sa,NoR⟩,
     ⟨⟨some 48,[],[]⟩,fun _ v=>v=.slice KA kn kc,NoR⟩,
     ⟨⟨some 49,[6],[]⟩,NoF,OwnR wc.heap.size 3 1 (kn) (ks.map (Value.int .i64))⟩,
     ⟨⟨some 50,[],[]⟩,NoF,LitR 3 ([.int .i64 4]).toArray 1⟩,
     ⟨⟨some 51,[7,8],[7,8]⟩,NoF,OwnR wc.heap.size 3 1 (kn+1) ((ks.map (Value.int .i64)) ++ [.int .i64 4])⟩,
     ⟨⟨some 52,[2,5,9],[9]⟩,NoF,PaR wc.heap.size x.gr sa (kn+1) (ks ++ [4])⟩,
     ⟨⟨some 53,[10],[10]⟩,NoF,PlR wc.heap.size x.gr sa (kn+1) (ks ++ [4])⟩,
     ⟨⟨some 54,[0,11],[11]⟩,NoF,PoR wc.heap.size x.gr sa (kn+1) (ks ++ [4])⟩,
     ⟨⟨some 8,[12],[12]⟩,NoF,PoR wc.heap.size x.gr sa (kn+1) (ks ++ [4])⟩] (by kernel_rfl) (by kernel_rfl) (by kernel_rfl) ⟨NoR.loc,NoR.loc,NoR.loc,NoR.loc,NoR.loc,NoR.loc,NoR.loc,OwnR.loc,LitR.loc,OwnR.loc,PaR.loc,PlR.loc,PoR.loc,PoR.loc,trivial⟩ ⟨?r0,?r1,?r2,?r3,?r4,?r5,?r6,?r7,?r8,?r9,?r10,?r11,?r12,?r13,trivial⟩ ?fin
   case r0 =>
    refine step_of rfl rfl ?_
    intro a wx vs fp K hF hK
    exact op_move rfl (hF.at_ 8 rfl) (hK _ _ _ (hF.only rfl trivial))
   case r1 =>
    refine step_of rfl rfl ?_
    intro a wx vs fp K hF hK
    have ea:a.eval (.tmp 1)=.pointer (some ⟨N,0,none⟩):=hF.at_ 1 rfl
    refine op_value (v:=.pointer (some ⟨N,7,none⟩)) ?_ (hK _ _ _ (hF.only rfl trivial))
    clear hF hK
    generalize a.eval=ρ at *
    go_simp
   case r2 =>
    refine step_of rfl rfl ?_
    intro a wx vs fp K hF hK
    have ea:a.eval (.tmp 43)=.pointer (some ⟨N,7,none⟩):=(hF.ev 1 43 rfl rfl).trans (hF.va 1 rfl)
    have mc:=(hF.below.cell (p:=⟨N,7,none⟩) lN).trans x7
    refine op_value (v:=.int .i64 x.gr) ?_ (hK _ _ _ (hF.only rfl trivial))
    clear hF hK
    generalize a.eval=ρ at *
    go_simp
   case r3 =>
    refine step_of rfl rfl ?_
    intro a wx vs fp K hF hK
    exact op_move rfl (hF.at_ 5 rfl) (hK _ _ _ (hF.only rfl trivial))
   case r4 =>
    refine step_of rfl rfl ?_
    intro a wx vs fp K hF hK
    have ev3:a.eval (.tmp 45)=.slice (some ⟨vb,0,none⟩) 2 vc:=(hF.ev 3 45 rfl rfl).trans (hF.va 3 rfl)
    refine op_value (v:=.pointer (some ⟨vb,0,none⟩)) ?_ (hK _ _ _ (hF.only rfl trivial))
    have ec:∀ v,a.eval (.const v)=v:=fun _=>rfl
    clear hF hK
    generalize a.eval=ρ at *
    go_simp
   case r5 =>
    refine step_of rfl rfl ?_
    intro a wx vs fp K hF hK
    have ea:a.eval (.tmp 46)=.pointer (some ⟨vb,0,none⟩):=(hF.ev 4 46 rfl rfl).trans (hF.va 4 rfl)
    have mc:=(hF.below.cell (p:=⟨vb,0,none⟩) lV).trans v0
    refine op_value (v:=.int .i64 sa) ?_ (hK _ _ _ (hF.only rfl trivial))
    clear hF hK
    generalize a.eval=ρ at *
    go_simp
   case r6 =>
    refine step_of rfl rfl ?_
    intro a wx vs fp K hF hK
    exact op_move rfl (hF.at_ 7 rfl) (hK _ _ _ (hF.only rfl trivial))
   case r7 =>
    refine step_of rfl rfl ?_
    intro a wx vs fp K hF hK
    have ek:a.eval (.tmp 48)=.slice KA kn kc:=(hF.ev 6 48 rfl rfl).trans (hF.va 6 rfl)
    refine op_call (vals:=#[.slice KA kn kc]) rfl (by kernel_rfl) ?_ ((HKL.out wx hF.below).mono ?_)
    ·simp only [List.map_toArray,List.map_cons,List.map_nil,ek]
    rintro e w' ⟨B,d,rfl,ho,hb⟩
    exact⟨_,rfl,hK _ _ _ (hF.under hb trivial ⟨own_mono ho hF.below.size,rfl⟩ (fun g hg=>⟨own_base ho g (by simpa using hg),own_lt ho g (by simpa using hg)⟩))⟩
   case r8 =>
    refine step_of rfl rfl ?_
    intro a wx vs fp K hF hK
    refine op_value (v:=.slice (some ⟨wx.heap.size,0,none⟩) 1 1) (w':=wx.alloc (.cells #[.int .i64 4] 3)) ?_ (hK _ _ _ (hF.made _ trivial ⟨_,rfl,rfl,Bl.new _ _ _⟩))
    have ec:∀ v,a.eval (.const v)=v:=fun _=>rfl
    clear hF hK
    generalize a.eval=ρ at *
    go_simp
   case r9 =>
    refine step_of rfl rfl ?_
    intro a wx vs fp K hF hK
    have hm:OwnR wc.heap.size 3 1 (kn) (ks.map (Value.int .i64)) [] (vs 7) (fp 7) wx:=hF.me 7 rfl
    have hv:LitR 3 ([.int .i64 4]).toArray (1) [] (vs 8) (fp 8) wx:=hF.me 8 rfl
    obtain⟨gy,hv,hfy,hbl⟩:=hv
    have hrd:Rd wx 1 (some ⟨gy,0,none⟩) (1) ([.int .i64 4]):=rd_bl hbl rfl
    refine op_append (.tmp 49) (.tmp 50) 22 rfl wc.heap.size 3 _ 1 8 Tryz.underlying22 infoI20 rfl (by decide) (vs 7) (kn) (ks.map (Value.int .i64)) (hF.ev 7 49 rfl rfl) hm.1 (some ⟨gy,0,none⟩) (1) (1) ([.int .i64 4]) ((hF.ev 8 50 rfl rfl).trans hv) hrd (ints_one20 [4]) (by unfold maxLen;omega) (by omega) hF.below.size ?_
    intro v w' h1 h2 h3
    exact hK _ _ _ (hF.grown 7 rfl hm.2 h2 h3 (fun g hg=>own_lt h1 g hg) trivial ⟨by exact h1,rfl⟩)
   case r10 =>
    refine step_of rfl rfl ?_
    intro a wx vs fp K hF hK
    have hm:OwnR wc.heap.size 3 1 (kn+1) ((ks.map (Value.int .i64)) ++ [.int .i64 4]) [] (vs 9) (fp 9) wx:=hF.me 9 rfl
    obtain⟨B,d,hB⟩:=own_slice hm.1
    have e1:a.eval (.tmp 44)=.int .i64 x.gr:=(hF.ev 2 44 rfl rfl).trans (hF.va 2 rfl)
    have e2:a.eval (.tmp 47)=.int .i64 sa:=(hF.ev 5 47 rfl rfl).trans (hF.va 5 rfl)
    have e3:a.eval (.tmp 51)=.slice B (kn+1) d:=(hF.ev 9 51 rfl rfl).trans hB
    refine op_value (v:=.agg #[.int .i64 x.gr,.int .i64 sa,.slice B (kn+1) d]) ?_ (hK _ _ _ (hF.hand 9 rfl trivial ⟨B,d,rfl,by have:=hm.1;rw [hB] at this;unfold OwnI;rw [List.map_append];exact this,by rw [hm.2,hB]⟩))
    have ec:∀ v,a.eval (.const v)=v:=fun _=>rfl
    clear hF hK hm hB
    generalize a.eval=ρ at *
    go_simp
   case r11 =>
    refine step_of rfl rfl ?_
    intro a wx vs fp K hF hK
    have hm:PaR wc.heap.size x.gr sa (kn+1) (ks ++ [4]) [] (vs 10) (fp 10) wx:=hF.me 10 rfl
    obtain⟨B,d,hv,ho,hf⟩:=hm
    have e1:a.eval (.tmp 52)=.agg #[.int .i64 x.gr,.int .i64 sa,.slice B (kn+1) d]:=(hF.ev 10 52 rfl rfl).trans hv
    refine op_value (v:=.slice (some ⟨wx.heap.size,0,none⟩) 1 1) (w':=wx.alloc (.cells #[.int .i64 x.gr,.int .i64 sa,.slice B (kn+1) d] 74)) ?_ (hK _ _ (wx.heap.size :: fp 10) ⟨hF.below.alloc hF.below.size _,by simp,fun g hg _=>Below.heap_alloc _ _ g hg,trivial,⟨wx.heap.size,B,d,rfl,Bl.new _ _ _,own_alloc ho _,by rw [hf]⟩,fun g hg=>?_⟩)
    ·have ec:∀ v,a.eval (.const v)=v:=fun _=>rfl
     clear hF hK ho hf hv
     generalize a.eval=ρ at *
     go_simp
    ·rcases List.mem_cons.1 hg with rfl | hg
     ·exact⟨by simp,.inr (Nat.le_refl _)⟩
     ·exact⟨by have:=(hF.own 10 (by simp) g hg).2;simp;omega,.inl ⟨10,by simp,hg⟩⟩
   case r12 =>
    refine step_of rfl rfl ?_
    intro a wx vs fp K hF hK
    have hm:PlR wc.heap.size x.gr sa (kn+1) (ks ++ [4]) [] (vs 11) (fp 11) wx:=hF.me 11 rfl
    obtain⟨gl,B,d,hv,hbl,ho,hf⟩:=hm
    have hrd:Rd wx 3 (some ⟨gl,0,none⟩) 1 [.int .i64 x.gr,.int .i64 sa,.slice B (kn+1) d]:=rd_bl (xs:=[.int .i64 x.gr,.int .i64 sa,.slice B (kn+1) d]) hbl rfl
    refine op_append (.tmp 42) (.tmp 53) 70 rfl wc.heap.size 74 _ 3 40 Tryz.underlying70 infoP20 rfl (by decide) (.slice none 0 0) 0 [] ((hF.ev 0 42 rfl rfl).trans (hF.va 0 rfl)) ⟨by simp,.inl ⟨rfl,rfl⟩⟩ (some ⟨gl,0,none⟩) 1 1 _ ((hF.ev 11 53 rfl rfl).trans hv) hrd (encPt_one ⟨⟨x.gr,sa,[]⟩,B,kn+1,d⟩) (by unfold maxLen;omega) (by omega) hF.below.size ?_
    intro v w' h1 h2 h3
    have hb:RowKit.Below wx.heap.size wx w':=(Below.refl _ _).grown h2 (Nat.le_refl _) (fun g hg=>by cases hg)
    refine hK _ _ (v.ownBlock.toList ++ (Value.slice B (kn+1) d).ownBlock.toList) ⟨hF.below.trans (hb.mono hF.below.size),hb.size,fun g hg _=>hb.block g hg,trivial,⟨B,d,h1,own_below ho hb,rfl⟩,fun g hg=>?_⟩
    rcases List.mem_append.1 hg with hg | hg
    ·have hg2:v.ownBlock=some g:=by simpa using hg
     refine⟨own_lt h1 g hg2,.inr ?_⟩
     rcases h3 with h3 | h3
     ·rw [h3] at hg2;cases hg2
     ·rw [h3] at hg2;injection hg2 with hg2;omega
    ·have hg2:(Value.slice B (kn+1) d).ownBlock=some g:=by simpa using hg
     exact⟨by have:=own_lt ho g hg2;have:=hb.size;omega,.inl ⟨11,by simp,by rw [hf];exact List.mem_cons_of_mem _ hg⟩⟩
   case r13 =>
    refine step_of rfl rfl ?_
    intro a wx vs fp K hF hK
    have hm:PoR wc.heap.size x.gr sa (kn+1) (ks ++ [4]) [] (vs 12) (fp 12) wx:=hF.me 12 rfl
    exact op_assign rfl (hF.ev 12 54 rfl rfl) (hK _ _ _ (hF.hand 12 rfl trivial hm))
   case fin =>
    intro wz vs fp hI
    obtain⟨B,d,ho,hok,_⟩:PoR wc.heap.size x.gr sa (kn+1) (ks ++ [4]) [vs 12] (vs 13) (fp 13) wz:=(hI.finM 13 (by decide) rfl).1
    obtain⟨R4,d4,hv⟩:=own_slice ho
    rw [hv] at ho
    have HPz:=Lib.hid ((HP3.out.under hI.below).with (R':=R4) (m':=1) (d':=d4) (ps':=[⟨⟨x.gr,sa,ks ++ [4]⟩,B,kn+1,d⟩]) (own_mono ho HP3.out.size) rfl (fun y hy=>by
     rw [List.mem_singleton] at hy
     subst hy
     exact own_mono hok HP3.out.size))
    clear hI ho hok HKL HKO HP3 x7 v0
    simp only [rj,number,putJ,List.map_cons,List.map_nil,if_true,Act.put,List.setIfInBounds_toArray,List.set_cons_zero,List.set_cons_succ,hv]
    generalize vs 0=zv0
    generalize vs 1=zv1
    generalize vs 2=zv2
    generalize vs 3=zv3
    generalize vs 4=zv4
    generalize vs 5=zv5
    generalize vs 6=zv6
    generalize vs 7=zv7
    generalize vs 8=zv8
    generalize vs 9=zv9
    generalize vs 10=zv10
    generalize vs 11=zv11
    generalize vs 12=zv12
    clear hv
    go_wp2_with fail
    go_meet
    exact⟨R4,1,d4,_,rfl,by decide,HPz.out,HE.out.symm⟩
 case rest =>
 clear HP3 x7
 obtain⟨R,m,d,ps,rfl,hm1,HP4,HM4⟩:=hcut
 have x5:wc.cell? ⟨N,5,none⟩=some (.int .i64 x.qty):=HP4.out.x.cell 5
 go_upto_region 14 with (fail)
 go_cut [61] (fun q wx=>q=.bool (decide (x.gr<x.qty) || (x.qty == 0))∧Hid (wx=wc))
 case first =>
  by_cases h1:0<x.qty - x.gr
  case pos =>
   have d1:decide (x.qty - x.gr > 0)=true:=by simp;omega
   have d1b:decide (0<x.qty - x.gr)=true:=by simp;omega
   have d3:decide (x.gr<x.qty)=true:=by simp;omega
   go_wp2_with fail
   go_meet
   exact⟨by first | rfl | (rw [d3];rfl) | simp [d3],rfl⟩
  case neg =>
   have d1:decide (x.qty - x.gr > 0)=false:=by simp;omega
   have d1b:decide (0<x.qty - x.gr)=false:=by simp;omega
   have d3:decide (x.gr<x.qty)=false:=by simp;omega
   go_wp2_with fail
   go_meet
   exact⟨by first | rfl | (rw [d3];rfl) | simp [d3],rfl⟩
 case rest =>
 obtain⟨rfl,HW⟩:=hcut
 obtain rfl:=HW.out
 clear HW
 go_upto_if 61 with (fail)
 go_cut [8] (fun s wx=>∃ (R:Option Addr) (m d:Nat) (ps:List PtA),s=.slice R m d∧m≤2∧Hid (PoW w N #[.string x.code,.string x.org,.bool x.proof,.int .i64 x.co,.int .i64 x.day,.int .i64 x.qty,.int .i64 x.val,.int .i64 x.gr] VA vc sa sb KA kn kc ks R m d ps wx)∧Hid (ps.map (·.p)=pt1 x sa ++ pt2 x sb))
 case first =>
  cases hc:(decide (x.gr<x.qty) || (x.qty == 0))
  case false =>
   have HE:Hid (ps.map (·.p)=pt1 x sa ++ pt2 x sb):=by
    have h2:¬ (0<x.qty - x.gr∨x.qty=0):=by simp at hc;omega
    unfold pt2
    rw [if_neg h2,List.append_nil]
    exact HM4
   go_wp2_with fail
   go_meet
   exact⟨R,m,d,ps,rfl,by omega,HP4.out,HE.out⟩
  case true =>
   have HE:Hid (pt2 x sb = [⟨x.qty - x.gr,sb,ks⟩]):=by
    have h2:0<x.qty - x.gr∨x.qty=0:=by simp at hc;omega
    unfold pt2
    rw [if_pos h2,hks]
    exact Lib.hid rfl
   obtain⟨vb,hvb⟩:=own_addr20 HP4.out.v (by decide)
   subst hvb
   have v1:wc.cell? ⟨vb,1,none⟩=some (.int .i64 sb):=by
    have:=(IntsK.of_own HP4.out.v).at_ (i:=1) (by decide)
    obtain⟨b',o',e,_,hc⟩:=this
    injection e with e
    injection e with e e2
    subst e e2
    exact hc
   have HP5:=Lib.hid (HP4.out.alloc (.cells #[.int .i64 (x.qty - x.gr),.int .i64 sb,.slice KA kn kc] 74))
   have HRD:Hid (Rd (wc.alloc (.cells #[.int .i64 (x.qty - x.gr),.int .i64 sb,.slice KA kn kc] 74)) 3 (some ⟨wc.heap.size,0,none⟩) 1 [.int .i64 (x.qty - x.gr),.int .i64 sb,.slice KA kn kc]):=rd_bl (xs:=[.int .i64 (x.qty - x.gr),.int .i64 sb,.slice KA kn kc]) (Bl.new _ _ _) rfl
   have HON:=Lib.hid (encPt_one ⟨⟨x.qty - x.gr,sb,ks⟩,KA,kn,kc⟩)
   have HM1:Hid (m+1≤maxLen∧(m+1)*40≤140737488355328):=⟨by unfold maxLen;omega,by omega⟩
   go_wp2_with (at_builtin;refine wpList_append_rd _ rfl (.tmp 62) (.tmp 69) 70 rfl N 74 _ 3 40 Tryz.underlying70 infoP20 rfl (by decide) (.slice R m d) m _ rfl HP5.out.o (some ⟨wc.heap.size,0,none⟩) 1 _ _ rfl HRD.out HON.out HM1.out.1 HM1.out.2 HP5.out.size ?_;intro v9 w9 ho9 hg9 hv9;obtain⟨R9,d9,rfl⟩:=own_slice ho9)
   have HP9:=Lib.hid (HP4.out.app (zs:=[⟨⟨x.qty - x.gr,sb,ks⟩,KA,kn,kc⟩]) rfl hg9 ho9 (fun z hz=>by
    rw [List.mem_singleton] at hz
    subst hz
    exact HP4.out.k))
   go_meet
   exact⟨R9,m+1,d9,_,rfl,by omega,HP9.out,by show _=_;rw [HE.out,List.map_append,HM4.out];rfl⟩
 case rest =>
 clear HP4 HM4 x5
 obtain⟨R2,m2,d2,ps2,rfl,hm2,HP5,HM5⟩:=hcut
 have x5:wc.cell? ⟨N,5,none⟩=some (.int .i64 x.qty):=HP5.out.x.cell 5
 have x6:wc.cell? ⟨N,6,none⟩=some (.int .i64 x.val):=HP5.out.x.cell 6
 have HP6:=Lib.hid (HP5.out.alloc (.cells #[.int .i64 5] 3))
 have HI5:Hid (OwnI (wc.alloc (.cells #[.int .i64 5] 3)) N (some ⟨wc.heap.size,0,none⟩) 1 1 [5]):=own_lit (xs:=[.int .i64 5]) (Bl.new _ _ _) HP5.out.size rfl (by decide)
 have y5:(wc.alloc (.cells #[.int .i64 5] 3)).cell? ⟨N,5,none⟩=some (.int .i64 x.qty):=HP6.out.x.cell 5
 have y6:(wc.alloc (.cells #[.int .i64 5] 3)).cell? ⟨N,6,none⟩=some (.int .i64 x.val):=HP6.out.x.cell 6
 generalize hWa:wc.alloc (.cells #[.int .i64 5] 3)=Wa at HP6 HI5 y5 y6
 have hs1:Wa.heap.size=wc.heap.size+1:=by rw [← hWa];simp
 have HP7:=Lib.hid (HP6.out.alloc (.cells #[.int .i64 6] 3))
 have HI6:Hid (OwnI (Wa.alloc (.cells #[.int .i64 6] 3)) N (some ⟨wc.heap.size+1,0,none⟩) 1 1 [6]):=by rw [← hs1];exact own_lit (xs:=[.int .i64 6]) (Bl.new _ _ _) HP6.out.size rfl (by decide)
 have HI5':Hid (OwnI (Wa.alloc (.cells #[.int .i64 6] 3)) N (some ⟨wc.heap.size,0,none⟩) 1 1 [5]):=own_alloc HI5.out _
 have hs2:(Wa.alloc (.cells #[.int .i64 6] 3)).heap.size=wc.heap.size+1+1:=by simp [hs1]
 generalize hWb:Wa.alloc (.cells #[.int .i64 6] 3)=Wb at HP7 HI6 HI5' hs2
 have HP8:=Lib.hid (HP7.out.alloc (.cells #[.int .i64 x.qty,.int .i64 x.val,.slice (some ⟨wc.heap.size,0,none⟩) 1 1,.int .i64 x.qty,.int .i64 x.val,.slice (some ⟨wc.heap.size+1,0,none⟩) 1 1] 74))
 have HRD:Hid (Rd (Wb.alloc (.cells #[.int .i64 x.qty,.int .i64 x.val,.slice (some ⟨wc.heap.size,0,none⟩) 1 1,.int .i64 x.qty,.int .i64 x.val,.slice (some ⟨wc.heap.size+1,0,none⟩) 1 1] 74)) 3 (some ⟨wc.heap.size+1+1,0,none⟩) 2 [.int .i64 x.qty,.int .i64 x.val,.slice (some ⟨wc.heap.size,0,none⟩) 1 1,.int .i64 x.qty,.int .i64 x.val,.slice (some ⟨wc.heap.size+1,0,none⟩) 1 1]):=by rw [← hs2];exact rd_bl (xs:=[.int .i64 x.qty,.int .i64 x.val,.slice (some ⟨wc.heap.size,0,none⟩) 1 1,.int .i64 x.qty,.int .i64 x.val,.slice (some ⟨wc.heap.size+1,0,none⟩) 1 1]) (Bl.new _ _ _) rfl
 have HON:Hid (∀ u∈([.int .i64 x.qty,.int .i64 x.val,.slice (some ⟨wc.heap.size,0,none⟩) 1 1,.int .i64 x.qty,.int .i64 x.val,.slice (some ⟨wc.heap.size+1,0,none⟩) 1 1]:List Value),u.oneCell'=true):=fun v hv=>by
  simp only [List.mem_cons,List.not_mem_nil,or_false] at hv
  rcases hv with rfl | rfl | rfl | rfl | rfl | rfl <;> rfl
 have HM1:Hid (m2+2≤maxLen∧(m2+2)*40≤140737488355328):=⟨by unfold maxLen;omega,by omega⟩
 clear hs1 hs2
 subst hWa hWb
 go_wp2_with (at_builtin;refine wpList_append_rd _ rfl (.tmp 71) (.tmp 84) 70 rfl N 74 _ 3 40 Tryz.underlying70 infoP20 rfl (by decide) (.slice R2 m2 d2) m2 _ rfl HP8.out.o _ 2 _ _ rfl HRD.out HON.out HM1.out.1 HM1.out.2 HP8.out.size ?_;intro v9 w9 ho9 hg9 hv9;obtain⟨R9,d9,rfl⟩:=own_slice ho9)
 have HP9:=Lib.hid (HP7.out.app (zs:=[⟨⟨x.qty,x.val,[5]⟩,some ⟨wc.heap.size,0,none⟩,1,1⟩,⟨⟨x.qty,x.val,[6]⟩,some ⟨wc.heap.size+1,0,none⟩,1,1⟩]) rfl hg9 ho9 (fun z hz=>by
  simp only [List.mem_cons,List.not_mem_nil,or_false] at hz
  rcases hz with rfl | rfl
  ·exact HI5'.out
  ·exact HI6.out))
 have HRES:Hid (PtRes w (partsL x sa sb) (.returned (.tuple #[.slice R9 (m2+2) d9,.int .i64 0])) w9):=by
  refine⟨R9,m2+2,d9,_,rfl,by rw [hN];exact HP9.out.o,HP9.out.len,fun y hy=>by rw [hN];exact HP9.out.kinds y hy,?_,by rw [hN];exact HP9.out.below⟩
  rw [List.map_append,HM5.out,partsL_eq]
  rfl
 go_wp2
 go_ret2
 exact HRES.out
end Go.Proofs.YtbokkeooahodaaaGreatDoor
namespace Go.Proofs.YtbokkeooahodaaaGreatDoor
set_option linter.unusedVariables false
def linTo (l:List Ms) (ps:List Pt):List Dl:=ps.flatMap fun p=>(leastOf l p).2.toList
theorem linTo_snoc (l:List Ms) (ps:List Pt) (p:Pt):linTo l (ps ++ [p])=linTo l ps ++ (leastOf l p).2.toList:=by simp [linTo]
theorem linesOf_ok {l:List Ms} {ps:List Pt} (h:∀ p∈ps,(leastOf l p).1=0):linesOf l ps=(0,linTo l ps):=by
 induction ps with
 | nil=>rfl
 | cons p ps ih =>
  have h1:=h p List.mem_cons_self
  have h2:=ih fun q hq=>h q (List.mem_cons_of_mem _ hq)
  unfold linesOf
  rw [if_neg (by simpa using h1),h2]
  simp [linTo]
theorem linesOf_bad {l:List Ms} {ps:List Pt} {i:Nat} (hi:i<ps.length) (h:∀ p∈ps.take i,(leastOf l p).1=0) (he:(leastOf l ps[i]!).1≠0):(linesOf l ps).1=(leastOf l ps[i]!).1:=by
 induction ps generalizing i with
 | nil=>simp at hi
 | cons p ps ih =>
  cases i with
  | zero =>
   have e:(p :: ps)[0]! = p:=rfl
   rw [e] at he ⊢
   unfold linesOf
   rw [if_pos he]
  | succ i =>
   have e:(p :: ps)[i+1]! = ps[i]!:=by simp
   rw [e] at he ⊢
   have h1:=h p (by simp)
   unfold linesOf
   rw [if_neg (by simpa using h1)]
   exact ih (by simpa using hi) (fun q hq=>h q (by simp [hq])) he
def stOk (l:List Ms) (s:Int × Option Dl):Prop:=∀ d,s.2=some d→(0≤d.amt∧d.amt≤1000000000000)∧∃ m∈l,d.kind=m.kind∧d.meas=m.id
theorem stepL_ok {L:List Ms} {p:Pt} {s:Int × Option Dl} {m:Ms} (h:stOk L s) (hm:m∈L):stOk L (stepL p s m):=by
 by_cases h1:s.1=0
 ·by_cases h2:(evalOut m.du p.val p.qty).2=0
  ·have hb:=evalOut_bounds h2
   by_cases h3:fndOf s=false∨(evalOut m.du p.val p.qty).1<(bestL s).amt
   ·rw [stepL_take h1 h2 h3]
    intro d hd
    injection hd with hd
    subst hd
    exact⟨hb,m,hm,rfl,rfl⟩
   ·have h4:fndOf s=true:=by
     cases hf:fndOf s with
     | true=>rfl
     | false=>exact absurd (.inl hf) h3
    rw [stepL_keep h1 h2 h4 (fun x=>h3 (.inr x))]
    exact h
  ·rw [stepL_bad h1 h2]
   intro d hd
   cases hd
 ·have:stepL p s m=s:=by unfold stepL;rw [if_pos h1]
  rw [this]
  exact h
theorem fold_ok {L:List Ms} {p:Pt} {l:List Ms} (hl:∀ m∈l,m∈L):∀ s,stOk L s→stOk L (l.foldl (stepL p) s):=by
 induction l with
 | nil=>exact fun s h=>h
 | cons m l ih=>exact fun s h=>ih (fun x hx=>hl x (List.mem_cons_of_mem _ hx)) _ (stepL_ok h (hl m List.mem_cons_self))
theorem least_ok (l:List Ms) (p:Pt):stOk l (leastOf l p):=by
 refine fold_ok (fun m hm=>?_) _ (fun d hd=>by cases hd)
 unfold triedOf at hm
 obtain⟨k,_,hm⟩:=List.mem_flatMap.1 hm
 exact (List.mem_filter.1 hm).1
theorem linTo_len (l:List Ms) (ps:List Pt):(linTo l ps).length≤ps.length:=by
 induction ps with
 | nil=>simp [linTo]
 | cons p ps ih =>
  have e:linTo l (p :: ps)=(leastOf l p).2.toList ++ linTo l ps:=by simp [linTo]
  rw [e,List.length_append,List.length_cons]
  have:(leastOf l p).2.toList.length≤1:=by cases (leastOf l p).2 <;> simp
  omega
theorem partsL_len (x:It) (a b:Int):(partsL x a b).length≤4:=by
 unfold partsL
 simp only [List.length_append,List.length_cons,List.length_nil]
 split <;> split <;> simp
theorem partsL_kinds {x:It} {a b:Int} {p:Pt} (h:p∈partsL x a b):p.kinds.length≤4:=by
 have hk:(kindsOf x).length≤3:=by unfold kindsOf;split <;> simp
 unfold partsL at h
 rcases List.mem_append.1 h with h | h
 ·rcases List.mem_append.1 h with h | h
  ·split at h
   ·rw [List.mem_singleton] at h
    subst h
    simp only [List.length_append,List.length_cons,List.length_nil]
    omega
   ·cases h
  ·split at h
   ·rw [List.mem_singleton] at h
    subst h
    simp only []
    omega
   ·cases h
 ·simp only [List.mem_cons,List.not_mem_nil,or_false] at h
  rcases h with rfl | rfl <;> simp
def asOut (l:List Ms) (x:It):Int × List Dl :=
 if mssErr l≠0 then (mssErr l,[])
 else if itErr x≠0 then (itErr x,[])
 else if ((applic l x).any fun m=>m.kind == 1)=false then (7,[])
 else if (linesOf (applic l x) (partsL x (shA x) (shB x))).1≠0 then ((linesOf (applic l x) (partsL x (shA x) (shB x))).1,[])
 else if 1000000000000<sumA (linTo (applic l x) (partsL x (shA x) (shB x))) then (3,[])
 else (0,linTo (applic l x) (partsL x (shA x) (shB x)))
theorem asOut_1 {l:List Ms} {x:It} (h:mssErr l≠0):asOut l x=(mssErr l,[]):=by unfold asOut;rw [if_pos h]
theorem asOut_2 {l:List Ms} {x:It} (h:mssErr l=0) (h2:itErr x≠0):asOut l x=(itErr x,[]):=by unfold asOut;rw [if_neg (by simpa using h),if_pos h2]
theorem asOut_3 {l:List Ms} {x:It} (h:mssErr l=0) (h2:itErr x=0) (h3:((applic l x).any fun m=>m.kind == 1)=false):asOut l x=(7,[]):=by
 unfold asOut;rw [if_neg (by simpa using h),if_neg (by simpa using h2),if_pos h3]
theorem asOut_4 {l:List Ms} {x:It} (h:mssErr l=0) (h2:itErr x=0) (h3:((applic l x).any fun m=>m.kind == 1)=true) {e:Int} (h4:(linesOf (applic l x) (partsL x (shA x) (shB x))).1=e) (h5:e≠0):asOut l x=(e,[]):=by
 unfold asOut;rw [if_neg (by simpa using h),if_neg (by simpa using h2),if_neg (by rw [h3];simp),if_pos (by rw [h4];exact h5),h4]
theorem asOut_5 {l:List Ms} {x:It} (h:mssErr l=0) (h2:itErr x=0) (h3:((applic l x).any fun m=>m.kind == 1)=true) (h4:∀ p∈partsL x (shA x) (shB x),(leastOf (applic l x) p).1=0) :
  asOut l x=if 1000000000000<sumA (linTo (applic l x) (partsL x (shA x) (shB x))) then (3,[]) else (0,linTo (applic l x) (partsL x (shA x) (shB x))):=by
 unfold asOut
 rw [if_neg (by simpa using h),if_neg (by simpa using h2),if_neg (by rw [h3];simp),if_neg (by rw [linesOf_ok h4];simp)]
theorem asOut_len (l:List Ms) (x:It):(asOut l x).2.length≤4:=by
 unfold asOut
 repeat' split
 all_goals first | (simp;done) | (exact Nat.le_trans (linTo_len _ _) (partsL_len _ _ _))
end Go.Proofs.YtbokkeooahodaaaGreatDoor

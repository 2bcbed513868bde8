/-
  A part of the proof of TopQuotaDayCardSaid: lemmas and contracts of functions that the law calls. No statement of the seat is proved here. Conditions: as each says.
-/
import Derived.Test.YtbokkeooahodaaaGreatDoorQAJ
namespace Go.Proofs.YtbokkeooahodaaaGreatDoor
open Go.RowKit
set_option linter.unusedVariables false
theorem infoMs:(Tryz.prog.info? 62).map (fun i=>(i.zero,i.size,i.bytes))=some (some (.agg #[.int .i64 0,.int .i64 0,.string ⟨#[]⟩,.slice none 0 0,.int .i64 0,.int .i64 0,.int .i64 0,.int .i64 0,.int .i64 0,.int .i64 0,.int .i64 0,.bool false,.int .i64 0,.bool false,.int .i64 0]),15,144):=by kernel_rfl
theorem clone20 (A:Option Addr) (n c:Nat) (l:List ByteArray) (w:World) (h:Sr w A n l) :
  Calls Tryz.prog 52 #[.slice A n c] w fun e w'=>∃ B m d,e=.returned (.slice B m d)∧RowKit.Below w.heap.size w w':=by
 cases A with
 | none=>exact (Tryz.slices_Clone_string_nil n c w).mono fun e w' ⟨h1,h2⟩=>⟨none,0,0,h1,by subst h2;exact Below.refl _ _⟩
 | some a =>
  by_cases h0:n=0
  ·subst h0
   refine (Tryz.slices_Clone_string_zero a c w).mono ?_
   rintro e w' ⟨v,rfl,ho,_,hb⟩
   obtain⟨B,d,rfl⟩:=own_slice ho
   exact⟨B,0,d,rfl,hb⟩
  ·obtain⟨b,off,e,hlt,hc⟩:=h.1.2 (by omega)
   injection e with e
   subst e
   have hl:=h.len
   have hn:=h.2.1
   refine (Tryz.slices_Clone_string b off n c l w (by omega) (by omega) (fun j hj=>?_)).mono ?_
   ·obtain⟨b',o',s,e2,_,h3,_,h4⟩:=h.get (i:=j) (by omega)
    injection e2 with e2
    injection e2 with e2 e3
    subst e2 e3
    rw [h3,← h4.out,List.getD_eq_getElem?_getD,getElem!_pos l j hj,List.getElem?_eq_getElem hj]
    rfl
   ·rintro e w' ⟨v,rfl,ho,_,hb⟩
    obtain⟨B,d,rfl⟩:=own_slice ho
    exact⟨B,n,d,rfl,hb⟩
def ApRes (w:World) (l:List Ms) (e:Ending) (w':World):Prop:=∃ (R:Option Addr) (c:Nat) (ys:List MsA),e=.returned (.slice R ys.length c)∧w'.ownsRow w.heap.size 62 15 (.slice R ys.length c) ys.length (flat encM ys)∧msL ys=l∧RowKit.Below w.heap.size w w'
theorem msL_snoc (ys:List MsA) (y:MsA):msL (ys ++ [y])=msL ys ++ [y.m]:=by simp [msL]
set_option maxRecDepth 100000 in
set_option maxHeartbeats 16000000 in
theorem applicable_any (A:Option Addr) (n c:Nat) (xs:List MsA) (x:It) (w:World) (h:MsR w A n xs) :
  Calls Tryz.prog 22 #[.slice A n c,.string x.code,.string x.org,.int .i64 x.co,.int .i64 x.day] w (ApRes w (applic (msL xs) x)):=by
 have HX:=Lib.hid h
 have hn:n≤1000000:=h.2.1
 have hxl:(msL xs).length=n:=by rw [msL_len];exact h.len
 have HCV:Hid (∀ (y:MsA) wx,Sr wx y.A y.n y.m.orgs→Calls Tryz.prog 50 #[.agg #[.int .i64 y.m.id,.int .i64 y.m.kind,.string y.m.pre,.slice y.A y.n y.c,.int .i64 y.m.co,.int .i64 y.m.fr,.int .i64 y.m.til,.int .i64 y.m.reg,.int .i64 y.m.du.rate,.int .i64 y.m.du.am,.int .i64 y.m.du.per,.bool y.m.du.hm,.int .i64 y.m.du.most,.bool y.m.du.hl,.int .i64 y.m.du.least],.string x.code,.string x.org,.int .i64 x.co,.int .i64 x.day] wx fun e w'=>e=.returned (.bool (coversB y.m x))∧RowKit.Below wx.heap.size wx w'):=fun y wx hs=>covers_any y x wx hs
 have HPC:Hid (∀ (y z:MsA) wx,y.m.orgs.length=y.n→z.m.orgs.length=z.n→Calls Tryz.prog 51 #[.agg #[.int .i64 y.m.id,.int .i64 y.m.kind,.string y.m.pre,.slice y.A y.n y.c,.int .i64 y.m.co,.int .i64 y.m.fr,.int .i64 y.m.til,.int .i64 y.m.reg,.int .i64 y.m.du.rate,.int .i64 y.m.du.am,.int .i64 y.m.du.per,.bool y.m.du.hm,.int .i64 y.m.du.most,.bool y.m.du.hl,.int .i64 y.m.du.least],.agg #[.int .i64 z.m.id,.int .i64 z.m.kind,.string z.m.pre,.slice z.A z.n z.c,.int .i64 z.m.co,.int .i64 z.m.fr,.int .i64 z.m.til,.int .i64 z.m.reg,.int .i64 z.m.du.rate,.int .i64 z.m.du.am,.int .i64 z.m.du.per,.bool z.m.du.hm,.int .i64 z.m.du.most,.bool z.m.du.hl,.int .i64 z.m.du.least]] wx fun e w'=>e=.returned (.bool (precB y.m z.m))∧RowKit.Below wx.heap.size wx w'):=fun y z wx h1 h2=>precedes_any y z wx h1 h2
 have HCL:Hid (∀ (y:MsA) wx,Sr wx y.A y.n y.m.orgs→Calls Tryz.prog 52 #[.slice y.A y.n y.c] wx fun e w'=>∃ B m d,e=.returned (.slice B m d)∧RowKit.Below wx.heap.size wx w'):=fun y wx hs=>clone20 _ _ _ _ wx hs
 obtain⟨l,hl⟩:∃ l,msL xs=l:=⟨_,rfl⟩
 have HG:Hid (∀ i:Nat,l[i]! = xs[i]!.m):=fun i=>by rw [← hl,msL_get]
 rw [hl] at hxl ⊢
 clear h hl
 obtain⟨xc,hxc⟩:∃ q,x.code=q:=⟨_,rfl⟩
 obtain⟨xo,hxo⟩:∃ q,x.org=q:=⟨_,rfl⟩
 obtain⟨xn,hxn⟩:∃ q,x.co=q:=⟨_,rfl⟩
 obtain⟨xd,hxd⟩:∃ q,x.day=q:=⟨_,rfl⟩
 rw [hxc,hxo,hxn,hxd] at HCV
 rw [hxc,hxo,hxn,hxd]
 clear hxc hxo hxn hxd
 go_enter Tryz.func22,Tryz.ntmps22
 go_wp2_with fail
 go_loopw [11,12] (fun s v wx=>∃ (k:Nat) (R:Option Addr) (m d:Nat) (ys:List MsA),v=.int .i64 ((k:Int)+1)∧s=.slice R m d∧k≤6∧m≤k∧Hid (msL ys=appTo l x k)∧Hid (ys.length=m)∧Hid (wx.ownsRow w.heap.size 62 15 (.slice R m d) m (flat encM ys))∧Hid (RowKit.Below w.heap.size w wx)) (fun _ v _=>7 - (intOf v).toNat)
 case atStart=>exact⟨0,none,0,0,[],by rfl,rfl,by omega,by omega,rfl,rfl,⟨by simp [flat],.inl ⟨rfl,rfl⟩⟩,Below.refl _ _⟩
 case round =>
  obtain⟨k,R,m,d,ys,rfl,rfl,hk,hmk,HYS,HYL,HO,HB⟩:=hrel
  by_cases hlt:k<6
  case neg =>
   obtain rfl:k=6:=by omega
   have dk:decide (((6:Nat):Int)+1≤6)=false:=by decide
   have HR:Hid (ApRes w (applic l x) (.returned (.slice R m d)) wr):=by
    have hyl:=HYL.out
    subst hyl
    exact⟨R,d,ys,rfl,HO.out,HYS.out,HB.out⟩
   go_wp2
   go_ret
   exact HR.out
  case pos =>
  have dk:decide ((k:Int)+1≤6)=true:=by simp;omega
  obtain⟨kd,hkd⟩:∃ kd:Int,(k:Int)+1=kd:=⟨_,rfl⟩
  have HKD:Hid (((k+1:Nat):Int)=kd):=by show _=_;omega
  have hk0:1≤kd∧kd≤6:=by omega
  rw [hkd] at dk ⊢
  have uk:IntKind.i64.wrap (kd+1)=kd+1:=IntWalk.i64_in _ (by omega)
  go_wp2_with fail
  go_loopw [13,23] (fun s v wx=>∃ (i:Nat) (bv:Int),v=.int .i64 (i:Int)∧s=.int .i64 bv∧i≤n∧-1≤bv∧bv<(i:Int)∧Hid (bestOf l kd x i=bv)∧Hid (wx.ownsRow w.heap.size 62 15 (.slice R m d) m (flat encM ys))∧Hid (RowKit.Below w.heap.size w wx)) (fun _ v _=>n - (intOf v).toNat)
  case atStart=>exact⟨0,-1,rfl,rfl,Nat.zero_le _,by omega,by omega,rfl,HO.out,HB.out⟩
  case round =>
   clear HO HB
   obtain⟨i,bv,rfl,rfl,hi,hbv0,hbv1,HBV,HO,HB⟩:=hrel
   by_cases hlti:i<n
   case neg =>
    obtain rfl:i=n:=by omega
    have di:decide ((i:Int)<(i:Int))=false:=by simp
    by_cases hneg:bv<0
    case pos =>
     have dn:decide (bv ≥ 0)=false:=by simp;omega
     have HY2:Hid (msL ys=appTo l x (k+1)):=by
      show _=_
      rw [appTo_none (by rw [HKD.out,hxl,HBV.out];exact hneg)]
      exact HYS.out
     go_wp2_with fail
     go_roundw
     case rel=>exact⟨k+1,R,m,d,ys,by rw [← hkd];go_num,rfl,by omega,by omega,HY2.out,HYL.out,HO.out,HB.out⟩
     case measure=>simp [intOf];omega
    case neg =>
    have dn:decide (bv ≥ 0)=true:=by simp;omega
    obtain⟨q,rfl⟩:∃ q:Nat,bv=(q:Int):=⟨bv.toNat,by omega⟩
    have hqi:q<i:=by omega
    obtain⟨b1,o1,y,rfl,hb1,hc,hsr,_,HY⟩:=HX.out.get hqi
    have hsr2:=Lib.hid (hsr.below HB.out)
    have HAP:Hid (appTo l x (k+1)=msL ys ++ [y.m]):=by
     show _=_
     rw [appTo_some (b:=q) (by rw [HKD.out,hxl,HBV.out]),HYS.out,HG.out,HY.out]
    obtain⟨h0,h1,h2,h3,h4,h5,h6,h7,h8,h9,h10,h11,h12,h13,h14⟩:=hc
    have a0:wr.cell? ⟨b1,o1+q*15,none⟩=some (.int .i64 y.m.id):=(HB.out.cell (p:=⟨b1,o1+q*15,none⟩) hb1).trans h0
    have a1:wr.cell? ⟨b1,o1+q*15+1,none⟩=some (.int .i64 y.m.kind):=(HB.out.cell (p:=⟨b1,o1+q*15+1,none⟩) hb1).trans h1
    have a2:wr.cell? ⟨b1,o1+q*15+2,none⟩=some (.string y.m.pre):=(HB.out.cell (p:=⟨b1,o1+q*15+2,none⟩) hb1).trans h2
    have a3:wr.cell? ⟨b1,o1+q*15+3,none⟩=some (.slice y.A y.n y.c):=(HB.out.cell (p:=⟨b1,o1+q*15+3,none⟩) hb1).trans h3
    have a4:wr.cell? ⟨b1,o1+q*15+4,none⟩=some (.int .i64 y.m.co):=(HB.out.cell (p:=⟨b1,o1+q*15+4,none⟩) hb1).trans h4
    have a5:wr.cell? ⟨b1,o1+q*15+5,none⟩=some (.int .i64 y.m.fr):=(HB.out.cell (p:=⟨b1,o1+q*15+5,none⟩) hb1).trans h5
    have a6:wr.cell? ⟨b1,o1+q*15+6,none⟩=some (.int .i64 y.m.til):=(HB.out.cell (p:=⟨b1,o1+q*15+6,none⟩) hb1).trans h6
    have a7:wr.cell? ⟨b1,o1+q*15+7,none⟩=some (.int .i64 y.m.reg):=(HB.out.cell (p:=⟨b1,o1+q*15+7,none⟩) hb1).trans h7
    have a8:wr.cell? ⟨b1,o1+q*15+8,none⟩=some (.int .i64 y.m.du.rate):=(HB.out.cell (p:=⟨b1,o1+q*15+8,none⟩) hb1).trans h8
    have a9:wr.cell? ⟨b1,o1+q*15+9,none⟩=some (.int .i64 y.m.du.am):=(HB.out.cell (p:=⟨b1,o1+q*15+9,none⟩) hb1).trans h9
    have a10:wr.cell? ⟨b1,o1+q*15+10,none⟩=some (.int .i64 y.m.du.per):=(HB.out.cell (p:=⟨b1,o1+q*15+10,none⟩) hb1).trans h10
    have a11:wr.cell? ⟨b1,o1+q*15+11,none⟩=some (.bool y.m.du.hm):=(HB.out.cell (p:=⟨b1,o1+q*15+11,none⟩) hb1).trans h11
    have a12:wr.cell? ⟨b1,o1+q*15+12,none⟩=some (.int .i64 y.m.du.most):=(HB.out.cell (p:=⟨b1,o1+q*15+12,none⟩) hb1).trans h12
    have a13:wr.cell? ⟨b1,o1+q*15+13,none⟩=some (.bool y.m.du.hl):=(HB.out.cell (p:=⟨b1,o1+q*15+13,none⟩) hb1).trans h13
    have a14:wr.cell? ⟨b1,o1+q*15+14,none⟩=some (.int .i64 y.m.du.least):=(HB.out.cell (p:=⟨b1,o1+q*15+14,none⟩) hb1).trans h14
    have hqq:(q:Int)<(i:Int):=by omega
    have hqz:(0:Int)≤(q:Int):=by omega
    have HBX:=Lib.hid (Bl.new wr 62 #[.int .i64 y.m.id,.int .i64 y.m.kind,.string y.m.pre,.slice y.A y.n y.c,.int .i64 y.m.co,.int .i64 y.m.fr,.int .i64 y.m.til,.int .i64 y.m.reg,.int .i64 y.m.du.rate,.int .i64 y.m.du.am,.int .i64 y.m.du.per,.bool y.m.du.hm,.int .i64 y.m.du.most,.bool y.m.du.hl,.int .i64 y.m.du.least])
    have HOX:=Lib.hid (own_alloc HO.out (.cells #[.int .i64 y.m.id,.int .i64 y.m.kind,.string y.m.pre,.slice y.A y.n y.c,.int .i64 y.m.co,.int .i64 y.m.fr,.int .i64 y.m.til,.int .i64 y.m.reg,.int .i64 y.m.du.rate,.int .i64 y.m.du.am,.int .i64 y.m.du.per,.bool y.m.du.hm,.int .i64 y.m.du.most,.bool y.m.du.hl,.int .i64 y.m.du.least] 62))
    have HBB:=Lib.hid (HB.out.alloc HB.out.size (.cells #[.int .i64 y.m.id,.int .i64 y.m.kind,.string y.m.pre,.slice y.A y.n y.c,.int .i64 y.m.co,.int .i64 y.m.fr,.int .i64 y.m.til,.int .i64 y.m.reg,.int .i64 y.m.du.rate,.int .i64 y.m.du.am,.int .i64 y.m.du.per,.bool y.m.du.hm,.int .i64 y.m.du.most,.bool y.m.du.hl,.int .i64 y.m.du.least] 62))
    have HSX:=Lib.hid (hsr2.out.below ((Below.refl _ _).alloc (Nat.le_refl _) (.cells #[.int .i64 y.m.id,.int .i64 y.m.kind,.string y.m.pre,.slice y.A y.n y.c,.int .i64 y.m.co,.int .i64 y.m.fr,.int .i64 y.m.til,.int .i64 y.m.reg,.int .i64 y.m.du.rate,.int .i64 y.m.du.am,.int .i64 y.m.du.per,.bool y.m.du.hm,.int .i64 y.m.du.most,.bool y.m.du.hl,.int .i64 y.m.du.least] 62)))
    have hgx:w.heap.size≤wr.heap.size:=HB.out.size
    have HLT:Hid (∀ g,(Value.slice R m d).ownBlock=some g→g<wr.heap.size):=own_lt HO.out
    clear h0 h1 h2 h3 h4 h5 h6 h7 h8 h9 h10 h11 h12 h13 h14 hsr
    go_upto_region 14 with (fail)
    clear HO HB hsr2 a0 a1 a2 a3 a4 a5 a6 a7 a8 a9 a10 a11 a12 a13 a14
    generalize wr.alloc (.cells #[.int .i64 y.m.id,.int .i64 y.m.kind,.string y.m.pre,.slice y.A y.n y.c,.int .i64 y.m.co,.int .i64 y.m.fr,.int .i64 y.m.til,.int .i64 y.m.reg,.int .i64 y.m.du.rate,.int .i64 y.m.du.am,.int .i64 y.m.du.per,.bool y.m.du.hm,.int .i64 y.m.du.most,.bool y.m.du.hl,.int .i64 y.m.du.least] 62)=W1 at *
    generalize wr.heap.size=gx at *
    have g3:W1.cell? ⟨gx,3,none⟩=some (.slice y.A y.n y.c):=HBX.out.cell 3
    go_wp2_with fail
    refine (HCL.out y _ HSX.out).mono ?_
    rintro e w2 ⟨B2,m2,d2,rfl,hb2⟩
    have HBX2:=Lib.hid (HBX.out.keep hb2)
    have HOX2:=Lib.hid (own_below HOX.out hb2)
    have HBB2:=Lib.hid (HBB.out.trans (hb2.mono HBB.out.size))
    have c3:w2.cell? ⟨gx,3,none⟩=some (.slice y.A y.n y.c):=HBX2.out.cell 3
    have f3:w2.frozen? ⟨gx,3,none⟩=false:=HBX2.out.free 3
    clear HBX HOX HBB HSX hb2 g3
    have HBX3:Hid (Bl (w2.setCell ⟨gx,3,none⟩ (.slice B2 m2 d2)) gx 62 #[.int .i64 y.m.id,.int .i64 y.m.kind,.string y.m.pre,.slice B2 m2 d2,.int .i64 y.m.co,.int .i64 y.m.fr,.int .i64 y.m.til,.int .i64 y.m.reg,.int .i64 y.m.du.rate,.int .i64 y.m.du.am,.int .i64 y.m.du.per,.bool y.m.du.hm,.int .i64 y.m.du.most,.bool y.m.du.hl,.int .i64 y.m.du.least]):=by
     have:=HBX2.out.put 3 (.slice B2 m2 d2)
     show Bl _ _ _ _
     simpa using this
    have HOX3:Hid ((w2.setCell ⟨gx,3,none⟩ (.slice B2 m2 d2)).ownsRow w.heap.size 62 15 (.slice R m d) m (flat encM ys)):=own_of_block HOX2.out (fun g hg=>Below.heap_setCell w2 ⟨gx,3,none⟩ _ g (fun e=>by have h5:=HLT.out g hg;have e2:g=gx:=e;omega))
    have HBB3:=Lib.hid (HBB2.out.setCell (p:=⟨gx,3,none⟩) hgx (.slice B2 m2 d2))
    go_upto_region 15 with (fail)
    generalize w2.setCell ⟨gx,3,none⟩ (.slice B2 m2 d2)=W3 at *
    clear HBX2 HOX2 HBB2 c3 f3
    have g0:W3.cell? ⟨gx,0,none⟩=some (.int .i64 y.m.id):=HBX3.out.cell 0
    have g1:W3.cell? ⟨gx,1,none⟩=some (.int .i64 y.m.kind):=HBX3.out.cell 1
    have g2:W3.cell? ⟨gx,2,none⟩=some (.string y.m.pre):=HBX3.out.cell 2
    have g3:W3.cell? ⟨gx,3,none⟩=some (.slice B2 m2 d2):=HBX3.out.cell 3
    have g4:W3.cell? ⟨gx,4,none⟩=some (.int .i64 y.m.co):=HBX3.out.cell 4
    have g5:W3.cell? ⟨gx,5,none⟩=some (.int .i64 y.m.fr):=HBX3.out.cell 5
    have g6:W3.cell? ⟨gx,6,none⟩=some (.int .i64 y.m.til):=HBX3.out.cell 6
    have g7:W3.cell? ⟨gx,7,none⟩=some (.int .i64 y.m.reg):=HBX3.out.cell 7
    have g8:W3.cell? ⟨gx,8,none⟩=some (.int .i64 y.m.du.rate):=HBX3.out.cell 8
    have g9:W3.cell? ⟨gx,9,none⟩=some (.int .i64 y.m.du.am):=HBX3.out.cell 9
    have g10:W3.cell? ⟨gx,10,none⟩=some (.int .i64 y.m.du.per):=HBX3.out.cell 10
    have g11:W3.cell? ⟨gx,11,none⟩=some (.bool y.m.du.hm):=HBX3.out.cell 11
    have g12:W3.cell? ⟨gx,12,none⟩=some (.int .i64 y.m.du.most):=HBX3.out.cell 12
    have g13:W3.cell? ⟨gx,13,none⟩=some (.bool y.m.du.hl):=HBX3.out.cell 13
    have g14:W3.cell? ⟨gx,14,none⟩=some (.int .i64 y.m.du.least):=HBX3.out.cell 14
    have HOA:Hid ((W3.alloc (.cells #[.int .i64 y.m.id,.int .i64 y.m.kind,.string y.m.pre,.slice B2 m2 d2,.int .i64 y.m.co,.int .i64 y.m.fr,.int .i64 y.m.til,.int .i64 y.m.reg,.int .i64 y.m.du.rate,.int .i64 y.m.du.am,.int .i64 y.m.du.per,.bool y.m.du.hm,.int .i64 y.m.du.most,.bool y.m.du.hl,.int .i64 y.m.du.least] 62)).ownsRow w.heap.size 62 15 (.slice R m d) m (flat encM ys)):=own_alloc HOX3.out _
    have HBA:=Lib.hid (HBB3.out.alloc HBB3.out.size (.cells #[.int .i64 y.m.id,.int .i64 y.m.kind,.string y.m.pre,.slice B2 m2 d2,.int .i64 y.m.co,.int .i64 y.m.fr,.int .i64 y.m.til,.int .i64 y.m.reg,.int .i64 y.m.du.rate,.int .i64 y.m.du.am,.int .i64 y.m.du.per,.bool y.m.du.hm,.int .i64 y.m.du.most,.bool y.m.du.hl,.int .i64 y.m.du.least] 62))
    obtain⟨y2,hy2⟩:∃ y2:MsA,y2=⟨y.m,B2,m2,d2⟩:=⟨_,rfl⟩
    have HEN:Hid (encM y2=([.int .i64 y.m.id,.int .i64 y.m.kind,.string y.m.pre,.slice B2 m2 d2,.int .i64 y.m.co,.int .i64 y.m.fr,.int .i64 y.m.til,.int .i64 y.m.reg,.int .i64 y.m.du.rate,.int .i64 y.m.du.am,.int .i64 y.m.du.per,.bool y.m.du.hm,.int .i64 y.m.du.most,.bool y.m.du.hl,.int .i64 y.m.du.least]:List Value)):=by rw [hy2];exact Lib.hid rfl
    have HYM:Hid (y2.m=y.m):=by rw [hy2];exact Lib.hid rfl
    have HRD:Hid (Rd (W3.alloc (.cells #[.int .i64 y.m.id,.int .i64 y.m.kind,.string y.m.pre,.slice B2 m2 d2,.int .i64 y.m.co,.int .i64 y.m.fr,.int .i64 y.m.til,.int .i64 y.m.reg,.int .i64 y.m.du.rate,.int .i64 y.m.du.am,.int .i64 y.m.du.per,.bool y.m.du.hm,.int .i64 y.m.du.most,.bool y.m.du.hl,.int .i64 y.m.du.least] 62)) 15 (some ⟨W3.heap.size,0,none⟩) 1 [.int .i64 y.m.id,.int .i64 y.m.kind,.string y.m.pre,.slice B2 m2 d2,.int .i64 y.m.co,.int .i64 y.m.fr,.int .i64 y.m.til,.int .i64 y.m.reg,.int .i64 y.m.du.rate,.int .i64 y.m.du.am,.int .i64 y.m.du.per,.bool y.m.du.hm,.int .i64 y.m.du.most,.bool y.m.du.hl,.int .i64 y.m.du.least]):=rd_bl (Bl.new _ _ _) rfl
    have HON:Hid (∀ u∈([.int .i64 y.m.id,.int .i64 y.m.kind,.string y.m.pre,.slice B2 m2 d2,.int .i64 y.m.co,.int .i64 y.m.fr,.int .i64 y.m.til,.int .i64 y.m.reg,.int .i64 y.m.du.rate,.int .i64 y.m.du.am,.int .i64 y.m.du.per,.bool y.m.du.hm,.int .i64 y.m.du.most,.bool y.m.du.hl,.int .i64 y.m.du.least]:List Value),u.oneCell'=true):=by rw [← HEN.out];exact encM_one y2
    have HM1:Hid (m+1≤maxLen∧(m+1)*144≤140737488355328):=⟨by unfold maxLen;omega,by omega⟩
    clear hy2
    go_wp2_with (at_builtin;refine wpList_append_rd _ rfl (.tmp 64) (.tmp 66) 24 rfl w.heap.size 62 _ 15 144 Tryz.underlying24 infoMs rfl (by decide) (.slice R m d) m (flat encM ys) rfl HOA.out (some ⟨W3.heap.size,0,none⟩) 1 _ _ rfl HRD.out HON.out HM1.out.1 HM1.out.2 HBA.out.size ?_;intro v4 w4 ho4 hg4 hv4;obtain⟨R4,d4,rfl⟩:=own_slice ho4)
    have hb4:=HBA.out.grown hg4 HBA.out.size (fun j hj=>own_base HOA.out j hj)
    have HO4:Hid (w4.ownsRow w.heap.size 62 15 (.slice R4 (m+1) d4) (m+1) (flat encM (ys ++ [y2]))):=by
     show World.ownsRow _ _ _ _ _ _ _
     rw [flat_append,flat_one,HEN.out]
     exact ho4
    have HY2:Hid (msL (ys ++ [y2])=appTo l x (k+1)):=by
     show _=_
     rw [msL_snoc,HYM.out]
     exact HAP.out.symm
    clear ho4
    go_roundw
    case rel=>exact⟨k+1,R4,m+1,d4,ys ++ [y2],by rw [← hkd];go_num,rfl,by omega,by omega,HY2.out,(by show _=_;rw [List.length_append,HYL.out];rfl),HO4.out,hb4⟩
    case measure=>simp [intOf];omega
   case pos =>
   have di:decide ((i:Int)<(n:Int))=true:=by simp;omega
   obtain⟨b1,o1,y,hA,hb1,hc,hsr,_,HY⟩:=HX.out.get hlti
   have HSY:=Lib.hid (hsr.below HB.out)
   have HYN:Hid (y.m.orgs.length=y.n):=hsr.len
   have HLY:Hid (l[i]! = y.m):=by show _=_;rw [HG.out,HY.out]
   obtain⟨h0,h1,h2,h3,h4,h5,h6,h7,h8,h9,h10,h11,h12,h13,h14⟩:=hc
   subst hA
   have a0:wr.cell? ⟨b1,o1+i*15,none⟩=some (.int .i64 y.m.id):=(HB.out.cell (p:=⟨b1,o1+i*15,none⟩) hb1).trans h0
   have a1:wr.cell? ⟨b1,o1+i*15+1,none⟩=some (.int .i64 y.m.kind):=(HB.out.cell (p:=⟨b1,o1+i*15+1,none⟩) hb1).trans h1
   have a2:wr.cell? ⟨b1,o1+i*15+2,none⟩=some (.string y.m.pre):=(HB.out.cell (p:=⟨b1,o1+i*15+2,none⟩) hb1).trans h2
   have a3:wr.cell? ⟨b1,o1+i*15+3,none⟩=some (.slice y.A y.n y.c):=(HB.out.cell (p:=⟨b1,o1+i*15+3,none⟩) hb1).trans h3
   have a4:wr.cell? ⟨b1,o1+i*15+4,none⟩=some (.int .i64 y.m.co):=(HB.out.cell (p:=⟨b1,o1+i*15+4,none⟩) hb1).trans h4
   have a5:wr.cell? ⟨b1,o1+i*15+5,none⟩=some (.int .i64 y.m.fr):=(HB.out.cell (p:=⟨b1,o1+i*15+5,none⟩) hb1).trans h5
   have a6:wr.cell? ⟨b1,o1+i*15+6,none⟩=some (.int .i64 y.m.til):=(HB.out.cell (p:=⟨b1,o1+i*15+6,none⟩) hb1).trans h6
   have a7:wr.cell? ⟨b1,o1+i*15+7,none⟩=some (.int .i64 y.m.reg):=(HB.out.cell (p:=⟨b1,o1+i*15+7,none⟩) hb1).trans h7
   have a8:wr.cell? ⟨b1,o1+i*15+8,none⟩=some (.int .i64 y.m.du.rate):=(HB.out.cell (p:=⟨b1,o1+i*15+8,none⟩) hb1).trans h8
   have a9:wr.cell? ⟨b1,o1+i*15+9,none⟩=some (.int .i64 y.m.du.am):=(HB.out.cell (p:=⟨b1,o1+i*15+9,none⟩) hb1).trans h9
   have a10:wr.cell? ⟨b1,o1+i*15+10,none⟩=some (.int .i64 y.m.du.per):=(HB.out.cell (p:=⟨b1,o1+i*15+10,none⟩) hb1).trans h10
   have a11:wr.cell? ⟨b1,o1+i*15+11,none⟩=some (.bool y.m.du.hm):=(HB.out.cell (p:=⟨b1,o1+i*15+11,none⟩) hb1).trans h11
   have a12:wr.cell? ⟨b1,o1+i*15+12,none⟩=some (.int .i64 y.m.du.most):=(HB.out.cell (p:=⟨b1,o1+i*15+12,none⟩) hb1).trans h12
   have a13:wr.cell? ⟨b1,o1+i*15+13,none⟩=some (.bool y.m.du.hl):=(HB.out.cell (p:=⟨b1,o1+i*15+13,none⟩) hb1).trans h13
   have a14:wr.cell? ⟨b1,o1+i*15+14,none⟩=some (.int .i64 y.m.du.least):=(HB.out.cell (p:=⟨b1,o1+i*15+14,none⟩) hb1).trans h14
   have hii:(i:Int)<(n:Int):=by omega
   have hiz:(0:Int)≤(i:Int):=by omega
   have ui:IntKind.i64.wrap ((i:Int)+1)=((i+1:Nat):Int):=IntWalk.i64_in _ (by omega)
   have HBX:=Lib.hid (Bl.new wr 62 #[.int .i64 y.m.id,.int .i64 y.m.kind,.string y.m.pre,.slice y.A y.n y.c,.int .i64 y.m.co,.int .i64 y.m.fr,.int .i64 y.m.til,.int .i64 y.m.reg,.int .i64 y.m.du.rate,.int .i64 y.m.du.am,.int .i64 y.m.du.per,.bool y.m.du.hm,.int .i64 y.m.du.most,.bool y.m.du.hl,.int .i64 y.m.du.least])
   have HOX:=Lib.hid (own_alloc HO.out (.cells #[.int .i64 y.m.id,.int .i64 y.m.kind,.string y.m.pre,.slice y.A y.n y.c,.int .i64 y.m.co,.int .i64 y.m.fr,.int .i64 y.m.til,.int .i64 y.m.reg,.int .i64 y.m.du.rate,.int .i64 y.m.du.am,.int .i64 y.m.du.per,.bool y.m.du.hm,.int .i64 y.m.du.most,.bool y.m.du.hl,.int .i64 y.m.du.least] 62))
   have HBB:=Lib.hid (HB.out.alloc HB.out.size (.cells #[.int .i64 y.m.id,.int .i64 y.m.kind,.string y.m.pre,.slice y.A y.n y.c,.int .i64 y.m.co,.int .i64 y.m.fr,.int .i64 y.m.til,.int .i64 y.m.reg,.int .i64 y.m.du.rate,.int .i64 y.m.du.am,.int .i64 y.m.du.per,.bool y.m.du.hm,.int .i64 y.m.du.most,.bool y.m.du.hl,.int .i64 y.m.du.least] 62))
   have HSX:=Lib.hid (HSY.out.below ((Below.refl _ _).alloc (Nat.le_refl _) (.cells #[.int .i64 y.m.id,.int .i64 y.m.kind,.string y.m.pre,.slice y.A y.n y.c,.int .i64 y.m.co,.int .i64 y.m.fr,.int .i64 y.m.til,.int .i64 y.m.reg,.int .i64 y.m.du.rate,.int .i64 y.m.du.am,.int .i64 y.m.du.per,.bool y.m.du.hm,.int .i64 y.m.du.most,.bool y.m.du.hl,.int .i64 y.m.du.least] 62)))
   clear h0 h1 h2 h3 h4 h5 h6 h7 h8 h9 h10 h11 h12 h13 h14 hsr HSY
   go_upto_region 9 with (fail)
   clear HO HB a0 a1 a2 a3 a4 a5 a6 a7 a8 a9 a10 a11 a12 a13 a14
   generalize wr.alloc (.cells #[.int .i64 y.m.id,.int .i64 y.m.kind,.string y.m.pre,.slice y.A y.n y.c,.int .i64 y.m.co,.int .i64 y.m.fr,.int .i64 y.m.til,.int .i64 y.m.reg,.int .i64 y.m.du.rate,.int .i64 y.m.du.am,.int .i64 y.m.du.per,.bool y.m.du.hm,.int .i64 y.m.du.most,.bool y.m.du.hl,.int .i64 y.m.du.least] 62)=W1 at *
   generalize wr.heap.size=gx at *
   have g1:W1.cell? ⟨gx,1,none⟩=some (.int .i64 y.m.kind):=HBX.out.cell 1
   have hk00:=Lib.hid (Below.refl W1.heap.size W1)
   have hk0:Hid (RowKit.Below W1.heap.size W1 W1.drew):=(Below.refl W1.heap.size W1).drew
   have HCV1:Hid (∀ wx,RowKit.Below W1.heap.size W1 wx→Calls Tryz.prog 50 #[.agg #[.int .i64 y.m.id,.int .i64 y.m.kind,.string y.m.pre,.slice y.A y.n y.c,.int .i64 y.m.co,.int .i64 y.m.fr,.int .i64 y.m.til,.int .i64 y.m.reg,.int .i64 y.m.du.rate,.int .i64 y.m.du.am,.int .i64 y.m.du.per,.bool y.m.du.hm,.int .i64 y.m.du.most,.bool y.m.du.hl,.int .i64 y.m.du.least],.string xc,.string xo,.int .i64 xn,.int .i64 xd] wx fun e w'=>e=.returned (.bool (coversB y.m x))∧RowKit.Below wx.heap.size wx w'):=fun wx hb=>HCV.out y wx (HSX.out.below hb)
   by_cases hkk:y.m.kind=kd
   case neg =>
    have d1:(y.m.kind == kd)=false:=by simpa using hkk
    have HKE:Hid (bestOf l kd x (i+1)=bv):=by
     show _=_
     rw [bestOf_keep (by rw [HLY.out];exact fun h=>hkk h.1)]
     exact HBV.out
    clear hkk g1
    refine wp_region_noPanic (reg9A d1 HBX (fun u28 u29 u30 u31 u32 u33 u34 u35 u36 u37 u38 u39 u40 u41 u42 u43 u44 u45 u46 u47 u48 u49 u50 w5 hb5=>NoPanic.normal ?_) (fun _ _ _ _ _ h=>h))
    focus
     have HO5:=Lib.hid (own_below HOX.out hb5)
     have HB5:=Lib.hid (HBB.out.trans (hb5.mono HBB.out.size))
     go_wp2_with fail
     go_roundw
     case rel=>exact⟨i+1,_,by go_num,rfl,by omega,by omega,by omega,HKE.out,HO5.out,HB5.out⟩
     case measure=>simp [intOf];omega
   case pos =>
   have d1:(y.m.kind == kd)=true:=by simpa using hkk
   cases hcv:coversB y.m x
   case false =>
    have HKE:Hid (bestOf l kd x (i+1)=bv):=by
     show _=_
     rw [bestOf_keep (by rw [HLY.out,hcv];exact fun h=>by simp at h)]
     exact HBV.out
    rw [hcv] at HCV1
    clear hkk g1
    refine wp_region_noPanic (reg9B d1 HCV1 HBX (fun u28 u29 u30 u31 u32 u33 u34 u35 u36 u37 u38 u39 u40 u41 u42 u43 u44 u45 u46 u47 u48 u49 u50 w5 hb5=>NoPanic.normal ?_) (fun _ _ _ _ _ h=>h))
    focus
     have HO5:=Lib.hid (own_below HOX.out hb5)
     have HB5:=Lib.hid (HBB.out.trans (hb5.mono HBB.out.size))
     go_wp2_with fail
     go_roundw
     case rel=>exact⟨i+1,_,by go_num,rfl,by omega,by omega,by omega,HKE.out,HO5.out,HB5.out⟩
     case measure=>simp [intOf];omega
   case true =>
   rw [hcv] at HCV1
   by_cases hneg:bv<0
   case pos =>
    have d2:decide (bv<0)=true:=decide_eq_true hneg
    have HKE:Hid (bestOf l kd x (i+1)=(i:Int)):=by
     show _=_
     rw [bestOf_take (by rw [HLY.out,HBV.out];exact⟨hkk,hcv,.inl hneg⟩)]
    clear hkk hcv g1
    refine wp_region_noPanic (reg9C d1 HCV1 d2 HBX (fun u28 u29 u30 u31 u32 u33 u34 u35 u36 u37 u38 u39 u40 u41 u42 u43 u44 u45 u46 u47 u48 u49 u50 w5 hb5=>NoPanic.normal ?_) (fun _ _ _ _ _ h=>h))
    focus
     have HO5:=Lib.hid (own_below HOX.out hb5)
     have HB5:=Lib.hid (HBB.out.trans (hb5.mono HBB.out.size))
     go_wp2_with fail
     go_roundw
     case rel=>exact⟨i+1,_,by go_num,rfl,by omega,by omega,by omega,HKE.out,HO5.out,HB5.out⟩
     case measure=>simp [intOf];omega
   case neg =>
   have d2:decide (bv<0)=false:=decide_eq_false hneg
   obtain⟨q,rfl⟩:∃ q:Nat,bv=(q:Int):=⟨bv.toNat,by omega⟩
   have hqi:q<n:=by omega
   obtain⟨b2,o2,z,hA,hb2,hc2,hsr2,_,HZ⟩:=HX.out.get hqi
   injection hA with hA
   injection hA with hA hB
   subst hA hB
   have HZN:Hid (z.m.orgs.length=z.n):=hsr2.len
   have HLZ:Hid (l[((q:Int)).toNat]! = z.m):=by show _=_;rw [Int.toNat_natCast,HG.out,HZ.out]
   have hqq:(q:Int)<(n:Int):=by omega
   have hqz:(0:Int)≤(q:Int):=by omega
   have lt1:b1<W1.heap.size:=Nat.lt_of_lt_of_le hb1 HBB.out.size
   obtain⟨h0,h1,h2,h3,h4,h5,h6,h7,h8,h9,h10,h11,h12,h13,h14⟩:=hc2
   have z0:W1.cell? ⟨b1,o1+q*15,none⟩=some (.int .i64 z.m.id):=(HBB.out.cell (p:=⟨b1,o1+q*15,none⟩) hb1).trans h0
   have z1:W1.cell? ⟨b1,o1+q*15+1,none⟩=some (.int .i64 z.m.kind):=(HBB.out.cell (p:=⟨b1,o1+q*15+1,none⟩) hb1).trans h1
   have z2:W1.cell? ⟨b1,o1+q*15+2,none⟩=some (.string z.m.pre):=(HBB.out.cell (p:=⟨b1,o1+q*15+2,none⟩) hb1).trans h2
   have z3:W1.cell? ⟨b1,o1+q*15+3,none⟩=some (.slice z.A z.n z.c):=(HBB.out.cell (p:=⟨b1,o1+q*15+3,none⟩) hb1).trans h3
   have z4:W1.cell? ⟨b1,o1+q*15+4,none⟩=some (.int .i64 z.m.co):=(HBB.out.cell (p:=⟨b1,o1+q*15+4,none⟩) hb1).trans h4
   have z5:W1.cell? ⟨b1,o1+q*15+5,none⟩=some (.int .i64 z.m.fr):=(HBB.out.cell (p:=⟨b1,o1+q*15+5,none⟩) hb1).trans h5
   have z6:W1.cell? ⟨b1,o1+q*15+6,none⟩=some (.int .i64 z.m.til):=(HBB.out.cell (p:=⟨b1,o1+q*15+6,none⟩) hb1).trans h6
   have z7:W1.cell? ⟨b1,o1+q*15+7,none⟩=some (.int .i64 z.m.reg):=(HBB.out.cell (p:=⟨b1,o1+q*15+7,none⟩) hb1).trans h7
   have z8:W1.cell? ⟨b1,o1+q*15+8,none⟩=some (.int .i64 z.m.du.rate):=(HBB.out.cell (p:=⟨b1,o1+q*15+8,none⟩) hb1).trans h8
   have z9:W1.cell? ⟨b1,o1+q*15+9,none⟩=some (.int .i64 z.m.du.am):=(HBB.out.cell (p:=⟨b1,o1+q*15+9,none⟩) hb1).trans h9
   have z10:W1.cell? ⟨b1,o1+q*15+10,none⟩=some (.int .i64 z.m.du.per):=(HBB.out.cell (p:=⟨b1,o1+q*15+10,none⟩) hb1).trans h10
   have z11:W1.cell? ⟨b1,o1+q*15+11,none⟩=some (.bool z.m.du.hm):=(HBB.out.cell (p:=⟨b1,o1+q*15+11,none⟩) hb1).trans h11
   have z12:W1.cell? ⟨b1,o1+q*15+12,none⟩=some (.int .i64 z.m.du.most):=(HBB.out.cell (p:=⟨b1,o1+q*15+12,none⟩) hb1).trans h12
   have z13:W1.cell? ⟨b1,o1+q*15+13,none⟩=some (.bool z.m.du.hl):=(HBB.out.cell (p:=⟨b1,o1+q*15+13,none⟩) hb1).trans h13
   have z14:W1.cell? ⟨b1,o1+q*15+14,none⟩=some (.int .i64 z.m.du.least):=(HBB.out.cell (p:=⟨b1,o1+q*15+14,none⟩) hb1).trans h14
   have HPC1:Hid (∀ wx,Calls Tryz.prog 51 #[.agg #[.int .i64 y.m.id,.int .i64 y.m.kind,.string y.m.pre,.slice y.A y.n y.c,.int .i64 y.m.co,.int .i64 y.m.fr,.int .i64 y.m.til,.int .i64 y.m.reg,.int .i64 y.m.du.rate,.int .i64 y.m.du.am,.int .i64 y.m.du.per,.bool y.m.du.hm,.int .i64 y.m.du.most,.bool y.m.du.hl,.int .i64 y.m.du.least],.agg #[.int .i64 z.m.id,.int .i64 z.m.kind,.string z.m.pre,.slice z.A z.n z.c,.int .i64 z.m.co,.int .i64 z.m.fr,.int .i64 z.m.til,.int .i64 z.m.reg,.int .i64 z.m.du.rate,.int .i64 z.m.du.am,.int .i64 z.m.du.per,.bool z.m.du.hm,.int .i64 z.m.du.most,.bool z.m.du.hl,.int .i64 z.m.du.least]] wx fun e w'=>e=.returned (.bool (precB y.m z.m))∧RowKit.Below wx.heap.size wx w'):=fun wx=>HPC.out y z wx HYN.out HZN.out
   clear h0 h1 h2 h3 h4 h5 h6 h7 h8 h9 h10 h11 h12 h13 h14 hsr2
   cases hpc:precB y.m z.m
   case false =>
    have HKE:Hid (bestOf l kd x (i+1)=(q:Int)):=by
     show _=_
     rw [bestOf_keep (by rw [HLY.out,HBV.out,HLZ.out,hpc];exact fun h=>by rcases h.2.2 with h | h;exact hneg h;cases h)]
     exact HBV.out
    rw [hpc] at HPC1
    clear hkk hcv g1
    refine wp_region_noPanic (reg9D d1 HCV1 HPC1 hqq hqz lt1 d2 z0 z1 z2 z3 z4 z5 z6 z7 z8 z9 z10 z11 z12 z13 z14 HBX (fun u28 u29 u30 u31 u32 u33 u34 u35 u36 u37 u38 u39 u40 u41 u42 u43 u44 u45 u46 u47 u48 u49 u50 w5 hb5=>NoPanic.normal ?_) (fun _ _ _ _ _ h=>h))
    focus
     have HO5:=Lib.hid (own_below HOX.out hb5)
     have HB5:=Lib.hid (HBB.out.trans (hb5.mono HBB.out.size))
     go_wp2_with fail
     go_roundw
     case rel=>exact⟨i+1,_,by go_num,rfl,by omega,by omega,by omega,HKE.out,HO5.out,HB5.out⟩
     case measure=>simp [intOf];omega
   case true =>
    have HKE:Hid (bestOf l kd x (i+1)=(i:Int)):=by
     show _=_
     rw [bestOf_take (by rw [HLY.out,HBV.out,HLZ.out];exact⟨hkk,hcv,.inr hpc⟩)]
    rw [hpc] at HPC1
    clear hkk hcv g1
    refine wp_region_noPanic (reg9D d1 HCV1 HPC1 hqq hqz lt1 d2 z0 z1 z2 z3 z4 z5 z6 z7 z8 z9 z10 z11 z12 z13 z14 HBX (fun u28 u29 u30 u31 u32 u33 u34 u35 u36 u37 u38 u39 u40 u41 u42 u43 u44 u45 u46 u47 u48 u49 u50 w5 hb5=>NoPanic.normal ?_) (fun _ _ _ _ _ h=>h))
    focus
     have HO5:=Lib.hid (own_below HOX.out hb5)
     have HB5:=Lib.hid (HBB.out.trans (hb5.mono HBB.out.size))
     go_wp2_with fail
     go_roundw
     case rel=>exact⟨i+1,_,by go_num,rfl,by omega,by omega,by omega,HKE.out,HO5.out,HB5.out⟩
     case measure=>simp [intOf];omega
end Go.Proofs.YtbokkeooahodaaaGreatDoor

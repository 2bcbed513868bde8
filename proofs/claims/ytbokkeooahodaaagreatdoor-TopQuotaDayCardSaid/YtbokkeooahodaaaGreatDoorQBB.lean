/-
  A part of the proof of TopQuotaDayCardSaid: lemmas and contracts of functions that the law calls. No statement of the seat is proved here. Conditions: as each says.
-/
import Derived.Test.YtbokkeooahodaaaGreatDoorQBA
import Derived.Test.YtbokkeooahodaaaGreatDoorQAU
import Derived.Test.YtbokkeooahodaaaGreatDoorQAV
import Derived.Test.YtbokkeooahodaaaGreatDoorQAM
namespace Go.Proofs.YtbokkeooahodaaaGreatDoor
open Go.RowKit
set_option linter.unusedVariables false
set_option maxRecDepth 100000
theorem set15_bl {w:World} {g:Nat} {T:TypeId} {z0 z1 z2 z3 z4 z5 z6 z7 z8 z9 z10 z11 z12 z13 z14:Value} (h:Bl w g T #[z0,z1,z2,z3,z4,z5,z6,z7,z8,z9,z10,z11,z12,z13,z14]) (v0 v1 v2 v3 v4 v5 v6 v7 v8 v9 v10 v11 v12 v13 v14:Value):Bl (((((((((((((((w.setCell ⟨g,0,none⟩ v0).setCell ⟨g,1,none⟩ v1).setCell ⟨g,2,none⟩ v2).setCell ⟨g,3,none⟩ v3).setCell ⟨g,4,none⟩ v4).setCell ⟨g,5,none⟩ v5).setCell ⟨g,6,none⟩ v6).setCell ⟨g,7,none⟩ v7).setCell ⟨g,8,none⟩ v8).setCell ⟨g,9,none⟩ v9).setCell ⟨g,10,none⟩ v10).setCell ⟨g,11,none⟩ v11).setCell ⟨g,12,none⟩ v12).setCell ⟨g,13,none⟩ v13).setCell ⟨g,14,none⟩ v14) g T #[v0,v1,v2,v3,v4,v5,v6,v7,v8,v9,v10,v11,v12,v13,v14]:=by
 have:=(((((((((((((((h.put 0 v0).put 1 v1).put 2 v2).put 3 v3).put 4 v4).put 5 v5).put 6 v6).put 7 v7).put 8 v8).put 9 v9).put 10 v10).put 11 v11).put 12 v12).put 13 v13).put 14 v14)
 simpa using this
theorem below_set15 {N:Nat} {w0 w:World} {g:Nat} (h:RowKit.Below N w0 w) (hg:N≤g) (v0 v1 v2 v3 v4 v5 v6 v7 v8 v9 v10 v11 v12 v13 v14:Value):RowKit.Below N w0 (((((((((((((((w.setCell ⟨g,0,none⟩ v0).setCell ⟨g,1,none⟩ v1).setCell ⟨g,2,none⟩ v2).setCell ⟨g,3,none⟩ v3).setCell ⟨g,4,none⟩ v4).setCell ⟨g,5,none⟩ v5).setCell ⟨g,6,none⟩ v6).setCell ⟨g,7,none⟩ v7).setCell ⟨g,8,none⟩ v8).setCell ⟨g,9,none⟩ v9).setCell ⟨g,10,none⟩ v10).setCell ⟨g,11,none⟩ v11).setCell ⟨g,12,none⟩ v12).setCell ⟨g,13,none⟩ v13).setCell ⟨g,14,none⟩ v14):=(((((((((((((((h.setCell (p:=⟨g,0,none⟩) hg v0).setCell (p:=⟨g,1,none⟩) hg v1).setCell (p:=⟨g,2,none⟩) hg v2).setCell (p:=⟨g,3,none⟩) hg v3).setCell (p:=⟨g,4,none⟩) hg v4).setCell (p:=⟨g,5,none⟩) hg v5).setCell (p:=⟨g,6,none⟩) hg v6).setCell (p:=⟨g,7,none⟩) hg v7).setCell (p:=⟨g,8,none⟩) hg v8).setCell (p:=⟨g,9,none⟩) hg v9).setCell (p:=⟨g,10,none⟩) hg v10).setCell (p:=⟨g,11,none⟩) hg v11).setCell (p:=⟨g,12,none⟩) hg v12).setCell (p:=⟨g,13,none⟩) hg v13).setCell (p:=⟨g,14,none⟩) hg v14)
theorem mss_reg {l:List Ms} (h:mssErr l=0) {m:Ms} (hm:m∈l) : -1≤m.reg:=by
 unfold mssErr at h
 by_cases h1:300<l.length
 ·rw [if_pos h1] at h;cases h
 ·rw [if_neg h1] at h
  obtain⟨i,hi,rfl⟩:=List.getElem_of_mem hm
  have h2:=firstErr_all h i hi
  unfold msErr at h2
  rw [getElem!_pos l i hi] at h2
  by_cases k1:msHead l[i]
  case neg=>rw [if_pos k1] at h2;cases h2
  rw [if_neg (by simpa using k1)] at h2
  by_cases k2:0<i∧l[i].id≤l[i - 1]!.id
  case pos=>rw [if_pos k2] at h2;cases h2
  rw [if_neg k2] at h2
  by_cases k3:levelV l[i].pre=0
  case pos=>rw [if_pos k3] at h2;cases h2
  rw [if_neg k3] at h2
  by_cases k4:20<l[i].orgs.length
  case pos=>rw [if_pos k4] at h2;cases h2
  rw [if_neg k4] at h2
  by_cases k5:orgsOk l[i].orgs
  case neg=>rw [if_pos k5] at h2;cases h2
  rw [if_neg (by simpa using k5)] at h2
  by_cases k6:msTime l[i]
  case neg=>rw [if_pos k6] at h2;cases h2
  exact k6.2.2.2.1
def OfRes (w:World) (l:List Ms) (k:Int) (x:It) (e:Ending) (w':World):Prop:=∃ (y:MsA) (t:Bool),e=.returned (.tuple #[.agg (msA y),.bool t])∧RowKit.Below w.heap.size w w'∧ofKind l k x=(if t=true then some y.m else none)
set_option maxHeartbeats 16000000 in
theorem rof_any (A:Option Addr) (n c:Nat) (xs:List MsA) (kd:Int) (x:It) (w:World) (h:MsR w A n xs) (hv:mssErr (msL xs)=0) (hcs:x.code.size≤1000000) :
  Calls Tryz.prog 42 #[.slice A n c,.int .i64 kd,.string x.code,.string x.org,.int .i64 x.co,.int .i64 x.day] w (OfRes w (msL xs) kd x):=by
 have HX:=Lib.hid h
 have hn:n≤1000000:=h.2.1
 have hxl:(msL xs).length=n:=by rw [msL_len];exact h.len
 have HV1:Hid (∀ i,i<n→∀ y:MsA,xs[i]! = y→rkOk y.m∧-1≤y.m.reg):=fun i hi y hy=>by
  have hm:y.m∈msL xs:=by
   rw [← hy,← msL_get,getElem!_pos (msL xs) i (by omega)]
   exact List.getElem_mem _
  exact⟨(mss_one hv hm).1,mss_reg hv hm⟩
 have HCV:Hid (∀ (y:MsA) wx,Sr wx y.A y.n y.m.orgs→-1≤y.m.reg→y.m.pre.size≤1000000→Calls Tryz.prog 80 #[.agg #[.int .i64 y.m.id,.int .i64 y.m.kind,.string y.m.pre,.slice y.A y.n y.c,.int .i64 y.m.co,.int .i64 y.m.fr,.int .i64 y.m.til,.int .i64 y.m.reg,.int .i64 y.m.du.rate,.int .i64 y.m.du.am,.int .i64 y.m.du.per,.bool y.m.du.hm,.int .i64 y.m.du.most,.bool y.m.du.hl,.int .i64 y.m.du.least],.string x.code,.string x.org,.int .i64 x.co,.int .i64 x.day] wx fun e w'=>e=.returned (.bool (coversB y.m x))∧RowKit.Below wx.heap.size wx w'):=fun y wx hs hr hp=>rcovers_any y x wx hs hr hcs hp
 have HRK:Hid (∀ (y:MsA) wx,y.m.orgs.length=y.n→y.m.pre.size≤1000000→rkOk y.m→Calls Tryz.prog 81 #[.agg #[.int .i64 y.m.id,.int .i64 y.m.kind,.string y.m.pre,.slice y.A y.n y.c,.int .i64 y.m.co,.int .i64 y.m.fr,.int .i64 y.m.til,.int .i64 y.m.reg,.int .i64 y.m.du.rate,.int .i64 y.m.du.am,.int .i64 y.m.du.per,.bool y.m.du.hm,.int .i64 y.m.du.most,.bool y.m.du.hl,.int .i64 y.m.du.least]] wx fun e w'=>e=.returned (.int .i64 (rankV y.m))∧RowKit.Below wx.heap.size wx w'):=fun y wx h1 h2 h3=>rrank_any y wx h1 (by have:=h3.2.2;omega) h2 ⟨h3.1,h3.2.1⟩
 obtain⟨l,hl⟩:∃ l,msL xs=l:=⟨_,rfl⟩
 have HG:Hid (∀ i:Nat,l[i]! = xs[i]!.m):=fun i=>by rw [← hl,msL_get]
 rw [hl] at hxl ⊢
 have HOF:Hid (ofKind l kd x=if bestOf l kd x n<0 then none else some l[(bestOf l kd x n).toNat]!):=by
  show _=_
  unfold ofKind
  rw [hxl]
 clear h hl hv
 have HZ0:Hid (Bl (w.alloc (.cells #[.int .i64 0,.int .i64 0,.string ⟨#[]⟩,.slice none 0 0,.int .i64 0,.int .i64 0,.int .i64 0,.int .i64 0,.int .i64 0,.int .i64 0,.int .i64 0,.bool false,.int .i64 0,.bool false,.int .i64 0] 62)) w.heap.size 62 #[.int .i64 0,.int .i64 0,.string ⟨#[]⟩,.slice none 0 0,.int .i64 0,.int .i64 0,.int .i64 0,.int .i64 0,.int .i64 0,.int .i64 0,.int .i64 0,.bool false,.int .i64 0,.bool false,.int .i64 0]):=Bl.new _ _ _
 have HB0:Hid (RowKit.Below w.heap.size w (w.alloc (.cells #[.int .i64 0,.int .i64 0,.string ⟨#[]⟩,.slice none 0 0,.int .i64 0,.int .i64 0,.int .i64 0,.int .i64 0,.int .i64 0,.int .i64 0,.int .i64 0,.bool false,.int .i64 0,.bool false,.int .i64 0] 62))):=(Below.refl _ _).alloc (Nat.le_refl _) _
 have HX0:=Lib.hid (HX.out.below ((Below.refl _ _).alloc (Nat.le_refl _) (.cells #[.int .i64 0,.int .i64 0,.string ⟨#[]⟩,.slice none 0 0,.int .i64 0,.int .i64 0,.int .i64 0,.int .i64 0,.int .i64 0,.int .i64 0,.int .i64 0,.bool false,.int .i64 0,.bool false,.int .i64 0] 62)))
 obtain⟨xc,hxc⟩:∃ q,x.code=q:=⟨_,rfl⟩
 obtain⟨xo,hxo⟩:∃ q,x.org=q:=⟨_,rfl⟩
 obtain⟨xn,hxn⟩:∃ q,x.co=q:=⟨_,rfl⟩
 obtain⟨xd,hxd⟩:∃ q,x.day=q:=⟨_,rfl⟩
 rw [hxc,hxo,hxn,hxd] at HCV
 rw [hxc,hxo,hxn,hxd]
 clear hxc hxo hxn hxd
 go_enter Tryz.func42,Tryz.ntmps42
 go_wp2_with fail
 go_loopw [14,15] (fun s v wx=>∃ (i:Nat) (bv:Int),v=.int .i64 (i:Int)∧s=.int .i64 bv∧i≤n∧-1≤bv∧bv<(i:Int)∧Hid (bestOf l kd x i=bv)∧Hid (Bl wx w.heap.size 62 #[.int .i64 0,.int .i64 0,.string ⟨#[]⟩,.slice none 0 0,.int .i64 0,.int .i64 0,.int .i64 0,.int .i64 0,.int .i64 0,.int .i64 0,.int .i64 0,.bool false,.int .i64 0,.bool false,.int .i64 0])∧Hid (RowKit.Below w.heap.size w wx)) (fun _ v _=>n - (intOf v).toNat)
 case atStart=>exact⟨0,-1,rfl,rfl,Nat.zero_le _,by omega,by omega,rfl,HZ0.out,HB0.out⟩
 case round =>
  clear HZ0 HB0 HX0
  obtain⟨i,bv,rfl,rfl,hi,hbv0,hbv1,HBV,HZB,HB⟩:=hrel
  by_cases hlti:i<n
  case neg =>
   obtain rfl:i=n:=by omega
   have di:decide ((i:Int)<(i:Int))=false:=by simp
   have c0:wr.cell? ⟨w.heap.size,0,none⟩=some (.int .i64 0):=HZB.out.cell 0
   have c1:wr.cell? ⟨w.heap.size,1,none⟩=some (.int .i64 0):=HZB.out.cell 1
   have c2:wr.cell? ⟨w.heap.size,2,none⟩=some (.string ⟨#[]⟩):=HZB.out.cell 2
   have c3:wr.cell? ⟨w.heap.size,3,none⟩=some (.slice none 0 0):=HZB.out.cell 3
   have c4:wr.cell? ⟨w.heap.size,4,none⟩=some (.int .i64 0):=HZB.out.cell 4
   have c5:wr.cell? ⟨w.heap.size,5,none⟩=some (.int .i64 0):=HZB.out.cell 5
   have c6:wr.cell? ⟨w.heap.size,6,none⟩=some (.int .i64 0):=HZB.out.cell 6
   have c7:wr.cell? ⟨w.heap.size,7,none⟩=some (.int .i64 0):=HZB.out.cell 7
   have c8:wr.cell? ⟨w.heap.size,8,none⟩=some (.int .i64 0):=HZB.out.cell 8
   have c9:wr.cell? ⟨w.heap.size,9,none⟩=some (.int .i64 0):=HZB.out.cell 9
   have c10:wr.cell? ⟨w.heap.size,10,none⟩=some (.int .i64 0):=HZB.out.cell 10
   have c11:wr.cell? ⟨w.heap.size,11,none⟩=some (.bool false):=HZB.out.cell 11
   have c12:wr.cell? ⟨w.heap.size,12,none⟩=some (.int .i64 0):=HZB.out.cell 12
   have c13:wr.cell? ⟨w.heap.size,13,none⟩=some (.bool false):=HZB.out.cell 13
   have c14:wr.cell? ⟨w.heap.size,14,none⟩=some (.int .i64 0):=HZB.out.cell 14
   have f0:wr.frozen? ⟨w.heap.size,0,none⟩=false:=HZB.out.free 0
   have f1:wr.frozen? ⟨w.heap.size,1,none⟩=false:=HZB.out.free 1
   have f2:wr.frozen? ⟨w.heap.size,2,none⟩=false:=HZB.out.free 2
   have f3:wr.frozen? ⟨w.heap.size,3,none⟩=false:=HZB.out.free 3
   have f4:wr.frozen? ⟨w.heap.size,4,none⟩=false:=HZB.out.free 4
   have f5:wr.frozen? ⟨w.heap.size,5,none⟩=false:=HZB.out.free 5
   have f6:wr.frozen? ⟨w.heap.size,6,none⟩=false:=HZB.out.free 6
   have f7:wr.frozen? ⟨w.heap.size,7,none⟩=false:=HZB.out.free 7
   have f8:wr.frozen? ⟨w.heap.size,8,none⟩=false:=HZB.out.free 8
   have f9:wr.frozen? ⟨w.heap.size,9,none⟩=false:=HZB.out.free 9
   have f10:wr.frozen? ⟨w.heap.size,10,none⟩=false:=HZB.out.free 10
   have f11:wr.frozen? ⟨w.heap.size,11,none⟩=false:=HZB.out.free 11
   have f12:wr.frozen? ⟨w.heap.size,12,none⟩=false:=HZB.out.free 12
   have f13:wr.frozen? ⟨w.heap.size,13,none⟩=false:=HZB.out.free 13
   have f14:wr.frozen? ⟨w.heap.size,14,none⟩=false:=HZB.out.free 14
   by_cases hneg:bv<0
   case pos =>
    have dn:decide (bv<0)=true:=decide_eq_true hneg
    have E:Hid (ofKind l kd x=none):=by show _=_;rw [HOF.out,HBV.out,if_pos hneg]
    have HS:=Lib.hid (set15_bl HZB.out (.int .i64 0) (.int .i64 0) (.string ⟨#[]⟩) (.slice none 0 0) (.int .i64 0) (.int .i64 0) (.int .i64 0) (.int .i64 0) (.int .i64 0) (.int .i64 0) (.int .i64 0) (.bool false) (.int .i64 0) (.bool false) (.int .i64 0))
    have HS2:=Lib.hid (below_set15 HB.out (Nat.le_refl _) (.int .i64 0) (.int .i64 0) (.string ⟨#[]⟩) (.slice none 0 0) (.int .i64 0) (.int .i64 0) (.int .i64 0) (.int .i64 0) (.int .i64 0) (.int .i64 0) (.int .i64 0) (.bool false) (.int .i64 0) (.bool false) (.int .i64 0))
    clear HOF HCV HRK hneg
    go_wp2_with fail
    generalize (((((((((((((((wr.setCell ⟨w.heap.size,0,none⟩ (.int .i64 0)).setCell ⟨w.heap.size,1,none⟩ (.int .i64 0)).setCell ⟨w.heap.size,2,none⟩ (.string ⟨#[]⟩)).setCell ⟨w.heap.size,3,none⟩ (.slice none 0 0)).setCell ⟨w.heap.size,4,none⟩ (.int .i64 0)).setCell ⟨w.heap.size,5,none⟩ (.int .i64 0)).setCell ⟨w.heap.size,6,none⟩ (.int .i64 0)).setCell ⟨w.heap.size,7,none⟩ (.int .i64 0)).setCell ⟨w.heap.size,8,none⟩ (.int .i64 0)).setCell ⟨w.heap.size,9,none⟩ (.int .i64 0)).setCell ⟨w.heap.size,10,none⟩ (.int .i64 0)).setCell ⟨w.heap.size,11,none⟩ (.bool false)).setCell ⟨w.heap.size,12,none⟩ (.int .i64 0)).setCell ⟨w.heap.size,13,none⟩ (.bool false)).setCell ⟨w.heap.size,14,none⟩ (.int .i64 0))=W at *
    have k0:W.cell? ⟨w.heap.size,0,none⟩=some (.int .i64 0):=HS.out.cell 0
    have k1:W.cell? ⟨w.heap.size,1,none⟩=some (.int .i64 0):=HS.out.cell 1
    have k2:W.cell? ⟨w.heap.size,2,none⟩=some (.string ⟨#[]⟩):=HS.out.cell 2
    have k3:W.cell? ⟨w.heap.size,3,none⟩=some (.slice none 0 0):=HS.out.cell 3
    have k4:W.cell? ⟨w.heap.size,4,none⟩=some (.int .i64 0):=HS.out.cell 4
    have k5:W.cell? ⟨w.heap.size,5,none⟩=some (.int .i64 0):=HS.out.cell 5
    have k6:W.cell? ⟨w.heap.size,6,none⟩=some (.int .i64 0):=HS.out.cell 6
    have k7:W.cell? ⟨w.heap.size,7,none⟩=some (.int .i64 0):=HS.out.cell 7
    have k8:W.cell? ⟨w.heap.size,8,none⟩=some (.int .i64 0):=HS.out.cell 8
    have k9:W.cell? ⟨w.heap.size,9,none⟩=some (.int .i64 0):=HS.out.cell 9
    have k10:W.cell? ⟨w.heap.size,10,none⟩=some (.int .i64 0):=HS.out.cell 10
    have k11:W.cell? ⟨w.heap.size,11,none⟩=some (.bool false):=HS.out.cell 11
    have k12:W.cell? ⟨w.heap.size,12,none⟩=some (.int .i64 0):=HS.out.cell 12
    have k13:W.cell? ⟨w.heap.size,13,none⟩=some (.bool false):=HS.out.cell 13
    have k14:W.cell? ⟨w.heap.size,14,none⟩=some (.int .i64 0):=HS.out.cell 14
    refine bodyPost_ret (v:=.tuple #[.agg #[.int .i64 0,.int .i64 0,.string ⟨#[]⟩,.slice none 0 0,.int .i64 0,.int .i64 0,.int .i64 0,.int .i64 0,.int .i64 0,.int .i64 0,.int .i64 0,.bool false,.int .i64 0,.bool false,.int .i64 0],.bool false]) (by simp [results,Tryz.results42,go_sem,k0,k1,k2,k3,k4,k5,k6,k7,k8,k9,k10,k11,k12,k13,k14]) rfl ?_
    exact⟨⟨⟨0,0,⟨#[]⟩,[],0,0,0,0,⟨0,0,0,false,0,false,0⟩⟩,none,0,0⟩,false,rfl,HS2.out,E.out⟩
   case neg =>
   have dn:decide (bv<0)=false:=decide_eq_false hneg
   obtain⟨q,rfl⟩:∃ q:Nat,bv=(q:Int):=⟨bv.toNat,by omega⟩
   have hqi:q<i:=by omega
   obtain⟨b1,o1,y,rfl,hb1,hc,hsr,_,HY⟩:=HX.out.get hqi
   have E:Hid (ofKind l kd x=some y.m):=by show _=_;rw [HOF.out,HBV.out,if_neg hneg,Int.toNat_natCast,HG.out,HY.out]
   obtain⟨h0,h1,h2,h3,h4,h5,h6,h7,h8,h9,h10,h11,h12,h13,h14⟩:=hc
   have y0:wr.cell? ⟨b1,o1+q*15,none⟩=some (.int .i64 y.m.id):=(HB.out.cell (p:=⟨b1,o1+q*15,none⟩) hb1).trans h0
   have y1:wr.cell? ⟨b1,o1+q*15+1,none⟩=some (.int .i64 y.m.kind):=(HB.out.cell (p:=⟨b1,o1+q*15+1,none⟩) hb1).trans h1
   have y2:wr.cell? ⟨b1,o1+q*15+2,none⟩=some (.string y.m.pre):=(HB.out.cell (p:=⟨b1,o1+q*15+2,none⟩) hb1).trans h2
   have y3:wr.cell? ⟨b1,o1+q*15+3,none⟩=some (.slice y.A y.n y.c):=(HB.out.cell (p:=⟨b1,o1+q*15+3,none⟩) hb1).trans h3
   have y4:wr.cell? ⟨b1,o1+q*15+4,none⟩=some (.int .i64 y.m.co):=(HB.out.cell (p:=⟨b1,o1+q*15+4,none⟩) hb1).trans h4
   have y5:wr.cell? ⟨b1,o1+q*15+5,none⟩=some (.int .i64 y.m.fr):=(HB.out.cell (p:=⟨b1,o1+q*15+5,none⟩) hb1).trans h5
   have y6:wr.cell? ⟨b1,o1+q*15+6,none⟩=some (.int .i64 y.m.til):=(HB.out.cell (p:=⟨b1,o1+q*15+6,none⟩) hb1).trans h6
   have y7:wr.cell? ⟨b1,o1+q*15+7,none⟩=some (.int .i64 y.m.reg):=(HB.out.cell (p:=⟨b1,o1+q*15+7,none⟩) hb1).trans h7
   have y8:wr.cell? ⟨b1,o1+q*15+8,none⟩=some (.int .i64 y.m.du.rate):=(HB.out.cell (p:=⟨b1,o1+q*15+8,none⟩) hb1).trans h8
   have y9:wr.cell? ⟨b1,o1+q*15+9,none⟩=some (.int .i64 y.m.du.am):=(HB.out.cell (p:=⟨b1,o1+q*15+9,none⟩) hb1).trans h9
   have y10:wr.cell? ⟨b1,o1+q*15+10,none⟩=some (.int .i64 y.m.du.per):=(HB.out.cell (p:=⟨b1,o1+q*15+10,none⟩) hb1).trans h10
   have y11:wr.cell? ⟨b1,o1+q*15+11,none⟩=some (.bool y.m.du.hm):=(HB.out.cell (p:=⟨b1,o1+q*15+11,none⟩) hb1).trans h11
   have y12:wr.cell? ⟨b1,o1+q*15+12,none⟩=some (.int .i64 y.m.du.most):=(HB.out.cell (p:=⟨b1,o1+q*15+12,none⟩) hb1).trans h12
   have y13:wr.cell? ⟨b1,o1+q*15+13,none⟩=some (.bool y.m.du.hl):=(HB.out.cell (p:=⟨b1,o1+q*15+13,none⟩) hb1).trans h13
   have y14:wr.cell? ⟨b1,o1+q*15+14,none⟩=some (.int .i64 y.m.du.least):=(HB.out.cell (p:=⟨b1,o1+q*15+14,none⟩) hb1).trans h14
   have hqq:(q:Int)<(i:Int):=by omega
   have hqz:(0:Int)≤(q:Int):=by omega
   have HS:=Lib.hid (set15_bl HZB.out (.int .i64 y.m.id) (.int .i64 y.m.kind) (.string y.m.pre) (.slice y.A y.n y.c) (.int .i64 y.m.co) (.int .i64 y.m.fr) (.int .i64 y.m.til) (.int .i64 y.m.reg) (.int .i64 y.m.du.rate) (.int .i64 y.m.du.am) (.int .i64 y.m.du.per) (.bool y.m.du.hm) (.int .i64 y.m.du.most) (.bool y.m.du.hl) (.int .i64 y.m.du.least))
   have HS2:=Lib.hid (below_set15 HB.out (Nat.le_refl _) (.int .i64 y.m.id) (.int .i64 y.m.kind) (.string y.m.pre) (.slice y.A y.n y.c) (.int .i64 y.m.co) (.int .i64 y.m.fr) (.int .i64 y.m.til) (.int .i64 y.m.reg) (.int .i64 y.m.du.rate) (.int .i64 y.m.du.am) (.int .i64 y.m.du.per) (.bool y.m.du.hm) (.int .i64 y.m.du.most) (.bool y.m.du.hl) (.int .i64 y.m.du.least))
   clear HOF HCV HRK hneg h0 h1 h2 h3 h4 h5 h6 h7 h8 h9 h10 h11 h12 h13 h14 hsr
   go_wp2_with fail
   generalize (((((((((((((((wr.setCell ⟨w.heap.size,0,none⟩ (.int .i64 y.m.id)).setCell ⟨w.heap.size,1,none⟩ (.int .i64 y.m.kind)).setCell ⟨w.heap.size,2,none⟩ (.string y.m.pre)).setCell ⟨w.heap.size,3,none⟩ (.slice y.A y.n y.c)).setCell ⟨w.heap.size,4,none⟩ (.int .i64 y.m.co)).setCell ⟨w.heap.size,5,none⟩ (.int .i64 y.m.fr)).setCell ⟨w.heap.size,6,none⟩ (.int .i64 y.m.til)).setCell ⟨w.heap.size,7,none⟩ (.int .i64 y.m.reg)).setCell ⟨w.heap.size,8,none⟩ (.int .i64 y.m.du.rate)).setCell ⟨w.heap.size,9,none⟩ (.int .i64 y.m.du.am)).setCell ⟨w.heap.size,10,none⟩ (.int .i64 y.m.du.per)).setCell ⟨w.heap.size,11,none⟩ (.bool y.m.du.hm)).setCell ⟨w.heap.size,12,none⟩ (.int .i64 y.m.du.most)).setCell ⟨w.heap.size,13,none⟩ (.bool y.m.du.hl)).setCell ⟨w.heap.size,14,none⟩ (.int .i64 y.m.du.least))=W at *
   have k0:W.cell? ⟨w.heap.size,0,none⟩=some (.int .i64 y.m.id):=HS.out.cell 0
   have k1:W.cell? ⟨w.heap.size,1,none⟩=some (.int .i64 y.m.kind):=HS.out.cell 1
   have k2:W.cell? ⟨w.heap.size,2,none⟩=some (.string y.m.pre):=HS.out.cell 2
   have k3:W.cell? ⟨w.heap.size,3,none⟩=some (.slice y.A y.n y.c):=HS.out.cell 3
   have k4:W.cell? ⟨w.heap.size,4,none⟩=some (.int .i64 y.m.co):=HS.out.cell 4
   have k5:W.cell? ⟨w.heap.size,5,none⟩=some (.int .i64 y.m.fr):=HS.out.cell 5
   have k6:W.cell? ⟨w.heap.size,6,none⟩=some (.int .i64 y.m.til):=HS.out.cell 6
   have k7:W.cell? ⟨w.heap.size,7,none⟩=some (.int .i64 y.m.reg):=HS.out.cell 7
   have k8:W.cell? ⟨w.heap.size,8,none⟩=some (.int .i64 y.m.du.rate):=HS.out.cell 8
   have k9:W.cell? ⟨w.heap.size,9,none⟩=some (.int .i64 y.m.du.am):=HS.out.cell 9
   have k10:W.cell? ⟨w.heap.size,10,none⟩=some (.int .i64 y.m.du.per):=HS.out.cell 10
   have k11:W.cell? ⟨w.heap.size,11,none⟩=some (.bool y.m.du.hm):=HS.out.cell 11
   have k12:W.cell? ⟨w.heap.size,12,none⟩=some (.int .i64 y.m.du.most):=HS.out.cell 12
   have k13:W.cell? ⟨w.heap.size,13,none⟩=some (.bool y.m.du.hl):=HS.out.cell 13
   have k14:W.cell? ⟨w.heap.size,14,none⟩=some (.int .i64 y.m.du.least):=HS.out.cell 14
   refine bodyPost_ret (v:=.tuple #[.agg #[.int .i64 y.m.id,.int .i64 y.m.kind,.string y.m.pre,.slice y.A y.n y.c,.int .i64 y.m.co,.int .i64 y.m.fr,.int .i64 y.m.til,.int .i64 y.m.reg,.int .i64 y.m.du.rate,.int .i64 y.m.du.am,.int .i64 y.m.du.per,.bool y.m.du.hm,.int .i64 y.m.du.most,.bool y.m.du.hl,.int .i64 y.m.du.least],.bool true]) (by simp [results,Tryz.results42,go_sem,k0,k1,k2,k3,k4,k5,k6,k7,k8,k9,k10,k11,k12,k13,k14]) rfl ?_
   exact⟨y,true,rfl,HS2.out,E.out⟩
  case pos =>
  have di:decide ((i:Int)<(n:Int))=true:=by simp;omega
  obtain⟨b1,o1,y,hA,hb1,hc,hsr,hps,HY⟩:=HX.out.get hlti
  have HSY:=Lib.hid (hsr.below HB.out)
  have HYN:Hid (y.m.orgs.length=y.n):=hsr.len
  have HYR:=Lib.hid (HV1.out i hlti y HY.out)
  have HLY:Hid (l[i]! = y.m):=by show _=_;rw [HG.out,HY.out]
  obtain⟨h0,h1,h2,h3,h4,h5,h6,h7,h8,h9,h10,h11,h12,h13,h14⟩:=hc
  subst hA
  have y0:wr.cell? ⟨b1,o1+i*15,none⟩=some (.int .i64 y.m.id):=(HB.out.cell (p:=⟨b1,o1+i*15,none⟩) hb1).trans h0
  have y1:wr.cell? ⟨b1,o1+i*15+1,none⟩=some (.int .i64 y.m.kind):=(HB.out.cell (p:=⟨b1,o1+i*15+1,none⟩) hb1).trans h1
  have y2:wr.cell? ⟨b1,o1+i*15+2,none⟩=some (.string y.m.pre):=(HB.out.cell (p:=⟨b1,o1+i*15+2,none⟩) hb1).trans h2
  have y3:wr.cell? ⟨b1,o1+i*15+3,none⟩=some (.slice y.A y.n y.c):=(HB.out.cell (p:=⟨b1,o1+i*15+3,none⟩) hb1).trans h3
  have y4:wr.cell? ⟨b1,o1+i*15+4,none⟩=some (.int .i64 y.m.co):=(HB.out.cell (p:=⟨b1,o1+i*15+4,none⟩) hb1).trans h4
  have y5:wr.cell? ⟨b1,o1+i*15+5,none⟩=some (.int .i64 y.m.fr):=(HB.out.cell (p:=⟨b1,o1+i*15+5,none⟩) hb1).trans h5
  have y6:wr.cell? ⟨b1,o1+i*15+6,none⟩=some (.int .i64 y.m.til):=(HB.out.cell (p:=⟨b1,o1+i*15+6,none⟩) hb1).trans h6
  have y7:wr.cell? ⟨b1,o1+i*15+7,none⟩=some (.int .i64 y.m.reg):=(HB.out.cell (p:=⟨b1,o1+i*15+7,none⟩) hb1).trans h7
  have y8:wr.cell? ⟨b1,o1+i*15+8,none⟩=some (.int .i64 y.m.du.rate):=(HB.out.cell (p:=⟨b1,o1+i*15+8,none⟩) hb1).trans h8
  have y9:wr.cell? ⟨b1,o1+i*15+9,none⟩=some (.int .i64 y.m.du.am):=(HB.out.cell (p:=⟨b1,o1+i*15+9,none⟩) hb1).trans h9
  have y10:wr.cell? ⟨b1,o1+i*15+10,none⟩=some (.int .i64 y.m.du.per):=(HB.out.cell (p:=⟨b1,o1+i*15+10,none⟩) hb1).trans h10
  have y11:wr.cell? ⟨b1,o1+i*15+11,none⟩=some (.bool y.m.du.hm):=(HB.out.cell (p:=⟨b1,o1+i*15+11,none⟩) hb1).trans h11
  have y12:wr.cell? ⟨b1,o1+i*15+12,none⟩=some (.int .i64 y.m.du.most):=(HB.out.cell (p:=⟨b1,o1+i*15+12,none⟩) hb1).trans h12
  have y13:wr.cell? ⟨b1,o1+i*15+13,none⟩=some (.bool y.m.du.hl):=(HB.out.cell (p:=⟨b1,o1+i*15+13,none⟩) hb1).trans h13
  have y14:wr.cell? ⟨b1,o1+i*15+14,none⟩=some (.int .i64 y.m.du.least):=(HB.out.cell (p:=⟨b1,o1+i*15+14,none⟩) hb1).trans h14
  have hii:(i:Int)<(n:Int):=by omega
  have hiz:(0:Int)≤(i:Int):=by omega
  have ui:IntKind.i64.wrap ((i:Int)+1)=((i+1:Nat):Int):=IntWalk.i64_in _ (by omega)
  have lt1:b1<wr.heap.size:=Nat.lt_of_lt_of_le hb1 HB.out.size
  have HPS:=Lib.hid hps
  clear h0 h1 h2 h3 h4 h5 h6 h7 h8 h9 h10 h11 h12 h13 h14 hsr hps
  go_upto_region 5 with (fail)
  have HCV1:Hid (∀ wx,RowKit.Below wr.heap.size wr wx→Calls Tryz.prog 80 #[.agg #[.int .i64 y.m.id,.int .i64 y.m.kind,.string y.m.pre,.slice y.A y.n y.c,.int .i64 y.m.co,.int .i64 y.m.fr,.int .i64 y.m.til,.int .i64 y.m.reg,.int .i64 y.m.du.rate,.int .i64 y.m.du.am,.int .i64 y.m.du.per,.bool y.m.du.hm,.int .i64 y.m.du.most,.bool y.m.du.hl,.int .i64 y.m.du.least],.string xc,.string xo,.int .i64 xn,.int .i64 xd] wx fun e w'=>e=.returned (.bool (coversB y.m x))∧RowKit.Below wx.heap.size wx w'):=fun wx hb=>HCV.out y wx (HSY.out.below hb) HYR.out.2 HPS.out
  by_cases hkk:y.m.kind=kd
  case neg =>
   have d1:(y.m.kind == kd)=false:=by simpa using hkk
   have HKE:Hid (bestOf l kd x (i+1)=bv):=by
    show _=_
    rw [bestOf_keep (by rw [HLY.out];exact fun h=>hkk h.1)]
    exact HBV.out
   clear hkk
   refine wp_region_noPanic (rof5A lt1 hii hiz d1 y0 y1 y2 y3 y4 y5 y6 y7 y8 y9 y10 y11 y12 y13 y14 (fun u22 u23 u24 u25 u26 u27 u28 u29 u30 u31 u32 u33 u34 u35 u36 u37 u38 u39 u40 u41 u42 u43 u44 u45 u46 u47 u48 u49 u50 u51 u52 u53 u54 u55 w5 hb5=>NoPanic.normal ?_) (fun _ _ _ _ _ h=>h))
   focus
     have HZ5:=Lib.hid (HZB.out.keep hb5)
     have HB5:=Lib.hid (HB.out.trans (hb5.mono HB.out.size))
     go_wp2_with fail
     go_roundw
     case rel=>exact⟨i+1,_,by go_num,rfl,by omega,by omega,by omega,HKE.out,HZ5.out,HB5.out⟩
     case measure=>simp [intOf];omega
  case pos =>
  have d1:(y.m.kind == kd)=true:=by simpa using hkk
  cases hcv:coversB y.m x
  case false =>
   have HKE:Hid (bestOf l kd x (i+1)=bv):=by
    show _=_
    rw [bestOf_keep (by rw [HLY.out,hcv];exact fun h=>by simp at h)]
    exact HBV.out
   rw [hcv] at HCV1
   clear hkk
   refine wp_region_noPanic (rof5B lt1 hii hiz d1 HCV1 y0 y1 y2 y3 y4 y5 y6 y7 y8 y9 y10 y11 y12 y13 y14 (fun u22 u23 u24 u25 u26 u27 u28 u29 u30 u31 u32 u33 u34 u35 u36 u37 u38 u39 u40 u41 u42 u43 u44 u45 u46 u47 u48 u49 u50 u51 u52 u53 u54 u55 w5 hb5=>NoPanic.normal ?_) (fun _ _ _ _ _ h=>h))
   focus
     have HZ5:=Lib.hid (HZB.out.keep hb5)
     have HB5:=Lib.hid (HB.out.trans (hb5.mono HB.out.size))
     go_wp2_with fail
     go_roundw
     case rel=>exact⟨i+1,_,by go_num,rfl,by omega,by omega,by omega,HKE.out,HZ5.out,HB5.out⟩
     case measure=>simp [intOf];omega
  case true =>
  rw [hcv] at HCV1
  by_cases hneg:bv<0
  case pos =>
   have d2:decide (bv<0)=true:=decide_eq_true hneg
   have HKE:Hid (bestOf l kd x (i+1)=(i:Int)):=by
    show _=_
    rw [bestOf_take (by rw [HLY.out,HBV.out];exact⟨hkk,hcv,.inl hneg⟩)]
   clear hkk hcv
   refine wp_region_noPanic (rof5C lt1 hii hiz d1 HCV1 d2 y0 y1 y2 y3 y4 y5 y6 y7 y8 y9 y10 y11 y12 y13 y14 (fun u22 u23 u24 u25 u26 u27 u28 u29 u30 u31 u32 u33 u34 u35 u36 u37 u38 u39 u40 u41 u42 u43 u44 u45 u46 u47 u48 u49 u50 u51 u52 u53 u54 u55 w5 hb5=>NoPanic.normal ?_) (fun _ _ _ _ _ h=>h))
   focus
     have HZ5:=Lib.hid (HZB.out.keep hb5)
     have HB5:=Lib.hid (HB.out.trans (hb5.mono HB.out.size))
     go_wp2_with fail
     go_roundw
     case rel=>exact⟨i+1,_,by go_num,rfl,by omega,by omega,by omega,HKE.out,HZ5.out,HB5.out⟩
     case measure=>simp [intOf];omega
  case neg =>
  have d2:decide (bv<0)=false:=decide_eq_false hneg
  obtain⟨q,rfl⟩:∃ q:Nat,bv=(q:Int):=⟨bv.toNat,by omega⟩
  have hqi:q<n:=by omega
  obtain⟨b2,o2,z,hA,hb2,hc2,hsr2,hps2,HZ⟩:=HX.out.get hqi
  injection hA with hA
  injection hA with hA hB
  subst hA hB
  have HZN:Hid (z.m.orgs.length=z.n):=hsr2.len
  have HZR:=Lib.hid (HV1.out q hqi z HZ.out)
  have HLZ:Hid (l[((q:Int)).toNat]! = z.m):=by show _=_;rw [Int.toNat_natCast,HG.out,HZ.out]
  have hqq:(q:Int)<(n:Int):=by omega
  have hqz:(0:Int)≤(q:Int):=by omega
  obtain⟨h0,h1,h2,h3,h4,h5,h6,h7,h8,h9,h10,h11,h12,h13,h14⟩:=hc2
  have z0:wr.cell? ⟨b1,o1+q*15,none⟩=some (.int .i64 z.m.id):=(HB.out.cell (p:=⟨b1,o1+q*15,none⟩) hb1).trans h0
  have z1:wr.cell? ⟨b1,o1+q*15+1,none⟩=some (.int .i64 z.m.kind):=(HB.out.cell (p:=⟨b1,o1+q*15+1,none⟩) hb1).trans h1
  have z2:wr.cell? ⟨b1,o1+q*15+2,none⟩=some (.string z.m.pre):=(HB.out.cell (p:=⟨b1,o1+q*15+2,none⟩) hb1).trans h2
  have z3:wr.cell? ⟨b1,o1+q*15+3,none⟩=some (.slice z.A z.n z.c):=(HB.out.cell (p:=⟨b1,o1+q*15+3,none⟩) hb1).trans h3
  have z4:wr.cell? ⟨b1,o1+q*15+4,none⟩=some (.int .i64 z.m.co):=(HB.out.cell (p:=⟨b1,o1+q*15+4,none⟩) hb1).trans h4
  have z5:wr.cell? ⟨b1,o1+q*15+5,none⟩=some (.int .i64 z.m.fr):=(HB.out.cell (p:=⟨b1,o1+q*15+5,none⟩) hb1).trans h5
  have z6:wr.cell? ⟨b1,o1+q*15+6,none⟩=some (.int .i64 z.m.til):=(HB.out.cell (p:=⟨b1,o1+q*15+6,none⟩) hb1).trans h6
  have z7:wr.cell? ⟨b1,o1+q*15+7,none⟩=some (.int .i64 z.m.reg):=(HB.out.cell (p:=⟨b1,o1+q*15+7,none⟩) hb1).trans h7
  have z8:wr.cell? ⟨b1,o1+q*15+8,none⟩=some (.int .i64 z.m.du.rate):=(HB.out.cell (p:=⟨b1,o1+q*15+8,none⟩) hb1).trans h8
  have z9:wr.cell? ⟨b1,o1+q*15+9,none⟩=some (.int .i64 z.m.du.am):=(HB.out.cell (p:=⟨b1,o1+q*15+9,none⟩) hb1).trans h9
  have z10:wr.cell? ⟨b1,o1+q*15+10,none⟩=some (.int .i64 z.m.du.per):=(HB.out.cell (p:=⟨b1,o1+q*15+10,none⟩) hb1).trans h10
  have z11:wr.cell? ⟨b1,o1+q*15+11,none⟩=some (.bool z.m.du.hm):=(HB.out.cell (p:=⟨b1,o1+q*15+11,none⟩) hb1).trans h11
  have z12:wr.cell? ⟨b1,o1+q*15+12,none⟩=some (.int .i64 z.m.du.most):=(HB.out.cell (p:=⟨b1,o1+q*15+12,none⟩) hb1).trans h12
  have z13:wr.cell? ⟨b1,o1+q*15+13,none⟩=some (.bool z.m.du.hl):=(HB.out.cell (p:=⟨b1,o1+q*15+13,none⟩) hb1).trans h13
  have z14:wr.cell? ⟨b1,o1+q*15+14,none⟩=some (.int .i64 z.m.du.least):=(HB.out.cell (p:=⟨b1,o1+q*15+14,none⟩) hb1).trans h14
  have HPZ:=Lib.hid hps2
  obtain⟨ry,hry⟩:∃ q,rankV y.m=q:=⟨_,rfl⟩
  obtain⟨rz,hrz⟩:∃ q,rankV z.m=q:=⟨_,rfl⟩
  have HRK1:Hid (∀ wx,Calls Tryz.prog 81 #[.agg #[.int .i64 y.m.id,.int .i64 y.m.kind,.string y.m.pre,.slice y.A y.n y.c,.int .i64 y.m.co,.int .i64 y.m.fr,.int .i64 y.m.til,.int .i64 y.m.reg,.int .i64 y.m.du.rate,.int .i64 y.m.du.am,.int .i64 y.m.du.per,.bool y.m.du.hm,.int .i64 y.m.du.most,.bool y.m.du.hl,.int .i64 y.m.du.least]] wx fun e w'=>e=.returned (.int .i64 ry)∧RowKit.Below wx.heap.size wx w'):=fun wx=>by rw [← hry];exact HRK.out y wx HYN.out HPS.out HYR.out.1
  have HRK2:Hid (∀ wx,Calls Tryz.prog 81 #[.agg #[.int .i64 z.m.id,.int .i64 z.m.kind,.string z.m.pre,.slice z.A z.n z.c,.int .i64 z.m.co,.int .i64 z.m.fr,.int .i64 z.m.til,.int .i64 z.m.reg,.int .i64 z.m.du.rate,.int .i64 z.m.du.am,.int .i64 z.m.du.per,.bool z.m.du.hm,.int .i64 z.m.du.most,.bool z.m.du.hl,.int .i64 z.m.du.least]] wx fun e w'=>e=.returned (.int .i64 rz)∧RowKit.Below wx.heap.size wx w'):=fun wx=>by rw [← hrz];exact HRK.out z wx HZN.out HPZ.out HZR.out.1
  have HPR:Hid (precB y.m z.m=decide (rz<ry)):=by show _=_;rw [prec_rank HYR.out.1 HZR.out.1,hry,hrz]
  clear h0 h1 h2 h3 h4 h5 h6 h7 h8 h9 h10 h11 h12 h13 h14 hsr2 hps2 hry hrz
  cases d3:decide (rz<ry)
  case false =>
   have HKE:Hid (bestOf l kd x (i+1)=(q:Int)):=by
    show _=_
    rw [bestOf_keep (by rw [HLY.out,HBV.out,HLZ.out,HPR.out,d3];exact fun h=>by rcases h.2.2 with h | h;exact hneg h;cases h)]
    exact HBV.out
   clear hkk hcv
   refine wp_region_noPanic (rof5D lt1 hii hiz d1 HCV1 HRK1 HRK2 hqq hqz d2 d3 y0 y1 y2 y3 y4 y5 y6 y7 y8 y9 y10 y11 y12 y13 y14 z0 z1 z2 z3 z4 z5 z6 z7 z8 z9 z10 z11 z12 z13 z14 (fun u22 u23 u24 u25 u26 u27 u28 u29 u30 u31 u32 u33 u34 u35 u36 u37 u38 u39 u40 u41 u42 u43 u44 u45 u46 u47 u48 u49 u50 u51 u52 u53 u54 u55 w5 hb5=>NoPanic.normal ?_) (fun _ _ _ _ _ h=>h))
   focus
     have HZ5:=Lib.hid (HZB.out.keep hb5)
     have HB5:=Lib.hid (HB.out.trans (hb5.mono HB.out.size))
     go_wp2_with fail
     go_roundw
     case rel=>exact⟨i+1,_,by go_num,rfl,by omega,by omega,by omega,HKE.out,HZ5.out,HB5.out⟩
     case measure=>simp [intOf];omega
  case true =>
   have HKE:Hid (bestOf l kd x (i+1)=(i:Int)):=by
    show _=_
    rw [bestOf_take (by rw [HLY.out,HBV.out,HLZ.out,HPR.out,d3];exact⟨hkk,hcv,.inr rfl⟩)]
   clear hkk hcv
   refine wp_region_noPanic (rof5D lt1 hii hiz d1 HCV1 HRK1 HRK2 hqq hqz d2 d3 y0 y1 y2 y3 y4 y5 y6 y7 y8 y9 y10 y11 y12 y13 y14 z0 z1 z2 z3 z4 z5 z6 z7 z8 z9 z10 z11 z12 z13 z14 (fun u22 u23 u24 u25 u26 u27 u28 u29 u30 u31 u32 u33 u34 u35 u36 u37 u38 u39 u40 u41 u42 u43 u44 u45 u46 u47 u48 u49 u50 u51 u52 u53 u54 u55 w5 hb5=>NoPanic.normal ?_) (fun _ _ _ _ _ h=>h))
   focus
     have HZ5:=Lib.hid (HZB.out.keep hb5)
     have HB5:=Lib.hid (HB.out.trans (hb5.mono HB.out.size))
     go_wp2_with fail
     go_roundw
     case rel=>exact⟨i+1,_,by go_num,rfl,by omega,by omega,by omega,HKE.out,HZ5.out,HB5.out⟩
     case measure=>simp [intOf];omega
set_option maxRecDepth 100000 in
set_option maxHeartbeats 4000000 in
theorem less_core (ah al bh bl:Int) (w:World) :
  Calls Tryz.prog 86 #[.agg #[.int .u64 ah,.int .u64 al],.agg #[.int .u64 bh,.int .u64 bl]] w (BRes w (decide (ah<bh∨ah=bh∧al<bl))):=by
 have HT:Hid ((ah<bh∨ah=bh∧al<bl)→decide (ah<bh∨ah=bh∧al<bl)=true):=fun h=>decide_eq_true h
 have HF:Hid (¬ (ah<bh∨ah=bh∧al<bl)→decide (ah<bh∨ah=bh∧al<bl)=false):=fun h=>decide_eq_false h
 generalize decide (ah<bh∨ah=bh∧al<bl)=res at *
 have FIN:Hid (∀ (o1 o2:Obj),RowKit.Below w.heap.size w ((w.alloc o1).alloc o2)):=fun o1 o2=>((Below.refl _ _).alloc (Nat.le_refl _) _).alloc (by simp) _
 by_cases c1:ah<bh
 ·have d1:decide (ah<bh)=true:=by simpa using c1
  have E:=Lib.hid (HT.out (by omega))
  clear HT HF
  go_enter Tryz.func86,Tryz.ntmps86
  go_wp2
  go_ret
  exact⟨ret_bool E.out.symm,FIN.out _ _⟩
 ·have d1:decide (ah<bh)=false:=by simpa using c1
  by_cases c2:ah=bh
  ·have d2:(ah == bh)=true:=by simpa using c2
   by_cases c3:al<bl
   ·have d3:decide (al<bl)=true:=by simpa using c3
    have E:=Lib.hid (HT.out (by omega))
    clear c2 HT HF
    go_enter Tryz.func86,Tryz.ntmps86
    go_wp2
    go_ret
    exact⟨ret_bool E.out.symm,FIN.out _ _⟩
   ·have d3:decide (al<bl)=false:=by simpa using c3
    have E:=Lib.hid (HF.out (by omega))
    clear c2 HT HF
    go_enter Tryz.func86,Tryz.ntmps86
    go_wp2
    go_ret
    exact⟨ret_bool E.out.symm,FIN.out _ _⟩
  ·have d2:(ah == bh)=false:=by simpa using c2
   have E:=Lib.hid (HF.out (by omega))
   clear HT HF
   go_enter Tryz.func86,Tryz.ntmps86
   go_wp2
   go_ret
   exact⟨ret_bool E.out.symm,FIN.out _ _⟩
theorem less_w (P Q:Int) (w:World) :
  Calls Tryz.prog 86 #[.agg #[.int .u64 (hiW P),.int .u64 (loW P)],.agg #[.int .u64 (hiW Q),.int .u64 (loW Q)]] w (BRes w (decide (P<Q))):=by
 have:=less_core (hiW P) (loW P) (hiW Q) (loW Q) w
 rw [show decide (hiW P<hiW Q∨hiW P=hiW Q∧loW P<loW Q)=decide (P<Q) from decide_eq_decide.2 (by unfold hiW loW;omega)] at this
 exact this
set_option maxRecDepth 100000 in
set_option maxHeartbeats 4000000 in
theorem scaled_any (r v pp:Int) (w:World) (hr0:0≤r) (hr1:r≤10000000) (hv0:0≤v) (hv1:v≤1000000000000) (hp0:1≤pp) (hp1:pp≤1000000) :
  Calls Tryz.prog 85 #[.int .i64 r,.int .i64 v,.int .i64 pp] w fun e w'=>e=.returned (.agg #[.int .u64 (hiW (r*v*pp)),.int .u64 (loW (r*v*pp))])∧RowKit.Below w.heap.size w w':=by
 obtain⟨x0,x1⟩:=mul_bound hr0 hr1 hv0 hv1
 obtain⟨x,hx⟩:∃ x,r*v=x:=⟨_,rfl⟩
 rw [hx] at x0 x1 ⊢
 have HM:=Lib.hid (fun w:World=>rmul_any x pp w x0 (by omega) (by omega) (by omega))
 have hal:∀ o,RowKit.Below w.heap.size w (w.alloc o):=fun o=>(Below.refl _ _).alloc (Nat.le_refl _) _
 unfold hiW loW
 generalize x*pp / 18446744073709551616=hi at *
 generalize x*pp % 18446744073709551616=lo at *
 have u1:IntKind.u64.wrap r=r:=IntWalk.u64_in _ (by omega)
 have u2:IntKind.u64.wrap v=v:=IntWalk.u64_in _ (by omega)
 have u3:IntKind.u64.wrap x=x:=IntWalk.u64_in _ (by omega)
 have u4:IntKind.u64.wrap pp=pp:=IntWalk.u64_in _ (by omega)
 have HB:=Lib.hid (hal (.cells #[.int .u64 0,.int .u64 0] 170))
 have HX:=Bl.new w 170 #[.int .u64 0,.int .u64 0]
 clear hal
 go_enter Tryz.func85,Tryz.ntmps85
 go_wp2_with fail
 refine (HM.out _).mono ?_
 rintro e w2 ⟨rfl,hb2⟩
 have HY:=HX.keep hb2
 have z0:w2.cell? ⟨w.heap.size,0,none⟩=some (.int .u64 0):=HY.cell 0
 have z1:w2.cell? ⟨w.heap.size,1,none⟩=some (.int .u64 0):=HY.cell 1
 have f0:w2.frozen? ⟨w.heap.size,0,none⟩=false:=HY.free 0
 have f1:w2.frozen? ⟨w.heap.size,1,none⟩=false:=HY.free 1
 have HB2:=Lib.hid (HB.out.trans (hb2.mono HB.out.size))
 clear hb2
 go_wp2
 have HZ:=set2_bl HY (.int .u64 hi) (.int .u64 lo)
 have HB3:=Lib.hid ((HB2.out.setCell (p:=⟨w.heap.size,0,none⟩) (Nat.le_refl _) (.int .u64 hi)).setCell (p:=⟨w.heap.size,1,none⟩) (Nat.le_refl _) (.int .u64 lo))
 generalize (w2.setCell ⟨w.heap.size,0,none⟩ (.int .u64 hi)).setCell ⟨w.heap.size,1,none⟩ (.int .u64 lo)=W at *
 have y0:W.cell? ⟨w.heap.size,0,none⟩=some (.int .u64 hi):=HZ.cell 0
 have y1:W.cell? ⟨w.heap.size,1,none⟩=some (.int .u64 lo):=HZ.cell 1
 refine bodyPost_ret (v:=.agg #[.int .u64 hi,.int .u64 lo]) (by simp [results,Tryz.results85,go_sem,y0,y1]) rfl ⟨rfl,HB3.out⟩
end Go.Proofs.YtbokkeooahodaaaGreatDoor

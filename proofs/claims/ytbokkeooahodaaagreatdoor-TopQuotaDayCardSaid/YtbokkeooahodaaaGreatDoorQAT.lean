/-
  A part of the proof of TopQuotaDayCardSaid: lemmas and contracts of functions that the law calls. No statement of the seat is proved here. Conditions: as each says.
-/
import Derived.Test.YtbokkeooahodaaaGreatDoorQAS
import Derived.Test.YtbokkeooahodaaaGreatDoorQAF
import Derived.Deep.RegionLaw
import Derived.Deep.DeepCutAuto
namespace Go.Proofs.YtbokkeooahodaaaGreatDoor
open Go.RowKit
set_option linter.unusedVariables false
theorem step_callf {P:Program} {w:World} {ops:Array Oper} {o:Oper} {a:Act} {K:Act→World→Prop} {Q:Exit→Act→World→Prop} {E:Prop} (hgd:o.guard=none) {f:FuncId} {x:Operand} {ts:Array TypeId} {u:Value}
  (ho:o.op=.call { callee:=.value (.func f),args:=#[x],argTypes:=ts }) (hf:hasBody P f=true) (hx:a.eval x=u) (hc:Calls P f #[u] w fun e w'=>∃ v,e=.returned v∧K (a.put o.dst v) w') :
  if Region.wanted o (yielded ops a.tmps)=true then Oper.wp P o a w K Q else E:=by
 have hw:Region.wanted o (yielded ops a.tmps)=true:=by simp [Region.wanted,hgd]
 rw [if_pos hw]
 exact op_call ho hf (by simp [hx]) hc
theorem Bl.cE3 {w:World} {g:Nat} {T:TypeId} {z0 z1 z2 z3 z4:Value} (h:Bl w g T #[z0,z1,z2,z3,z4]):w.cell? ⟨g,3,none⟩=some z3:=h.cell 3
theorem Bl.fE3 {w:World} {g:Nat} {T:TypeId} {z0 z1 z2 z3 z4:Value} (h:Bl w g T #[z0,z1,z2,z3,z4]):w.frozen? ⟨g,3,none⟩=false:=h.free 3
theorem TermN.set {N:Nat} {w:World} {A:Option Addr} {c:Nat} (h:TermN N w A c) {g:Nat} {cs:Array Value} (hg:Bl w g 95 cs) (i:Nat) (z:Value):TermN N (w.setCell ⟨g,i,none⟩ z) A c:=by
 obtain⟨D,d,h1,h2⟩:=h
 exact⟨D,d,own_set20 h1 (fun b hb e=>by subst e;exact own_apart h1 hg (by decide) hb.symm) i z,own_set20 h2 (fun b hb e=>by subst e;exact own_apart h2 hg (by decide) hb.symm) i z⟩
theorem set5c_bl {w:World} {g:Nat} {T:TypeId} {z0 z1 z2 z3 z4:Value} (h:Bl w g T #[z0,z1,z2,z3,z4]) (a b c d e:Value):Bl (((((w.setCell ⟨g,0,none⟩ a).setCell ⟨g,1,none⟩ b).setCell ⟨g,2,none⟩ c).setCell ⟨g,3,none⟩ d).setCell ⟨g,4,none⟩ e) g T #[a,b,c,d,e]:=by
 have:=((((h.put 0 a).put 1 b).put 2 c).put 3 d).put 4 e
 simpa using this
theorem TermN.set5 {N:Nat} {w:World} {A:Option Addr} {k:Nat} (h:TermN N w A k) {g:Nat} {cs:Array Value} (hg:Bl w g 95 cs) (a b c d e:Value):TermN N (((((w.setCell ⟨g,0,none⟩ a).setCell ⟨g,1,none⟩ b).setCell ⟨g,2,none⟩ c).setCell ⟨g,3,none⟩ d).setCell ⟨g,4,none⟩ e) A k :=
 ((((h.set hg 0 a).set (hg.put 0 a) 1 b).set ((hg.put 0 a).put 1 b) 2 c).set (((hg.put 0 a).put 1 b).put 2 c) 3 d).set ((((hg.put 0 a).put 1 b).put 2 c).put 3 d) 4 e
def CloRes (w:World) (e:Ending) (w':World):Prop:=∃ A c,e=.returned (.agg #[.string s9401,.int .i64 0,.int .i64 100,.slice A 1 c,.bool false])∧TermN w.heap.size w' A c∧RowKit.Below w.heap.size w w'
set_option maxRecDepth 100000 in
set_option maxHeartbeats 8000000 in
theorem cloneE20 (A:Option Addr) (c:Nat) (w:World) (h:TermR w A):Calls Tryz.prog 133 #[.agg #[.string s9401,.int .i64 0,.int .i64 100,.slice A 1 c,.bool false]] w (CloRes w):=by
 have HH:=Lib.hid h
 clear h
 obtain⟨N,hN⟩:∃ N,w.heap.size=N:=⟨_,rfl⟩
 have hs1:(w.alloc (.cells #[.string s9401,.int .i64 0,.int .i64 100,.slice A 1 c,.bool false] 95)).heap.size=N+1:=by simp [hN]
 have HB0:Hid (RowKit.Below N w ((w.alloc (.cells #[.string s9401,.int .i64 0,.int .i64 100,.slice A 1 c,.bool false] 95)).alloc (.cells #[.string ⟨#[]⟩,.int .i64 0,.int .i64 0,.slice none 0 0,.bool false] 95))):=by
  rw [← hN]
  exact ((Below.refl _ w).alloc (Nat.le_refl _) _).alloc (by simp) _
 have HX0:Hid (Bl ((w.alloc (.cells #[.string s9401,.int .i64 0,.int .i64 100,.slice A 1 c,.bool false] 95)).alloc (.cells #[.string ⟨#[]⟩,.int .i64 0,.int .i64 0,.slice none 0 0,.bool false] 95)) N 95 #[.string s9401,.int .i64 0,.int .i64 100,.slice A 1 c,.bool false]):=by
  rw [← hN]
  exact (Bl.new _ _ _).alloc _
 have HY0:Hid (Bl ((w.alloc (.cells #[.string s9401,.int .i64 0,.int .i64 100,.slice A 1 c,.bool false] 95)).alloc (.cells #[.string ⟨#[]⟩,.int .i64 0,.int .i64 0,.slice none 0 0,.bool false] 95)) (N+1) 95 #[.string ⟨#[]⟩,.int .i64 0,.int .i64 0,.slice none 0 0,.bool false]):=by
  rw [← hs1]
  exact Bl.new _ _ _
 go_enter Tryz.func133,Tryz.ntmps133
 go_upto_region 1 with (fail)
 generalize (w.alloc (.cells #[.string s9401,.int .i64 0,.int .i64 100,.slice A 1 c,.bool false] 95)).alloc (.cells #[.string ⟨#[]⟩,.int .i64 0,.int .i64 0,.slice none 0 0,.bool false] 95)=W0 at *
 try rw [hs1]
 try rw [hN]
 have q1:W0.cell? ⟨N,3,none⟩=some (.slice A 1 c):=HX0.out.cell 3
 have q2:W0.frozen? ⟨N,3,none⟩=false:=HX0.out.free 3
 go_upto_region 3 with (fail)
 clear q1 q2
 have HX1:=Lib.hid (setE_bl HX0.out (.slice none 0 0))
 have HY1:=Lib.hid (HY0.out.far (p:=⟨N,3,none⟩) (show N+1≠N by omega) (.slice none 0 0))
 have HB1:=Lib.hid (HB0.out.setCell (p:=⟨N,3,none⟩) (Nat.le_refl _) (.slice none 0 0))
 clear HX0 HY0 HB0
 skip
 generalize W0.setCell ⟨N,3,none⟩ (.slice none 0 0)=W1 at *
 obtain⟨tb,tf,P,p,hA,hlt,t0,hS⟩:=HH.out.below (by rw [hN];exact HB1.out)
 subst hA
 have HS:=Lib.hid hS
 clear hS hlt HH
 go_wp2_with fail
 refine wp_loop_rounds 2 ?_
 rw [rounds_succ]
 go_upto_region 6 with (fail)
 clear t0
 have HC:Hid (Calls Tryz.prog 52 #[.slice P 1 p] W1.drew fun e w'=>∃ D d,e=.returned (.slice D 1 d)∧w'.ownsRow W1.drew.heap.size 9 1 (.slice D 1 d) 1 [.string sChair]∧RowKit.Below W1.drew.heap.size W1.drew w'):=cloneS20 P 1 p [sChair] W1.drew HS.out (by decide) (by decide)
 have HKP:Hid (∀ (w2 w4:World) (D:Option Addr) (d:Nat),Bl (w2.alloc (.cells #[.slice D 1 d] 60)) N 95 #[.string s9401,.int .i64 0,.int .i64 100,.slice none 0 0,.bool false]→(w2.alloc (.cells #[.slice D 1 d] 60)).grownBy w4 (Value.slice none 0 0).ownBlock→Bl w4 N 95 #[.string s9401,.int .i64 0,.int .i64 100,.slice none 0 0,.bool false]):=fun w2 w4 D d h1 h2=>(h2.block N h1.lt (fun e=>by cases e)).trans h1
 have HNL:Hid (∀ (wx:World) (D:Option Addr) (d:Nat),wx.ownsRow N 60 1 (.slice none 0 0) 0 []):=fun wx D d=>⟨by simp,.inl ⟨rfl,rfl⟩⟩
 have HRL:Hid (∀ (wx:World) (D:Option Addr) (d:Nat),Rd (wx.alloc (.cells #[.slice D 1 d] 60)) 1 (some ⟨wx.heap.size,0,none⟩) 1 [.slice D 1 d]):=fun wx D d=>rd_bl (xs:=[.slice D 1 d]) (Bl.new _ _ _) rfl
 have HXd:Hid (Bl W1.drew N 95 #[.string s9401,.int .i64 0,.int .i64 100,.slice none 0 0,.bool false]):=HX1.out
 have HYd:Hid (Bl W1.drew (N+1) 95 #[.string ⟨#[]⟩,.int .i64 0,.int .i64 0,.slice none 0 0,.bool false]):=HY1.out
 have HBd:Hid (RowKit.Below N w W1.drew):=HB1.out.drew
 have HNd:Hid (N≤W1.drew.heap.size):=by rw [← hN];exact HBd.out.size
 have q0:W1.cell? ⟨N,3,none⟩=some (.slice none 0 0):=HX1.out.cell 3
 have q1:W1.drew.cell? ⟨N,3,none⟩=some (.slice none 0 0):=HX1.out.cell 3
 have HBO:Hid (hasBody Tryz.prog 52=true):=by show _=_;kernel_rfl
 have HAL:Hid (∀ (wx:World) (o:Obj),wx.heap.size≤(wx.alloc o).heap.size):=fun wx o=>by simp
 have HON:Hid (∀ D:Option Addr,∀ d:Nat,∀ u∈([.slice D 1 d]:List Value),u.oneCell'=true):=fun D d u hu=>by
  simp only [List.mem_cons,List.not_mem_nil,or_false] at hu
  subst hu;rfl
 have HM1:Hid (0+1≤maxLen∧(0+1)*24≤140737488355328):=⟨by unfold maxLen;omega,by omega⟩
 have HSS:Hid (∀ wx,RowKit.Below W1.heap.size W1 wx→wx.cell? ⟨N,3,none⟩=some (.slice none 0 0)):=fun wx hb=>(HX1.out.keep hb).cell 3
 have hk0:Hid (RowKit.Below W1.heap.size W1 W1.drew):=(Below.refl _ _).drew
 have hk00:Hid (RowKit.Below W1.heap.size W1 W1):=Below.refl _ _
 go_region_law (first | (refine step_callf rfl (f:=52) (x:=.tmp 17) (ts:=#[60]) (u:=.slice P 1 p) rfl HBO.out rfl (HC.out.mono ?_);rintro e w2 ⟨D,d,rfl,ho,hb⟩;refine⟨_,rfl,?_⟩;have HO2:=Lib.hid ho;have HX2:=Lib.hid (HXd.out.keep hb);have HY2:=Lib.hid (HYd.out.keep hb);have HB2:=Lib.hid (HBd.out.trans (hb.mono HNd.out));have HOA:=Lib.hid (HNL.out (w2.alloc (.cells #[.slice D 1 d] 60)) D d);have HRD:=Lib.hid (HRL.out w2 D d);have HBA:=Lib.hid (HB2.out.alloc (Nat.le_trans HNd.out hb.size) (.cells #[.slice D 1 d] 60));have HXA:=Lib.hid (HX2.out.alloc (.cells #[.slice D 1 d] 60));have HYA:=Lib.hid (HY2.out.alloc (.cells #[.slice D 1 d] 60));have HNA:=Lib.hid (own_alloc HO2.out (.cells #[.slice D 1 d] 60));have HNA2:=Lib.hid (Nat.le_trans HNd.out (Nat.le_trans hb.size (HAL.out w2 (.cells #[.slice D 1 d] 60))));have HW2:=Lib.hid hb.size;have q2:w2.cell? ⟨N,3,none⟩=some (.slice none 0 0):=HX2.out.cE3;have q3:(w2.alloc (.cells #[.slice D 1 d] 60)).cell? ⟨N,3,none⟩=some (.slice none 0 0):=HXA.out.cE3;clear ho hb) | (refine step_append_rd _ rfl (.tmp 16) (.tmp 19) 93 rfl N 60 _ 1 24 Tryz.underlying93 infoSl20 rfl (by decide) (.slice none 0 0) 0 [] rfl (by exact HOA.out) (some ⟨_,0,none⟩) 1 1 [.slice _ 1 _] rfl (by exact HRD.out) (by exact HON.out _ _) HM1.out.1 HM1.out.2 (by exact HNA2.out) ?_;intro v4 w4 ho4 hg4;have hv4:True:=trivial;obtain⟨R4,d4,rfl⟩:=own_slice ho4;have HX4:=Lib.hid (HKP.out w2 w4 D d HXA.out hg4);have q4:w4.cell? ⟨N,3,none⟩=some (.slice none 0 0):=HX4.out.cE3;have q5:w4.frozen? ⟨N,3,none⟩=false:=HX4.out.fE3) | fail)
 all_goals
  have HO4:Hid (w4.ownsRow N 60 1 (.slice R4 1 d4) 1 [.slice D 1 d]):=ho4
  have HB4:Hid (RowKit.Below N w w4):=HBA.out.grown hg4 HNA2.out (fun g e=>by cases e)
  have HT4:Hid (w4.ownsRow N 9 1 (.slice D 1 d) 1 [.string sChair]):=own_mono (own_of_block HNA.out fun b hb=>hg4.block b (own_lt HNA.out b hb) (fun e=>by cases e)) HNd.out
  have HY4:Hid (Bl w4 (N+1) 95 #[.string ⟨#[]⟩,.int .i64 0,.int .i64 0,.slice none 0 0,.bool false]):=(hg4.block (N+1) HYA.out.lt (fun e=>by cases e)).trans HYA.out
  have HTN:Hid (TermN N w4 R4 d4):=⟨D,d,HO4.out,HT4.out⟩
  have HT5:=Lib.hid (HTN.out.set HX4.out 3 (.slice R4 1 d4))
  have HX5:=Lib.hid (setE_bl HX4.out (.slice R4 1 d4))
  have HB5:=Lib.hid (HB4.out.setCell (p:=⟨N,3,none⟩) (Nat.le_refl _) (.slice R4 1 d4))
  have HY5:=Lib.hid (HY4.out.far (p:=⟨N,3,none⟩) (show N+1≠N by omega) (.slice R4 1 d4))
  clear ho4 hg4 hv4 HX4 HB4 HOA HRD HBA HXA HYA q0 q1 q2 q3 q4 q5 HX2 HY2 HB2 HO2 HNA HX1 HY1 HB1 HXd HYd HBd HO4 HT4 HTN HY4 HW2 HC HS HON HM1 HKP HNL HRL HAL HNd HNA2 HBO HSS hk0 hk00
  generalize w4.setCell ⟨N,3,none⟩ (.slice R4 1 d4)=W5 at *
  go_wp2_with fail
  rw [rounds_succ]
  have q1:W5.cell? ⟨N,0,none⟩=some (.string s9401):=HX5.out.cell 0
  have q2:W5.cell? ⟨N,1,none⟩=some (.int .i64 0):=HX5.out.cell 1
  have q3:W5.cell? ⟨N,2,none⟩=some (.int .i64 100):=HX5.out.cell 2
  have q4:W5.cell? ⟨N,3,none⟩=some (.slice R4 1 d4):=HX5.out.cell 3
  have q5:W5.cell? ⟨N,4,none⟩=some (.bool false):=HX5.out.cell 4
  have z0:W5.frozen? ⟨N+1,0,none⟩=false:=HY5.out.free 0
  have z1:W5.frozen? ⟨N+1,1,none⟩=false:=HY5.out.free 1
  have z2:W5.frozen? ⟨N+1,2,none⟩=false:=HY5.out.free 2
  have z3:W5.frozen? ⟨N+1,3,none⟩=false:=HY5.out.free 3
  have z4:W5.frozen? ⟨N+1,4,none⟩=false:=HY5.out.free 4
  have y0:W5.cell? ⟨N+1,0,none⟩=some (.string ⟨#[]⟩):=HY5.out.cell 0
  have y1:W5.cell? ⟨N+1,1,none⟩=some (.int .i64 0):=HY5.out.cell 1
  have y2:W5.cell? ⟨N+1,2,none⟩=some (.int .i64 0):=HY5.out.cell 2
  have y3:W5.cell? ⟨N+1,3,none⟩=some (.slice none 0 0):=HY5.out.cell 3
  have y4:W5.cell? ⟨N+1,4,none⟩=some (.bool false):=HY5.out.cell 4
  go_wp2_with fail
  have HZ:=Lib.hid (set5c_bl HY5.out (.string s9401) (.int .i64 0) (.int .i64 100) (.slice R4 1 d4) (.bool false))
  have HBZ:=Lib.hid ((((((HB5.out.setCell (p:=⟨N+1,0,none⟩) (show N≤N+1 by omega) (.string s9401)).setCell (p:=⟨N+1,1,none⟩) (show N≤N+1 by omega) (.int .i64 0)).setCell (p:=⟨N+1,2,none⟩) (show N≤N+1 by omega) (.int .i64 100)).setCell (p:=⟨N+1,3,none⟩) (show N≤N+1 by omega) (.slice R4 1 d4)).setCell (p:=⟨N+1,4,none⟩) (show N≤N+1 by omega) (.bool false)))
  have HTZ:=Lib.hid (HT5.out.set5 HY5.out (.string s9401) (.int .i64 0) (.int .i64 100) (.slice R4 1 d4) (.bool false))
  generalize ((((W5.setCell ⟨N+1,0,none⟩ (.string s9401)).setCell ⟨N+1,1,none⟩ (.int .i64 0)).setCell ⟨N+1,2,none⟩ (.int .i64 100)).setCell ⟨N+1,3,none⟩ (.slice R4 1 d4)).setCell ⟨N+1,4,none⟩ (.bool false)=W6 at *
  have u0:W6.cell? ⟨N+1,0,none⟩=some (.string s9401):=HZ.out.cell 0
  have u1:W6.cell? ⟨N+1,1,none⟩=some (.int .i64 0):=HZ.out.cell 1
  have u2:W6.cell? ⟨N+1,2,none⟩=some (.int .i64 100):=HZ.out.cell 2
  have u3:W6.cell? ⟨N+1,3,none⟩=some (.slice R4 1 d4):=HZ.out.cell 3
  have u4:W6.cell? ⟨N+1,4,none⟩=some (.bool false):=HZ.out.cell 4
  refine bodyPost_ret (v:=.agg #[.string s9401,.int .i64 0,.int .i64 100,.slice R4 1 d4,.bool false]) (by simp [results,Tryz.results133,go_sem,u0,u1,u2,u3,u4]) rfl ?_
  exact⟨R4,d4,rfl,by rw [hN];exact HTZ.out,by rw [hN];exact HBZ.out⟩
theorem TermN.setg {N:Nat} {w:World} {A:Option Addr} {c:Nat} (h:TermN N w A c) {g:Nat} {t:TypeId} {cs:Array Value} (hg:Bl w g t cs) (ht1:(60:TypeId)≠t) (ht2:(9:TypeId)≠t) (i:Nat) (z:Value):TermN N (w.setCell ⟨g,i,none⟩ z) A c:=by
 obtain⟨D,d,h1,h2⟩:=h
 exact⟨D,d,own_set20 h1 (fun b hb e=>by subst e;exact own_apart h1 hg ht1 hb.symm) i z,own_set20 h2 (fun b hb e=>by subst e;exact own_apart h2 hg ht2 hb.symm) i z⟩
structure Ent1 (N:Nat) (R:Option Addr) (d:Nat) (A:Option Addr) (c:Nat) (wx:World):Prop where
 own:wx.ownsRow N 95 5 (.slice R 1 d) 1 (flat encE [en1 A c])
 term:TermN N wx A c
theorem Ent1.below {N:Nat} {R:Option Addr} {d:Nat} {A:Option Addr} {c:Nat} {w w':World} (h:Ent1 N R d A c w) (hb:RowKit.Below w.heap.size w w'):Ent1 N R d A c w':=⟨own_below h.own hb,h.term.below hb⟩
theorem Ent1.set {N:Nat} {R:Option Addr} {d:Nat} {A:Option Addr} {c:Nat} {w:World} (h:Ent1 N R d A c w) {g:Nat} {cs:Array Value} (hg:Bl w g 232 cs) (i:Nat) (z:Value):Ent1 N R d A c (w.setCell ⟨g,i,none⟩ z) :=
 ⟨own_set20 h.own (fun b hb e=>by subst e;exact own_apart h.own hg (by decide) hb.symm) i z,h.term.setg hg (by decide) (by decide) i z⟩
theorem Ent1.set8 {N:Nat} {R:Option Addr} {d:Nat} {A:Option Addr} {c:Nat} {w:World} (h:Ent1 N R d A c w) {g:Nat} {cs:Array Value} (hg:Bl w g 232 cs) (v0 v1 v2 v3 v4 v5 v6 v7:Value):Ent1 N R d A c ((((((((w.setCell ⟨g,0,none⟩ v0).setCell ⟨g,1,none⟩ v1).setCell ⟨g,2,none⟩ v2).setCell ⟨g,3,none⟩ v3).setCell ⟨g,4,none⟩ v4).setCell ⟨g,5,none⟩ v5).setCell ⟨g,6,none⟩ v6).setCell ⟨g,7,none⟩ v7):=by
 have h0:=h.set hg 0 v0
 have g0:=hg.put 0 v0
 have h1:=h0.set g0 1 v1
 have g1:=g0.put 1 v1
 have h2:=h1.set g1 2 v2
 have g2:=g1.put 2 v2
 have h3:=h2.set g2 3 v3
 have g3:=g2.put 3 v3
 have h4:=h3.set g3 4 v4
 have g4:=g3.put 4 v4
 have h5:=h4.set g4 5 v5
 have g5:=g4.put 5 v5
 have h6:=h5.set g5 6 v6
 have g6:=g5.put 6 v6
 have h7:=h6.set g6 7 v7
 have g7:=g6.put 7 v7
 exact h7
theorem Ent1.recs {N:Nat} {R:Option Addr} {d:Nat} {A:Option Addr} {c:Nat} {w:World} (h:Ent1 N R d A c w):Recs encE 5 w R 1 [en1 A c]:=Recs.of_own encE_len h.own rfl
theorem set8_blE {w:World} {g:Nat} {T:TypeId} {z0 z1 z2 z3 z4 z5 z6 z7:Value} (h:Bl w g T #[z0,z1,z2,z3,z4,z5,z6,z7]) (v0 v1 v2 v3 v4 v5 v6 v7:Value):Bl ((((((((w.setCell ⟨g,0,none⟩ v0).setCell ⟨g,1,none⟩ v1).setCell ⟨g,2,none⟩ v2).setCell ⟨g,3,none⟩ v3).setCell ⟨g,4,none⟩ v4).setCell ⟨g,5,none⟩ v5).setCell ⟨g,6,none⟩ v6).setCell ⟨g,7,none⟩ v7) g T #[v0,v1,v2,v3,v4,v5,v6,v7]:=by
 have:=(((((((h.put 0 v0).put 1 v1).put 2 v2).put 3 v3).put 4 v4).put 5 v5).put 6 v6).put 7 v7
 simpa using this
theorem below_set8 {N g:Nat} {w0 w:World} (h:RowKit.Below N w0 w) (hg:N≤g) (v0 v1 v2 v3 v4 v5 v6 v7:Value):RowKit.Below N w0 ((((((((w.setCell ⟨g,0,none⟩ v0).setCell ⟨g,1,none⟩ v1).setCell ⟨g,2,none⟩ v2).setCell ⟨g,3,none⟩ v3).setCell ⟨g,4,none⟩ v4).setCell ⟨g,5,none⟩ v5).setCell ⟨g,6,none⟩ v6).setCell ⟨g,7,none⟩ v7) :=
 (((((((h.setCell (p:=⟨g,0,none⟩) hg v0).setCell (p:=⟨g,1,none⟩) hg v1).setCell (p:=⟨g,2,none⟩) hg v2).setCell (p:=⟨g,3,none⟩) hg v3).setCell (p:=⟨g,4,none⟩) hg v4).setCell (p:=⟨g,5,none⟩) hg v5).setCell (p:=⟨g,6,none⟩) hg v6).setCell (p:=⟨g,7,none⟩) hg v7
structure LvB (w:World) (N:Nat) (L:Array Value) (gl:Nat) (wx:World):Prop where
 below:RowKit.Below N w wx
 lv:Bl wx gl 232 L
 nl:N≤gl
def BaRes (w:World) (e:Ending) (w':World):Prop:=∃ R d A c,e=.returned (.tuple #[.int .i64 1,.slice R 1 d])∧Recs encE 5 w' R 1 [en1 A c]∧TermR w' A∧RowKit.Below w.heap.size w w'
set_option maxRecDepth 100000 in
set_option maxHeartbeats 16000000 in
theorem basis_1 (g:Nat) (A:Option Addr) (c:Nat) (D:Option Addr) (d:Nat) (w:World) (h:BkR w g A c) (k:Sr w D 2 [sChair,sOffice]):Calls Tryz.prog 66 #[.agg #[.slice (some ⟨g,0,none⟩) 2 2,.slice none 0 0],.int .i64 5,.agg #[.slice D 2 d,.slice none 0 0,.slice none 0 0,.bool false],.string ⟨#[]⟩] w (BaRes w):=by
 have HH:=Lib.hid h
 have HK:=Lib.hid k
 obtain⟨N,hN⟩:∃ N,w.heap.size=N:=⟨_,rfl⟩
 have hs1:(w.alloc (.cells #[.slice (some ⟨g,0,none⟩) 2 2,.slice none 0 0] 99)).heap.size=N+1:=by simp [hN]
 have HB0:Hid (RowKit.Below N w ((w.alloc (.cells #[.slice (some ⟨g,0,none⟩) 2 2,.slice none 0 0] 99)).alloc (.cells #[.slice D 2 d,.slice none 0 0,.slice none 0 0,.bool false] 90))):=by
  rw [← hN]
  exact ((Below.refl _ w).alloc (Nat.le_refl _) _).alloc (by simp) _
 have HX0:Hid (Bl ((w.alloc (.cells #[.slice (some ⟨g,0,none⟩) 2 2,.slice none 0 0] 99)).alloc (.cells #[.slice D 2 d,.slice none 0 0,.slice none 0 0,.bool false] 90)) N 99 #[.slice (some ⟨g,0,none⟩) 2 2,.slice none 0 0]):=by
  rw [← hN]
  exact (Bl.new _ _ _).alloc _
 have HY0:Hid (Bl ((w.alloc (.cells #[.slice (some ⟨g,0,none⟩) 2 2,.slice none 0 0] 99)).alloc (.cells #[.slice D 2 d,.slice none 0 0,.slice none 0 0,.bool false] 90)) (N+1) 90 #[.slice D 2 d,.slice none 0 0,.slice none 0 0,.bool false]):=by
  rw [← hs1]
  exact Bl.new _ _ _
 clear h k
 go_enter Tryz.func66,Tryz.ntmps66
 go_upto_region 1 with (fail)
 generalize (w.alloc (.cells #[.slice (some ⟨g,0,none⟩) 2 2,.slice none 0 0] 99)).alloc (.cells #[.slice D 2 d,.slice none 0 0,.slice none 0 0,.bool false] 90)=W0 at *
 try rw [hs1]
 try rw [hN]
 have HA:Hid (∀ wx,RowKit.Below W0.heap.size W0 wx→Calls Tryz.prog 126 #[.agg #[.slice (some ⟨g,0,none⟩) 2 2,.slice none 0 0],.int .i64 5,.string ⟨#[]⟩] wx (fun e w'=>∃ R d A' c',e=.returned (.slice R 1 d)∧Ent1 wx.heap.size R d A' c' w'∧RowKit.Below wx.heap.size wx w')):=fun wx hb=>(below1 g A c wx (HH.out.below (by rw [hN];exact HB0.out.trans (hb.mono (by rw [← hN];exact HB0.out.size))))).mono (fun e w hh=>by obtain⟨R,d,A,c,he,h1,h2,h3⟩:=hh;exact⟨R,d,A,c,he,⟨h1,h2⟩,h3⟩)
 have HS:Hid (∀ wx,RowKit.Below W0.heap.size W0 wx→(wx.cell? ⟨N,0,none⟩=some (.slice (some ⟨g,0,none⟩) 2 2)∧wx.cell? ⟨N,1,none⟩=some (.slice none 0 0)∧wx.cell? ⟨N+1,0,none⟩=some (.slice D 2 d)∧wx.cell? ⟨N+1,1,none⟩=some (.slice none 0 0)∧wx.cell? ⟨N+1,2,none⟩=some (.slice none 0 0)∧wx.cell? ⟨N+1,3,none⟩=some (.bool false))):=fun wx hb=>⟨(HX0.out.keep hb).cell 0,(HX0.out.keep hb).cell 1,(HY0.out.keep hb).cell 0,(HY0.out.keep hb).cell 1,(HY0.out.keep hb).cell 2,(HY0.out.keep hb).cell 3⟩
 have hk00:Hid (RowKit.Below W0.heap.size W0 W0):=Below.refl _ _
 have hk0:Hid (RowKit.Below W0.heap.size W0 W0.drew):=(Below.refl _ _).drew
 have hkq:Hid (RowKit.Below W0.heap.size W0 (W0.alloc (.cells #[.slice none 0 0,.slice none 0 0,.slice none 0 0,.slice none 0 0,.slice none 0 0,.bool false,.string ⟨#[]⟩,.slice none 0 0] 232)).drew):=((Below.refl _ _).alloc (Nat.le_refl _) _).drew
 have HQ:Hid (Bl (W0.alloc (.cells #[.slice none 0 0,.slice none 0 0,.slice none 0 0,.slice none 0 0,.slice none 0 0,.bool false,.string ⟨#[]⟩,.slice none 0 0] 232)).drew W0.heap.size 232 #[.slice none 0 0,.slice none 0 0,.slice none 0 0,.slice none 0 0,.slice none 0 0,.bool false,.string ⟨#[]⟩,.slice none 0 0]):=Bl.new W0 _ _
 have hNW:Hid (N≤W0.heap.size):=by rw [← hN];exact HB0.out.size
 have HNEW:Hid (∀ (wx:World) (E:Option Addr) (x:Nat),Bl (wx.alloc (.cells #[.slice (some ⟨g,0,none⟩) 2 2,.slice none 0 0,.slice D 2 d,.slice none 0 0,.slice none 0 0,.bool false,.string ⟨#[]⟩,.slice E 1 x] 232)) wx.heap.size 232 #[.slice (some ⟨g,0,none⟩) 2 2,.slice none 0 0,.slice D 2 d,.slice none 0 0,.slice none 0 0,.bool false,.string ⟨#[]⟩,.slice E 1 x]):=fun wx E x=>Bl.new _ _ _
 have HYF:Hid (∀ (wx:World) (g:Nat),Bl wx g 232 #[.slice none 0 0,.slice none 0 0,.slice none 0 0,.slice none 0 0,.slice none 0 0,.bool false,.string ⟨#[]⟩,.slice none 0 0]→wx.cell? ⟨g,0,none⟩=some (.slice none 0 0)∧wx.cell? ⟨g,1,none⟩=some (.slice none 0 0)∧wx.cell? ⟨g,2,none⟩=some (.slice none 0 0)∧wx.cell? ⟨g,3,none⟩=some (.slice none 0 0)∧wx.cell? ⟨g,4,none⟩=some (.slice none 0 0)∧wx.cell? ⟨g,5,none⟩=some (.bool false)∧wx.cell? ⟨g,6,none⟩=some (.string ⟨#[]⟩)∧wx.cell? ⟨g,7,none⟩=some (.slice none 0 0)∧wx.frozen? ⟨g,0,none⟩=false∧wx.frozen? ⟨g,1,none⟩=false∧wx.frozen? ⟨g,2,none⟩=false∧wx.frozen? ⟨g,3,none⟩=false∧wx.frozen? ⟨g,4,none⟩=false∧wx.frozen? ⟨g,5,none⟩=false∧wx.frozen? ⟨g,6,none⟩=false∧wx.frozen? ⟨g,7,none⟩=false):=fun wx g h=>⟨h.cell 0,h.cell 1,h.cell 2,h.cell 3,h.cell 4,h.cell 5,h.cell 6,h.cell 7,h.free 0,h.free 1,h.free 2,h.free 3,h.free 4,h.free 5,h.free 6,h.free 7⟩
 have HAZ:Hid (∀ (wx:World),RowKit.Below W0.heap.size W0 wx→RowKit.Below W0.heap.size W0 (wx.alloc (.cells #[.slice none 0 0,.slice none 0 0,.slice none 0 0,.slice none 0 0,.slice none 0 0,.bool false,.string ⟨#[]⟩,.slice none 0 0] 232))):=fun wx h=>h.alloc h.size _
 have HAB:Hid (∀ (wx:World) (E:Option Addr) (x:Nat),RowKit.Below W0.heap.size W0 wx→RowKit.Below W0.heap.size W0 (wx.alloc (.cells #[.slice (some ⟨g,0,none⟩) 2 2,.slice none 0 0,.slice D 2 d,.slice none 0 0,.slice none 0 0,.bool false,.string ⟨#[]⟩,.slice E 1 x] 232))):=fun wx E x h=>h.alloc h.size _
 obtain⟨x0,x1,x2,x3,x4,x5⟩:=HS.out _ hk00.out
 go_cut [10] (fun v wx=>∃ gl E x P p,v=.pointer (some ⟨gl,0,none⟩)∧Hid (LvB w N #[.slice (some ⟨g,0,none⟩) 2 2,.slice none 0 0,.slice D 2 d,.slice none 0 0,.slice none 0 0,.bool false,.string ⟨#[]⟩,.slice E 1 x] gl wx)∧Hid (∃ M,Ent1 M E x P p wx))
 case first =>
  go_region_held3 (fun wx=>wx.cell? ⟨N,0,none⟩=some (.slice (some ⟨g,0,none⟩) 2 2)∧wx.cell? ⟨N,1,none⟩=some (.slice none 0 0)∧wx.cell? ⟨N+1,0,none⟩=some (.slice D 2 d)∧wx.cell? ⟨N+1,1,none⟩=some (.slice none 0 0)∧wx.cell? ⟨N+1,2,none⟩=some (.slice none 0 0)∧wx.cell? ⟨N+1,3,none⟩=some (.bool false))
   (first | with_reducible exact HS.out _ hkc.out | with_reducible exact HS.out _ hka.out | with_reducible exact HS.out _ hkz.out | with_reducible exact HS.out _ hkq.out | with_reducible exact HS.out _ hk0.out | with_reducible exact HS.out _ hk00.out)
   (first | (go_at_call 126;with_reducible (refine (HA.out _ hkq.out).mono ?_);rintro e wz ⟨E,x,P,p,rfl,hE,hbz⟩;have hkz:=Lib.hid (hkq.out.trans (hbz.mono hkq.out.size));have HE:=Lib.hid hE;have HZ:=Lib.hid (HQ.out.keep hbz);obtain⟨y0,y1,y2,y3,y4,y5,y6,y7,f0,f1,f2,f3,f4,f5,f6,f7⟩:=HYF.out _ _ HZ.out;have hkc:=Lib.hid (below_set8 hkz.out (Nat.le_refl _) (.slice (some ⟨g,0,none⟩) 2 2) (.slice none 0 0) (.slice D 2 d) (.slice none 0 0) (.slice none 0 0) (.bool false) (.string ⟨#[]⟩) (.slice E 1 x));have HZ8:=Lib.hid (set8_blE HZ.out (.slice (some ⟨g,0,none⟩) 2 2) (.slice none 0 0) (.slice D 2 d) (.slice none 0 0) (.slice none 0 0) (.bool false) (.string ⟨#[]⟩) (.slice E 1 x));have HE8:=Lib.hid (HE.out.set8 HZ.out (.slice (some ⟨g,0,none⟩) 2 2) (.slice none 0 0) (.slice D 2 d) (.slice none 0 0) (.slice none 0 0) (.bool false) (.string ⟨#[]⟩) (.slice E 1 x))) | (go_at_call 126;with_reducible (refine (HA.out _ hk0.out).mono ?_);rintro e wz ⟨E,x,P,p,rfl,hE,hbz⟩;have hkz:=Lib.hid (hk0.out.trans (hbz.mono hk0.out.size));have HE:=Lib.hid hE;have hkc:=Lib.hid (HAB.out wz E x hkz.out);have hka:=Lib.hid (HAZ.out wz hkz.out);have HZ8:=Lib.hid (HNEW.out wz E x);have HE8:=Lib.hid (HE.out.below ((Below.refl wz.heap.size wz).alloc (Nat.le_refl _) (.cells #[.slice (some ⟨g,0,none⟩) 2 2,.slice none 0 0,.slice D 2 d,.slice none 0 0,.slice none 0 0,.bool false,.string ⟨#[]⟩,.slice E 1 x] 232)))) | fail)
  all_goals
   have HBF:=Lib.hid (HB0.out.trans (hkc.out.mono hNW.out))
   go_wp2_with fail
   go_meet
   have hlw:=hkz.out.size
   have hnw:=hNW.out
   exact⟨_,E,x,P,p,rfl,⟨HBF.out,HZ8.out,by have:=hkz.out.size;omega⟩,⟨_,HE8.out⟩⟩
 case rest =>
 obtain⟨gl,E,x,P,p,rfl,HL,HEM⟩:=hcut
 obtain⟨M,hEM⟩:=HEM.out
 have HE:=Lib.hid hEM
 clear hEM HEM
 clear x0 x1 x2 x3 x4 x5 HS HA hk00 hk0 hkq HQ hNW HNEW HYF HAB HAZ HX0 HY0 HB0 HH hs1
 subst hN
 have HB0:=Lib.hid HL.out.below
 have HL0:=Lib.hid HL.out.lv
 clear HL
 have hal:RowKit.Below wc.heap.size wc (wc.alloc (.cells #[.int .i64 1,.func (.func 127) #[] #[],.int .i64 2,.func (.func 128) #[] #[],.int .i64 3,.func (.func 129) #[] #[],.int .i64 8,.func (.func 130) #[] #[],.int .i64 7,.func (.func 131) #[] #[],.int .i64 7,.func (.func 132) #[] #[]] 235)):=(Below.refl _ _).alloc (Nat.le_refl _) _
 have HB1:=Lib.hid (HB0.out.trans (hal.mono HB0.out.size))
 have HL1:=Lib.hid (HL0.out.keep hal)
 have HT1:Hid (Bl (wc.alloc (.cells #[.int .i64 1,.func (.func 127) #[] #[],.int .i64 2,.func (.func 128) #[] #[],.int .i64 3,.func (.func 129) #[] #[],.int .i64 8,.func (.func 130) #[] #[],.int .i64 7,.func (.func 131) #[] #[],.int .i64 7,.func (.func 132) #[] #[]] 235)) wc.heap.size 235 #[.int .i64 1,.func (.func 127) #[] #[],.int .i64 2,.func (.func 128) #[] #[],.int .i64 3,.func (.func 129) #[] #[],.int .i64 8,.func (.func 130) #[] #[],.int .i64 7,.func (.func 131) #[] #[],.int .i64 7,.func (.func 132) #[] #[]]):=Bl.new _ _ _
 have HE1:=Lib.hid (HE.out.below hal)
 clear HE
 clear hal HB0 HL0
 go_wp2_with fail
 generalize wc.alloc (.cells #[.int .i64 1,.func (.func 127) #[] #[],.int .i64 2,.func (.func 128) #[] #[],.int .i64 3,.func (.func 129) #[] #[],.int .i64 8,.func (.func 130) #[] #[],.int .i64 7,.func (.func 131) #[] #[],.int .i64 7,.func (.func 132) #[] #[]] 235)=W1 at *
 generalize wc.heap.size=gt at *
 refine wp_loop_rounds 2 ?_
 have q1:W1.cell? ⟨gt,0,none⟩=some (.int .i64 1):=HT1.out.cell 0
 have q2:W1.cell? ⟨gt,1,none⟩=some (.func (.func 127) #[] #[]):=HT1.out.cell 1
 have hn1:(W1.alloc (.cells #[.int .i64 1,.nilFunc] 235)).cell? ⟨W1.heap.size,1,none⟩=some .nilFunc:=(Bl.new W1 235 #[.int .i64 1,.nilFunc]).cell 1
 have hn2:(W1.alloc (.cells #[.int .i64 1,.nilFunc] 235)).frozen? ⟨W1.heap.size,1,none⟩=false:=(Bl.new W1 235 #[.int .i64 1,.nilFunc]).free 1
 have hal:RowKit.Below W1.heap.size W1 (W1.alloc (.cells #[.int .i64 1,.func (.func 127) #[] #[]] 235)):=(Below.refl _ _).alloc (Nat.le_refl _) _
 have HBa:=Lib.hid (HB1.out.trans (hal.mono HB1.out.size))
 have HLa:=Lib.hid (HL1.out.keep hal)
 have HTa:=Lib.hid (HT1.out.keep hal)
 have HXa:Hid (Bl (W1.alloc (.cells #[.int .i64 1,.func (.func 127) #[] #[]] 235)) W1.heap.size 235 #[.int .i64 1,.func (.func 127) #[] #[]]):=Bl.new _ _ _
 have HEa:=Lib.hid (HE1.out.below hal)
 have hsf:∀ (wx:World) (a:Addr) (f:FuncId),(store a (.func (.func f) #[] #[])).run Tryz.prog wx=stored Tryz.prog wx a (.func (.func f) #[] #[]) .plain:=fun wx a f=>run_store _ _ _ _ _ rfl
 clear hal
 rw [rounds_succ]
 go_upto_region 6 with (fail)
 clear hn1 hn2 hsf
 clear q1 q2 HB1 HL1 HT1 HE1
 generalize W1.alloc (.cells #[.int .i64 1,.func (.func 127) #[] #[]] 235)=V1 at *
 generalize W1.heap.size=gx at *
 have q3:V1.cell? ⟨gx,0,none⟩=some (.int .i64 1):=HXa.out.cell 0
 have q4:V1.cell? ⟨gx,1,none⟩=some (.func (.func 127) #[] #[]):=HXa.out.cell 1
 have q5:V1.cell? ⟨gl,0,none⟩=some (.slice (some ⟨g,0,none⟩) 2 2):=HLa.out.cell 0
 have q6:V1.cell? ⟨gl,1,none⟩=some (.slice none 0 0):=HLa.out.cell 1
 have q7:V1.cell? ⟨gl,2,none⟩=some (.slice D 2 d):=HLa.out.cell 2
 have q8:V1.cell? ⟨gl,3,none⟩=some (.slice none 0 0):=HLa.out.cell 3
 have q9:V1.cell? ⟨gl,4,none⟩=some (.slice none 0 0):=HLa.out.cell 4
 have q10:V1.cell? ⟨gl,5,none⟩=some (.bool false):=HLa.out.cell 5
 have q11:V1.cell? ⟨gl,6,none⟩=some (.string ⟨#[]⟩):=HLa.out.cell 6
 have q12:V1.cell? ⟨gl,7,none⟩=some (.slice E 1 x):=HLa.out.cell 7
 go_wp2_with fail
 refine (byTerms_1 ⟨#[]⟩ E x g P p D d _ HEa.out.recs HEa.out.term.reads (HK.out.below HBa.out)).mono ?_
 rintro e W2 ⟨R,r,rfl,hR,hb⟩
 have HB2:=Lib.hid (HBa.out.trans (hb.mono HBa.out.size))
 have HL2:=Lib.hid (HLa.out.keep hb)
 have HT2:=Lib.hid (HTa.out.keep hb)
 have HXb:=Lib.hid (HXa.out.keep hb)
 have HTR:=Lib.hid (HEa.out.term.reads.below hb)
 have HRR:=Lib.hid hR
 clear hR HEa
 clear q3 q4 q5 q6 q7 q8 q9 q10 q11 q12 hb HBa HLa HTa HXa
 have q13:W2.cell? ⟨gx,0,none⟩=some (.int .i64 1):=HXb.out.cell 0
 go_wp2_with fail
 go_ret2
 exact⟨R,r,P,p,rfl,HRR.out,HTR.out,HB2.out⟩
set_option maxRecDepth 100000 in
set_option maxHeartbeats 16000000 in
theorem basis_0 (g:Nat) (A:Option Addr) (c:Nat) (D:Option Addr) (d:Nat) (w:World) (h:BkR w g A c) (k:Sr w D 2 [sChair,sOffice]):Calls Tryz.prog 66 #[.agg #[.slice (some ⟨g,0,none⟩) 2 2,.slice none 0 0],.int .i64 5,.agg #[.slice D 2 d,.slice none 0 0,.slice none 0 0,.bool false],.string s9401] w fun e w'=>e=.returned (.tuple #[.int .i64 0,.slice none 0 0])∧RowKit.Below w.heap.size w w':=by
 have HH:=Lib.hid h
 have HK:=Lib.hid k
 obtain⟨N,hN⟩:∃ N,w.heap.size=N:=⟨_,rfl⟩
 have hs1:(w.alloc (.cells #[.slice (some ⟨g,0,none⟩) 2 2,.slice none 0 0] 99)).heap.size=N+1:=by simp [hN]
 have HB0:Hid (RowKit.Below N w ((w.alloc (.cells #[.slice (some ⟨g,0,none⟩) 2 2,.slice none 0 0] 99)).alloc (.cells #[.slice D 2 d,.slice none 0 0,.slice none 0 0,.bool false] 90))):=by
  rw [← hN]
  exact ((Below.refl _ w).alloc (Nat.le_refl _) _).alloc (by simp) _
 have HX0:Hid (Bl ((w.alloc (.cells #[.slice (some ⟨g,0,none⟩) 2 2,.slice none 0 0] 99)).alloc (.cells #[.slice D 2 d,.slice none 0 0,.slice none 0 0,.bool false] 90)) N 99 #[.slice (some ⟨g,0,none⟩) 2 2,.slice none 0 0]):=by
  rw [← hN]
  exact (Bl.new _ _ _).alloc _
 have HY0:Hid (Bl ((w.alloc (.cells #[.slice (some ⟨g,0,none⟩) 2 2,.slice none 0 0] 99)).alloc (.cells #[.slice D 2 d,.slice none 0 0,.slice none 0 0,.bool false] 90)) (N+1) 90 #[.slice D 2 d,.slice none 0 0,.slice none 0 0,.bool false]):=by
  rw [← hs1]
  exact Bl.new _ _ _
 clear h k
 go_enter Tryz.func66,Tryz.ntmps66
 go_upto_region 1 with (fail)
 generalize (w.alloc (.cells #[.slice (some ⟨g,0,none⟩) 2 2,.slice none 0 0] 99)).alloc (.cells #[.slice D 2 d,.slice none 0 0,.slice none 0 0,.bool false] 90)=W0 at *
 try rw [hs1]
 try rw [hN]
 have HA:Hid (∀ wx,RowKit.Below W0.heap.size W0 wx→Calls Tryz.prog 126 #[.agg #[.slice (some ⟨g,0,none⟩) 2 2,.slice none 0 0],.int .i64 5,.string s9401] wx (fun e w'=>e=.returned (.slice none 0 0)∧RowKit.Below wx.heap.size wx w')):=fun wx hb=>(below0 g A c wx (HH.out.below (by rw [hN];exact HB0.out.trans (hb.mono (by rw [← hN];exact HB0.out.size))))).mono (fun e w h=>h)
 have HS:Hid (∀ wx,RowKit.Below W0.heap.size W0 wx→(wx.cell? ⟨N,0,none⟩=some (.slice (some ⟨g,0,none⟩) 2 2)∧wx.cell? ⟨N,1,none⟩=some (.slice none 0 0)∧wx.cell? ⟨N+1,0,none⟩=some (.slice D 2 d)∧wx.cell? ⟨N+1,1,none⟩=some (.slice none 0 0)∧wx.cell? ⟨N+1,2,none⟩=some (.slice none 0 0)∧wx.cell? ⟨N+1,3,none⟩=some (.bool false))):=fun wx hb=>⟨(HX0.out.keep hb).cell 0,(HX0.out.keep hb).cell 1,(HY0.out.keep hb).cell 0,(HY0.out.keep hb).cell 1,(HY0.out.keep hb).cell 2,(HY0.out.keep hb).cell 3⟩
 have hk00:Hid (RowKit.Below W0.heap.size W0 W0):=Below.refl _ _
 have hk0:Hid (RowKit.Below W0.heap.size W0 W0.drew):=(Below.refl _ _).drew
 have hkq:Hid (RowKit.Below W0.heap.size W0 (W0.alloc (.cells #[.slice none 0 0,.slice none 0 0,.slice none 0 0,.slice none 0 0,.slice none 0 0,.bool false,.string ⟨#[]⟩,.slice none 0 0] 232)).drew):=((Below.refl _ _).alloc (Nat.le_refl _) _).drew
 have HQ:Hid (Bl (W0.alloc (.cells #[.slice none 0 0,.slice none 0 0,.slice none 0 0,.slice none 0 0,.slice none 0 0,.bool false,.string ⟨#[]⟩,.slice none 0 0] 232)).drew W0.heap.size 232 #[.slice none 0 0,.slice none 0 0,.slice none 0 0,.slice none 0 0,.slice none 0 0,.bool false,.string ⟨#[]⟩,.slice none 0 0]):=Bl.new W0 _ _
 have hNW:Hid (N≤W0.heap.size):=by rw [← hN];exact HB0.out.size
 have HNEW:Hid (∀ (wx:World) (E:Option Addr) (x:Nat),Bl (wx.alloc (.cells #[.slice (some ⟨g,0,none⟩) 2 2,.slice none 0 0,.slice D 2 d,.slice none 0 0,.slice none 0 0,.bool false,.string s9401,.slice none 0 0] 232)) wx.heap.size 232 #[.slice (some ⟨g,0,none⟩) 2 2,.slice none 0 0,.slice D 2 d,.slice none 0 0,.slice none 0 0,.bool false,.string s9401,.slice none 0 0]):=fun wx E x=>Bl.new _ _ _
 have HYF:Hid (∀ (wx:World) (g:Nat),Bl wx g 232 #[.slice none 0 0,.slice none 0 0,.slice none 0 0,.slice none 0 0,.slice none 0 0,.bool false,.string ⟨#[]⟩,.slice none 0 0]→wx.cell? ⟨g,0,none⟩=some (.slice none 0 0)∧wx.cell? ⟨g,1,none⟩=some (.slice none 0 0)∧wx.cell? ⟨g,2,none⟩=some (.slice none 0 0)∧wx.cell? ⟨g,3,none⟩=some (.slice none 0 0)∧wx.cell? ⟨g,4,none⟩=some (.slice none 0 0)∧wx.cell? ⟨g,5,none⟩=some (.bool false)∧wx.cell? ⟨g,6,none⟩=some (.string ⟨#[]⟩)∧wx.cell? ⟨g,7,none⟩=some (.slice none 0 0)∧wx.frozen? ⟨g,0,none⟩=false∧wx.frozen? ⟨g,1,none⟩=false∧wx.frozen? ⟨g,2,none⟩=false∧wx.frozen? ⟨g,3,none⟩=false∧wx.frozen? ⟨g,4,none⟩=false∧wx.frozen? ⟨g,5,none⟩=false∧wx.frozen? ⟨g,6,none⟩=false∧wx.frozen? ⟨g,7,none⟩=false):=fun wx g h=>⟨h.cell 0,h.cell 1,h.cell 2,h.cell 3,h.cell 4,h.cell 5,h.cell 6,h.cell 7,h.free 0,h.free 1,h.free 2,h.free 3,h.free 4,h.free 5,h.free 6,h.free 7⟩
 have HAZ:Hid (∀ (wx:World),RowKit.Below W0.heap.size W0 wx→RowKit.Below W0.heap.size W0 (wx.alloc (.cells #[.slice none 0 0,.slice none 0 0,.slice none 0 0,.slice none 0 0,.slice none 0 0,.bool false,.string ⟨#[]⟩,.slice none 0 0] 232))):=fun wx h=>h.alloc h.size _
 have HAB:Hid (∀ (wx:World) (E:Option Addr) (x:Nat),RowKit.Below W0.heap.size W0 wx→RowKit.Below W0.heap.size W0 (wx.alloc (.cells #[.slice (some ⟨g,0,none⟩) 2 2,.slice none 0 0,.slice D 2 d,.slice none 0 0,.slice none 0 0,.bool false,.string s9401,.slice none 0 0] 232))):=fun wx E x h=>h.alloc h.size _
 obtain⟨x0,x1,x2,x3,x4,x5⟩:=HS.out _ hk00.out
 go_cut [10] (fun v wx=>∃ gl:Nat,v=.pointer (some ⟨gl,0,none⟩)∧Hid (LvB w N #[.slice (some ⟨g,0,none⟩) 2 2,.slice none 0 0,.slice D 2 d,.slice none 0 0,.slice none 0 0,.bool false,.string s9401,.slice none 0 0] gl wx))
 case first =>
  go_region_held3 (fun wx=>wx.cell? ⟨N,0,none⟩=some (.slice (some ⟨g,0,none⟩) 2 2)∧wx.cell? ⟨N,1,none⟩=some (.slice none 0 0)∧wx.cell? ⟨N+1,0,none⟩=some (.slice D 2 d)∧wx.cell? ⟨N+1,1,none⟩=some (.slice none 0 0)∧wx.cell? ⟨N+1,2,none⟩=some (.slice none 0 0)∧wx.cell? ⟨N+1,3,none⟩=some (.bool false))
   (first | with_reducible exact HS.out _ hkc.out | with_reducible exact HS.out _ hka.out | with_reducible exact HS.out _ hkz.out | with_reducible exact HS.out _ hkq.out | with_reducible exact HS.out _ hk0.out | with_reducible exact HS.out _ hk00.out)
   (first | (go_at_call 126;with_reducible (refine (HA.out _ hkq.out).mono ?_);rintro e wz ⟨rfl,hbz⟩;have hkz:=Lib.hid (hkq.out.trans (hbz.mono hkq.out.size));have HZ:=Lib.hid (HQ.out.keep hbz);obtain⟨y0,y1,y2,y3,y4,y5,y6,y7,f0,f1,f2,f3,f4,f5,f6,f7⟩:=HYF.out _ _ HZ.out;have hkc:=Lib.hid (below_set8 hkz.out (Nat.le_refl _) (.slice (some ⟨g,0,none⟩) 2 2) (.slice none 0 0) (.slice D 2 d) (.slice none 0 0) (.slice none 0 0) (.bool false) (.string s9401) (.slice none 0 0));have HZ8:=Lib.hid (set8_blE HZ.out (.slice (some ⟨g,0,none⟩) 2 2) (.slice none 0 0) (.slice D 2 d) (.slice none 0 0) (.slice none 0 0) (.bool false) (.string s9401) (.slice none 0 0))) | (go_at_call 126;with_reducible (refine (HA.out _ hk0.out).mono ?_);rintro e wz ⟨rfl,hbz⟩;have hkz:=Lib.hid (hk0.out.trans (hbz.mono hk0.out.size));have hkc:=Lib.hid (HAB.out wz none 0 hkz.out);have hka:=Lib.hid (HAZ.out wz hkz.out);have HZ8:=Lib.hid (HNEW.out wz none 0)) | fail)
  all_goals
   have HBF:=Lib.hid (HB0.out.trans (hkc.out.mono hNW.out))
   go_wp2_with fail
   go_meet
   have hlw:=hkz.out.size
   have hnw:=hNW.out
   exact⟨_,rfl,⟨HBF.out,HZ8.out,by have:=hkz.out.size;omega⟩⟩
 case rest =>
 obtain⟨gl,rfl,HL⟩:=hcut
 clear x0 x1 x2 x3 x4 x5 HS HA hk00 hk0 hkq HQ hNW HNEW HYF HAB HAZ HX0 HY0 HB0 HH hs1
 subst hN
 have HB0:=Lib.hid HL.out.below
 have HL0:=Lib.hid HL.out.lv
 clear HL
 have hal:RowKit.Below wc.heap.size wc (wc.alloc (.cells #[.int .i64 1,.func (.func 127) #[] #[],.int .i64 2,.func (.func 128) #[] #[],.int .i64 3,.func (.func 129) #[] #[],.int .i64 8,.func (.func 130) #[] #[],.int .i64 7,.func (.func 131) #[] #[],.int .i64 7,.func (.func 132) #[] #[]] 235)):=(Below.refl _ _).alloc (Nat.le_refl _) _
 have HB1:=Lib.hid (HB0.out.trans (hal.mono HB0.out.size))
 have HL1:=Lib.hid (HL0.out.keep hal)
 have HT1:Hid (Bl (wc.alloc (.cells #[.int .i64 1,.func (.func 127) #[] #[],.int .i64 2,.func (.func 128) #[] #[],.int .i64 3,.func (.func 129) #[] #[],.int .i64 8,.func (.func 130) #[] #[],.int .i64 7,.func (.func 131) #[] #[],.int .i64 7,.func (.func 132) #[] #[]] 235)) wc.heap.size 235 #[.int .i64 1,.func (.func 127) #[] #[],.int .i64 2,.func (.func 128) #[] #[],.int .i64 3,.func (.func 129) #[] #[],.int .i64 8,.func (.func 130) #[] #[],.int .i64 7,.func (.func 131) #[] #[],.int .i64 7,.func (.func 132) #[] #[]]):=Bl.new _ _ _
 clear hal HB0 HL0
 go_wp2_with fail
 generalize wc.alloc (.cells #[.int .i64 1,.func (.func 127) #[] #[],.int .i64 2,.func (.func 128) #[] #[],.int .i64 3,.func (.func 129) #[] #[],.int .i64 8,.func (.func 130) #[] #[],.int .i64 7,.func (.func 131) #[] #[],.int .i64 7,.func (.func 132) #[] #[]] 235)=W1 at *
 generalize wc.heap.size=gt at *
 refine wp_loop_rounds 7 ?_
 have q1:W1.cell? ⟨gt,0,none⟩=some (.int .i64 1):=HT1.out.cell 0
 have q2:W1.cell? ⟨gt,1,none⟩=some (.func (.func 127) #[] #[]):=HT1.out.cell 1
 have hn1:(W1.alloc (.cells #[.int .i64 1,.nilFunc] 235)).cell? ⟨W1.heap.size,1,none⟩=some .nilFunc:=(Bl.new W1 235 #[.int .i64 1,.nilFunc]).cell 1
 have hn2:(W1.alloc (.cells #[.int .i64 1,.nilFunc] 235)).frozen? ⟨W1.heap.size,1,none⟩=false:=(Bl.new W1 235 #[.int .i64 1,.nilFunc]).free 1
 have hal:RowKit.Below W1.heap.size W1 (W1.alloc (.cells #[.int .i64 1,.func (.func 127) #[] #[]] 235)):=(Below.refl _ _).alloc (Nat.le_refl _) _
 have HBa:=Lib.hid (HB1.out.trans (hal.mono HB1.out.size))
 have HLa:=Lib.hid (HL1.out.keep hal)
 have HTa:=Lib.hid (HT1.out.keep hal)
 have HXa:Hid (Bl (W1.alloc (.cells #[.int .i64 1,.func (.func 127) #[] #[]] 235)) W1.heap.size 235 #[.int .i64 1,.func (.func 127) #[] #[]]):=Bl.new _ _ _
 have hsf:∀ (wx:World) (a:Addr) (f:FuncId),(store a (.func (.func f) #[] #[])).run Tryz.prog wx=stored Tryz.prog wx a (.func (.func f) #[] #[]) .plain:=fun wx a f=>run_store _ _ _ _ _ rfl
 clear hal
 rw [rounds_succ]
 go_upto_region 6 with (fail)
 clear hn1 hn2 hsf
 clear q1 q2 HB1 HL1 HT1
 generalize W1.alloc (.cells #[.int .i64 1,.func (.func 127) #[] #[]] 235)=V1 at *
 generalize W1.heap.size=gx at *
 have q3:V1.cell? ⟨gx,0,none⟩=some (.int .i64 1):=HXa.out.cell 0
 have q4:V1.cell? ⟨gx,1,none⟩=some (.func (.func 127) #[] #[]):=HXa.out.cell 1
 have q5:V1.cell? ⟨gl,0,none⟩=some (.slice (some ⟨g,0,none⟩) 2 2):=HLa.out.cell 0
 have q6:V1.cell? ⟨gl,1,none⟩=some (.slice none 0 0):=HLa.out.cell 1
 have q7:V1.cell? ⟨gl,2,none⟩=some (.slice D 2 d):=HLa.out.cell 2
 have q8:V1.cell? ⟨gl,3,none⟩=some (.slice none 0 0):=HLa.out.cell 3
 have q9:V1.cell? ⟨gl,4,none⟩=some (.slice none 0 0):=HLa.out.cell 4
 have q10:V1.cell? ⟨gl,5,none⟩=some (.bool false):=HLa.out.cell 5
 have q11:V1.cell? ⟨gl,6,none⟩=some (.string s9401):=HLa.out.cell 6
 have q12:V1.cell? ⟨gl,7,none⟩=some (.slice none 0 0):=HLa.out.cell 7
 go_wp2_with fail
 refine (byTerms_0 s9401 g D d _).mono ?_
 rintro e W2 ⟨rfl,hb⟩
 have HB2:=Lib.hid (HBa.out.trans (hb.mono HBa.out.size))
 have HL2:=Lib.hid (HLa.out.keep hb)
 have HT2:=Lib.hid (HTa.out.keep hb)
 have HXb:=Lib.hid (HXa.out.keep hb)
 clear q3 q4 q5 q6 q7 q8 q9 q10 q11 q12 hb HBa HLa HTa HXa
 have q13:W2.cell? ⟨gx,0,none⟩=some (.int .i64 1):=HXb.out.cell 0
 go_wp2_with fail
 clear q13 HXb
 have q14:W2.cell? ⟨gt,2,none⟩=some (.int .i64 2):=HT2.out.cell 2
 have q15:W2.cell? ⟨gt,3,none⟩=some (.func (.func 128) #[] #[]):=HT2.out.cell 3
 have hn1:(W2.alloc (.cells #[.int .i64 2,.nilFunc] 235)).cell? ⟨W2.heap.size,1,none⟩=some .nilFunc:=(Bl.new W2 235 #[.int .i64 2,.nilFunc]).cell 1
 have hn2:(W2.alloc (.cells #[.int .i64 2,.nilFunc] 235)).frozen? ⟨W2.heap.size,1,none⟩=false:=(Bl.new W2 235 #[.int .i64 2,.nilFunc]).free 1
 have hal:RowKit.Below W2.heap.size W2 (W2.alloc (.cells #[.int .i64 2,.func (.func 128) #[] #[]] 235)):=(Below.refl _ _).alloc (Nat.le_refl _) _
 have HBa:=Lib.hid (HB2.out.trans (hal.mono HB2.out.size))
 have HLa:=Lib.hid (HL2.out.keep hal)
 have HTa:=Lib.hid (HT2.out.keep hal)
 have HXa:Hid (Bl (W2.alloc (.cells #[.int .i64 2,.func (.func 128) #[] #[]] 235)) W2.heap.size 235 #[.int .i64 2,.func (.func 128) #[] #[]]):=Bl.new _ _ _
 have hsf:∀ (wx:World) (a:Addr) (f:FuncId),(store a (.func (.func f) #[] #[])).run Tryz.prog wx=stored Tryz.prog wx a (.func (.func f) #[] #[]) .plain:=fun wx a f=>run_store _ _ _ _ _ rfl
 clear hal
 rw [rounds_succ]
 go_upto_region 6 with (fail)
 clear hn1 hn2 hsf
 clear q14 q15 HB2 HL2 HT2
 generalize W2.alloc (.cells #[.int .i64 2,.func (.func 128) #[] #[]] 235)=V2 at *
 generalize W2.heap.size=gx at *
 have q16:V2.cell? ⟨gx,0,none⟩=some (.int .i64 2):=HXa.out.cell 0
 have q17:V2.cell? ⟨gx,1,none⟩=some (.func (.func 128) #[] #[]):=HXa.out.cell 1
 have q18:V2.cell? ⟨gl,0,none⟩=some (.slice (some ⟨g,0,none⟩) 2 2):=HLa.out.cell 0
 have q19:V2.cell? ⟨gl,1,none⟩=some (.slice none 0 0):=HLa.out.cell 1
 have q20:V2.cell? ⟨gl,2,none⟩=some (.slice D 2 d):=HLa.out.cell 2
 have q21:V2.cell? ⟨gl,3,none⟩=some (.slice none 0 0):=HLa.out.cell 3
 have q22:V2.cell? ⟨gl,4,none⟩=some (.slice none 0 0):=HLa.out.cell 4
 have q23:V2.cell? ⟨gl,5,none⟩=some (.bool false):=HLa.out.cell 5
 have q24:V2.cell? ⟨gl,6,none⟩=some (.string s9401):=HLa.out.cell 6
 have q25:V2.cell? ⟨gl,7,none⟩=some (.slice none 0 0):=HLa.out.cell 7
 go_wp2_with fail
 refine (asComplete_0 s9401 g D d _).mono ?_
 rintro e W3 ⟨rfl,hb⟩
 have HB3:=Lib.hid (HBa.out.trans (hb.mono HBa.out.size))
 have HL3:=Lib.hid (HLa.out.keep hb)
 have HT3:=Lib.hid (HTa.out.keep hb)
 have HXb:=Lib.hid (HXa.out.keep hb)
 clear q16 q17 q18 q19 q20 q21 q22 q23 q24 q25 hb HBa HLa HTa HXa
 have q26:W3.cell? ⟨gx,0,none⟩=some (.int .i64 2):=HXb.out.cell 0
 go_wp2_with fail
 clear q26 HXb
 have q27:W3.cell? ⟨gt,4,none⟩=some (.int .i64 3):=HT3.out.cell 4
 have q28:W3.cell? ⟨gt,5,none⟩=some (.func (.func 129) #[] #[]):=HT3.out.cell 5
 have hn1:(W3.alloc (.cells #[.int .i64 3,.nilFunc] 235)).cell? ⟨W3.heap.size,1,none⟩=some .nilFunc:=(Bl.new W3 235 #[.int .i64 3,.nilFunc]).cell 1
 have hn2:(W3.alloc (.cells #[.int .i64 3,.nilFunc] 235)).frozen? ⟨W3.heap.size,1,none⟩=false:=(Bl.new W3 235 #[.int .i64 3,.nilFunc]).free 1
 have hal:RowKit.Below W3.heap.size W3 (W3.alloc (.cells #[.int .i64 3,.func (.func 129) #[] #[]] 235)):=(Below.refl _ _).alloc (Nat.le_refl _) _
 have HBa:=Lib.hid (HB3.out.trans (hal.mono HB3.out.size))
 have HLa:=Lib.hid (HL3.out.keep hal)
 have HTa:=Lib.hid (HT3.out.keep hal)
 have HXa:Hid (Bl (W3.alloc (.cells #[.int .i64 3,.func (.func 129) #[] #[]] 235)) W3.heap.size 235 #[.int .i64 3,.func (.func 129) #[] #[]]):=Bl.new _ _ _
 have hsf:∀ (wx:World) (a:Addr) (f:FuncId),(store a (.func (.func f) #[] #[])).run Tryz.prog wx=stored Tryz.prog wx a (.func (.func f) #[] #[]) .plain:=fun wx a f=>run_store _ _ _ _ _ rfl
 clear hal
 rw [rounds_succ]
 go_upto_region 6 with (fail)
 clear hn1 hn2 hsf
 clear q27 q28 HB3 HL3 HT3
 generalize W3.alloc (.cells #[.int .i64 3,.func (.func 129) #[] #[]] 235)=V3 at *
 generalize W3.heap.size=gx at *
 have q29:V3.cell? ⟨gx,0,none⟩=some (.int .i64 3):=HXa.out.cell 0
 have q30:V3.cell? ⟨gx,1,none⟩=some (.func (.func 129) #[] #[]):=HXa.out.cell 1
 have q31:V3.cell? ⟨gl,0,none⟩=some (.slice (some ⟨g,0,none⟩) 2 2):=HLa.out.cell 0
 have q32:V3.cell? ⟨gl,1,none⟩=some (.slice none 0 0):=HLa.out.cell 1
 have q33:V3.cell? ⟨gl,2,none⟩=some (.slice D 2 d):=HLa.out.cell 2
 have q34:V3.cell? ⟨gl,3,none⟩=some (.slice none 0 0):=HLa.out.cell 3
 have q35:V3.cell? ⟨gl,4,none⟩=some (.slice none 0 0):=HLa.out.cell 4
 have q36:V3.cell? ⟨gl,5,none⟩=some (.bool false):=HLa.out.cell 5
 have q37:V3.cell? ⟨gl,6,none⟩=some (.string s9401):=HLa.out.cell 6
 have q38:V3.cell? ⟨gl,7,none⟩=some (.slice none 0 0):=HLa.out.cell 7
 go_wp2_with fail
 refine (byChar_0 s9401 g D d _).mono ?_
 rintro e W4 ⟨rfl,hb⟩
 have HB4:=Lib.hid (HBa.out.trans (hb.mono HBa.out.size))
 have HL4:=Lib.hid (HLa.out.keep hb)
 have HT4:=Lib.hid (HTa.out.keep hb)
 have HXb:=Lib.hid (HXa.out.keep hb)
 clear q29 q30 q31 q32 q33 q34 q35 q36 q37 q38 hb HBa HLa HTa HXa
 have q39:W4.cell? ⟨gx,0,none⟩=some (.int .i64 3):=HXb.out.cell 0
 go_wp2_with fail
 clear q39 HXb
 have q40:W4.cell? ⟨gt,6,none⟩=some (.int .i64 8):=HT4.out.cell 6
 have q41:W4.cell? ⟨gt,7,none⟩=some (.func (.func 130) #[] #[]):=HT4.out.cell 7
 have hn1:(W4.alloc (.cells #[.int .i64 8,.nilFunc] 235)).cell? ⟨W4.heap.size,1,none⟩=some .nilFunc:=(Bl.new W4 235 #[.int .i64 8,.nilFunc]).cell 1
 have hn2:(W4.alloc (.cells #[.int .i64 8,.nilFunc] 235)).frozen? ⟨W4.heap.size,1,none⟩=false:=(Bl.new W4 235 #[.int .i64 8,.nilFunc]).free 1
 have hal:RowKit.Below W4.heap.size W4 (W4.alloc (.cells #[.int .i64 8,.func (.func 130) #[] #[]] 235)):=(Below.refl _ _).alloc (Nat.le_refl _) _
 have HBa:=Lib.hid (HB4.out.trans (hal.mono HB4.out.size))
 have HLa:=Lib.hid (HL4.out.keep hal)
 have HTa:=Lib.hid (HT4.out.keep hal)
 have HXa:Hid (Bl (W4.alloc (.cells #[.int .i64 8,.func (.func 130) #[] #[]] 235)) W4.heap.size 235 #[.int .i64 8,.func (.func 130) #[] #[]]):=Bl.new _ _ _
 have hsf:∀ (wx:World) (a:Addr) (f:FuncId),(store a (.func (.func f) #[] #[])).run Tryz.prog wx=stored Tryz.prog wx a (.func (.func f) #[] #[]) .plain:=fun wx a f=>run_store _ _ _ _ _ rfl
 clear hal
 rw [rounds_succ]
 go_upto_region 6 with (fail)
 clear hn1 hn2 hsf
 clear q40 q41 HB4 HL4 HT4
 generalize W4.alloc (.cells #[.int .i64 8,.func (.func 130) #[] #[]] 235)=V4 at *
 generalize W4.heap.size=gx at *
 have q42:V4.cell? ⟨gx,0,none⟩=some (.int .i64 8):=HXa.out.cell 0
 have q43:V4.cell? ⟨gx,1,none⟩=some (.func (.func 130) #[] #[]):=HXa.out.cell 1
 have q44:V4.cell? ⟨gl,0,none⟩=some (.slice (some ⟨g,0,none⟩) 2 2):=HLa.out.cell 0
 have q45:V4.cell? ⟨gl,1,none⟩=some (.slice none 0 0):=HLa.out.cell 1
 have q46:V4.cell? ⟨gl,2,none⟩=some (.slice D 2 d):=HLa.out.cell 2
 have q47:V4.cell? ⟨gl,3,none⟩=some (.slice none 0 0):=HLa.out.cell 3
 have q48:V4.cell? ⟨gl,4,none⟩=some (.slice none 0 0):=HLa.out.cell 4
 have q49:V4.cell? ⟨gl,5,none⟩=some (.bool false):=HLa.out.cell 5
 have q50:V4.cell? ⟨gl,6,none⟩=some (.string s9401):=HLa.out.cell 6
 have q51:V4.cell? ⟨gl,7,none⟩=some (.slice none 0 0):=HLa.out.cell 7
 go_wp2_with fail
 refine (residual_0 g D d _).mono ?_
 rintro e W5 ⟨rfl,hb⟩
 have HB5:=Lib.hid (HBa.out.trans (hb.mono HBa.out.size))
 have HL5:=Lib.hid (HLa.out.keep hb)
 have HT5:=Lib.hid (HTa.out.keep hb)
 have HXb:=Lib.hid (HXa.out.keep hb)
 clear q42 q43 q44 q45 q46 q47 q48 q49 q50 q51 hb HBa HLa HTa HXa
 have q52:W5.cell? ⟨gx,0,none⟩=some (.int .i64 8):=HXb.out.cell 0
 go_wp2_with fail
 clear q52 HXb
 have q53:W5.cell? ⟨gt,8,none⟩=some (.int .i64 7):=HT5.out.cell 8
 have q54:W5.cell? ⟨gt,9,none⟩=some (.func (.func 131) #[] #[]):=HT5.out.cell 9
 have hn1:(W5.alloc (.cells #[.int .i64 7,.nilFunc] 235)).cell? ⟨W5.heap.size,1,none⟩=some .nilFunc:=(Bl.new W5 235 #[.int .i64 7,.nilFunc]).cell 1
 have hn2:(W5.alloc (.cells #[.int .i64 7,.nilFunc] 235)).frozen? ⟨W5.heap.size,1,none⟩=false:=(Bl.new W5 235 #[.int .i64 7,.nilFunc]).free 1
 have hal:RowKit.Below W5.heap.size W5 (W5.alloc (.cells #[.int .i64 7,.func (.func 131) #[] #[]] 235)):=(Below.refl _ _).alloc (Nat.le_refl _) _
 have HBa:=Lib.hid (HB5.out.trans (hal.mono HB5.out.size))
 have HLa:=Lib.hid (HL5.out.keep hal)
 have HTa:=Lib.hid (HT5.out.keep hal)
 have HXa:Hid (Bl (W5.alloc (.cells #[.int .i64 7,.func (.func 131) #[] #[]] 235)) W5.heap.size 235 #[.int .i64 7,.func (.func 131) #[] #[]]):=Bl.new _ _ _
 have hsf:∀ (wx:World) (a:Addr) (f:FuncId),(store a (.func (.func f) #[] #[])).run Tryz.prog wx=stored Tryz.prog wx a (.func (.func f) #[] #[]) .plain:=fun wx a f=>run_store _ _ _ _ _ rfl
 clear hal
 rw [rounds_succ]
 go_upto_region 6 with (fail)
 clear hn1 hn2 hsf
 clear q53 q54 HB5 HL5 HT5
 generalize W5.alloc (.cells #[.int .i64 7,.func (.func 131) #[] #[]] 235)=V5 at *
 generalize W5.heap.size=gx at *
 have q55:V5.cell? ⟨gx,0,none⟩=some (.int .i64 7):=HXa.out.cell 0
 have q56:V5.cell? ⟨gx,1,none⟩=some (.func (.func 131) #[] #[]):=HXa.out.cell 1
 have q57:V5.cell? ⟨gl,0,none⟩=some (.slice (some ⟨g,0,none⟩) 2 2):=HLa.out.cell 0
 have q58:V5.cell? ⟨gl,1,none⟩=some (.slice none 0 0):=HLa.out.cell 1
 have q59:V5.cell? ⟨gl,2,none⟩=some (.slice D 2 d):=HLa.out.cell 2
 have q60:V5.cell? ⟨gl,3,none⟩=some (.slice none 0 0):=HLa.out.cell 3
 have q61:V5.cell? ⟨gl,4,none⟩=some (.slice none 0 0):=HLa.out.cell 4
 have q62:V5.cell? ⟨gl,5,none⟩=some (.bool false):=HLa.out.cell 5
 have q63:V5.cell? ⟨gl,6,none⟩=some (.string s9401):=HLa.out.cell 6
 have q64:V5.cell? ⟨gl,7,none⟩=some (.slice none 0 0):=HLa.out.cell 7
 go_wp2_with fail
 refine (akin_0 s9401 g D d _).mono ?_
 rintro e W6 ⟨rfl,hb⟩
 have HB6:=Lib.hid (HBa.out.trans (hb.mono HBa.out.size))
 have HL6:=Lib.hid (HLa.out.keep hb)
 have HT6:=Lib.hid (HTa.out.keep hb)
 have HXb:=Lib.hid (HXa.out.keep hb)
 clear q55 q56 q57 q58 q59 q60 q61 q62 q63 q64 hb HBa HLa HTa HXa
 have q65:W6.cell? ⟨gx,0,none⟩=some (.int .i64 7):=HXb.out.cell 0
 go_wp2_with fail
 clear q65 HXb
 have q66:W6.cell? ⟨gt,10,none⟩=some (.int .i64 7):=HT6.out.cell 10
 have q67:W6.cell? ⟨gt,11,none⟩=some (.func (.func 132) #[] #[]):=HT6.out.cell 11
 have hn1:(W6.alloc (.cells #[.int .i64 7,.nilFunc] 235)).cell? ⟨W6.heap.size,1,none⟩=some .nilFunc:=(Bl.new W6 235 #[.int .i64 7,.nilFunc]).cell 1
 have hn2:(W6.alloc (.cells #[.int .i64 7,.nilFunc] 235)).frozen? ⟨W6.heap.size,1,none⟩=false:=(Bl.new W6 235 #[.int .i64 7,.nilFunc]).free 1
 have hal:RowKit.Below W6.heap.size W6 (W6.alloc (.cells #[.int .i64 7,.func (.func 132) #[] #[]] 235)):=(Below.refl _ _).alloc (Nat.le_refl _) _
 have HBa:=Lib.hid (HB6.out.trans (hal.mono HB6.out.size))
 have HLa:=Lib.hid (HL6.out.keep hal)
 have HTa:=Lib.hid (HT6.out.keep hal)
 have HXa:Hid (Bl (W6.alloc (.cells #[.int .i64 7,.func (.func 132) #[] #[]] 235)) W6.heap.size 235 #[.int .i64 7,.func (.func 132) #[] #[]]):=Bl.new _ _ _
 have hsf:∀ (wx:World) (a:Addr) (f:FuncId),(store a (.func (.func f) #[] #[])).run Tryz.prog wx=stored Tryz.prog wx a (.func (.func f) #[] #[]) .plain:=fun wx a f=>run_store _ _ _ _ _ rfl
 clear hal
 rw [rounds_succ]
 go_upto_region 6 with (fail)
 clear hn1 hn2 hsf
 clear q66 q67 HB6 HL6 HT6
 generalize W6.alloc (.cells #[.int .i64 7,.func (.func 132) #[] #[]] 235)=V6 at *
 generalize W6.heap.size=gx at *
 have q68:V6.cell? ⟨gx,0,none⟩=some (.int .i64 7):=HXa.out.cell 0
 have q69:V6.cell? ⟨gx,1,none⟩=some (.func (.func 132) #[] #[]):=HXa.out.cell 1
 have q70:V6.cell? ⟨gl,0,none⟩=some (.slice (some ⟨g,0,none⟩) 2 2):=HLa.out.cell 0
 have q71:V6.cell? ⟨gl,1,none⟩=some (.slice none 0 0):=HLa.out.cell 1
 have q72:V6.cell? ⟨gl,2,none⟩=some (.slice D 2 d):=HLa.out.cell 2
 have q73:V6.cell? ⟨gl,3,none⟩=some (.slice none 0 0):=HLa.out.cell 3
 have q74:V6.cell? ⟨gl,4,none⟩=some (.slice none 0 0):=HLa.out.cell 4
 have q75:V6.cell? ⟨gl,5,none⟩=some (.bool false):=HLa.out.cell 5
 have q76:V6.cell? ⟨gl,6,none⟩=some (.string s9401):=HLa.out.cell 6
 have q77:V6.cell? ⟨gl,7,none⟩=some (.slice none 0 0):=HLa.out.cell 7
 go_wp2_with fail
 refine (all_0 g D d _).mono ?_
 rintro e W7 ⟨rfl,hb⟩
 have HB7:=Lib.hid (HBa.out.trans (hb.mono HBa.out.size))
 have HL7:=Lib.hid (HLa.out.keep hb)
 have HT7:=Lib.hid (HTa.out.keep hb)
 have HXb:=Lib.hid (HXa.out.keep hb)
 clear q68 q69 q70 q71 q72 q73 q74 q75 q76 q77 hb HBa HLa HTa HXa
 have q78:W7.cell? ⟨gx,0,none⟩=some (.int .i64 7):=HXb.out.cell 0
 go_wp2_with fail
 clear q78 HXb
 rw [rounds_succ]
 go_wp2_with fail
 go_ret2
 exact⟨rfl,HB7.out⟩
end Go.Proofs.YtbokkeooahodaaaGreatDoor

/-
  A part of the proof of TopQuotaDayCardSaid: lemmas and contracts of functions that the law calls. No statement of the seat is proved here. Conditions: as each says.
-/
import Derived.Test.YtbokkeooahodaaaGreatDoorQAP
import Derived.Test.YtbokkeooahodaaaGreatDoorQAO
namespace Go.Proofs.YtbokkeooahodaaaGreatDoor
open Go.RowKit
set_option linter.unusedVariables false
structure ItOk (x:It):Prop where
 code:x.code.size≤1000
 org:x.org.size≤1000
 qty:0≤x.qty∧x.qty≤1000000000
 val:0≤x.val∧x.val≤1000000000000
 gr:0≤x.gr∧x.gr≤x.qty
def ItRes (w:World) (e:Ending) (w':World):Prop:=∃ x:It,e=.returned (.agg #[.string x.code,.string x.org,.bool x.proof,.int .i64 x.co,.int .i64 x.day,.int .i64 x.qty,.int .i64 x.val,.int .i64 x.gr])∧ItOk x∧RowKit.Below w.heap.size w w'
structure ImB (w:World) (gs:Nat) (LA:Option Addr) (m lc:Nat) (xs:List Int) (gx:Nat) (x:It) (wx:World):Prop where
 src:SrcOk w wx gs LA m lc xs
 r:Bl wx w.heap.size 33 #[.string ⟨#[]⟩,.string ⟨#[]⟩,.bool false,.int .i64 0,.int .i64 0,.int .i64 0,.int .i64 0,.int .i64 0]
 b:Bl wx gx 33 #[.string x.code,.string x.org,.bool x.proof,.int .i64 x.co,.int .i64 x.day,.int .i64 x.qty,.int .i64 x.val,.int .i64 x.gr]
 ne:w.heap.size<gs∧gs<gx
 ok:ItOk x
section
variable {w wx w':World} {gs:Nat} {LA:Option Addr} {m lc:Nat} {xs:List Int} {gx:Nat} {x:It}
theorem ImB.go (h:ImB w gs LA m lc xs gx x wx) (ht:TrE gs LA m lc wx w'):ImB w gs LA m lc xs gx x w' :=
 ⟨h.src.tr ht,ht.bl h.r (by have:=h.ne;omega),ht.bl h.b (by have:=h.ne;omega),h.ne,h.ok⟩
theorem ImB.put (h:ImB w gs LA m lc xs gx x wx) (ho:Only gx wx w') {y:It} (hb:Bl w' gx 33 #[.string y.code,.string y.org,.bool y.proof,.int .i64 y.co,.int .i64 y.day,.int .i64 y.qty,.int .i64 y.val,.int .i64 y.gr]) (hy:ItOk y):ImB w gs LA m lc xs gx y w':=by
 have hn:=h.ne
 exact⟨⟨h.src.src.elim fun J hJ=>⟨J,ho.bl hJ (by omega)⟩,h.src.ints,h.src.below.trans (ho.below (by omega)),h.src.base,h.src.few⟩,ho.bl h.r (by omega),hb,h.ne,hy⟩
end
theorem FindsG.wrote {G:Nat→Prop} {zz:World→Prop} {js:List Job} {a0:Act} {w0:World} {fact:Nat→List Value→Value→Prop} {res:Nat→List Value→Value→List Nat→World→Prop} {i:Nat} {j:Job} {a:Act} {w w':World} {vs:Nat→Value} {fp:Nat→List Nat} {v:Value}
  (h:FindsG G zz js a0 w0 fact res i j a w vs fp) (k:Nat) (hk':j.eats.contains k=true) {g:Nat} (hf:fp k = [g]) (hO:Only g w w') (h1:fact i (j.deps.map vs) v) (h2:res i (j.deps.map vs) v [g] w'):LeavesG G zz w0 fact res i j w vs fp v [g] w':=by
 have hk:k∈j.eats:=by simpa using hk'
 have hg:=h.own k hk g (by rw [hf];simp)
 have hb:=h.below
 refine⟨⟨hb.old,hb.loc,hO.os.trans hb.os,hO.tape.trans hb.tape,hO.output.trans hb.output,by rw [hO.size];exact hb.size,fun q hq hn=>(hO.block q (by omega)).trans (hb.block q hq hn),hb.loc w w' (fun q hq=>hO.block q (fun e=>by have:=hb.old q hq;omega)) hb.is⟩,by rw [hO.size];exact Nat.le_refl _,fun b _ hb2 hn=>hO.block b (fun e=>hn k hk (by rw [hf,e];simp)),h1,h2,fun b hb2=>?_⟩
 rw [List.mem_singleton] at hb2
 subst hb2
 exact⟨by rw [hO.size];exact hg.2,.inl ⟨k,hk,by rw [hf];simp⟩⟩
theorem FindsG.kp {G:Nat→Prop} {zz:World→Prop} {js:List Job} {a0:Act} {w0:World} {fact:Nat→List Value→Value→Prop} {res:Nat→List Value→Value→List Nat→World→Prop} {i:Nat} {j:Job} {a:Act} {w w':World} {vs:Nat→Value} {fp:Nat→List Nat} {v:Value}
  (h:FindsG G zz js a0 w0 fact res i j a w vs fp) {k:Nat} (hk:G k) (ho:Kp k w w') (hz:zz w') (h1:fact i (j.deps.map vs) v) (h2:res i (j.deps.map vs) v [] w'):LeavesG G zz w0 fact res i j w vs fp v [] w' :=
 ⟨⟨h.below.old,h.below.loc,ho.os.trans h.below.os,ho.tape.trans h.below.tape,ho.output.trans h.below.output,Nat.le_trans h.below.size ho.size,fun g hg hn=>(ho.block g (Nat.lt_of_lt_of_le hg h.below.size) (fun e=>hn (e ▸ hk))).trans (h.below.block g hg hn),hz⟩,ho.size,fun g hn hg _=>ho.block g hg (fun e=>hn (e ▸ hk)),h1,h2,fun g hg=>by cases hg⟩
def ElS:List Value→Value→List Nat→World→Prop:=fun _ v f w=>∃ g q,v=.pointer (some ⟨g,q,none⟩)∧q<6∧f = [g]∧Bl w g 9 #[.string ⟨#[65,65]⟩,.string ⟨#[66,66]⟩,.string ⟨#[67,67]⟩,.string ⟨#[68,68]⟩,.string ⟨#[69,69]⟩,.string ⟨#[70,70]⟩]
theorem ElS.loc {G:Nat→Prop} {zz:World→Prop} {w0:World}:LocG G zz w0 ElS:=by
 rintro l v f w w' h1 h2 h3 h4 ⟨g,q,rfl,hq,rfl,h5⟩
 exact⟨g,q,rfl,hq,rfl,(h4 g (by simp)).2.2.trans h5⟩
theorem six_at {w:World} {g q:Nat} (h:Bl w g 9 #[.string ⟨#[65,65]⟩,.string ⟨#[66,66]⟩,.string ⟨#[67,67]⟩,.string ⟨#[68,68]⟩,.string ⟨#[69,69]⟩,.string ⟨#[70,70]⟩]) (hq:q<6):∃ s:ByteArray,w.cell? ⟨g,q,none⟩=some (.string s)∧s.size≤1000:=by
 rcases (show q=0∨q=1∨q=2∨q=3∨q=4∨q=5 by omega) with rfl | rfl | rfl | rfl | rfl | rfl
 ·exact⟨_,h.cell 0,by decide⟩
 ·exact⟨_,h.cell 1,by decide⟩
 ·exact⟨_,h.cell 2,by decide⟩
 ·exact⟨_,h.cell 3,by decide⟩
 ·exact⟨_,h.cell 4,by decide⟩
 ·exact⟨_,h.cell 5,by decide⟩
def ItR:List Value→Value→List Nat→World→Prop:=fun vs _ f w=>∃ g x,vs[0]? = some (.pointer (some ⟨g,0,none⟩))∧f = [g]∧Bl w g 33 #[.string x.code,.string x.org,.bool x.proof,.int .i64 x.co,.int .i64 x.day,.int .i64 x.qty,.int .i64 x.val,.int .i64 x.gr]∧ItOk x∧x.gr=0
theorem ItR.loc {G:Nat→Prop} {zz:World→Prop} {w0:World}:LocG G zz w0 ItR:=by
 rintro l v f w w' h1 h2 h3 h4 ⟨g,x,e,rfl,h5,h6⟩
 exact⟨g,x,e,rfl,(h4 g (by simp)).2.2.trans h5,h6⟩
theorem only8 (g:Nat) (w:World) (a b c d e f h i:Value):Only g w ((((((((w.setCell ⟨g,0,none⟩ a).setCell ⟨g,1,none⟩ b).setCell ⟨g,2,none⟩ c).setCell ⟨g,3,none⟩ d).setCell ⟨g,4,none⟩ e).setCell ⟨g,5,none⟩ f).setCell ⟨g,6,none⟩ h).setCell ⟨g,7,none⟩ i) :=
 ((((((((Only.refl g w).setCell 0 a).setCell 1 b).setCell 2 c).setCell 3 d).setCell 4 e).setCell 5 f).setCell 6 h).setCell 7 i
theorem set8_bl {w:World} {g:Nat} {T:TypeId} {z0 z1 z2 z3 z4 z5 z6 z7:Value} (hb:Bl w g T #[z0,z1,z2,z3,z4,z5,z6,z7]) (a b c d e f h i:Value):Bl ((((((((w.setCell ⟨g,0,none⟩ a).setCell ⟨g,1,none⟩ b).setCell ⟨g,2,none⟩ c).setCell ⟨g,3,none⟩ d).setCell ⟨g,4,none⟩ e).setCell ⟨g,5,none⟩ f).setCell ⟨g,6,none⟩ h).setCell ⟨g,7,none⟩ i) g T #[a,b,c,d,e,f,h,i]:=by
 have:=(((((((hb.put 0 a).put 1 b).put 2 c).put 3 d).put 4 e).put 5 f).put 6 h).put 7 i
 simpa using this
set_option maxRecDepth 100000 in
set_option maxHeartbeats 16000000 in
theorem item20_any (A1:Option Addr) (n1 c1:Nat) (xs1:List Int) (w:World) (h1:Ints w A1 n1 xs1) (hnc1:n1≤c1) (hcm1:c1≤9223372036854775807) :
  Calls Tryz.prog 7 #[.slice A1 n1 c1] w (ItRes w):=by
 have hT:=h1.take (m:=min n1 20) (by omega)
 obtain⟨m,hm⟩:∃ m,m=min n1 20:=⟨_,rfl⟩
 have hb1:RowKit.Below w.heap.size w (w.alloc (.cells #[.string ⟨#[]⟩,.string ⟨#[]⟩,.bool false,.int .i64 0,.int .i64 0,.int .i64 0,.int .i64 0,.int .i64 0] 33)):=(Below.refl _ _).alloc (Nat.le_refl _) _
 have HC:Hid (Calls Tryz.prog 15 #[.slice A1 n1 c1,.int .i64 20] (w.alloc (.cells #[.string ⟨#[]⟩,.string ⟨#[]⟩,.bool false,.int .i64 0,.int .i64 0,.int .i64 0,.int .i64 0,.int .i64 0] 33)) fun e w'=>e=.returned (.slice A1 m c1)∧w.alloc (.cells #[.string ⟨#[]⟩,.string ⟨#[]⟩,.bool false,.int .i64 0,.int .i64 0,.int .i64 0,.int .i64 0,.int .i64 0] 33)=w'):=by
  rw [hm]
  exact cut_any A1 n1 c1 20 xs1 _ (h1.below hb1) hnc1 hcm1 (by omega) (by omega)
 rw [← hm] at hT
 have hm1:m≤20:=by omega
 obtain⟨xs,hxs⟩:∃ xs,xs1.take m=xs:=⟨_,rfl⟩
 rw [hxs] at hT
 have HI:=Lib.hid hT
 have HR:Hid (Bl (w.alloc (.cells #[.string ⟨#[]⟩,.string ⟨#[]⟩,.bool false,.int .i64 0,.int .i64 0,.int .i64 0,.int .i64 0,.int .i64 0] 33)) w.heap.size 33 #[.string ⟨#[]⟩,.string ⟨#[]⟩,.bool false,.int .i64 0,.int .i64 0,.int .i64 0,.int .i64 0,.int .i64 0]):=Bl.new _ _ _
 have s1:(w.alloc (.cells #[.string ⟨#[]⟩,.string ⟨#[]⟩,.bool false,.int .i64 0,.int .i64 0,.int .i64 0,.int .i64 0,.int .i64 0] 33)).heap.size=w.heap.size+1:=by simp
 have HB1:=Lib.hid hb1
 clear hm hxs hT h1 hnc1 hcm1 hb1
 go_enter Tryz.func7,Tryz.ntmps7
 go_upto_region 1 with (fail)
 generalize w.alloc (.cells #[.string ⟨#[]⟩,.string ⟨#[]⟩,.bool false,.int .i64 0,.int .i64 0,.int .i64 0,.int .i64 0,.int .i64 0] 33)=W1 at *
 go_wp2_with fail
 refine HC.out.mono ?_
 rintro e wz ⟨rfl,rfl⟩
 have HS0:Hid (SrcOk w (W1.alloc (.cells #[.slice A1 m c1,.int .i64 0] 55)) (w.heap.size+1) A1 m c1 xs):=⟨⟨0,by rw [← s1];exact Bl.new _ _ _⟩,HI.out,HB1.out.alloc HB1.out.size _,by omega,by omega⟩
 have HR0:Hid (Bl (W1.alloc (.cells #[.slice A1 m c1,.int .i64 0] 55)) w.heap.size 33 #[.string ⟨#[]⟩,.string ⟨#[]⟩,.bool false,.int .i64 0,.int .i64 0,.int .i64 0,.int .i64 0,.int .i64 0]):=Bl.alloc HR.out _
 obtain⟨gs,hgs⟩:∃ gs,w.heap.size+1=gs:=⟨_,rfl⟩
 rw [hgs] at HS0
 clear HC HR HB1
 go_upto_region 2 with (fail)
 try rw [s1]
 try rw [hgs]
 clear s1
 have hgl:w.heap.size<gs:=by omega
 clear hgs
 generalize W1.alloc (.cells #[.slice A1 m c1,.int .i64 0] 55)=W2 at *
 have RB:∀ wx,RelG (fun g=>g=gs) (fun wx:World=>∃ J,Src wx gs A1 m c1 J) W2 wx→SrcOk w wx gs A1 m c1 xs:=fun wx hr=>⟨hr.is,HI.out,HS0.out.below.trans ⟨hr.os,hr.tape,hr.output,hr.size,fun k hk=>hr.block k (by have:=HS0.out.below.size;omega) (fun e=>by omega)⟩,HS0.out.base,HS0.out.few⟩
 have HNX:Hid (∀ (k:Int) wx,RelG (fun g=>g=gs) (fun wx:World=>∃ J,Src wx gs A1 m c1 J) W2 wx→0<k→k≤5000000→Calls Tryz.prog 16 #[.pointer (some ⟨gs,0,none⟩),.int .i64 k] wx fun e w'=>∃ v:Int,e=.returned (.int .i64 v)∧(0≤v∧v≤k - 1)∧TrE gs A1 m c1 wx w'):=fun k wx hr h1 h2=>next20 (RB wx hr) k h1 (by omega)
 have HCO:Hid (∀ wx,RelG (fun g=>g=gs) (fun wx:World=>∃ J,Src wx gs A1 m c1 J) W2 wx→Calls Tryz.prog 18 #[.pointer (some ⟨gs,0,none⟩),.int .i64 8] wx (CdRes gs A1 m c1 wx)):=fun wx hr=>code20 8 (by decide) (RB wx hr)
 have HCN:Hid (∀ wx:World,Calls Tryz.prog 19 #[] wx fun e w'=>e=.returned (.slice (some ⟨wx.heap.size,0,none⟩) 6 6)∧w'=wx.alloc (.cells #[.string ⟨#[65,65]⟩,.string ⟨#[66,66]⟩,.string ⟨#[67,67]⟩,.string ⟨#[68,68]⟩,.string ⟨#[69,69]⟩,.string ⟨#[70,70]⟩] 9)):=fun wx=>countries20 wx
 clear RB
 refine wp_region_rowsG [
   ⟨⟨some 9,[],[]⟩,fun _ v=>v=.pointer (some ⟨gs,0,none⟩),NoRG⟩,
   ⟨⟨some 10,[0],[]⟩,fun _ v=>∃ s:ByteArray,v=.string s∧s.size≤1000,NoRG⟩,
   ⟨⟨some 11,[],[]⟩,NoF,LitRG 9 #[.string ⟨#[65,65]⟩,.string ⟨#[66,66]⟩,.string ⟨#[67,67]⟩,.string ⟨#[68,68]⟩,.string ⟨#[69,69]⟩,.string ⟨#[70,70]⟩] 6⟩,
   ⟨⟨some 12,[],[]⟩,fun _ v=>v=.pointer (some ⟨gs,0,none⟩),NoRG⟩,
   ⟨⟨some 13,[3],[]⟩,fun _ v=>∃ q:Nat,v=.int .i64 (q:Int)∧q<4,NoRG⟩,
   ⟨⟨some 14,[2,4],[2]⟩,NoF,ElS⟩,
   ⟨⟨some 15,[5],[5]⟩,fun _ v=>∃ s:ByteArray,v=.string s∧s.size≤1000,NoRG⟩,
   ⟨⟨some 16,[],[]⟩,fun _ v=>v=.pointer (some ⟨gs,0,none⟩),NoRG⟩,
   ⟨⟨some 17,[7],[]⟩,fun _ v=>∃ x:Int,v=.int .i64 x∧0≤x∧x≤1,NoRG⟩,
   ⟨⟨some 18,[8],[]⟩,fun _ v=>∃ b:Bool,v=.bool b,NoRG⟩,
   ⟨⟨some 19,[],[]⟩,fun _ v=>v=.pointer (some ⟨gs,0,none⟩),NoRG⟩,
   ⟨⟨some 20,[10],[]⟩,fun _ v=>∃ x:Int,v=.int .i64 x∧0≤x∧x≤2,NoRG⟩,
   ⟨⟨some 21,[],[]⟩,fun _ v=>v=.pointer (some ⟨gs,0,none⟩),NoRG⟩,
   ⟨⟨some 22,[12],[]⟩,fun _ v=>∃ x:Int,v=.int .i64 x∧0≤x∧x≤40,NoRG⟩,
   ⟨⟨some 23,[],[]⟩,fun _ v=>v=.pointer (some ⟨gs,0,none⟩),NoRG⟩,
   ⟨⟨some 24,[14],[]⟩,fun _ v=>∃ x:Int,v=.int .i64 x∧0≤x∧x≤999,NoRG⟩,
   ⟨⟨some 25,[],[]⟩,fun _ v=>v=.pointer (some ⟨gs,0,none⟩),NoRG⟩,
   ⟨⟨some 26,[16],[]⟩,fun _ v=>∃ x:Int,v=.int .i64 x∧0≤x∧x≤999999,NoRG⟩,
   ⟨⟨some 27,[1,6,9,11,13,15,17],[]⟩,fun _ v=>∃ x:It,v=.agg #[.string x.code,.string x.org,.bool x.proof,.int .i64 x.co,.int .i64 x.day,.int .i64 x.qty,.int .i64 x.val,.int .i64 x.gr]∧ItOk x∧x.gr=0,NoRG⟩,
   ⟨⟨some 4,[],[]⟩,NoF,PtrRG 33 #[.string ⟨#[]⟩,.string ⟨#[]⟩,.bool false,.int .i64 0,.int .i64 0,.int .i64 0,.int .i64 0,.int .i64 0]⟩,
   ⟨⟨none,[19,18],[19]⟩,NoF,ItR⟩] (RelG.start (G:=(fun g=>g=gs)) (zz:=(fun wx:World=>∃ J,Src wx gs A1 m c1 J)) (fun g hg=>by subst hg;exact HS0.out.lt) (fun x y hxy hz=>by obtain⟨J,hJ⟩:=hz;exact⟨J,(hxy gs rfl).trans hJ⟩) HS0.out.src) (by kernel_rfl) (by kernel_rfl) (by kernel_rfl) ⟨NoRG.loc,NoRG.loc,LitRG.loc,NoRG.loc,NoRG.loc,ElS.loc,NoRG.loc,NoRG.loc,NoRG.loc,NoRG.loc,NoRG.loc,NoRG.loc,NoRG.loc,NoRG.loc,NoRG.loc,NoRG.loc,NoRG.loc,NoRG.loc,NoRG.loc,PtrRG.loc,ItR.loc,trivial⟩ ⟨?r0,?r1,?r2,?r3,?r4,?r5,?r6,?r7,?r8,?r9,?r10,?r11,?r12,?r13,?r14,?r15,?r16,?r17,?r18,?r19,?r20,trivial⟩ ?fin
 case r0 =>
  refine step_ofG rfl rfl ?_
  intro a wx vs fp K hF hK
  exact op_move rfl (hF.at_ 3 rfl) (hK _ _ _ (hF.only rfl trivial))
 case r1 =>
  refine step_ofG rfl rfl ?_
  intro a wx vs fp K hF hK
  have e0:a.eval (.tmp 9)=.pointer (some ⟨gs,0,none⟩):=(hF.ev 0 9 rfl rfl).trans (hF.va 0 rfl)
  refine op_call (vals:=#[.pointer (some ⟨gs,0,none⟩),.int .i64 8]) rfl (by kernel_rfl) ?_ ((HCO.out wx hF.below).mono ?_)
  ·simp only [List.map_toArray,List.map_cons,List.map_nil,e0] <;> rfl
  rintro e w' ⟨s,rfl,hs,ht⟩
  exact⟨_,rfl,hK _ _ [] (hF.kp (k:=gs) rfl ht.1 ht.2 ⟨s,rfl,hs⟩ trivial)⟩
 case r2 =>
  refine step_ofG rfl rfl ?_
  intro a wx vs fp K hF hK
  refine op_call (vals:=#[]) rfl (by kernel_rfl) ?_ ((HCN.out wx).mono ?_)
  ·simp
  rintro e w' ⟨rfl,rfl⟩
  exact⟨_,rfl,hK _ _ _ (hF.made _ trivial ⟨_,rfl,rfl,Bl.new _ _ _⟩)⟩
 case r3 =>
  refine step_ofG rfl rfl ?_
  intro a wx vs fp K hF hK
  exact op_move rfl (hF.at_ 3 rfl) (hK _ _ _ (hF.only rfl trivial))
 case r4 =>
  refine step_ofG rfl rfl ?_
  intro a wx vs fp K hF hK
  have e0:a.eval (.tmp 12)=.pointer (some ⟨gs,0,none⟩):=(hF.ev 3 12 rfl rfl).trans (hF.va 3 rfl)
  refine op_call (vals:=#[.pointer (some ⟨gs,0,none⟩),.int .i64 4]) rfl (by kernel_rfl) ?_ ((HNX.out 4 wx hF.below (by decide) (by decide)).mono ?_)
  ·simp only [List.map_toArray,List.map_cons,List.map_nil,e0] <;> rfl
  rintro e w' ⟨v,rfl,hv,ht⟩
  exact⟨_,rfl,hK _ _ [] (hF.kp (k:=gs) rfl ht.1 ht.2 ⟨v.toNat,by rw [Int.toNat_of_nonneg hv.1],by omega⟩ trivial)⟩
 case r5 =>
  refine step_ofG rfl rfl ?_
  intro a wx vs fp K hF hK
  obtain⟨q,hq,hq5⟩:=hF.va 4 rfl
  obtain⟨g,hg,hfg,hbl⟩:LitRG 9 #[.string ⟨#[65,65]⟩,.string ⟨#[66,66]⟩,.string ⟨#[67,67]⟩,.string ⟨#[68,68]⟩,.string ⟨#[69,69]⟩,.string ⟨#[70,70]⟩] 6 [] (vs 2) (fp 2) wx:=hF.me 2 rfl
  have e1:a.eval (.tmp 11)=.slice (some ⟨g,0,none⟩) 6 6:=(hF.ev 2 11 rfl rfl).trans hg
  have e2:a.eval (.tmp 13)=.int .i64 (q:Int):=(hF.ev 4 13 rfl rfl).trans hq
  have q1:(q:Int)<6:=by omega
  have q2:(0:Int)≤(q:Int):=by omega
  refine op_value (v:=.pointer (some ⟨g,q,none⟩)) ?_ (hK _ _ _ (hF.hand 2 rfl trivial ⟨g,q,rfl,by omega,hfg,hbl⟩))
  have ec:∀ v,a.eval (.const v)=v:=fun _=>rfl
  clear hF hK hbl hfg hg hq
  generalize a.eval=ρ at *
  go_simp
 case r6 =>
  refine step_ofG rfl rfl ?_
  intro a wx vs fp K hF hK
  obtain⟨g,q,hg,hq5,hfg,hbl⟩:ElS [] (vs 5) (fp 5) wx:=hF.me 5 rfl
  have e1:a.eval (.tmp 14)=.pointer (some ⟨g,q,none⟩):=(hF.ev 5 14 rfl rfl).trans hg
  obtain⟨s,hx,hs⟩:=six_at hbl hq5
  refine op_value (v:=.string s) ?_ (hK _ _ [] (hF.only ⟨_,rfl,hs⟩ trivial))
  have ec:∀ v,a.eval (.const v)=v:=fun _=>rfl
  clear hF hK hbl hfg hg
  generalize a.eval=ρ at *
  go_simp
 case r7 =>
  refine step_ofG rfl rfl ?_
  intro a wx vs fp K hF hK
  exact op_move rfl (hF.at_ 3 rfl) (hK _ _ _ (hF.only rfl trivial))
 case r8 =>
  refine step_ofG rfl rfl ?_
  intro a wx vs fp K hF hK
  have e0:a.eval (.tmp 16)=.pointer (some ⟨gs,0,none⟩):=(hF.ev 7 16 rfl rfl).trans (hF.va 7 rfl)
  refine op_call (vals:=#[.pointer (some ⟨gs,0,none⟩),.int .i64 2]) rfl (by kernel_rfl) ?_ ((HNX.out 2 wx hF.below (by decide) (by decide)).mono ?_)
  ·simp only [List.map_toArray,List.map_cons,List.map_nil,e0] <;> rfl
  rintro e w' ⟨v,rfl,hv,ht⟩
  exact⟨_,rfl,hK _ _ [] (hF.kp (k:=gs) rfl ht.1 ht.2 ⟨v,rfl,hv.1,by omega⟩ trivial)⟩
 case r9 =>
  refine step_ofG rfl rfl ?_
  intro a wx vs fp K hF hK
  obtain⟨x,hx,hx0,hx1⟩:=hF.va 8 rfl
  have e1:a.eval (.tmp 17)=.int .i64 x:=(hF.ev 8 17 rfl rfl).trans hx
  refine op_value (v:=.bool (x == 1)) ?_ (hK _ _ [] (hF.only ⟨_,rfl⟩ trivial))
  have ec:∀ v,a.eval (.const v)=v:=fun _=>rfl
  clear hF hK hx
  generalize a.eval=ρ at *
  go_simp
 case r10 =>
  refine step_ofG rfl rfl ?_
  intro a wx vs fp K hF hK
  exact op_move rfl (hF.at_ 3 rfl) (hK _ _ _ (hF.only rfl trivial))
 case r11 =>
  refine step_ofG rfl rfl ?_
  intro a wx vs fp K hF hK
  have e0:a.eval (.tmp 19)=.pointer (some ⟨gs,0,none⟩):=(hF.ev 10 19 rfl rfl).trans (hF.va 10 rfl)
  refine op_call (vals:=#[.pointer (some ⟨gs,0,none⟩),.int .i64 3]) rfl (by kernel_rfl) ?_ ((HNX.out 3 wx hF.below (by decide) (by decide)).mono ?_)
  ·simp only [List.map_toArray,List.map_cons,List.map_nil,e0] <;> rfl
  rintro e w' ⟨v,rfl,hv,ht⟩
  exact⟨_,rfl,hK _ _ [] (hF.kp (k:=gs) rfl ht.1 ht.2 ⟨v,rfl,hv.1,by omega⟩ trivial)⟩
 case r12 =>
  refine step_ofG rfl rfl ?_
  intro a wx vs fp K hF hK
  exact op_move rfl (hF.at_ 3 rfl) (hK _ _ _ (hF.only rfl trivial))
 case r13 =>
  refine step_ofG rfl rfl ?_
  intro a wx vs fp K hF hK
  have e0:a.eval (.tmp 21)=.pointer (some ⟨gs,0,none⟩):=(hF.ev 12 21 rfl rfl).trans (hF.va 12 rfl)
  refine op_call (vals:=#[.pointer (some ⟨gs,0,none⟩),.int .i64 41]) rfl (by kernel_rfl) ?_ ((HNX.out 41 wx hF.below (by decide) (by decide)).mono ?_)
  ·simp only [List.map_toArray,List.map_cons,List.map_nil,e0] <;> rfl
  rintro e w' ⟨v,rfl,hv,ht⟩
  exact⟨_,rfl,hK _ _ [] (hF.kp (k:=gs) rfl ht.1 ht.2 ⟨v,rfl,hv.1,by omega⟩ trivial)⟩
 case r14 =>
  refine step_ofG rfl rfl ?_
  intro a wx vs fp K hF hK
  exact op_move rfl (hF.at_ 3 rfl) (hK _ _ _ (hF.only rfl trivial))
 case r15 =>
  refine step_ofG rfl rfl ?_
  intro a wx vs fp K hF hK
  have e0:a.eval (.tmp 23)=.pointer (some ⟨gs,0,none⟩):=(hF.ev 14 23 rfl rfl).trans (hF.va 14 rfl)
  refine op_call (vals:=#[.pointer (some ⟨gs,0,none⟩),.int .i64 1000]) rfl (by kernel_rfl) ?_ ((HNX.out 1000 wx hF.below (by decide) (by decide)).mono ?_)
  ·simp only [List.map_toArray,List.map_cons,List.map_nil,e0] <;> rfl
  rintro e w' ⟨v,rfl,hv,ht⟩
  exact⟨_,rfl,hK _ _ [] (hF.kp (k:=gs) rfl ht.1 ht.2 ⟨v,rfl,hv.1,by omega⟩ trivial)⟩
 case r16 =>
  refine step_ofG rfl rfl ?_
  intro a wx vs fp K hF hK
  exact op_move rfl (hF.at_ 3 rfl) (hK _ _ _ (hF.only rfl trivial))
 case r17 =>
  refine step_ofG rfl rfl ?_
  intro a wx vs fp K hF hK
  have e0:a.eval (.tmp 25)=.pointer (some ⟨gs,0,none⟩):=(hF.ev 16 25 rfl rfl).trans (hF.va 16 rfl)
  refine op_call (vals:=#[.pointer (some ⟨gs,0,none⟩),.int .i64 1000000]) rfl (by kernel_rfl) ?_ ((HNX.out 1000000 wx hF.below (by decide) (by decide)).mono ?_)
  ·simp only [List.map_toArray,List.map_cons,List.map_nil,e0] <;> rfl
  rintro e w' ⟨v,rfl,hv,ht⟩
  exact⟨_,rfl,hK _ _ [] (hF.kp (k:=gs) rfl ht.1 ht.2 ⟨v,rfl,hv.1,by omega⟩ trivial)⟩
 case r18 =>
  refine step_ofG rfl rfl ?_
  intro a wx vs fp K hF hK
  obtain⟨c0,hc0,z0⟩:=hF.va 1 rfl
  obtain⟨c1',hc1,z1⟩:=hF.va 6 rfl
  obtain⟨c2,hc2⟩:=hF.va 9 rfl
  obtain⟨c3,hc3,l3,u3⟩:=hF.va 11 rfl
  obtain⟨c4,hc4,l4,u4⟩:=hF.va 13 rfl
  obtain⟨c5,hc5,l5,u5⟩:=hF.va 15 rfl
  obtain⟨c6,hc6,l6,u6⟩:=hF.va 17 rfl
  have e0:a.eval (.tmp 10)=.string c0:=(hF.ev 1 10 rfl rfl).trans hc0
  have e1:a.eval (.tmp 15)=.string c1':=(hF.ev 6 15 rfl rfl).trans hc1
  have e2:a.eval (.tmp 18)=.bool c2:=(hF.ev 9 18 rfl rfl).trans hc2
  have e3:a.eval (.tmp 20)=.int .i64 c3:=(hF.ev 11 20 rfl rfl).trans hc3
  have e4:a.eval (.tmp 22)=.int .i64 c4:=(hF.ev 13 22 rfl rfl).trans hc4
  have e5:a.eval (.tmp 24)=.int .i64 c5:=(hF.ev 15 24 rfl rfl).trans hc5
  have e6:a.eval (.tmp 26)=.int .i64 c6:=(hF.ev 17 26 rfl rfl).trans hc6
  refine op_value (v:=.agg #[.string c0,.string c1',.bool c2,.int .i64 c3,.int .i64 c4,.int .i64 c5,.int .i64 c6,.int .i64 0]) ?_ (hK _ _ [] (hF.only ⟨⟨c0,c1',c2,c3,c4,c5,c6,0⟩,rfl,⟨z0,z1,by constructor <;> simp only [] <;> omega,by constructor <;> simp only [] <;> omega,by constructor <;> simp only [] <;> omega⟩,rfl⟩ trivial))
  have ec:∀ v,a.eval (.const v)=v:=fun _=>rfl
  clear hF hK
  generalize a.eval=ρ at *
  go_simp
 case r19 =>
  refine step_ofG rfl rfl ?_
  intro a wx vs fp K hF hK
  refine op_value (v:=.pointer (some ⟨wx.heap.size,0,none⟩)) (w':=wx.alloc (.cells #[.string ⟨#[]⟩,.string ⟨#[]⟩,.bool false,.int .i64 0,.int .i64 0,.int .i64 0,.int .i64 0,.int .i64 0] 33)) ?_ (hK _ _ _ (hF.made _ trivial ⟨_,rfl,rfl,Bl.new _ _ _⟩))
  have ec:∀ v,a.eval (.const v)=v:=fun _=>rfl
  clear hF hK
  generalize a.eval=ρ at *
  go_simp
 case r20 =>
  refine step_ofG rfl rfl ?_
  intro a wx vs fp K hF hK
  obtain⟨x,hx,hxo⟩:=hF.va 18 rfl
  obtain⟨g,hg,hfg,hbl⟩:PtrRG 33 #[.string ⟨#[]⟩,.string ⟨#[]⟩,.bool false,.int .i64 0,.int .i64 0,.int .i64 0,.int .i64 0,.int .i64 0] [] (vs 19) (fp 19) wx:=hF.me 19 rfl
  have e1:a.eval (.tmp 4)=.pointer (some ⟨g,0,none⟩):=(hF.ev 19 4 rfl rfl).trans hg
  have e2:a.eval (.tmp 27)=.agg #[.string x.code,.string x.org,.bool x.proof,.int .i64 x.co,.int .i64 x.day,.int .i64 x.qty,.int .i64 x.val,.int .i64 x.gr]:=(hF.ev 18 27 rfl rfl).trans hx
  have y0:wx.cell? ⟨g,0,none⟩=some (.string ⟨#[]⟩):=hbl.cell 0
  have f0:wx.frozen? ⟨g,0,none⟩=false:=hbl.free 0
  have y1:wx.cell? ⟨g,1,none⟩=some (.string ⟨#[]⟩):=hbl.cell 1
  have f1:wx.frozen? ⟨g,1,none⟩=false:=hbl.free 1
  have y2:wx.cell? ⟨g,2,none⟩=some (.bool false):=hbl.cell 2
  have f2:wx.frozen? ⟨g,2,none⟩=false:=hbl.free 2
  have y3:wx.cell? ⟨g,3,none⟩=some (.int .i64 0):=hbl.cell 3
  have f3:wx.frozen? ⟨g,3,none⟩=false:=hbl.free 3
  have y4:wx.cell? ⟨g,4,none⟩=some (.int .i64 0):=hbl.cell 4
  have f4:wx.frozen? ⟨g,4,none⟩=false:=hbl.free 4
  have y5:wx.cell? ⟨g,5,none⟩=some (.int .i64 0):=hbl.cell 5
  have f5:wx.frozen? ⟨g,5,none⟩=false:=hbl.free 5
  have y6:wx.cell? ⟨g,6,none⟩=some (.int .i64 0):=hbl.cell 6
  have f6:wx.frozen? ⟨g,6,none⟩=false:=hbl.free 6
  have y7:wx.cell? ⟨g,7,none⟩=some (.int .i64 0):=hbl.cell 7
  have f7:wx.frozen? ⟨g,7,none⟩=false:=hbl.free 7
  refine op_skip (w':=((((((((wx.setCell ⟨g,0,none⟩ (.string x.code)).setCell ⟨g,1,none⟩ (.string x.org)).setCell ⟨g,2,none⟩ (.bool x.proof)).setCell ⟨g,3,none⟩ (.int .i64 x.co)).setCell ⟨g,4,none⟩ (.int .i64 x.day)).setCell ⟨g,5,none⟩ (.int .i64 x.qty)).setCell ⟨g,6,none⟩ (.int .i64 x.val)).setCell ⟨g,7,none⟩ (.int .i64 x.gr))) ?_ (hK undef _ [g] (hF.wrote 19 rfl hfg (only8 g wx _ _ _ _ _ _ _ _) trivial ⟨g,x,congrArg some hg,rfl,set8_bl hbl _ _ _ _ _ _ _ _,hxo⟩))
  have ec:∀ v,a.eval (.const v)=v:=fun _=>rfl
  clear hF hK hbl hfg hg hx hxo
  generalize a.eval=ρ at *
  go_simp
 case fin =>
  intro wz vs fp hI
  obtain⟨⟨gx,x,hg,hfg,hbl,hxo,hx0⟩,hgo⟩:ItR [vs 19,vs 18] (vs 20) (fp 20) wz∧_:=hI.finM 20 (by decide) rfl
  have hv:vs 19=.pointer (some ⟨gx,0,none⟩):=by simpa using hg
  have hgx:W2.heap.size≤gx:=(hgo gx (by rw [hfg];simp)).1
  have hr:=hI.below
  have HX:Hid (ImB w gs A1 m c1 xs gx x wz):=⟨⟨hr.is,HI.out,HS0.out.below.trans ⟨hr.os,hr.tape,hr.output,hr.size,fun k hk=>hr.block k (by have:=HS0.out.below.size;omega) (fun e=>by omega)⟩,HS0.out.base,HS0.out.few⟩,hr.bl HR0.out (fun e=>by omega),hbl,⟨hgl,by have:=HS0.out.lt;omega⟩,hxo⟩
  clear hI hg hfg hbl hxo hgo hgx hr HNX HCO HCN HS0 HR0
  simp only [rj,number,putJ,List.map_cons,List.map_nil,if_true,Act.put,List.setIfInBounds_toArray,List.set_cons_zero,List.set_cons_succ,hv]
  generalize vs 0=zv0
  generalize vs 1=zv1
  generalize vs 2=zv2
  generalize vs 3=zv3
  generalize vs 4=zv4
  generalize vs 5=zv5
  generalize vs 6=zv6
  generalize vs 7=zv7
  generalize vs 8=zv8
  generalize vs 9=zv9
  generalize vs 10=zv10
  generalize vs 11=zv11
  generalize vs 12=zv12
  generalize vs 13=zv13
  generalize vs 14=zv14
  generalize vs 15=zv15
  generalize vs 16=zv16
  generalize vs 17=zv17
  generalize vs 18=zv18
  generalize vs 20=zv20
  clear hv
  go_wp2_with fail
  refine (next20 HX.out.src 6 (by decide) (by decide)).mono ?_
  rintro e wa ⟨va,rfl,hva,hta⟩
  have HA:=Lib.hid (HX.out.go hta)
  clear hta HX
  go_upto_if 30 with (fail)
  go_cut [4] (fun pp wx=>∃ x:It,pp=.pointer (some ⟨gx,0,none⟩)∧Hid (ImB w gs A1 m c1 xs gx x wx)∧x.gr=0)
  case first =>
   by_cases hp:va=1
   case neg =>
    have q0:(va == 1)=false:=by simp;omega
    go_wp2_with fail
    go_meet
    exact⟨x,rfl,HA.out,hx0⟩
   case pos =>
    have q0:(va == 1)=true:=by simp;omega
    go_wp2_with fail
    refine (next20 HA.out.src 1000000001 (by decide) (by decide)).mono ?_
    rintro e wb ⟨v1,rfl,hv1,htb⟩
    have HB:=Lib.hid (HA.out.go htb)
    clear htb HA
    go_wp2_with fail
    refine (next20 HB.out.src 1000000000001 (by decide) (by decide)).mono ?_
    rintro e wd ⟨v2,rfl,hv2,htd⟩
    have HD:=Lib.hid (HB.out.go htd)
    clear htd HB
    have y5:wd.cell? ⟨gx,5,none⟩=some (.int .i64 x.qty):=HD.out.b.cell 5
    have f5:wd.frozen? ⟨gx,5,none⟩=false:=HD.out.b.free 5
    have y6:wd.cell? ⟨gx,6,none⟩=some (.int .i64 x.val):=HD.out.b.cell 6
    have f6:wd.frozen? ⟨gx,6,none⟩=false:=HD.out.b.free 6
    have hg0:=HD.out.ok.gr
    have HE:Hid (ImB w gs A1 m c1 xs gx ⟨x.code,x.org,x.proof,x.co,x.day,v1,v2,x.gr⟩ ((wd.setCell ⟨gx,5,none⟩ (.int .i64 v1)).setCell ⟨gx,6,none⟩ (.int .i64 v2))):=HD.out.put (((Only.refl gx wd).setCell 5 _).setCell 6 _) (by simpa using (HD.out.b.put 5 (.int .i64 v1)).put 6 (.int .i64 v2)) ⟨HD.out.ok.code,HD.out.ok.org,by constructor <;> simp only [] <;> omega,by constructor <;> simp only [] <;> omega,by constructor <;> simp only [] <;> omega⟩
    clear HD
    go_wp2_with fail
    go_meet
    exact⟨_,rfl,HE.out,hx0⟩
  case rest =>
  clear HA
  obtain⟨x,rfl,HX,hx0⟩:=hcut
  go_wp2_with fail
  refine (next20 HX.out.src 6 (by decide) (by decide)).mono ?_
  rintro e wa ⟨va,rfl,hva,hta⟩
  have HA:=Lib.hid (HX.out.go hta)
  clear hta HX
  go_upto_if 39 with (fail)
  go_cut [4] (fun pp wx=>∃ x:It,pp=.pointer (some ⟨gx,0,none⟩)∧Hid (ImB w gs A1 m c1 xs gx x wx)∧x.gr=0)
  case first =>
   by_cases hp:va=1
   case neg =>
    have q0:(va == 1)=false:=by simp;omega
    go_wp2_with fail
    go_meet
    exact⟨x,rfl,HA.out,hx0⟩
   case pos =>
    have q0:(va == 1)=true:=by simp;omega
    have y5:wa.cell? ⟨gx,5,none⟩=some (.int .i64 x.qty):=HA.out.b.cell 5
    have f5:wa.frozen? ⟨gx,5,none⟩=false:=HA.out.b.free 5
    have HE:Hid (ImB w gs A1 m c1 xs gx ⟨x.code,x.org,x.proof,x.co,x.day,0,x.val,x.gr⟩ (wa.setCell ⟨gx,5,none⟩ (.int .i64 0))):=HA.out.put ((Only.refl gx wa).setCell 5 _) (by simpa using HA.out.b.put 5 (.int .i64 0)) ⟨HA.out.ok.code,HA.out.ok.org,by constructor <;> simp,HA.out.ok.val,by constructor <;> simp only [] <;> omega⟩
    go_wp2_with fail
    go_meet
    exact⟨_,rfl,HE.out,hx0⟩
  case rest =>
  clear HA
  obtain⟨x,rfl,HX,hx0⟩:=hcut
  go_wp2_with fail
  refine (next20 HX.out.src 2 (by decide) (by decide)).mono ?_
  rintro e wa ⟨va,rfl,hva,hta⟩
  have HA:=Lib.hid (HX.out.go hta)
  clear hta HX
  go_upto_if 43 with (fail)
  go_cut [4] (fun pp wx=>∃ x:It,pp=.pointer (some ⟨gx,0,none⟩)∧Hid (ImB w gs A1 m c1 xs gx x wx))
  case first =>
   by_cases hp:va=1
   case neg =>
    have q0:(va == 1)=false:=by simp;omega
    go_wp2_with fail
    go_meet
    exact⟨x,rfl,HA.out⟩
   case pos =>
    have q0:(va == 1)=true:=by simp;omega
    have y5:wa.cell? ⟨gx,5,none⟩=some (.int .i64 x.qty):=HA.out.b.cell 5
    have f5:wa.frozen? ⟨gx,5,none⟩=false:=HA.out.b.free 5
    have hq:=HA.out.ok.qty
    have uq:IntKind.i64.wrap (x.qty+1)=x.qty+1:=IntWalk.i64_in _ (by omega)
    go_wp2_with fail
    refine (next20 HA.out.src (x.qty+1) (by omega) (by omega)).mono ?_
    rintro e wb ⟨v1,rfl,hv1,htb⟩
    have HB:=Lib.hid (HA.out.go htb)
    clear htb
    have y7:wb.cell? ⟨gx,7,none⟩=some (.int .i64 x.gr):=HB.out.b.cell 7
    have f7:wb.frozen? ⟨gx,7,none⟩=false:=HB.out.b.free 7
    have HE:Hid (ImB w gs A1 m c1 xs gx ⟨x.code,x.org,x.proof,x.co,x.day,x.qty,x.val,v1⟩ (wb.setCell ⟨gx,7,none⟩ (.int .i64 v1))):=HB.out.put ((Only.refl gx wb).setCell 7 _) (by simpa using HB.out.b.put 7 (.int .i64 v1)) ⟨HB.out.ok.code,HB.out.ok.org,HB.out.ok.qty,HB.out.ok.val,by constructor <;> simp only [] <;> omega⟩
    go_wp2_with fail
    go_meet
    exact⟨_,rfl,HE.out⟩
  case rest =>
  clear HA
  obtain⟨x,rfl,HX⟩:=hcut
  have z0:wc.cell? ⟨gx,0,none⟩=some (.string x.code):=HX.out.b.cell 0
  have r0:wc.cell? ⟨w.heap.size,0,none⟩=some (.string ⟨#[]⟩):=HX.out.r.cell 0
  have t0:wc.frozen? ⟨w.heap.size,0,none⟩=false:=HX.out.r.free 0
  have z1:wc.cell? ⟨gx,1,none⟩=some (.string x.org):=HX.out.b.cell 1
  have r1:wc.cell? ⟨w.heap.size,1,none⟩=some (.string ⟨#[]⟩):=HX.out.r.cell 1
  have t1:wc.frozen? ⟨w.heap.size,1,none⟩=false:=HX.out.r.free 1
  have z2:wc.cell? ⟨gx,2,none⟩=some (.bool x.proof):=HX.out.b.cell 2
  have r2:wc.cell? ⟨w.heap.size,2,none⟩=some (.bool false):=HX.out.r.cell 2
  have t2:wc.frozen? ⟨w.heap.size,2,none⟩=false:=HX.out.r.free 2
  have z3:wc.cell? ⟨gx,3,none⟩=some (.int .i64 x.co):=HX.out.b.cell 3
  have r3:wc.cell? ⟨w.heap.size,3,none⟩=some (.int .i64 0):=HX.out.r.cell 3
  have t3:wc.frozen? ⟨w.heap.size,3,none⟩=false:=HX.out.r.free 3
  have z4:wc.cell? ⟨gx,4,none⟩=some (.int .i64 x.day):=HX.out.b.cell 4
  have r4:wc.cell? ⟨w.heap.size,4,none⟩=some (.int .i64 0):=HX.out.r.cell 4
  have t4:wc.frozen? ⟨w.heap.size,4,none⟩=false:=HX.out.r.free 4
  have z5:wc.cell? ⟨gx,5,none⟩=some (.int .i64 x.qty):=HX.out.b.cell 5
  have r5:wc.cell? ⟨w.heap.size,5,none⟩=some (.int .i64 0):=HX.out.r.cell 5
  have t5:wc.frozen? ⟨w.heap.size,5,none⟩=false:=HX.out.r.free 5
  have z6:wc.cell? ⟨gx,6,none⟩=some (.int .i64 x.val):=HX.out.b.cell 6
  have r6:wc.cell? ⟨w.heap.size,6,none⟩=some (.int .i64 0):=HX.out.r.cell 6
  have t6:wc.frozen? ⟨w.heap.size,6,none⟩=false:=HX.out.r.free 6
  have z7:wc.cell? ⟨gx,7,none⟩=some (.int .i64 x.gr):=HX.out.b.cell 7
  have r7:wc.cell? ⟨w.heap.size,7,none⟩=some (.int .i64 0):=HX.out.r.cell 7
  have t7:wc.frozen? ⟨w.heap.size,7,none⟩=false:=HX.out.r.free 7
  have HR:Hid (Bl ((((((((wc.setCell ⟨w.heap.size,0,none⟩ (.string x.code)).setCell ⟨w.heap.size,1,none⟩ (.string x.org)).setCell ⟨w.heap.size,2,none⟩ (.bool x.proof)).setCell ⟨w.heap.size,3,none⟩ (.int .i64 x.co)).setCell ⟨w.heap.size,4,none⟩ (.int .i64 x.day)).setCell ⟨w.heap.size,5,none⟩ (.int .i64 x.qty)).setCell ⟨w.heap.size,6,none⟩ (.int .i64 x.val)).setCell ⟨w.heap.size,7,none⟩ (.int .i64 x.gr)) w.heap.size 33 #[.string x.code,.string x.org,.bool x.proof,.int .i64 x.co,.int .i64 x.day,.int .i64 x.qty,.int .i64 x.val,.int .i64 x.gr]):=set8_bl HX.out.r _ _ _ _ _ _ _ _
  have HBL:Hid (RowKit.Below w.heap.size w ((((((((wc.setCell ⟨w.heap.size,0,none⟩ (.string x.code)).setCell ⟨w.heap.size,1,none⟩ (.string x.org)).setCell ⟨w.heap.size,2,none⟩ (.bool x.proof)).setCell ⟨w.heap.size,3,none⟩ (.int .i64 x.co)).setCell ⟨w.heap.size,4,none⟩ (.int .i64 x.day)).setCell ⟨w.heap.size,5,none⟩ (.int .i64 x.qty)).setCell ⟨w.heap.size,6,none⟩ (.int .i64 x.val)).setCell ⟨w.heap.size,7,none⟩ (.int .i64 x.gr))):=HX.out.src.below.trans ((only8 w.heap.size wc _ _ _ _ _ _ _ _).below (Nat.le_refl _))
  have HOK:=Lib.hid HX.out.ok
  clear HX
  go_wp2
  generalize ((((((((wc.setCell ⟨w.heap.size,0,none⟩ (.string x.code)).setCell ⟨w.heap.size,1,none⟩ (.string x.org)).setCell ⟨w.heap.size,2,none⟩ (.bool x.proof)).setCell ⟨w.heap.size,3,none⟩ (.int .i64 x.co)).setCell ⟨w.heap.size,4,none⟩ (.int .i64 x.day)).setCell ⟨w.heap.size,5,none⟩ (.int .i64 x.qty)).setCell ⟨w.heap.size,6,none⟩ (.int .i64 x.val)).setCell ⟨w.heap.size,7,none⟩ (.int .i64 x.gr))=WZ at *
  have x0:WZ.cell? ⟨w.heap.size,0,none⟩=some (.string x.code):=HR.out.cell 0
  have x1:WZ.cell? ⟨w.heap.size,1,none⟩=some (.string x.org):=HR.out.cell 1
  have x2:WZ.cell? ⟨w.heap.size,2,none⟩=some (.bool x.proof):=HR.out.cell 2
  have x3:WZ.cell? ⟨w.heap.size,3,none⟩=some (.int .i64 x.co):=HR.out.cell 3
  have x4:WZ.cell? ⟨w.heap.size,4,none⟩=some (.int .i64 x.day):=HR.out.cell 4
  have x5:WZ.cell? ⟨w.heap.size,5,none⟩=some (.int .i64 x.qty):=HR.out.cell 5
  have x6:WZ.cell? ⟨w.heap.size,6,none⟩=some (.int .i64 x.val):=HR.out.cell 6
  have x7:WZ.cell? ⟨w.heap.size,7,none⟩=some (.int .i64 x.gr):=HR.out.cell 7
  refine bodyPost_ret (v:=.agg #[.string x.code,.string x.org,.bool x.proof,.int .i64 x.co,.int .i64 x.day,.int .i64 x.qty,.int .i64 x.val,.int .i64 x.gr]) (by simp [results,Tryz.results7,go_sem,x0,x1,x2,x3,x4,x5,x6,x7]) rfl ⟨x,rfl,HOK.out,HBL.out⟩
abbrev s94:ByteArray:=⟨#[57,52]⟩
abbrev s9401:ByteArray:=⟨#[57,52,48,49]⟩
def TermR (w:World) (A:Option Addr):Prop:=∃ b o A' c',A=some ⟨b,o,none⟩∧b<w.heap.size∧w.cell? ⟨b,o,none⟩=some (.slice A' 1 c')∧Sr w A' 1 [sChair]
theorem TermR.below {w w':World} {A:Option Addr} (h:TermR w A) (hb:RowKit.Below w.heap.size w w'):TermR w' A:=by
 obtain⟨b,o,A',c',hA,hlt,hc,hS⟩:=h
 exact⟨b,o,A',c',hA,Nat.lt_of_lt_of_le hlt hb.size,(hb.cell (p:=⟨b,o,none⟩) hlt).trans hc,hS.below hb⟩
theorem wordsL1:WordsL [sChair]:=by
 refine⟨by decide,fun i hi=>?_,fun i h0 hi=>?_⟩
 ·match i,hi with
  | 0,_=>exact chairW
 ·simp at hi
  omega
set_option maxRecDepth 100000 in
theorem described_n (A:Option Addr) (n c:Nat) (l:List ByteArray) (w:World) (h:Sr w A n l) (hw:WordsL l) (h0:0<n) :
  Calls Tryz.prog 178 #[.slice A n c] w fun e w'=>e=.returned (.bool true)∧RowKit.Below w.heap.size w w':=by
 have HV:=Lib.hid (validWords_yes A n c l w h hw)
 have d1:decide ((n:Int) > 0)=true:=by simp;omega
 have d1b:decide (0<n)=true:=by simp;omega
 clear h hw
 go_enter Tryz.func178,Tryz.ntmps178
 go_wp2_with fail
 refine HV.out.mono ?_
 rintro e w1 ⟨rfl,hb1⟩
 have HB:=Lib.hid hb1
 clear hb1
 go_wp2
 go_ret
 exact⟨rfl,HB.out⟩
set_option maxRecDepth 100000 in
theorem nanS20 (s:ByteArray) (w:World):Calls Tryz.prog 257 #[.string s] w fun e w'=>e=.returned (.bool false)∧w=w':=by
 go_enter Tryz.func257,Tryz.ntmps257
 go_wp2
 go_ret
 exact⟨by simp,rfl⟩
set_option maxRecDepth 100000 in
theorem cmpS20 (w:World):Calls Tryz.prog 222 #[.string s94,.string s9401] w fun e w'=>e=.returned (.int .i64 (-1))∧w=w':=by
 have HN:=Lib.hid nanS20
 have b1:Op.bytesLess s94.toList s9401.toList=true:=by decide +kernel
 go_enter Tryz.func222,Tryz.ntmps222
 go_wp2_with fail
 refine (HN.out _ _).mono ?_
 rintro e w1 ⟨rfl,rfl⟩
 go_wp2_with fail
 refine (HN.out _ _).mono ?_
 rintro e w1 ⟨rfl,rfl⟩
 go_wp2
 go_ret
 exact⟨rfl,rfl⟩
set_option maxRecDepth 100000 in
theorem versionOf20 (s:ByteArray) (f t:Int) (A:Option Addr) (n c:Nat) (o:Bool) (w:World):Calls Tryz.prog 179 #[.agg #[.string s,.int .i64 f,.int .i64 t,.slice A n c,.bool o]] w fun e w'=>e=.returned (.agg #[.string s,.int .i64 f])∧RowKit.Below w.heap.size w w':=by
 have hal:RowKit.Below w.heap.size w (w.alloc (.cells #[.string s,.int .i64 f,.int .i64 t,.slice A n c,.bool o] 95)):=(Below.refl _ _).alloc (Nat.le_refl _) _
 have HX:Hid (Bl (w.alloc (.cells #[.string s,.int .i64 f,.int .i64 t,.slice A n c,.bool o] 95)) w.heap.size 95 #[.string s,.int .i64 f,.int .i64 t,.slice A n c,.bool o]):=Bl.new _ _ _
 have HB:=Lib.hid hal
 have hsz:(w.alloc (.cells #[.string s,.int .i64 f,.int .i64 t,.slice A n c,.bool o] 95)).heap.size=w.heap.size+1:=by simp
 clear hal
 go_enter Tryz.func179,Tryz.ntmps179
 go_upto_region 1 with (fail)
 generalize w.alloc (.cells #[.string s,.int .i64 f,.int .i64 t,.slice A n c,.bool o] 95)=W at *
 have HY:Hid (Bl (W.alloc (.cells #[.string ⟨#[]⟩,.int .i64 0] 273)) W.heap.size 273 #[.string ⟨#[]⟩,.int .i64 0]):=Bl.new _ _ _
 have HX1:=Lib.hid (HX.out.alloc (.cells #[.string ⟨#[]⟩,.int .i64 0] 273))
 have HB1:=Lib.hid (HB.out.alloc HB.out.size (.cells #[.string ⟨#[]⟩,.int .i64 0] 273))
 rw [hsz] at HY
 try rw [hsz]
 generalize W.alloc (.cells #[.string ⟨#[]⟩,.int .i64 0] 273)=W1 at *
 have x0:W1.cell? ⟨w.heap.size,0,none⟩=some (.string s):=HX1.out.cell 0
 have x1:W1.cell? ⟨w.heap.size,1,none⟩=some (.int .i64 f):=HX1.out.cell 1
 have y0:W1.cell? ⟨w.heap.size+1,0,none⟩=some (.string ⟨#[]⟩):=HY.out.cell 0
 have y1:W1.cell? ⟨w.heap.size+1,1,none⟩=some (.int .i64 0):=HY.out.cell 1
 have z0:W1.frozen? ⟨w.heap.size+1,0,none⟩=false:=HY.out.free 0
 have z1:W1.frozen? ⟨w.heap.size+1,1,none⟩=false:=HY.out.free 1
 have HZ:=set2_bl HY.out (.string s) (.int .i64 f)
 have HBZ:=Lib.hid ((HB1.out.setCell (p:=⟨w.heap.size+1,0,none⟩) (show w.heap.size≤w.heap.size+1 by omega) (.string s)).setCell (p:=⟨w.heap.size+1,1,none⟩) (show w.heap.size≤w.heap.size+1 by omega) (.int .i64 f))
 go_wp2
 generalize (W1.setCell ⟨w.heap.size+1,0,none⟩ (.string s)).setCell ⟨w.heap.size+1,1,none⟩ (.int .i64 f)=WZ at *
 have u0:WZ.cell? ⟨w.heap.size+1,0,none⟩=some (.string s):=HZ.cell 0
 have u1:WZ.cell? ⟨w.heap.size+1,1,none⟩=some (.int .i64 f):=HZ.cell 1
 refine bodyPost_ret (v:=.agg #[.string s,.int .i64 f]) (by simp [results,Tryz.results179,go_sem,u0,u1]) rfl ?_
 exact⟨rfl,HBZ.out⟩
set_option maxRecDepth 100000 in
theorem vcompare20 (w:World):Calls Tryz.prog 180 #[.agg #[.string s94,.int .i64 0],.agg #[.string s9401,.int .i64 0]] w fun e w'=>e=.returned (.int .i64 (-1))∧RowKit.Below w.heap.size w w':=by
 have HN:=Lib.hid cmpS20
 have e1:(s94.toList == s9401.toList)=false:=by decide +kernel
 have HB:=Lib.hid (((Below.refl _ w).alloc (Nat.le_refl _) (.cells #[.string s94,.int .i64 0] 273)).alloc (by simp) (.cells #[.string s9401,.int .i64 0] 273))
 have hsz:(w.alloc (.cells #[.string s94,.int .i64 0] 273)).heap.size=w.heap.size+1:=by simp
 have HX:Hid (Bl ((w.alloc (.cells #[.string s94,.int .i64 0] 273)).alloc (.cells #[.string s9401,.int .i64 0] 273)) w.heap.size 273 #[.string s94,.int .i64 0]):=(Bl.new _ _ _).alloc _
 have HY:Hid (Bl ((w.alloc (.cells #[.string s94,.int .i64 0] 273)).alloc (.cells #[.string s9401,.int .i64 0] 273)) (w.heap.size+1) 273 #[.string s9401,.int .i64 0]):=by
  rw [← hsz]
  exact Bl.new _ _ _
 go_enter Tryz.func180,Tryz.ntmps180
 go_upto_region 1 with (fail)
 generalize (w.alloc (.cells #[.string s94,.int .i64 0] 273)).alloc (.cells #[.string s9401,.int .i64 0] 273)=W at *
 try rw [hsz]
 have x0:W.cell? ⟨w.heap.size,0,none⟩=some (.string s94):=HX.out.cell 0
 have x1:W.cell? ⟨w.heap.size,1,none⟩=some (.int .i64 0):=HX.out.cell 1
 have y0:W.cell? ⟨w.heap.size+1,0,none⟩=some (.string s9401):=HY.out.cell 0
 have y1:W.cell? ⟨w.heap.size+1,1,none⟩=some (.int .i64 0):=HY.out.cell 1
 go_wp2_with fail
 refine (HN.out _).mono ?_
 rintro e w1 ⟨rfl,rfl⟩
 go_wp2
 go_ret
 exact⟨rfl,HB.out⟩
set_option maxRecDepth 100000 in
set_option maxHeartbeats 4000000 in
theorem vorder20 (A:Option Addr) (c:Nat) (w:World):Calls Tryz.prog 123 #[.agg #[.string s94,.int .i64 0,.int .i64 100,.slice none 0 0,.bool false],.agg #[.string s9401,.int .i64 0,.int .i64 100,.slice A 1 c,.bool false]] w fun e w'=>e=.returned (.int .i64 0)∧RowKit.Below w.heap.size w w':=by
 have e1:(s94.toList == s9401.toList)=false:=by decide +kernel
 have HV0:Hid (∀ wx,Calls Tryz.prog 179 #[.agg #[.string s94,.int .i64 0,.int .i64 100,.slice none 0 0,.bool false]] wx fun e w'=>e=.returned (.agg #[.string s94,.int .i64 0])∧RowKit.Below wx.heap.size wx w'):=fun wx=>versionOf20 s94 0 100 none 0 0 false wx
 have HV1:Hid (∀ wx,Calls Tryz.prog 179 #[.agg #[.string s9401,.int .i64 0,.int .i64 100,.slice A 1 c,.bool false]] wx fun e w'=>e=.returned (.agg #[.string s9401,.int .i64 0])∧RowKit.Below wx.heap.size wx w'):=fun wx=>versionOf20 s9401 0 100 A 1 c false wx
 have HVC:=Lib.hid vcompare20
 have HB:=Lib.hid (((Below.refl _ w).alloc (Nat.le_refl _) (.cells #[.string s94,.int .i64 0,.int .i64 100,.slice none 0 0,.bool false] 95)).alloc (by simp) (.cells #[.string s9401,.int .i64 0,.int .i64 100,.slice A 1 c,.bool false] 95))
 have hsz:(w.alloc (.cells #[.string s94,.int .i64 0,.int .i64 100,.slice none 0 0,.bool false] 95)).heap.size=w.heap.size+1:=by simp
 have HX:Hid (Bl ((w.alloc (.cells #[.string s94,.int .i64 0,.int .i64 100,.slice none 0 0,.bool false] 95)).alloc (.cells #[.string s9401,.int .i64 0,.int .i64 100,.slice A 1 c,.bool false] 95)) w.heap.size 95 #[.string s94,.int .i64 0,.int .i64 100,.slice none 0 0,.bool false]):=(Bl.new _ _ _).alloc _
 have HY:Hid (Bl ((w.alloc (.cells #[.string s94,.int .i64 0,.int .i64 100,.slice none 0 0,.bool false] 95)).alloc (.cells #[.string s9401,.int .i64 0,.int .i64 100,.slice A 1 c,.bool false] 95)) (w.heap.size+1) 95 #[.string s9401,.int .i64 0,.int .i64 100,.slice A 1 c,.bool false]):=by
  rw [← hsz]
  exact Bl.new _ _ _
 go_enter Tryz.func123,Tryz.ntmps123
 go_upto_region 1 with (fail)
 generalize (w.alloc (.cells #[.string s94,.int .i64 0,.int .i64 100,.slice none 0 0,.bool false] 95)).alloc (.cells #[.string s9401,.int .i64 0,.int .i64 100,.slice A 1 c,.bool false] 95)=W at *
 try rw [hsz]
 generalize hN:w.heap.size=N at *
 have HS:Hid (∀ wx,RowKit.Below W.heap.size W wx→(wx.cell? ⟨N,0,none⟩=some (.string s94)∧wx.cell? ⟨N,1,none⟩=some (.int .i64 0)∧wx.cell? ⟨N,2,none⟩=some (.int .i64 100)∧wx.cell? ⟨N,3,none⟩=some (.slice none 0 0)∧wx.cell? ⟨N,4,none⟩=some (.bool false)∧wx.cell? ⟨N+1,0,none⟩=some (.string s9401)∧wx.cell? ⟨N+1,1,none⟩=some (.int .i64 0)∧wx.cell? ⟨N+1,2,none⟩=some (.int .i64 100)∧wx.cell? ⟨N+1,3,none⟩=some (.slice A 1 c)∧wx.cell? ⟨N+1,4,none⟩=some (.bool false)∧RowKit.Below W.heap.size W wx)):=fun wx hb=>by
  have h1:=HX.out.keep hb
  have h2:=HY.out.keep hb
  exact⟨h1.cell 0,h1.cell 1,h1.cell 2,h1.cell 3,h1.cell 4,h2.cell 0,h2.cell 1,h2.cell 2,h2.cell 3,h2.cell 4,hb⟩
 have hk0:Hid (RowKit.Below W.heap.size W W.drew):=(Below.refl _ _).drew
 have hk00:Hid (RowKit.Below W.heap.size W W):=Below.refl _ _
 obtain⟨x0,x1,x2,x3,x4,y0,y1,y2,y3,y4,_⟩:=HS.out _ hk00.out
 go_region_held3 (fun wx=>wx.cell? ⟨N,0,none⟩=some (.string s94)∧wx.cell? ⟨N,1,none⟩=some (.int .i64 0)∧wx.cell? ⟨N,2,none⟩=some (.int .i64 100)∧wx.cell? ⟨N,3,none⟩=some (.slice none 0 0)∧wx.cell? ⟨N,4,none⟩=some (.bool false)∧wx.cell? ⟨N+1,0,none⟩=some (.string s9401)∧wx.cell? ⟨N+1,1,none⟩=some (.int .i64 0)∧wx.cell? ⟨N+1,2,none⟩=some (.int .i64 100)∧wx.cell? ⟨N+1,3,none⟩=some (.slice A 1 c)∧wx.cell? ⟨N+1,4,none⟩=some (.bool false)∧RowKit.Below W.heap.size W wx)
  (first
   | with_reducible exact HS.out _ hkz.out
   | with_reducible exact HS.out _ hk0.out
   | with_reducible exact HS.out _ hk00.out)
  (first
   | (go_at_call 179;with_reducible (refine (HV0.out _).mono ?_);rintro e wz ⟨rfl,hbz⟩;have hkz:=Lib.hid (hkz.out.trans (hbz.mono hkz.out.size)))
   | (go_at_call 179;with_reducible (refine (HV0.out _).mono ?_);rintro e wz ⟨rfl,hbz⟩;have hkz:=Lib.hid (hk0.out.trans (hbz.mono hk0.out.size)))
   | (go_at_call 179;with_reducible (refine (HV1.out _).mono ?_);rintro e wz ⟨rfl,hbz⟩;have hkz:=Lib.hid (hkz.out.trans (hbz.mono hkz.out.size)))
   | (go_at_call 179;with_reducible (refine (HV1.out _).mono ?_);rintro e wz ⟨rfl,hbz⟩;have hkz:=Lib.hid (hk0.out.trans (hbz.mono hk0.out.size)))
   | (go_at_call 180;with_reducible (refine (HVC.out _).mono ?_);rintro e wz ⟨rfl,hbz⟩;have hkz:=Lib.hid (hkz.out.trans (hbz.mono hkz.out.size))))
 all_goals
  obtain⟨x0,x1,x2,x3,x4,y0,y1,y2,y3,y4,_⟩:=HS.out _ hkz.out
  have HBZ:=Lib.hid (HB.out.trans (hkz.out.mono (show N≤W.heap.size by have:=HB.out.size;omega)))
  go_wp2
  go_ret
  exact⟨rfl,by rw [hN];exact HBZ.out⟩
end Go.Proofs.YtbokkeooahodaaaGreatDoor

/-
  A part of the proof of TopQuotaDayCardSaid: lemmas and contracts of functions that the law calls. No statement of the seat is proved here. Conditions: as each says.
-/
import Derived.Test.YtbokkeooahodaaaGreatDoorQAN
import Derived.Test.YtbokkeooahodaaaGreatDoorQAE
import Derived.Laws.IdiomStrings
import Derived.Deep.DeepCutAuto
namespace Go.Proofs.YtbokkeooahodaaaGreatDoor
open Go.RowKit
set_option linter.unusedVariables false
def ToRes (w:World) (o:Int × List Dl) (e:Ending) (w':World):Prop:=e=.returned (.tuple #[.int .i64 (sumA o.2),.int .i64 o.1])∧RowKit.Below w.heap.size w w'
set_option maxRecDepth 100000 in
set_option maxHeartbeats 2000000 in
theorem total20_any (A:Option Addr) (n c:Nat) (xs:List MsA) (x:It) (w:World) (h:MsR w A n xs) (hG:LenG w) (h1:x.code.size≤1000000) (h2:x.org.size≤1000000) :
  Calls Tryz.prog 35 #[.slice A n c,.agg #[.string x.code,.string x.org,.bool x.proof,.int .i64 x.co,.int .i64 x.day,.int .i64 x.qty,.int .i64 x.val,.int .i64 x.gr]] w (ToRes w (asOut (msL xs) x)):=by
 have hal:RowKit.Below w.heap.size w (w.alloc (.cells #[.string x.code,.string x.org,.bool x.proof,.int .i64 x.co,.int .i64 x.day,.int .i64 x.qty,.int .i64 x.val,.int .i64 x.gr] 33)):=(Below.refl _ _).alloc (Nat.le_refl _) _
 have HA:=Lib.hid (assess_any A n c xs x (w.alloc (.cells #[.string x.code,.string x.org,.bool x.proof,.int .i64 x.co,.int .i64 x.day,.int .i64 x.qty,.int .i64 x.val,.int .i64 x.gr] 33)) (h.below hal) (hG.below hal) h1 h2)
 have HX:Hid (Bl (w.alloc (.cells #[.string x.code,.string x.org,.bool x.proof,.int .i64 x.co,.int .i64 x.day,.int .i64 x.qty,.int .i64 x.val,.int .i64 x.gr] 33)) w.heap.size 33 #[.string x.code,.string x.org,.bool x.proof,.int .i64 x.co,.int .i64 x.day,.int .i64 x.qty,.int .i64 x.val,.int .i64 x.gr]):=Bl.new _ _ _
 have HB:=Lib.hid hal
 clear h hG h1 h2 hal
 go_enter Tryz.func35,Tryz.ntmps35
 go_upto_region 1 with (fail)
 generalize w.alloc (.cells #[.string x.code,.string x.org,.bool x.proof,.int .i64 x.co,.int .i64 x.day,.int .i64 x.qty,.int .i64 x.val,.int .i64 x.gr] 33)=W at *
 have i0:W.cell? ⟨w.heap.size,0,none⟩=some (.string x.code):=HX.out.cell 0
 have i1:W.cell? ⟨w.heap.size,1,none⟩=some (.string x.org):=HX.out.cell 1
 have i2:W.cell? ⟨w.heap.size,2,none⟩=some (.bool x.proof):=HX.out.cell 2
 have i3:W.cell? ⟨w.heap.size,3,none⟩=some (.int .i64 x.co):=HX.out.cell 3
 have i4:W.cell? ⟨w.heap.size,4,none⟩=some (.int .i64 x.day):=HX.out.cell 4
 have i5:W.cell? ⟨w.heap.size,5,none⟩=some (.int .i64 x.qty):=HX.out.cell 5
 have i6:W.cell? ⟨w.heap.size,6,none⟩=some (.int .i64 x.val):=HX.out.cell 6
 have i7:W.cell? ⟨w.heap.size,7,none⟩=some (.int .i64 x.gr):=HX.out.cell 7
 go_wp2_with fail
 refine HA.out.mono ?_
 rintro e w2 ⟨R,d,rfl,_,hb⟩
 have HB2:=Lib.hid (HB.out.trans (hb.mono HB.out.size))
 have HY:Hid (Bl (w2.alloc (.cells #[.slice R (asOut (msL xs) x).2.length d,.int .i64 (sumA (asOut (msL xs) x).2)] 28)) w2.heap.size 28 #[.slice R (asOut (msL xs) x).2.length d,.int .i64 (sumA (asOut (msL xs) x).2)]):=Bl.new _ _ _
 have HB3:=Lib.hid (HB2.out.alloc HB2.out.size (.cells #[.slice R (asOut (msL xs) x).2.length d,.int .i64 (sumA (asOut (msL xs) x).2)] 28))
 clear hb i0 i1 i2 i3 i4 i5 i6 i7
 go_wp2
 go_ret2
 exact⟨rfl,HB3.out⟩
set_option maxRecDepth 100000 in
theorem rate20 {w0 w:World} {gs:Nat} {LA:Option Addr} {m lc:Nat} {xs:List Int} (h:SrcOk w0 w gs LA m lc xs) :
  Calls Tryz.prog 45 #[.pointer (some ⟨gs,0,none⟩)] w (TrNum gs LA m lc w 0 1000000):=by
 have HS:=Lib.hid h
 clear h
 go_enter Tryz.func45,Tryz.ntmps45
 go_wp2_with fail
 refine (next20 HS.out 4 (by decide) (by decide)).mono ?_
 rintro e w1 ⟨v,rfl,hv,ht1⟩
 have HT1:=Lib.hid ht1
 have HS1:=Lib.hid (HS.out.tr ht1)
 clear ht1
 by_cases hp:0<v
 case pos =>
  have d1:decide (v > 0)=true:=by simp;omega
  have d2:decide (0<v)=true:=by simp;omega
  go_wp2_with fail
  refine (next20 HS1.out 101 (by decide) (by decide)).mono ?_
  rintro e w2 ⟨v2,rfl,hv2,ht2⟩
  have HT2:=Lib.hid (HT1.out.trans ht2)
  have u1:IntKind.i64.wrap (10000*v2)=10000*v2:=IntWalk.i64_in _ (by omega)
  clear ht2
  go_wp2
  go_ret
  exact⟨_,rfl,by omega,HT2.out⟩
 case neg =>
  have d1:decide (v > 0)=false:=by simp;omega
  have d2:decide (0<v)=false:=by simp;omega
  go_wp2_with fail
  refine (next20 HS1.out 1000001 (by decide) (by decide)).mono ?_
  rintro e w2 ⟨v2,rfl,hv2,ht2⟩
  have HT2:=Lib.hid (HT1.out.trans ht2)
  clear ht2
  go_wp2
  go_ret
  exact⟨_,rfl,by omega,HT2.out⟩
set_option maxRecDepth 100000 in
theorem countries20 (w:World):Calls Tryz.prog 19 #[] w fun e w'=>e=.returned (.slice (some ⟨w.heap.size,0,none⟩) 6 6)∧w'=w.alloc (.cells #[.string ⟨#[65,65]⟩,.string ⟨#[66,66]⟩,.string ⟨#[67,67]⟩,.string ⟨#[68,68]⟩,.string ⟨#[69,69]⟩,.string ⟨#[70,70]⟩] 9):=by
 go_enter Tryz.func19,Tryz.ntmps19
 go_wp2
 go_ret
 exact⟨rfl,rfl⟩
theorem infoB20:(Tryz.prog.info? 5).map (fun i=>(i.zero,i.size,i.bytes))=some (some (.int .u8 0),1,1):=by kernel_rfl
def byteL (xs:List Int):Prop:=∀ x∈xs,0≤x∧x≤255
theorem bytes_str {w:World} {N:Nat} {B:Option Addr} {n c:Nat} {xs:List Int} (h:w.ownsRow N 5 1 (.slice B n c) n (xs.map (Value.int .u8))) (hb:byteL xs) (h0:0<n) :
  ∃ s:ByteArray,s.size=n∧(convert 121 9 (.slice B n c)).run Tryz.prog w=.ok (.string s) w:=by
 have hi:IntsK .u8 w B n xs:=IntsK.of_own h
 have hl:=hi.len
 obtain⟨b,off,e,_,hc⟩:=hi.2 h0
 subst e
 have hlen:(xs.map fun x=>UInt8.ofNat x.toNat).length=n:=by rw [List.length_map];exact hl
 refine⟨⟨(xs.map fun x=>UInt8.ofNat x.toNat).toArray⟩,by show (xs.map fun x=>UInt8.ofNat x.toNat).toArray.size=n;simp [hl],?_⟩
 have:=run_convert_bytes_back (P:=Tryz.prog) w 121 9 5 ⟨b,off,none⟩ c (xs.map fun x=>UInt8.ofNat x.toNat) Tryz.underlying121 Tryz.underlying5 Tryz.underlying9 (fun j hj=>by
  have hj':j<n:=by rw [← hlen];exact hj
  have h3:=hc j hj'
  have hx:=hb xs[j] (List.getElem_mem (by omega))
  rw [List.getD_eq_getElem?_getD,List.getElem?_eq_getElem (by omega)] at h3
  simp only [Option.getD_some] at h3
  rw [show (⟨b,off,none⟩:Addr).add j=⟨b,off+j,none⟩ by by_cases e0:j=0 <;> simp [Addr.add,e0],h3,List.getElem_map]
  congr 2
  rw [UInt8.toNat_ofNat']
  omega)
 rw [hlen] at this
 exact this
theorem TrE.grown {gs:Nat} {LA:Option Addr} {m lc:Nat} {W wx w':World} (h:TrE gs LA m lc W wx) {row:Option Nat} (hg:wx.grownBy w' row) (hr:∀ g,row=some g→W.heap.size≤g) (hs:gs<W.heap.size):TrE gs LA m lc W w':=by
 obtain⟨hk,J,hJ⟩:=h
 refine⟨⟨hg.os.trans hk.os,hg.tape.trans hk.tape,hg.output.trans hk.output,Nat.le_trans hk.size hg.size,fun i hi hne=>(hg.block i (Nat.lt_of_lt_of_le hi hk.size) (fun e=>by have:=hr i e.symm;omega)).trans (hk.block i hi hne)⟩,J,?_⟩
 exact (hg.block gs hJ.lt (fun e=>by have:=hr gs e.symm;omega)).trans hJ
def lenV:Value→Nat
 | .slice _ n _=>n
 | _=>0
def CdRes (gs:Nat) (LA:Option Addr) (m lc:Nat) (w:World) (e:Ending) (w':World):Prop:=∃ s:ByteArray,e=.returned (.string s)∧s.size≤1000∧TrE gs LA m lc w w'
set_option maxRecDepth 100000 in
set_option maxHeartbeats 4000000 in
theorem code20 {w0 w:World} {gs:Nat} {LA:Option Addr} {m lc:Nat} {xs:List Int} (k:Nat) (hk:k≤100) (h:SrcOk w0 w gs LA m lc xs) :
  Calls Tryz.prog 18 #[.pointer (some ⟨gs,0,none⟩),.int .i64 (k:Int)] w (CdRes gs LA m lc w):=by
 have HS:=Lib.hid h
 clear h
 go_enter Tryz.func18,Tryz.ntmps18
 go_wp2_with fail
 refine (next20 HS.out 2 (by decide) (by decide)).mono ?_
 rintro e w1 ⟨v,rfl,hv,ht1⟩
 have u1:IntKind.i64.wrap (52+v)=52+v:=IntWalk.i64_in _ (by omega)
 have u2:IntKind.u8.wrap (52+v)=52+v:=IntWalk.u8_in _ (by omega)
 have HT1:=Lib.hid (ht1.alloc (.cells #[.int .u8 57,.int .u8 (52+v)] 5))
 have HO1:Hid ((w1.alloc (.cells #[.int .u8 57,.int .u8 (52+v)] 5)).ownsRow w1.heap.size 5 1 (.slice (some ⟨w1.heap.size,0,none⟩) 2 2) 2 ([57,52+v].map (Value.int .u8))):=own_lit (xs:=[.int .u8 57,.int .u8 (52+v)]) (Bl.new _ _ _) (Nat.le_refl _) rfl (by decide)
 have HBY:Hid (byteL [57,52+v]):=fun x hx=>by
  simp only [List.mem_cons,List.not_mem_nil,or_false] at hx
  rcases hx with rfl | rfl <;> omega
 have hN:gs<w.heap.size:=HS.out.lt
 have hsz:w.heap.size≤w1.heap.size:=ht1.size
 clear ht1
 go_upto_region 2 with (fail)
 have HO2:=Lib.hid (own_mono HO1.out hsz)
 generalize w1.alloc (.cells #[.int .u8 57,.int .u8 (52+v)] 5)=W2 at *
 generalize (some ⟨w1.heap.size,0,none⟩:Option Addr)=B0 at *
 clear HO1
 go_loopw [5] (fun s wx=>∃ (B:Option Addr) (n c:Nat) (l:List Int),s=.slice B n c∧0<n∧n≤k+2∧Hid (wx.ownsRow w.heap.size 5 1 (.slice B n c) n (l.map (Value.int .u8)))∧Hid (byteL l)∧Hid (TrE gs LA m lc w wx)) (fun s _=>k+2 - lenV s)
 case atStart=>exact⟨B0,2,2,[57,52+v],rfl,by omega,by omega,HO2.out,HBY.out,HT1.out⟩
 case round =>
  clear HO2 HBY HT1
  obtain⟨B,n,c,l,rfl,hn0,hn1,HO,HBY,HT⟩:=hrel
  by_cases hlt:n<k
  case neg =>
   have di:decide ((n:Int)<(k:Int))=false:=by simp;omega
   obtain⟨s,hs,hcv⟩:=bytes_str HO.out HBY.out hn0
   have HSS:=Lib.hid hs
   clear hs
   go_wp2
   go_ret
   exact⟨s,rfl,by rw [HSS.out];omega,HT.out⟩
  case pos =>
  have di:decide ((n:Int)<(k:Int))=true:=by simp;omega
  go_wp2_with fail
  refine (next20 (HS.out.tr HT.out) 3 (by decide) (by decide)).mono ?_
  rintro e w3 ⟨v3,rfl,hv3,ht3⟩
  have u3:IntKind.i64.wrap (49+v3)=49+v3:=IntWalk.i64_in _ (by omega)
  have u4:IntKind.u8.wrap (49+v3)=49+v3:=IntWalk.u8_in _ (by omega)
  obtain⟨J3,hJ3⟩:=HT.out.2
  have hO3:=ht3.own hJ3 HO.out (by decide)
  have HT3:=Lib.hid ((HT.out.trans ht3).alloc (.cells #[.int .u8 48,.int .u8 (49+v3)] 5))
  have HOA:Hid ((w3.alloc (.cells #[.int .u8 48,.int .u8 (49+v3)] 5)).ownsRow w.heap.size 5 1 (.slice B n c) n (l.map (Value.int .u8))):=own_alloc hO3 _
  have HRD:Hid (Rd (w3.alloc (.cells #[.int .u8 48,.int .u8 (49+v3)] 5)) 1 (some ⟨w3.heap.size,0,none⟩) 2 [.int .u8 48,.int .u8 (49+v3)]):=rd_bl (xs:=[.int .u8 48,.int .u8 (49+v3)]) (Bl.new _ _ _) rfl
  have HON:Hid (∀ u∈([.int .u8 48,.int .u8 (49+v3)]:List Value),u.oneCell'=true):=fun u hu=>by
   simp only [List.mem_cons,List.not_mem_nil,or_false] at hu
   rcases hu with rfl | rfl <;> rfl
  have HM1:Hid (n+2≤maxLen∧(n+2)*1≤140737488355328):=⟨by unfold maxLen;omega,by omega⟩
  have HBY4:Hid (byteL (l ++ [48,49+v3])):=fun x hx=>by
   rcases List.mem_append.1 hx with hx | hx
   ·exact HBY.out x hx
   ·simp only [List.mem_cons,List.not_mem_nil,or_false] at hx
    rcases hx with rfl | rfl <;> omega
  clear ht3 hJ3 hO3
  go_wp2_with (at_builtin;refine wpList_append_rd _ rfl (.tmp 15) (.tmp 20) 121 rfl w.heap.size 5 _ 1 1 Tryz.underlying121 infoB20 rfl (by decide) (.slice B n c) n _ rfl HOA.out (some ⟨w3.heap.size,0,none⟩) 2 _ [.int .u8 48,.int .u8 (49+v3)] rfl HRD.out HON.out HM1.out.1 HM1.out.2 HT3.out.size ?_;intro v4 w4 ho4 hg4 hv4;obtain⟨B4,d4,rfl⟩:=own_slice ho4)
  have HT4:=Lib.hid (HT3.out.grown hg4 (fun g e=>own_base HOA.out g e) hN)
  have HO4:Hid (w4.ownsRow w.heap.size 5 1 (.slice B4 (n+2) d4) (n+2) ((l ++ [48,49+v3]).map (Value.int .u8))):=by
   show World.ownsRow _ _ _ _ _ _ _
   rw [List.map_append]
   exact ho4
  clear ho4
  go_roundw
  case rel=>exact⟨B4,n+2,d4,_,rfl,by omega,by omega,HO4.out,HBY4.out,HT4.out⟩
  case measure=>simp [lenV];omega
structure RelG (G:Nat→Prop) (zz:World→Prop) (w0 w:World):Prop where
 old:∀ g,G g→g<w0.heap.size
 loc:∀ a b:World,(∀ g,G g→b.heap[g]? = a.heap[g]?)→zz a→zz b
 os:w.os=w0.os
 tape:w.tape=w0.tape
 output:w.output=w0.output
 size:w0.heap.size≤w.heap.size
 block:∀ g,g<w0.heap.size→¬ G g→w.heap[g]? = w0.heap[g]?
 is:zz w
section
variable {G:Nat→Prop} {zz:World→Prop} {w0 w w':World}
theorem RelG.ne (h:RelG G zz w0 w) {g:Nat} (hg:w0.heap.size≤g):¬ G g:=fun e=>by have:=h.old g e;omega
theorem RelG.lt (h:RelG G zz w0 w) {g:Nat} (hg:G g):g<w.heap.size:=Nat.lt_of_lt_of_le (h.old g hg) h.size
theorem RelG.under (h:RelG G zz w0 w) (hb:RowKit.Below w.heap.size w w'):RelG G zz w0 w' :=
 ⟨h.old,h.loc,hb.os.trans h.os,hb.tape.trans h.tape,hb.output.trans h.output,Nat.le_trans h.size hb.size,fun g hg hn=>(hb.block g (Nat.lt_of_lt_of_le hg h.size)).trans (h.block g hg hn),h.loc w w' (fun g hg=>hb.block g (h.lt hg)) h.is⟩
theorem RelG.alloc (h:RelG G zz w0 w) (o:Obj):RelG G zz w0 (w.alloc o):=h.under ((Below.refl _ _).alloc (Nat.le_refl _) o)
theorem RelG.only (h:RelG G zz w0 w) {k:Nat} (hk:G k) (ho:Only k w w') (hz:zz w'):RelG G zz w0 w' :=
 ⟨h.old,h.loc,ho.os.trans h.os,ho.tape.trans h.tape,ho.output.trans h.output,by rw [ho.size];exact h.size,fun g hg hn=>(ho.block g (fun e=>hn (e ▸ hk))).trans (h.block g hg hn),hz⟩
theorem RelG.bl (h:RelG G zz w0 w) {g:Nat} {T:TypeId} {cs:Array Value} (hb:Bl w0 g T cs) (hne:¬ G g):Bl w g T cs:=(h.block g hb.lt hne).trans hb
theorem RelG.start (ho:∀ g,G g→g<w0.heap.size) (hl:∀ a b:World,(∀ g,G g→b.heap[g]? = a.heap[g]?)→zz a→zz b) (hz:zz w0):RelG G zz w0 w0.drew:=⟨ho,hl,rfl,rfl,rfl,Nat.le_refl _,fun _ _ _=>rfl,hl w0 w0.drew (fun _ _=>rfl) hz⟩
end
section
variable (G:Nat→Prop) (zz:World→Prop) (P:Program) (ops:Array Oper) (Q:Exit→Act→World→Prop) (js:List Job) (a0:Act) (w0:World)
variable (fact:Nat→List Value→Value→Prop) (res:Nat→List Value→Value→List Nat→World→Prop)
structure FindsG (i0:Nat) (j:Job) (a:Act) (w:World) (vs:Nat→Value) (fp:Nat→List Nat):Prop where
 below:RelG G zz w0 w
 old:∀ t:Tmp,(∀ k q,js[k]? = some q→q.dst=some t→waits js js.length k i0=true)→a.eval (.tmp t)=a0.eval (.tmp t)
 dep:∀ i∈j.deps,∀ q,js[i]? = some q→(∀ d,q.dst=some d→a.eval (.tmp d)=vs i)
 val:∀ i∈j.deps,fact i (dv js i vs) (vs i)
 mem:∀ i∈j.eats,res i (dv js i vs) (vs i) (fp i) w
 own:∀ i∈j.eats,∀ g∈fp i,w0.heap.size≤g∧g<w.heap.size
 apart:∀ i∈j.eats,∀ k∈j.eats,i≠k→∀ g∈fp i,g ∉ fp k
structure LeavesG (i:Nat) (j:Job) (w:World) (vs:Nat→Value) (fp:Nat→List Nat) (v:Value) (f:List Nat) (w':World):Prop where
 below:RelG G zz w0 w'
 size:w.heap.size≤w'.heap.size
 block:∀ g,¬ G g→g<w.heap.size→(∀ k∈j.eats,g ∉ fp k)→w'.heap[g]? = w.heap[g]?
 val:fact i (j.deps.map vs) v
 mem:res i (j.deps.map vs) v f w'
 own:∀ g∈f,g<w'.heap.size∧((∃ k∈j.eats,g∈fp k)∨w.heap.size≤g)
def StepJG (i:Nat):Prop :=
 ∀ j o,js[i]? = some j→ops[i]? = some o→∀ (a:Act) (w:World) (vs:Nat→Value) (fp:Nat→List Nat) (K:Act→World→Prop),
  FindsG G zz js a0 w0 fact res i j a w vs fp →
  (∀ v w' f,LeavesG G zz w0 fact res i j w vs fp v f w'→K (a.put o.dst v) w')→Oper.wp P o a w K Q
structure InvJG (listed:Array Bool) (a:Act) (w:World) (vs:Nat→Value) (fp:Nat→List Nat):Prop where
 size:listed.size=ops.size
 frame:a=putJ (number js 0) (fun i=>listed.getD i false) vs a0
 below:RelG G zz w0 w
 deps:∀ i j,js[i]? = some j→listed.getD i false=true→∀ d∈j.deps,listed.getD d false=true
 val:∀ i,listed.getD i false=true→fact i (dv js i vs) (vs i)
 mem:∀ i,listed.getD i false=true→(∀ k q,js[k]? = some q→listed.getD k false=true→i ∉ q.eats)→res i (dv js i vs) (vs i) (fp i) w∧∀ g∈fp i,w0.heap.size≤g∧g<w.heap.size
 apart:∀ i k,listed.getD i false=true→listed.getD k false=true→(∀ l q,js[l]? = some q→listed.getD l false=true→i ∉ q.eats)→(∀ l q,js[l]? = some q→listed.getD l false=true→k ∉ q.eats)→i≠k→∀ g∈fp i,g ∉ fp k
end
theorem wp_region_sepG {G:Nat→Prop} {zz:World→Prop} {P:Program} {ops:Array Oper} {Q:Exit→Act→World→Prop} {a0:Act} {w0:World} {id:Nat} (js:List Job) (fact:Nat→List Value→Value→Prop) (res:Nat→List Value→Value→List Nat→World→Prop)
  (hst:RelG G zz w0 w0.drew) (hm:P.follows .mixedOrders=true) (hfit:fitsJ ops js=true) (hsz:∀ q∈js,∀ d,q.dst=some d→d<a0.tmps.size)
  (hloc:∀ i l v f w w',RelG G zz w0 w→RelG G zz w0 w'→w.heap.size≤w'.heap.size→(∀ g∈f,w0.heap.size≤g∧g<w.heap.size∧w'.heap[g]? = w.heap[g]?)→res i l v f w→res i l v f w')
  (hstep:∀ i,i<js.length→StepJG G zz P ops Q js a0 w0 fact res i)
  (hfin:∀ w vs fp,InvJG G zz ops js a0 w0 fact res (Array.replicate ops.size true) (putJ (number js 0) (fun _=>true) vs a0) w vs fp→Q .normal (putJ (number js 0) (fun _=>true) vs a0) w) :
  (Code.region id ops true).wp P Q a0 w0:=by
 obtain⟨hlen,hdst,hjob⟩:=fitsJ_spec hfit
 refine wp_region_any hm ?_
 refine wpAny_of_inv (fun listed a w=>∃ vs fp,InvJG G zz ops js a0 w0 fact res listed a w vs fp) (fun _ _ _ ⟨_,_,h⟩=>h.size) ?_ ?_ _ _ _ _ ⟨fun _=>undef,fun _=>[],?_⟩ (by simp)
 ·rintro listed a w ⟨vs,fp,h⟩ hr
  have hall:∀ i,i<ops.size→listed.getD i false=true:=by
   intro i
   induction i using Nat.strongRecOn with
   | ind i ih =>
    intro hi
    cases hL:listed.getD i false with
    | true=>rfl
    | false =>
     exfalso
     obtain⟨o,ho,_,_,h4,_⟩:=hjob i (js[i]'(by omega)) (List.getElem?_eq_getElem _)
     have:i∈Region.ready .any ops listed:=by
      rw [mem_ready]
      refine⟨?_,o,ho,fun e he hb=>ih e.on (h4 e he hb) (by have:=h4 e he hb;omega)⟩
      have hs:=h.size
      simp [Array.getD,hs,hi] at hL ⊢
      exact hL
     rw [hr] at this
     cases this
  have hlst:listed=Array.replicate ops.size true:=by
   apply Array.ext
   ·simp [h.size]
   ·intro i h1 h2
    have:=hall i (by rw [← h.size];exact h1)
    simp [h1] at this ⊢
    exact this
  subst hlst
  have hfr:a=putJ (number js 0) (fun _=>true) vs a0:=by
   rw [h.frame]
   refine putJ_congr fun p hp=>⟨?_,fun _=>rfl⟩
   have:=mem_number hp
   rw [Nat.sub_zero] at this
   have hlt:p.1<js.length:=(List.getElem?_eq_some_iff.1 this.2).1
   simp [hlen,hlt]
  subst hfr
  exact hfin _ _ _ h
 ·rintro listed a w i ⟨vs,fp,h⟩ hi
  obtain⟨hun,o,ho,haft⟩:=mem_ready.1 hi
  have hil:i<ops.size:=(Array.getElem?_eq_some_iff.1 ho).1
  have hL:listed.getD i false=false:=by
   have hs:=h.size
   simp [Array.getD,hs,hil] at hun ⊢
   exact hun
  obtain⟨j,hj⟩:∃ j,js[i]? = some j:=⟨_,List.getElem?_eq_getElem (by omega)⟩
  obtain⟨o',ho',hd,hg,_,hdep,heat,honly⟩:=hjob i j hj
  rw [ho] at ho'
  injection ho' with ho'
  subst ho'
  have hjm:(i,j)∈number js 0:=by have:=number_mem (k:=0) hj;rwa [Nat.zero_add] at this
  have hdl:∀ d∈j.deps,listed.getD d false=true:=fun d hd=>by
   obtain⟨e,he,hb,rfl⟩:=hdep d hd
   exact haft e he hb
  have heatl:∀ d∈j.eats,∀ k q,js[k]? = some q→listed.getD k false=true→d ∉ q.eats:=fun d hd k q hk hkl=>honly k q hk (fun e=>by rw [e,hL] at hkl;cases hkl) d hd
  unfold wpOp
  simp only [ho]
  rw [if_pos (by simp [Region.wanted,hg])]
  refine .inl (hstep i (by omega) j o hj ho a w vs fp _ ?_ ?_)
  ·refine⟨h.below,fun t ht=>?_,fun k hk q hq d hd=>?_,fun k hk=>h.val k (hdl k hk),fun k hk=>(h.mem k (hdl k (heat k hk)) (heatl k hk)).1,fun k hk=>(h.mem k (hdl k (heat k hk)) (heatl k hk)).2,fun k hk l hl hne=>h.apart k l (hdl k (heat k hk)) (hdl l (heat l hl)) (heatl k hk) (heatl l hl) hne⟩
   ·rw [h.frame]
    refine putJ_free' fun p hp hd=>?_
    have:=mem_number hp
    rw [Nat.sub_zero] at this
    have hw:=ht p.1 p.2 this.2 hd
    cases hp1:listed.getD p.1 false with
    | false=>rfl
    | true=>have:=waits_listed (L:=fun i=>listed.getD i false) (fun k j hj hk=>h.deps k j hj hk) _ _ _ hw hp1;rw [hL] at this;cases this
   ·rw [h.frame]
    have hm2:(k,q)∈number js 0:=by have:=number_mem (k:=0) hq;rwa [Nat.zero_add] at this
    exact putJ_at hdst hm2 (hdl k hk) hd (hsz q (List.mem_of_getElem? hq) d hd)
  ·intro v w' f hl
   refine⟨fun k=>if k=i then v else vs k,fun k=>if k=i then f else fp k,?_⟩
   have hset:=fun k=>getD_set_eq listed (by rw [h.size];exact hil:i<listed.size) k
   have halive:∀ k,k≠i→(listed.setIfInBounds i true).getD k false=true→(∀ l q,js[l]? = some q→(listed.setIfInBounds i true).getD l false=true→k ∉ q.eats)→listed.getD k false=true∧(∀ l q,js[l]? = some q→listed.getD l false=true→k ∉ q.eats)∧k ∉ j.eats:=fun k hk h1 h2=>by
    rw [hset,if_neg hk] at h1
    refine⟨h1,fun l q hq hql=>h2 l q hq (by rw [hset];split <;> simp [hql]),h2 i j hj (by rw [hset,if_pos rfl])⟩
   have hap:∀ k,listed.getD k false=true→(∀ l q,js[l]? = some q→listed.getD l false=true→k ∉ q.eats)→k ∉ j.eats→∀ g∈fp k,∀ l∈j.eats,g ∉ fp l:=fun k h1 h2 h3 g hg l hl =>
    h.apart k l h1 (hdl l (heat l hl)) h2 (heatl l hl) (fun e=>h3 (by rw [e];exact hl)) g hg
   have hdv:∀ k,k=i∨listed.getD k false=true→dv js k (fun k=>if k=i then v else vs k)=dv js k vs:=fun k hk=>dv_congr fun q hq d hd2=>by
    have h1:listed.getD d false=true:=by
     rcases hk with rfl | hk
     ·rw [hj] at hq;injection hq with hq;subst hq;exact hdl d hd2
     ·exact h.deps k q hq hk d hd2
    have h2:d≠i:=fun e=>by rw [e,hL] at h1;cases h1
    simp [h2]
   refine⟨by simp [h.size],?_,hl.below,fun k q hq hk d hd2=>?_,fun k hk=>?_,fun k hk hal=>?_,fun k l hk hl2 hak hal hne=>?_⟩
   ·rw [h.frame,hd,← putJ_step hdst hjm hL v]
    refine putJ_congr fun p hp=>⟨?_,fun _=>rfl⟩
    rw [hset]
   ·rw [hset]
    split
    ·rfl
    ·by_cases e:k=i
     ·subst e;rw [hj] at hq;injection hq with hq;subst hq;exact hdl d hd2
     ·rw [hset,if_neg e] at hk;exact h.deps k q hq hk d hd2
   ·by_cases e:k=i
    ·subst e
     rw [hdv k (.inl rfl),dv_some hj]
     simpa using hl.val
    ·rw [hset,if_neg e] at hk
     rw [hdv k (.inr hk)]
     simp only [e,if_false]
     exact h.val k hk
   ·by_cases e:k=i
    ·subst e
     rw [hdv k (.inl rfl),dv_some hj]
     simp only [if_true]
     refine⟨hl.mem,fun g hg=>⟨?_,(hl.own g hg).1⟩⟩
     rcases (hl.own g hg).2 with ⟨m,hm1,hm2⟩ | h3
     ·exact ((h.mem m (hdl m (heat m hm1)) (heatl m hm1)).2 g hm2).1
     ·exact Nat.le_trans h.below.size h3
    ·obtain⟨h1,h2,h3⟩:=halive k e hk hal
     rw [hdv k (.inr h1)]
     simp only [e,if_false]
     have h4:=h.mem k h1 h2
     refine⟨hloc k _ _ _ w w' h.below hl.below hl.size (fun g hg=>⟨(h4.2 g hg).1,(h4.2 g hg).2,hl.block g (h.below.ne (h4.2 g hg).1) (h4.2 g hg).2 fun l hl2=>hap k h1 h2 h3 g hg l hl2⟩) h4.1,fun g hg=>⟨(h4.2 g hg).1,Nat.lt_of_lt_of_le (h4.2 g hg).2 hl.size⟩⟩
   ·
    have key:∀ k,k≠i→(listed.setIfInBounds i true).getD k false=true→(∀ l q,js[l]? = some q→(listed.setIfInBounds i true).getD l false=true→k ∉ q.eats)→∀ g∈f,g ∉ fp k:=fun k hki h1 h2 g hg hgk=>by
     obtain⟨h3,h4,h5⟩:=halive k hki h1 h2
     rcases (hl.own g hg).2 with ⟨m,hm1,hm2⟩ | h6
     ·exact hap k h3 h4 h5 g hgk m hm1 hm2
     ·have:=((h.mem k h3 h4).2 g hgk).2;omega
    by_cases e1:k=i
    ·subst e1
     have e2:l≠k:=fun e=>hne e.symm
     simp only [if_true,e2,if_false]
     exact key l e2 hl2 hal
    ·by_cases e2:l=i
     ·subst e2
      simp only [if_true,e1,if_false]
      intro g hg hg2
      exact key k e1 hk hak g hg2 hg
     ·simp only [e1,e2,if_false]
      obtain⟨h3,h4,_⟩:=halive k e1 hk hak
      obtain⟨h5,h6,_⟩:=halive l e2 hl2 hal
      exact h.apart k l h3 h5 h4 h6 hne
 ·have hnone:∀ i,(Array.replicate ops.size false).getD i false=false:=fun i=>by
   simp [Array.getD]
  refine⟨by simp,?_,hst,fun i j hj hi=>?_,fun i hi=>?_,fun i hi=>?_,fun i k hi=>?_⟩
  ·symm
   have:∀ l:List (Nat × Job),putJ l (fun i=>(Array.replicate ops.size false).getD i false) (fun _=>undef) a0=a0:=fun l=>by
    induction l with
    | nil=>rfl
    | cons p r ih =>
     obtain⟨k,q⟩:=p
     simp only [putJ]
     rw [if_neg (by rw [hnone];simp)]
     exact ih
   exact this _
  ·rw [hnone] at hi;cases hi
  ·rw [hnone] at hi;cases hi
  ·rw [hnone] at hi;cases hi
  ·rw [hnone] at hi;cases hi
theorem InvJG.finM {G:Nat→Prop} {zz:World→Prop} {ops:Array Oper} {js:List Job} {a0:Act} {w0:World} {fact:Nat→List Value→Value→Prop} {res:Nat→List Value→Value→List Nat→World→Prop} {a:Act} {w:World} {vs:Nat→Value} {fp:Nat→List Nat}
  (h:InvJG G zz ops js a0 w0 fact res (Array.replicate ops.size true) a w vs fp) (i:Nat) (hi:i<ops.size) (hu:(js.all fun q=>!q.eats.contains i)=true):res i (dv js i vs) (vs i) (fp i) w∧∀ g∈fp i,w0.heap.size≤g∧g<w.heap.size :=
 h.mem i (by simp [hi]) fun k q hq _ hm=>by
  rw [List.all_eq_true] at hu
  have:=hu q (List.mem_of_getElem? hq)
  simp at this
  exact this hm
def LocG (G:Nat→Prop) (zz:World→Prop) (w0:World) (R:List Value→Value→List Nat→World→Prop):Prop :=
 ∀ l v f w w',RelG G zz w0 w→RelG G zz w0 w'→w.heap.size≤w'.heap.size→(∀ g∈f,w0.heap.size≤g∧g<w.heap.size∧w'.heap[g]? = w.heap[g]?)→R l v f w→R l v f w'
def LocsG (G:Nat→Prop) (zz:World→Prop) (w0:World):List Row→Prop
 | []=>True
 | r :: rs=>LocG G zz w0 r.res∧LocsG G zz w0 rs
theorem LocsG.at_ {G:Nat→Prop} {zz:World→Prop} {w0:World} {rows:List Row} (h:LocsG G zz w0 rows):∀ r∈rows,LocG G zz w0 r.res:=by
 induction rows with
 | nil=>intro r hr;cases hr
 | cons x xs ih =>
  intro r hr
  rcases List.mem_cons.1 hr with rfl | hr
  ·exact h.1
  ·exact ih h.2 r hr
def StepsJG (G:Nat→Prop) (zz:World→Prop) (P:Program) (ops:Array Oper) (Q:Exit→Act→World→Prop) (rows:List Row) (a0:Act) (w0:World):List Row→Nat→Prop
 | [],_=>True
 | r :: rs,k=>StepJG G zz P ops Q (rj rows) a0 w0 (rf rows) (rr rows) k∧StepsJG G zz P ops Q rows a0 w0 rs (k+1)
theorem StepsJG.at_ {G:Nat→Prop} {zz:World→Prop} {P:Program} {ops:Array Oper} {Q:Exit→Act→World→Prop} {rows:List Row} {a0:Act} {w0:World} {rs:List Row} {k:Nat} (h:StepsJG G zz P ops Q rows a0 w0 rs k) (i:Nat) (hi:i<rs.length):StepJG G zz P ops Q (rj rows) a0 w0 (rf rows) (rr rows) (k+i):=by
 induction rs generalizing k i with
 | nil=>cases hi
 | cons x xs ih =>
  cases i with
  | zero=>exact h.1
  | succ i=>have:=ih h.2 i (by simpa using hi);rwa [show k+(i+1)=k+1+i by omega]
theorem wp_region_rowsG {G:Nat→Prop} {zz:World→Prop} {P:Program} {ops:Array Oper} {Q:Exit→Act→World→Prop} {a0:Act} {w0:World} {id:Nat} (rows:List Row)
  (hst:RelG G zz w0 w0.drew) (hm:P.follows .mixedOrders=true) (hfit:fitsJ ops (rj rows)=true) (hsz:slotsOk (rj rows) a0.tmps.size=true)
  (hloc:LocsG G zz w0 rows) (hstep:StepsJG G zz P ops Q rows a0 w0 rows 0)
  (hfin:∀ w vs fp,InvJG G zz ops (rj rows) a0 w0 (rf rows) (rr rows) (Array.replicate ops.size true) (putJ (number (rj rows) 0) (fun _=>true) vs a0) w vs fp→Q .normal (putJ (number (rj rows) 0) (fun _=>true) vs a0) w) :
  (Code.region id ops true).wp P Q a0 w0:=by
 refine wp_region_sepG (rj rows) (rf rows) (rr rows) hst hm hfit (fun q hq d hd=>?_) (fun i l v f w w' h1 h2 h3 h4 h5=>?_) (fun i hi=>?_) hfin
 ·unfold slotsOk at hsz
  rw [List.all_eq_true] at hsz
  have:=hsz q hq
  rw [hd] at this
  simpa using this
 ·unfold rr at h5 ⊢
  cases hr:rows[i]? with
  | none=>trivial
  | some r =>
   simp only [hr] at h5 ⊢
   exact hloc.at_ r (List.mem_of_getElem? hr) l v f w w' h1 h2 h3 h4 h5
 ·have:=hstep.at_ i (by simpa [rj] using hi)
  rwa [Nat.zero_add] at this
section
variable {G:Nat→Prop} {zz:World→Prop} {P:Program} {ops:Array Oper} {Q:Exit→Act→World→Prop} {js:List Job} {a0:Act} {w0:World} {fact:Nat→List Value→Value→Prop} {res:Nat→List Value→Value→List Nat→World→Prop}
theorem step_ofG {i:Nat} {j:Job} {o:Oper} (hj:js[i]? = some j) (ho:ops[i]? = some o)
  (h:∀ (a:Act) (w:World) (vs:Nat→Value) (fp:Nat→List Nat) (K:Act→World→Prop),FindsG G zz js a0 w0 fact res i j a w vs fp →
   (∀ v w' f,LeavesG G zz w0 fact res i j w vs fp v f w'→K (a.put o.dst v) w')→Oper.wp P o a w K Q):StepJG G zz P ops Q js a0 w0 fact res i:=fun j' o' hj' ho'=>by
 rw [hj] at hj';injection hj' with hj';subst hj'
 rw [ho] at ho';injection ho' with ho';subst ho'
 exact h
variable {i:Nat} {j:Job} {a:Act} {w:World} {vs:Nat→Value} {fp:Nat→List Nat}
theorem FindsG.ev (h:FindsG G zz js a0 w0 fact res i j a w vs fp) (k d:Nat) (hk:j.deps.contains k=true) (hd:(js[k]?).bind (·.dst)=some d):a.eval (.tmp d)=vs k:=by
 cases hq:js[k]? with
 | none=>rw [hq] at hd;cases hd
 | some q=>rw [hq] at hd;exact h.dep k (by simpa using hk) q hq d hd
theorem FindsG.at_ (h:FindsG G zz js a0 w0 fact res i j a w vs fp) (t:Nat) (ht:oldOk js i t=true):a.eval (.tmp t)=a0.eval (.tmp t) :=
 h.old t fun k q hq e=>by
  unfold oldOk at ht
  rw [List.all_eq_true] at ht
  have hm:=number_mem (k:=0) hq
  rw [Nat.zero_add] at hm
  have:=ht _ hm
  simp only [e,bne_self_eq_false,Bool.false_or] at this
  exact this
theorem FindsG.va (h:FindsG G zz js a0 w0 fact res i j a w vs fp) (k:Nat) (hk:j.deps.contains k=true):fact k (dv js k vs) (vs k):=h.val k (by simpa using hk)
theorem FindsG.me (h:FindsG G zz js a0 w0 fact res i j a w vs fp) (k:Nat) (hk:j.eats.contains k=true):res k (dv js k vs) (vs k) (fp k) w:=h.mem k (by simpa using hk)
variable {v:Value} {f:List Nat} {w':World}
theorem FindsG.only (h:FindsG G zz js a0 w0 fact res i j a w vs fp) (h1:fact i (j.deps.map vs) v) (h2:res i (j.deps.map vs) v [] w):LeavesG G zz w0 fact res i j w vs fp v [] w :=
 ⟨h.below,Nat.le_refl _,fun _ _ _ _=>rfl,h1,h2,fun g hg=>by cases hg⟩
theorem FindsG.hand (h:FindsG G zz js a0 w0 fact res i j a w vs fp) (k:Nat) (hk':j.eats.contains k=true) (h1:fact i (j.deps.map vs) v) (h2:res i (j.deps.map vs) v (fp k) w):LeavesG G zz w0 fact res i j w vs fp v (fp k) w :=
 have hk:k∈j.eats:=by simpa using hk'
 ⟨h.below,Nat.le_refl _,fun _ _ _ _=>rfl,h1,h2,fun g hg=>⟨(h.own k hk g hg).2,.inl ⟨k,hk,hg⟩⟩⟩
theorem FindsG.made (h:FindsG G zz js a0 w0 fact res i j a w vs fp) (o:Obj) (h1:fact i (j.deps.map vs) v) (h2:res i (j.deps.map vs) v [w.heap.size] (w.alloc o)):LeavesG G zz w0 fact res i j w vs fp v [w.heap.size] (w.alloc o) :=
 ⟨h.below.alloc o,by simp,fun g _ hg _=>Below.heap_alloc w o g hg,h1,h2,fun g hg=>by
  rw [List.mem_singleton] at hg;subst hg;exact⟨by simp,.inr (Nat.le_refl _)⟩⟩
end
theorem FindsG.call {G:Nat→Prop} {zz:World→Prop} {js:List Job} {a0:Act} {w0:World} {fact:Nat→List Value→Value→Prop} {res:Nat→List Value→Value→List Nat→World→Prop} {i:Nat} {j:Job} {a:Act} {w w':World} {vs:Nat→Value} {fp:Nat→List Nat} {v:Value}
  (h:FindsG G zz js a0 w0 fact res i j a w vs fp) {k:Nat} (hk:G k) (ho:Only k w w') (hz:zz w') (h1:fact i (j.deps.map vs) v) (h2:res i (j.deps.map vs) v [] w'):LeavesG G zz w0 fact res i j w vs fp v [] w' :=
 ⟨h.below.only hk ho hz,by rw [ho.size];exact Nat.le_refl _,fun g hn _ _=>ho.block g (fun e=>hn (e ▸ hk)),h1,h2,fun g hg=>by cases hg⟩
abbrev NoRG:List Value→Value→List Nat→World→Prop:=fun _ _ _ _=>True
theorem NoRG.loc {G:Nat→Prop} {zz:World→Prop} {w0:World}:LocG G zz w0 NoRG:=fun _ _ _ _ _ _ _ _ _ _=>trivial
def LitRG (T:TypeId) (cs:Array Value) (n:Nat):List Value→Value→List Nat→World→Prop:=fun _ v f w=>∃ g,v=.slice (some ⟨g,0,none⟩) n n∧f = [g]∧Bl w g T cs
theorem LitRG.loc {G:Nat→Prop} {zz:World→Prop} {w0:World} {T:TypeId} {n:Nat} {cs:Array Value}:LocG G zz w0 (LitRG T cs n):=by
 rintro l v f w w' h1 h2 h3 h4 ⟨g,rfl,rfl,h5⟩
 exact⟨g,rfl,rfl,(h4 g (by simp)).2.2.trans h5⟩
def PtrRG (T:TypeId) (cs:Array Value):List Value→Value→List Nat→World→Prop:=fun _ v f w=>∃ g,v=.pointer (some ⟨g,0,none⟩)∧f = [g]∧Bl w g T cs
theorem PtrRG.loc {G:Nat→Prop} {zz:World→Prop} {w0:World} {T:TypeId} {cs:Array Value}:LocG G zz w0 (PtrRG T cs):=by
 rintro l v f w w' h1 h2 h3 h4 ⟨g,rfl,rfl,h5⟩
 exact⟨g,rfl,rfl,(h4 g (by simp)).2.2.trans h5⟩
theorem TrE.put {gs:Nat} {LA:Option Addr} {m lc:Nat} {W wx w':World} (h:TrE gs LA m lc W wx) {k:Nat} (ho:Only k wx w') (hk:W.heap.size≤k) (hne:gs≠k):TrE gs LA m lc W w':=by
 obtain⟨hp,J,hJ⟩:=h
 exact⟨⟨ho.os.trans hp.os,ho.tape.trans hp.tape,ho.output.trans hp.output,by rw [ho.size];exact hp.size,fun i hi hi2=>(ho.block i (by omega)).trans (hp.block i hi hi2)⟩,J,ho.bl hJ hne⟩
theorem next20o {w0 w:World} {gs:Nat} {LA:Option Addr} {m lc:Nat} {xs:List Int} (h:SrcOk w0 w gs LA m lc xs) (k:Int) (hk:0<k) (hk':k≤4000000000000000000) :
  Calls Tryz.prog 16 #[.pointer (some ⟨gs,0,none⟩),.int .i64 k] w fun e w'=>∃ v:Int,e=.returned (.int .i64 v)∧(0≤v∧v≤k - 1)∧Only gs w w'∧∃ J,Src w' gs LA m lc J:=by
 obtain⟨J,hJ⟩:=h.src
 refine (next_any gs LA m lc J xs k w0 w hJ h.ints h.below h.base h.few hk hk').mono ?_
 rintro e w' ⟨h1,h2,h3⟩
 have:=nextV_bounds xs m J k hk
 exact⟨_,h1,⟨this.1,by omega⟩,h2,_,h3⟩
structure DuB (w:World) (gs:Nat) (LA:Option Addr) (m lc N:Nat) (d:Du) (wx:World):Prop where
 tr:TrE gs LA m lc w wx
 r:Bl wx N 58 #[.int .i64 0,.int .i64 0,.int .i64 0,.bool false,.int .i64 0,.bool false,.int .i64 0]
 b:Bl wx (N+1) 58 #[.int .i64 d.rate,.int .i64 d.am,.int .i64 d.per,.bool d.hm,.int .i64 d.most,.bool d.hl,.int .i64 d.least]
 base:w.heap.size=N
 src:gs<N
section
variable {w wx w':World} {gs:Nat} {LA:Option Addr} {m lc N:Nat} {d:Du}
theorem DuB.go (h:DuB w gs LA m lc N d wx) (ht:TrE gs LA m lc wx w'):DuB w gs LA m lc N d w' :=
 ⟨h.tr.trans ht,ht.bl h.r (by have:=h.src;omega),ht.bl h.b (by have:=h.src;omega),h.base,h.src⟩
theorem DuB.put (h:DuB w gs LA m lc N d wx) (ho:Only (N+1) wx w') {d':Du} (hb:Bl w' (N+1) 58 #[.int .i64 d'.rate,.int .i64 d'.am,.int .i64 d'.per,.bool d'.hm,.int .i64 d'.most,.bool d'.hl,.int .i64 d'.least]):DuB w gs LA m lc N d' w' :=
 ⟨h.tr.put ho (by have:=h.base;omega) (by have:=h.src;omega),ho.bl h.r (by omega),hb,h.base,h.src⟩
end
def ElR:List Value→Value→List Nat→World→Prop:=fun _ v f w=>∃ g q,v=.pointer (some ⟨g,q,none⟩)∧q<5∧f = [g]∧Bl w g 3 #[.int .i64 1,.int .i64 100,.int .i64 1000,.int .i64 1000000,.int .i64 7]
theorem ElR.loc {G:Nat→Prop} {zz:World→Prop} {w0:World}:LocG G zz w0 ElR:=by
 rintro l v f w w' h1 h2 h3 h4 ⟨g,q,rfl,hq,rfl,h5⟩
 exact⟨g,q,rfl,hq,rfl,(h4 g (by simp)).2.2.trans h5⟩
theorem five_at {w:World} {g q:Nat} (h:Bl w g 3 #[.int .i64 1,.int .i64 100,.int .i64 1000,.int .i64 1000000,.int .i64 7]) (hq:q<5):∃ x:Int,w.cell? ⟨g,q,none⟩=some (.int .i64 x):=by
 rcases (show q=0∨q=1∨q=2∨q=3∨q=4 by omega) with rfl | rfl | rfl | rfl | rfl
 ·exact⟨_,h.cell 0⟩
 ·exact⟨_,h.cell 1⟩
 ·exact⟨_,h.cell 2⟩
 ·exact⟨_,h.cell 3⟩
 ·exact⟨_,h.cell 4⟩
def DuRes (gs:Nat) (LA:Option Addr) (m lc:Nat) (w:World) (e:Ending) (w':World):Prop:=∃ d:Du,e=.returned (.agg #[.int .i64 d.rate,.int .i64 d.am,.int .i64 d.per,.bool d.hm,.int .i64 d.most,.bool d.hl,.int .i64 d.least])∧TrE gs LA m lc w w'
set_option maxRecDepth 100000 in
set_option maxHeartbeats 16000000 in
theorem duty20 {w0 w:World} {gs:Nat} {LA:Option Addr} {m lc:Nat} {xs:List Int} (h:SrcOk w0 w gs LA m lc xs) :
  Calls Tryz.prog 17 #[.pointer (some ⟨gs,0,none⟩)] w (DuRes gs LA m lc w):=by
 have HS:=Lib.hid h
 obtain⟨N,hN⟩:∃ N,w.heap.size=N:=⟨_,rfl⟩
 have hgs:gs<N:=by rw [← hN];exact h.lt
 have s1:(w.alloc (.cells #[.int .i64 0,.int .i64 0,.int .i64 0,.bool false,.int .i64 0,.bool false,.int .i64 0] 58)).heap.size=N+1:=by rw [← hN];simp
 have HD0:Hid (DuB w gs LA m lc N ⟨0,0,0,false,0,false,0⟩ ((w.alloc (.cells #[.int .i64 0,.int .i64 0,.int .i64 0,.bool false,.int .i64 0,.bool false,.int .i64 0] 58)).alloc (.cells #[.int .i64 0,.int .i64 0,.int .i64 0,.bool false,.int .i64 0,.bool false,.int .i64 0] 58))):=⟨(h.start.alloc _).alloc _,by rw [← hN];exact Bl.alloc (Bl.new _ _ _) _,by rw [← s1];exact Bl.new _ _ _,hN,hgs⟩
 have HSR:Hid (∀ (d:Du) wx,DuB w gs LA m lc N d wx→SrcOk w0 wx gs LA m lc xs):=fun d wx hd=>h.tr hd.tr
 clear h
 go_enter Tryz.func17,Tryz.ntmps17
 go_upto_region 2 with (fail)
 try rw [s1]
 try rw [hN]
 clear s1
 generalize (w.alloc (.cells #[.int .i64 0,.int .i64 0,.int .i64 0,.bool false,.int .i64 0,.bool false,.int .i64 0] 58)).alloc (.cells #[.int .i64 0,.int .i64 0,.int .i64 0,.bool false,.int .i64 0,.bool false,.int .i64 0] 58)=W1 at *
 generalize hd0:(⟨0,0,0,false,0,false,0⟩:Du)=d at HD0
 clear hd0
 go_wp2_with fail
 refine (next20 (HSR.out _ _ HD0.out) 3 (by decide) (by decide)).mono ?_
 rintro e wa ⟨va,rfl,hva,hta⟩
 have HA:=Lib.hid (HD0.out.go hta)
 clear hta HD0
 go_upto_if 7 with (fail)
 go_cut [3] (fun pp wx=>∃ d:Du,pp=.pointer (some ⟨N+1,0,none⟩)∧Hid (DuB w gs LA m lc N d wx))
 case first =>
  by_cases hp:0<va
  case neg =>
   have q0:decide (va > 0)=false:=by simp;omega
   have q1:decide (0<va)=false:=by simp;omega
   go_wp2_with fail
   go_meet
   exact⟨d,rfl,HA.out⟩
  case pos =>
   have q0:decide (va > 0)=true:=by simp;omega
   have q1:decide (0<va)=true:=by simp;omega
   go_wp2_with fail
   refine (rate20 (HSR.out _ _ HA.out)).mono ?_
   rintro e wb ⟨vb,rfl,hvb,htb⟩
   have HB:=Lib.hid (HA.out.go htb)
   clear htb
   have y0:wb.cell? ⟨N+1,0,none⟩=some (.int .i64 d.rate):=HB.out.b.cell 0
   have f0:wb.frozen? ⟨N+1,0,none⟩=false:=HB.out.b.free 0
   have HC:Hid (DuB w gs LA m lc N ⟨vb / 4,d.am,d.per,d.hm,d.most,d.hl,d.least⟩ (wb.setCell ⟨N+1,0,none⟩ (.int .i64 (vb / 4)))):=HB.out.put ((Only.refl (N+1) wb).setCell 0 _) (by simpa using (HB.out.b.put 0 (.int .i64 (vb / 4))))
   clear HB HA
   go_wp2_with fail
   go_meet
   exact⟨_,rfl,HC.out⟩
 case rest =>
 clear HA
 obtain⟨d,rfl,HD1⟩:=hcut
 go_wp2_with fail
 refine (next20 (HSR.out _ _ HD1.out) 3 (by decide) (by decide)).mono ?_
 rintro e wa ⟨va,rfl,hva,hta⟩
 have HA:=Lib.hid (HD1.out.go hta)
 clear hta HD1
 go_upto_if 14 with (fail)
 go_cut [3] (fun pp wx=>∃ d:Du,pp=.pointer (some ⟨N+1,0,none⟩)∧Hid (DuB w gs LA m lc N d wx))
 case first =>
  by_cases hp:va=1
  case neg =>
   have q0:(va == 1)=false:=by simp;omega
   go_wp2_with fail
   go_meet
   exact⟨d,rfl,HA.out⟩
  case pos =>
   have q0:(va == 1)=true:=by simp;omega
   go_upto_region 5 with (fail)
   have HKP:Hid (∀ wx,RelG (fun g=>g=gs∨g=N+1) (fun wx:World=>(∃ J,Src wx gs LA m lc J)∧∃ d:Du,Bl wx (N+1) 58 #[.int .i64 d.rate,.int .i64 d.am,.int .i64 d.per,.bool d.hm,.int .i64 d.most,.bool d.hl,.int .i64 d.least]) wa wx→TrE gs LA m lc wa wx∨True):=fun wx h=>.inr trivial
   have hng:gs≠N+1:=by omega
   have RB:∀ wx,RelG (fun g=>g=gs∨g=N+1) (fun wx:World=>(∃ J,Src wx gs LA m lc J)∧∃ d:Du,Bl wx (N+1) 58 #[.int .i64 d.rate,.int .i64 d.am,.int .i64 d.per,.bool d.hm,.int .i64 d.most,.bool d.hl,.int .i64 d.least]) wa wx→RowKit.Below w0.heap.size w0 wx:=fun wx hr=>by
    have h1:=(HSR.out _ _ HA.out).below
    have h2:=HS.out.below.size
    have h3:=HS.out.base
    have h4:=HA.out.tr.size
    exact h1.trans ⟨hr.os,hr.tape,hr.output,hr.size,fun k hk=>hr.block k (by omega) (fun x=>by rcases x with x | x <;> omega)⟩
   have HNX:Hid (∀ (k:Int) wx,RelG (fun g=>g=gs∨g=N+1) (fun wx:World=>(∃ J,Src wx gs LA m lc J)∧∃ d:Du,Bl wx (N+1) 58 #[.int .i64 d.rate,.int .i64 d.am,.int .i64 d.per,.bool d.hm,.int .i64 d.most,.bool d.hl,.int .i64 d.least]) wa wx→0<k→k≤5000→Calls Tryz.prog 16 #[.pointer (some ⟨gs,0,none⟩),.int .i64 k] wx fun e w'=>∃ v:Int,e=.returned (.int .i64 v)∧(0≤v∧v≤k - 1)∧Only gs wx w'∧(∃ J,Src w' gs LA m lc J)∧∃ d:Du,Bl w' (N+1) 58 #[.int .i64 d.rate,.int .i64 d.am,.int .i64 d.per,.bool d.hm,.int .i64 d.most,.bool d.hl,.int .i64 d.least]):=fun k wx hr h1 h2=>by
    obtain⟨hsr,d',hd'⟩:=hr.is
    have hS:SrcOk w0 wx gs LA m lc xs:=⟨hsr,HS.out.ints,RB wx hr,HS.out.base,HS.out.few⟩
    refine (next20o hS k h1 (by omega)).mono ?_
    rintro e w' ⟨v,e1,e2,e3,e4⟩
    exact⟨v,e1,e2,e3,e4,d',e3.bl hd' (fun x=>hng x.symm)⟩
   refine wp_region_rowsG [
     ⟨⟨some 15,[],[]⟩,fun _ v=>v=.pointer (some ⟨gs,0,none⟩),NoRG⟩,
     ⟨⟨some 16,[0],[]⟩,fun _ v=>∃ x:Int,v=.int .i64 x∧0≤x∧x≤499,NoRG⟩,
     ⟨⟨some 17,[1],[]⟩,fun _ v=>∃ x:Int,v=.int .i64 x,NoRG⟩,
     ⟨⟨some 18,[],[]⟩,NoF,LitRG 3 #[.int .i64 1,.int .i64 100,.int .i64 1000,.int .i64 1000000,.int .i64 7] 5⟩,
     ⟨⟨some 19,[],[]⟩,fun _ v=>v=.pointer (some ⟨gs,0,none⟩),NoRG⟩,
     ⟨⟨some 20,[4],[]⟩,fun _ v=>∃ q:Nat,v=.int .i64 (q:Int)∧q<5,NoRG⟩,
     ⟨⟨some 21,[3,5],[3]⟩,NoF,ElR⟩,
     ⟨⟨some 22,[6],[6]⟩,fun _ v=>∃ x:Int,v=.int .i64 x,NoRG⟩,
     ⟨⟨some 23,[],[]⟩,fun _ v=>v=.pointer (some ⟨N+1,1,none⟩),NoRG⟩,
     ⟨⟨none,[8,2],[]⟩,NoF,NoRG⟩,
     ⟨⟨some 24,[],[]⟩,fun _ v=>v=.pointer (some ⟨N+1,2,none⟩),NoRG⟩,
     ⟨⟨none,[10,7],[]⟩,NoF,NoRG⟩] (RelG.start (G:=(fun g=>g=gs∨g=N+1)) (zz:=(fun wx:World=>(∃ J,Src wx gs LA m lc J)∧∃ d:Du,Bl wx (N+1) 58 #[.int .i64 d.rate,.int .i64 d.am,.int .i64 d.per,.bool d.hm,.int .i64 d.most,.bool d.hl,.int .i64 d.least])) (fun g hg=>by rcases hg with rfl | rfl;exact HA.out.tr.2.elim (fun J hJ=>hJ.lt);exact HA.out.b.lt) (fun x y hxy hz=>by obtain⟨⟨J,hJ⟩,d',hd'⟩:=hz;exact⟨⟨J,(hxy gs (.inl rfl)).trans hJ⟩,d',(hxy (N+1) (.inr rfl)).trans hd'⟩) ⟨HA.out.tr.2,d,HA.out.b⟩) (by kernel_rfl) (by kernel_rfl) (by kernel_rfl) ⟨NoRG.loc,NoRG.loc,NoRG.loc,LitRG.loc,NoRG.loc,NoRG.loc,ElR.loc,NoRG.loc,NoRG.loc,NoRG.loc,NoRG.loc,NoRG.loc,trivial⟩ ⟨?r0,?r1,?r2,?r3,?r4,?r5,?r6,?r7,?r8,?r9,?r10,?r11,trivial⟩ ?fin
   case r0 =>
    refine step_ofG rfl rfl ?_
    intro a wx vs fp K hF hK
    exact op_move rfl (hF.at_ 0 rfl) (hK _ _ _ (hF.only rfl trivial))
   case r1 =>
    refine step_ofG rfl rfl ?_
    intro a wx vs fp K hF hK
    have e0:a.eval (.tmp 15)=.pointer (some ⟨gs,0,none⟩):=(hF.ev 0 15 rfl rfl).trans (hF.va 0 rfl)
    refine op_call (vals:=#[.pointer (some ⟨gs,0,none⟩),.int .i64 500]) rfl (by kernel_rfl) ?_ ((HNX.out 500 wx hF.below (by decide) (by decide)).mono ?_)
    ·simp only [List.map_toArray,List.map_cons,List.map_nil,e0] <;> rfl
    rintro e w' ⟨v,rfl,hv,ho,hz1,hz2⟩
    exact⟨_,rfl,hK _ _ [] (hF.call (k:=gs) (.inl rfl) ho ⟨hz1,hz2⟩ ⟨v,rfl,hv.1,by omega⟩ trivial)⟩
   case r2 =>
    refine step_ofG rfl rfl ?_
    intro a wx vs fp K hF hK
    obtain⟨x,hx,hx0,hx1⟩:=hF.va 1 rfl
    have e1:a.eval (.tmp 16)=.int .i64 x:=(hF.ev 1 16 rfl rfl).trans hx
    have u:IntKind.i64.wrap (1+x)=1+x:=IntWalk.i64_in _ (by omega)
    refine op_value (v:=.int .i64 (1+x)) ?_ (hK _ _ _ (hF.only ⟨_,rfl⟩ trivial))
    have ec:∀ v,a.eval (.const v)=v:=fun _=>rfl
    clear hF hK
    generalize a.eval=ρ at *
    go_simp
   case r3 =>
    refine step_ofG rfl rfl ?_
    intro a wx vs fp K hF hK
    refine op_value (v:=.slice (some ⟨wx.heap.size,0,none⟩) 5 5) (w':=wx.alloc (.cells #[.int .i64 1,.int .i64 100,.int .i64 1000,.int .i64 1000000,.int .i64 7] 3)) ?_ (hK _ _ _ (hF.made _ trivial ⟨_,rfl,rfl,Bl.new _ _ _⟩))
    have ec:∀ v,a.eval (.const v)=v:=fun _=>rfl
    clear hF hK
    generalize a.eval=ρ at *
    go_simp
   case r4 =>
    refine step_ofG rfl rfl ?_
    intro a wx vs fp K hF hK
    exact op_move rfl (hF.at_ 0 rfl) (hK _ _ _ (hF.only rfl trivial))
   case r5 =>
    refine step_ofG rfl rfl ?_
    intro a wx vs fp K hF hK
    have e0:a.eval (.tmp 19)=.pointer (some ⟨gs,0,none⟩):=(hF.ev 4 19 rfl rfl).trans (hF.va 4 rfl)
    refine op_call (vals:=#[.pointer (some ⟨gs,0,none⟩),.int .i64 5]) rfl (by kernel_rfl) ?_ ((HNX.out 5 wx hF.below (by decide) (by decide)).mono ?_)
    ·simp only [List.map_toArray,List.map_cons,List.map_nil,e0] <;> rfl
    rintro e w' ⟨v,rfl,hv,ho,hz1,hz2⟩
    exact⟨_,rfl,hK _ _ [] (hF.call (k:=gs) (.inl rfl) ho ⟨hz1,hz2⟩ ⟨v.toNat,by rw [Int.toNat_of_nonneg hv.1],by omega⟩ trivial)⟩
   case r6 =>
    refine step_ofG rfl rfl ?_
    intro a wx vs fp K hF hK
    obtain⟨q,hq,hq5⟩:=hF.va 5 rfl
    obtain⟨g,hg,hfg,hbl⟩:LitRG 3 #[.int .i64 1,.int .i64 100,.int .i64 1000,.int .i64 1000000,.int .i64 7] 5 [] (vs 3) (fp 3) wx:=hF.me 3 rfl
    have e1:a.eval (.tmp 18)=.slice (some ⟨g,0,none⟩) 5 5:=(hF.ev 3 18 rfl rfl).trans hg
    have e2:a.eval (.tmp 20)=.int .i64 (q:Int):=(hF.ev 5 20 rfl rfl).trans hq
    have q1:(q:Int)<5:=by omega
    have q2:(0:Int)≤(q:Int):=by omega
    refine op_value (v:=.pointer (some ⟨g,q,none⟩)) ?_ (hK _ _ _ (hF.hand 3 rfl trivial ⟨g,q,rfl,hq5,hfg,hbl⟩))
    have ec:∀ v,a.eval (.const v)=v:=fun _=>rfl
    clear hF hK hbl hfg hg hq
    generalize a.eval=ρ at *
    go_simp
   case r7 =>
    refine step_ofG rfl rfl ?_
    intro a wx vs fp K hF hK
    obtain⟨g,q,hg,hq5,hfg,hbl⟩:ElR [] (vs 6) (fp 6) wx:=hF.me 6 rfl
    have e1:a.eval (.tmp 21)=.pointer (some ⟨g,q,none⟩):=(hF.ev 6 21 rfl rfl).trans hg
    obtain⟨x,hx⟩:=five_at hbl hq5
    refine op_value (v:=.int .i64 x) ?_ (hK _ _ [] (hF.only ⟨_,rfl⟩ trivial))
    have ec:∀ v,a.eval (.const v)=v:=fun _=>rfl
    clear hF hK hbl hfg hg
    generalize a.eval=ρ at *
    go_simp
   case r8 =>
    refine step_ofG rfl rfl ?_
    intro a wx vs fp K hF hK
    have ea:a.eval (.tmp 3)=.pointer (some ⟨N+1,0,none⟩):=hF.at_ 3 rfl
    refine op_value (v:=.pointer (some ⟨N+1,1,none⟩)) ?_ (hK _ _ _ (hF.only rfl trivial))
    have ec:∀ v,a.eval (.const v)=v:=fun _=>rfl
    clear hF hK
    generalize a.eval=ρ at *
    go_simp
   case r9 =>
    refine step_ofG rfl rfl ?_
    intro a wx vs fp K hF hK
    obtain⟨x,hx⟩:=hF.va 2 rfl
    have e1:a.eval (.tmp 23)=.pointer (some ⟨N+1,1,none⟩):=(hF.ev 8 23 rfl rfl).trans (hF.va 8 rfl)
    have e2:a.eval (.tmp 17)=.int .i64 x:=(hF.ev 2 17 rfl rfl).trans hx
    obtain⟨hsr,d',hd'⟩:=hF.below.is
    have y:wx.cell? ⟨N+1,1,none⟩=some (.int .i64 d'.am):=hd'.cell 1
    have f:wx.frozen? ⟨N+1,1,none⟩=false:=hd'.free 1
    have ho:Only (N+1) wx (wx.setCell ⟨N+1,1,none⟩ (.int .i64 x)):=(Only.refl (N+1) wx).setCell 1 _
    refine op_skip (w':=wx.setCell ⟨N+1,1,none⟩ (.int .i64 x)) ?_ (hK undef _ [] (hF.call (k:=N+1) (.inr rfl) ho ⟨hsr.elim fun J hJ=>⟨J,ho.bl hJ hng⟩,⟨d'.rate,x,d'.per,d'.hm,d'.most,d'.hl,d'.least⟩,by simpa using hd'.put 1 (.int .i64 x)⟩ trivial trivial))
    have ec:∀ v,a.eval (.const v)=v:=fun _=>rfl
    clear hF hK hd' hsr ho
    generalize a.eval=ρ at *
    go_simp
   case r10 =>
    refine step_ofG rfl rfl ?_
    intro a wx vs fp K hF hK
    have ea:a.eval (.tmp 3)=.pointer (some ⟨N+1,0,none⟩):=hF.at_ 3 rfl
    refine op_value (v:=.pointer (some ⟨N+1,2,none⟩)) ?_ (hK _ _ _ (hF.only rfl trivial))
    have ec:∀ v,a.eval (.const v)=v:=fun _=>rfl
    clear hF hK
    generalize a.eval=ρ at *
    go_simp
   case r11 =>
    refine step_ofG rfl rfl ?_
    intro a wx vs fp K hF hK
    obtain⟨x,hx⟩:=hF.va 7 rfl
    have e1:a.eval (.tmp 24)=.pointer (some ⟨N+1,2,none⟩):=(hF.ev 10 24 rfl rfl).trans (hF.va 10 rfl)
    have e2:a.eval (.tmp 22)=.int .i64 x:=(hF.ev 7 22 rfl rfl).trans hx
    obtain⟨hsr,d',hd'⟩:=hF.below.is
    have y:wx.cell? ⟨N+1,2,none⟩=some (.int .i64 d'.per):=hd'.cell 2
    have f:wx.frozen? ⟨N+1,2,none⟩=false:=hd'.free 2
    have ho:Only (N+1) wx (wx.setCell ⟨N+1,2,none⟩ (.int .i64 x)):=(Only.refl (N+1) wx).setCell 2 _
    refine op_skip (w':=wx.setCell ⟨N+1,2,none⟩ (.int .i64 x)) ?_ (hK undef _ [] (hF.call (k:=N+1) (.inr rfl) ho ⟨hsr.elim fun J hJ=>⟨J,ho.bl hJ hng⟩,⟨d'.rate,d'.am,x,d'.hm,d'.most,d'.hl,d'.least⟩,by simpa using hd'.put 2 (.int .i64 x)⟩ trivial trivial))
    have ec:∀ v,a.eval (.const v)=v:=fun _=>rfl
    clear hF hK hd' hsr ho
    generalize a.eval=ρ at *
    go_simp
   case fin =>
    intro wz vs fp hI
    obtain⟨hsr,d',hd'⟩:=hI.below.is
    have HZ:Hid (DuB w gs LA m lc N d' wz):=by
     have hr:=hI.below
     have hsz:=HA.out.tr.size
     have hbs:=HA.out.base
     exact⟨⟨⟨hr.os.trans HA.out.tr.1.os,hr.tape.trans HA.out.tr.1.tape,hr.output.trans HA.out.tr.1.output,Nat.le_trans hsz hr.size,fun k hk hne=>(hr.block k (by omega) (fun x=>by rcases x with x | x;exact hne x;omega)).trans (HA.out.tr.1.block k hk hne)⟩,hsr⟩,(hr.block N (HA.out.r.lt) (fun x=>by rcases x with x | x <;> omega)).trans HA.out.r,hd',hbs,hgs⟩
    clear hI HKP HNX
    simp only [rj,number,putJ,List.map_cons,List.map_nil,if_true,Act.put,List.setIfInBounds_toArray,List.set_cons_zero,List.set_cons_succ]
    generalize vs 0=zv0
    generalize vs 1=zv1
    generalize vs 2=zv2
    generalize vs 3=zv3
    generalize vs 4=zv4
    generalize vs 5=zv5
    generalize vs 6=zv6
    generalize vs 7=zv7
    generalize vs 8=zv8
    generalize vs 9=zv9
    generalize vs 10=zv10
    generalize vs 11=zv11
    go_wp2_with fail
    go_meet
    exact⟨d',rfl,HZ.out⟩
 case rest =>
 clear HA
 obtain⟨d,rfl,HD1⟩:=hcut
 go_wp2_with fail
 refine (next20 (HSR.out _ _ HD1.out) 4 (by decide) (by decide)).mono ?_
 rintro e wa ⟨va,rfl,hva,hta⟩
 have HA:=Lib.hid (HD1.out.go hta)
 clear hta HD1
 go_upto_if 27 with (fail)
 go_cut [3] (fun pp wx=>∃ d:Du,pp=.pointer (some ⟨N+1,0,none⟩)∧Hid (DuB w gs LA m lc N d wx))
 case first =>
  by_cases hp:va=1
  case neg =>
   have q0:(va == 1)=false:=by simp;omega
   go_wp2_with fail
   go_meet
   exact⟨d,rfl,HA.out⟩
  case pos =>
   have q0:(va == 1)=true:=by simp;omega
   go_wp2_with fail
   refine (rate20 (HSR.out _ _ HA.out)).mono ?_
   rintro e wb ⟨vb,rfl,hvb,htb⟩
   have HB:=Lib.hid (HA.out.go htb)
   clear htb
   have y3:wb.cell? ⟨N+1,3,none⟩=some (.bool d.hm):=HB.out.b.cell 3
   have f3:wb.frozen? ⟨N+1,3,none⟩=false:=HB.out.b.free 3
   have y4:wb.cell? ⟨N+1,4,none⟩=some (.int .i64 d.most):=HB.out.b.cell 4
   have f4:wb.frozen? ⟨N+1,4,none⟩=false:=HB.out.b.free 4
   have HC:Hid (DuB w gs LA m lc N ⟨d.rate,d.am,d.per,true,vb,d.hl,d.least⟩ ((wb.setCell ⟨N+1,3,none⟩ (.bool true)).setCell ⟨N+1,4,none⟩ (.int .i64 vb))):=HB.out.put (((Only.refl (N+1) wb).setCell 3 _).setCell 4 _) (by simpa using ((HB.out.b.put 3 (.bool true)).put 4 (.int .i64 vb)))
   clear HB HA
   go_wp2_with fail
   go_meet
   exact⟨_,rfl,HC.out⟩
 case rest =>
 clear HA
 obtain⟨d,rfl,HD1⟩:=hcut
 go_wp2_with fail
 refine (next20 (HSR.out _ _ HD1.out) 4 (by decide) (by decide)).mono ?_
 rintro e wa ⟨va,rfl,hva,hta⟩
 have HA:=Lib.hid (HD1.out.go hta)
 clear hta HD1
 go_upto_if 34 with (fail)
 go_cut [3] (fun pp wx=>∃ d:Du,pp=.pointer (some ⟨N+1,0,none⟩)∧Hid (DuB w gs LA m lc N d wx))
 case first =>
  by_cases hp:va=1
  case neg =>
   have q0:(va == 1)=false:=by simp;omega
   go_wp2_with fail
   go_meet
   exact⟨d,rfl,HA.out⟩
  case pos =>
   have q0:(va == 1)=true:=by simp;omega
   go_wp2_with fail
   refine (rate20 (HSR.out _ _ HA.out)).mono ?_
   rintro e wb ⟨vb,rfl,hvb,htb⟩
   have HB:=Lib.hid (HA.out.go htb)
   clear htb
   have y5:wb.cell? ⟨N+1,5,none⟩=some (.bool d.hl):=HB.out.b.cell 5
   have f5:wb.frozen? ⟨N+1,5,none⟩=false:=HB.out.b.free 5
   have y6:wb.cell? ⟨N+1,6,none⟩=some (.int .i64 d.least):=HB.out.b.cell 6
   have f6:wb.frozen? ⟨N+1,6,none⟩=false:=HB.out.b.free 6
   have HC:Hid (DuB w gs LA m lc N ⟨d.rate,d.am,d.per,d.hm,d.most,true,vb / 8⟩ ((wb.setCell ⟨N+1,5,none⟩ (.bool true)).setCell ⟨N+1,6,none⟩ (.int .i64 (vb / 8)))):=HB.out.put (((Only.refl (N+1) wb).setCell 5 _).setCell 6 _) (by simpa using ((HB.out.b.put 5 (.bool true)).put 6 (.int .i64 (vb / 8))))
   clear HB HA
   go_upto_region 10 with (fail)
   generalize (wb.setCell ⟨N+1,5,none⟩ (.bool true)).setCell ⟨N+1,6,none⟩ (.int .i64 (vb / 8))=we at *
   have y3:we.cell? ⟨N+1,3,none⟩=some (.bool d.hm):=HC.out.b.cell 3
   have y4:we.cell? ⟨N+1,4,none⟩=some (.int .i64 d.most):=HC.out.b.cell 4
   have y6':we.cell? ⟨N+1,6,none⟩=some (.int .i64 (vb / 8)):=HC.out.b.cell 6
   have f6':we.frozen? ⟨N+1,6,none⟩=false:=HC.out.b.free 6
   have HC2:Hid (DuB w gs LA m lc N ⟨d.rate,d.am,d.per,d.hm,d.most,true,min (vb / 8) d.most⟩ (we.setCell ⟨N+1,6,none⟩ (.int .i64 (min (vb / 8) d.most)))):=HC.out.put ((Only.refl (N+1) we).setCell 6 _) (by simpa using HC.out.b.put 6 (.int .i64 (min (vb / 8) d.most)))
   cases hh:d.hm
   case false =>
    rw [hh] at y3
    go_wp2_with fail
    go_meet
    exact⟨_,rfl,HC.out⟩
   case true =>
    rw [hh] at y3
    go_wp2_with fail
    go_meet
    exact⟨_,rfl,HC2.out⟩
 case rest =>
 clear HA
 obtain⟨d,rfl,HD1⟩:=hcut
 have z0:wc.cell? ⟨N+1,0,none⟩=some (.int .i64 d.rate):=HD1.out.b.cell 0
 have z1:wc.cell? ⟨N+1,1,none⟩=some (.int .i64 d.am):=HD1.out.b.cell 1
 have z2:wc.cell? ⟨N+1,2,none⟩=some (.int .i64 d.per):=HD1.out.b.cell 2
 have z3:wc.cell? ⟨N+1,3,none⟩=some (.bool d.hm):=HD1.out.b.cell 3
 have z4:wc.cell? ⟨N+1,4,none⟩=some (.int .i64 d.most):=HD1.out.b.cell 4
 have z5:wc.cell? ⟨N+1,5,none⟩=some (.bool d.hl):=HD1.out.b.cell 5
 have z6:wc.cell? ⟨N+1,6,none⟩=some (.int .i64 d.least):=HD1.out.b.cell 6
 have r0:wc.cell? ⟨N,0,none⟩=some (.int .i64 0):=HD1.out.r.cell 0
 have t0:wc.frozen? ⟨N,0,none⟩=false:=HD1.out.r.free 0
 have r1:wc.cell? ⟨N,1,none⟩=some (.int .i64 0):=HD1.out.r.cell 1
 have t1:wc.frozen? ⟨N,1,none⟩=false:=HD1.out.r.free 1
 have r2:wc.cell? ⟨N,2,none⟩=some (.int .i64 0):=HD1.out.r.cell 2
 have t2:wc.frozen? ⟨N,2,none⟩=false:=HD1.out.r.free 2
 have r3:wc.cell? ⟨N,3,none⟩=some (.bool false):=HD1.out.r.cell 3
 have t3:wc.frozen? ⟨N,3,none⟩=false:=HD1.out.r.free 3
 have r4:wc.cell? ⟨N,4,none⟩=some (.int .i64 0):=HD1.out.r.cell 4
 have t4:wc.frozen? ⟨N,4,none⟩=false:=HD1.out.r.free 4
 have r5:wc.cell? ⟨N,5,none⟩=some (.bool false):=HD1.out.r.cell 5
 have t5:wc.frozen? ⟨N,5,none⟩=false:=HD1.out.r.free 5
 have r6:wc.cell? ⟨N,6,none⟩=some (.int .i64 0):=HD1.out.r.cell 6
 have t6:wc.frozen? ⟨N,6,none⟩=false:=HD1.out.r.free 6
 have HT:Hid (TrE gs LA m lc w (((((((wc.setCell ⟨N,0,none⟩ (.int .i64 d.rate)).setCell ⟨N,1,none⟩ (.int .i64 d.am)).setCell ⟨N,2,none⟩ (.int .i64 d.per)).setCell ⟨N,3,none⟩ (.bool d.hm)).setCell ⟨N,4,none⟩ (.int .i64 d.most)).setCell ⟨N,5,none⟩ (.bool d.hl)).setCell ⟨N,6,none⟩ (.int .i64 d.least))):=HD1.out.tr.put ((((((((Only.refl N wc).setCell 0 _).setCell 1 _).setCell 2 _).setCell 3 _).setCell 4 _).setCell 5 _).setCell 6 _) (by omega) (by omega)
 have HR:Hid (Bl (((((((wc.setCell ⟨N,0,none⟩ (.int .i64 d.rate)).setCell ⟨N,1,none⟩ (.int .i64 d.am)).setCell ⟨N,2,none⟩ (.int .i64 d.per)).setCell ⟨N,3,none⟩ (.bool d.hm)).setCell ⟨N,4,none⟩ (.int .i64 d.most)).setCell ⟨N,5,none⟩ (.bool d.hl)).setCell ⟨N,6,none⟩ (.int .i64 d.least)) N 58 #[.int .i64 d.rate,.int .i64 d.am,.int .i64 d.per,.bool d.hm,.int .i64 d.most,.bool d.hl,.int .i64 d.least]):=by show Bl _ _ _ _;simpa using (((((((HD1.out.r.put 0 (.int .i64 d.rate)).put 1 (.int .i64 d.am)).put 2 (.int .i64 d.per)).put 3 (.bool d.hm)).put 4 (.int .i64 d.most)).put 5 (.bool d.hl)).put 6 (.int .i64 d.least))
 go_wp2
 generalize (((((((wc.setCell ⟨N,0,none⟩ (.int .i64 d.rate)).setCell ⟨N,1,none⟩ (.int .i64 d.am)).setCell ⟨N,2,none⟩ (.int .i64 d.per)).setCell ⟨N,3,none⟩ (.bool d.hm)).setCell ⟨N,4,none⟩ (.int .i64 d.most)).setCell ⟨N,5,none⟩ (.bool d.hl)).setCell ⟨N,6,none⟩ (.int .i64 d.least))=WZ at *
 have x0:WZ.cell? ⟨N,0,none⟩=some (.int .i64 d.rate):=HR.out.cell 0
 have x1:WZ.cell? ⟨N,1,none⟩=some (.int .i64 d.am):=HR.out.cell 1
 have x2:WZ.cell? ⟨N,2,none⟩=some (.int .i64 d.per):=HR.out.cell 2
 have x3:WZ.cell? ⟨N,3,none⟩=some (.bool d.hm):=HR.out.cell 3
 have x4:WZ.cell? ⟨N,4,none⟩=some (.int .i64 d.most):=HR.out.cell 4
 have x5:WZ.cell? ⟨N,5,none⟩=some (.bool d.hl):=HR.out.cell 5
 have x6:WZ.cell? ⟨N,6,none⟩=some (.int .i64 d.least):=HR.out.cell 6
 refine bodyPost_ret (v:=.agg #[.int .i64 d.rate,.int .i64 d.am,.int .i64 d.per,.bool d.hm,.int .i64 d.most,.bool d.hl,.int .i64 d.least]) (by simp [results,Tryz.results17,go_sem,x0,x1,x2,x3,x4,x5,x6]) rfl ⟨d,rfl,HT.out⟩
end Go.Proofs.YtbokkeooahodaaaGreatDoor

/-
  A part of the proof of TopQuotaDayCardSaid: lemmas and contracts of functions that the law calls. No statement of the seat is proved here. Conditions: as each says.
-/
import Derived.Test.YtbokkeooahodaaaGreatDoorQAF
import Derived.Test.YtbokkeooahodaaaGreatDoorQAN
import Derived.Laws.RangeString
import Derived.Test.YtbokkeooahodaaaGreatDoorRows
import Derived.Lib.LaidTab
import Derived.MakeChecks
import Derived.Shelf.Vars
import Derived.Test.YtbokkeooahodaaaGreatDoorQAA
import Derived.Test.YtbokkeooahodaaaGreatDoorQAB
import Derived.Deep.SlicePairs
namespace Go.Proofs.YtbokkeooahodaaaGreatDoor
open Go.RowKit
set_option linter.unusedVariables false
set_option maxRecDepth 100000 in
theorem line20 (w:World):Calls Tryz.prog 36 #[.string ⟨#[57,52,48,49]⟩] w fun e w'=>e=.returned (.string ⟨#[57,52,48,49,48,48,48,48]⟩)∧w=w':=by
 go_enter Tryz.func36,Tryz.ntmps36
 go_wp2_with fail
 refine wp_loop_rounds 3 ?_
 rw [rounds_succ]
 go_wp2
 rw [rounds_succ]
 go_wp2
 rw [rounds_succ]
 go_wp2
 go_ret
 exact⟨rfl,rfl⟩
set_option maxRecDepth 100000 in
theorem complete20 (w:World):Calls Tryz.prog 119 #[.slice none 0 0] w fun e w'=>e=.returned (.bool true)∧w=w':=by
 go_enter Tryz.func119,Tryz.ntmps119
 go_wp2_with fail
 refine wp_loop_rounds 1 ?_
 rw [rounds_succ]
 go_wp2
 go_ret
 exact⟨rfl,rfl⟩
def posV (wx:World) (g:Nat):Nat:=match wx.heap[g]? with | some (.stringIter _ p)=>p | _=>0
theorem posV_iter (w:World) (s:ByteArray) (p:Nat):posV (w.iter s p) w.heap.size=p:=by
 unfold posV
 rw [World.iter_heap]
structure WordS (s:ByteArray):Prop where
 one:1≤s.size
 few:s.size≤12
 low:∀ i (h:i<s.size),97≤(s[i]'h).toNat∧(s[i]'h).toNat≤122
set_option maxRecDepth 100000 in
set_option maxHeartbeats 2000000 in
theorem isWord_yes (s:ByteArray) (w:World) (hs:WordS s):Calls Tryz.prog 172 #[.string s] w fun e w'=>e=.returned (.bool true)∧RowKit.Below w.heap.size w w':=by
 have HS:=Lib.hid hs
 have h1:=hs.one
 have h2:=hs.few
 have d1:decide ((s.size:Int)<1)=false:=by simp;omega
 have d2:decide ((s.size:Int) > 12)=false:=by simp;omega
 have d2b:decide (12<s.size)=false:=by simp;omega
 have HBI:Hid (∀ p,RowKit.Below w.heap.size w (w.iter s p)):=fun p=>(Below.refl _ _).alloc (Nat.le_refl _) _
 clear hs
 go_enter Tryz.func172,Tryz.ntmps172
 go_wp2_with fail
 go_loopw [4] (fun v wx=>∃ p:Nat,wx=w.iter s p∧p≤s.size) (fun v wx=>s.size - posV wx w.heap.size)
 case atStart=>exact⟨0,rfl,Nat.zero_le _⟩
 case round =>
  obtain⟨p,hw,hp⟩:=hrel
  subst hw
  by_cases hlt:p<s.size
  case neg =>
   have hn:=run_next_end (P:=Tryz.prog) w s p 0 hlt
   go_wp2
   go_ret
   exact⟨rfl,HBI.out p⟩
  case pos =>
  obtain⟨l1,l2⟩:=HS.out.low p hlt
  have hn:=run_next_ascii (P:=Tryz.prog) w s p 0 hlt (by omega)
  generalize (s[p]'hlt).toNat=c at *
  have q1:decide ((c:Int)<97)=false:=by simp;omega
  have q2:decide ((c:Int) > 122)=false:=by simp;omega
  have q2b:decide (122<c)=false:=by simp;omega
  go_wp2_with fail
  go_roundw
  case rel=>exact⟨p+1,rfl,by omega⟩
  case measure=>rw [posV_iter,posV_iter];omega
structure WordsL (l:List ByteArray):Prop where
 few:l.length≤8
 word:∀ i,i<l.length→WordS l[i]!
 asc:∀ i,0<i→i<l.length→Op.bytesLess l[i]!.toList l[i - 1]!.toList=false∧(l[i]!.toList == l[i - 1]!.toList)=false
set_option maxRecDepth 100000 in
set_option maxHeartbeats 4000000 in
theorem validWords_yes (A:Option Addr) (n c:Nat) (l:List ByteArray) (w:World) (h:Sr w A n l) (hw:WordsL l) :
  Calls Tryz.prog 117 #[.slice A n c] w fun e w'=>e=.returned (.bool true)∧RowKit.Below w.heap.size w w':=by
 have HL:=Lib.hid h.len
 have HR:=Lib.hid h
 have HW:=Lib.hid hw
 have hn:n≤8:=by rw [← h.len];exact hw.few
 have d1:decide ((n:Int) > 8)=false:=by simp;omega
 have d1b:decide (8<n)=false:=by simp;omega
 clear h hw
 go_enter Tryz.func117,Tryz.ntmps117
 go_wp2_with fail
 go_loopw [10] (fun i wx=>∃ k:Nat,k≤n∧i=.int .i64 k∧Hid (RowKit.Below w.heap.size w wx)) (fun i _=>n - (intOf i).toNat)
 case atStart=>exact⟨0,Nat.zero_le _,rfl,Below.refl _ _⟩
 case round =>
  obtain⟨k,hk,rfl,HB⟩:=hrel
  by_cases hlt:k<n
  case neg =>
   obtain rfl:k=n:=by omega
   have di:decide ((k:Int)<(k:Int))=false:=by simp
   go_wp2
   go_ret
   exact⟨rfl,HB.out⟩
  case pos =>
  have di:decide ((k:Int)<(n:Int))=true:=by simp;omega
  obtain⟨b,off,s,hA,hbl,hc,hsz,HX⟩:=HR.out.get hlt
  subst hA
  have hc2:wr.cell? ⟨b,off+k,none⟩=some (.string s):=(HB.out.cell (p:=⟨b,off+k,none⟩) hbl).trans hc
  have HV:=Lib.hid (fun wx=>isWord_yes s wx (by rw [← HX.out];exact HW.out.word k (by rw [HL.out];exact hlt)))
  have hii:(k:Int)<(n:Int):=by omega
  have hiz:(0:Int)≤(k:Int):=by omega
  have ui:IntKind.i64.wrap ((k:Int)+1)=((k+1:Nat):Int):=IntWalk.i64_in _ (by omega)
  by_cases hk0:0<k
  case neg =>
   have d5:decide ((k:Int) > 0)=false:=by simp;omega
   have d5b:decide (0<k)=false:=by simp;omega
   go_wp2_with fail
   refine (HV.out _).mono ?_
   rintro e w1 ⟨rfl,hb1⟩
   have HB1:=Lib.hid (HB.out.trans (hb1.mono HB.out.size))
   clear hb1
   go_wp2_with fail
   go_roundw
   case rel=>exact⟨k+1,by omega,by go_num,HB1.out⟩
   case measure=>simp [intOf];omega
  case pos =>
  obtain⟨b',off',p,hA,_,k1,_,HX0⟩:=HR.out.get (show k - 1<n by omega)
  obtain⟨rfl,rfl⟩:b=b'∧off=off':=by simpa using hA
  clear hA
  obtain⟨a1,a2⟩:=HW.out.asc k hk0 (by rw [HL.out];exact hlt)
  rw [HX.out,HX0.out] at a1 a2
  obtain⟨r,hr⟩:∃ r:Nat,k=r+1:=⟨k - 1,by omega⟩
  subst hr
  simp only [Nat.add_sub_cancel] at k1
  have i1:(0:Int)≤(r:Int):=by omega
  have i2:(r:Int)<(n:Int):=by omega
  have d5:decide ((0:Int)<(r:Int)+1)=true:=decide_eq_true (by omega)
  have u1:IntKind.i64.wrap ((r:Int)+1 - 1)=(r:Int):=(IntWalk.i64_in _ (by omega)).trans (by omega)
  have u2:IntKind.i64.wrap (r:Int)=(r:Int):=IntWalk.i64_in _ (by omega)
  have k2:wr.cell? ⟨b,off+r,none⟩=some (.string p):=(HB.out.cell (p:=⟨b,off+r,none⟩) hbl).trans k1
  go_wp2_with fail
  refine (HV.out _).mono ?_
  rintro e w1 ⟨rfl,hb1⟩
  have HB1:=Lib.hid (HB.out.trans (hb1.mono HB.out.size))
  have k3:w1.cell? ⟨b,off+r,none⟩=some (.string p):=(HB1.out.cell (p:=⟨b,off+r,none⟩) hbl).trans k1
  clear hb1
  go_wp2_with fail
  go_roundw
  case rel=>exact⟨r+1+1,by omega,by go_num,HB1.out⟩
  case measure=>simp [intOf];omega
set_option maxRecDepth 100000 in
theorem described_yes (A:Option Addr) (n c:Nat) (l:List ByteArray) (w:World) (h:Sr w A n l) (hw:WordsL l) (h0:0<n) :
  Calls Tryz.prog 116 #[.slice A n c] w fun e w'=>e=.returned (.bool true)∧RowKit.Below w.heap.size w w':=by
 have HV:=Lib.hid (validWords_yes A n c l w h hw)
 have d1:decide ((n:Int) > 0)=true:=by simp;omega
 have d1b:decide (0<n)=true:=by simp;omega
 clear h hw
 go_enter Tryz.func116,Tryz.ntmps116
 go_wp2_with fail
 refine HV.out.mono ?_
 rintro e w1 ⟨rfl,hb1⟩
 have HB:=Lib.hid hb1
 clear hb1
 go_wp2
 go_ret
 exact⟨rfl,HB.out⟩
set_option maxRecDepth 100000 in
theorem grow20 (w:World):Calls Tryz.prog 173 #[.slice none 0 0,.int .i64 0] w fun e w'=>e=.returned (.slice none 0 0)∧w=w':=by
 go_enter Tryz.func173,Tryz.ntmps173
 go_wp2
 go_ret
 exact⟨rfl,rfl⟩
set_option maxRecDepth 100000 in
set_option maxHeartbeats 2000000 in
theorem concat20 (g:Nat) (w:World) (h:Bl w g 22 #[.slice none 0 0,.slice none 0 0]):Calls Tryz.prog 118 #[.slice (some ⟨g,0,none⟩) 2 2] w fun e w'=>e=.returned (.slice none 0 0)∧w=w':=by
 have c0:w.cell? ⟨g,0,none⟩=some (.slice none 0 0):=h.cell 0
 have c1:w.cell? ⟨g,1,none⟩=some (.slice none 0 0):=h.cell 1
 have HG:=Lib.hid grow20
 go_enter Tryz.func118,Tryz.ntmps118
 go_wp2_with fail
 refine wp_loop_rounds 3 ?_
 rw [rounds_succ]
 go_wp2_with fail
 rw [rounds_succ]
 go_wp2_with fail
 rw [rounds_succ]
 go_wp2_with fail
 refine (HG.out _).mono ?_
 rintro e w1 ⟨rfl,rfl⟩
 go_wp2_with fail
 refine wp_loop_rounds 3 ?_
 rw [rounds_succ]
 go_wp2_with fail
 rw [rounds_succ]
 go_wp2_with fail
 rw [rounds_succ]
 go_wp2_with fail
 go_ret
 exact⟨rfl,rfl⟩
set_option maxRecDepth 100000 in
set_option maxHeartbeats 4000000 in
theorem gvalid20 (A:Option Addr) (n c:Nat) (l:List ByteArray) (w:World) (h:Sr w A n l) (hw:WordsL l) (h0:0<n) :
  Calls Tryz.prog 63 #[.agg #[.slice A n c,.slice none 0 0,.slice none 0 0,.bool false]] w fun e w'=>e=.returned (.int .i64 0)∧RowKit.Below w.heap.size w w':=by
 have hal:RowKit.Below w.heap.size w (w.alloc (.cells #[.slice A n c,.slice none 0 0,.slice none 0 0,.bool false] 90)):=(Below.refl _ _).alloc (Nat.le_refl _) _
 have HD:=Lib.hid (described_yes A n c l _ (h.below hal) hw h0)
 have HX:Hid (Bl (w.alloc (.cells #[.slice A n c,.slice none 0 0,.slice none 0 0,.bool false] 90)) w.heap.size 90 #[.slice A n c,.slice none 0 0,.slice none 0 0,.bool false]):=Bl.new _ _ _
 have HB:=Lib.hid hal
 have HV:Hid (∀ wx:World,Calls Tryz.prog 117 #[.slice none 0 0] wx fun e w'=>e=.returned (.bool true)∧RowKit.Below wx.heap.size wx w'):=fun wx=>validWords_yes none 0 0 [] wx Sr.nil ⟨by simp,fun i hi=>by simp at hi,fun i _ hi=>by simp at hi⟩
 have HC:=Lib.hid concat20
 have HM:=Lib.hid complete20
 clear h hw hal
 go_enter Tryz.func63,Tryz.ntmps63
 go_upto_region 1 with (fail)
 generalize w.alloc (.cells #[.slice A n c,.slice none 0 0,.slice none 0 0,.bool false] 90)=W at *
 have x0:W.cell? ⟨w.heap.size,0,none⟩=some (.slice A n c):=HX.out.cell 0
 go_wp2_with fail
 refine HD.out.mono ?_
 rintro e w1 ⟨rfl,hb1⟩
 have HX1:=Lib.hid (HX.out.keep hb1)
 have HB1:=Lib.hid (HB.out.trans (hb1.mono HB.out.size))
 clear hb1 HX HB HD x0
 have x1:w1.cell? ⟨w.heap.size,1,none⟩=some (.slice none 0 0):=HX1.out.cell 1
 have x2:w1.cell? ⟨w.heap.size,2,none⟩=some (.slice none 0 0):=HX1.out.cell 2
 go_wp2_with fail
 refine wp_loop_rounds 1 ?_
 rw [rounds_succ]
 go_wp2_with fail
 refine (HV.out _).mono ?_
 rintro e w2 ⟨rfl,hb2⟩
 have HX2:=Lib.hid (HX1.out.keep hb2)
 have HB2:=Lib.hid (HB1.out.trans (hb2.mono HB1.out.size))
 clear hb2 x1 x2 HX1 HB1
 have x2:w2.cell? ⟨w.heap.size,2,none⟩=some (.slice none 0 0):=HX2.out.cell 2
 have HB3:=Lib.hid (HB2.out.alloc HB2.out.size (.cells #[.slice none 0 0,.slice none 0 0] 22))
 have HN3:Hid (Bl (w2.alloc (.cells #[.slice none 0 0,.slice none 0 0] 22)) w2.heap.size 22 #[.slice none 0 0,.slice none 0 0]):=Bl.new _ _ _
 go_wp2_with fail
 refine wp_loop_rounds 1 ?_
 rw [rounds_succ]
 go_wp2_with fail
 refine (HC.out _ _ HN3.out).mono ?_
 rintro e w3 ⟨rfl,rfl⟩
 go_wp2_with fail
 refine wp_loop_rounds 1 ?_
 rw [rounds_succ]
 go_wp2_with fail
 refine (HM.out _).mono ?_
 rintro e w4 ⟨rfl,rfl⟩
 go_wp2_with fail
 refine (HM.out _).mono ?_
 rintro e w4 ⟨rfl,rfl⟩
 go_wp2
 go_ret
 exact⟨rfl,HB3.out⟩
abbrev sChair:ByteArray:=⟨#[99,104,97,105,114]⟩
abbrev sOffice:ByteArray:=⟨#[111,102,102,105,99,101]⟩
abbrev sDesc:ByteArray:=⟨#[99,104,97,105,114,43,111,102,102,105,99,101]⟩
theorem chairW:WordS sChair:=⟨by decide,by decide,by decide⟩
theorem officeW:WordS sOffice:=⟨by decide,by decide,by decide⟩
theorem wordsL2:WordsL [sChair,sOffice]:=by
 refine⟨by decide,fun i hi=>?_,fun i h0 hi=>?_⟩
 ·match i,hi with
  | 0,_=>exact chairW
  | 1,_=>exact officeW
 ·match i,h0,hi with
  | 1,_,_=>exact⟨by decide +kernel,by decide +kernel⟩
def MaxG (w:World):Prop:=3<w.heap.size∧∃ m:Int,w.cell? ⟨3,0,none⟩=some (.int .i64 m)
theorem MaxG.below {w w':World} (h:MaxG w) (hb:RowKit.Below w.heap.size w w'):MaxG w':=⟨Nat.lt_of_lt_of_le h.1 hb.size,h.2.imp fun m hm=>(hb.cell (p:=⟨3,0,none⟩) h.1).trans hm⟩
theorem Sr.cells {w:World} {A:Option Addr} {n:Nat} {l:List ByteArray} (h:Sr w A n l) (h0:0<n):∃ b o,A=some ⟨b,o,none⟩∧b<w.heap.size∧∀ (j:Nat) x,l[j]? = some x→w.cell? ⟨b,o+j,none⟩=some (.string x):=by
 obtain⟨b,o,s,hA,hb,_,_,_⟩:=h.get h0
 refine⟨b,o,hA,hb,fun j x hj=>?_⟩
 have hjl:j<l.length:=by
  by_cases hl:j<l.length
  ·exact hl
  ·rw [List.getElem?_eq_none (by omega)] at hj
   cases hj
 obtain⟨b',o',s',hA',_,hc,_,hX⟩:=h.get (show j<n by rw [← h.len];exact hjl)
 obtain⟨rfl,rfl⟩:b=b'∧o=o':=by rw [hA] at hA';simpa using hA'
 rw [hc,← hX.out,List.getElem!_eq_getElem?_getD,hj]
 rfl
theorem flat_encS (l:List ByteArray):flat encS l=l.map Value.string:=by
 induction l with
 | nil=>rfl
 | cons x l ih=>rw [List.map_cons,← ih];rfl
theorem mem_of_bang {α:Type} [Inhabited α] (l:List α) (i:Nat) (hi:i<l.length):l[i]! ∈ l:=by
 rw [getElem!_pos l i hi]
 exact List.getElem_mem hi
theorem Sr.own {w:World} {N:Nat} {t:TypeId} {A:Option Addr} {n c:Nat} {l:List ByteArray} (h:w.ownsRow N t 1 (.slice A n c) n (l.map Value.string)) (hn:n≤1000000) (hs:∀ s∈l,s.size≤1000000):Sr w A n l:=by
 have hl:l.length=n:=by have:=h.1;simpa using this
 exact⟨Recs.of_own encS_len (by rw [flat_encS];exact h) hl,hn,fun i hi=>hs _ (mem_of_bang l i (by omega))⟩
theorem Sr.lit {w:World} {g:Nat} {t:TypeId} {n:Nat} (l:List ByteArray) (h:Bl w g t (l.map Value.string).toArray) (hl:l.length=n) (hn:n≤1000) (hs:∀ s∈l,s.size≤1000000):Sr w (some ⟨g,0,none⟩) n l :=
 Sr.own (own_lit (base:=0) (size:=1) h (Nat.zero_le _) (by simpa using hl) hn) (by omega) hs
set_option maxRecDepth 100000 in
set_option maxHeartbeats 4000000 in
theorem gformat20 (A:Option Addr) (c:Nat) (w:World) (h:Sr w A 2 [sChair,sOffice]) (hc2:2≤c) :
  Calls Tryz.prog 64 #[.agg #[.slice A 2 c,.slice none 0 0,.slice none 0 0,.bool false]] w fun e w'=>e=.returned (.string sDesc)∧RowKit.Below w.heap.size w w':=by
 have hal:RowKit.Below w.heap.size w (w.alloc (.cells #[.slice A 2 c,.slice none 0 0,.slice none 0 0,.bool false] 90)):=(Below.refl _ _).alloc (Nat.le_refl _) _
 have HS:=Lib.hid (h.below hal)
 have HD:=Lib.hid (gvalid20 A 2 c [sChair,sOffice] _ (h.below hal) wordsL2 (by decide))
 have HX:Hid (Bl (w.alloc (.cells #[.slice A 2 c,.slice none 0 0,.slice none 0 0,.bool false] 90)) w.heap.size 90 #[.slice A 2 c,.slice none 0 0,.slice none 0 0,.bool false]):=Bl.new _ _ _
 have HB:=Lib.hid hal
 clear h hal
 go_enter Tryz.func64,Tryz.ntmps64
 go_upto_region 1 with (fail)
 generalize w.alloc (.cells #[.slice A 2 c,.slice none 0 0,.slice none 0 0,.bool false] 90)=W at *
 have x0:W.cell? ⟨w.heap.size,0,none⟩=some (.slice A 2 c):=HX.out.cell 0
 have x1:W.cell? ⟨w.heap.size,1,none⟩=some (.slice none 0 0):=HX.out.cell 1
 have x2:W.cell? ⟨w.heap.size,2,none⟩=some (.slice none 0 0):=HX.out.cell 2
 have x3:W.cell? ⟨w.heap.size,3,none⟩=some (.bool false):=HX.out.cell 3
 go_wp2_with fail
 refine HD.out.mono ?_
 rintro e w1 ⟨rfl,hb1⟩
 have HX1:=Lib.hid (HX.out.keep hb1)
 have HS1:=Lib.hid (HS.out.below hb1)
 have HB1:=Lib.hid (HB.out.trans (hb1.mono HB.out.size))
 clear hb1 HX HB HD x0 x1 x2 x3 HS
 have x0:w1.cell? ⟨w.heap.size,0,none⟩=some (.slice A 2 c):=HX1.out.cell 0
 go_wp2_with fail
 obtain⟨b,o,rfl,hb,hcl⟩:=HS1.out.cells (by decide)
 refine (Tryz.strings_Join b o c [sChair,sOffice] ⟨#[43]⟩ w1 hcl hb (by decide) hc2 (by decide +kernel)).mono ?_
 rintro e w2 ⟨rfl,hb2⟩
 rw [show (⟨(Lib.join (List.map (fun x=>x.data.toList) [sChair,sOffice]) (ByteArray.mk #[43]).data.toList).toArray⟩:ByteArray)=sDesc by decide +kernel]
 have HX2:=Lib.hid (HX1.out.keep hb2)
 have HB2:=Lib.hid (HB1.out.trans (hb2.mono HB1.out.size))
 clear hb2 x0 HX1 HB1 hcl HS1
 have x1:w2.cell? ⟨w.heap.size,1,none⟩=some (.slice none 0 0):=HX2.out.cell 1
 have x2:w2.cell? ⟨w.heap.size,2,none⟩=some (.slice none 0 0):=HX2.out.cell 2
 have x3:w2.cell? ⟨w.heap.size,3,none⟩=some (.bool false):=HX2.out.cell 3
 go_wp2_with fail
 refine wp_loop_rounds 1 ?_
 rw [rounds_succ]
 go_wp2_with fail
 refine wp_loop_rounds 1 ?_
 rw [rounds_succ]
 go_wp2_with fail
 go_ret
 exact⟨rfl,HB2.out⟩
theorem set4_bl {w:World} {g:Nat} {T:TypeId} {z0 z1 z2 z3:Value} (h:Bl w g T #[z0,z1,z2,z3]) (a b c d:Value):Bl ((((w.setCell ⟨g,0,none⟩ a).setCell ⟨g,1,none⟩ b).setCell ⟨g,2,none⟩ c).setCell ⟨g,3,none⟩ d) g T #[a,b,c,d]:=by
 have:=(((h.put 0 a).put 1 b).put 2 c).put 3 d
 simpa using this
def ParR (w:World) (e:Ending) (w':World):Prop:=∃ A c,e=.returned (.tuple #[.agg #[.slice A 2 c,.slice none 0 0,.slice none 0 0,.bool false],.int .i64 0])∧2≤c∧Sr w' A 2 [sChair,sOffice]∧RowKit.Below w.heap.size w w'
set_option maxRecDepth 100000 in
set_option maxHeartbeats 4000000 in
theorem gparse20 (w:World) (hM:MaxG w):Calls Tryz.prog 32 #[.string sDesc] w (ParR w):=by
 have hal:RowKit.Below w.heap.size w (w.alloc (.cells #[.slice none 0 0,.slice none 0 0,.slice none 0 0,.bool false] 90)):=(Below.refl _ _).alloc (Nat.le_refl _) _
 have HX:Hid (Bl (w.alloc (.cells #[.slice none 0 0,.slice none 0 0,.slice none 0 0,.bool false] 90)) w.heap.size 90 #[.slice none 0 0,.slice none 0 0,.slice none 0 0,.bool false]):=Bl.new _ _ _
 have HB:=Lib.hid hal
 have HM:=Lib.hid (hM.below hal)
 clear hM hal
 go_enter Tryz.func32,Tryz.ntmps32
 go_upto_region 1 with (fail)
 generalize w.alloc (.cells #[.slice none 0 0,.slice none 0 0,.slice none 0 0,.bool false] 90)=W at *
 go_wp2_with fail
 obtain⟨m,hm⟩:=HM.out.2
 refine (Tryz.strings_Split sDesc ⟨#[32]⟩ m W (by decide) hm (by decide)).mono ?_
 rintro e w1 ⟨rfl,hw1⟩
 rw [show Lib.countB sDesc ⟨#[32]⟩=0 by decide +kernel] at hw1 ⊢
 rw [show ((Lib.splitB ⟨#[32]⟩ 0 0 sDesc).map Value.string).toArray=#[Value.string sDesc] by rfl] at hw1
 subst hw1
 have HY:Hid (Bl (W.alloc (.cells #[Value.string sDesc] 9)) W.heap.size 9 #[Value.string sDesc]):=Bl.new _ _ _
 have h01:RowKit.Below W.heap.size W (W.alloc (.cells #[Value.string sDesc] 9)):=(Below.refl _ _).alloc (Nat.le_refl _) _
 have HX1:=Lib.hid (HX.out.keep h01)
 have HM1:=Lib.hid (HM.out.below h01)
 have HB1:=Lib.hid (HB.out.trans (h01.mono HB.out.size))
 clear h01 HX HM HB hm
 generalize W.alloc (.cells #[Value.string sDesc] 9)=w1 at *
 generalize W.heap.size=g1 at *
 have y0:w1.cell? ⟨g1,0,none⟩=some (.string sDesc):=HY.out.cell 0
 go_wp2_with fail
 obtain⟨m,hm⟩:=HM1.out.2
 refine (Tryz.strings_Split sDesc ⟨#[43]⟩ m w1 (by decide) hm (by decide)).mono ?_
 rintro e w2 ⟨rfl,hw2⟩
 rw [show Lib.countB sDesc ⟨#[43]⟩=1 by decide +kernel] at hw2 ⊢
 rw [show ((Lib.splitB ⟨#[43]⟩ 0 1 sDesc).map Value.string).toArray=#[Value.string sChair,Value.string sOffice] by rfl] at hw2
 subst hw2
 have HZ:Hid (Bl (w1.alloc (.cells #[Value.string sChair,Value.string sOffice] 9)) w1.heap.size 9 #[Value.string sChair,Value.string sOffice]):=Bl.new _ _ _
 have h12:RowKit.Below w1.heap.size w1 (w1.alloc (.cells #[Value.string sChair,Value.string sOffice] 9)):=(Below.refl _ _).alloc (Nat.le_refl _) _
 have HX2:=Lib.hid (HX1.out.keep h12)
 have HY2:=Lib.hid (HY.out.keep h12)
 have HB2:=Lib.hid (HB1.out.trans (h12.mono HB1.out.size))
 have hlt1:w.heap.size<w1.heap.size:=HX1.out.lt
 clear h12 HX1 HM1 HB1 hm HY y0
 generalize w1.alloc (.cells #[Value.string sChair,Value.string sOffice] 9)=w2 at *
 have hlt2:w.heap.size<w1.heap.size:=hlt1
 generalize w1.heap.size=g2 at *
 have HS:Hid (Sr w2 (some ⟨g2,0,none⟩) 2 [sChair,sOffice]):=Sr.lit [sChair,sOffice] HZ.out rfl (by decide) (by decide)
 have HZ3:Hid (Bl (w2.alloc (.cells #[.slice (some ⟨g2,0,none⟩) 2 2,.slice none 0 0,.slice none 0 0,.bool false] 90)) w2.heap.size 90 #[.slice (some ⟨g2,0,none⟩) 2 2,.slice none 0 0,.slice none 0 0,.bool false]):=Bl.new _ _ _
 have h23:RowKit.Below w2.heap.size w2 (w2.alloc (.cells #[.slice (some ⟨g2,0,none⟩) 2 2,.slice none 0 0,.slice none 0 0,.bool false] 90)):=(Below.refl _ _).alloc (Nat.le_refl _) _
 have HX3:=Lib.hid (HX2.out.keep h23)
 have HS3:=Lib.hid (HS.out.below h23)
 have HQ3:=Lib.hid (HZ.out.keep h23)
 have hg2:w.heap.size<g2:=hlt2
 have HB3:=Lib.hid (HB2.out.trans (h23.mono HB2.out.size))
 clear h23 HX2 HB2 HS HZ HY2
 go_upto_region 3 with (fail)
 generalize w2.alloc (.cells #[.slice (some ⟨g2,0,none⟩) 2 2,.slice none 0 0,.slice none 0 0,.bool false] 90)=w3 at *
 generalize w2.heap.size=g3 at *
 have HV:=Lib.hid (gvalid20 _ 2 2 _ w3 HS3.out wordsL2 (by decide))
 have z0:w3.cell? ⟨g3,0,none⟩=some (.slice (some ⟨g2,0,none⟩) 2 2):=HZ3.out.cell 0
 have z1:w3.cell? ⟨g3,1,none⟩=some (.slice none 0 0):=HZ3.out.cell 1
 have z2:w3.cell? ⟨g3,2,none⟩=some (.slice none 0 0):=HZ3.out.cell 2
 have z3:w3.cell? ⟨g3,3,none⟩=some (.bool false):=HZ3.out.cell 3
 go_wp2_with fail
 refine wp_loop_rounds 1 ?_
 rw [rounds_succ]
 go_wp2_with fail
 refine HV.out.mono ?_
 rintro e w4 ⟨rfl,hb⟩
 have HX4:=Lib.hid (HX3.out.keep hb)
 have HZ4:=Lib.hid (HZ3.out.keep hb)
 have HS4:=Lib.hid (HS3.out.below hb)
 have HQ4:=Lib.hid (HQ3.out.keep hb)
 have HB4:=Lib.hid (HB3.out.trans (hb.mono HB3.out.size))
 clear hb HX3 HZ3 HS3 HB3 z0 z1 z2 z3 HV
 have z0:w4.cell? ⟨g3,0,none⟩=some (.slice (some ⟨g2,0,none⟩) 2 2):=HZ4.out.cell 0
 have z1:w4.cell? ⟨g3,1,none⟩=some (.slice none 0 0):=HZ4.out.cell 1
 have z2:w4.cell? ⟨g3,2,none⟩=some (.slice none 0 0):=HZ4.out.cell 2
 have z3:w4.cell? ⟨g3,3,none⟩=some (.bool false):=HZ4.out.cell 3
 go_wp2_with fail
 refine (gformat20 _ 2 w4 HS4.out (by decide)).mono ?_
 rintro e w5 ⟨rfl,hb⟩
 have HX5:=Lib.hid (HX4.out.keep hb)
 have HZ5:=Lib.hid (HZ4.out.keep hb)
 have HS5:=Lib.hid (HS4.out.below hb)
 have HQ5:=Lib.hid (HQ4.out.keep hb)
 have HB5:=Lib.hid (HB4.out.trans (hb.mono HB4.out.size))
 clear hb HX4 HZ4 HS4 HB4 z0 z1 z2 z3
 have z0:w5.cell? ⟨g3,0,none⟩=some (.slice (some ⟨g2,0,none⟩) 2 2):=HZ5.out.cell 0
 have z1:w5.cell? ⟨g3,1,none⟩=some (.slice none 0 0):=HZ5.out.cell 1
 have z2:w5.cell? ⟨g3,2,none⟩=some (.slice none 0 0):=HZ5.out.cell 2
 have z3:w5.cell? ⟨g3,3,none⟩=some (.bool false):=HZ5.out.cell 3
 have x0:w5.cell? ⟨w.heap.size,0,none⟩=some (.slice none 0 0):=HX5.out.cell 0
 have x1:w5.cell? ⟨w.heap.size,1,none⟩=some (.slice none 0 0):=HX5.out.cell 1
 have x2:w5.cell? ⟨w.heap.size,2,none⟩=some (.slice none 0 0):=HX5.out.cell 2
 have x3:w5.cell? ⟨w.heap.size,3,none⟩=some (.bool false):=HX5.out.cell 3
 have f0:w5.frozen? ⟨w.heap.size,0,none⟩=false:=HX5.out.free 0
 have f1:w5.frozen? ⟨w.heap.size,1,none⟩=false:=HX5.out.free 1
 have f2:w5.frozen? ⟨w.heap.size,2,none⟩=false:=HX5.out.free 2
 have f3:w5.frozen? ⟨w.heap.size,3,none⟩=false:=HX5.out.free 3
 have HZZ:=set4_bl HX5.out (.slice (some ⟨g2,0,none⟩) 2 2) (.slice none 0 0) (.slice none 0 0) (.bool false)
 have HBZ:=Lib.hid ((((HB5.out.setCell (p:=⟨w.heap.size,0,none⟩) (Nat.le_refl _) (.slice (some ⟨g2,0,none⟩) 2 2)).setCell (p:=⟨w.heap.size,1,none⟩) (Nat.le_refl _) (.slice none 0 0)).setCell (p:=⟨w.heap.size,2,none⟩) (Nat.le_refl _) (.slice none 0 0)).setCell (p:=⟨w.heap.size,3,none⟩) (Nat.le_refl _) (.bool false))
 have hne:g2≠w.heap.size:=by omega
 have HQZ:=Lib.hid ((((HQ5.out.far (p:=⟨w.heap.size,0,none⟩) hne (.slice (some ⟨g2,0,none⟩) 2 2)).far (p:=⟨w.heap.size,1,none⟩) hne (.slice none 0 0)).far (p:=⟨w.heap.size,2,none⟩) hne (.slice none 0 0)).far (p:=⟨w.heap.size,3,none⟩) hne (.bool false))
 go_wp2
 generalize (((w5.setCell ⟨w.heap.size,0,none⟩ (.slice (some ⟨g2,0,none⟩) 2 2)).setCell ⟨w.heap.size,1,none⟩ (.slice none 0 0)).setCell ⟨w.heap.size,2,none⟩ (.slice none 0 0)).setCell ⟨w.heap.size,3,none⟩ (.bool false)=WZ at *
 have u0:WZ.cell? ⟨w.heap.size,0,none⟩=some (.slice (some ⟨g2,0,none⟩) 2 2):=HZZ.cell 0
 have u1:WZ.cell? ⟨w.heap.size,1,none⟩=some (.slice none 0 0):=HZZ.cell 1
 have u2:WZ.cell? ⟨w.heap.size,2,none⟩=some (.slice none 0 0):=HZZ.cell 2
 have u3:WZ.cell? ⟨w.heap.size,3,none⟩=some (.bool false):=HZZ.cell 3
 refine bodyPost_ret (v:=.tuple #[.agg #[.slice (some ⟨g2,0,none⟩) 2 2,.slice none 0 0,.slice none 0 0,.bool false],.int .i64 0]) (by simp [results,Tryz.results32,go_sem,u0,u1,u2,u3]) rfl ?_
 exact⟨_,_,rfl,by decide,Sr.lit [sChair,sOffice] HQZ.out rfl (by decide) (by decide),HBZ.out⟩
theorem laid_at {P:Program} {w:World}:∀ {l:List (String × DataW Unit)} {ps:List MemPlace},DataW.LaidVars P w l ps→∀ {i:Nat} {x:String × DataW Unit},l[i]? = some x →
  ∃ g t cs fuel p,P.globalNamed x.1=some g∧(P.globals[g]?).map (·.type)=some t∧w.var? P x.1=some cs∧DataW.trod (fun _=>()) P w 0 (fun _=>true) false fuel t cs.toList=some (x.2,p)
 | [],_,_,i,x,hx=>by simp at hx
 | (n,d) :: r,ps,h,i,x,hx=>by
  obtain⟨g,t,cs,fuel,p,q,h1,h2,h3,h4,h5,_⟩:=h
  cases i with
  | zero =>
   simp only [List.getElem?_cons_zero,Option.some.injEq] at hx
   subst hx
   exact⟨g,t,cs,fuel,p,h1,h2,h3,h4⟩
  | succ i=>exact laid_at h5 (by simpa using hx)
theorem tab_at {P:Program} {W:World} {l:List (String × DataW Unit)} {i:Nat} {name:String} {k:IntKind} {zs:List Int} {g:Nat} {t e:TypeId} {n:Nat}
  (hg:P.globalNamed name=some g) (hty:(P.globals[g]?).map (·.type)=some t) (ht:P.underlying t=some (.array n e)) (he:P.underlying e=some (.int k)) (hce:P.cellsOf e=1) (hct:P.cellsOf t=n)
  (hi:l[i]? = some (name,Lib.tabData k zs)) (h:laidMet P l W):Lib.TabIs P W name k zs:=by
 obtain⟨ps,h,_⟩:=h
 obtain⟨g',t',cs,fuel,p,hg',ht',hvar,hd⟩:=laid_at h hi
 obtain rfl:=Option.some.inj (hg.symm.trans hg')
 obtain rfl:=Option.some.inj (hty.symm.trans ht')
 unfold Lib.TabIs
 rw [hvar,← Lib.cells_of_tab ht he hce hct hd]
theorem cell_lt {w:World} {g i:Nat} {v:Value} (h:w.cell? ⟨g,i,none⟩=some v):g<w.heap.size:=by
 rcases Nat.lt_or_ge g w.heap.size with h2 | h2
 ·exact h2
 ·simp [World.cell?,Array.getElem?_eq_none h2] at h
set_option maxRecDepth 100000 in
theorem maxG_of {W:World} (h:W.ShapedOpen Tryz.prog):MaxG W:=by
 obtain⟨m,hm⟩:=Go.Proofs.cell_of_shapedOpen_int (P:=Tryz.prog) (g:=3) (zero:=#[.int .i64 0]) (t:=3) h (of_decide_eq_true (by kernel_rfl)) (by kernel_rfl) rfl (by kernel_rfl) (by kernel_rfl) Tryz.underlying3
 exact⟨cell_lt hm,m,hm⟩
theorem gLen:Tryz.prog.globalNamed "customs/nomenclature.lengths" = some 0:=by kernel_rfl
set_option maxRecDepth 100000 in
theorem lenG_of {W:World} {l:List (String × DataW Unit)} (hl:l[6]? = some ("customs/nomenclature.lengths",Lib.tabData .i64 [2,4,6,8])) (h:laidMet Tryz.prog l W):LenG W:=by
 have ht:=tab_at (t:=182) (e:=3) (n:=4) gLen (by kernel_rfl) Tryz.underlying182 Tryz.underlying3 (by kernel_rfl) (by kernel_rfl) hl h
 have h0:W.cell? ⟨0,0,none⟩=some (.int .i64 2):=ht.cell gLen 0 (by decide)
 have h1:W.cell? ⟨0,1,none⟩=some (.int .i64 4):=ht.cell gLen 1 (by decide)
 have h2:W.cell? ⟨0,2,none⟩=some (.int .i64 6):=ht.cell gLen 2 (by decide)
 have h3:W.cell? ⟨0,3,none⟩=some (.int .i64 8):=ht.cell gLen 3 (by decide)
 exact⟨cell_lt h0,h0,h1,h2,h3⟩
def IsRow (k:IntKind) (w:World) (a:Option Addr) (len cap:Nat) (zs:List Int):Prop :=
 (a=none∧len=0∧cap=0∧zs = []) ∨
 ∃ x,a=some x∧len≤cap∧cap≤maxLen∧zs.length=cap∧(∀ i,i<zs.length→w.cell? (x.add i)=some (.int k (zs.getD i 0)))∧∀ n∈zs,(Lit.int k n).wf=true
theorem isRow_ints {k:IntKind} {w:World} {a:Option Addr} {len cap:Nat} {zs:List Int} (h:IsRow k w a len cap zs) :
  IntsK k w a len (zs.take len)∧len≤cap∧cap≤9223372036854775807∧(a=none→len=0∧cap=0):=by
 rcases h with ⟨rfl,rfl,rfl,rfl⟩ | ⟨x,rfl,hl,hm,hz,hc,hw⟩
 ·exact⟨⟨rfl,fun h=>absurd h (by omega)⟩,Nat.le_refl _,by omega,fun _=>⟨rfl,rfl⟩⟩
 ·refine⟨⟨by rw [List.length_take];omega,fun h0=>?_⟩,hl,by unfold maxLen at hm;omega,by intro h;cases h⟩
  obtain⟨b,off,spot⟩:=x
  have h1:=hc 0 (by omega)
  have hs:spot=none:=by simpa [Addr.add] using World.cell?_spot h1
  subst hs
  have hb:b<w.heap.size:=by
   rcases Nat.lt_or_ge b w.heap.size with h2 | h2
   ·exact h2
   ·simp [Addr.add,World.cell?,Array.getElem?_eq_none h2] at h1
  refine⟨b,off,rfl,hb,fun i hi=>?_⟩
  have h2:=hc i (by omega)
  have e:(⟨b,off,none⟩:Addr).add i=⟨b,off+i,none⟩:=by
   by_cases h0:i=0
   ·subst h0;simp [Addr.add]
   ·simp [Addr.add,h0]
  rw [e] at h2
  rw [h2]
  simp [List.getD,hi]
end Go.Proofs.YtbokkeooahodaaaGreatDoor
namespace Go.Proofs.YtbokkeooahodaaaGreatDoor
open Go.RowKit Go.ChangeShapes Go.WideShapes Go.Deep
set_option linter.unusedVariables false
theorem add_none (b off k:Nat) (s:Option Nat) (hs:s=none):(⟨b,off,none⟩:Addr).add k=⟨b,off+k,none⟩:=by
 by_cases h0:k=0
 ·subst h0;simp [Addr.add]
 ·simp [Addr.add,h0]
end Go.Proofs.YtbokkeooahodaaaGreatDoor

/-
  A part of the proof of TopQuotaDayCardSaid: lemmas and contracts of functions that the law calls. No statement of the seat is proved here. Conditions: as each says.
-/
import Derived.Test.YtbokkeooahodaaaGreatDoorQAD
import Derived.Shelf.Strings.SlTrimAscii
namespace Go.Proofs.YtbokkeooahodaaaGreatDoor
open Go.RowKit
set_option linter.unusedVariables false
def LenG (w:World):Prop:=0<w.heap.size∧w.cell? ⟨0,0,none⟩=some (.int .i64 2)∧w.cell? ⟨0,1,none⟩=some (.int .i64 4)∧w.cell? ⟨0,2,none⟩=some (.int .i64 6)∧w.cell? ⟨0,3,none⟩=some (.int .i64 8)
theorem LenG.below {w w':World} (h:LenG w) (hb:RowKit.Below w.heap.size w w'):LenG w' :=
 ⟨Nat.lt_of_lt_of_le h.1 hb.size,(hb.cell (p:=⟨0,0,none⟩) h.1).trans h.2.1,(hb.cell (p:=⟨0,1,none⟩) h.1).trans h.2.2.1,(hb.cell (p:=⟨0,2,none⟩) h.1).trans h.2.2.2.1,(hb.cell (p:=⟨0,3,none⟩) h.1).trans h.2.2.2.2⟩
def digL:List UInt8:=[48,49,50,51,52,53,54,55,56,57]
theorem dig_contains (b:UInt8):digL.contains b=isDig b:=by
 rw [Bool.eq_iff_iff]
 unfold digL isDig
 simp only [List.contains_cons,List.contains_nil,Bool.or_eq_true,Bool.and_eq_true,decide_eq_true_eq,beq_iff_eq,Bool.or_false]
 constructor
 ·rintro (rfl | rfl | rfl | rfl | rfl | rfl | rfl | rfl | rfl | rfl) <;> decide
 ·rintro ⟨h1,h2⟩
  have h3:b.toNat=48∨b.toNat=49∨b.toNat=50∨b.toNat=51∨b.toNat=52∨b.toNat=53∨b.toNat=54∨b.toNat=55∨b.toNat=56∨b.toNat=57:=by omega
  have k:∀ c:UInt8,b.toNat=c.toNat→b=c:=fun c h=>UInt8.toNat_inj.1 h
  rcases h3 with h | h | h | h | h | h | h | h | h | h
  ·exact .inl (k 48 h)
  ·exact .inr (.inl (k 49 h))
  ·exact .inr (.inr (.inl (k 50 h)))
  ·exact .inr (.inr (.inr (.inl (k 51 h))))
  ·exact .inr (.inr (.inr (.inr (.inl (k 52 h)))))
  ·exact .inr (.inr (.inr (.inr (.inr (.inl (k 53 h))))))
  ·exact .inr (.inr (.inr (.inr (.inr (.inr (.inl (k 54 h)))))))
  ·exact .inr (.inr (.inr (.inr (.inr (.inr (.inr (.inl (k 55 h))))))))
  ·exact .inr (.inr (.inr (.inr (.inr (.inr (.inr (.inr (.inl (k 56 h)))))))))
  ·exact .inr (.inr (.inr (.inr (.inr (.inr (.inr (.inr (.inr (k 57 h)))))))))
theorem dw_nil (p:UInt8→Bool):∀ l:List UInt8,l.dropWhile p = [] ↔ l.all p=true
 | []=>by simp
 | a :: l=>by
  cases h:p a with
  | true=>rw [List.dropWhile_cons_of_pos h,dw_nil p l,List.all_cons,h,Bool.true_and]
  | false=>rw [List.dropWhile_cons_of_neg (by simp [h]),List.all_cons,h];simp
theorem dw_head (p:UInt8→Bool):∀ (l:List UInt8) (a:UInt8) (t:List UInt8),l.dropWhile p=a :: t→p a=false
 | [],a,t,h=>by simp at h
 | b :: l,a,t,h=>by
  cases hb:p b with
  | true=>rw [List.dropWhile_cons_of_pos hb] at h;exact dw_head p l a t h
  | false=>rw [List.dropWhile_cons_of_neg (by simp [hb])] at h;injection h with h1 h2;rw [← h1];exact hb
theorem trim_nil (l:List UInt8):Lib.trimS l digL = [] ↔ l.all isDig=true:=by
 unfold Lib.trimS Lib.trimLeftS Lib.trimRightS
 have e:(fun x=>digL.contains x)=isDig:=funext dig_contains
 rw [e,dw_nil]
 cases h:l.reverse.dropWhile isDig with
 | nil =>
  have:=(dw_nil isDig l.reverse).1 h
  rw [List.all_reverse] at this
  simp [this]
 | cons a t =>
  have h1:=dw_head isDig _ _ _ h
  have h2:l.all isDig=false:=by
   rcases Bool.eq_false_or_eq_true (l.all isDig) with e | e
   ·rw [← List.all_reverse] at e
    have:=(dw_nil isDig l.reverse).2 e
    rw [this] at h
    cases h
   ·exact e
  rw [h2,List.all_reverse,List.all_cons,h1]
  simp
set_option maxRecDepth 100000 in
theorem trim_any (s:ByteArray) (w:World) (h0:0<s.size) (hs:s.size≤1000000) :
  Calls Tryz.prog 88 #[.string s,.string ⟨#[48,49,50,51,52,53,54,55,56,57]⟩] w fun e w'=>e=.returned (.string ⟨(Lib.trimS s.data.toList digL).toArray⟩)∧RowKit.Below w.heap.size w w':=by
 refine (Any.strings_Trim_set Tryz.lays160 (fun w=>Tryz.zeroValue246 w) (by kernel_rfl) s ⟨#[48,49,50,51,52,53,54,55,56,57]⟩ w (by decide) h0 (by omega) (by decide) ?_).mono ?_
 ·intro j b hb
  have:b∈([48,49,50,51,52,53,54,55,56,57]:List UInt8):=List.mem_of_getElem? hb
  simp only [List.mem_cons,List.not_mem_nil,or_false] at this
  rcases this with rfl | rfl | rfl | rfl | rfl | rfl | rfl | rfl | rfl | rfl <;> decide
 ·rintro e w' ⟨rfl,q,rfl⟩
  exact⟨rfl,below_drewN (((Below.refl _ _).alloc (Nat.le_refl _) _).alloc (by simp) _) _⟩
theorem level_yes {s:ByteArray} {n:Nat} (hn:n=2∨n=4∨n=6∨n=8) (h:s.size=n) (ha:s.toList.all isDig=true):levelV s=n:=by
 unfold levelV levelL
 rw [toList_len,if_pos ⟨by omega,ha⟩,h]
theorem level_no {s:ByteArray} (h:∀ j,j<4→¬ (s.size=2*(j+1)∧s.toList.all isDig=true)):levelV s=0:=by
 unfold levelV levelL
 rw [toList_len,if_neg]
 rintro ⟨h1,h2⟩
 rcases h1 with h1 | h1 | h1 | h1
 ·exact h 0 (by omega) ⟨h1,h2⟩
 ·exact h 1 (by omega) ⟨h1,h2⟩
 ·exact h 2 (by omega) ⟨h1,h2⟩
 ·exact h 3 (by omega) ⟨h1,h2⟩
theorem len_index (w:World) (k:Nat) (hk:k<4):(Instr.index 182 (.agg #[.int .i64 2,.int .i64 4,.int .i64 6,.int .i64 8]) (.int .i64 k)).run Tryz.prog w=.ok (.int .i64 (2*(k+1):Nat)) w:=by
 have h:k=0∨k=1∨k=2∨k=3:=by omega
 rcases h with rfl | rfl | rfl | rfl <;> simp [go_sem,Instr.index]
set_option maxRecDepth 100000 in
set_option maxHeartbeats 4000000 in
theorem level_any (s:ByteArray) (w:World) (hG:LenG w) (hs:s.size≤1000000) :
  Calls Tryz.prog 46 #[.string s] w (VRes w (levelV s)):=by
 have HTr:Hid (0<s.size→∀ w,Calls Tryz.prog 88 #[.string s,.string ⟨#[48,49,50,51,52,53,54,55,56,57]⟩] w fun e w'=>e=.returned (.string ⟨(Lib.trimS s.data.toList digL).toArray⟩)∧RowKit.Below w.heap.size w w'):=fun h w=>trim_any s w h hs
 have HTn:Hid (Lib.trimS s.data.toList digL = [] ↔ s.toList.all isDig=true):=by have:=trim_nil s.toList;rw [ByteArray.toList_eq] at this ⊢;exact this
 have HYes:Hid (∀ n:Nat,(n=2∨n=4∨n=6∨n=8)→s.size=n→s.toList.all isDig=true→levelV s=n):=fun n hn h ha=>level_yes hn h ha
 have HNo:Hid ((∀ j,j<4→¬ (s.size=2*(j+1)∧s.toList.all isDig=true))→levelV s=0):=fun h=>level_no h
 generalize Lib.trimS s.data.toList digL=tr at *
 generalize s.toList.all isDig=al at *
 obtain⟨g0,g1,g2,g3,g4⟩:=hG
 go_enter Tryz.func46,Tryz.ntmps46
 go_wp2
 go_loopw [6] (fun i wr=>∃ k:Nat,k≤4∧i=.int .i64 k∧Hid (∀ j,j<k→¬ (s.size=2*(j+1)∧al=true))∧RowKit.Below w.heap.size w wr) (fun i _=>4 - (intOf i).toNat)
 case atStart=>exact⟨0,Nat.zero_le _,rfl,fun j hj=>absurd hj (by omega),Below.refl _ _⟩
 case round =>
  obtain⟨k,hk,rfl,HA,hbel⟩:=hrel
  by_cases hlt:k<4
  ·have hk4:k=0∨k=1∨k=2∨k=3:=by omega
   have I0:(Instr.index 182 (.agg #[.int .i64 2,.int .i64 4,.int .i64 6,.int .i64 8]) (.int .i64 0)).run Tryz.prog wr=.ok (.int .i64 2) wr:=len_index wr 0 (by omega)
   have I1:(Instr.index 182 (.agg #[.int .i64 2,.int .i64 4,.int .i64 6,.int .i64 8]) (.int .i64 1)).run Tryz.prog wr=.ok (.int .i64 4) wr:=len_index wr 1 (by omega)
   have I2:(Instr.index 182 (.agg #[.int .i64 2,.int .i64 4,.int .i64 6,.int .i64 8]) (.int .i64 2)).run Tryz.prog wr=.ok (.int .i64 6) wr:=len_index wr 2 (by omega)
   have I3:(Instr.index 182 (.agg #[.int .i64 2,.int .i64 4,.int .i64 6,.int .i64 8]) (.int .i64 3)).run Tryz.prog wr=.ok (.int .i64 8) wr:=len_index wr 3 (by omega)
   rcases hk4 with rfl | rfl | rfl | rfl
   ·by_cases hl:s.size=2
    ·have b1:((s.size:Int) == 2)=true:=by simp;omega
     have HT:=Lib.hid (HTr.out (by omega))
     cases al with
     | true =>
      have e0:tr = []:=HTn.out.2 rfl
      subst e0
      have E:=Lib.hid (HYes.out 2 (by omega) hl rfl)
      clear hl
      go_wp2_with fail
      refine (HT.out _).mono ?_
      rintro e w1 ⟨rfl,hb1⟩
      have HB1:=Lib.hid (hbel.trans (hb1.mono hbel.size))
      clear hb1 hbel
      go_wp2
      go_ret
      exact⟨ret_int' E.out.symm,HB1.out⟩
     | false =>
      have e0:tr≠[]:=fun h=>by have:=HTn.out.1 h;cases this
      have HE:=Lib.hid e0
      have HA':Hid (∀ j,j<0+1→¬ (s.size=2*(j+1)∧false=true)):=fun j _ hx=>by cases hx.2
      have HT2:Hid (∀ w,Calls Tryz.prog 88 #[.string s,.string ⟨#[48,49,50,51,52,53,54,55,56,57]⟩] w fun e w'=>∃ t:ByteArray,e=.returned (.string t)∧(t.toList == ([]:List UInt8))=false∧RowKit.Below w.heap.size w w'):=fun w=>(HT.out w).mono fun e w' h=>⟨_,h.1,by rw [ByteArray.toList_eq];simpa using HE.out,h.2⟩
      clear hl HT e0
      go_wp2_with fail
      refine (HT2.out _).mono ?_
      rintro e w1 ⟨t,rfl,ht,hb1⟩
      have HB1:=Lib.hid (hbel.trans (hb1.mono hbel.size))
      clear hb1 hbel
      go_wp2
      go_roundw
      case rel=>exact⟨0+1,by omega,by go_num,HA'.out,HB1.out⟩
      case measure=>simp [intOf]
    ·have b1:((s.size:Int) == 2)=false:=by simp;omega
     have HA':Hid (∀ j,j<0+1→¬ (s.size=2*(j+1)∧al=true)):=fun j hj hx=>by
      by_cases e:j=0
      ·subst e;exact hl hx.1
      ·exact HA.out j (by omega) hx
     clear HA
     go_wp2
     go_roundw
     case rel=>exact⟨0+1,by omega,by go_num,HA'.out,hbel⟩
     case measure=>simp [intOf]
   ·by_cases hl:s.size=4
    ·have b1:((s.size:Int) == 4)=true:=by simp;omega
     have HT:=Lib.hid (HTr.out (by omega))
     cases al with
     | true =>
      have e0:tr = []:=HTn.out.2 rfl
      subst e0
      have E:=Lib.hid (HYes.out 4 (by omega) hl rfl)
      clear hl
      go_wp2_with fail
      refine (HT.out _).mono ?_
      rintro e w1 ⟨rfl,hb1⟩
      have HB1:=Lib.hid (hbel.trans (hb1.mono hbel.size))
      clear hb1 hbel
      go_wp2
      go_ret
      exact⟨ret_int' E.out.symm,HB1.out⟩
     | false =>
      have e0:tr≠[]:=fun h=>by have:=HTn.out.1 h;cases this
      have HE:=Lib.hid e0
      have HA':Hid (∀ j,j<1+1→¬ (s.size=2*(j+1)∧false=true)):=fun j _ hx=>by cases hx.2
      have HT2:Hid (∀ w,Calls Tryz.prog 88 #[.string s,.string ⟨#[48,49,50,51,52,53,54,55,56,57]⟩] w fun e w'=>∃ t:ByteArray,e=.returned (.string t)∧(t.toList == ([]:List UInt8))=false∧RowKit.Below w.heap.size w w'):=fun w=>(HT.out w).mono fun e w' h=>⟨_,h.1,by rw [ByteArray.toList_eq];simpa using HE.out,h.2⟩
      clear hl HT e0
      go_wp2_with fail
      refine (HT2.out _).mono ?_
      rintro e w1 ⟨t,rfl,ht,hb1⟩
      have HB1:=Lib.hid (hbel.trans (hb1.mono hbel.size))
      clear hb1 hbel
      go_wp2
      go_roundw
      case rel=>exact⟨1+1,by omega,by go_num,HA'.out,HB1.out⟩
      case measure=>simp [intOf]
    ·have b1:((s.size:Int) == 4)=false:=by simp;omega
     have HA':Hid (∀ j,j<1+1→¬ (s.size=2*(j+1)∧al=true)):=fun j hj hx=>by
      by_cases e:j=1
      ·subst e;exact hl hx.1
      ·exact HA.out j (by omega) hx
     clear HA
     go_wp2
     go_roundw
     case rel=>exact⟨1+1,by omega,by go_num,HA'.out,hbel⟩
     case measure=>simp [intOf]
   ·by_cases hl:s.size=6
    ·have b1:((s.size:Int) == 6)=true:=by simp;omega
     have HT:=Lib.hid (HTr.out (by omega))
     cases al with
     | true =>
      have e0:tr = []:=HTn.out.2 rfl
      subst e0
      have E:=Lib.hid (HYes.out 6 (by omega) hl rfl)
      clear hl
      go_wp2_with fail
      refine (HT.out _).mono ?_
      rintro e w1 ⟨rfl,hb1⟩
      have HB1:=Lib.hid (hbel.trans (hb1.mono hbel.size))
      clear hb1 hbel
      go_wp2
      go_ret
      exact⟨ret_int' E.out.symm,HB1.out⟩
     | false =>
      have e0:tr≠[]:=fun h=>by have:=HTn.out.1 h;cases this
      have HE:=Lib.hid e0
      have HA':Hid (∀ j,j<2+1→¬ (s.size=2*(j+1)∧false=true)):=fun j _ hx=>by cases hx.2
      have HT2:Hid (∀ w,Calls Tryz.prog 88 #[.string s,.string ⟨#[48,49,50,51,52,53,54,55,56,57]⟩] w fun e w'=>∃ t:ByteArray,e=.returned (.string t)∧(t.toList == ([]:List UInt8))=false∧RowKit.Below w.heap.size w w'):=fun w=>(HT.out w).mono fun e w' h=>⟨_,h.1,by rw [ByteArray.toList_eq];simpa using HE.out,h.2⟩
      clear hl HT e0
      go_wp2_with fail
      refine (HT2.out _).mono ?_
      rintro e w1 ⟨t,rfl,ht,hb1⟩
      have HB1:=Lib.hid (hbel.trans (hb1.mono hbel.size))
      clear hb1 hbel
      go_wp2
      go_roundw
      case rel=>exact⟨2+1,by omega,by go_num,HA'.out,HB1.out⟩
      case measure=>simp [intOf]
    ·have b1:((s.size:Int) == 6)=false:=by simp;omega
     have HA':Hid (∀ j,j<2+1→¬ (s.size=2*(j+1)∧al=true)):=fun j hj hx=>by
      by_cases e:j=2
      ·subst e;exact hl hx.1
      ·exact HA.out j (by omega) hx
     clear HA
     go_wp2
     go_roundw
     case rel=>exact⟨2+1,by omega,by go_num,HA'.out,hbel⟩
     case measure=>simp [intOf]
   ·by_cases hl:s.size=8
    ·have b1:((s.size:Int) == 8)=true:=by simp;omega
     have HT:=Lib.hid (HTr.out (by omega))
     cases al with
     | true =>
      have e0:tr = []:=HTn.out.2 rfl
      subst e0
      have E:=Lib.hid (HYes.out 8 (by omega) hl rfl)
      clear hl
      go_wp2_with fail
      refine (HT.out _).mono ?_
      rintro e w1 ⟨rfl,hb1⟩
      have HB1:=Lib.hid (hbel.trans (hb1.mono hbel.size))
      clear hb1 hbel
      go_wp2
      go_ret
      exact⟨ret_int' E.out.symm,HB1.out⟩
     | false =>
      have e0:tr≠[]:=fun h=>by have:=HTn.out.1 h;cases this
      have HE:=Lib.hid e0
      have HA':Hid (∀ j,j<3+1→¬ (s.size=2*(j+1)∧false=true)):=fun j _ hx=>by cases hx.2
      have HT2:Hid (∀ w,Calls Tryz.prog 88 #[.string s,.string ⟨#[48,49,50,51,52,53,54,55,56,57]⟩] w fun e w'=>∃ t:ByteArray,e=.returned (.string t)∧(t.toList == ([]:List UInt8))=false∧RowKit.Below w.heap.size w w'):=fun w=>(HT.out w).mono fun e w' h=>⟨_,h.1,by rw [ByteArray.toList_eq];simpa using HE.out,h.2⟩
      clear hl HT e0
      go_wp2_with fail
      refine (HT2.out _).mono ?_
      rintro e w1 ⟨t,rfl,ht,hb1⟩
      have HB1:=Lib.hid (hbel.trans (hb1.mono hbel.size))
      clear hb1 hbel
      go_wp2
      go_roundw
      case rel=>exact⟨3+1,by omega,by go_num,HA'.out,HB1.out⟩
      case measure=>simp [intOf]
    ·have b1:((s.size:Int) == 8)=false:=by simp;omega
     have HA':Hid (∀ j,j<3+1→¬ (s.size=2*(j+1)∧al=true)):=fun j hj hx=>by
      by_cases e:j=3
      ·subst e;exact hl hx.1
      ·exact HA.out j (by omega) hx
     clear HA
     go_wp2
     go_roundw
     case rel=>exact⟨3+1,by omega,by go_num,HA'.out,hbel⟩
     case measure=>simp [intOf]
  ·have E:=Lib.hid (HNo.out (fun j hj=>HA.out j (by omega)))
   go_wp2
   go_ret
   exact⟨ret_int' E.out.symm,hbel⟩
set_option maxHeartbeats 1000000 in
theorem iscap_any (c:UInt8) (w:World) :
  Calls Tryz.prog 89 #[.int .u8 c.toNat] w fun e w'=>e=.returned (.bool (decide (65≤c.toNat) && decide (c.toNat≤90)))∧w=w':=by
 have hc:c.toNat<256:=c.toNat_lt
 by_cases h1:65≤c.toNat
 ·have d1:decide ((65:Int)≤(c.toNat:Int))=true:=by simp;omega
  by_cases h2:c.toNat≤90
  ·have d2:decide ((c.toNat:Int)≤90)=true:=by simp;omega
   go_enter Tryz.func89,Tryz.ntmps89
   go_wp2
   go_ret
   exact⟨ret_bool (by simp [h1,h2]),rfl⟩
  ·have d2:decide ((c.toNat:Int)≤90)=false:=by simp;omega
   go_enter Tryz.func89,Tryz.ntmps89
   go_wp2
   go_ret
   exact⟨ret_bool (by simp [h2]),rfl⟩
 ·have d1:decide ((65:Int)≤(c.toNat:Int))=false:=by simp;omega
  go_enter Tryz.func89,Tryz.ntmps89
  go_wp2
  go_ret
  exact⟨ret_bool (by simp [h1]),rfl⟩
def capB (c:UInt8):Bool:=decide (65≤c.toNat) && decide (c.toNat≤90)
set_option maxHeartbeats 2000000 in
theorem vctry_any (s:ByteArray) (w:World) (hs:s.size≤1000000) :
  Calls Tryz.prog 49 #[.string s] w fun e w'=>e=.returned (.bool (ctryB s.toList))∧w=w':=by
 by_cases h2:s.size=2
 ·have e2:s.toList.length=2:=by rw [toList_len];exact h2
  have HE:Hid (ctryB s.toList=(capB (s[0]'(by omega)) && capB (s[1]'(by omega)))):=by
   have e:s.toList = [s[0]'(by omega),s[1]'(by omega)]:=by
    apply List.ext_getElem?
    intro i
    rcases i with _ | _ | i
    ·rw [drop_get s 0 (by omega)];rfl
    ·rw [drop_get s 1 (by omega)];rfl
    ·rw [List.getElem?_eq_none (by omega),List.getElem?_eq_none (by simp)]
   unfold Hid
   rw [e]
   simp [ctryB,capB]
  have i0:0<s.size:=by omega
  have i1:1<s.size:=by omega
  have b2:((s.size:Int) == 2)=true:=by simp;omega
  have H0:Hid (∀ w,Calls Tryz.prog 89 #[.int .u8 (s[0]'(by omega)).toNat] w fun e w'=>e=.returned (.bool (capB (s[0]'(by omega))))∧w=w'):=fun w=>iscap_any _ w
  have H1:Hid (∀ w,Calls Tryz.prog 89 #[.int .u8 (s[1]'(by omega)).toNat] w fun e w'=>e=.returned (.bool (capB (s[1]'(by omega))))∧w=w'):=fun w=>iscap_any _ w
  cases c0:capB (s[0]'(by omega)) with
  | false =>
   rw [c0] at H0
   have E:Hid (ctryB s.toList=false):=by have:=HE.out;rw [c0] at this;exact this
   clear e2 h2 HE c0
   go_enter Tryz.func49,Tryz.ntmps49
   go_wp2_with fail
   refine (H0.out _).mono ?_
   rintro e w1 ⟨rfl,rfl⟩
   go_wp2
   go_ret
   exact⟨ret_bool E.out.symm,rfl⟩
  | true =>
   rw [c0] at H0
   have E:Hid (ctryB s.toList=capB (s[1]'(by omega))):=by have:=HE.out;rw [c0] at this;exact this
   clear e2 h2 HE c0
   go_enter Tryz.func49,Tryz.ntmps49
   go_wp2_with fail
   refine (H0.out _).mono ?_
   rintro e w1 ⟨rfl,rfl⟩
   go_wp2_with fail
   refine (H1.out _).mono ?_
   rintro e w1 ⟨rfl,rfl⟩
   go_wp2
   go_ret
   exact⟨ret_bool E.out.symm,rfl⟩
 ·have b2:((s.size:Int) == 2)=false:=by simp;omega
  have E:Hid (ctryB s.toList=false):=by unfold Hid ctryB;rw [toList_len];simp [h2]
  clear h2
  go_enter Tryz.func49,Tryz.ntmps49
  go_wp2
  go_ret
  exact⟨ret_bool E.out.symm,rfl⟩
theorem orgs_bad1 {l:List ByteArray} {k:Nat} (hk:k<l.length) (h:ctryB l[k]!.toList=false):decide (orgsOk l)=false:=by
 simp only [decide_eq_false_iff_not]
 intro hx
 have:=hx.1 k hk
 rw [h] at this
 cases this
theorem orgs_bad2 {l:List ByteArray} {k:Nat} (hk:k<l.length) (h0:0<k) (h:Op.bytesLess l[k - 1]!.toList l[k]!.toList=false):decide (orgsOk l)=false:=by
 simp only [decide_eq_false_iff_not]
 intro hx
 have:=hx.2 k hk h0
 rw [h] at this
 cases this
theorem orgs_good {l:List ByteArray} (h:∀ j,j<l.length→ctryB l[j]!.toList=true∧(0<j→Op.bytesLess l[j - 1]!.toList l[j]!.toList=true)):decide (orgsOk l)=true:=by
 simp only [decide_eq_true_eq]
 exact⟨fun i hi=>(h i hi).1,fun i hi=>(h i hi).2⟩
set_option maxRecDepth 100000 in
set_option maxHeartbeats 4000000 in
theorem vorgs_any (A:Option Addr) (n c:Nat) (l:List ByteArray) (w:World) (h:Sr w A n l) :
  Calls Tryz.prog 47 #[.slice A n c] w fun e w'=>e=.returned (.bool (decide (orgsOk l)))∧w=w':=by
 have HL:=Lib.hid h.len
 have hn:=h.2.1
 have HB1:Hid (∀ k,k<n→ctryB l[k]!.toList=false→decide (orgsOk l)=false):=fun k hk=>orgs_bad1 (by have:=HL.out;omega)
 have HB2:Hid (∀ k,k<n→0<k→Op.bytesLess l[k - 1]!.toList l[k]!.toList=false→decide (orgsOk l)=false):=fun k hk=>orgs_bad2 (by have:=HL.out;omega)
 have HG:Hid ((∀ j,j<n→ctryB l[j]!.toList=true∧(0<j→Op.bytesLess l[j - 1]!.toList l[j]!.toList=true))→decide (orgsOk l)=true):=fun hx=>orgs_good (fun j hj=>hx j (by have:=HL.out;omega))
 generalize decide (orgsOk l)=res at *
 go_enter Tryz.func47,Tryz.ntmps47
 go_wp2
 go_loopw [7] (fun i wr=>∃ k:Nat,k≤n∧i=.int .i64 k∧Hid (∀ j,j<k→ctryB l[j]!.toList=true∧(0<j→Op.bytesLess l[j - 1]!.toList l[j]!.toList=true))∧w=wr) (fun i _=>n - (intOf i).toNat)
 case atStart=>exact⟨0,Nat.zero_le _,rfl,fun i hi=>absurd hi (by omega),rfl⟩
 case round =>
  obtain⟨k,hk,rfl,HA,rfl⟩:=hrel
  by_cases hlt:k<n
  ·obtain⟨b,off,s,rfl,hbl,hc,hsz,HX⟩:=h.get hlt
   have HV:=Lib.hid (fun w=>vctry_any s w hsz)
   have HE1:Hid (ctryB s.toList=false→res=false):=fun hx=>HB1.out k hlt (by rw [HX.out];exact hx)
   cases hq:ctryB s.toList with
   | false =>
    have E:=Lib.hid (HE1.out hq)
    go_wp2_with fail
    refine (HV.out _).mono ?_
    rintro e w1 ⟨rfl,rfl⟩
    rw [hq]
    clear hq
    go_wp2
    go_ret
    exact⟨ret_bool E.out.symm,rfl⟩
   | true =>
   have HQ:=Lib.hid hq
   clear hq
   by_cases hk0:0<k
   ·obtain⟨b',off',p,hA,_,k1,_,HX0⟩:=h.get (show k - 1<n by omega)
    obtain⟨rfl,rfl⟩:b=b'∧off=off':=by simpa using hA
    clear hA
    obtain⟨r,hr⟩:∃ r:Nat,k=r+1:=⟨k - 1,by omega⟩
    subst hr
    simp only [Nat.add_sub_cancel] at k1 HX0
    have i1:(0:Int)≤(r:Int):=by omega
    have i2:(r:Int)<(n:Int):=by omega
    have d5:decide (0<(r:Int)+1)=true:=by simp
    have u1:IntKind.i64.wrap ((r:Int)+1 - 1)=(r:Int):=(IntWalk.i64_in _ (by omega)).trans (by omega)
    have u2:IntKind.i64.wrap (r:Int)=(r:Int):=IntWalk.i64_in _ (by omega)
    have HE2:Hid (Op.bytesLess p.toList s.toList=false→res=false):=fun hx=>HB2.out (r+1) hlt (by omega) (by rw [Nat.add_sub_cancel,HX0.out,HX.out];exact hx)
    have HA2:Hid (Op.bytesLess p.toList s.toList=true→∀ j,j<r+1+1→ctryB l[j]!.toList=true∧(0<j→Op.bytesLess l[j - 1]!.toList l[j]!.toList=true)):=fun hx j hj=>by
     by_cases e:j=r+1
     ·subst e;exact⟨by rw [HX.out];exact HQ.out,fun _=>by rw [Nat.add_sub_cancel,HX0.out,HX.out];exact hx⟩
     ·exact HA.out j (by omega)
    cases hy:(s.toList == p.toList) with
    | true =>
     have E:=Lib.hid (HE2.out (by rw [← eq_of_beq hy];exact bytesLess_irrefl _))
     go_wp2_with fail
     refine (HV.out _).mono ?_
     rintro e w1 ⟨rfl,rfl⟩
     rw [HQ.out]
     go_wp2
     go_ret
     exact⟨ret_bool E.out.symm,rfl⟩
    | false =>
    have hne:p.toList≠s.toList:=fun e=>by rw [e] at hy;simp at hy
    have HF:=Lib.hid (bytesLess_flip p.toList s.toList hne)
    clear hne
    cases hx:Op.bytesLess s.toList p.toList with
    | true =>
     have E:=Lib.hid (HE2.out (by rw [HF.out,hx];rfl))
     go_wp2_with fail
     refine (HV.out _).mono ?_
     rintro e w1 ⟨rfl,rfl⟩
     rw [HQ.out]
     go_wp2
     go_ret
     exact⟨ret_bool E.out.symm,rfl⟩
    | false =>
     have HA3:=Lib.hid (HA2.out (by rw [HF.out,hx];rfl))
     go_wp2_with fail
     refine (HV.out _).mono ?_
     rintro e w1 ⟨rfl,rfl⟩
     rw [HQ.out]
     go_wp2
     go_roundw
     case rel=>exact⟨r+1+1,by omega,by go_num,HA3.out,trivial⟩
     case measure=>simp [intOf];omega
   ·have d5:decide ((0:Int)<(k:Int))=false:=by simp;omega
    have HA3:Hid (∀ j,j<k+1→ctryB l[j]!.toList=true∧(0<j→Op.bytesLess l[j - 1]!.toList l[j]!.toList=true)):=fun j hj=>by
     have e:j=k:=by omega
     subst e
     exact⟨by rw [HX.out];exact HQ.out,fun hj0=>absurd hj0 hk0⟩
    go_wp2_with fail
    refine (HV.out _).mono ?_
    rintro e w1 ⟨rfl,rfl⟩
    rw [HQ.out]
    go_wp2
    go_roundw
    case rel=>exact⟨k+1,by omega,by go_num,HA3.out,trivial⟩
    case measure=>simp [intOf];omega
  ·have E:=Lib.hid (HG.out (fun j hj=>HA.out j (by omega)))
   go_wp2
   go_ret
   exact⟨ret_bool E.out.symm,rfl⟩
def itA (x:It):Array Value:=#[.string x.code,.string x.org,.bool x.proof,.int .i64 x.co,.int .i64 x.day,.int .i64 x.qty,.int .i64 x.val,.int .i64 x.gr]
set_option maxRecDepth 100000 in
set_option maxHeartbeats 8000000 in
theorem itval_any (x:It) (w:World) (hG:LenG w) (h1:x.code.size≤1000000) (h2:x.org.size≤1000000) :
  Calls Tryz.prog 21 #[.agg (itA x)] w (VRes w (itErr x)):=by
 have HLv:=Lib.hid (fun w' (hb:RowKit.Below w.heap.size w w')=>level_any x.code w' (hG.below hb) h1)
 have HCt:=Lib.hid (fun w'=>vctry_any x.org w' h2)
 have HS0:Hid (itErr x=if ¬ (levelV x.code=8∧ctryB x.org.toList=true) then 1 else if ¬ itRange x then 2 else 0):=rfl
 obtain⟨code,org,pf,co,day,qt,vl,gr⟩:=x
 unfold itRange at HS0
 dsimp only at *
 generalize itErr ⟨code,org,pf,co,day,qt,vl,gr⟩=res at *
 generalize levelV code=lv at *
 generalize ctryB org.toList=cb at *
 have HBx:=Bl.new w 33 #[.string code,.string org,.bool pf,.int .i64 co,.int .i64 day,.int .i64 qt,.int .i64 vl,.int .i64 gr]
 have hW:RowKit.Below w.heap.size w (w.alloc (.cells #[.string code,.string org,.bool pf,.int .i64 co,.int .i64 day,.int .i64 qt,.int .i64 vl,.int .i64 gr] 33)):=(Below.refl _ _).alloc (Nat.le_refl _) _
 have HL1:=Lib.hid (HLv.out _ hW)
 clear HLv hG
 unfold itA
 dsimp only
 go_enter Tryz.func21,Tryz.ntmps21
 go_wp2_with fail
 refine HL1.out.mono ?_
 rintro e w2 ⟨rfl,hb2⟩
 have HB2:=HBx.keep hb2
 have HW2:=Lib.hid (hW.trans (hb2.mono hW.size))
 have t1:w2.cell? ⟨w.heap.size,1,none⟩=some (.string org):=HB2.cell 1
 have t3:w2.cell? ⟨w.heap.size,3,none⟩=some (.int .i64 co):=HB2.cell 3
 have t4:w2.cell? ⟨w.heap.size,4,none⟩=some (.int .i64 day):=HB2.cell 4
 have t5:w2.cell? ⟨w.heap.size,5,none⟩=some (.int .i64 qt):=HB2.cell 5
 have t6:w2.cell? ⟨w.heap.size,6,none⟩=some (.int .i64 vl):=HB2.cell 6
 have t7:w2.cell? ⟨w.heap.size,7,none⟩=some (.int .i64 gr):=HB2.cell 7
 clear HBx hW hb2 HB2 HL1
 by_cases z1:lv=8
 ·have y1:(lv == 8)=true:=by simpa using z1
  have y1n:(lv != 8)=false:=by simpa using z1
  cases cb with
  | false =>
   have E:=Lib.hid (HS0.out.trans (if_pos (fun hx=>by cases hx.2)))
   clear HS0 z1
   go_wp2_with fail
   refine (HCt.out _).mono ?_
   rintro e w3 ⟨rfl,rfl⟩
   go_wp2
   go_ret
   exact⟨ret_int' E.out.symm,HW2.out⟩
  | true =>
   have HS1:=Lib.hid (HS0.out.trans (if_neg (fun hx=>hx ⟨z1,rfl⟩)))
   clear HS0 z1
   go_wp2_with fail
   refine (HCt.out _).mono ?_
   rintro e w3 ⟨rfl,rfl⟩
   by_cases g1:co<0
   ·have d1:decide (co<0)=true:=by simp;omega
    have E:=Lib.hid (HS1.out.trans (if_pos (by omega)))
    clear HS1
    go_wp2
    go_ret
    exact⟨ret_int' E.out.symm,HW2.out⟩
   have d1:decide (co<0)=false:=by simp;omega
   by_cases g2:999<co
   ·have d2:decide (999<co)=true:=by simp;omega
    have E:=Lib.hid (HS1.out.trans (if_pos (by omega)))
    clear HS1
    go_wp2
    go_ret
    exact⟨ret_int' E.out.symm,HW2.out⟩
   have d2:decide (999<co)=false:=by simp;omega
   by_cases g3:day<0
   ·have d3:decide (day<0)=true:=by simp;omega
    have E:=Lib.hid (HS1.out.trans (if_pos (by omega)))
    clear HS1
    go_wp2
    go_ret
    exact⟨ret_int' E.out.symm,HW2.out⟩
   have d3:decide (day<0)=false:=by simp;omega
   by_cases g4:36524<day
   ·have d4:decide (36524<day)=true:=by simp;omega
    have E:=Lib.hid (HS1.out.trans (if_pos (by omega)))
    clear HS1
    go_wp2
    go_ret
    exact⟨ret_int' E.out.symm,HW2.out⟩
   have d4:decide (36524<day)=false:=by simp;omega
   by_cases g5:qt<0
   ·have d5:decide (qt<0)=true:=by simp;omega
    have E:=Lib.hid (HS1.out.trans (if_pos (by omega)))
    clear HS1
    go_wp2
    go_ret
    exact⟨ret_int' E.out.symm,HW2.out⟩
   have d5:decide (qt<0)=false:=by simp;omega
   by_cases g6:1000000000<qt
   ·have d6:decide (1000000000<qt)=true:=by simp;omega
    have E:=Lib.hid (HS1.out.trans (if_pos (by omega)))
    clear HS1
    go_wp2
    go_ret
    exact⟨ret_int' E.out.symm,HW2.out⟩
   have d6:decide (1000000000<qt)=false:=by simp;omega
   by_cases g7:vl<0
   ·have d7:decide (vl<0)=true:=by simp;omega
    have E:=Lib.hid (HS1.out.trans (if_pos (by omega)))
    clear HS1
    go_wp2
    go_ret
    exact⟨ret_int' E.out.symm,HW2.out⟩
   have d7:decide (vl<0)=false:=by simp;omega
   by_cases g8:1000000000000<vl
   ·have d8:decide (1000000000000<vl)=true:=by simp;omega
    have E:=Lib.hid (HS1.out.trans (if_pos (by omega)))
    clear HS1
    go_wp2
    go_ret
    exact⟨ret_int' E.out.symm,HW2.out⟩
   have d8:decide (1000000000000<vl)=false:=by simp;omega
   by_cases g9:gr<0
   ·have d9:decide (gr<0)=true:=by simp;omega
    have E:=Lib.hid (HS1.out.trans (if_pos (by omega)))
    clear HS1
    go_wp2
    go_ret
    exact⟨ret_int' E.out.symm,HW2.out⟩
   have d9:decide (gr<0)=false:=by simp;omega
   by_cases g10:qt<gr
   ·have d10:decide (qt<gr)=true:=by simp;omega
    have E:=Lib.hid (HS1.out.trans (if_pos (by omega)))
    clear HS1
    go_wp2
    go_ret
    exact⟨ret_int' E.out.symm,HW2.out⟩
   have d10:decide (qt<gr)=false:=by simp;omega
   have E:=Lib.hid (HS1.out.trans (if_neg (by omega)))
   clear HS1
   go_wp2
   go_ret
   exact⟨ret_int' E.out.symm,HW2.out⟩
 ·have y1:(lv == 8)=false:=by simpa using z1
  have y1n:(lv != 8)=true:=by simpa using z1
  have E:=Lib.hid (HS0.out.trans (if_pos (fun hx=>z1 hx.1)))
  clear HS0 z1
  go_wp2
  go_ret
  exact⟨ret_int' E.out.symm,HW2.out⟩
end Go.Proofs.YtbokkeooahodaaaGreatDoor

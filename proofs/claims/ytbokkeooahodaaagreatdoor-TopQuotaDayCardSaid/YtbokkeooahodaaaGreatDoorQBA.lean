/-
  A part of the proof of TopQuotaDayCardSaid: lemmas and contracts of functions that the law calls. No statement of the seat is proved here. Conditions: as each says.
-/
import Derived.Test.YtbokkeooahodaaaGreatDoorQAZ
import Derived.Test.YtbokkeooahodaaaGreatDoorQAF
import Derived.Test.YtbokkeooahodaaaGreatDoorQAE
import Derived.Deep.RegionWith
import Derived.Deep.RegionHeld3
namespace Go.Proofs.YtbokkeooahodaaaGreatDoor
open Go.RowKit
set_option linter.unusedVariables false
set_option maxRecDepth 100000 in
set_option maxHeartbeats 8000000 in
theorem rof5A {Q:Exit→Act→World→Prop} {s2 s3 s4 s5 s6 s7 s8 s9 s10 s11 s12 s13 s14 s16 s17 s18 s19 s20 s21 s22 s23 s24 s25 s26 s27 s28 s29 s30 s31 s32 s33 s34 s35 s36 s37 s38 s39 s40 s41 s42 s43 s44 s45 s46 s47 s48 s49 s50 s51 s52 s53 s54 s55 s56 s57 s58 s59 s60 s61 s62 s63 s64:Value} {ds:List Deferred} {W1:World} {b1 o1 n c i:Nat} {kd:Int} {y:MsA} (lt1:b1<W1.heap.size) (hii:(i:Int)<(n:Int)) (hiz:(0:Int)≤(i:Int)) (d1:(y.m.kind == kd)=false) (y0:W1.cell? ⟨b1,o1+i*15,none⟩=some (.int .i64 y.m.id)) (y1:W1.cell? ⟨b1,o1+i*15+1,none⟩=some (.int .i64 y.m.kind)) (y2:W1.cell? ⟨b1,o1+i*15+2,none⟩=some (.string y.m.pre)) (y3:W1.cell? ⟨b1,o1+i*15+3,none⟩=some (.slice y.A y.n y.c)) (y4:W1.cell? ⟨b1,o1+i*15+4,none⟩=some (.int .i64 y.m.co)) (y5:W1.cell? ⟨b1,o1+i*15+5,none⟩=some (.int .i64 y.m.fr)) (y6:W1.cell? ⟨b1,o1+i*15+6,none⟩=some (.int .i64 y.m.til)) (y7:W1.cell? ⟨b1,o1+i*15+7,none⟩=some (.int .i64 y.m.reg)) (y8:W1.cell? ⟨b1,o1+i*15+8,none⟩=some (.int .i64 y.m.du.rate)) (y9:W1.cell? ⟨b1,o1+i*15+9,none⟩=some (.int .i64 y.m.du.am)) (y10:W1.cell? ⟨b1,o1+i*15+10,none⟩=some (.int .i64 y.m.du.per)) (y11:W1.cell? ⟨b1,o1+i*15+11,none⟩=some (.bool y.m.du.hm)) (y12:W1.cell? ⟨b1,o1+i*15+12,none⟩=some (.int .i64 y.m.du.most)) (y13:W1.cell? ⟨b1,o1+i*15+13,none⟩=some (.bool y.m.du.hl)) (y14:W1.cell? ⟨b1,o1+i*15+14,none⟩=some (.int .i64 y.m.du.least)) 
  (hQ:∀ (u22 u23 u24 u25 u26 u27 u28 u29 u30 u31 u32 u33 u34 u35 u36 u37 u38 u39 u40 u41 u42 u43 u44 u45 u46 u47 u48 u49 u50 u51 u52 u53 u54 u55:Value) (w':World),RowKit.Below W1.heap.size W1 w'→Q .normal { tmps:=#[.slice (some ⟨b1,o1,none⟩) n c,.int .i64 kd,s2,s3,s4,s5,s6,s7,s8,s9,s10,s11,s12,s13,s14,.int .i64 (i:Int),s16,s17,s18,s19,s20,s21,u22,u23,u24,u25,u26,u27,u28,u29,u30,u31,u32,u33,u34,u35,u36,u37,u38,u39,u40,u41,u42,u43,u44,u45,u46,u47,u48,u49,u50,u51,u52,u53,u54,u55,.bool false,s57,s58,s59,s60,s61,s62,s63,s64],defers:=ds } w')
  (hQp:∀ (c:_) (a:Act) (d:Option Tmp) (v:Value) (w:World),Q (.panic c) (a.put d v) w→Q (.panic c) a w) :
  (Code.region 5 #[⟨some 22,.move (.tmp 0),24,"ref.go:138",#[],none⟩,⟨some 23,.move (.tmp 15),3,"ref.go:138",#[],none⟩,⟨some 24,.indexAddr 24 (.tmp 22) (.tmp 23),0,"ref.go:138",#[⟨0,.data⟩,⟨1,.data⟩],none⟩,⟨some 25,.fieldAddr 62 (.tmp 24) 1,0,"ref.go:138",#[⟨2,.data⟩],none⟩,⟨some 26,.load 3 (.tmp 25),3,"ref.go:138",#[⟨3,.data⟩],none⟩,⟨some 27,.move (.tmp 1),3,"ref.go:138",#[],none⟩,⟨some 28,.binOp BinOp.eql 3 (.tmp 26) (.tmp 27) 3,4,"ref.go:138",#[⟨4,.data⟩,⟨5,.data⟩],none⟩,⟨some 29,.move (.tmp 28),4,"ref.go:138",#[⟨6,.data⟩],none⟩,⟨some 30,.move (.tmp 0),24,"ref.go:138",#[⟨7,.guard⟩],some (7,true)⟩,⟨some 31,.move (.tmp 15),3,"ref.go:138",#[⟨7,.guard⟩],some (7,true)⟩,⟨some 32,.indexAddr 24 (.tmp 30) (.tmp 31),0,"ref.go:138",#[⟨8,.data⟩,⟨9,.data⟩,⟨7,.guard⟩],some (7,true)⟩,⟨some 33,.load 62 (.tmp 32),62,"ref.go:138",#[⟨10,.data⟩,⟨7,.guard⟩],some (7,true)⟩,⟨some 34,.move (.tmp 2),9,"ref.go:138",#[⟨7,.guard⟩],some (7,true)⟩,⟨some 35,.move (.tmp 3),9,"ref.go:138",#[⟨7,.guard⟩],some (7,true)⟩,⟨some 36,.move (.tmp 4),3,"ref.go:138",#[⟨7,.guard⟩],some (7,true)⟩,⟨some 37,.move (.tmp 5),3,"ref.go:138",#[⟨7,.guard⟩],some (7,true)⟩,{ dst:=some 38,op:=Op.call { callee:=Callee.value (Operand.func 80),args:=#[Operand.tmp 33,Operand.tmp 34,Operand.tmp 35,Operand.tmp 36,Operand.tmp 37],argTypes:=#[62,9,9,3,3] },type:=4,pos:= "ref.go:138",after:=#[⟨11,.data⟩,⟨12,.data⟩,⟨13,.data⟩,⟨14,.data⟩,⟨15,.data⟩,⟨7,.chain⟩,⟨7,.guard⟩],guard:=some (7,true) },⟨some 39,.pick (.tmp 29) (.tmp 38) (.const (Value.bool false)),4,"ref.go:138",#[⟨7,.data⟩,⟨16,.data⟩],none⟩,⟨some 40,.move (.tmp 39),4,"ref.go:138",#[⟨17,.data⟩,⟨16,.chain⟩],none⟩,⟨some 41,.move (.tmp 14),3,"ref.go:138",#[⟨18,.guard⟩],some (18,true)⟩,⟨some 42,.binOp BinOp.lss 3 (.tmp 41) (.const (Value.int IntKind.i64 0)) 3,4,"ref.go:138",#[⟨19,.data⟩,⟨18,.guard⟩],some (18,true)⟩,⟨some 43,.move (.tmp 42),4,"ref.go:138",#[⟨20,.data⟩,⟨18,.chain⟩,⟨18,.guard⟩],some (18,true)⟩,⟨some 44,.move (.tmp 0),24,"ref.go:138",#[⟨21,.guard⟩],some (21,false)⟩,⟨some 45,.move (.tmp 15),3,"ref.go:138",#[⟨21,.guard⟩],some (21,false)⟩,⟨some 46,.indexAddr 24 (.tmp 44) (.tmp 45),0,"ref.go:138",#[⟨22,.data⟩,⟨23,.data⟩,⟨21,.guard⟩],some (21,false)⟩,⟨some 47,.load 62 (.tmp 46),62,"ref.go:138",#[⟨24,.data⟩,⟨21,.guard⟩],some (21,false)⟩,{ dst:=some 48,op:=Op.call { callee:=Callee.value (Operand.func 81),args:=#[Operand.tmp 47],argTypes:=#[62] },type:=3,pos:= "ref.go:138",after:=#[⟨25,.data⟩,⟨21,.chain⟩,⟨21,.guard⟩],guard:=some (21,false) },⟨some 49,.move (.tmp 0),24,"ref.go:138",#[⟨21,.guard⟩],some (21,false)⟩,⟨some 50,.move (.tmp 14),3,"ref.go:138",#[⟨21,.guard⟩],some (21,false)⟩,⟨some 51,.indexAddr 24 (.tmp 49) (.tmp 50),0,"ref.go:138",#[⟨27,.data⟩,⟨28,.data⟩,⟨21,.guard⟩],some (21,false)⟩,⟨some 52,.load 62 (.tmp 51),62,"ref.go:138",#[⟨29,.data⟩,⟨21,.guard⟩],some (21,false)⟩,{ dst:=some 53,op:=Op.call { callee:=Callee.value (Operand.func 81),args:=#[Operand.tmp 52],argTypes:=#[62] },type:=3,pos:= "ref.go:138",after:=#[⟨30,.data⟩,⟨26,.chain⟩,⟨21,.guard⟩],guard:=some (21,false) },⟨some 54,.binOp BinOp.gtr 3 (.tmp 48) (.tmp 53) 3,4,"ref.go:138",#[⟨26,.data⟩,⟨31,.data⟩,⟨21,.guard⟩],some (21,false)⟩,⟨some 55,.pick (.tmp 43) (.const (Value.bool true)) (.tmp 54),4,"ref.go:138",#[⟨21,.data⟩,⟨32,.data⟩,⟨18,.guard⟩],some (18,true)⟩,⟨some 56,.pick (.tmp 40) (.tmp 55) (.const (Value.bool false)),4,"ref.go:138",#[⟨18,.data⟩,⟨33,.data⟩],none⟩] true).wp Tryz.prog Q { tmps:=#[.slice (some ⟨b1,o1,none⟩) n c,.int .i64 kd,s2,s3,s4,s5,s6,s7,s8,s9,s10,s11,s12,s13,s14,.int .i64 (i:Int),s16,s17,s18,s19,s20,s21,s22,s23,s24,s25,s26,s27,s28,s29,s30,s31,s32,s33,s34,s35,s36,s37,s38,s39,s40,s41,s42,s43,s44,s45,s46,s47,s48,s49,s50,s51,s52,s53,s54,s55,s56,s57,s58,s59,s60,s61,s62,s63,s64],defers:=ds } W1:=by
 have hk00:=Lib.hid (Below.refl W1.heap.size W1)
 have hk0:Hid (RowKit.Below W1.heap.size W1 W1.drew):=(Below.refl W1.heap.size W1).drew
 have HQ:=Lib.hid hQ
 clear hQ
 have HS1:Hid (∀ wx,RowKit.Below W1.heap.size W1 wx→(wx.cell? ⟨b1,o1+i*15,none⟩=some (.int .i64 y.m.id)∧wx.cell? ⟨b1,o1+i*15+1,none⟩=some (.int .i64 y.m.kind)∧wx.cell? ⟨b1,o1+i*15+2,none⟩=some (.string y.m.pre)∧wx.cell? ⟨b1,o1+i*15+3,none⟩=some (.slice y.A y.n y.c)∧wx.cell? ⟨b1,o1+i*15+4,none⟩=some (.int .i64 y.m.co)∧wx.cell? ⟨b1,o1+i*15+5,none⟩=some (.int .i64 y.m.fr)∧wx.cell? ⟨b1,o1+i*15+6,none⟩=some (.int .i64 y.m.til)∧wx.cell? ⟨b1,o1+i*15+7,none⟩=some (.int .i64 y.m.reg)∧wx.cell? ⟨b1,o1+i*15+8,none⟩=some (.int .i64 y.m.du.rate)∧wx.cell? ⟨b1,o1+i*15+9,none⟩=some (.int .i64 y.m.du.am)∧wx.cell? ⟨b1,o1+i*15+10,none⟩=some (.int .i64 y.m.du.per)∧wx.cell? ⟨b1,o1+i*15+11,none⟩=some (.bool y.m.du.hm)∧wx.cell? ⟨b1,o1+i*15+12,none⟩=some (.int .i64 y.m.du.most)∧wx.cell? ⟨b1,o1+i*15+13,none⟩=some (.bool y.m.du.hl)∧wx.cell? ⟨b1,o1+i*15+14,none⟩=some (.int .i64 y.m.du.least))):=fun wx hb=>⟨(hb.cell (p:=⟨b1,o1+i*15,none⟩) lt1).trans y0,(hb.cell (p:=⟨b1,o1+i*15+1,none⟩) lt1).trans y1,(hb.cell (p:=⟨b1,o1+i*15+2,none⟩) lt1).trans y2,(hb.cell (p:=⟨b1,o1+i*15+3,none⟩) lt1).trans y3,(hb.cell (p:=⟨b1,o1+i*15+4,none⟩) lt1).trans y4,(hb.cell (p:=⟨b1,o1+i*15+5,none⟩) lt1).trans y5,(hb.cell (p:=⟨b1,o1+i*15+6,none⟩) lt1).trans y6,(hb.cell (p:=⟨b1,o1+i*15+7,none⟩) lt1).trans y7,(hb.cell (p:=⟨b1,o1+i*15+8,none⟩) lt1).trans y8,(hb.cell (p:=⟨b1,o1+i*15+9,none⟩) lt1).trans y9,(hb.cell (p:=⟨b1,o1+i*15+10,none⟩) lt1).trans y10,(hb.cell (p:=⟨b1,o1+i*15+11,none⟩) lt1).trans y11,(hb.cell (p:=⟨b1,o1+i*15+12,none⟩) lt1).trans y12,(hb.cell (p:=⟨b1,o1+i*15+13,none⟩) lt1).trans y13,(hb.cell (p:=⟨b1,o1+i*15+14,none⟩) lt1).trans y14⟩
 clear y0 y1 y2 y3 y4 y5 y6 y7 y8 y9 y10 y11 y12 y13 y14
 refine wp_region_held_drew (S:=fun wx=>wx.cell? ⟨b1,o1+i*15,none⟩=some (.int .i64 y.m.id)∧wx.cell? ⟨b1,o1+i*15+1,none⟩=some (.int .i64 y.m.kind)∧wx.cell? ⟨b1,o1+i*15+2,none⟩=some (.string y.m.pre)∧wx.cell? ⟨b1,o1+i*15+3,none⟩=some (.slice y.A y.n y.c)∧wx.cell? ⟨b1,o1+i*15+4,none⟩=some (.int .i64 y.m.co)∧wx.cell? ⟨b1,o1+i*15+5,none⟩=some (.int .i64 y.m.fr)∧wx.cell? ⟨b1,o1+i*15+6,none⟩=some (.int .i64 y.m.til)∧wx.cell? ⟨b1,o1+i*15+7,none⟩=some (.int .i64 y.m.reg)∧wx.cell? ⟨b1,o1+i*15+8,none⟩=some (.int .i64 y.m.du.rate)∧wx.cell? ⟨b1,o1+i*15+9,none⟩=some (.int .i64 y.m.du.am)∧wx.cell? ⟨b1,o1+i*15+10,none⟩=some (.int .i64 y.m.du.per)∧wx.cell? ⟨b1,o1+i*15+11,none⟩=some (.bool y.m.du.hm)∧wx.cell? ⟨b1,o1+i*15+12,none⟩=some (.int .i64 y.m.du.most)∧wx.cell? ⟨b1,o1+i*15+13,none⟩=some (.bool y.m.du.hl)∧wx.cell? ⟨b1,o1+i*15+14,none⟩=some (.int .i64 y.m.du.least)) (by kernel_rfl) ?_ (fun hHeld=>?_)
 ·(try dsimp only);exact HS1.out _ hk0.out
 refine takeT (v:=?_) 0 ⟨some 22,.move (.tmp 0),24,"ref.go:138",#[],none⟩ hQp rfl (by kernel_rfl) (by rfl) ?_ (by assumption) ?_
 rotate_left 1
 ·(intro w hSw;(try dsimp only at hSw);go_simp;all_goals with_reducible rfl)
 try simp only [Act.put,List.setIfInBounds_toArray,List.set_cons_zero,List.set_cons_succ]
 refine takeT (v:=?_) 1 ⟨some 23,.move (.tmp 15),3,"ref.go:138",#[],none⟩ hQp rfl (by kernel_rfl) (by rfl) ?_ (by assumption) ?_
 rotate_left 1
 ·(intro w hSw;(try dsimp only at hSw);go_simp;all_goals with_reducible rfl)
 try simp only [Act.put,List.setIfInBounds_toArray,List.set_cons_zero,List.set_cons_succ]
 refine takeT (v:=?_) 2 ⟨some 24,.indexAddr 24 (.tmp 22) (.tmp 23),0,"ref.go:138",#[⟨0,.data⟩,⟨1,.data⟩],none⟩ hQp rfl (by kernel_rfl) (by rfl) ?_ (by assumption) ?_
 rotate_left 1
 ·(intro w hSw;(try dsimp only at hSw);go_simp;all_goals with_reducible rfl)
 try simp only [Act.put,List.setIfInBounds_toArray,List.set_cons_zero,List.set_cons_succ]
 refine takeT (v:=?_) 3 ⟨some 25,.fieldAddr 62 (.tmp 24) 1,0,"ref.go:138",#[⟨2,.data⟩],none⟩ hQp rfl (by kernel_rfl) (by rfl) ?_ (by assumption) ?_
 rotate_left 1
 ·(intro w hSw;(try dsimp only at hSw);go_simp;all_goals with_reducible rfl)
 try simp only [Act.put,List.setIfInBounds_toArray,List.set_cons_zero,List.set_cons_succ]
 refine takeT (v:=?_) 4 ⟨some 26,.load 3 (.tmp 25),3,"ref.go:138",#[⟨3,.data⟩],none⟩ hQp rfl (by kernel_rfl) (by rfl) ?_ (by assumption) ?_
 rotate_left 1
 ·(intro w hSw;(try dsimp only at hSw);go_simp;all_goals with_reducible rfl)
 try simp only [Act.put,List.setIfInBounds_toArray,List.set_cons_zero,List.set_cons_succ]
 refine takeT (v:=?_) 5 ⟨some 27,.move (.tmp 1),3,"ref.go:138",#[],none⟩ hQp rfl (by kernel_rfl) (by rfl) ?_ (by assumption) ?_
 rotate_left 1
 ·(intro w hSw;(try dsimp only at hSw);go_simp;all_goals with_reducible rfl)
 try simp only [Act.put,List.setIfInBounds_toArray,List.set_cons_zero,List.set_cons_succ]
 refine takeT (v:=?_) 6 ⟨some 28,.binOp BinOp.eql 3 (.tmp 26) (.tmp 27) 3,4,"ref.go:138",#[⟨4,.data⟩,⟨5,.data⟩],none⟩ hQp rfl (by kernel_rfl) (by rfl) ?_ (by assumption) ?_
 rotate_left 1
 ·(intro w hSw;(try dsimp only at hSw);go_simp;all_goals with_reducible rfl)
 try simp only [Act.put,List.setIfInBounds_toArray,List.set_cons_zero,List.set_cons_succ]
 refine takeT (v:=?_) 7 ⟨some 29,.move (.tmp 28),4,"ref.go:138",#[⟨6,.data⟩],none⟩ hQp rfl (by kernel_rfl) (by rfl) ?_ (by assumption) ?_
 rotate_left 1
 ·(intro w hSw;(try dsimp only at hSw);go_simp;all_goals with_reducible rfl)
 try simp only [Act.put,List.setIfInBounds_toArray,List.set_cons_zero,List.set_cons_succ]
 refine takeF 8 ⟨some 30,.move (.tmp 0),24,"ref.go:138",#[⟨7,.guard⟩],some (7,true)⟩ hQp rfl (by kernel_rfl) (by rfl) (by assumption) ?_
 try simp only [Act.put,List.setIfInBounds_toArray,List.set_cons_zero,List.set_cons_succ]
 refine takeF 9 ⟨some 31,.move (.tmp 15),3,"ref.go:138",#[⟨7,.guard⟩],some (7,true)⟩ hQp rfl (by kernel_rfl) (by rfl) (by assumption) ?_
 try simp only [Act.put,List.setIfInBounds_toArray,List.set_cons_zero,List.set_cons_succ]
 refine takeF 10 ⟨some 32,.indexAddr 24 (.tmp 30) (.tmp 31),0,"ref.go:138",#[⟨8,.data⟩,⟨9,.data⟩,⟨7,.guard⟩],some (7,true)⟩ hQp rfl (by kernel_rfl) (by rfl) (by assumption) ?_
 try simp only [Act.put,List.setIfInBounds_toArray,List.set_cons_zero,List.set_cons_succ]
 refine takeF 11 ⟨some 33,.load 62 (.tmp 32),62,"ref.go:138",#[⟨10,.data⟩,⟨7,.guard⟩],some (7,true)⟩ hQp rfl (by kernel_rfl) (by rfl) (by assumption) ?_
 try simp only [Act.put,List.setIfInBounds_toArray,List.set_cons_zero,List.set_cons_succ]
 refine takeF 12 ⟨some 34,.move (.tmp 2),9,"ref.go:138",#[⟨7,.guard⟩],some (7,true)⟩ hQp rfl (by kernel_rfl) (by rfl) (by assumption) ?_
 try simp only [Act.put,List.setIfInBounds_toArray,List.set_cons_zero,List.set_cons_succ]
 refine takeF 13 ⟨some 35,.move (.tmp 3),9,"ref.go:138",#[⟨7,.guard⟩],some (7,true)⟩ hQp rfl (by kernel_rfl) (by rfl) (by assumption) ?_
 try simp only [Act.put,List.setIfInBounds_toArray,List.set_cons_zero,List.set_cons_succ]
 refine takeF 14 ⟨some 36,.move (.tmp 4),3,"ref.go:138",#[⟨7,.guard⟩],some (7,true)⟩ hQp rfl (by kernel_rfl) (by rfl) (by assumption) ?_
 try simp only [Act.put,List.setIfInBounds_toArray,List.set_cons_zero,List.set_cons_succ]
 refine takeF 15 ⟨some 37,.move (.tmp 5),3,"ref.go:138",#[⟨7,.guard⟩],some (7,true)⟩ hQp rfl (by kernel_rfl) (by rfl) (by assumption) ?_
 try simp only [Act.put,List.setIfInBounds_toArray,List.set_cons_zero,List.set_cons_succ]
 refine takeF 16 { dst:=some 38,op:=Op.call { callee:=Callee.value (Operand.func 80),args:=#[Operand.tmp 33,Operand.tmp 34,Operand.tmp 35,Operand.tmp 36,Operand.tmp 37],argTypes:=#[62,9,9,3,3] },type:=4,pos:= "ref.go:138",after:=#[⟨11,.data⟩,⟨12,.data⟩,⟨13,.data⟩,⟨14,.data⟩,⟨15,.data⟩,⟨7,.chain⟩,⟨7,.guard⟩],guard:=some (7,true) } hQp rfl (by kernel_rfl) (by rfl) (by assumption) ?_
 try simp only [Act.put,List.setIfInBounds_toArray,List.set_cons_zero,List.set_cons_succ]
 refine takeT (v:=?_) 17 ⟨some 39,.pick (.tmp 29) (.tmp 38) (.const (Value.bool false)),4,"ref.go:138",#[⟨7,.data⟩,⟨16,.data⟩],none⟩ hQp rfl (by kernel_rfl) (by rfl) ?_ (by assumption) ?_
 rotate_left 1
 ·(intro w hSw;(try dsimp only at hSw);go_simp;all_goals with_reducible rfl)
 try simp only [Act.put,List.setIfInBounds_toArray,List.set_cons_zero,List.set_cons_succ]
 refine takeT (v:=?_) 18 ⟨some 40,.move (.tmp 39),4,"ref.go:138",#[⟨17,.data⟩,⟨16,.chain⟩],none⟩ hQp rfl (by kernel_rfl) (by rfl) ?_ (by assumption) ?_
 rotate_left 1
 ·(intro w hSw;(try dsimp only at hSw);go_simp;all_goals with_reducible rfl)
 try simp only [Act.put,List.setIfInBounds_toArray,List.set_cons_zero,List.set_cons_succ]
 refine takeF 19 ⟨some 41,.move (.tmp 14),3,"ref.go:138",#[⟨18,.guard⟩],some (18,true)⟩ hQp rfl (by kernel_rfl) (by rfl) (by assumption) ?_
 try simp only [Act.put,List.setIfInBounds_toArray,List.set_cons_zero,List.set_cons_succ]
 refine takeF 20 ⟨some 42,.binOp BinOp.lss 3 (.tmp 41) (.const (Value.int IntKind.i64 0)) 3,4,"ref.go:138",#[⟨19,.data⟩,⟨18,.guard⟩],some (18,true)⟩ hQp rfl (by kernel_rfl) (by rfl) (by assumption) ?_
 try simp only [Act.put,List.setIfInBounds_toArray,List.set_cons_zero,List.set_cons_succ]
 refine takeF 21 ⟨some 43,.move (.tmp 42),4,"ref.go:138",#[⟨20,.data⟩,⟨18,.chain⟩,⟨18,.guard⟩],some (18,true)⟩ hQp rfl (by kernel_rfl) (by rfl) (by assumption) ?_
 try simp only [Act.put,List.setIfInBounds_toArray,List.set_cons_zero,List.set_cons_succ]
 refine takeF 22 ⟨some 44,.move (.tmp 0),24,"ref.go:138",#[⟨21,.guard⟩],some (21,false)⟩ hQp rfl (by kernel_rfl) (by rfl) (by assumption) ?_
 try simp only [Act.put,List.setIfInBounds_toArray,List.set_cons_zero,List.set_cons_succ]
 refine takeF 23 ⟨some 45,.move (.tmp 15),3,"ref.go:138",#[⟨21,.guard⟩],some (21,false)⟩ hQp rfl (by kernel_rfl) (by rfl) (by assumption) ?_
 try simp only [Act.put,List.setIfInBounds_toArray,List.set_cons_zero,List.set_cons_succ]
 refine takeF 24 ⟨some 46,.indexAddr 24 (.tmp 44) (.tmp 45),0,"ref.go:138",#[⟨22,.data⟩,⟨23,.data⟩,⟨21,.guard⟩],some (21,false)⟩ hQp rfl (by kernel_rfl) (by rfl) (by assumption) ?_
 try simp only [Act.put,List.setIfInBounds_toArray,List.set_cons_zero,List.set_cons_succ]
 refine takeF 25 ⟨some 47,.load 62 (.tmp 46),62,"ref.go:138",#[⟨24,.data⟩,⟨21,.guard⟩],some (21,false)⟩ hQp rfl (by kernel_rfl) (by rfl) (by assumption) ?_
 try simp only [Act.put,List.setIfInBounds_toArray,List.set_cons_zero,List.set_cons_succ]
 refine takeF 26 { dst:=some 48,op:=Op.call { callee:=Callee.value (Operand.func 81),args:=#[Operand.tmp 47],argTypes:=#[62] },type:=3,pos:= "ref.go:138",after:=#[⟨25,.data⟩,⟨21,.chain⟩,⟨21,.guard⟩],guard:=some (21,false) } hQp rfl (by kernel_rfl) (by rfl) (by assumption) ?_
 try simp only [Act.put,List.setIfInBounds_toArray,List.set_cons_zero,List.set_cons_succ]
 refine takeF 27 ⟨some 49,.move (.tmp 0),24,"ref.go:138",#[⟨21,.guard⟩],some (21,false)⟩ hQp rfl (by kernel_rfl) (by rfl) (by assumption) ?_
 try simp only [Act.put,List.setIfInBounds_toArray,List.set_cons_zero,List.set_cons_succ]
 refine takeF 28 ⟨some 50,.move (.tmp 14),3,"ref.go:138",#[⟨21,.guard⟩],some (21,false)⟩ hQp rfl (by kernel_rfl) (by rfl) (by assumption) ?_
 try simp only [Act.put,List.setIfInBounds_toArray,List.set_cons_zero,List.set_cons_succ]
 refine takeF 29 ⟨some 51,.indexAddr 24 (.tmp 49) (.tmp 50),0,"ref.go:138",#[⟨27,.data⟩,⟨28,.data⟩,⟨21,.guard⟩],some (21,false)⟩ hQp rfl (by kernel_rfl) (by rfl) (by assumption) ?_
 try simp only [Act.put,List.setIfInBounds_toArray,List.set_cons_zero,List.set_cons_succ]
 refine takeF 30 ⟨some 52,.load 62 (.tmp 51),62,"ref.go:138",#[⟨29,.data⟩,⟨21,.guard⟩],some (21,false)⟩ hQp rfl (by kernel_rfl) (by rfl) (by assumption) ?_
 try simp only [Act.put,List.setIfInBounds_toArray,List.set_cons_zero,List.set_cons_succ]
 refine takeF 31 { dst:=some 53,op:=Op.call { callee:=Callee.value (Operand.func 81),args:=#[Operand.tmp 52],argTypes:=#[62] },type:=3,pos:= "ref.go:138",after:=#[⟨30,.data⟩,⟨26,.chain⟩,⟨21,.guard⟩],guard:=some (21,false) } hQp rfl (by kernel_rfl) (by rfl) (by assumption) ?_
 try simp only [Act.put,List.setIfInBounds_toArray,List.set_cons_zero,List.set_cons_succ]
 refine takeF 32 ⟨some 54,.binOp BinOp.gtr 3 (.tmp 48) (.tmp 53) 3,4,"ref.go:138",#[⟨26,.data⟩,⟨31,.data⟩,⟨21,.guard⟩],some (21,false)⟩ hQp rfl (by kernel_rfl) (by rfl) (by assumption) ?_
 try simp only [Act.put,List.setIfInBounds_toArray,List.set_cons_zero,List.set_cons_succ]
 refine takeF 33 ⟨some 55,.pick (.tmp 43) (.const (Value.bool true)) (.tmp 54),4,"ref.go:138",#[⟨21,.data⟩,⟨32,.data⟩,⟨18,.guard⟩],some (18,true)⟩ hQp rfl (by kernel_rfl) (by rfl) (by assumption) ?_
 try simp only [Act.put,List.setIfInBounds_toArray,List.set_cons_zero,List.set_cons_succ]
 refine takeT (v:=?_) 34 ⟨some 56,.pick (.tmp 40) (.tmp 55) (.const (Value.bool false)),4,"ref.go:138",#[⟨18,.data⟩,⟨33,.data⟩],none⟩ hQp rfl (by kernel_rfl) (by rfl) ?_ (by assumption) ?_
 rotate_left 1
 ·(intro w hSw;(try dsimp only at hSw);go_simp;all_goals with_reducible rfl)
 try simp only [Act.put,List.setIfInBounds_toArray,List.set_cons_zero,List.set_cons_succ]
 refine wpAnyH_done (by kernel_rfl) ?_ _
 exact HQ.out _ _ _ _ _ _ _ _ _ _ _ _ _ _ _ _ _ _ _ _ _ _ _ _ _ _ _ _ _ _ _ _ _ _ _ hk0.out
set_option maxRecDepth 100000 in
set_option maxHeartbeats 8000000 in
theorem rof5B {Q:Exit→Act→World→Prop} {s6 s7 s8 s9 s10 s11 s12 s13 s14 s16 s17 s18 s19 s20 s21 s22 s23 s24 s25 s26 s27 s28 s29 s30 s31 s32 s33 s34 s35 s36 s37 s38 s39 s40 s41 s42 s43 s44 s45 s46 s47 s48 s49 s50 s51 s52 s53 s54 s55 s56 s57 s58 s59 s60 s61 s62 s63 s64:Value} {ds:List Deferred} {W1:World} {b1 o1 n c i:Nat} {kd:Int} {y:MsA} (lt1:b1<W1.heap.size) (hii:(i:Int)<(n:Int)) (hiz:(0:Int)≤(i:Int)) {xc xo:ByteArray} {xn xd:Int} (d1:(y.m.kind == kd)=true) (HCV1:Hid (∀ wx,RowKit.Below W1.heap.size W1 wx→Calls Tryz.prog 80 #[.agg #[.int .i64 y.m.id,.int .i64 y.m.kind,.string y.m.pre,.slice y.A y.n y.c,.int .i64 y.m.co,.int .i64 y.m.fr,.int .i64 y.m.til,.int .i64 y.m.reg,.int .i64 y.m.du.rate,.int .i64 y.m.du.am,.int .i64 y.m.du.per,.bool y.m.du.hm,.int .i64 y.m.du.most,.bool y.m.du.hl,.int .i64 y.m.du.least],.string xc,.string xo,.int .i64 xn,.int .i64 xd] wx fun e w'=>e=.returned (.bool false)∧RowKit.Below wx.heap.size wx w'))  (y0:W1.cell? ⟨b1,o1+i*15,none⟩=some (.int .i64 y.m.id)) (y1:W1.cell? ⟨b1,o1+i*15+1,none⟩=some (.int .i64 y.m.kind)) (y2:W1.cell? ⟨b1,o1+i*15+2,none⟩=some (.string y.m.pre)) (y3:W1.cell? ⟨b1,o1+i*15+3,none⟩=some (.slice y.A y.n y.c)) (y4:W1.cell? ⟨b1,o1+i*15+4,none⟩=some (.int .i64 y.m.co)) (y5:W1.cell? ⟨b1,o1+i*15+5,none⟩=some (.int .i64 y.m.fr)) (y6:W1.cell? ⟨b1,o1+i*15+6,none⟩=some (.int .i64 y.m.til)) (y7:W1.cell? ⟨b1,o1+i*15+7,none⟩=some (.int .i64 y.m.reg)) (y8:W1.cell? ⟨b1,o1+i*15+8,none⟩=some (.int .i64 y.m.du.rate)) (y9:W1.cell? ⟨b1,o1+i*15+9,none⟩=some (.int .i64 y.m.du.am)) (y10:W1.cell? ⟨b1,o1+i*15+10,none⟩=some (.int .i64 y.m.du.per)) (y11:W1.cell? ⟨b1,o1+i*15+11,none⟩=some (.bool y.m.du.hm)) (y12:W1.cell? ⟨b1,o1+i*15+12,none⟩=some (.int .i64 y.m.du.most)) (y13:W1.cell? ⟨b1,o1+i*15+13,none⟩=some (.bool y.m.du.hl)) (y14:W1.cell? ⟨b1,o1+i*15+14,none⟩=some (.int .i64 y.m.du.least)) 
  (hQ:∀ (u22 u23 u24 u25 u26 u27 u28 u29 u30 u31 u32 u33 u34 u35 u36 u37 u38 u39 u40 u41 u42 u43 u44 u45 u46 u47 u48 u49 u50 u51 u52 u53 u54 u55:Value) (w':World),RowKit.Below W1.heap.size W1 w'→Q .normal { tmps:=#[.slice (some ⟨b1,o1,none⟩) n c,.int .i64 kd,.string xc,.string xo,.int .i64 xn,.int .i64 xd,s6,s7,s8,s9,s10,s11,s12,s13,s14,.int .i64 (i:Int),s16,s17,s18,s19,s20,s21,u22,u23,u24,u25,u26,u27,u28,u29,u30,u31,u32,u33,u34,u35,u36,u37,u38,u39,u40,u41,u42,u43,u44,u45,u46,u47,u48,u49,u50,u51,u52,u53,u54,u55,.bool false,s57,s58,s59,s60,s61,s62,s63,s64],defers:=ds } w')
  (hQp:∀ (c:_) (a:Act) (d:Option Tmp) (v:Value) (w:World),Q (.panic c) (a.put d v) w→Q (.panic c) a w) :
  (Code.region 5 #[⟨some 22,.move (.tmp 0),24,"ref.go:138",#[],none⟩,⟨some 23,.move (.tmp 15),3,"ref.go:138",#[],none⟩,⟨some 24,.indexAddr 24 (.tmp 22) (.tmp 23),0,"ref.go:138",#[⟨0,.data⟩,⟨1,.data⟩],none⟩,⟨some 25,.fieldAddr 62 (.tmp 24) 1,0,"ref.go:138",#[⟨2,.data⟩],none⟩,⟨some 26,.load 3 (.tmp 25),3,"ref.go:138",#[⟨3,.data⟩],none⟩,⟨some 27,.move (.tmp 1),3,"ref.go:138",#[],none⟩,⟨some 28,.binOp BinOp.eql 3 (.tmp 26) (.tmp 27) 3,4,"ref.go:138",#[⟨4,.data⟩,⟨5,.data⟩],none⟩,⟨some 29,.move (.tmp 28),4,"ref.go:138",#[⟨6,.data⟩],none⟩,⟨some 30,.move (.tmp 0),24,"ref.go:138",#[⟨7,.guard⟩],some (7,true)⟩,⟨some 31,.move (.tmp 15),3,"ref.go:138",#[⟨7,.guard⟩],some (7,true)⟩,⟨some 32,.indexAddr 24 (.tmp 30) (.tmp 31),0,"ref.go:138",#[⟨8,.data⟩,⟨9,.data⟩,⟨7,.guard⟩],some (7,true)⟩,⟨some 33,.load 62 (.tmp 32),62,"ref.go:138",#[⟨10,.data⟩,⟨7,.guard⟩],some (7,true)⟩,⟨some 34,.move (.tmp 2),9,"ref.go:138",#[⟨7,.guard⟩],some (7,true)⟩,⟨some 35,.move (.tmp 3),9,"ref.go:138",#[⟨7,.guard⟩],some (7,true)⟩,⟨some 36,.move (.tmp 4),3,"ref.go:138",#[⟨7,.guard⟩],some (7,true)⟩,⟨some 37,.move (.tmp 5),3,"ref.go:138",#[⟨7,.guard⟩],some (7,true)⟩,{ dst:=some 38,op:=Op.call { callee:=Callee.value (Operand.func 80),args:=#[Operand.tmp 33,Operand.tmp 34,Operand.tmp 35,Operand.tmp 36,Operand.tmp 37],argTypes:=#[62,9,9,3,3] },type:=4,pos:= "ref.go:138",after:=#[⟨11,.data⟩,⟨12,.data⟩,⟨13,.data⟩,⟨14,.data⟩,⟨15,.data⟩,⟨7,.chain⟩,⟨7,.guard⟩],guard:=some (7,true) },⟨some 39,.pick (.tmp 29) (.tmp 38) (.const (Value.bool false)),4,"ref.go:138",#[⟨7,.data⟩,⟨16,.data⟩],none⟩,⟨some 40,.move (.tmp 39),4,"ref.go:138",#[⟨17,.data⟩,⟨16,.chain⟩],none⟩,⟨some 41,.move (.tmp 14),3,"ref.go:138",#[⟨18,.guard⟩],some (18,true)⟩,⟨some 42,.binOp BinOp.lss 3 (.tmp 41) (.const (Value.int IntKind.i64 0)) 3,4,"ref.go:138",#[⟨19,.data⟩,⟨18,.guard⟩],some (18,true)⟩,⟨some 43,.move (.tmp 42),4,"ref.go:138",#[⟨20,.data⟩,⟨18,.chain⟩,⟨18,.guard⟩],some (18,true)⟩,⟨some 44,.move (.tmp 0),24,"ref.go:138",#[⟨21,.guard⟩],some (21,false)⟩,⟨some 45,.move (.tmp 15),3,"ref.go:138",#[⟨21,.guard⟩],some (21,false)⟩,⟨some 46,.indexAddr 24 (.tmp 44) (.tmp 45),0,"ref.go:138",#[⟨22,.data⟩,⟨23,.data⟩,⟨21,.guard⟩],some (21,false)⟩,⟨some 47,.load 62 (.tmp 46),62,"ref.go:138",#[⟨24,.data⟩,⟨21,.guard⟩],some (21,false)⟩,{ dst:=some 48,op:=Op.call { callee:=Callee.value (Operand.func 81),args:=#[Operand.tmp 47],argTypes:=#[62] },type:=3,pos:= "ref.go:138",after:=#[⟨25,.data⟩,⟨21,.chain⟩,⟨21,.guard⟩],guard:=some (21,false) },⟨some 49,.move (.tmp 0),24,"ref.go:138",#[⟨21,.guard⟩],some (21,false)⟩,⟨some 50,.move (.tmp 14),3,"ref.go:138",#[⟨21,.guard⟩],some (21,false)⟩,⟨some 51,.indexAddr 24 (.tmp 49) (.tmp 50),0,"ref.go:138",#[⟨27,.data⟩,⟨28,.data⟩,⟨21,.guard⟩],some (21,false)⟩,⟨some 52,.load 62 (.tmp 51),62,"ref.go:138",#[⟨29,.data⟩,⟨21,.guard⟩],some (21,false)⟩,{ dst:=some 53,op:=Op.call { callee:=Callee.value (Operand.func 81),args:=#[Operand.tmp 52],argTypes:=#[62] },type:=3,pos:= "ref.go:138",after:=#[⟨30,.data⟩,⟨26,.chain⟩,⟨21,.guard⟩],guard:=some (21,false) },⟨some 54,.binOp BinOp.gtr 3 (.tmp 48) (.tmp 53) 3,4,"ref.go:138",#[⟨26,.data⟩,⟨31,.data⟩,⟨21,.guard⟩],some (21,false)⟩,⟨some 55,.pick (.tmp 43) (.const (Value.bool true)) (.tmp 54),4,"ref.go:138",#[⟨21,.data⟩,⟨32,.data⟩,⟨18,.guard⟩],some (18,true)⟩,⟨some 56,.pick (.tmp 40) (.tmp 55) (.const (Value.bool false)),4,"ref.go:138",#[⟨18,.data⟩,⟨33,.data⟩],none⟩] true).wp Tryz.prog Q { tmps:=#[.slice (some ⟨b1,o1,none⟩) n c,.int .i64 kd,.string xc,.string xo,.int .i64 xn,.int .i64 xd,s6,s7,s8,s9,s10,s11,s12,s13,s14,.int .i64 (i:Int),s16,s17,s18,s19,s20,s21,s22,s23,s24,s25,s26,s27,s28,s29,s30,s31,s32,s33,s34,s35,s36,s37,s38,s39,s40,s41,s42,s43,s44,s45,s46,s47,s48,s49,s50,s51,s52,s53,s54,s55,s56,s57,s58,s59,s60,s61,s62,s63,s64],defers:=ds } W1:=by
 have hk00:=Lib.hid (Below.refl W1.heap.size W1)
 have hk0:Hid (RowKit.Below W1.heap.size W1 W1.drew):=(Below.refl W1.heap.size W1).drew
 have HQ:=Lib.hid hQ
 clear hQ
 have HS1:Hid (∀ wx,RowKit.Below W1.heap.size W1 wx→(wx.cell? ⟨b1,o1+i*15,none⟩=some (.int .i64 y.m.id)∧wx.cell? ⟨b1,o1+i*15+1,none⟩=some (.int .i64 y.m.kind)∧wx.cell? ⟨b1,o1+i*15+2,none⟩=some (.string y.m.pre)∧wx.cell? ⟨b1,o1+i*15+3,none⟩=some (.slice y.A y.n y.c)∧wx.cell? ⟨b1,o1+i*15+4,none⟩=some (.int .i64 y.m.co)∧wx.cell? ⟨b1,o1+i*15+5,none⟩=some (.int .i64 y.m.fr)∧wx.cell? ⟨b1,o1+i*15+6,none⟩=some (.int .i64 y.m.til)∧wx.cell? ⟨b1,o1+i*15+7,none⟩=some (.int .i64 y.m.reg)∧wx.cell? ⟨b1,o1+i*15+8,none⟩=some (.int .i64 y.m.du.rate)∧wx.cell? ⟨b1,o1+i*15+9,none⟩=some (.int .i64 y.m.du.am)∧wx.cell? ⟨b1,o1+i*15+10,none⟩=some (.int .i64 y.m.du.per)∧wx.cell? ⟨b1,o1+i*15+11,none⟩=some (.bool y.m.du.hm)∧wx.cell? ⟨b1,o1+i*15+12,none⟩=some (.int .i64 y.m.du.most)∧wx.cell? ⟨b1,o1+i*15+13,none⟩=some (.bool y.m.du.hl)∧wx.cell? ⟨b1,o1+i*15+14,none⟩=some (.int .i64 y.m.du.least))):=fun wx hb=>⟨(hb.cell (p:=⟨b1,o1+i*15,none⟩) lt1).trans y0,(hb.cell (p:=⟨b1,o1+i*15+1,none⟩) lt1).trans y1,(hb.cell (p:=⟨b1,o1+i*15+2,none⟩) lt1).trans y2,(hb.cell (p:=⟨b1,o1+i*15+3,none⟩) lt1).trans y3,(hb.cell (p:=⟨b1,o1+i*15+4,none⟩) lt1).trans y4,(hb.cell (p:=⟨b1,o1+i*15+5,none⟩) lt1).trans y5,(hb.cell (p:=⟨b1,o1+i*15+6,none⟩) lt1).trans y6,(hb.cell (p:=⟨b1,o1+i*15+7,none⟩) lt1).trans y7,(hb.cell (p:=⟨b1,o1+i*15+8,none⟩) lt1).trans y8,(hb.cell (p:=⟨b1,o1+i*15+9,none⟩) lt1).trans y9,(hb.cell (p:=⟨b1,o1+i*15+10,none⟩) lt1).trans y10,(hb.cell (p:=⟨b1,o1+i*15+11,none⟩) lt1).trans y11,(hb.cell (p:=⟨b1,o1+i*15+12,none⟩) lt1).trans y12,(hb.cell (p:=⟨b1,o1+i*15+13,none⟩) lt1).trans y13,(hb.cell (p:=⟨b1,o1+i*15+14,none⟩) lt1).trans y14⟩
 clear y0 y1 y2 y3 y4 y5 y6 y7 y8 y9 y10 y11 y12 y13 y14
 refine wp_region_held_drew (S:=fun wx=>wx.cell? ⟨b1,o1+i*15,none⟩=some (.int .i64 y.m.id)∧wx.cell? ⟨b1,o1+i*15+1,none⟩=some (.int .i64 y.m.kind)∧wx.cell? ⟨b1,o1+i*15+2,none⟩=some (.string y.m.pre)∧wx.cell? ⟨b1,o1+i*15+3,none⟩=some (.slice y.A y.n y.c)∧wx.cell? ⟨b1,o1+i*15+4,none⟩=some (.int .i64 y.m.co)∧wx.cell? ⟨b1,o1+i*15+5,none⟩=some (.int .i64 y.m.fr)∧wx.cell? ⟨b1,o1+i*15+6,none⟩=some (.int .i64 y.m.til)∧wx.cell? ⟨b1,o1+i*15+7,none⟩=some (.int .i64 y.m.reg)∧wx.cell? ⟨b1,o1+i*15+8,none⟩=some (.int .i64 y.m.du.rate)∧wx.cell? ⟨b1,o1+i*15+9,none⟩=some (.int .i64 y.m.du.am)∧wx.cell? ⟨b1,o1+i*15+10,none⟩=some (.int .i64 y.m.du.per)∧wx.cell? ⟨b1,o1+i*15+11,none⟩=some (.bool y.m.du.hm)∧wx.cell? ⟨b1,o1+i*15+12,none⟩=some (.int .i64 y.m.du.most)∧wx.cell? ⟨b1,o1+i*15+13,none⟩=some (.bool y.m.du.hl)∧wx.cell? ⟨b1,o1+i*15+14,none⟩=some (.int .i64 y.m.du.least)) (by kernel_rfl) ?_ (fun hHeld=>?_)
 ·(try dsimp only);exact HS1.out _ hk0.out
 refine takeT (v:=?_) 0 ⟨some 22,.move (.tmp 0),24,"ref.go:138",#[],none⟩ hQp rfl (by kernel_rfl) (by rfl) ?_ (by assumption) ?_
 rotate_left 1
 ·(intro w hSw;(try dsimp only at hSw);go_simp;all_goals with_reducible rfl)
 try simp only [Act.put,List.setIfInBounds_toArray,List.set_cons_zero,List.set_cons_succ]
 refine takeT (v:=?_) 1 ⟨some 23,.move (.tmp 15),3,"ref.go:138",#[],none⟩ hQp rfl (by kernel_rfl) (by rfl) ?_ (by assumption) ?_
 rotate_left 1
 ·(intro w hSw;(try dsimp only at hSw);go_simp;all_goals with_reducible rfl)
 try simp only [Act.put,List.setIfInBounds_toArray,List.set_cons_zero,List.set_cons_succ]
 refine takeT (v:=?_) 2 ⟨some 24,.indexAddr 24 (.tmp 22) (.tmp 23),0,"ref.go:138",#[⟨0,.data⟩,⟨1,.data⟩],none⟩ hQp rfl (by kernel_rfl) (by rfl) ?_ (by assumption) ?_
 rotate_left 1
 ·(intro w hSw;(try dsimp only at hSw);go_simp;all_goals with_reducible rfl)
 try simp only [Act.put,List.setIfInBounds_toArray,List.set_cons_zero,List.set_cons_succ]
 refine takeT (v:=?_) 3 ⟨some 25,.fieldAddr 62 (.tmp 24) 1,0,"ref.go:138",#[⟨2,.data⟩],none⟩ hQp rfl (by kernel_rfl) (by rfl) ?_ (by assumption) ?_
 rotate_left 1
 ·(intro w hSw;(try dsimp only at hSw);go_simp;all_goals with_reducible rfl)
 try simp only [Act.put,List.setIfInBounds_toArray,List.set_cons_zero,List.set_cons_succ]
 refine takeT (v:=?_) 4 ⟨some 26,.load 3 (.tmp 25),3,"ref.go:138",#[⟨3,.data⟩],none⟩ hQp rfl (by kernel_rfl) (by rfl) ?_ (by assumption) ?_
 rotate_left 1
 ·(intro w hSw;(try dsimp only at hSw);go_simp;all_goals with_reducible rfl)
 try simp only [Act.put,List.setIfInBounds_toArray,List.set_cons_zero,List.set_cons_succ]
 refine takeT (v:=?_) 5 ⟨some 27,.move (.tmp 1),3,"ref.go:138",#[],none⟩ hQp rfl (by kernel_rfl) (by rfl) ?_ (by assumption) ?_
 rotate_left 1
 ·(intro w hSw;(try dsimp only at hSw);go_simp;all_goals with_reducible rfl)
 try simp only [Act.put,List.setIfInBounds_toArray,List.set_cons_zero,List.set_cons_succ]
 refine takeT (v:=?_) 6 ⟨some 28,.binOp BinOp.eql 3 (.tmp 26) (.tmp 27) 3,4,"ref.go:138",#[⟨4,.data⟩,⟨5,.data⟩],none⟩ hQp rfl (by kernel_rfl) (by rfl) ?_ (by assumption) ?_
 rotate_left 1
 ·(intro w hSw;(try dsimp only at hSw);go_simp;all_goals with_reducible rfl)
 try simp only [Act.put,List.setIfInBounds_toArray,List.set_cons_zero,List.set_cons_succ]
 refine takeT (v:=?_) 7 ⟨some 29,.move (.tmp 28),4,"ref.go:138",#[⟨6,.data⟩],none⟩ hQp rfl (by kernel_rfl) (by rfl) ?_ (by assumption) ?_
 rotate_left 1
 ·(intro w hSw;(try dsimp only at hSw);go_simp;all_goals with_reducible rfl)
 try simp only [Act.put,List.setIfInBounds_toArray,List.set_cons_zero,List.set_cons_succ]
 refine takeT (v:=?_) 8 ⟨some 30,.move (.tmp 0),24,"ref.go:138",#[⟨7,.guard⟩],some (7,true)⟩ hQp rfl (by kernel_rfl) (by rfl) ?_ (by assumption) ?_
 rotate_left 1
 ·(intro w hSw;(try dsimp only at hSw);go_simp;all_goals with_reducible rfl)
 try simp only [Act.put,List.setIfInBounds_toArray,List.set_cons_zero,List.set_cons_succ]
 refine takeT (v:=?_) 9 ⟨some 31,.move (.tmp 15),3,"ref.go:138",#[⟨7,.guard⟩],some (7,true)⟩ hQp rfl (by kernel_rfl) (by rfl) ?_ (by assumption) ?_
 rotate_left 1
 ·(intro w hSw;(try dsimp only at hSw);go_simp;all_goals with_reducible rfl)
 try simp only [Act.put,List.setIfInBounds_toArray,List.set_cons_zero,List.set_cons_succ]
 refine takeT (v:=?_) 10 ⟨some 32,.indexAddr 24 (.tmp 30) (.tmp 31),0,"ref.go:138",#[⟨8,.data⟩,⟨9,.data⟩,⟨7,.guard⟩],some (7,true)⟩ hQp rfl (by kernel_rfl) (by rfl) ?_ (by assumption) ?_
 rotate_left 1
 ·(intro w hSw;(try dsimp only at hSw);go_simp;all_goals with_reducible rfl)
 try simp only [Act.put,List.setIfInBounds_toArray,List.set_cons_zero,List.set_cons_succ]
 refine takeT (v:=?_) 11 ⟨some 33,.load 62 (.tmp 32),62,"ref.go:138",#[⟨10,.data⟩,⟨7,.guard⟩],some (7,true)⟩ hQp rfl (by kernel_rfl) (by rfl) ?_ (by assumption) ?_
 rotate_left 1
 ·(intro w hSw;(try dsimp only at hSw);go_simp;all_goals with_reducible rfl)
 try simp only [Act.put,List.setIfInBounds_toArray,List.set_cons_zero,List.set_cons_succ]
 refine takeT (v:=?_) 12 ⟨some 34,.move (.tmp 2),9,"ref.go:138",#[⟨7,.guard⟩],some (7,true)⟩ hQp rfl (by kernel_rfl) (by rfl) ?_ (by assumption) ?_
 rotate_left 1
 ·(intro w hSw;(try dsimp only at hSw);go_simp;all_goals with_reducible rfl)
 try simp only [Act.put,List.setIfInBounds_toArray,List.set_cons_zero,List.set_cons_succ]
 refine takeT (v:=?_) 13 ⟨some 35,.move (.tmp 3),9,"ref.go:138",#[⟨7,.guard⟩],some (7,true)⟩ hQp rfl (by kernel_rfl) (by rfl) ?_ (by assumption) ?_
 rotate_left 1
 ·(intro w hSw;(try dsimp only at hSw);go_simp;all_goals with_reducible rfl)
 try simp only [Act.put,List.setIfInBounds_toArray,List.set_cons_zero,List.set_cons_succ]
 refine takeT (v:=?_) 14 ⟨some 36,.move (.tmp 4),3,"ref.go:138",#[⟨7,.guard⟩],some (7,true)⟩ hQp rfl (by kernel_rfl) (by rfl) ?_ (by assumption) ?_
 rotate_left 1
 ·(intro w hSw;(try dsimp only at hSw);go_simp;all_goals with_reducible rfl)
 try simp only [Act.put,List.setIfInBounds_toArray,List.set_cons_zero,List.set_cons_succ]
 refine takeT (v:=?_) 15 ⟨some 37,.move (.tmp 5),3,"ref.go:138",#[⟨7,.guard⟩],some (7,true)⟩ hQp rfl (by kernel_rfl) (by rfl) ?_ (by assumption) ?_
 rotate_left 1
 ·(intro w hSw;(try dsimp only at hSw);go_simp;all_goals with_reducible rfl)
 try simp only [Act.put,List.setIfInBounds_toArray,List.set_cons_zero,List.set_cons_succ]
 refine wpAnyH_ready (rs:=[16]) (by kernel_rfl) (by simp) ?_
 refine AllReadyH.cons (o:={ dst:=some 38,op:=Op.call { callee:=Callee.value (Operand.func 80),args:=#[Operand.tmp 33,Operand.tmp 34,Operand.tmp 35,Operand.tmp 36,Operand.tmp 37],argTypes:=#[62,9,9,3,3] },type:=4,pos:= "ref.go:138",after:=#[⟨11,.data⟩,⟨12,.data⟩,⟨13,.data⟩,⟨14,.data⟩,⟨15,.data⟩,⟨7,.chain⟩,⟨7,.guard⟩],guard:=some (7,true) }) rfl (fun K hK=>?_) AllReadyH.nil
 go_simp
 with_reducible (refine (HCV1.out _ hk0.out).mono ?_)
 rintro e wz ⟨rfl,hbz⟩
 have hkc:=Lib.hid (hk0.out.trans (hbz.mono hk0.out.size))
 go_wp2_with fail
 refine hK.out _ _ (by (try dsimp only);exact HS1.out _ hkc.out) (fun hHeld=>?_)
 clear hK K
 try simp only [Act.put,List.setIfInBounds_toArray,List.set_cons_zero,List.set_cons_succ]
 refine takeT (v:=?_) 17 ⟨some 39,.pick (.tmp 29) (.tmp 38) (.const (Value.bool false)),4,"ref.go:138",#[⟨7,.data⟩,⟨16,.data⟩],none⟩ hQp rfl (by kernel_rfl) (by rfl) ?_ (by assumption) ?_
 rotate_left 1
 ·(intro w hSw;(try dsimp only at hSw);go_simp;all_goals with_reducible rfl)
 try simp only [Act.put,List.setIfInBounds_toArray,List.set_cons_zero,List.set_cons_succ]
 refine takeT (v:=?_) 18 ⟨some 40,.move (.tmp 39),4,"ref.go:138",#[⟨17,.data⟩,⟨16,.chain⟩],none⟩ hQp rfl (by kernel_rfl) (by rfl) ?_ (by assumption) ?_
 rotate_left 1
 ·(intro w hSw;(try dsimp only at hSw);go_simp;all_goals with_reducible rfl)
 try simp only [Act.put,List.setIfInBounds_toArray,List.set_cons_zero,List.set_cons_succ]
 refine takeF 19 ⟨some 41,.move (.tmp 14),3,"ref.go:138",#[⟨18,.guard⟩],some (18,true)⟩ hQp rfl (by kernel_rfl) (by rfl) (by assumption) ?_
 try simp only [Act.put,List.setIfInBounds_toArray,List.set_cons_zero,List.set_cons_succ]
 refine takeF 20 ⟨some 42,.binOp BinOp.lss 3 (.tmp 41) (.const (Value.int IntKind.i64 0)) 3,4,"ref.go:138",#[⟨19,.data⟩,⟨18,.guard⟩],some (18,true)⟩ hQp rfl (by kernel_rfl) (by rfl) (by assumption) ?_
 try simp only [Act.put,List.setIfInBounds_toArray,List.set_cons_zero,List.set_cons_succ]
 refine takeF 21 ⟨some 43,.move (.tmp 42),4,"ref.go:138",#[⟨20,.data⟩,⟨18,.chain⟩,⟨18,.guard⟩],some (18,true)⟩ hQp rfl (by kernel_rfl) (by rfl) (by assumption) ?_
 try simp only [Act.put,List.setIfInBounds_toArray,List.set_cons_zero,List.set_cons_succ]
 refine takeF 22 ⟨some 44,.move (.tmp 0),24,"ref.go:138",#[⟨21,.guard⟩],some (21,false)⟩ hQp rfl (by kernel_rfl) (by rfl) (by assumption) ?_
 try simp only [Act.put,List.setIfInBounds_toArray,List.set_cons_zero,List.set_cons_succ]
 refine takeF 23 ⟨some 45,.move (.tmp 15),3,"ref.go:138",#[⟨21,.guard⟩],some (21,false)⟩ hQp rfl (by kernel_rfl) (by rfl) (by assumption) ?_
 try simp only [Act.put,List.setIfInBounds_toArray,List.set_cons_zero,List.set_cons_succ]
 refine takeF 24 ⟨some 46,.indexAddr 24 (.tmp 44) (.tmp 45),0,"ref.go:138",#[⟨22,.data⟩,⟨23,.data⟩,⟨21,.guard⟩],some (21,false)⟩ hQp rfl (by kernel_rfl) (by rfl) (by assumption) ?_
 try simp only [Act.put,List.setIfInBounds_toArray,List.set_cons_zero,List.set_cons_succ]
 refine takeF 25 ⟨some 47,.load 62 (.tmp 46),62,"ref.go:138",#[⟨24,.data⟩,⟨21,.guard⟩],some (21,false)⟩ hQp rfl (by kernel_rfl) (by rfl) (by assumption) ?_
 try simp only [Act.put,List.setIfInBounds_toArray,List.set_cons_zero,List.set_cons_succ]
 refine takeF 26 { dst:=some 48,op:=Op.call { callee:=Callee.value (Operand.func 81),args:=#[Operand.tmp 47],argTypes:=#[62] },type:=3,pos:= "ref.go:138",after:=#[⟨25,.data⟩,⟨21,.chain⟩,⟨21,.guard⟩],guard:=some (21,false) } hQp rfl (by kernel_rfl) (by rfl) (by assumption) ?_
 try simp only [Act.put,List.setIfInBounds_toArray,List.set_cons_zero,List.set_cons_succ]
 refine takeF 27 ⟨some 49,.move (.tmp 0),24,"ref.go:138",#[⟨21,.guard⟩],some (21,false)⟩ hQp rfl (by kernel_rfl) (by rfl) (by assumption) ?_
 try simp only [Act.put,List.setIfInBounds_toArray,List.set_cons_zero,List.set_cons_succ]
 refine takeF 28 ⟨some 50,.move (.tmp 14),3,"ref.go:138",#[⟨21,.guard⟩],some (21,false)⟩ hQp rfl (by kernel_rfl) (by rfl) (by assumption) ?_
 try simp only [Act.put,List.setIfInBounds_toArray,List.set_cons_zero,List.set_cons_succ]
 refine takeF 29 ⟨some 51,.indexAddr 24 (.tmp 49) (.tmp 50),0,"ref.go:138",#[⟨27,.data⟩,⟨28,.data⟩,⟨21,.guard⟩],some (21,false)⟩ hQp rfl (by kernel_rfl) (by rfl) (by assumption) ?_
 try simp only [Act.put,List.setIfInBounds_toArray,List.set_cons_zero,List.set_cons_succ]
 refine takeF 30 ⟨some 52,.load 62 (.tmp 51),62,"ref.go:138",#[⟨29,.data⟩,⟨21,.guard⟩],some (21,false)⟩ hQp rfl (by kernel_rfl) (by rfl) (by assumption) ?_
 try simp only [Act.put,List.setIfInBounds_toArray,List.set_cons_zero,List.set_cons_succ]
 refine takeF 31 { dst:=some 53,op:=Op.call { callee:=Callee.value (Operand.func 81),args:=#[Operand.tmp 52],argTypes:=#[62] },type:=3,pos:= "ref.go:138",after:=#[⟨30,.data⟩,⟨26,.chain⟩,⟨21,.guard⟩],guard:=some (21,false) } hQp rfl (by kernel_rfl) (by rfl) (by assumption) ?_
 try simp only [Act.put,List.setIfInBounds_toArray,List.set_cons_zero,List.set_cons_succ]
 refine takeF 32 ⟨some 54,.binOp BinOp.gtr 3 (.tmp 48) (.tmp 53) 3,4,"ref.go:138",#[⟨26,.data⟩,⟨31,.data⟩,⟨21,.guard⟩],some (21,false)⟩ hQp rfl (by kernel_rfl) (by rfl) (by assumption) ?_
 try simp only [Act.put,List.setIfInBounds_toArray,List.set_cons_zero,List.set_cons_succ]
 refine takeF 33 ⟨some 55,.pick (.tmp 43) (.const (Value.bool true)) (.tmp 54),4,"ref.go:138",#[⟨21,.data⟩,⟨32,.data⟩,⟨18,.guard⟩],some (18,true)⟩ hQp rfl (by kernel_rfl) (by rfl) (by assumption) ?_
 try simp only [Act.put,List.setIfInBounds_toArray,List.set_cons_zero,List.set_cons_succ]
 refine takeT (v:=?_) 34 ⟨some 56,.pick (.tmp 40) (.tmp 55) (.const (Value.bool false)),4,"ref.go:138",#[⟨18,.data⟩,⟨33,.data⟩],none⟩ hQp rfl (by kernel_rfl) (by rfl) ?_ (by assumption) ?_
 rotate_left 1
 ·(intro w hSw;(try dsimp only at hSw);go_simp;all_goals with_reducible rfl)
 try simp only [Act.put,List.setIfInBounds_toArray,List.set_cons_zero,List.set_cons_succ]
 refine wpAnyH_done (by kernel_rfl) ?_ _
 exact HQ.out _ _ _ _ _ _ _ _ _ _ _ _ _ _ _ _ _ _ _ _ _ _ _ _ _ _ _ _ _ _ _ _ _ _ _ hkc.out
set_option maxRecDepth 100000 in
set_option maxHeartbeats 8000000 in
theorem rof5C {Q:Exit→Act→World→Prop} {s6 s7 s8 s9 s10 s11 s12 s13 s16 s17 s18 s19 s20 s21 s22 s23 s24 s25 s26 s27 s28 s29 s30 s31 s32 s33 s34 s35 s36 s37 s38 s39 s40 s41 s42 s43 s44 s45 s46 s47 s48 s49 s50 s51 s52 s53 s54 s55 s56 s57 s58 s59 s60 s61 s62 s63 s64:Value} {ds:List Deferred} {W1:World} {b1 o1 n c i:Nat} {kd:Int} {y:MsA} (lt1:b1<W1.heap.size) (hii:(i:Int)<(n:Int)) (hiz:(0:Int)≤(i:Int)) {xc xo:ByteArray} {xn xd:Int} {bv:Int} (d1:(y.m.kind == kd)=true) (HCV1:Hid (∀ wx,RowKit.Below W1.heap.size W1 wx→Calls Tryz.prog 80 #[.agg #[.int .i64 y.m.id,.int .i64 y.m.kind,.string y.m.pre,.slice y.A y.n y.c,.int .i64 y.m.co,.int .i64 y.m.fr,.int .i64 y.m.til,.int .i64 y.m.reg,.int .i64 y.m.du.rate,.int .i64 y.m.du.am,.int .i64 y.m.du.per,.bool y.m.du.hm,.int .i64 y.m.du.most,.bool y.m.du.hl,.int .i64 y.m.du.least],.string xc,.string xo,.int .i64 xn,.int .i64 xd] wx fun e w'=>e=.returned (.bool true)∧RowKit.Below wx.heap.size wx w')) (d2:decide (bv<0)=true) (y0:W1.cell? ⟨b1,o1+i*15,none⟩=some (.int .i64 y.m.id)) (y1:W1.cell? ⟨b1,o1+i*15+1,none⟩=some (.int .i64 y.m.kind)) (y2:W1.cell? ⟨b1,o1+i*15+2,none⟩=some (.string y.m.pre)) (y3:W1.cell? ⟨b1,o1+i*15+3,none⟩=some (.slice y.A y.n y.c)) (y4:W1.cell? ⟨b1,o1+i*15+4,none⟩=some (.int .i64 y.m.co)) (y5:W1.cell? ⟨b1,o1+i*15+5,none⟩=some (.int .i64 y.m.fr)) (y6:W1.cell? ⟨b1,o1+i*15+6,none⟩=some (.int .i64 y.m.til)) (y7:W1.cell? ⟨b1,o1+i*15+7,none⟩=some (.int .i64 y.m.reg)) (y8:W1.cell? ⟨b1,o1+i*15+8,none⟩=some (.int .i64 y.m.du.rate)) (y9:W1.cell? ⟨b1,o1+i*15+9,none⟩=some (.int .i64 y.m.du.am)) (y10:W1.cell? ⟨b1,o1+i*15+10,none⟩=some (.int .i64 y.m.du.per)) (y11:W1.cell? ⟨b1,o1+i*15+11,none⟩=some (.bool y.m.du.hm)) (y12:W1.cell? ⟨b1,o1+i*15+12,none⟩=some (.int .i64 y.m.du.most)) (y13:W1.cell? ⟨b1,o1+i*15+13,none⟩=some (.bool y.m.du.hl)) (y14:W1.cell? ⟨b1,o1+i*15+14,none⟩=some (.int .i64 y.m.du.least)) 
  (hQ:∀ (u22 u23 u24 u25 u26 u27 u28 u29 u30 u31 u32 u33 u34 u35 u36 u37 u38 u39 u40 u41 u42 u43 u44 u45 u46 u47 u48 u49 u50 u51 u52 u53 u54 u55:Value) (w':World),RowKit.Below W1.heap.size W1 w'→Q .normal { tmps:=#[.slice (some ⟨b1,o1,none⟩) n c,.int .i64 kd,.string xc,.string xo,.int .i64 xn,.int .i64 xd,s6,s7,s8,s9,s10,s11,s12,s13,.int .i64 bv,.int .i64 (i:Int),s16,s17,s18,s19,s20,s21,u22,u23,u24,u25,u26,u27,u28,u29,u30,u31,u32,u33,u34,u35,u36,u37,u38,u39,u40,u41,u42,u43,u44,u45,u46,u47,u48,u49,u50,u51,u52,u53,u54,u55,.bool true,s57,s58,s59,s60,s61,s62,s63,s64],defers:=ds } w')
  (hQp:∀ (c:_) (a:Act) (d:Option Tmp) (v:Value) (w:World),Q (.panic c) (a.put d v) w→Q (.panic c) a w) :
  (Code.region 5 #[⟨some 22,.move (.tmp 0),24,"ref.go:138",#[],none⟩,⟨some 23,.move (.tmp 15),3,"ref.go:138",#[],none⟩,⟨some 24,.indexAddr 24 (.tmp 22) (.tmp 23),0,"ref.go:138",#[⟨0,.data⟩,⟨1,.data⟩],none⟩,⟨some 25,.fieldAddr 62 (.tmp 24) 1,0,"ref.go:138",#[⟨2,.data⟩],none⟩,⟨some 26,.load 3 (.tmp 25),3,"ref.go:138",#[⟨3,.data⟩],none⟩,⟨some 27,.move (.tmp 1),3,"ref.go:138",#[],none⟩,⟨some 28,.binOp BinOp.eql 3 (.tmp 26) (.tmp 27) 3,4,"ref.go:138",#[⟨4,.data⟩,⟨5,.data⟩],none⟩,⟨some 29,.move (.tmp 28),4,"ref.go:138",#[⟨6,.data⟩],none⟩,⟨some 30,.move (.tmp 0),24,"ref.go:138",#[⟨7,.guard⟩],some (7,true)⟩,⟨some 31,.move (.tmp 15),3,"ref.go:138",#[⟨7,.guard⟩],some (7,true)⟩,⟨some 32,.indexAddr 24 (.tmp 30) (.tmp 31),0,"ref.go:138",#[⟨8,.data⟩,⟨9,.data⟩,⟨7,.guard⟩],some (7,true)⟩,⟨some 33,.load 62 (.tmp 32),62,"ref.go:138",#[⟨10,.data⟩,⟨7,.guard⟩],some (7,true)⟩,⟨some 34,.move (.tmp 2),9,"ref.go:138",#[⟨7,.guard⟩],some (7,true)⟩,⟨some 35,.move (.tmp 3),9,"ref.go:138",#[⟨7,.guard⟩],some (7,true)⟩,⟨some 36,.move (.tmp 4),3,"ref.go:138",#[⟨7,.guard⟩],some (7,true)⟩,⟨some 37,.move (.tmp 5),3,"ref.go:138",#[⟨7,.guard⟩],some (7,true)⟩,{ dst:=some 38,op:=Op.call { callee:=Callee.value (Operand.func 80),args:=#[Operand.tmp 33,Operand.tmp 34,Operand.tmp 35,Operand.tmp 36,Operand.tmp 37],argTypes:=#[62,9,9,3,3] },type:=4,pos:= "ref.go:138",after:=#[⟨11,.data⟩,⟨12,.data⟩,⟨13,.data⟩,⟨14,.data⟩,⟨15,.data⟩,⟨7,.chain⟩,⟨7,.guard⟩],guard:=some (7,true) },⟨some 39,.pick (.tmp 29) (.tmp 38) (.const (Value.bool false)),4,"ref.go:138",#[⟨7,.data⟩,⟨16,.data⟩],none⟩,⟨some 40,.move (.tmp 39),4,"ref.go:138",#[⟨17,.data⟩,⟨16,.chain⟩],none⟩,⟨some 41,.move (.tmp 14),3,"ref.go:138",#[⟨18,.guard⟩],some (18,true)⟩,⟨some 42,.binOp BinOp.lss 3 (.tmp 41) (.const (Value.int IntKind.i64 0)) 3,4,"ref.go:138",#[⟨19,.data⟩,⟨18,.guard⟩],some (18,true)⟩,⟨some 43,.move (.tmp 42),4,"ref.go:138",#[⟨20,.data⟩,⟨18,.chain⟩,⟨18,.guard⟩],some (18,true)⟩,⟨some 44,.move (.tmp 0),24,"ref.go:138",#[⟨21,.guard⟩],some (21,false)⟩,⟨some 45,.move (.tmp 15),3,"ref.go:138",#[⟨21,.guard⟩],some (21,false)⟩,⟨some 46,.indexAddr 24 (.tmp 44) (.tmp 45),0,"ref.go:138",#[⟨22,.data⟩,⟨23,.data⟩,⟨21,.guard⟩],some (21,false)⟩,⟨some 47,.load 62 (.tmp 46),62,"ref.go:138",#[⟨24,.data⟩,⟨21,.guard⟩],some (21,false)⟩,{ dst:=some 48,op:=Op.call { callee:=Callee.value (Operand.func 81),args:=#[Operand.tmp 47],argTypes:=#[62] },type:=3,pos:= "ref.go:138",after:=#[⟨25,.data⟩,⟨21,.chain⟩,⟨21,.guard⟩],guard:=some (21,false) },⟨some 49,.move (.tmp 0),24,"ref.go:138",#[⟨21,.guard⟩],some (21,false)⟩,⟨some 50,.move (.tmp 14),3,"ref.go:138",#[⟨21,.guard⟩],some (21,false)⟩,⟨some 51,.indexAddr 24 (.tmp 49) (.tmp 50),0,"ref.go:138",#[⟨27,.data⟩,⟨28,.data⟩,⟨21,.guard⟩],some (21,false)⟩,⟨some 52,.load 62 (.tmp 51),62,"ref.go:138",#[⟨29,.data⟩,⟨21,.guard⟩],some (21,false)⟩,{ dst:=some 53,op:=Op.call { callee:=Callee.value (Operand.func 81),args:=#[Operand.tmp 52],argTypes:=#[62] },type:=3,pos:= "ref.go:138",after:=#[⟨30,.data⟩,⟨26,.chain⟩,⟨21,.guard⟩],guard:=some (21,false) },⟨some 54,.binOp BinOp.gtr 3 (.tmp 48) (.tmp 53) 3,4,"ref.go:138",#[⟨26,.data⟩,⟨31,.data⟩,⟨21,.guard⟩],some (21,false)⟩,⟨some 55,.pick (.tmp 43) (.const (Value.bool true)) (.tmp 54),4,"ref.go:138",#[⟨21,.data⟩,⟨32,.data⟩,⟨18,.guard⟩],some (18,true)⟩,⟨some 56,.pick (.tmp 40) (.tmp 55) (.const (Value.bool false)),4,"ref.go:138",#[⟨18,.data⟩,⟨33,.data⟩],none⟩] true).wp Tryz.prog Q { tmps:=#[.slice (some ⟨b1,o1,none⟩) n c,.int .i64 kd,.string xc,.string xo,.int .i64 xn,.int .i64 xd,s6,s7,s8,s9,s10,s11,s12,s13,.int .i64 bv,.int .i64 (i:Int),s16,s17,s18,s19,s20,s21,s22,s23,s24,s25,s26,s27,s28,s29,s30,s31,s32,s33,s34,s35,s36,s37,s38,s39,s40,s41,s42,s43,s44,s45,s46,s47,s48,s49,s50,s51,s52,s53,s54,s55,s56,s57,s58,s59,s60,s61,s62,s63,s64],defers:=ds } W1:=by
 have hk00:=Lib.hid (Below.refl W1.heap.size W1)
 have hk0:Hid (RowKit.Below W1.heap.size W1 W1.drew):=(Below.refl W1.heap.size W1).drew
 have HQ:=Lib.hid hQ
 clear hQ
 have HS1:Hid (∀ wx,RowKit.Below W1.heap.size W1 wx→(wx.cell? ⟨b1,o1+i*15,none⟩=some (.int .i64 y.m.id)∧wx.cell? ⟨b1,o1+i*15+1,none⟩=some (.int .i64 y.m.kind)∧wx.cell? ⟨b1,o1+i*15+2,none⟩=some (.string y.m.pre)∧wx.cell? ⟨b1,o1+i*15+3,none⟩=some (.slice y.A y.n y.c)∧wx.cell? ⟨b1,o1+i*15+4,none⟩=some (.int .i64 y.m.co)∧wx.cell? ⟨b1,o1+i*15+5,none⟩=some (.int .i64 y.m.fr)∧wx.cell? ⟨b1,o1+i*15+6,none⟩=some (.int .i64 y.m.til)∧wx.cell? ⟨b1,o1+i*15+7,none⟩=some (.int .i64 y.m.reg)∧wx.cell? ⟨b1,o1+i*15+8,none⟩=some (.int .i64 y.m.du.rate)∧wx.cell? ⟨b1,o1+i*15+9,none⟩=some (.int .i64 y.m.du.am)∧wx.cell? ⟨b1,o1+i*15+10,none⟩=some (.int .i64 y.m.du.per)∧wx.cell? ⟨b1,o1+i*15+11,none⟩=some (.bool y.m.du.hm)∧wx.cell? ⟨b1,o1+i*15+12,none⟩=some (.int .i64 y.m.du.most)∧wx.cell? ⟨b1,o1+i*15+13,none⟩=some (.bool y.m.du.hl)∧wx.cell? ⟨b1,o1+i*15+14,none⟩=some (.int .i64 y.m.du.least))):=fun wx hb=>⟨(hb.cell (p:=⟨b1,o1+i*15,none⟩) lt1).trans y0,(hb.cell (p:=⟨b1,o1+i*15+1,none⟩) lt1).trans y1,(hb.cell (p:=⟨b1,o1+i*15+2,none⟩) lt1).trans y2,(hb.cell (p:=⟨b1,o1+i*15+3,none⟩) lt1).trans y3,(hb.cell (p:=⟨b1,o1+i*15+4,none⟩) lt1).trans y4,(hb.cell (p:=⟨b1,o1+i*15+5,none⟩) lt1).trans y5,(hb.cell (p:=⟨b1,o1+i*15+6,none⟩) lt1).trans y6,(hb.cell (p:=⟨b1,o1+i*15+7,none⟩) lt1).trans y7,(hb.cell (p:=⟨b1,o1+i*15+8,none⟩) lt1).trans y8,(hb.cell (p:=⟨b1,o1+i*15+9,none⟩) lt1).trans y9,(hb.cell (p:=⟨b1,o1+i*15+10,none⟩) lt1).trans y10,(hb.cell (p:=⟨b1,o1+i*15+11,none⟩) lt1).trans y11,(hb.cell (p:=⟨b1,o1+i*15+12,none⟩) lt1).trans y12,(hb.cell (p:=⟨b1,o1+i*15+13,none⟩) lt1).trans y13,(hb.cell (p:=⟨b1,o1+i*15+14,none⟩) lt1).trans y14⟩
 clear y0 y1 y2 y3 y4 y5 y6 y7 y8 y9 y10 y11 y12 y13 y14
 refine wp_region_held_drew (S:=fun wx=>wx.cell? ⟨b1,o1+i*15,none⟩=some (.int .i64 y.m.id)∧wx.cell? ⟨b1,o1+i*15+1,none⟩=some (.int .i64 y.m.kind)∧wx.cell? ⟨b1,o1+i*15+2,none⟩=some (.string y.m.pre)∧wx.cell? ⟨b1,o1+i*15+3,none⟩=some (.slice y.A y.n y.c)∧wx.cell? ⟨b1,o1+i*15+4,none⟩=some (.int .i64 y.m.co)∧wx.cell? ⟨b1,o1+i*15+5,none⟩=some (.int .i64 y.m.fr)∧wx.cell? ⟨b1,o1+i*15+6,none⟩=some (.int .i64 y.m.til)∧wx.cell? ⟨b1,o1+i*15+7,none⟩=some (.int .i64 y.m.reg)∧wx.cell? ⟨b1,o1+i*15+8,none⟩=some (.int .i64 y.m.du.rate)∧wx.cell? ⟨b1,o1+i*15+9,none⟩=some (.int .i64 y.m.du.am)∧wx.cell? ⟨b1,o1+i*15+10,none⟩=some (.int .i64 y.m.du.per)∧wx.cell? ⟨b1,o1+i*15+11,none⟩=some (.bool y.m.du.hm)∧wx.cell? ⟨b1,o1+i*15+12,none⟩=some (.int .i64 y.m.du.most)∧wx.cell? ⟨b1,o1+i*15+13,none⟩=some (.bool y.m.du.hl)∧wx.cell? ⟨b1,o1+i*15+14,none⟩=some (.int .i64 y.m.du.least)) (by kernel_rfl) ?_ (fun hHeld=>?_)
 ·(try dsimp only);exact HS1.out _ hk0.out
 refine takeT (v:=?_) 0 ⟨some 22,.move (.tmp 0),24,"ref.go:138",#[],none⟩ hQp rfl (by kernel_rfl) (by rfl) ?_ (by assumption) ?_
 rotate_left 1
 ·(intro w hSw;(try dsimp only at hSw);go_simp;all_goals with_reducible rfl)
 try simp only [Act.put,List.setIfInBounds_toArray,List.set_cons_zero,List.set_cons_succ]
 refine takeT (v:=?_) 1 ⟨some 23,.move (.tmp 15),3,"ref.go:138",#[],none⟩ hQp rfl (by kernel_rfl) (by rfl) ?_ (by assumption) ?_
 rotate_left 1
 ·(intro w hSw;(try dsimp only at hSw);go_simp;all_goals with_reducible rfl)
 try simp only [Act.put,List.setIfInBounds_toArray,List.set_cons_zero,List.set_cons_succ]
 refine takeT (v:=?_) 2 ⟨some 24,.indexAddr 24 (.tmp 22) (.tmp 23),0,"ref.go:138",#[⟨0,.data⟩,⟨1,.data⟩],none⟩ hQp rfl (by kernel_rfl) (by rfl) ?_ (by assumption) ?_
 rotate_left 1
 ·(intro w hSw;(try dsimp only at hSw);go_simp;all_goals with_reducible rfl)
 try simp only [Act.put,List.setIfInBounds_toArray,List.set_cons_zero,List.set_cons_succ]
 refine takeT (v:=?_) 3 ⟨some 25,.fieldAddr 62 (.tmp 24) 1,0,"ref.go:138",#[⟨2,.data⟩],none⟩ hQp rfl (by kernel_rfl) (by rfl) ?_ (by assumption) ?_
 rotate_left 1
 ·(intro w hSw;(try dsimp only at hSw);go_simp;all_goals with_reducible rfl)
 try simp only [Act.put,List.setIfInBounds_toArray,List.set_cons_zero,List.set_cons_succ]
 refine takeT (v:=?_) 4 ⟨some 26,.load 3 (.tmp 25),3,"ref.go:138",#[⟨3,.data⟩],none⟩ hQp rfl (by kernel_rfl) (by rfl) ?_ (by assumption) ?_
 rotate_left 1
 ·(intro w hSw;(try dsimp only at hSw);go_simp;all_goals with_reducible rfl)
 try simp only [Act.put,List.setIfInBounds_toArray,List.set_cons_zero,List.set_cons_succ]
 refine takeT (v:=?_) 5 ⟨some 27,.move (.tmp 1),3,"ref.go:138",#[],none⟩ hQp rfl (by kernel_rfl) (by rfl) ?_ (by assumption) ?_
 rotate_left 1
 ·(intro w hSw;(try dsimp only at hSw);go_simp;all_goals with_reducible rfl)
 try simp only [Act.put,List.setIfInBounds_toArray,List.set_cons_zero,List.set_cons_succ]
 refine takeT (v:=?_) 6 ⟨some 28,.binOp BinOp.eql 3 (.tmp 26) (.tmp 27) 3,4,"ref.go:138",#[⟨4,.data⟩,⟨5,.data⟩],none⟩ hQp rfl (by kernel_rfl) (by rfl) ?_ (by assumption) ?_
 rotate_left 1
 ·(intro w hSw;(try dsimp only at hSw);go_simp;all_goals with_reducible rfl)
 try simp only [Act.put,List.setIfInBounds_toArray,List.set_cons_zero,List.set_cons_succ]
 refine takeT (v:=?_) 7 ⟨some 29,.move (.tmp 28),4,"ref.go:138",#[⟨6,.data⟩],none⟩ hQp rfl (by kernel_rfl) (by rfl) ?_ (by assumption) ?_
 rotate_left 1
 ·(intro w hSw;(try dsimp only at hSw);go_simp;all_goals with_reducible rfl)
 try simp only [Act.put,List.setIfInBounds_toArray,List.set_cons_zero,List.set_cons_succ]
 refine takeT (v:=?_) 8 ⟨some 30,.move (.tmp 0),24,"ref.go:138",#[⟨7,.guard⟩],some (7,true)⟩ hQp rfl (by kernel_rfl) (by rfl) ?_ (by assumption) ?_
 rotate_left 1
 ·(intro w hSw;(try dsimp only at hSw);go_simp;all_goals with_reducible rfl)
 try simp only [Act.put,List.setIfInBounds_toArray,List.set_cons_zero,List.set_cons_succ]
 refine takeT (v:=?_) 9 ⟨some 31,.move (.tmp 15),3,"ref.go:138",#[⟨7,.guard⟩],some (7,true)⟩ hQp rfl (by kernel_rfl) (by rfl) ?_ (by assumption) ?_
 rotate_left 1
 ·(intro w hSw;(try dsimp only at hSw);go_simp;all_goals with_reducible rfl)
 try simp only [Act.put,List.setIfInBounds_toArray,List.set_cons_zero,List.set_cons_succ]
 refine takeT (v:=?_) 10 ⟨some 32,.indexAddr 24 (.tmp 30) (.tmp 31),0,"ref.go:138",#[⟨8,.data⟩,⟨9,.data⟩,⟨7,.guard⟩],some (7,true)⟩ hQp rfl (by kernel_rfl) (by rfl) ?_ (by assumption) ?_
 rotate_left 1
 ·(intro w hSw;(try dsimp only at hSw);go_simp;all_goals with_reducible rfl)
 try simp only [Act.put,List.setIfInBounds_toArray,List.set_cons_zero,List.set_cons_succ]
 refine takeT (v:=?_) 11 ⟨some 33,.load 62 (.tmp 32),62,"ref.go:138",#[⟨10,.data⟩,⟨7,.guard⟩],some (7,true)⟩ hQp rfl (by kernel_rfl) (by rfl) ?_ (by assumption) ?_
 rotate_left 1
 ·(intro w hSw;(try dsimp only at hSw);go_simp;all_goals with_reducible rfl)
 try simp only [Act.put,List.setIfInBounds_toArray,List.set_cons_zero,List.set_cons_succ]
 refine takeT (v:=?_) 12 ⟨some 34,.move (.tmp 2),9,"ref.go:138",#[⟨7,.guard⟩],some (7,true)⟩ hQp rfl (by kernel_rfl) (by rfl) ?_ (by assumption) ?_
 rotate_left 1
 ·(intro w hSw;(try dsimp only at hSw);go_simp;all_goals with_reducible rfl)
 try simp only [Act.put,List.setIfInBounds_toArray,List.set_cons_zero,List.set_cons_succ]
 refine takeT (v:=?_) 13 ⟨some 35,.move (.tmp 3),9,"ref.go:138",#[⟨7,.guard⟩],some (7,true)⟩ hQp rfl (by kernel_rfl) (by rfl) ?_ (by assumption) ?_
 rotate_left 1
 ·(intro w hSw;(try dsimp only at hSw);go_simp;all_goals with_reducible rfl)
 try simp only [Act.put,List.setIfInBounds_toArray,List.set_cons_zero,List.set_cons_succ]
 refine takeT (v:=?_) 14 ⟨some 36,.move (.tmp 4),3,"ref.go:138",#[⟨7,.guard⟩],some (7,true)⟩ hQp rfl (by kernel_rfl) (by rfl) ?_ (by assumption) ?_
 rotate_left 1
 ·(intro w hSw;(try dsimp only at hSw);go_simp;all_goals with_reducible rfl)
 try simp only [Act.put,List.setIfInBounds_toArray,List.set_cons_zero,List.set_cons_succ]
 refine takeT (v:=?_) 15 ⟨some 37,.move (.tmp 5),3,"ref.go:138",#[⟨7,.guard⟩],some (7,true)⟩ hQp rfl (by kernel_rfl) (by rfl) ?_ (by assumption) ?_
 rotate_left 1
 ·(intro w hSw;(try dsimp only at hSw);go_simp;all_goals with_reducible rfl)
 try simp only [Act.put,List.setIfInBounds_toArray,List.set_cons_zero,List.set_cons_succ]
 refine wpAnyH_ready (rs:=[16]) (by kernel_rfl) (by simp) ?_
 refine AllReadyH.cons (o:={ dst:=some 38,op:=Op.call { callee:=Callee.value (Operand.func 80),args:=#[Operand.tmp 33,Operand.tmp 34,Operand.tmp 35,Operand.tmp 36,Operand.tmp 37],argTypes:=#[62,9,9,3,3] },type:=4,pos:= "ref.go:138",after:=#[⟨11,.data⟩,⟨12,.data⟩,⟨13,.data⟩,⟨14,.data⟩,⟨15,.data⟩,⟨7,.chain⟩,⟨7,.guard⟩],guard:=some (7,true) }) rfl (fun K hK=>?_) AllReadyH.nil
 go_simp
 with_reducible (refine (HCV1.out _ hk0.out).mono ?_)
 rintro e wz ⟨rfl,hbz⟩
 have hkc:=Lib.hid (hk0.out.trans (hbz.mono hk0.out.size))
 go_wp2_with fail
 refine hK.out _ _ (by (try dsimp only);exact HS1.out _ hkc.out) (fun hHeld=>?_)
 clear hK K
 try simp only [Act.put,List.setIfInBounds_toArray,List.set_cons_zero,List.set_cons_succ]
 refine takeT (v:=?_) 17 ⟨some 39,.pick (.tmp 29) (.tmp 38) (.const (Value.bool false)),4,"ref.go:138",#[⟨7,.data⟩,⟨16,.data⟩],none⟩ hQp rfl (by kernel_rfl) (by rfl) ?_ (by assumption) ?_
 rotate_left 1
 ·(intro w hSw;(try dsimp only at hSw);go_simp;all_goals with_reducible rfl)
 try simp only [Act.put,List.setIfInBounds_toArray,List.set_cons_zero,List.set_cons_succ]
 refine takeT (v:=?_) 18 ⟨some 40,.move (.tmp 39),4,"ref.go:138",#[⟨17,.data⟩,⟨16,.chain⟩],none⟩ hQp rfl (by kernel_rfl) (by rfl) ?_ (by assumption) ?_
 rotate_left 1
 ·(intro w hSw;(try dsimp only at hSw);go_simp;all_goals with_reducible rfl)
 try simp only [Act.put,List.setIfInBounds_toArray,List.set_cons_zero,List.set_cons_succ]
 refine takeT (v:=?_) 19 ⟨some 41,.move (.tmp 14),3,"ref.go:138",#[⟨18,.guard⟩],some (18,true)⟩ hQp rfl (by kernel_rfl) (by rfl) ?_ (by assumption) ?_
 rotate_left 1
 ·(intro w hSw;(try dsimp only at hSw);go_simp;all_goals with_reducible rfl)
 try simp only [Act.put,List.setIfInBounds_toArray,List.set_cons_zero,List.set_cons_succ]
 refine takeT (v:=?_) 20 ⟨some 42,.binOp BinOp.lss 3 (.tmp 41) (.const (Value.int IntKind.i64 0)) 3,4,"ref.go:138",#[⟨19,.data⟩,⟨18,.guard⟩],some (18,true)⟩ hQp rfl (by kernel_rfl) (by rfl) ?_ (by assumption) ?_
 rotate_left 1
 ·(intro w hSw;(try dsimp only at hSw);go_simp;all_goals with_reducible rfl)
 try simp only [Act.put,List.setIfInBounds_toArray,List.set_cons_zero,List.set_cons_succ]
 refine takeT (v:=?_) 21 ⟨some 43,.move (.tmp 42),4,"ref.go:138",#[⟨20,.data⟩,⟨18,.chain⟩,⟨18,.guard⟩],some (18,true)⟩ hQp rfl (by kernel_rfl) (by rfl) ?_ (by assumption) ?_
 rotate_left 1
 ·(intro w hSw;(try dsimp only at hSw);go_simp;all_goals with_reducible rfl)
 try simp only [Act.put,List.setIfInBounds_toArray,List.set_cons_zero,List.set_cons_succ]
 refine takeF 22 ⟨some 44,.move (.tmp 0),24,"ref.go:138",#[⟨21,.guard⟩],some (21,false)⟩ hQp rfl (by kernel_rfl) (by rfl) (by assumption) ?_
 try simp only [Act.put,List.setIfInBounds_toArray,List.set_cons_zero,List.set_cons_succ]
 refine takeF 23 ⟨some 45,.move (.tmp 15),3,"ref.go:138",#[⟨21,.guard⟩],some (21,false)⟩ hQp rfl (by kernel_rfl) (by rfl) (by assumption) ?_
 try simp only [Act.put,List.setIfInBounds_toArray,List.set_cons_zero,List.set_cons_succ]
 refine takeF 24 ⟨some 46,.indexAddr 24 (.tmp 44) (.tmp 45),0,"ref.go:138",#[⟨22,.data⟩,⟨23,.data⟩,⟨21,.guard⟩],some (21,false)⟩ hQp rfl (by kernel_rfl) (by rfl) (by assumption) ?_
 try simp only [Act.put,List.setIfInBounds_toArray,List.set_cons_zero,List.set_cons_succ]
 refine takeF 25 ⟨some 47,.load 62 (.tmp 46),62,"ref.go:138",#[⟨24,.data⟩,⟨21,.guard⟩],some (21,false)⟩ hQp rfl (by kernel_rfl) (by rfl) (by assumption) ?_
 try simp only [Act.put,List.setIfInBounds_toArray,List.set_cons_zero,List.set_cons_succ]
 refine takeF 26 { dst:=some 48,op:=Op.call { callee:=Callee.value (Operand.func 81),args:=#[Operand.tmp 47],argTypes:=#[62] },type:=3,pos:= "ref.go:138",after:=#[⟨25,.data⟩,⟨21,.chain⟩,⟨21,.guard⟩],guard:=some (21,false) } hQp rfl (by kernel_rfl) (by rfl) (by assumption) ?_
 try simp only [Act.put,List.setIfInBounds_toArray,List.set_cons_zero,List.set_cons_succ]
 refine takeF 27 ⟨some 49,.move (.tmp 0),24,"ref.go:138",#[⟨21,.guard⟩],some (21,false)⟩ hQp rfl (by kernel_rfl) (by rfl) (by assumption) ?_
 try simp only [Act.put,List.setIfInBounds_toArray,List.set_cons_zero,List.set_cons_succ]
 refine takeF 28 ⟨some 50,.move (.tmp 14),3,"ref.go:138",#[⟨21,.guard⟩],some (21,false)⟩ hQp rfl (by kernel_rfl) (by rfl) (by assumption) ?_
 try simp only [Act.put,List.setIfInBounds_toArray,List.set_cons_zero,List.set_cons_succ]
 refine takeF 29 ⟨some 51,.indexAddr 24 (.tmp 49) (.tmp 50),0,"ref.go:138",#[⟨27,.data⟩,⟨28,.data⟩,⟨21,.guard⟩],some (21,false)⟩ hQp rfl (by kernel_rfl) (by rfl) (by assumption) ?_
 try simp only [Act.put,List.setIfInBounds_toArray,List.set_cons_zero,List.set_cons_succ]
 refine takeF 30 ⟨some 52,.load 62 (.tmp 51),62,"ref.go:138",#[⟨29,.data⟩,⟨21,.guard⟩],some (21,false)⟩ hQp rfl (by kernel_rfl) (by rfl) (by assumption) ?_
 try simp only [Act.put,List.setIfInBounds_toArray,List.set_cons_zero,List.set_cons_succ]
 refine takeF 31 { dst:=some 53,op:=Op.call { callee:=Callee.value (Operand.func 81),args:=#[Operand.tmp 52],argTypes:=#[62] },type:=3,pos:= "ref.go:138",after:=#[⟨30,.data⟩,⟨26,.chain⟩,⟨21,.guard⟩],guard:=some (21,false) } hQp rfl (by kernel_rfl) (by rfl) (by assumption) ?_
 try simp only [Act.put,List.setIfInBounds_toArray,List.set_cons_zero,List.set_cons_succ]
 refine takeF 32 ⟨some 54,.binOp BinOp.gtr 3 (.tmp 48) (.tmp 53) 3,4,"ref.go:138",#[⟨26,.data⟩,⟨31,.data⟩,⟨21,.guard⟩],some (21,false)⟩ hQp rfl (by kernel_rfl) (by rfl) (by assumption) ?_
 try simp only [Act.put,List.setIfInBounds_toArray,List.set_cons_zero,List.set_cons_succ]
 refine takeT (v:=?_) 33 ⟨some 55,.pick (.tmp 43) (.const (Value.bool true)) (.tmp 54),4,"ref.go:138",#[⟨21,.data⟩,⟨32,.data⟩,⟨18,.guard⟩],some (18,true)⟩ hQp rfl (by kernel_rfl) (by rfl) ?_ (by assumption) ?_
 rotate_left 1
 ·(intro w hSw;(try dsimp only at hSw);go_simp;all_goals with_reducible rfl)
 try simp only [Act.put,List.setIfInBounds_toArray,List.set_cons_zero,List.set_cons_succ]
 refine takeT (v:=?_) 34 ⟨some 56,.pick (.tmp 40) (.tmp 55) (.const (Value.bool false)),4,"ref.go:138",#[⟨18,.data⟩,⟨33,.data⟩],none⟩ hQp rfl (by kernel_rfl) (by rfl) ?_ (by assumption) ?_
 rotate_left 1
 ·(intro w hSw;(try dsimp only at hSw);go_simp;all_goals with_reducible rfl)
 try simp only [Act.put,List.setIfInBounds_toArray,List.set_cons_zero,List.set_cons_succ]
 refine wpAnyH_done (by kernel_rfl) ?_ _
 exact HQ.out _ _ _ _ _ _ _ _ _ _ _ _ _ _ _ _ _ _ _ _ _ _ _ _ _ _ _ _ _ _ _ _ _ _ _ hkc.out
set_option maxRecDepth 100000 in
set_option maxHeartbeats 8000000 in
theorem rof5D {Q:Exit→Act→World→Prop} {s6 s7 s8 s9 s10 s11 s12 s13 s16 s17 s18 s19 s20 s21 s22 s23 s24 s25 s26 s27 s28 s29 s30 s31 s32 s33 s34 s35 s36 s37 s38 s39 s40 s41 s42 s43 s44 s45 s46 s47 s48 s49 s50 s51 s52 s53 s54 s55 s56 s57 s58 s59 s60 s61 s62 s63 s64:Value} {ds:List Deferred} {W1:World} {b1 o1 n c i:Nat} {kd:Int} {y:MsA} (lt1:b1<W1.heap.size) (hii:(i:Int)<(n:Int)) (hiz:(0:Int)≤(i:Int)) {xc xo:ByteArray} {xn xd:Int} {q:Nat} {z:MsA} {ry rz:Int} {pv:Bool} (d1:(y.m.kind == kd)=true) (HCV1:Hid (∀ wx,RowKit.Below W1.heap.size W1 wx→Calls Tryz.prog 80 #[.agg #[.int .i64 y.m.id,.int .i64 y.m.kind,.string y.m.pre,.slice y.A y.n y.c,.int .i64 y.m.co,.int .i64 y.m.fr,.int .i64 y.m.til,.int .i64 y.m.reg,.int .i64 y.m.du.rate,.int .i64 y.m.du.am,.int .i64 y.m.du.per,.bool y.m.du.hm,.int .i64 y.m.du.most,.bool y.m.du.hl,.int .i64 y.m.du.least],.string xc,.string xo,.int .i64 xn,.int .i64 xd] wx fun e w'=>e=.returned (.bool true)∧RowKit.Below wx.heap.size wx w')) (HRK1:Hid (∀ wx,Calls Tryz.prog 81 #[.agg #[.int .i64 y.m.id,.int .i64 y.m.kind,.string y.m.pre,.slice y.A y.n y.c,.int .i64 y.m.co,.int .i64 y.m.fr,.int .i64 y.m.til,.int .i64 y.m.reg,.int .i64 y.m.du.rate,.int .i64 y.m.du.am,.int .i64 y.m.du.per,.bool y.m.du.hm,.int .i64 y.m.du.most,.bool y.m.du.hl,.int .i64 y.m.du.least]] wx fun e w'=>e=.returned (.int .i64 ry)∧RowKit.Below wx.heap.size wx w')) (HRK2:Hid (∀ wx,Calls Tryz.prog 81 #[.agg #[.int .i64 z.m.id,.int .i64 z.m.kind,.string z.m.pre,.slice z.A z.n z.c,.int .i64 z.m.co,.int .i64 z.m.fr,.int .i64 z.m.til,.int .i64 z.m.reg,.int .i64 z.m.du.rate,.int .i64 z.m.du.am,.int .i64 z.m.du.per,.bool z.m.du.hm,.int .i64 z.m.du.most,.bool z.m.du.hl,.int .i64 z.m.du.least]] wx fun e w'=>e=.returned (.int .i64 rz)∧RowKit.Below wx.heap.size wx w')) (hqq:(q:Int)<(n:Int)) (hqz:(0:Int)≤(q:Int)) (d2:decide ((q:Int)<0)=false) (d3:decide (rz<ry)=pv) (y0:W1.cell? ⟨b1,o1+i*15,none⟩=some (.int .i64 y.m.id)) (y1:W1.cell? ⟨b1,o1+i*15+1,none⟩=some (.int .i64 y.m.kind)) (y2:W1.cell? ⟨b1,o1+i*15+2,none⟩=some (.string y.m.pre)) (y3:W1.cell? ⟨b1,o1+i*15+3,none⟩=some (.slice y.A y.n y.c)) (y4:W1.cell? ⟨b1,o1+i*15+4,none⟩=some (.int .i64 y.m.co)) (y5:W1.cell? ⟨b1,o1+i*15+5,none⟩=some (.int .i64 y.m.fr)) (y6:W1.cell? ⟨b1,o1+i*15+6,none⟩=some (.int .i64 y.m.til)) (y7:W1.cell? ⟨b1,o1+i*15+7,none⟩=some (.int .i64 y.m.reg)) (y8:W1.cell? ⟨b1,o1+i*15+8,none⟩=some (.int .i64 y.m.du.rate)) (y9:W1.cell? ⟨b1,o1+i*15+9,none⟩=some (.int .i64 y.m.du.am)) (y10:W1.cell? ⟨b1,o1+i*15+10,none⟩=some (.int .i64 y.m.du.per)) (y11:W1.cell? ⟨b1,o1+i*15+11,none⟩=some (.bool y.m.du.hm)) (y12:W1.cell? ⟨b1,o1+i*15+12,none⟩=some (.int .i64 y.m.du.most)) (y13:W1.cell? ⟨b1,o1+i*15+13,none⟩=some (.bool y.m.du.hl)) (y14:W1.cell? ⟨b1,o1+i*15+14,none⟩=some (.int .i64 y.m.du.least)) (z0:W1.cell? ⟨b1,o1+q*15,none⟩=some (.int .i64 z.m.id)) (z1:W1.cell? ⟨b1,o1+q*15+1,none⟩=some (.int .i64 z.m.kind)) (z2:W1.cell? ⟨b1,o1+q*15+2,none⟩=some (.string z.m.pre)) (z3:W1.cell? ⟨b1,o1+q*15+3,none⟩=some (.slice z.A z.n z.c)) (z4:W1.cell? ⟨b1,o1+q*15+4,none⟩=some (.int .i64 z.m.co)) (z5:W1.cell? ⟨b1,o1+q*15+5,none⟩=some (.int .i64 z.m.fr)) (z6:W1.cell? ⟨b1,o1+q*15+6,none⟩=some (.int .i64 z.m.til)) (z7:W1.cell? ⟨b1,o1+q*15+7,none⟩=some (.int .i64 z.m.reg)) (z8:W1.cell? ⟨b1,o1+q*15+8,none⟩=some (.int .i64 z.m.du.rate)) (z9:W1.cell? ⟨b1,o1+q*15+9,none⟩=some (.int .i64 z.m.du.am)) (z10:W1.cell? ⟨b1,o1+q*15+10,none⟩=some (.int .i64 z.m.du.per)) (z11:W1.cell? ⟨b1,o1+q*15+11,none⟩=some (.bool z.m.du.hm)) (z12:W1.cell? ⟨b1,o1+q*15+12,none⟩=some (.int .i64 z.m.du.most)) (z13:W1.cell? ⟨b1,o1+q*15+13,none⟩=some (.bool z.m.du.hl)) (z14:W1.cell? ⟨b1,o1+q*15+14,none⟩=some (.int .i64 z.m.du.least))
  (hQ:∀ (u22 u23 u24 u25 u26 u27 u28 u29 u30 u31 u32 u33 u34 u35 u36 u37 u38 u39 u40 u41 u42 u43 u44 u45 u46 u47 u48 u49 u50 u51 u52 u53 u54 u55:Value) (w':World),RowKit.Below W1.heap.size W1 w'→Q .normal { tmps:=#[.slice (some ⟨b1,o1,none⟩) n c,.int .i64 kd,.string xc,.string xo,.int .i64 xn,.int .i64 xd,s6,s7,s8,s9,s10,s11,s12,s13,.int .i64 (q:Int),.int .i64 (i:Int),s16,s17,s18,s19,s20,s21,u22,u23,u24,u25,u26,u27,u28,u29,u30,u31,u32,u33,u34,u35,u36,u37,u38,u39,u40,u41,u42,u43,u44,u45,u46,u47,u48,u49,u50,u51,u52,u53,u54,u55,.bool pv,s57,s58,s59,s60,s61,s62,s63,s64],defers:=ds } w')
  (hQp:∀ (c:_) (a:Act) (d:Option Tmp) (v:Value) (w:World),Q (.panic c) (a.put d v) w→Q (.panic c) a w) :
  (Code.region 5 #[⟨some 22,.move (.tmp 0),24,"ref.go:138",#[],none⟩,⟨some 23,.move (.tmp 15),3,"ref.go:138",#[],none⟩,⟨some 24,.indexAddr 24 (.tmp 22) (.tmp 23),0,"ref.go:138",#[⟨0,.data⟩,⟨1,.data⟩],none⟩,⟨some 25,.fieldAddr 62 (.tmp 24) 1,0,"ref.go:138",#[⟨2,.data⟩],none⟩,⟨some 26,.load 3 (.tmp 25),3,"ref.go:138",#[⟨3,.data⟩],none⟩,⟨some 27,.move (.tmp 1),3,"ref.go:138",#[],none⟩,⟨some 28,.binOp BinOp.eql 3 (.tmp 26) (.tmp 27) 3,4,"ref.go:138",#[⟨4,.data⟩,⟨5,.data⟩],none⟩,⟨some 29,.move (.tmp 28),4,"ref.go:138",#[⟨6,.data⟩],none⟩,⟨some 30,.move (.tmp 0),24,"ref.go:138",#[⟨7,.guard⟩],some (7,true)⟩,⟨some 31,.move (.tmp 15),3,"ref.go:138",#[⟨7,.guard⟩],some (7,true)⟩,⟨some 32,.indexAddr 24 (.tmp 30) (.tmp 31),0,"ref.go:138",#[⟨8,.data⟩,⟨9,.data⟩,⟨7,.guard⟩],some (7,true)⟩,⟨some 33,.load 62 (.tmp 32),62,"ref.go:138",#[⟨10,.data⟩,⟨7,.guard⟩],some (7,true)⟩,⟨some 34,.move (.tmp 2),9,"ref.go:138",#[⟨7,.guard⟩],some (7,true)⟩,⟨some 35,.move (.tmp 3),9,"ref.go:138",#[⟨7,.guard⟩],some (7,true)⟩,⟨some 36,.move (.tmp 4),3,"ref.go:138",#[⟨7,.guard⟩],some (7,true)⟩,⟨some 37,.move (.tmp 5),3,"ref.go:138",#[⟨7,.guard⟩],some (7,true)⟩,{ dst:=some 38,op:=Op.call { callee:=Callee.value (Operand.func 80),args:=#[Operand.tmp 33,Operand.tmp 34,Operand.tmp 35,Operand.tmp 36,Operand.tmp 37],argTypes:=#[62,9,9,3,3] },type:=4,pos:= "ref.go:138",after:=#[⟨11,.data⟩,⟨12,.data⟩,⟨13,.data⟩,⟨14,.data⟩,⟨15,.data⟩,⟨7,.chain⟩,⟨7,.guard⟩],guard:=some (7,true) },⟨some 39,.pick (.tmp 29) (.tmp 38) (.const (Value.bool false)),4,"ref.go:138",#[⟨7,.data⟩,⟨16,.data⟩],none⟩,⟨some 40,.move (.tmp 39),4,"ref.go:138",#[⟨17,.data⟩,⟨16,.chain⟩],none⟩,⟨some 41,.move (.tmp 14),3,"ref.go:138",#[⟨18,.guard⟩],some (18,true)⟩,⟨some 42,.binOp BinOp.lss 3 (.tmp 41) (.const (Value.int IntKind.i64 0)) 3,4,"ref.go:138",#[⟨19,.data⟩,⟨18,.guard⟩],some (18,true)⟩,⟨some 43,.move (.tmp 42),4,"ref.go:138",#[⟨20,.data⟩,⟨18,.chain⟩,⟨18,.guard⟩],some (18,true)⟩,⟨some 44,.move (.tmp 0),24,"ref.go:138",#[⟨21,.guard⟩],some (21,false)⟩,⟨some 45,.move (.tmp 15),3,"ref.go:138",#[⟨21,.guard⟩],some (21,false)⟩,⟨some 46,.indexAddr 24 (.tmp 44) (.tmp 45),0,"ref.go:138",#[⟨22,.data⟩,⟨23,.data⟩,⟨21,.guard⟩],some (21,false)⟩,⟨some 47,.load 62 (.tmp 46),62,"ref.go:138",#[⟨24,.data⟩,⟨21,.guard⟩],some (21,false)⟩,{ dst:=some 48,op:=Op.call { callee:=Callee.value (Operand.func 81),args:=#[Operand.tmp 47],argTypes:=#[62] },type:=3,pos:= "ref.go:138",after:=#[⟨25,.data⟩,⟨21,.chain⟩,⟨21,.guard⟩],guard:=some (21,false) },⟨some 49,.move (.tmp 0),24,"ref.go:138",#[⟨21,.guard⟩],some (21,false)⟩,⟨some 50,.move (.tmp 14),3,"ref.go:138",#[⟨21,.guard⟩],some (21,false)⟩,⟨some 51,.indexAddr 24 (.tmp 49) (.tmp 50),0,"ref.go:138",#[⟨27,.data⟩,⟨28,.data⟩,⟨21,.guard⟩],some (21,false)⟩,⟨some 52,.load 62 (.tmp 51),62,"ref.go:138",#[⟨29,.data⟩,⟨21,.guard⟩],some (21,false)⟩,{ dst:=some 53,op:=Op.call { callee:=Callee.value (Operand.func 81),args:=#[Operand.tmp 52],argTypes:=#[62] },type:=3,pos:= "ref.go:138",after:=#[⟨30,.data⟩,⟨26,.chain⟩,⟨21,.guard⟩],guard:=some (21,false) },⟨some 54,.binOp BinOp.gtr 3 (.tmp 48) (.tmp 53) 3,4,"ref.go:138",#[⟨26,.data⟩,⟨31,.data⟩,⟨21,.guard⟩],some (21,false)⟩,⟨some 55,.pick (.tmp 43) (.const (Value.bool true)) (.tmp 54),4,"ref.go:138",#[⟨21,.data⟩,⟨32,.data⟩,⟨18,.guard⟩],some (18,true)⟩,⟨some 56,.pick (.tmp 40) (.tmp 55) (.const (Value.bool false)),4,"ref.go:138",#[⟨18,.data⟩,⟨33,.data⟩],none⟩] true).wp Tryz.prog Q { tmps:=#[.slice (some ⟨b1,o1,none⟩) n c,.int .i64 kd,.string xc,.string xo,.int .i64 xn,.int .i64 xd,s6,s7,s8,s9,s10,s11,s12,s13,.int .i64 (q:Int),.int .i64 (i:Int),s16,s17,s18,s19,s20,s21,s22,s23,s24,s25,s26,s27,s28,s29,s30,s31,s32,s33,s34,s35,s36,s37,s38,s39,s40,s41,s42,s43,s44,s45,s46,s47,s48,s49,s50,s51,s52,s53,s54,s55,s56,s57,s58,s59,s60,s61,s62,s63,s64],defers:=ds } W1:=by
 have hk00:=Lib.hid (Below.refl W1.heap.size W1)
 have hk0:Hid (RowKit.Below W1.heap.size W1 W1.drew):=(Below.refl W1.heap.size W1).drew
 have HQ:=Lib.hid hQ
 clear hQ
 have HS1:Hid (∀ wx,RowKit.Below W1.heap.size W1 wx→(wx.cell? ⟨b1,o1+i*15,none⟩=some (.int .i64 y.m.id)∧wx.cell? ⟨b1,o1+i*15+1,none⟩=some (.int .i64 y.m.kind)∧wx.cell? ⟨b1,o1+i*15+2,none⟩=some (.string y.m.pre)∧wx.cell? ⟨b1,o1+i*15+3,none⟩=some (.slice y.A y.n y.c)∧wx.cell? ⟨b1,o1+i*15+4,none⟩=some (.int .i64 y.m.co)∧wx.cell? ⟨b1,o1+i*15+5,none⟩=some (.int .i64 y.m.fr)∧wx.cell? ⟨b1,o1+i*15+6,none⟩=some (.int .i64 y.m.til)∧wx.cell? ⟨b1,o1+i*15+7,none⟩=some (.int .i64 y.m.reg)∧wx.cell? ⟨b1,o1+i*15+8,none⟩=some (.int .i64 y.m.du.rate)∧wx.cell? ⟨b1,o1+i*15+9,none⟩=some (.int .i64 y.m.du.am)∧wx.cell? ⟨b1,o1+i*15+10,none⟩=some (.int .i64 y.m.du.per)∧wx.cell? ⟨b1,o1+i*15+11,none⟩=some (.bool y.m.du.hm)∧wx.cell? ⟨b1,o1+i*15+12,none⟩=some (.int .i64 y.m.du.most)∧wx.cell? ⟨b1,o1+i*15+13,none⟩=some (.bool y.m.du.hl)∧wx.cell? ⟨b1,o1+i*15+14,none⟩=some (.int .i64 y.m.du.least)∧wx.cell? ⟨b1,o1+q*15,none⟩=some (.int .i64 z.m.id)∧wx.cell? ⟨b1,o1+q*15+1,none⟩=some (.int .i64 z.m.kind)∧wx.cell? ⟨b1,o1+q*15+2,none⟩=some (.string z.m.pre)∧wx.cell? ⟨b1,o1+q*15+3,none⟩=some (.slice z.A z.n z.c)∧wx.cell? ⟨b1,o1+q*15+4,none⟩=some (.int .i64 z.m.co)∧wx.cell? ⟨b1,o1+q*15+5,none⟩=some (.int .i64 z.m.fr)∧wx.cell? ⟨b1,o1+q*15+6,none⟩=some (.int .i64 z.m.til)∧wx.cell? ⟨b1,o1+q*15+7,none⟩=some (.int .i64 z.m.reg)∧wx.cell? ⟨b1,o1+q*15+8,none⟩=some (.int .i64 z.m.du.rate)∧wx.cell? ⟨b1,o1+q*15+9,none⟩=some (.int .i64 z.m.du.am)∧wx.cell? ⟨b1,o1+q*15+10,none⟩=some (.int .i64 z.m.du.per)∧wx.cell? ⟨b1,o1+q*15+11,none⟩=some (.bool z.m.du.hm)∧wx.cell? ⟨b1,o1+q*15+12,none⟩=some (.int .i64 z.m.du.most)∧wx.cell? ⟨b1,o1+q*15+13,none⟩=some (.bool z.m.du.hl)∧wx.cell? ⟨b1,o1+q*15+14,none⟩=some (.int .i64 z.m.du.least))):=fun wx hb=>⟨(hb.cell (p:=⟨b1,o1+i*15,none⟩) lt1).trans y0,(hb.cell (p:=⟨b1,o1+i*15+1,none⟩) lt1).trans y1,(hb.cell (p:=⟨b1,o1+i*15+2,none⟩) lt1).trans y2,(hb.cell (p:=⟨b1,o1+i*15+3,none⟩) lt1).trans y3,(hb.cell (p:=⟨b1,o1+i*15+4,none⟩) lt1).trans y4,(hb.cell (p:=⟨b1,o1+i*15+5,none⟩) lt1).trans y5,(hb.cell (p:=⟨b1,o1+i*15+6,none⟩) lt1).trans y6,(hb.cell (p:=⟨b1,o1+i*15+7,none⟩) lt1).trans y7,(hb.cell (p:=⟨b1,o1+i*15+8,none⟩) lt1).trans y8,(hb.cell (p:=⟨b1,o1+i*15+9,none⟩) lt1).trans y9,(hb.cell (p:=⟨b1,o1+i*15+10,none⟩) lt1).trans y10,(hb.cell (p:=⟨b1,o1+i*15+11,none⟩) lt1).trans y11,(hb.cell (p:=⟨b1,o1+i*15+12,none⟩) lt1).trans y12,(hb.cell (p:=⟨b1,o1+i*15+13,none⟩) lt1).trans y13,(hb.cell (p:=⟨b1,o1+i*15+14,none⟩) lt1).trans y14,(hb.cell (p:=⟨b1,o1+q*15,none⟩) lt1).trans z0,(hb.cell (p:=⟨b1,o1+q*15+1,none⟩) lt1).trans z1,(hb.cell (p:=⟨b1,o1+q*15+2,none⟩) lt1).trans z2,(hb.cell (p:=⟨b1,o1+q*15+3,none⟩) lt1).trans z3,(hb.cell (p:=⟨b1,o1+q*15+4,none⟩) lt1).trans z4,(hb.cell (p:=⟨b1,o1+q*15+5,none⟩) lt1).trans z5,(hb.cell (p:=⟨b1,o1+q*15+6,none⟩) lt1).trans z6,(hb.cell (p:=⟨b1,o1+q*15+7,none⟩) lt1).trans z7,(hb.cell (p:=⟨b1,o1+q*15+8,none⟩) lt1).trans z8,(hb.cell (p:=⟨b1,o1+q*15+9,none⟩) lt1).trans z9,(hb.cell (p:=⟨b1,o1+q*15+10,none⟩) lt1).trans z10,(hb.cell (p:=⟨b1,o1+q*15+11,none⟩) lt1).trans z11,(hb.cell (p:=⟨b1,o1+q*15+12,none⟩) lt1).trans z12,(hb.cell (p:=⟨b1,o1+q*15+13,none⟩) lt1).trans z13,(hb.cell (p:=⟨b1,o1+q*15+14,none⟩) lt1).trans z14⟩
 clear y0 y1 y2 y3 y4 y5 y6 y7 y8 y9 y10 y11 y12 y13 y14 z0 z1 z2 z3 z4 z5 z6 z7 z8 z9 z10 z11 z12 z13 z14
 refine wp_region_held_drew (S:=fun wx=>wx.cell? ⟨b1,o1+i*15,none⟩=some (.int .i64 y.m.id)∧wx.cell? ⟨b1,o1+i*15+1,none⟩=some (.int .i64 y.m.kind)∧wx.cell? ⟨b1,o1+i*15+2,none⟩=some (.string y.m.pre)∧wx.cell? ⟨b1,o1+i*15+3,none⟩=some (.slice y.A y.n y.c)∧wx.cell? ⟨b1,o1+i*15+4,none⟩=some (.int .i64 y.m.co)∧wx.cell? ⟨b1,o1+i*15+5,none⟩=some (.int .i64 y.m.fr)∧wx.cell? ⟨b1,o1+i*15+6,none⟩=some (.int .i64 y.m.til)∧wx.cell? ⟨b1,o1+i*15+7,none⟩=some (.int .i64 y.m.reg)∧wx.cell? ⟨b1,o1+i*15+8,none⟩=some (.int .i64 y.m.du.rate)∧wx.cell? ⟨b1,o1+i*15+9,none⟩=some (.int .i64 y.m.du.am)∧wx.cell? ⟨b1,o1+i*15+10,none⟩=some (.int .i64 y.m.du.per)∧wx.cell? ⟨b1,o1+i*15+11,none⟩=some (.bool y.m.du.hm)∧wx.cell? ⟨b1,o1+i*15+12,none⟩=some (.int .i64 y.m.du.most)∧wx.cell? ⟨b1,o1+i*15+13,none⟩=some (.bool y.m.du.hl)∧wx.cell? ⟨b1,o1+i*15+14,none⟩=some (.int .i64 y.m.du.least)∧wx.cell? ⟨b1,o1+q*15,none⟩=some (.int .i64 z.m.id)∧wx.cell? ⟨b1,o1+q*15+1,none⟩=some (.int .i64 z.m.kind)∧wx.cell? ⟨b1,o1+q*15+2,none⟩=some (.string z.m.pre)∧wx.cell? ⟨b1,o1+q*15+3,none⟩=some (.slice z.A z.n z.c)∧wx.cell? ⟨b1,o1+q*15+4,none⟩=some (.int .i64 z.m.co)∧wx.cell? ⟨b1,o1+q*15+5,none⟩=some (.int .i64 z.m.fr)∧wx.cell? ⟨b1,o1+q*15+6,none⟩=some (.int .i64 z.m.til)∧wx.cell? ⟨b1,o1+q*15+7,none⟩=some (.int .i64 z.m.reg)∧wx.cell? ⟨b1,o1+q*15+8,none⟩=some (.int .i64 z.m.du.rate)∧wx.cell? ⟨b1,o1+q*15+9,none⟩=some (.int .i64 z.m.du.am)∧wx.cell? ⟨b1,o1+q*15+10,none⟩=some (.int .i64 z.m.du.per)∧wx.cell? ⟨b1,o1+q*15+11,none⟩=some (.bool z.m.du.hm)∧wx.cell? ⟨b1,o1+q*15+12,none⟩=some (.int .i64 z.m.du.most)∧wx.cell? ⟨b1,o1+q*15+13,none⟩=some (.bool z.m.du.hl)∧wx.cell? ⟨b1,o1+q*15+14,none⟩=some (.int .i64 z.m.du.least)) (by kernel_rfl) ?_ (fun hHeld=>?_)
 ·(try dsimp only);exact HS1.out _ hk0.out
 refine takeT (v:=?_) 0 ⟨some 22,.move (.tmp 0),24,"ref.go:138",#[],none⟩ hQp rfl (by kernel_rfl) (by rfl) ?_ (by assumption) ?_
 rotate_left 1
 ·(intro w hSw;(try dsimp only at hSw);go_simp;all_goals with_reducible rfl)
 try simp only [Act.put,List.setIfInBounds_toArray,List.set_cons_zero,List.set_cons_succ]
 refine takeT (v:=?_) 1 ⟨some 23,.move (.tmp 15),3,"ref.go:138",#[],none⟩ hQp rfl (by kernel_rfl) (by rfl) ?_ (by assumption) ?_
 rotate_left 1
 ·(intro w hSw;(try dsimp only at hSw);go_simp;all_goals with_reducible rfl)
 try simp only [Act.put,List.setIfInBounds_toArray,List.set_cons_zero,List.set_cons_succ]
 refine takeT (v:=?_) 2 ⟨some 24,.indexAddr 24 (.tmp 22) (.tmp 23),0,"ref.go:138",#[⟨0,.data⟩,⟨1,.data⟩],none⟩ hQp rfl (by kernel_rfl) (by rfl) ?_ (by assumption) ?_
 rotate_left 1
 ·(intro w hSw;(try dsimp only at hSw);go_simp;all_goals with_reducible rfl)
 try simp only [Act.put,List.setIfInBounds_toArray,List.set_cons_zero,List.set_cons_succ]
 refine takeT (v:=?_) 3 ⟨some 25,.fieldAddr 62 (.tmp 24) 1,0,"ref.go:138",#[⟨2,.data⟩],none⟩ hQp rfl (by kernel_rfl) (by rfl) ?_ (by assumption) ?_
 rotate_left 1
 ·(intro w hSw;(try dsimp only at hSw);go_simp;all_goals with_reducible rfl)
 try simp only [Act.put,List.setIfInBounds_toArray,List.set_cons_zero,List.set_cons_succ]
 refine takeT (v:=?_) 4 ⟨some 26,.load 3 (.tmp 25),3,"ref.go:138",#[⟨3,.data⟩],none⟩ hQp rfl (by kernel_rfl) (by rfl) ?_ (by assumption) ?_
 rotate_left 1
 ·(intro w hSw;(try dsimp only at hSw);go_simp;all_goals with_reducible rfl)
 try simp only [Act.put,List.setIfInBounds_toArray,List.set_cons_zero,List.set_cons_succ]
 refine takeT (v:=?_) 5 ⟨some 27,.move (.tmp 1),3,"ref.go:138",#[],none⟩ hQp rfl (by kernel_rfl) (by rfl) ?_ (by assumption) ?_
 rotate_left 1
 ·(intro w hSw;(try dsimp only at hSw);go_simp;all_goals with_reducible rfl)
 try simp only [Act.put,List.setIfInBounds_toArray,List.set_cons_zero,List.set_cons_succ]
 refine takeT (v:=?_) 6 ⟨some 28,.binOp BinOp.eql 3 (.tmp 26) (.tmp 27) 3,4,"ref.go:138",#[⟨4,.data⟩,⟨5,.data⟩],none⟩ hQp rfl (by kernel_rfl) (by rfl) ?_ (by assumption) ?_
 rotate_left 1
 ·(intro w hSw;(try dsimp only at hSw);go_simp;all_goals with_reducible rfl)
 try simp only [Act.put,List.setIfInBounds_toArray,List.set_cons_zero,List.set_cons_succ]
 refine takeT (v:=?_) 7 ⟨some 29,.move (.tmp 28),4,"ref.go:138",#[⟨6,.data⟩],none⟩ hQp rfl (by kernel_rfl) (by rfl) ?_ (by assumption) ?_
 rotate_left 1
 ·(intro w hSw;(try dsimp only at hSw);go_simp;all_goals with_reducible rfl)
 try simp only [Act.put,List.setIfInBounds_toArray,List.set_cons_zero,List.set_cons_succ]
 refine takeT (v:=?_) 8 ⟨some 30,.move (.tmp 0),24,"ref.go:138",#[⟨7,.guard⟩],some (7,true)⟩ hQp rfl (by kernel_rfl) (by rfl) ?_ (by assumption) ?_
 rotate_left 1
 ·(intro w hSw;(try dsimp only at hSw);go_simp;all_goals with_reducible rfl)
 try simp only [Act.put,List.setIfInBounds_toArray,List.set_cons_zero,List.set_cons_succ]
 refine takeT (v:=?_) 9 ⟨some 31,.move (.tmp 15),3,"ref.go:138",#[⟨7,.guard⟩],some (7,true)⟩ hQp rfl (by kernel_rfl) (by rfl) ?_ (by assumption) ?_
 rotate_left 1
 ·(intro w hSw;(try dsimp only at hSw);go_simp;all_goals with_reducible rfl)
 try simp only [Act.put,List.setIfInBounds_toArray,List.set_cons_zero,List.set_cons_succ]
 refine takeT (v:=?_) 10 ⟨some 32,.indexAddr 24 (.tmp 30) (.tmp 31),0,"ref.go:138",#[⟨8,.data⟩,⟨9,.data⟩,⟨7,.guard⟩],some (7,true)⟩ hQp rfl (by kernel_rfl) (by rfl) ?_ (by assumption) ?_
 rotate_left 1
 ·(intro w hSw;(try dsimp only at hSw);go_simp;all_goals with_reducible rfl)
 try simp only [Act.put,List.setIfInBounds_toArray,List.set_cons_zero,List.set_cons_succ]
 refine takeT (v:=?_) 11 ⟨some 33,.load 62 (.tmp 32),62,"ref.go:138",#[⟨10,.data⟩,⟨7,.guard⟩],some (7,true)⟩ hQp rfl (by kernel_rfl) (by rfl) ?_ (by assumption) ?_
 rotate_left 1
 ·(intro w hSw;(try dsimp only at hSw);go_simp;all_goals with_reducible rfl)
 try simp only [Act.put,List.setIfInBounds_toArray,List.set_cons_zero,List.set_cons_succ]
 refine takeT (v:=?_) 12 ⟨some 34,.move (.tmp 2),9,"ref.go:138",#[⟨7,.guard⟩],some (7,true)⟩ hQp rfl (by kernel_rfl) (by rfl) ?_ (by assumption) ?_
 rotate_left 1
 ·(intro w hSw;(try dsimp only at hSw);go_simp;all_goals with_reducible rfl)
 try simp only [Act.put,List.setIfInBounds_toArray,List.set_cons_zero,List.set_cons_succ]
 refine takeT (v:=?_) 13 ⟨some 35,.move (.tmp 3),9,"ref.go:138",#[⟨7,.guard⟩],some (7,true)⟩ hQp rfl (by kernel_rfl) (by rfl) ?_ (by assumption) ?_
 rotate_left 1
 ·(intro w hSw;(try dsimp only at hSw);go_simp;all_goals with_reducible rfl)
 try simp only [Act.put,List.setIfInBounds_toArray,List.set_cons_zero,List.set_cons_succ]
 refine takeT (v:=?_) 14 ⟨some 36,.move (.tmp 4),3,"ref.go:138",#[⟨7,.guard⟩],some (7,true)⟩ hQp rfl (by kernel_rfl) (by rfl) ?_ (by assumption) ?_
 rotate_left 1
 ·(intro w hSw;(try dsimp only at hSw);go_simp;all_goals with_reducible rfl)
 try simp only [Act.put,List.setIfInBounds_toArray,List.set_cons_zero,List.set_cons_succ]
 refine takeT (v:=?_) 15 ⟨some 37,.move (.tmp 5),3,"ref.go:138",#[⟨7,.guard⟩],some (7,true)⟩ hQp rfl (by kernel_rfl) (by rfl) ?_ (by assumption) ?_
 rotate_left 1
 ·(intro w hSw;(try dsimp only at hSw);go_simp;all_goals with_reducible rfl)
 try simp only [Act.put,List.setIfInBounds_toArray,List.set_cons_zero,List.set_cons_succ]
 refine wpAnyH_ready (rs:=[16]) (by kernel_rfl) (by simp) ?_
 refine AllReadyH.cons (o:={ dst:=some 38,op:=Op.call { callee:=Callee.value (Operand.func 80),args:=#[Operand.tmp 33,Operand.tmp 34,Operand.tmp 35,Operand.tmp 36,Operand.tmp 37],argTypes:=#[62,9,9,3,3] },type:=4,pos:= "ref.go:138",after:=#[⟨11,.data⟩,⟨12,.data⟩,⟨13,.data⟩,⟨14,.data⟩,⟨15,.data⟩,⟨7,.chain⟩,⟨7,.guard⟩],guard:=some (7,true) }) rfl (fun K hK=>?_) AllReadyH.nil
 go_simp
 with_reducible (refine (HCV1.out _ hk0.out).mono ?_)
 rintro e wz ⟨rfl,hbz⟩
 have hkc:=Lib.hid (hk0.out.trans (hbz.mono hk0.out.size))
 go_wp2_with fail
 refine hK.out _ _ (by (try dsimp only);exact HS1.out _ hkc.out) (fun hHeld=>?_)
 clear hK K
 try simp only [Act.put,List.setIfInBounds_toArray,List.set_cons_zero,List.set_cons_succ]
 refine takeT (v:=?_) 17 ⟨some 39,.pick (.tmp 29) (.tmp 38) (.const (Value.bool false)),4,"ref.go:138",#[⟨7,.data⟩,⟨16,.data⟩],none⟩ hQp rfl (by kernel_rfl) (by rfl) ?_ (by assumption) ?_
 rotate_left 1
 ·(intro w hSw;(try dsimp only at hSw);go_simp;all_goals with_reducible rfl)
 try simp only [Act.put,List.setIfInBounds_toArray,List.set_cons_zero,List.set_cons_succ]
 refine takeT (v:=?_) 18 ⟨some 40,.move (.tmp 39),4,"ref.go:138",#[⟨17,.data⟩,⟨16,.chain⟩],none⟩ hQp rfl (by kernel_rfl) (by rfl) ?_ (by assumption) ?_
 rotate_left 1
 ·(intro w hSw;(try dsimp only at hSw);go_simp;all_goals with_reducible rfl)
 try simp only [Act.put,List.setIfInBounds_toArray,List.set_cons_zero,List.set_cons_succ]
 refine takeT (v:=?_) 19 ⟨some 41,.move (.tmp 14),3,"ref.go:138",#[⟨18,.guard⟩],some (18,true)⟩ hQp rfl (by kernel_rfl) (by rfl) ?_ (by assumption) ?_
 rotate_left 1
 ·(intro w hSw;(try dsimp only at hSw);go_simp;all_goals with_reducible rfl)
 try simp only [Act.put,List.setIfInBounds_toArray,List.set_cons_zero,List.set_cons_succ]
 refine takeT (v:=?_) 20 ⟨some 42,.binOp BinOp.lss 3 (.tmp 41) (.const (Value.int IntKind.i64 0)) 3,4,"ref.go:138",#[⟨19,.data⟩,⟨18,.guard⟩],some (18,true)⟩ hQp rfl (by kernel_rfl) (by rfl) ?_ (by assumption) ?_
 rotate_left 1
 ·(intro w hSw;(try dsimp only at hSw);go_simp;all_goals with_reducible rfl)
 try simp only [Act.put,List.setIfInBounds_toArray,List.set_cons_zero,List.set_cons_succ]
 refine takeT (v:=?_) 21 ⟨some 43,.move (.tmp 42),4,"ref.go:138",#[⟨20,.data⟩,⟨18,.chain⟩,⟨18,.guard⟩],some (18,true)⟩ hQp rfl (by kernel_rfl) (by rfl) ?_ (by assumption) ?_
 rotate_left 1
 ·(intro w hSw;(try dsimp only at hSw);go_simp;all_goals with_reducible rfl)
 try simp only [Act.put,List.setIfInBounds_toArray,List.set_cons_zero,List.set_cons_succ]
 refine takeT (v:=?_) 22 ⟨some 44,.move (.tmp 0),24,"ref.go:138",#[⟨21,.guard⟩],some (21,false)⟩ hQp rfl (by kernel_rfl) (by rfl) ?_ (by assumption) ?_
 rotate_left 1
 ·(intro w hSw;(try dsimp only at hSw);go_simp;all_goals with_reducible rfl)
 try simp only [Act.put,List.setIfInBounds_toArray,List.set_cons_zero,List.set_cons_succ]
 refine takeT (v:=?_) 23 ⟨some 45,.move (.tmp 15),3,"ref.go:138",#[⟨21,.guard⟩],some (21,false)⟩ hQp rfl (by kernel_rfl) (by rfl) ?_ (by assumption) ?_
 rotate_left 1
 ·(intro w hSw;(try dsimp only at hSw);go_simp;all_goals with_reducible rfl)
 try simp only [Act.put,List.setIfInBounds_toArray,List.set_cons_zero,List.set_cons_succ]
 refine takeT (v:=?_) 24 ⟨some 46,.indexAddr 24 (.tmp 44) (.tmp 45),0,"ref.go:138",#[⟨22,.data⟩,⟨23,.data⟩,⟨21,.guard⟩],some (21,false)⟩ hQp rfl (by kernel_rfl) (by rfl) ?_ (by assumption) ?_
 rotate_left 1
 ·(intro w hSw;(try dsimp only at hSw);go_simp;all_goals with_reducible rfl)
 try simp only [Act.put,List.setIfInBounds_toArray,List.set_cons_zero,List.set_cons_succ]
 refine takeT (v:=?_) 25 ⟨some 47,.load 62 (.tmp 46),62,"ref.go:138",#[⟨24,.data⟩,⟨21,.guard⟩],some (21,false)⟩ hQp rfl (by kernel_rfl) (by rfl) ?_ (by assumption) ?_
 rotate_left 1
 ·(intro w hSw;(try dsimp only at hSw);go_simp;all_goals with_reducible rfl)
 try simp only [Act.put,List.setIfInBounds_toArray,List.set_cons_zero,List.set_cons_succ]
 refine takeT (v:=?_) 27 ⟨some 49,.move (.tmp 0),24,"ref.go:138",#[⟨21,.guard⟩],some (21,false)⟩ hQp rfl (by kernel_rfl) (by rfl) ?_ (by assumption) ?_
 rotate_left 1
 ·(intro w hSw;(try dsimp only at hSw);go_simp;all_goals with_reducible rfl)
 try simp only [Act.put,List.setIfInBounds_toArray,List.set_cons_zero,List.set_cons_succ]
 refine takeT (v:=?_) 28 ⟨some 50,.move (.tmp 14),3,"ref.go:138",#[⟨21,.guard⟩],some (21,false)⟩ hQp rfl (by kernel_rfl) (by rfl) ?_ (by assumption) ?_
 rotate_left 1
 ·(intro w hSw;(try dsimp only at hSw);go_simp;all_goals with_reducible rfl)
 try simp only [Act.put,List.setIfInBounds_toArray,List.set_cons_zero,List.set_cons_succ]
 refine takeT (v:=?_) 29 ⟨some 51,.indexAddr 24 (.tmp 49) (.tmp 50),0,"ref.go:138",#[⟨27,.data⟩,⟨28,.data⟩,⟨21,.guard⟩],some (21,false)⟩ hQp rfl (by kernel_rfl) (by rfl) ?_ (by assumption) ?_
 rotate_left 1
 ·(intro w hSw;(try dsimp only at hSw);go_simp;all_goals with_reducible rfl)
 try simp only [Act.put,List.setIfInBounds_toArray,List.set_cons_zero,List.set_cons_succ]
 refine takeT (v:=?_) 30 ⟨some 52,.load 62 (.tmp 51),62,"ref.go:138",#[⟨29,.data⟩,⟨21,.guard⟩],some (21,false)⟩ hQp rfl (by kernel_rfl) (by rfl) ?_ (by assumption) ?_
 rotate_left 1
 ·(intro w hSw;(try dsimp only at hSw);go_simp;all_goals with_reducible rfl)
 try simp only [Act.put,List.setIfInBounds_toArray,List.set_cons_zero,List.set_cons_succ]
 refine wpAnyH_ready (rs:=[26]) (by kernel_rfl) (by simp) ?_
 refine AllReadyH.cons (o:={ dst:=some 48,op:=Op.call { callee:=Callee.value (Operand.func 81),args:=#[Operand.tmp 47],argTypes:=#[62] },type:=3,pos:= "ref.go:138",after:=#[⟨25,.data⟩,⟨21,.chain⟩,⟨21,.guard⟩],guard:=some (21,false) }) rfl (fun K hK=>?_) AllReadyH.nil
 go_simp
 with_reducible (refine (HRK1.out _).mono ?_)
 rintro e wp ⟨rfl,hbp⟩
 have hkp:=Lib.hid (hkc.out.trans (hbp.mono hkc.out.size))
 go_wp2_with fail
 refine hK.out _ _ (by (try dsimp only);exact HS1.out _ hkp.out) (fun hHeld=>?_)
 clear hK K
 try simp only [Act.put,List.setIfInBounds_toArray,List.set_cons_zero,List.set_cons_succ]
 refine wpAnyH_ready (rs:=[31]) (by kernel_rfl) (by simp) ?_
 refine AllReadyH.cons (o:={ dst:=some 53,op:=Op.call { callee:=Callee.value (Operand.func 81),args:=#[Operand.tmp 52],argTypes:=#[62] },type:=3,pos:= "ref.go:138",after:=#[⟨30,.data⟩,⟨26,.chain⟩,⟨21,.guard⟩],guard:=some (21,false) }) rfl (fun K hK=>?_) AllReadyH.nil
 go_simp
 with_reducible (refine (HRK2.out _).mono ?_)
 rintro e wq ⟨rfl,hbq⟩
 have hkq:=Lib.hid (hkp.out.trans (hbq.mono hkp.out.size))
 go_wp2_with fail
 refine hK.out _ _ (by (try dsimp only);exact HS1.out _ hkq.out) (fun hHeld=>?_)
 clear hK K
 try simp only [Act.put,List.setIfInBounds_toArray,List.set_cons_zero,List.set_cons_succ]
 refine takeT (v:=?_) 32 ⟨some 54,.binOp BinOp.gtr 3 (.tmp 48) (.tmp 53) 3,4,"ref.go:138",#[⟨26,.data⟩,⟨31,.data⟩,⟨21,.guard⟩],some (21,false)⟩ hQp rfl (by kernel_rfl) (by rfl) ?_ (by assumption) ?_
 rotate_left 1
 ·(intro w hSw;(try dsimp only at hSw);go_simp;all_goals with_reducible rfl)
 try simp only [Act.put,List.setIfInBounds_toArray,List.set_cons_zero,List.set_cons_succ]
 refine takeT (v:=?_) 33 ⟨some 55,.pick (.tmp 43) (.const (Value.bool true)) (.tmp 54),4,"ref.go:138",#[⟨21,.data⟩,⟨32,.data⟩,⟨18,.guard⟩],some (18,true)⟩ hQp rfl (by kernel_rfl) (by rfl) ?_ (by assumption) ?_
 rotate_left 1
 ·(intro w hSw;(try dsimp only at hSw);go_simp;all_goals with_reducible rfl)
 try simp only [Act.put,List.setIfInBounds_toArray,List.set_cons_zero,List.set_cons_succ]
 refine takeT (v:=?_) 34 ⟨some 56,.pick (.tmp 40) (.tmp 55) (.const (Value.bool false)),4,"ref.go:138",#[⟨18,.data⟩,⟨33,.data⟩],none⟩ hQp rfl (by kernel_rfl) (by rfl) ?_ (by assumption) ?_
 rotate_left 1
 ·(intro w hSw;(try dsimp only at hSw);go_simp;all_goals with_reducible rfl)
 try simp only [Act.put,List.setIfInBounds_toArray,List.set_cons_zero,List.set_cons_succ]
 refine wpAnyH_done (by kernel_rfl) ?_ _
 exact HQ.out _ _ _ _ _ _ _ _ _ _ _ _ _ _ _ _ _ _ _ _ _ _ _ _ _ _ _ _ _ _ _ _ _ _ _ hkq.out
end Go.Proofs.YtbokkeooahodaaaGreatDoor

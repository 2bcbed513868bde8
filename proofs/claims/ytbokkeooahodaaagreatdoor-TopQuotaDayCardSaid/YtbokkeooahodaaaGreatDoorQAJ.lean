/-
  A part of the proof of TopQuotaDayCardSaid: lemmas and contracts of functions that the law calls. No statement of the seat is proved here. Conditions: as each says.
-/
import Derived.Test.YtbokkeooahodaaaGreatDoorQAI
import Derived.Test.YtbokkeooahodaaaGreatDoorQAF
import Derived.Test.YtbokkeooahodaaaGreatDoorQAE
import Derived.Deep.RegionWith
import Derived.Deep.RegionHeld3
namespace Go.Proofs.YtbokkeooahodaaaGreatDoor
open Go.RowKit
set_option linter.unusedVariables false
set_option maxRecDepth 100000 in
set_option maxHeartbeats 8000000 in
theorem reg9A {Q:Exit→Act→World→Prop} {s0 s1 s2 s3 s4 s5 s6 s7 s8 s9 s10 s11 s13 s14 s16 s17 s18 s19 s20 s21 s22 s23 s24 s25 s26 s27 s28 s29 s30 s31 s32 s33 s34 s35 s36 s37 s38 s39 s40 s41 s42 s43 s44 s45 s46 s47 s48 s49 s50 s51 s52 s53 s54 s55 s56 s57 s58 s59 s60 s61 s62 s63 s64 s65 s66 s67 s68:Value} {ds:List Deferred} {W1:World} {gx:Nat} {kd:Int} {y:MsA} (d1:(y.m.kind == kd)=false)  (HBX:Hid (Bl W1 gx 62 #[.int .i64 y.m.id,.int .i64 y.m.kind,.string y.m.pre,.slice y.A y.n y.c,.int .i64 y.m.co,.int .i64 y.m.fr,.int .i64 y.m.til,.int .i64 y.m.reg,.int .i64 y.m.du.rate,.int .i64 y.m.du.am,.int .i64 y.m.du.per,.bool y.m.du.hm,.int .i64 y.m.du.most,.bool y.m.du.hl,.int .i64 y.m.du.least]))
  (hQ:∀ (u28 u29 u30 u31 u32 u33 u34 u35 u36 u37 u38 u39 u40 u41 u42 u43 u44 u45 u46 u47 u48 u49 u50:Value) (w':World),RowKit.Below W1.heap.size W1 w'→Q .normal { tmps:=#[s0,s1,s2,s3,s4,s5,s6,s7,s8,s9,s10,s11,.int .i64 kd,s13,s14,.pointer (some ⟨gx,0,none⟩),s16,s17,s18,s19,s20,s21,s22,s23,s24,s25,s26,s27,u28,u29,u30,u31,u32,u33,u34,u35,u36,u37,u38,u39,u40,u41,u42,u43,u44,u45,u46,u47,u48,u49,u50,.bool false,s52,s53,s54,s55,s56,s57,s58,s59,s60,s61,s62,s63,s64,s65,s66,s67,s68],defers:=ds } w')
  (hQp:∀ (c:_) (a:Act) (d:Option Tmp) (v:Value) (w:World),Q (.panic c) (a.put d v) w→Q (.panic c) a w) :
  (Code.region 9 #[⟨some 28,.fieldAddr 62 (.tmp 15) 1,0,"measure.go:163",#[],none⟩,⟨some 29,.load 3 (.tmp 28),3,"measure.go:163",#[⟨0,.data⟩],none⟩,⟨some 30,.move (.tmp 12),3,"measure.go:163",#[],none⟩,⟨some 31,.binOp BinOp.eql 3 (.tmp 29) (.tmp 30) 3,4,"measure.go:163",#[⟨1,.data⟩,⟨2,.data⟩],none⟩,⟨some 32,.move (.tmp 31),4,"measure.go:163",#[⟨3,.data⟩],none⟩,⟨some 33,.load 62 (.tmp 15),62,"measure.go:163",#[⟨4,.guard⟩],some (4,true)⟩,⟨some 34,.move (.tmp 1),9,"measure.go:163",#[⟨4,.guard⟩],some (4,true)⟩,⟨some 35,.move (.tmp 2),9,"measure.go:163",#[⟨4,.guard⟩],some (4,true)⟩,⟨some 36,.move (.tmp 3),3,"measure.go:163",#[⟨4,.guard⟩],some (4,true)⟩,⟨some 37,.move (.tmp 4),3,"measure.go:163",#[⟨4,.guard⟩],some (4,true)⟩,{ dst:=some 38,op:=Op.call { callee:=Callee.value (Operand.func 50),args:=#[Operand.tmp 33,Operand.tmp 34,Operand.tmp 35,Operand.tmp 36,Operand.tmp 37],argTypes:=#[62,9,9,3,3] },type:=4,pos:= "measure.go:163",after:=#[⟨5,.data⟩,⟨6,.data⟩,⟨7,.data⟩,⟨8,.data⟩,⟨9,.data⟩,⟨4,.chain⟩,⟨4,.guard⟩],guard:=some (4,true) },⟨some 39,.pick (.tmp 32) (.tmp 38) (.const (Value.bool false)),4,"measure.go:163",#[⟨4,.data⟩,⟨10,.data⟩],none⟩,⟨some 40,.move (.tmp 39),4,"measure.go:163",#[⟨11,.data⟩,⟨10,.chain⟩],none⟩,⟨some 41,.move (.tmp 13),3,"measure.go:163",#[⟨12,.guard⟩],some (12,true)⟩,⟨some 42,.binOp BinOp.lss 3 (.tmp 41) (.const (Value.int IntKind.i64 0)) 3,4,"measure.go:163",#[⟨13,.data⟩,⟨12,.guard⟩],some (12,true)⟩,⟨some 43,.move (.tmp 42),4,"measure.go:163",#[⟨14,.data⟩,⟨12,.chain⟩,⟨12,.guard⟩],some (12,true)⟩,⟨some 44,.load 62 (.tmp 15),62,"measure.go:163",#[⟨15,.guard⟩],some (15,false)⟩,⟨some 45,.move (.tmp 0),24,"measure.go:163",#[⟨15,.guard⟩],some (15,false)⟩,⟨some 46,.move (.tmp 13),3,"measure.go:163",#[⟨15,.guard⟩],some (15,false)⟩,⟨some 47,.indexAddr 24 (.tmp 45) (.tmp 46),0,"measure.go:163",#[⟨17,.data⟩,⟨18,.data⟩,⟨15,.guard⟩],some (15,false)⟩,⟨some 48,.load 62 (.tmp 47),62,"measure.go:163",#[⟨19,.data⟩,⟨15,.guard⟩],some (15,false)⟩,{ dst:=some 49,op:=Op.call { callee:=Callee.value (Operand.func 51),args:=#[Operand.tmp 44,Operand.tmp 48],argTypes:=#[62,62] },type:=4,pos:= "measure.go:163",after:=#[⟨16,.data⟩,⟨20,.data⟩,⟨15,.chain⟩,⟨15,.guard⟩],guard:=some (15,false) },⟨some 50,.pick (.tmp 43) (.const (Value.bool true)) (.tmp 49),4,"measure.go:163",#[⟨15,.data⟩,⟨21,.data⟩,⟨12,.guard⟩],some (12,true)⟩,⟨some 51,.pick (.tmp 40) (.tmp 50) (.const (Value.bool false)),4,"measure.go:163",#[⟨12,.data⟩,⟨22,.data⟩],none⟩] true).wp Tryz.prog Q { tmps:=#[s0,s1,s2,s3,s4,s5,s6,s7,s8,s9,s10,s11,.int .i64 kd,s13,s14,.pointer (some ⟨gx,0,none⟩),s16,s17,s18,s19,s20,s21,s22,s23,s24,s25,s26,s27,s28,s29,s30,s31,s32,s33,s34,s35,s36,s37,s38,s39,s40,s41,s42,s43,s44,s45,s46,s47,s48,s49,s50,s51,s52,s53,s54,s55,s56,s57,s58,s59,s60,s61,s62,s63,s64,s65,s66,s67,s68],defers:=ds } W1:=by
 have hk00:=Lib.hid (Below.refl W1.heap.size W1)
 have hk0:Hid (RowKit.Below W1.heap.size W1 W1.drew):=(Below.refl W1.heap.size W1).drew
 have HQ:=Lib.hid hQ
 clear hQ
 have HS1:Hid (∀ wx,RowKit.Below W1.heap.size W1 wx→(wx.cell? ⟨gx,0,none⟩=some (.int .i64 y.m.id)∧wx.cell? ⟨gx,1,none⟩=some (.int .i64 y.m.kind)∧wx.cell? ⟨gx,2,none⟩=some (.string y.m.pre)∧wx.cell? ⟨gx,3,none⟩=some (.slice y.A y.n y.c)∧wx.cell? ⟨gx,4,none⟩=some (.int .i64 y.m.co)∧wx.cell? ⟨gx,5,none⟩=some (.int .i64 y.m.fr)∧wx.cell? ⟨gx,6,none⟩=some (.int .i64 y.m.til)∧wx.cell? ⟨gx,7,none⟩=some (.int .i64 y.m.reg)∧wx.cell? ⟨gx,8,none⟩=some (.int .i64 y.m.du.rate)∧wx.cell? ⟨gx,9,none⟩=some (.int .i64 y.m.du.am)∧wx.cell? ⟨gx,10,none⟩=some (.int .i64 y.m.du.per)∧wx.cell? ⟨gx,11,none⟩=some (.bool y.m.du.hm)∧wx.cell? ⟨gx,12,none⟩=some (.int .i64 y.m.du.most)∧wx.cell? ⟨gx,13,none⟩=some (.bool y.m.du.hl)∧wx.cell? ⟨gx,14,none⟩=some (.int .i64 y.m.du.least))):=fun wx hb=>by
  have hk:=HBX.out.keep hb
  exact⟨hk.cell 0,hk.cell 1,hk.cell 2,hk.cell 3,hk.cell 4,hk.cell 5,hk.cell 6,hk.cell 7,hk.cell 8,hk.cell 9,hk.cell 10,hk.cell 11,hk.cell 12,hk.cell 13,hk.cell 14⟩
 refine wp_region_held_drew (S:=fun wx=>wx.cell? ⟨gx,0,none⟩=some (.int .i64 y.m.id)∧wx.cell? ⟨gx,1,none⟩=some (.int .i64 y.m.kind)∧wx.cell? ⟨gx,2,none⟩=some (.string y.m.pre)∧wx.cell? ⟨gx,3,none⟩=some (.slice y.A y.n y.c)∧wx.cell? ⟨gx,4,none⟩=some (.int .i64 y.m.co)∧wx.cell? ⟨gx,5,none⟩=some (.int .i64 y.m.fr)∧wx.cell? ⟨gx,6,none⟩=some (.int .i64 y.m.til)∧wx.cell? ⟨gx,7,none⟩=some (.int .i64 y.m.reg)∧wx.cell? ⟨gx,8,none⟩=some (.int .i64 y.m.du.rate)∧wx.cell? ⟨gx,9,none⟩=some (.int .i64 y.m.du.am)∧wx.cell? ⟨gx,10,none⟩=some (.int .i64 y.m.du.per)∧wx.cell? ⟨gx,11,none⟩=some (.bool y.m.du.hm)∧wx.cell? ⟨gx,12,none⟩=some (.int .i64 y.m.du.most)∧wx.cell? ⟨gx,13,none⟩=some (.bool y.m.du.hl)∧wx.cell? ⟨gx,14,none⟩=some (.int .i64 y.m.du.least)) (by kernel_rfl) ?_ (fun hHeld=>?_)
 ·(try dsimp only);exact HS1.out _ hk0.out
 refine takeT (v:=?_) 0 ⟨some 28,.fieldAddr 62 (.tmp 15) 1,0,"measure.go:163",#[],none⟩ hQp rfl (by kernel_rfl) (by rfl) ?_ (by assumption) ?_
 rotate_left 1
 ·(intro w hSw;(try dsimp only at hSw);go_simp;all_goals with_reducible rfl)
 try simp only [Act.put,List.setIfInBounds_toArray,List.set_cons_zero,List.set_cons_succ]
 refine takeT (v:=?_) 1 ⟨some 29,.load 3 (.tmp 28),3,"measure.go:163",#[⟨0,.data⟩],none⟩ hQp rfl (by kernel_rfl) (by rfl) ?_ (by assumption) ?_
 rotate_left 1
 ·(intro w hSw;(try dsimp only at hSw);go_simp;all_goals with_reducible rfl)
 try simp only [Act.put,List.setIfInBounds_toArray,List.set_cons_zero,List.set_cons_succ]
 refine takeT (v:=?_) 2 ⟨some 30,.move (.tmp 12),3,"measure.go:163",#[],none⟩ hQp rfl (by kernel_rfl) (by rfl) ?_ (by assumption) ?_
 rotate_left 1
 ·(intro w hSw;(try dsimp only at hSw);go_simp;all_goals with_reducible rfl)
 try simp only [Act.put,List.setIfInBounds_toArray,List.set_cons_zero,List.set_cons_succ]
 refine takeT (v:=?_) 3 ⟨some 31,.binOp BinOp.eql 3 (.tmp 29) (.tmp 30) 3,4,"measure.go:163",#[⟨1,.data⟩,⟨2,.data⟩],none⟩ hQp rfl (by kernel_rfl) (by rfl) ?_ (by assumption) ?_
 rotate_left 1
 ·(intro w hSw;(try dsimp only at hSw);go_simp;all_goals with_reducible rfl)
 try simp only [Act.put,List.setIfInBounds_toArray,List.set_cons_zero,List.set_cons_succ]
 refine takeT (v:=?_) 4 ⟨some 32,.move (.tmp 31),4,"measure.go:163",#[⟨3,.data⟩],none⟩ hQp rfl (by kernel_rfl) (by rfl) ?_ (by assumption) ?_
 rotate_left 1
 ·(intro w hSw;(try dsimp only at hSw);go_simp;all_goals with_reducible rfl)
 try simp only [Act.put,List.setIfInBounds_toArray,List.set_cons_zero,List.set_cons_succ]
 refine takeF 5 ⟨some 33,.load 62 (.tmp 15),62,"measure.go:163",#[⟨4,.guard⟩],some (4,true)⟩ hQp rfl (by kernel_rfl) (by rfl) (by assumption) ?_
 try simp only [Act.put,List.setIfInBounds_toArray,List.set_cons_zero,List.set_cons_succ]
 refine takeF 6 ⟨some 34,.move (.tmp 1),9,"measure.go:163",#[⟨4,.guard⟩],some (4,true)⟩ hQp rfl (by kernel_rfl) (by rfl) (by assumption) ?_
 try simp only [Act.put,List.setIfInBounds_toArray,List.set_cons_zero,List.set_cons_succ]
 refine takeF 7 ⟨some 35,.move (.tmp 2),9,"measure.go:163",#[⟨4,.guard⟩],some (4,true)⟩ hQp rfl (by kernel_rfl) (by rfl) (by assumption) ?_
 try simp only [Act.put,List.setIfInBounds_toArray,List.set_cons_zero,List.set_cons_succ]
 refine takeF 8 ⟨some 36,.move (.tmp 3),3,"measure.go:163",#[⟨4,.guard⟩],some (4,true)⟩ hQp rfl (by kernel_rfl) (by rfl) (by assumption) ?_
 try simp only [Act.put,List.setIfInBounds_toArray,List.set_cons_zero,List.set_cons_succ]
 refine takeF 9 ⟨some 37,.move (.tmp 4),3,"measure.go:163",#[⟨4,.guard⟩],some (4,true)⟩ hQp rfl (by kernel_rfl) (by rfl) (by assumption) ?_
 try simp only [Act.put,List.setIfInBounds_toArray,List.set_cons_zero,List.set_cons_succ]
 refine takeF 10 { dst:=some 38,op:=Op.call { callee:=Callee.value (Operand.func 50),args:=#[Operand.tmp 33,Operand.tmp 34,Operand.tmp 35,Operand.tmp 36,Operand.tmp 37],argTypes:=#[62,9,9,3,3] },type:=4,pos:= "measure.go:163",after:=#[⟨5,.data⟩,⟨6,.data⟩,⟨7,.data⟩,⟨8,.data⟩,⟨9,.data⟩,⟨4,.chain⟩,⟨4,.guard⟩],guard:=some (4,true) } hQp rfl (by kernel_rfl) (by rfl) (by assumption) ?_
 try simp only [Act.put,List.setIfInBounds_toArray,List.set_cons_zero,List.set_cons_succ]
 refine takeT (v:=?_) 11 ⟨some 39,.pick (.tmp 32) (.tmp 38) (.const (Value.bool false)),4,"measure.go:163",#[⟨4,.data⟩,⟨10,.data⟩],none⟩ hQp rfl (by kernel_rfl) (by rfl) ?_ (by assumption) ?_
 rotate_left 1
 ·(intro w hSw;(try dsimp only at hSw);go_simp;all_goals with_reducible rfl)
 try simp only [Act.put,List.setIfInBounds_toArray,List.set_cons_zero,List.set_cons_succ]
 refine takeT (v:=?_) 12 ⟨some 40,.move (.tmp 39),4,"measure.go:163",#[⟨11,.data⟩,⟨10,.chain⟩],none⟩ hQp rfl (by kernel_rfl) (by rfl) ?_ (by assumption) ?_
 rotate_left 1
 ·(intro w hSw;(try dsimp only at hSw);go_simp;all_goals with_reducible rfl)
 try simp only [Act.put,List.setIfInBounds_toArray,List.set_cons_zero,List.set_cons_succ]
 refine takeF 13 ⟨some 41,.move (.tmp 13),3,"measure.go:163",#[⟨12,.guard⟩],some (12,true)⟩ hQp rfl (by kernel_rfl) (by rfl) (by assumption) ?_
 try simp only [Act.put,List.setIfInBounds_toArray,List.set_cons_zero,List.set_cons_succ]
 refine takeF 14 ⟨some 42,.binOp BinOp.lss 3 (.tmp 41) (.const (Value.int IntKind.i64 0)) 3,4,"measure.go:163",#[⟨13,.data⟩,⟨12,.guard⟩],some (12,true)⟩ hQp rfl (by kernel_rfl) (by rfl) (by assumption) ?_
 try simp only [Act.put,List.setIfInBounds_toArray,List.set_cons_zero,List.set_cons_succ]
 refine takeF 15 ⟨some 43,.move (.tmp 42),4,"measure.go:163",#[⟨14,.data⟩,⟨12,.chain⟩,⟨12,.guard⟩],some (12,true)⟩ hQp rfl (by kernel_rfl) (by rfl) (by assumption) ?_
 try simp only [Act.put,List.setIfInBounds_toArray,List.set_cons_zero,List.set_cons_succ]
 refine takeF 16 ⟨some 44,.load 62 (.tmp 15),62,"measure.go:163",#[⟨15,.guard⟩],some (15,false)⟩ hQp rfl (by kernel_rfl) (by rfl) (by assumption) ?_
 try simp only [Act.put,List.setIfInBounds_toArray,List.set_cons_zero,List.set_cons_succ]
 refine takeF 17 ⟨some 45,.move (.tmp 0),24,"measure.go:163",#[⟨15,.guard⟩],some (15,false)⟩ hQp rfl (by kernel_rfl) (by rfl) (by assumption) ?_
 try simp only [Act.put,List.setIfInBounds_toArray,List.set_cons_zero,List.set_cons_succ]
 refine takeF 18 ⟨some 46,.move (.tmp 13),3,"measure.go:163",#[⟨15,.guard⟩],some (15,false)⟩ hQp rfl (by kernel_rfl) (by rfl) (by assumption) ?_
 try simp only [Act.put,List.setIfInBounds_toArray,List.set_cons_zero,List.set_cons_succ]
 refine takeF 19 ⟨some 47,.indexAddr 24 (.tmp 45) (.tmp 46),0,"measure.go:163",#[⟨17,.data⟩,⟨18,.data⟩,⟨15,.guard⟩],some (15,false)⟩ hQp rfl (by kernel_rfl) (by rfl) (by assumption) ?_
 try simp only [Act.put,List.setIfInBounds_toArray,List.set_cons_zero,List.set_cons_succ]
 refine takeF 20 ⟨some 48,.load 62 (.tmp 47),62,"measure.go:163",#[⟨19,.data⟩,⟨15,.guard⟩],some (15,false)⟩ hQp rfl (by kernel_rfl) (by rfl) (by assumption) ?_
 try simp only [Act.put,List.setIfInBounds_toArray,List.set_cons_zero,List.set_cons_succ]
 refine takeF 21 { dst:=some 49,op:=Op.call { callee:=Callee.value (Operand.func 51),args:=#[Operand.tmp 44,Operand.tmp 48],argTypes:=#[62,62] },type:=4,pos:= "measure.go:163",after:=#[⟨16,.data⟩,⟨20,.data⟩,⟨15,.chain⟩,⟨15,.guard⟩],guard:=some (15,false) } hQp rfl (by kernel_rfl) (by rfl) (by assumption) ?_
 try simp only [Act.put,List.setIfInBounds_toArray,List.set_cons_zero,List.set_cons_succ]
 refine takeF 22 ⟨some 50,.pick (.tmp 43) (.const (Value.bool true)) (.tmp 49),4,"measure.go:163",#[⟨15,.data⟩,⟨21,.data⟩,⟨12,.guard⟩],some (12,true)⟩ hQp rfl (by kernel_rfl) (by rfl) (by assumption) ?_
 try simp only [Act.put,List.setIfInBounds_toArray,List.set_cons_zero,List.set_cons_succ]
 refine takeT (v:=?_) 23 ⟨some 51,.pick (.tmp 40) (.tmp 50) (.const (Value.bool false)),4,"measure.go:163",#[⟨12,.data⟩,⟨22,.data⟩],none⟩ hQp rfl (by kernel_rfl) (by rfl) ?_ (by assumption) ?_
 rotate_left 1
 ·(intro w hSw;(try dsimp only at hSw);go_simp;all_goals with_reducible rfl)
 try simp only [Act.put,List.setIfInBounds_toArray,List.set_cons_zero,List.set_cons_succ]
 refine wpAnyH_done (by kernel_rfl) ?_ _
 exact HQ.out _ _ _ _ _ _ _ _ _ _ _ _ _ _ _ _ _ _ _ _ _ _ _ _ hk0.out
set_option maxRecDepth 100000 in
set_option maxHeartbeats 8000000 in
theorem reg9B {Q:Exit→Act→World→Prop} {s0 s5 s6 s7 s8 s9 s10 s11 s13 s14 s16 s17 s18 s19 s20 s21 s22 s23 s24 s25 s26 s27 s28 s29 s30 s31 s32 s33 s34 s35 s36 s37 s38 s39 s40 s41 s42 s43 s44 s45 s46 s47 s48 s49 s50 s51 s52 s53 s54 s55 s56 s57 s58 s59 s60 s61 s62 s63 s64 s65 s66 s67 s68:Value} {ds:List Deferred} {W1:World} {gx:Nat} {kd:Int} {y:MsA} {xc xo:ByteArray} {xn xd:Int} (d1:(y.m.kind == kd)=true) (HCV1:Hid (∀ wx,RowKit.Below W1.heap.size W1 wx→Calls Tryz.prog 50 #[.agg #[.int .i64 y.m.id,.int .i64 y.m.kind,.string y.m.pre,.slice y.A y.n y.c,.int .i64 y.m.co,.int .i64 y.m.fr,.int .i64 y.m.til,.int .i64 y.m.reg,.int .i64 y.m.du.rate,.int .i64 y.m.du.am,.int .i64 y.m.du.per,.bool y.m.du.hm,.int .i64 y.m.du.most,.bool y.m.du.hl,.int .i64 y.m.du.least],.string xc,.string xo,.int .i64 xn,.int .i64 xd] wx fun e w'=>e=.returned (.bool false)∧RowKit.Below wx.heap.size wx w'))  (HBX:Hid (Bl W1 gx 62 #[.int .i64 y.m.id,.int .i64 y.m.kind,.string y.m.pre,.slice y.A y.n y.c,.int .i64 y.m.co,.int .i64 y.m.fr,.int .i64 y.m.til,.int .i64 y.m.reg,.int .i64 y.m.du.rate,.int .i64 y.m.du.am,.int .i64 y.m.du.per,.bool y.m.du.hm,.int .i64 y.m.du.most,.bool y.m.du.hl,.int .i64 y.m.du.least]))
  (hQ:∀ (u28 u29 u30 u31 u32 u33 u34 u35 u36 u37 u38 u39 u40 u41 u42 u43 u44 u45 u46 u47 u48 u49 u50:Value) (w':World),RowKit.Below W1.heap.size W1 w'→Q .normal { tmps:=#[s0,.string xc,.string xo,.int .i64 xn,.int .i64 xd,s5,s6,s7,s8,s9,s10,s11,.int .i64 kd,s13,s14,.pointer (some ⟨gx,0,none⟩),s16,s17,s18,s19,s20,s21,s22,s23,s24,s25,s26,s27,u28,u29,u30,u31,u32,u33,u34,u35,u36,u37,u38,u39,u40,u41,u42,u43,u44,u45,u46,u47,u48,u49,u50,.bool false,s52,s53,s54,s55,s56,s57,s58,s59,s60,s61,s62,s63,s64,s65,s66,s67,s68],defers:=ds } w')
  (hQp:∀ (c:_) (a:Act) (d:Option Tmp) (v:Value) (w:World),Q (.panic c) (a.put d v) w→Q (.panic c) a w) :
  (Code.region 9 #[⟨some 28,.fieldAddr 62 (.tmp 15) 1,0,"measure.go:163",#[],none⟩,⟨some 29,.load 3 (.tmp 28),3,"measure.go:163",#[⟨0,.data⟩],none⟩,⟨some 30,.move (.tmp 12),3,"measure.go:163",#[],none⟩,⟨some 31,.binOp BinOp.eql 3 (.tmp 29) (.tmp 30) 3,4,"measure.go:163",#[⟨1,.data⟩,⟨2,.data⟩],none⟩,⟨some 32,.move (.tmp 31),4,"measure.go:163",#[⟨3,.data⟩],none⟩,⟨some 33,.load 62 (.tmp 15),62,"measure.go:163",#[⟨4,.guard⟩],some (4,true)⟩,⟨some 34,.move (.tmp 1),9,"measure.go:163",#[⟨4,.guard⟩],some (4,true)⟩,⟨some 35,.move (.tmp 2),9,"measure.go:163",#[⟨4,.guard⟩],some (4,true)⟩,⟨some 36,.move (.tmp 3),3,"measure.go:163",#[⟨4,.guard⟩],some (4,true)⟩,⟨some 37,.move (.tmp 4),3,"measure.go:163",#[⟨4,.guard⟩],some (4,true)⟩,{ dst:=some 38,op:=Op.call { callee:=Callee.value (Operand.func 50),args:=#[Operand.tmp 33,Operand.tmp 34,Operand.tmp 35,Operand.tmp 36,Operand.tmp 37],argTypes:=#[62,9,9,3,3] },type:=4,pos:= "measure.go:163",after:=#[⟨5,.data⟩,⟨6,.data⟩,⟨7,.data⟩,⟨8,.data⟩,⟨9,.data⟩,⟨4,.chain⟩,⟨4,.guard⟩],guard:=some (4,true) },⟨some 39,.pick (.tmp 32) (.tmp 38) (.const (Value.bool false)),4,"measure.go:163",#[⟨4,.data⟩,⟨10,.data⟩],none⟩,⟨some 40,.move (.tmp 39),4,"measure.go:163",#[⟨11,.data⟩,⟨10,.chain⟩],none⟩,⟨some 41,.move (.tmp 13),3,"measure.go:163",#[⟨12,.guard⟩],some (12,true)⟩,⟨some 42,.binOp BinOp.lss 3 (.tmp 41) (.const (Value.int IntKind.i64 0)) 3,4,"measure.go:163",#[⟨13,.data⟩,⟨12,.guard⟩],some (12,true)⟩,⟨some 43,.move (.tmp 42),4,"measure.go:163",#[⟨14,.data⟩,⟨12,.chain⟩,⟨12,.guard⟩],some (12,true)⟩,⟨some 44,.load 62 (.tmp 15),62,"measure.go:163",#[⟨15,.guard⟩],some (15,false)⟩,⟨some 45,.move (.tmp 0),24,"measure.go:163",#[⟨15,.guard⟩],some (15,false)⟩,⟨some 46,.move (.tmp 13),3,"measure.go:163",#[⟨15,.guard⟩],some (15,false)⟩,⟨some 47,.indexAddr 24 (.tmp 45) (.tmp 46),0,"measure.go:163",#[⟨17,.data⟩,⟨18,.data⟩,⟨15,.guard⟩],some (15,false)⟩,⟨some 48,.load 62 (.tmp 47),62,"measure.go:163",#[⟨19,.data⟩,⟨15,.guard⟩],some (15,false)⟩,{ dst:=some 49,op:=Op.call { callee:=Callee.value (Operand.func 51),args:=#[Operand.tmp 44,Operand.tmp 48],argTypes:=#[62,62] },type:=4,pos:= "measure.go:163",after:=#[⟨16,.data⟩,⟨20,.data⟩,⟨15,.chain⟩,⟨15,.guard⟩],guard:=some (15,false) },⟨some 50,.pick (.tmp 43) (.const (Value.bool true)) (.tmp 49),4,"measure.go:163",#[⟨15,.data⟩,⟨21,.data⟩,⟨12,.guard⟩],some (12,true)⟩,⟨some 51,.pick (.tmp 40) (.tmp 50) (.const (Value.bool false)),4,"measure.go:163",#[⟨12,.data⟩,⟨22,.data⟩],none⟩] true).wp Tryz.prog Q { tmps:=#[s0,.string xc,.string xo,.int .i64 xn,.int .i64 xd,s5,s6,s7,s8,s9,s10,s11,.int .i64 kd,s13,s14,.pointer (some ⟨gx,0,none⟩),s16,s17,s18,s19,s20,s21,s22,s23,s24,s25,s26,s27,s28,s29,s30,s31,s32,s33,s34,s35,s36,s37,s38,s39,s40,s41,s42,s43,s44,s45,s46,s47,s48,s49,s50,s51,s52,s53,s54,s55,s56,s57,s58,s59,s60,s61,s62,s63,s64,s65,s66,s67,s68],defers:=ds } W1:=by
 have hk00:=Lib.hid (Below.refl W1.heap.size W1)
 have hk0:Hid (RowKit.Below W1.heap.size W1 W1.drew):=(Below.refl W1.heap.size W1).drew
 have HQ:=Lib.hid hQ
 clear hQ
 have HS1:Hid (∀ wx,RowKit.Below W1.heap.size W1 wx→(wx.cell? ⟨gx,0,none⟩=some (.int .i64 y.m.id)∧wx.cell? ⟨gx,1,none⟩=some (.int .i64 y.m.kind)∧wx.cell? ⟨gx,2,none⟩=some (.string y.m.pre)∧wx.cell? ⟨gx,3,none⟩=some (.slice y.A y.n y.c)∧wx.cell? ⟨gx,4,none⟩=some (.int .i64 y.m.co)∧wx.cell? ⟨gx,5,none⟩=some (.int .i64 y.m.fr)∧wx.cell? ⟨gx,6,none⟩=some (.int .i64 y.m.til)∧wx.cell? ⟨gx,7,none⟩=some (.int .i64 y.m.reg)∧wx.cell? ⟨gx,8,none⟩=some (.int .i64 y.m.du.rate)∧wx.cell? ⟨gx,9,none⟩=some (.int .i64 y.m.du.am)∧wx.cell? ⟨gx,10,none⟩=some (.int .i64 y.m.du.per)∧wx.cell? ⟨gx,11,none⟩=some (.bool y.m.du.hm)∧wx.cell? ⟨gx,12,none⟩=some (.int .i64 y.m.du.most)∧wx.cell? ⟨gx,13,none⟩=some (.bool y.m.du.hl)∧wx.cell? ⟨gx,14,none⟩=some (.int .i64 y.m.du.least))):=fun wx hb=>by
  have hk:=HBX.out.keep hb
  exact⟨hk.cell 0,hk.cell 1,hk.cell 2,hk.cell 3,hk.cell 4,hk.cell 5,hk.cell 6,hk.cell 7,hk.cell 8,hk.cell 9,hk.cell 10,hk.cell 11,hk.cell 12,hk.cell 13,hk.cell 14⟩
 refine wp_region_held_drew (S:=fun wx=>wx.cell? ⟨gx,0,none⟩=some (.int .i64 y.m.id)∧wx.cell? ⟨gx,1,none⟩=some (.int .i64 y.m.kind)∧wx.cell? ⟨gx,2,none⟩=some (.string y.m.pre)∧wx.cell? ⟨gx,3,none⟩=some (.slice y.A y.n y.c)∧wx.cell? ⟨gx,4,none⟩=some (.int .i64 y.m.co)∧wx.cell? ⟨gx,5,none⟩=some (.int .i64 y.m.fr)∧wx.cell? ⟨gx,6,none⟩=some (.int .i64 y.m.til)∧wx.cell? ⟨gx,7,none⟩=some (.int .i64 y.m.reg)∧wx.cell? ⟨gx,8,none⟩=some (.int .i64 y.m.du.rate)∧wx.cell? ⟨gx,9,none⟩=some (.int .i64 y.m.du.am)∧wx.cell? ⟨gx,10,none⟩=some (.int .i64 y.m.du.per)∧wx.cell? ⟨gx,11,none⟩=some (.bool y.m.du.hm)∧wx.cell? ⟨gx,12,none⟩=some (.int .i64 y.m.du.most)∧wx.cell? ⟨gx,13,none⟩=some (.bool y.m.du.hl)∧wx.cell? ⟨gx,14,none⟩=some (.int .i64 y.m.du.least)) (by kernel_rfl) ?_ (fun hHeld=>?_)
 ·(try dsimp only);exact HS1.out _ hk0.out
 refine takeT (v:=?_) 0 ⟨some 28,.fieldAddr 62 (.tmp 15) 1,0,"measure.go:163",#[],none⟩ hQp rfl (by kernel_rfl) (by rfl) ?_ (by assumption) ?_
 rotate_left 1
 ·(intro w hSw;(try dsimp only at hSw);go_simp;all_goals with_reducible rfl)
 try simp only [Act.put,List.setIfInBounds_toArray,List.set_cons_zero,List.set_cons_succ]
 refine takeT (v:=?_) 1 ⟨some 29,.load 3 (.tmp 28),3,"measure.go:163",#[⟨0,.data⟩],none⟩ hQp rfl (by kernel_rfl) (by rfl) ?_ (by assumption) ?_
 rotate_left 1
 ·(intro w hSw;(try dsimp only at hSw);go_simp;all_goals with_reducible rfl)
 try simp only [Act.put,List.setIfInBounds_toArray,List.set_cons_zero,List.set_cons_succ]
 refine takeT (v:=?_) 2 ⟨some 30,.move (.tmp 12),3,"measure.go:163",#[],none⟩ hQp rfl (by kernel_rfl) (by rfl) ?_ (by assumption) ?_
 rotate_left 1
 ·(intro w hSw;(try dsimp only at hSw);go_simp;all_goals with_reducible rfl)
 try simp only [Act.put,List.setIfInBounds_toArray,List.set_cons_zero,List.set_cons_succ]
 refine takeT (v:=?_) 3 ⟨some 31,.binOp BinOp.eql 3 (.tmp 29) (.tmp 30) 3,4,"measure.go:163",#[⟨1,.data⟩,⟨2,.data⟩],none⟩ hQp rfl (by kernel_rfl) (by rfl) ?_ (by assumption) ?_
 rotate_left 1
 ·(intro w hSw;(try dsimp only at hSw);go_simp;all_goals with_reducible rfl)
 try simp only [Act.put,List.setIfInBounds_toArray,List.set_cons_zero,List.set_cons_succ]
 refine takeT (v:=?_) 4 ⟨some 32,.move (.tmp 31),4,"measure.go:163",#[⟨3,.data⟩],none⟩ hQp rfl (by kernel_rfl) (by rfl) ?_ (by assumption) ?_
 rotate_left 1
 ·(intro w hSw;(try dsimp only at hSw);go_simp;all_goals with_reducible rfl)
 try simp only [Act.put,List.setIfInBounds_toArray,List.set_cons_zero,List.set_cons_succ]
 refine takeT (v:=?_) 5 ⟨some 33,.load 62 (.tmp 15),62,"measure.go:163",#[⟨4,.guard⟩],some (4,true)⟩ hQp rfl (by kernel_rfl) (by rfl) ?_ (by assumption) ?_
 rotate_left 1
 ·(intro w hSw;(try dsimp only at hSw);go_simp;all_goals with_reducible rfl)
 try simp only [Act.put,List.setIfInBounds_toArray,List.set_cons_zero,List.set_cons_succ]
 refine takeT (v:=?_) 6 ⟨some 34,.move (.tmp 1),9,"measure.go:163",#[⟨4,.guard⟩],some (4,true)⟩ hQp rfl (by kernel_rfl) (by rfl) ?_ (by assumption) ?_
 rotate_left 1
 ·(intro w hSw;(try dsimp only at hSw);go_simp;all_goals with_reducible rfl)
 try simp only [Act.put,List.setIfInBounds_toArray,List.set_cons_zero,List.set_cons_succ]
 refine takeT (v:=?_) 7 ⟨some 35,.move (.tmp 2),9,"measure.go:163",#[⟨4,.guard⟩],some (4,true)⟩ hQp rfl (by kernel_rfl) (by rfl) ?_ (by assumption) ?_
 rotate_left 1
 ·(intro w hSw;(try dsimp only at hSw);go_simp;all_goals with_reducible rfl)
 try simp only [Act.put,List.setIfInBounds_toArray,List.set_cons_zero,List.set_cons_succ]
 refine takeT (v:=?_) 8 ⟨some 36,.move (.tmp 3),3,"measure.go:163",#[⟨4,.guard⟩],some (4,true)⟩ hQp rfl (by kernel_rfl) (by rfl) ?_ (by assumption) ?_
 rotate_left 1
 ·(intro w hSw;(try dsimp only at hSw);go_simp;all_goals with_reducible rfl)
 try simp only [Act.put,List.setIfInBounds_toArray,List.set_cons_zero,List.set_cons_succ]
 refine takeT (v:=?_) 9 ⟨some 37,.move (.tmp 4),3,"measure.go:163",#[⟨4,.guard⟩],some (4,true)⟩ hQp rfl (by kernel_rfl) (by rfl) ?_ (by assumption) ?_
 rotate_left 1
 ·(intro w hSw;(try dsimp only at hSw);go_simp;all_goals with_reducible rfl)
 try simp only [Act.put,List.setIfInBounds_toArray,List.set_cons_zero,List.set_cons_succ]
 refine wpAnyH_ready (rs:=[10]) (by kernel_rfl) (by simp) ?_
 refine AllReadyH.cons (o:={ dst:=some 38,op:=Op.call { callee:=Callee.value (Operand.func 50),args:=#[Operand.tmp 33,Operand.tmp 34,Operand.tmp 35,Operand.tmp 36,Operand.tmp 37],argTypes:=#[62,9,9,3,3] },type:=4,pos:= "measure.go:163",after:=#[⟨5,.data⟩,⟨6,.data⟩,⟨7,.data⟩,⟨8,.data⟩,⟨9,.data⟩,⟨4,.chain⟩,⟨4,.guard⟩],guard:=some (4,true) }) rfl (fun K hK=>?_) AllReadyH.nil
 go_simp
 with_reducible (refine (HCV1.out _ hk0.out).mono ?_)
 rintro e wz ⟨rfl,hbz⟩
 have hkc:=Lib.hid (hk0.out.trans (hbz.mono hk0.out.size))
 go_wp2_with fail
 refine hK.out _ _ (by (try dsimp only);exact HS1.out _ hkc.out) (fun hHeld=>?_)
 clear hK K
 try simp only [Act.put,List.setIfInBounds_toArray,List.set_cons_zero,List.set_cons_succ]
 refine takeT (v:=?_) 11 ⟨some 39,.pick (.tmp 32) (.tmp 38) (.const (Value.bool false)),4,"measure.go:163",#[⟨4,.data⟩,⟨10,.data⟩],none⟩ hQp rfl (by kernel_rfl) (by rfl) ?_ (by assumption) ?_
 rotate_left 1
 ·(intro w hSw;(try dsimp only at hSw);go_simp;all_goals with_reducible rfl)
 try simp only [Act.put,List.setIfInBounds_toArray,List.set_cons_zero,List.set_cons_succ]
 refine takeT (v:=?_) 12 ⟨some 40,.move (.tmp 39),4,"measure.go:163",#[⟨11,.data⟩,⟨10,.chain⟩],none⟩ hQp rfl (by kernel_rfl) (by rfl) ?_ (by assumption) ?_
 rotate_left 1
 ·(intro w hSw;(try dsimp only at hSw);go_simp;all_goals with_reducible rfl)
 try simp only [Act.put,List.setIfInBounds_toArray,List.set_cons_zero,List.set_cons_succ]
 refine takeF 13 ⟨some 41,.move (.tmp 13),3,"measure.go:163",#[⟨12,.guard⟩],some (12,true)⟩ hQp rfl (by kernel_rfl) (by rfl) (by assumption) ?_
 try simp only [Act.put,List.setIfInBounds_toArray,List.set_cons_zero,List.set_cons_succ]
 refine takeF 14 ⟨some 42,.binOp BinOp.lss 3 (.tmp 41) (.const (Value.int IntKind.i64 0)) 3,4,"measure.go:163",#[⟨13,.data⟩,⟨12,.guard⟩],some (12,true)⟩ hQp rfl (by kernel_rfl) (by rfl) (by assumption) ?_
 try simp only [Act.put,List.setIfInBounds_toArray,List.set_cons_zero,List.set_cons_succ]
 refine takeF 15 ⟨some 43,.move (.tmp 42),4,"measure.go:163",#[⟨14,.data⟩,⟨12,.chain⟩,⟨12,.guard⟩],some (12,true)⟩ hQp rfl (by kernel_rfl) (by rfl) (by assumption) ?_
 try simp only [Act.put,List.setIfInBounds_toArray,List.set_cons_zero,List.set_cons_succ]
 refine takeF 16 ⟨some 44,.load 62 (.tmp 15),62,"measure.go:163",#[⟨15,.guard⟩],some (15,false)⟩ hQp rfl (by kernel_rfl) (by rfl) (by assumption) ?_
 try simp only [Act.put,List.setIfInBounds_toArray,List.set_cons_zero,List.set_cons_succ]
 refine takeF 17 ⟨some 45,.move (.tmp 0),24,"measure.go:163",#[⟨15,.guard⟩],some (15,false)⟩ hQp rfl (by kernel_rfl) (by rfl) (by assumption) ?_
 try simp only [Act.put,List.setIfInBounds_toArray,List.set_cons_zero,List.set_cons_succ]
 refine takeF 18 ⟨some 46,.move (.tmp 13),3,"measure.go:163",#[⟨15,.guard⟩],some (15,false)⟩ hQp rfl (by kernel_rfl) (by rfl) (by assumption) ?_
 try simp only [Act.put,List.setIfInBounds_toArray,List.set_cons_zero,List.set_cons_succ]
 refine takeF 19 ⟨some 47,.indexAddr 24 (.tmp 45) (.tmp 46),0,"measure.go:163",#[⟨17,.data⟩,⟨18,.data⟩,⟨15,.guard⟩],some (15,false)⟩ hQp rfl (by kernel_rfl) (by rfl) (by assumption) ?_
 try simp only [Act.put,List.setIfInBounds_toArray,List.set_cons_zero,List.set_cons_succ]
 refine takeF 20 ⟨some 48,.load 62 (.tmp 47),62,"measure.go:163",#[⟨19,.data⟩,⟨15,.guard⟩],some (15,false)⟩ hQp rfl (by kernel_rfl) (by rfl) (by assumption) ?_
 try simp only [Act.put,List.setIfInBounds_toArray,List.set_cons_zero,List.set_cons_succ]
 refine takeF 21 { dst:=some 49,op:=Op.call { callee:=Callee.value (Operand.func 51),args:=#[Operand.tmp 44,Operand.tmp 48],argTypes:=#[62,62] },type:=4,pos:= "measure.go:163",after:=#[⟨16,.data⟩,⟨20,.data⟩,⟨15,.chain⟩,⟨15,.guard⟩],guard:=some (15,false) } hQp rfl (by kernel_rfl) (by rfl) (by assumption) ?_
 try simp only [Act.put,List.setIfInBounds_toArray,List.set_cons_zero,List.set_cons_succ]
 refine takeF 22 ⟨some 50,.pick (.tmp 43) (.const (Value.bool true)) (.tmp 49),4,"measure.go:163",#[⟨15,.data⟩,⟨21,.data⟩,⟨12,.guard⟩],some (12,true)⟩ hQp rfl (by kernel_rfl) (by rfl) (by assumption) ?_
 try simp only [Act.put,List.setIfInBounds_toArray,List.set_cons_zero,List.set_cons_succ]
 refine takeT (v:=?_) 23 ⟨some 51,.pick (.tmp 40) (.tmp 50) (.const (Value.bool false)),4,"measure.go:163",#[⟨12,.data⟩,⟨22,.data⟩],none⟩ hQp rfl (by kernel_rfl) (by rfl) ?_ (by assumption) ?_
 rotate_left 1
 ·(intro w hSw;(try dsimp only at hSw);go_simp;all_goals with_reducible rfl)
 try simp only [Act.put,List.setIfInBounds_toArray,List.set_cons_zero,List.set_cons_succ]
 refine wpAnyH_done (by kernel_rfl) ?_ _
 exact HQ.out _ _ _ _ _ _ _ _ _ _ _ _ _ _ _ _ _ _ _ _ _ _ _ _ hkc.out
set_option maxRecDepth 100000 in
set_option maxHeartbeats 8000000 in
theorem reg9C {Q:Exit→Act→World→Prop} {s0 s5 s6 s7 s8 s9 s10 s11 s14 s16 s17 s18 s19 s20 s21 s22 s23 s24 s25 s26 s27 s28 s29 s30 s31 s32 s33 s34 s35 s36 s37 s38 s39 s40 s41 s42 s43 s44 s45 s46 s47 s48 s49 s50 s51 s52 s53 s54 s55 s56 s57 s58 s59 s60 s61 s62 s63 s64 s65 s66 s67 s68:Value} {ds:List Deferred} {W1:World} {gx:Nat} {kd:Int} {y:MsA} {xc xo:ByteArray} {xn xd:Int} {bv:Int} (d1:(y.m.kind == kd)=true) (HCV1:Hid (∀ wx,RowKit.Below W1.heap.size W1 wx→Calls Tryz.prog 50 #[.agg #[.int .i64 y.m.id,.int .i64 y.m.kind,.string y.m.pre,.slice y.A y.n y.c,.int .i64 y.m.co,.int .i64 y.m.fr,.int .i64 y.m.til,.int .i64 y.m.reg,.int .i64 y.m.du.rate,.int .i64 y.m.du.am,.int .i64 y.m.du.per,.bool y.m.du.hm,.int .i64 y.m.du.most,.bool y.m.du.hl,.int .i64 y.m.du.least],.string xc,.string xo,.int .i64 xn,.int .i64 xd] wx fun e w'=>e=.returned (.bool true)∧RowKit.Below wx.heap.size wx w')) (d2:decide (bv<0)=true)  (HBX:Hid (Bl W1 gx 62 #[.int .i64 y.m.id,.int .i64 y.m.kind,.string y.m.pre,.slice y.A y.n y.c,.int .i64 y.m.co,.int .i64 y.m.fr,.int .i64 y.m.til,.int .i64 y.m.reg,.int .i64 y.m.du.rate,.int .i64 y.m.du.am,.int .i64 y.m.du.per,.bool y.m.du.hm,.int .i64 y.m.du.most,.bool y.m.du.hl,.int .i64 y.m.du.least]))
  (hQ:∀ (u28 u29 u30 u31 u32 u33 u34 u35 u36 u37 u38 u39 u40 u41 u42 u43 u44 u45 u46 u47 u48 u49 u50:Value) (w':World),RowKit.Below W1.heap.size W1 w'→Q .normal { tmps:=#[s0,.string xc,.string xo,.int .i64 xn,.int .i64 xd,s5,s6,s7,s8,s9,s10,s11,.int .i64 kd,.int .i64 bv,s14,.pointer (some ⟨gx,0,none⟩),s16,s17,s18,s19,s20,s21,s22,s23,s24,s25,s26,s27,u28,u29,u30,u31,u32,u33,u34,u35,u36,u37,u38,u39,u40,u41,u42,u43,u44,u45,u46,u47,u48,u49,u50,.bool true,s52,s53,s54,s55,s56,s57,s58,s59,s60,s61,s62,s63,s64,s65,s66,s67,s68],defers:=ds } w')
  (hQp:∀ (c:_) (a:Act) (d:Option Tmp) (v:Value) (w:World),Q (.panic c) (a.put d v) w→Q (.panic c) a w) :
  (Code.region 9 #[⟨some 28,.fieldAddr 62 (.tmp 15) 1,0,"measure.go:163",#[],none⟩,⟨some 29,.load 3 (.tmp 28),3,"measure.go:163",#[⟨0,.data⟩],none⟩,⟨some 30,.move (.tmp 12),3,"measure.go:163",#[],none⟩,⟨some 31,.binOp BinOp.eql 3 (.tmp 29) (.tmp 30) 3,4,"measure.go:163",#[⟨1,.data⟩,⟨2,.data⟩],none⟩,⟨some 32,.move (.tmp 31),4,"measure.go:163",#[⟨3,.data⟩],none⟩,⟨some 33,.load 62 (.tmp 15),62,"measure.go:163",#[⟨4,.guard⟩],some (4,true)⟩,⟨some 34,.move (.tmp 1),9,"measure.go:163",#[⟨4,.guard⟩],some (4,true)⟩,⟨some 35,.move (.tmp 2),9,"measure.go:163",#[⟨4,.guard⟩],some (4,true)⟩,⟨some 36,.move (.tmp 3),3,"measure.go:163",#[⟨4,.guard⟩],some (4,true)⟩,⟨some 37,.move (.tmp 4),3,"measure.go:163",#[⟨4,.guard⟩],some (4,true)⟩,{ dst:=some 38,op:=Op.call { callee:=Callee.value (Operand.func 50),args:=#[Operand.tmp 33,Operand.tmp 34,Operand.tmp 35,Operand.tmp 36,Operand.tmp 37],argTypes:=#[62,9,9,3,3] },type:=4,pos:= "measure.go:163",after:=#[⟨5,.data⟩,⟨6,.data⟩,⟨7,.data⟩,⟨8,.data⟩,⟨9,.data⟩,⟨4,.chain⟩,⟨4,.guard⟩],guard:=some (4,true) },⟨some 39,.pick (.tmp 32) (.tmp 38) (.const (Value.bool false)),4,"measure.go:163",#[⟨4,.data⟩,⟨10,.data⟩],none⟩,⟨some 40,.move (.tmp 39),4,"measure.go:163",#[⟨11,.data⟩,⟨10,.chain⟩],none⟩,⟨some 41,.move (.tmp 13),3,"measure.go:163",#[⟨12,.guard⟩],some (12,true)⟩,⟨some 42,.binOp BinOp.lss 3 (.tmp 41) (.const (Value.int IntKind.i64 0)) 3,4,"measure.go:163",#[⟨13,.data⟩,⟨12,.guard⟩],some (12,true)⟩,⟨some 43,.move (.tmp 42),4,"measure.go:163",#[⟨14,.data⟩,⟨12,.chain⟩,⟨12,.guard⟩],some (12,true)⟩,⟨some 44,.load 62 (.tmp 15),62,"measure.go:163",#[⟨15,.guard⟩],some (15,false)⟩,⟨some 45,.move (.tmp 0),24,"measure.go:163",#[⟨15,.guard⟩],some (15,false)⟩,⟨some 46,.move (.tmp 13),3,"measure.go:163",#[⟨15,.guard⟩],some (15,false)⟩,⟨some 47,.indexAddr 24 (.tmp 45) (.tmp 46),0,"measure.go:163",#[⟨17,.data⟩,⟨18,.data⟩,⟨15,.guard⟩],some (15,false)⟩,⟨some 48,.load 62 (.tmp 47),62,"measure.go:163",#[⟨19,.data⟩,⟨15,.guard⟩],some (15,false)⟩,{ dst:=some 49,op:=Op.call { callee:=Callee.value (Operand.func 51),args:=#[Operand.tmp 44,Operand.tmp 48],argTypes:=#[62,62] },type:=4,pos:= "measure.go:163",after:=#[⟨16,.data⟩,⟨20,.data⟩,⟨15,.chain⟩,⟨15,.guard⟩],guard:=some (15,false) },⟨some 50,.pick (.tmp 43) (.const (Value.bool true)) (.tmp 49),4,"measure.go:163",#[⟨15,.data⟩,⟨21,.data⟩,⟨12,.guard⟩],some (12,true)⟩,⟨some 51,.pick (.tmp 40) (.tmp 50) (.const (Value.bool false)),4,"measure.go:163",#[⟨12,.data⟩,⟨22,.data⟩],none⟩] true).wp Tryz.prog Q { tmps:=#[s0,.string xc,.string xo,.int .i64 xn,.int .i64 xd,s5,s6,s7,s8,s9,s10,s11,.int .i64 kd,.int .i64 bv,s14,.pointer (some ⟨gx,0,none⟩),s16,s17,s18,s19,s20,s21,s22,s23,s24,s25,s26,s27,s28,s29,s30,s31,s32,s33,s34,s35,s36,s37,s38,s39,s40,s41,s42,s43,s44,s45,s46,s47,s48,s49,s50,s51,s52,s53,s54,s55,s56,s57,s58,s59,s60,s61,s62,s63,s64,s65,s66,s67,s68],defers:=ds } W1:=by
 have hk00:=Lib.hid (Below.refl W1.heap.size W1)
 have hk0:Hid (RowKit.Below W1.heap.size W1 W1.drew):=(Below.refl W1.heap.size W1).drew
 have HQ:=Lib.hid hQ
 clear hQ
 have HS1:Hid (∀ wx,RowKit.Below W1.heap.size W1 wx→(wx.cell? ⟨gx,0,none⟩=some (.int .i64 y.m.id)∧wx.cell? ⟨gx,1,none⟩=some (.int .i64 y.m.kind)∧wx.cell? ⟨gx,2,none⟩=some (.string y.m.pre)∧wx.cell? ⟨gx,3,none⟩=some (.slice y.A y.n y.c)∧wx.cell? ⟨gx,4,none⟩=some (.int .i64 y.m.co)∧wx.cell? ⟨gx,5,none⟩=some (.int .i64 y.m.fr)∧wx.cell? ⟨gx,6,none⟩=some (.int .i64 y.m.til)∧wx.cell? ⟨gx,7,none⟩=some (.int .i64 y.m.reg)∧wx.cell? ⟨gx,8,none⟩=some (.int .i64 y.m.du.rate)∧wx.cell? ⟨gx,9,none⟩=some (.int .i64 y.m.du.am)∧wx.cell? ⟨gx,10,none⟩=some (.int .i64 y.m.du.per)∧wx.cell? ⟨gx,11,none⟩=some (.bool y.m.du.hm)∧wx.cell? ⟨gx,12,none⟩=some (.int .i64 y.m.du.most)∧wx.cell? ⟨gx,13,none⟩=some (.bool y.m.du.hl)∧wx.cell? ⟨gx,14,none⟩=some (.int .i64 y.m.du.least))):=fun wx hb=>by
  have hk:=HBX.out.keep hb
  exact⟨hk.cell 0,hk.cell 1,hk.cell 2,hk.cell 3,hk.cell 4,hk.cell 5,hk.cell 6,hk.cell 7,hk.cell 8,hk.cell 9,hk.cell 10,hk.cell 11,hk.cell 12,hk.cell 13,hk.cell 14⟩
 refine wp_region_held_drew (S:=fun wx=>wx.cell? ⟨gx,0,none⟩=some (.int .i64 y.m.id)∧wx.cell? ⟨gx,1,none⟩=some (.int .i64 y.m.kind)∧wx.cell? ⟨gx,2,none⟩=some (.string y.m.pre)∧wx.cell? ⟨gx,3,none⟩=some (.slice y.A y.n y.c)∧wx.cell? ⟨gx,4,none⟩=some (.int .i64 y.m.co)∧wx.cell? ⟨gx,5,none⟩=some (.int .i64 y.m.fr)∧wx.cell? ⟨gx,6,none⟩=some (.int .i64 y.m.til)∧wx.cell? ⟨gx,7,none⟩=some (.int .i64 y.m.reg)∧wx.cell? ⟨gx,8,none⟩=some (.int .i64 y.m.du.rate)∧wx.cell? ⟨gx,9,none⟩=some (.int .i64 y.m.du.am)∧wx.cell? ⟨gx,10,none⟩=some (.int .i64 y.m.du.per)∧wx.cell? ⟨gx,11,none⟩=some (.bool y.m.du.hm)∧wx.cell? ⟨gx,12,none⟩=some (.int .i64 y.m.du.most)∧wx.cell? ⟨gx,13,none⟩=some (.bool y.m.du.hl)∧wx.cell? ⟨gx,14,none⟩=some (.int .i64 y.m.du.least)) (by kernel_rfl) ?_ (fun hHeld=>?_)
 ·(try dsimp only);exact HS1.out _ hk0.out
 refine takeT (v:=?_) 0 ⟨some 28,.fieldAddr 62 (.tmp 15) 1,0,"measure.go:163",#[],none⟩ hQp rfl (by kernel_rfl) (by rfl) ?_ (by assumption) ?_
 rotate_left 1
 ·(intro w hSw;(try dsimp only at hSw);go_simp;all_goals with_reducible rfl)
 try simp only [Act.put,List.setIfInBounds_toArray,List.set_cons_zero,List.set_cons_succ]
 refine takeT (v:=?_) 1 ⟨some 29,.load 3 (.tmp 28),3,"measure.go:163",#[⟨0,.data⟩],none⟩ hQp rfl (by kernel_rfl) (by rfl) ?_ (by assumption) ?_
 rotate_left 1
 ·(intro w hSw;(try dsimp only at hSw);go_simp;all_goals with_reducible rfl)
 try simp only [Act.put,List.setIfInBounds_toArray,List.set_cons_zero,List.set_cons_succ]
 refine takeT (v:=?_) 2 ⟨some 30,.move (.tmp 12),3,"measure.go:163",#[],none⟩ hQp rfl (by kernel_rfl) (by rfl) ?_ (by assumption) ?_
 rotate_left 1
 ·(intro w hSw;(try dsimp only at hSw);go_simp;all_goals with_reducible rfl)
 try simp only [Act.put,List.setIfInBounds_toArray,List.set_cons_zero,List.set_cons_succ]
 refine takeT (v:=?_) 3 ⟨some 31,.binOp BinOp.eql 3 (.tmp 29) (.tmp 30) 3,4,"measure.go:163",#[⟨1,.data⟩,⟨2,.data⟩],none⟩ hQp rfl (by kernel_rfl) (by rfl) ?_ (by assumption) ?_
 rotate_left 1
 ·(intro w hSw;(try dsimp only at hSw);go_simp;all_goals with_reducible rfl)
 try simp only [Act.put,List.setIfInBounds_toArray,List.set_cons_zero,List.set_cons_succ]
 refine takeT (v:=?_) 4 ⟨some 32,.move (.tmp 31),4,"measure.go:163",#[⟨3,.data⟩],none⟩ hQp rfl (by kernel_rfl) (by rfl) ?_ (by assumption) ?_
 rotate_left 1
 ·(intro w hSw;(try dsimp only at hSw);go_simp;all_goals with_reducible rfl)
 try simp only [Act.put,List.setIfInBounds_toArray,List.set_cons_zero,List.set_cons_succ]
 refine takeT (v:=?_) 5 ⟨some 33,.load 62 (.tmp 15),62,"measure.go:163",#[⟨4,.guard⟩],some (4,true)⟩ hQp rfl (by kernel_rfl) (by rfl) ?_ (by assumption) ?_
 rotate_left 1
 ·(intro w hSw;(try dsimp only at hSw);go_simp;all_goals with_reducible rfl)
 try simp only [Act.put,List.setIfInBounds_toArray,List.set_cons_zero,List.set_cons_succ]
 refine takeT (v:=?_) 6 ⟨some 34,.move (.tmp 1),9,"measure.go:163",#[⟨4,.guard⟩],some (4,true)⟩ hQp rfl (by kernel_rfl) (by rfl) ?_ (by assumption) ?_
 rotate_left 1
 ·(intro w hSw;(try dsimp only at hSw);go_simp;all_goals with_reducible rfl)
 try simp only [Act.put,List.setIfInBounds_toArray,List.set_cons_zero,List.set_cons_succ]
 refine takeT (v:=?_) 7 ⟨some 35,.move (.tmp 2),9,"measure.go:163",#[⟨4,.guard⟩],some (4,true)⟩ hQp rfl (by kernel_rfl) (by rfl) ?_ (by assumption) ?_
 rotate_left 1
 ·(intro w hSw;(try dsimp only at hSw);go_simp;all_goals with_reducible rfl)
 try simp only [Act.put,List.setIfInBounds_toArray,List.set_cons_zero,List.set_cons_succ]
 refine takeT (v:=?_) 8 ⟨some 36,.move (.tmp 3),3,"measure.go:163",#[⟨4,.guard⟩],some (4,true)⟩ hQp rfl (by kernel_rfl) (by rfl) ?_ (by assumption) ?_
 rotate_left 1
 ·(intro w hSw;(try dsimp only at hSw);go_simp;all_goals with_reducible rfl)
 try simp only [Act.put,List.setIfInBounds_toArray,List.set_cons_zero,List.set_cons_succ]
 refine takeT (v:=?_) 9 ⟨some 37,.move (.tmp 4),3,"measure.go:163",#[⟨4,.guard⟩],some (4,true)⟩ hQp rfl (by kernel_rfl) (by rfl) ?_ (by assumption) ?_
 rotate_left 1
 ·(intro w hSw;(try dsimp only at hSw);go_simp;all_goals with_reducible rfl)
 try simp only [Act.put,List.setIfInBounds_toArray,List.set_cons_zero,List.set_cons_succ]
 refine wpAnyH_ready (rs:=[10]) (by kernel_rfl) (by simp) ?_
 refine AllReadyH.cons (o:={ dst:=some 38,op:=Op.call { callee:=Callee.value (Operand.func 50),args:=#[Operand.tmp 33,Operand.tmp 34,Operand.tmp 35,Operand.tmp 36,Operand.tmp 37],argTypes:=#[62,9,9,3,3] },type:=4,pos:= "measure.go:163",after:=#[⟨5,.data⟩,⟨6,.data⟩,⟨7,.data⟩,⟨8,.data⟩,⟨9,.data⟩,⟨4,.chain⟩,⟨4,.guard⟩],guard:=some (4,true) }) rfl (fun K hK=>?_) AllReadyH.nil
 go_simp
 with_reducible (refine (HCV1.out _ hk0.out).mono ?_)
 rintro e wz ⟨rfl,hbz⟩
 have hkc:=Lib.hid (hk0.out.trans (hbz.mono hk0.out.size))
 go_wp2_with fail
 refine hK.out _ _ (by (try dsimp only);exact HS1.out _ hkc.out) (fun hHeld=>?_)
 clear hK K
 try simp only [Act.put,List.setIfInBounds_toArray,List.set_cons_zero,List.set_cons_succ]
 refine takeT (v:=?_) 11 ⟨some 39,.pick (.tmp 32) (.tmp 38) (.const (Value.bool false)),4,"measure.go:163",#[⟨4,.data⟩,⟨10,.data⟩],none⟩ hQp rfl (by kernel_rfl) (by rfl) ?_ (by assumption) ?_
 rotate_left 1
 ·(intro w hSw;(try dsimp only at hSw);go_simp;all_goals with_reducible rfl)
 try simp only [Act.put,List.setIfInBounds_toArray,List.set_cons_zero,List.set_cons_succ]
 refine takeT (v:=?_) 12 ⟨some 40,.move (.tmp 39),4,"measure.go:163",#[⟨11,.data⟩,⟨10,.chain⟩],none⟩ hQp rfl (by kernel_rfl) (by rfl) ?_ (by assumption) ?_
 rotate_left 1
 ·(intro w hSw;(try dsimp only at hSw);go_simp;all_goals with_reducible rfl)
 try simp only [Act.put,List.setIfInBounds_toArray,List.set_cons_zero,List.set_cons_succ]
 refine takeT (v:=?_) 13 ⟨some 41,.move (.tmp 13),3,"measure.go:163",#[⟨12,.guard⟩],some (12,true)⟩ hQp rfl (by kernel_rfl) (by rfl) ?_ (by assumption) ?_
 rotate_left 1
 ·(intro w hSw;(try dsimp only at hSw);go_simp;all_goals with_reducible rfl)
 try simp only [Act.put,List.setIfInBounds_toArray,List.set_cons_zero,List.set_cons_succ]
 refine takeT (v:=?_) 14 ⟨some 42,.binOp BinOp.lss 3 (.tmp 41) (.const (Value.int IntKind.i64 0)) 3,4,"measure.go:163",#[⟨13,.data⟩,⟨12,.guard⟩],some (12,true)⟩ hQp rfl (by kernel_rfl) (by rfl) ?_ (by assumption) ?_
 rotate_left 1
 ·(intro w hSw;(try dsimp only at hSw);go_simp;all_goals with_reducible rfl)
 try simp only [Act.put,List.setIfInBounds_toArray,List.set_cons_zero,List.set_cons_succ]
 refine takeT (v:=?_) 15 ⟨some 43,.move (.tmp 42),4,"measure.go:163",#[⟨14,.data⟩,⟨12,.chain⟩,⟨12,.guard⟩],some (12,true)⟩ hQp rfl (by kernel_rfl) (by rfl) ?_ (by assumption) ?_
 rotate_left 1
 ·(intro w hSw;(try dsimp only at hSw);go_simp;all_goals with_reducible rfl)
 try simp only [Act.put,List.setIfInBounds_toArray,List.set_cons_zero,List.set_cons_succ]
 refine takeF 16 ⟨some 44,.load 62 (.tmp 15),62,"measure.go:163",#[⟨15,.guard⟩],some (15,false)⟩ hQp rfl (by kernel_rfl) (by rfl) (by assumption) ?_
 try simp only [Act.put,List.setIfInBounds_toArray,List.set_cons_zero,List.set_cons_succ]
 refine takeF 17 ⟨some 45,.move (.tmp 0),24,"measure.go:163",#[⟨15,.guard⟩],some (15,false)⟩ hQp rfl (by kernel_rfl) (by rfl) (by assumption) ?_
 try simp only [Act.put,List.setIfInBounds_toArray,List.set_cons_zero,List.set_cons_succ]
 refine takeF 18 ⟨some 46,.move (.tmp 13),3,"measure.go:163",#[⟨15,.guard⟩],some (15,false)⟩ hQp rfl (by kernel_rfl) (by rfl) (by assumption) ?_
 try simp only [Act.put,List.setIfInBounds_toArray,List.set_cons_zero,List.set_cons_succ]
 refine takeF 19 ⟨some 47,.indexAddr 24 (.tmp 45) (.tmp 46),0,"measure.go:163",#[⟨17,.data⟩,⟨18,.data⟩,⟨15,.guard⟩],some (15,false)⟩ hQp rfl (by kernel_rfl) (by rfl) (by assumption) ?_
 try simp only [Act.put,List.setIfInBounds_toArray,List.set_cons_zero,List.set_cons_succ]
 refine takeF 20 ⟨some 48,.load 62 (.tmp 47),62,"measure.go:163",#[⟨19,.data⟩,⟨15,.guard⟩],some (15,false)⟩ hQp rfl (by kernel_rfl) (by rfl) (by assumption) ?_
 try simp only [Act.put,List.setIfInBounds_toArray,List.set_cons_zero,List.set_cons_succ]
 refine takeF 21 { dst:=some 49,op:=Op.call { callee:=Callee.value (Operand.func 51),args:=#[Operand.tmp 44,Operand.tmp 48],argTypes:=#[62,62] },type:=4,pos:= "measure.go:163",after:=#[⟨16,.data⟩,⟨20,.data⟩,⟨15,.chain⟩,⟨15,.guard⟩],guard:=some (15,false) } hQp rfl (by kernel_rfl) (by rfl) (by assumption) ?_
 try simp only [Act.put,List.setIfInBounds_toArray,List.set_cons_zero,List.set_cons_succ]
 refine takeT (v:=?_) 22 ⟨some 50,.pick (.tmp 43) (.const (Value.bool true)) (.tmp 49),4,"measure.go:163",#[⟨15,.data⟩,⟨21,.data⟩,⟨12,.guard⟩],some (12,true)⟩ hQp rfl (by kernel_rfl) (by rfl) ?_ (by assumption) ?_
 rotate_left 1
 ·(intro w hSw;(try dsimp only at hSw);go_simp;all_goals with_reducible rfl)
 try simp only [Act.put,List.setIfInBounds_toArray,List.set_cons_zero,List.set_cons_succ]
 refine takeT (v:=?_) 23 ⟨some 51,.pick (.tmp 40) (.tmp 50) (.const (Value.bool false)),4,"measure.go:163",#[⟨12,.data⟩,⟨22,.data⟩],none⟩ hQp rfl (by kernel_rfl) (by rfl) ?_ (by assumption) ?_
 rotate_left 1
 ·(intro w hSw;(try dsimp only at hSw);go_simp;all_goals with_reducible rfl)
 try simp only [Act.put,List.setIfInBounds_toArray,List.set_cons_zero,List.set_cons_succ]
 refine wpAnyH_done (by kernel_rfl) ?_ _
 exact HQ.out _ _ _ _ _ _ _ _ _ _ _ _ _ _ _ _ _ _ _ _ _ _ _ _ hkc.out
set_option maxRecDepth 100000 in
set_option maxHeartbeats 8000000 in
theorem reg9D {Q:Exit→Act→World→Prop} {s5 s6 s7 s8 s9 s10 s11 s14 s16 s17 s18 s19 s20 s21 s22 s23 s24 s25 s26 s27 s28 s29 s30 s31 s32 s33 s34 s35 s36 s37 s38 s39 s40 s41 s42 s43 s44 s45 s46 s47 s48 s49 s50 s51 s52 s53 s54 s55 s56 s57 s58 s59 s60 s61 s62 s63 s64 s65 s66 s67 s68:Value} {ds:List Deferred} {W1:World} {gx:Nat} {kd:Int} {y:MsA} {xc xo:ByteArray} {xn xd:Int} {z:MsA} {pv:Bool} {b1 o1 n c q:Nat} (d1:(y.m.kind == kd)=true) (HCV1:Hid (∀ wx,RowKit.Below W1.heap.size W1 wx→Calls Tryz.prog 50 #[.agg #[.int .i64 y.m.id,.int .i64 y.m.kind,.string y.m.pre,.slice y.A y.n y.c,.int .i64 y.m.co,.int .i64 y.m.fr,.int .i64 y.m.til,.int .i64 y.m.reg,.int .i64 y.m.du.rate,.int .i64 y.m.du.am,.int .i64 y.m.du.per,.bool y.m.du.hm,.int .i64 y.m.du.most,.bool y.m.du.hl,.int .i64 y.m.du.least],.string xc,.string xo,.int .i64 xn,.int .i64 xd] wx fun e w'=>e=.returned (.bool true)∧RowKit.Below wx.heap.size wx w')) (HPC1:Hid (∀ wx,Calls Tryz.prog 51 #[.agg #[.int .i64 y.m.id,.int .i64 y.m.kind,.string y.m.pre,.slice y.A y.n y.c,.int .i64 y.m.co,.int .i64 y.m.fr,.int .i64 y.m.til,.int .i64 y.m.reg,.int .i64 y.m.du.rate,.int .i64 y.m.du.am,.int .i64 y.m.du.per,.bool y.m.du.hm,.int .i64 y.m.du.most,.bool y.m.du.hl,.int .i64 y.m.du.least],.agg #[.int .i64 z.m.id,.int .i64 z.m.kind,.string z.m.pre,.slice z.A z.n z.c,.int .i64 z.m.co,.int .i64 z.m.fr,.int .i64 z.m.til,.int .i64 z.m.reg,.int .i64 z.m.du.rate,.int .i64 z.m.du.am,.int .i64 z.m.du.per,.bool z.m.du.hm,.int .i64 z.m.du.most,.bool z.m.du.hl,.int .i64 z.m.du.least]] wx fun e w'=>e=.returned (.bool pv)∧RowKit.Below wx.heap.size wx w')) (hqq:(q:Int)<(n:Int)) (hqz:(0:Int)≤(q:Int)) (lt1:b1<W1.heap.size) (d2:decide ((q:Int)<0)=false) (z0:W1.cell? ⟨b1,o1+q*15,none⟩=some (.int .i64 z.m.id)) (z1:W1.cell? ⟨b1,o1+q*15+1,none⟩=some (.int .i64 z.m.kind)) (z2:W1.cell? ⟨b1,o1+q*15+2,none⟩=some (.string z.m.pre)) (z3:W1.cell? ⟨b1,o1+q*15+3,none⟩=some (.slice z.A z.n z.c)) (z4:W1.cell? ⟨b1,o1+q*15+4,none⟩=some (.int .i64 z.m.co)) (z5:W1.cell? ⟨b1,o1+q*15+5,none⟩=some (.int .i64 z.m.fr)) (z6:W1.cell? ⟨b1,o1+q*15+6,none⟩=some (.int .i64 z.m.til)) (z7:W1.cell? ⟨b1,o1+q*15+7,none⟩=some (.int .i64 z.m.reg)) (z8:W1.cell? ⟨b1,o1+q*15+8,none⟩=some (.int .i64 z.m.du.rate)) (z9:W1.cell? ⟨b1,o1+q*15+9,none⟩=some (.int .i64 z.m.du.am)) (z10:W1.cell? ⟨b1,o1+q*15+10,none⟩=some (.int .i64 z.m.du.per)) (z11:W1.cell? ⟨b1,o1+q*15+11,none⟩=some (.bool z.m.du.hm)) (z12:W1.cell? ⟨b1,o1+q*15+12,none⟩=some (.int .i64 z.m.du.most)) (z13:W1.cell? ⟨b1,o1+q*15+13,none⟩=some (.bool z.m.du.hl)) (z14:W1.cell? ⟨b1,o1+q*15+14,none⟩=some (.int .i64 z.m.du.least))  (HBX:Hid (Bl W1 gx 62 #[.int .i64 y.m.id,.int .i64 y.m.kind,.string y.m.pre,.slice y.A y.n y.c,.int .i64 y.m.co,.int .i64 y.m.fr,.int .i64 y.m.til,.int .i64 y.m.reg,.int .i64 y.m.du.rate,.int .i64 y.m.du.am,.int .i64 y.m.du.per,.bool y.m.du.hm,.int .i64 y.m.du.most,.bool y.m.du.hl,.int .i64 y.m.du.least]))
  (hQ:∀ (u28 u29 u30 u31 u32 u33 u34 u35 u36 u37 u38 u39 u40 u41 u42 u43 u44 u45 u46 u47 u48 u49 u50:Value) (w':World),RowKit.Below W1.heap.size W1 w'→Q .normal { tmps:=#[.slice (some ⟨b1,o1,none⟩) n c,.string xc,.string xo,.int .i64 xn,.int .i64 xd,s5,s6,s7,s8,s9,s10,s11,.int .i64 kd,.int .i64 (q:Int),s14,.pointer (some ⟨gx,0,none⟩),s16,s17,s18,s19,s20,s21,s22,s23,s24,s25,s26,s27,u28,u29,u30,u31,u32,u33,u34,u35,u36,u37,u38,u39,u40,u41,u42,u43,u44,u45,u46,u47,u48,u49,u50,.bool pv,s52,s53,s54,s55,s56,s57,s58,s59,s60,s61,s62,s63,s64,s65,s66,s67,s68],defers:=ds } w')
  (hQp:∀ (c:_) (a:Act) (d:Option Tmp) (v:Value) (w:World),Q (.panic c) (a.put d v) w→Q (.panic c) a w) :
  (Code.region 9 #[⟨some 28,.fieldAddr 62 (.tmp 15) 1,0,"measure.go:163",#[],none⟩,⟨some 29,.load 3 (.tmp 28),3,"measure.go:163",#[⟨0,.data⟩],none⟩,⟨some 30,.move (.tmp 12),3,"measure.go:163",#[],none⟩,⟨some 31,.binOp BinOp.eql 3 (.tmp 29) (.tmp 30) 3,4,"measure.go:163",#[⟨1,.data⟩,⟨2,.data⟩],none⟩,⟨some 32,.move (.tmp 31),4,"measure.go:163",#[⟨3,.data⟩],none⟩,⟨some 33,.load 62 (.tmp 15),62,"measure.go:163",#[⟨4,.guard⟩],some (4,true)⟩,⟨some 34,.move (.tmp 1),9,"measure.go:163",#[⟨4,.guard⟩],some (4,true)⟩,⟨some 35,.move (.tmp 2),9,"measure.go:163",#[⟨4,.guard⟩],some (4,true)⟩,⟨some 36,.move (.tmp 3),3,"measure.go:163",#[⟨4,.guard⟩],some (4,true)⟩,⟨some 37,.move (.tmp 4),3,"measure.go:163",#[⟨4,.guard⟩],some (4,true)⟩,{ dst:=some 38,op:=Op.call { callee:=Callee.value (Operand.func 50),args:=#[Operand.tmp 33,Operand.tmp 34,Operand.tmp 35,Operand.tmp 36,Operand.tmp 37],argTypes:=#[62,9,9,3,3] },type:=4,pos:= "measure.go:163",after:=#[⟨5,.data⟩,⟨6,.data⟩,⟨7,.data⟩,⟨8,.data⟩,⟨9,.data⟩,⟨4,.chain⟩,⟨4,.guard⟩],guard:=some (4,true) },⟨some 39,.pick (.tmp 32) (.tmp 38) (.const (Value.bool false)),4,"measure.go:163",#[⟨4,.data⟩,⟨10,.data⟩],none⟩,⟨some 40,.move (.tmp 39),4,"measure.go:163",#[⟨11,.data⟩,⟨10,.chain⟩],none⟩,⟨some 41,.move (.tmp 13),3,"measure.go:163",#[⟨12,.guard⟩],some (12,true)⟩,⟨some 42,.binOp BinOp.lss 3 (.tmp 41) (.const (Value.int IntKind.i64 0)) 3,4,"measure.go:163",#[⟨13,.data⟩,⟨12,.guard⟩],some (12,true)⟩,⟨some 43,.move (.tmp 42),4,"measure.go:163",#[⟨14,.data⟩,⟨12,.chain⟩,⟨12,.guard⟩],some (12,true)⟩,⟨some 44,.load 62 (.tmp 15),62,"measure.go:163",#[⟨15,.guard⟩],some (15,false)⟩,⟨some 45,.move (.tmp 0),24,"measure.go:163",#[⟨15,.guard⟩],some (15,false)⟩,⟨some 46,.move (.tmp 13),3,"measure.go:163",#[⟨15,.guard⟩],some (15,false)⟩,⟨some 47,.indexAddr 24 (.tmp 45) (.tmp 46),0,"measure.go:163",#[⟨17,.data⟩,⟨18,.data⟩,⟨15,.guard⟩],some (15,false)⟩,⟨some 48,.load 62 (.tmp 47),62,"measure.go:163",#[⟨19,.data⟩,⟨15,.guard⟩],some (15,false)⟩,{ dst:=some 49,op:=Op.call { callee:=Callee.value (Operand.func 51),args:=#[Operand.tmp 44,Operand.tmp 48],argTypes:=#[62,62] },type:=4,pos:= "measure.go:163",after:=#[⟨16,.data⟩,⟨20,.data⟩,⟨15,.chain⟩,⟨15,.guard⟩],guard:=some (15,false) },⟨some 50,.pick (.tmp 43) (.const (Value.bool true)) (.tmp 49),4,"measure.go:163",#[⟨15,.data⟩,⟨21,.data⟩,⟨12,.guard⟩],some (12,true)⟩,⟨some 51,.pick (.tmp 40) (.tmp 50) (.const (Value.bool false)),4,"measure.go:163",#[⟨12,.data⟩,⟨22,.data⟩],none⟩] true).wp Tryz.prog Q { tmps:=#[.slice (some ⟨b1,o1,none⟩) n c,.string xc,.string xo,.int .i64 xn,.int .i64 xd,s5,s6,s7,s8,s9,s10,s11,.int .i64 kd,.int .i64 (q:Int),s14,.pointer (some ⟨gx,0,none⟩),s16,s17,s18,s19,s20,s21,s22,s23,s24,s25,s26,s27,s28,s29,s30,s31,s32,s33,s34,s35,s36,s37,s38,s39,s40,s41,s42,s43,s44,s45,s46,s47,s48,s49,s50,s51,s52,s53,s54,s55,s56,s57,s58,s59,s60,s61,s62,s63,s64,s65,s66,s67,s68],defers:=ds } W1:=by
 have hk00:=Lib.hid (Below.refl W1.heap.size W1)
 have hk0:Hid (RowKit.Below W1.heap.size W1 W1.drew):=(Below.refl W1.heap.size W1).drew
 have HQ:=Lib.hid hQ
 clear hQ
 have HS1:Hid (∀ wx,RowKit.Below W1.heap.size W1 wx→(wx.cell? ⟨gx,0,none⟩=some (.int .i64 y.m.id)∧wx.cell? ⟨gx,1,none⟩=some (.int .i64 y.m.kind)∧wx.cell? ⟨gx,2,none⟩=some (.string y.m.pre)∧wx.cell? ⟨gx,3,none⟩=some (.slice y.A y.n y.c)∧wx.cell? ⟨gx,4,none⟩=some (.int .i64 y.m.co)∧wx.cell? ⟨gx,5,none⟩=some (.int .i64 y.m.fr)∧wx.cell? ⟨gx,6,none⟩=some (.int .i64 y.m.til)∧wx.cell? ⟨gx,7,none⟩=some (.int .i64 y.m.reg)∧wx.cell? ⟨gx,8,none⟩=some (.int .i64 y.m.du.rate)∧wx.cell? ⟨gx,9,none⟩=some (.int .i64 y.m.du.am)∧wx.cell? ⟨gx,10,none⟩=some (.int .i64 y.m.du.per)∧wx.cell? ⟨gx,11,none⟩=some (.bool y.m.du.hm)∧wx.cell? ⟨gx,12,none⟩=some (.int .i64 y.m.du.most)∧wx.cell? ⟨gx,13,none⟩=some (.bool y.m.du.hl)∧wx.cell? ⟨gx,14,none⟩=some (.int .i64 y.m.du.least)∧wx.cell? ⟨b1,o1+q*15,none⟩=some (.int .i64 z.m.id)∧wx.cell? ⟨b1,o1+q*15+1,none⟩=some (.int .i64 z.m.kind)∧wx.cell? ⟨b1,o1+q*15+2,none⟩=some (.string z.m.pre)∧wx.cell? ⟨b1,o1+q*15+3,none⟩=some (.slice z.A z.n z.c)∧wx.cell? ⟨b1,o1+q*15+4,none⟩=some (.int .i64 z.m.co)∧wx.cell? ⟨b1,o1+q*15+5,none⟩=some (.int .i64 z.m.fr)∧wx.cell? ⟨b1,o1+q*15+6,none⟩=some (.int .i64 z.m.til)∧wx.cell? ⟨b1,o1+q*15+7,none⟩=some (.int .i64 z.m.reg)∧wx.cell? ⟨b1,o1+q*15+8,none⟩=some (.int .i64 z.m.du.rate)∧wx.cell? ⟨b1,o1+q*15+9,none⟩=some (.int .i64 z.m.du.am)∧wx.cell? ⟨b1,o1+q*15+10,none⟩=some (.int .i64 z.m.du.per)∧wx.cell? ⟨b1,o1+q*15+11,none⟩=some (.bool z.m.du.hm)∧wx.cell? ⟨b1,o1+q*15+12,none⟩=some (.int .i64 z.m.du.most)∧wx.cell? ⟨b1,o1+q*15+13,none⟩=some (.bool z.m.du.hl)∧wx.cell? ⟨b1,o1+q*15+14,none⟩=some (.int .i64 z.m.du.least))):=fun wx hb=>by
  have hk:=HBX.out.keep hb
  exact⟨hk.cell 0,hk.cell 1,hk.cell 2,hk.cell 3,hk.cell 4,hk.cell 5,hk.cell 6,hk.cell 7,hk.cell 8,hk.cell 9,hk.cell 10,hk.cell 11,hk.cell 12,hk.cell 13,hk.cell 14,(hb.cell (p:=⟨b1,o1+q*15,none⟩) lt1).trans z0,(hb.cell (p:=⟨b1,o1+q*15+1,none⟩) lt1).trans z1,(hb.cell (p:=⟨b1,o1+q*15+2,none⟩) lt1).trans z2,(hb.cell (p:=⟨b1,o1+q*15+3,none⟩) lt1).trans z3,(hb.cell (p:=⟨b1,o1+q*15+4,none⟩) lt1).trans z4,(hb.cell (p:=⟨b1,o1+q*15+5,none⟩) lt1).trans z5,(hb.cell (p:=⟨b1,o1+q*15+6,none⟩) lt1).trans z6,(hb.cell (p:=⟨b1,o1+q*15+7,none⟩) lt1).trans z7,(hb.cell (p:=⟨b1,o1+q*15+8,none⟩) lt1).trans z8,(hb.cell (p:=⟨b1,o1+q*15+9,none⟩) lt1).trans z9,(hb.cell (p:=⟨b1,o1+q*15+10,none⟩) lt1).trans z10,(hb.cell (p:=⟨b1,o1+q*15+11,none⟩) lt1).trans z11,(hb.cell (p:=⟨b1,o1+q*15+12,none⟩) lt1).trans z12,(hb.cell (p:=⟨b1,o1+q*15+13,none⟩) lt1).trans z13,(hb.cell (p:=⟨b1,o1+q*15+14,none⟩) lt1).trans z14⟩
 refine wp_region_held_drew (S:=fun wx=>wx.cell? ⟨gx,0,none⟩=some (.int .i64 y.m.id)∧wx.cell? ⟨gx,1,none⟩=some (.int .i64 y.m.kind)∧wx.cell? ⟨gx,2,none⟩=some (.string y.m.pre)∧wx.cell? ⟨gx,3,none⟩=some (.slice y.A y.n y.c)∧wx.cell? ⟨gx,4,none⟩=some (.int .i64 y.m.co)∧wx.cell? ⟨gx,5,none⟩=some (.int .i64 y.m.fr)∧wx.cell? ⟨gx,6,none⟩=some (.int .i64 y.m.til)∧wx.cell? ⟨gx,7,none⟩=some (.int .i64 y.m.reg)∧wx.cell? ⟨gx,8,none⟩=some (.int .i64 y.m.du.rate)∧wx.cell? ⟨gx,9,none⟩=some (.int .i64 y.m.du.am)∧wx.cell? ⟨gx,10,none⟩=some (.int .i64 y.m.du.per)∧wx.cell? ⟨gx,11,none⟩=some (.bool y.m.du.hm)∧wx.cell? ⟨gx,12,none⟩=some (.int .i64 y.m.du.most)∧wx.cell? ⟨gx,13,none⟩=some (.bool y.m.du.hl)∧wx.cell? ⟨gx,14,none⟩=some (.int .i64 y.m.du.least)∧wx.cell? ⟨b1,o1+q*15,none⟩=some (.int .i64 z.m.id)∧wx.cell? ⟨b1,o1+q*15+1,none⟩=some (.int .i64 z.m.kind)∧wx.cell? ⟨b1,o1+q*15+2,none⟩=some (.string z.m.pre)∧wx.cell? ⟨b1,o1+q*15+3,none⟩=some (.slice z.A z.n z.c)∧wx.cell? ⟨b1,o1+q*15+4,none⟩=some (.int .i64 z.m.co)∧wx.cell? ⟨b1,o1+q*15+5,none⟩=some (.int .i64 z.m.fr)∧wx.cell? ⟨b1,o1+q*15+6,none⟩=some (.int .i64 z.m.til)∧wx.cell? ⟨b1,o1+q*15+7,none⟩=some (.int .i64 z.m.reg)∧wx.cell? ⟨b1,o1+q*15+8,none⟩=some (.int .i64 z.m.du.rate)∧wx.cell? ⟨b1,o1+q*15+9,none⟩=some (.int .i64 z.m.du.am)∧wx.cell? ⟨b1,o1+q*15+10,none⟩=some (.int .i64 z.m.du.per)∧wx.cell? ⟨b1,o1+q*15+11,none⟩=some (.bool z.m.du.hm)∧wx.cell? ⟨b1,o1+q*15+12,none⟩=some (.int .i64 z.m.du.most)∧wx.cell? ⟨b1,o1+q*15+13,none⟩=some (.bool z.m.du.hl)∧wx.cell? ⟨b1,o1+q*15+14,none⟩=some (.int .i64 z.m.du.least)) (by kernel_rfl) ?_ (fun hHeld=>?_)
 ·(try dsimp only);exact HS1.out _ hk0.out
 refine takeT (v:=?_) 0 ⟨some 28,.fieldAddr 62 (.tmp 15) 1,0,"measure.go:163",#[],none⟩ hQp rfl (by kernel_rfl) (by rfl) ?_ (by assumption) ?_
 rotate_left 1
 ·(intro w hSw;(try dsimp only at hSw);go_simp;all_goals with_reducible rfl)
 try simp only [Act.put,List.setIfInBounds_toArray,List.set_cons_zero,List.set_cons_succ]
 refine takeT (v:=?_) 1 ⟨some 29,.load 3 (.tmp 28),3,"measure.go:163",#[⟨0,.data⟩],none⟩ hQp rfl (by kernel_rfl) (by rfl) ?_ (by assumption) ?_
 rotate_left 1
 ·(intro w hSw;(try dsimp only at hSw);go_simp;all_goals with_reducible rfl)
 try simp only [Act.put,List.setIfInBounds_toArray,List.set_cons_zero,List.set_cons_succ]
 refine takeT (v:=?_) 2 ⟨some 30,.move (.tmp 12),3,"measure.go:163",#[],none⟩ hQp rfl (by kernel_rfl) (by rfl) ?_ (by assumption) ?_
 rotate_left 1
 ·(intro w hSw;(try dsimp only at hSw);go_simp;all_goals with_reducible rfl)
 try simp only [Act.put,List.setIfInBounds_toArray,List.set_cons_zero,List.set_cons_succ]
 refine takeT (v:=?_) 3 ⟨some 31,.binOp BinOp.eql 3 (.tmp 29) (.tmp 30) 3,4,"measure.go:163",#[⟨1,.data⟩,⟨2,.data⟩],none⟩ hQp rfl (by kernel_rfl) (by rfl) ?_ (by assumption) ?_
 rotate_left 1
 ·(intro w hSw;(try dsimp only at hSw);go_simp;all_goals with_reducible rfl)
 try simp only [Act.put,List.setIfInBounds_toArray,List.set_cons_zero,List.set_cons_succ]
 refine takeT (v:=?_) 4 ⟨some 32,.move (.tmp 31),4,"measure.go:163",#[⟨3,.data⟩],none⟩ hQp rfl (by kernel_rfl) (by rfl) ?_ (by assumption) ?_
 rotate_left 1
 ·(intro w hSw;(try dsimp only at hSw);go_simp;all_goals with_reducible rfl)
 try simp only [Act.put,List.setIfInBounds_toArray,List.set_cons_zero,List.set_cons_succ]
 refine takeT (v:=?_) 5 ⟨some 33,.load 62 (.tmp 15),62,"measure.go:163",#[⟨4,.guard⟩],some (4,true)⟩ hQp rfl (by kernel_rfl) (by rfl) ?_ (by assumption) ?_
 rotate_left 1
 ·(intro w hSw;(try dsimp only at hSw);go_simp;all_goals with_reducible rfl)
 try simp only [Act.put,List.setIfInBounds_toArray,List.set_cons_zero,List.set_cons_succ]
 refine takeT (v:=?_) 6 ⟨some 34,.move (.tmp 1),9,"measure.go:163",#[⟨4,.guard⟩],some (4,true)⟩ hQp rfl (by kernel_rfl) (by rfl) ?_ (by assumption) ?_
 rotate_left 1
 ·(intro w hSw;(try dsimp only at hSw);go_simp;all_goals with_reducible rfl)
 try simp only [Act.put,List.setIfInBounds_toArray,List.set_cons_zero,List.set_cons_succ]
 refine takeT (v:=?_) 7 ⟨some 35,.move (.tmp 2),9,"measure.go:163",#[⟨4,.guard⟩],some (4,true)⟩ hQp rfl (by kernel_rfl) (by rfl) ?_ (by assumption) ?_
 rotate_left 1
 ·(intro w hSw;(try dsimp only at hSw);go_simp;all_goals with_reducible rfl)
 try simp only [Act.put,List.setIfInBounds_toArray,List.set_cons_zero,List.set_cons_succ]
 refine takeT (v:=?_) 8 ⟨some 36,.move (.tmp 3),3,"measure.go:163",#[⟨4,.guard⟩],some (4,true)⟩ hQp rfl (by kernel_rfl) (by rfl) ?_ (by assumption) ?_
 rotate_left 1
 ·(intro w hSw;(try dsimp only at hSw);go_simp;all_goals with_reducible rfl)
 try simp only [Act.put,List.setIfInBounds_toArray,List.set_cons_zero,List.set_cons_succ]
 refine takeT (v:=?_) 9 ⟨some 37,.move (.tmp 4),3,"measure.go:163",#[⟨4,.guard⟩],some (4,true)⟩ hQp rfl (by kernel_rfl) (by rfl) ?_ (by assumption) ?_
 rotate_left 1
 ·(intro w hSw;(try dsimp only at hSw);go_simp;all_goals with_reducible rfl)
 try simp only [Act.put,List.setIfInBounds_toArray,List.set_cons_zero,List.set_cons_succ]
 refine wpAnyH_ready (rs:=[10]) (by kernel_rfl) (by simp) ?_
 refine AllReadyH.cons (o:={ dst:=some 38,op:=Op.call { callee:=Callee.value (Operand.func 50),args:=#[Operand.tmp 33,Operand.tmp 34,Operand.tmp 35,Operand.tmp 36,Operand.tmp 37],argTypes:=#[62,9,9,3,3] },type:=4,pos:= "measure.go:163",after:=#[⟨5,.data⟩,⟨6,.data⟩,⟨7,.data⟩,⟨8,.data⟩,⟨9,.data⟩,⟨4,.chain⟩,⟨4,.guard⟩],guard:=some (4,true) }) rfl (fun K hK=>?_) AllReadyH.nil
 go_simp
 with_reducible (refine (HCV1.out _ hk0.out).mono ?_)
 rintro e wz ⟨rfl,hbz⟩
 have hkc:=Lib.hid (hk0.out.trans (hbz.mono hk0.out.size))
 go_wp2_with fail
 refine hK.out _ _ (by (try dsimp only);exact HS1.out _ hkc.out) (fun hHeld=>?_)
 clear hK K
 try simp only [Act.put,List.setIfInBounds_toArray,List.set_cons_zero,List.set_cons_succ]
 refine takeT (v:=?_) 11 ⟨some 39,.pick (.tmp 32) (.tmp 38) (.const (Value.bool false)),4,"measure.go:163",#[⟨4,.data⟩,⟨10,.data⟩],none⟩ hQp rfl (by kernel_rfl) (by rfl) ?_ (by assumption) ?_
 rotate_left 1
 ·(intro w hSw;(try dsimp only at hSw);go_simp;all_goals with_reducible rfl)
 try simp only [Act.put,List.setIfInBounds_toArray,List.set_cons_zero,List.set_cons_succ]
 refine takeT (v:=?_) 12 ⟨some 40,.move (.tmp 39),4,"measure.go:163",#[⟨11,.data⟩,⟨10,.chain⟩],none⟩ hQp rfl (by kernel_rfl) (by rfl) ?_ (by assumption) ?_
 rotate_left 1
 ·(intro w hSw;(try dsimp only at hSw);go_simp;all_goals with_reducible rfl)
 try simp only [Act.put,List.setIfInBounds_toArray,List.set_cons_zero,List.set_cons_succ]
 refine takeT (v:=?_) 13 ⟨some 41,.move (.tmp 13),3,"measure.go:163",#[⟨12,.guard⟩],some (12,true)⟩ hQp rfl (by kernel_rfl) (by rfl) ?_ (by assumption) ?_
 rotate_left 1
 ·(intro w hSw;(try dsimp only at hSw);go_simp;all_goals with_reducible rfl)
 try simp only [Act.put,List.setIfInBounds_toArray,List.set_cons_zero,List.set_cons_succ]
 refine takeT (v:=?_) 14 ⟨some 42,.binOp BinOp.lss 3 (.tmp 41) (.const (Value.int IntKind.i64 0)) 3,4,"measure.go:163",#[⟨13,.data⟩,⟨12,.guard⟩],some (12,true)⟩ hQp rfl (by kernel_rfl) (by rfl) ?_ (by assumption) ?_
 rotate_left 1
 ·(intro w hSw;(try dsimp only at hSw);go_simp;all_goals with_reducible rfl)
 try simp only [Act.put,List.setIfInBounds_toArray,List.set_cons_zero,List.set_cons_succ]
 refine takeT (v:=?_) 15 ⟨some 43,.move (.tmp 42),4,"measure.go:163",#[⟨14,.data⟩,⟨12,.chain⟩,⟨12,.guard⟩],some (12,true)⟩ hQp rfl (by kernel_rfl) (by rfl) ?_ (by assumption) ?_
 rotate_left 1
 ·(intro w hSw;(try dsimp only at hSw);go_simp;all_goals with_reducible rfl)
 try simp only [Act.put,List.setIfInBounds_toArray,List.set_cons_zero,List.set_cons_succ]
 refine takeT (v:=?_) 16 ⟨some 44,.load 62 (.tmp 15),62,"measure.go:163",#[⟨15,.guard⟩],some (15,false)⟩ hQp rfl (by kernel_rfl) (by rfl) ?_ (by assumption) ?_
 rotate_left 1
 ·(intro w hSw;(try dsimp only at hSw);go_simp;all_goals with_reducible rfl)
 try simp only [Act.put,List.setIfInBounds_toArray,List.set_cons_zero,List.set_cons_succ]
 refine takeT (v:=?_) 17 ⟨some 45,.move (.tmp 0),24,"measure.go:163",#[⟨15,.guard⟩],some (15,false)⟩ hQp rfl (by kernel_rfl) (by rfl) ?_ (by assumption) ?_
 rotate_left 1
 ·(intro w hSw;(try dsimp only at hSw);go_simp;all_goals with_reducible rfl)
 try simp only [Act.put,List.setIfInBounds_toArray,List.set_cons_zero,List.set_cons_succ]
 refine takeT (v:=?_) 18 ⟨some 46,.move (.tmp 13),3,"measure.go:163",#[⟨15,.guard⟩],some (15,false)⟩ hQp rfl (by kernel_rfl) (by rfl) ?_ (by assumption) ?_
 rotate_left 1
 ·(intro w hSw;(try dsimp only at hSw);go_simp;all_goals with_reducible rfl)
 try simp only [Act.put,List.setIfInBounds_toArray,List.set_cons_zero,List.set_cons_succ]
 refine takeT (v:=?_) 19 ⟨some 47,.indexAddr 24 (.tmp 45) (.tmp 46),0,"measure.go:163",#[⟨17,.data⟩,⟨18,.data⟩,⟨15,.guard⟩],some (15,false)⟩ hQp rfl (by kernel_rfl) (by rfl) ?_ (by assumption) ?_
 rotate_left 1
 ·(intro w hSw;(try dsimp only at hSw);go_simp;all_goals with_reducible rfl)
 try simp only [Act.put,List.setIfInBounds_toArray,List.set_cons_zero,List.set_cons_succ]
 refine takeT (v:=?_) 20 ⟨some 48,.load 62 (.tmp 47),62,"measure.go:163",#[⟨19,.data⟩,⟨15,.guard⟩],some (15,false)⟩ hQp rfl (by kernel_rfl) (by rfl) ?_ (by assumption) ?_
 rotate_left 1
 ·(intro w hSw;(try dsimp only at hSw);go_simp;all_goals with_reducible rfl)
 try simp only [Act.put,List.setIfInBounds_toArray,List.set_cons_zero,List.set_cons_succ]
 refine wpAnyH_ready (rs:=[21]) (by kernel_rfl) (by simp) ?_
 refine AllReadyH.cons (o:={ dst:=some 49,op:=Op.call { callee:=Callee.value (Operand.func 51),args:=#[Operand.tmp 44,Operand.tmp 48],argTypes:=#[62,62] },type:=4,pos:= "measure.go:163",after:=#[⟨16,.data⟩,⟨20,.data⟩,⟨15,.chain⟩,⟨15,.guard⟩],guard:=some (15,false) }) rfl (fun K hK=>?_) AllReadyH.nil
 go_simp
 with_reducible (refine (HPC1.out _).mono ?_)
 rintro e wp ⟨rfl,hbp⟩
 have hkp:=Lib.hid (hkc.out.trans (hbp.mono hkc.out.size))
 go_wp2_with fail
 refine hK.out _ _ (by (try dsimp only);exact HS1.out _ hkp.out) (fun hHeld=>?_)
 clear hK K
 try simp only [Act.put,List.setIfInBounds_toArray,List.set_cons_zero,List.set_cons_succ]
 refine takeT (v:=?_) 22 ⟨some 50,.pick (.tmp 43) (.const (Value.bool true)) (.tmp 49),4,"measure.go:163",#[⟨15,.data⟩,⟨21,.data⟩,⟨12,.guard⟩],some (12,true)⟩ hQp rfl (by kernel_rfl) (by rfl) ?_ (by assumption) ?_
 rotate_left 1
 ·(intro w hSw;(try dsimp only at hSw);go_simp;all_goals with_reducible rfl)
 try simp only [Act.put,List.setIfInBounds_toArray,List.set_cons_zero,List.set_cons_succ]
 refine takeT (v:=?_) 23 ⟨some 51,.pick (.tmp 40) (.tmp 50) (.const (Value.bool false)),4,"measure.go:163",#[⟨12,.data⟩,⟨22,.data⟩],none⟩ hQp rfl (by kernel_rfl) (by rfl) ?_ (by assumption) ?_
 rotate_left 1
 ·(intro w hSw;(try dsimp only at hSw);go_simp;all_goals with_reducible rfl)
 try simp only [Act.put,List.setIfInBounds_toArray,List.set_cons_zero,List.set_cons_succ]
 refine wpAnyH_done (by kernel_rfl) ?_ _
 exact HQ.out _ _ _ _ _ _ _ _ _ _ _ _ _ _ _ _ _ _ _ _ _ _ _ _ hkp.out
end Go.Proofs.YtbokkeooahodaaaGreatDoor

/-
  A part of the proof of TopQuotaDayCardSaid: lemmas and contracts of functions that the law calls. No statement of the seat is proved here. Conditions: as each says.
-/
import Derived.Test.YtbokkeooahodaaaGreatDoorQAA
import Derived.Test.YtbokkeooahodaaaGreatDoorQAB
import Derived.StillTailTactics
namespace Go.Proofs.YtbokkeooahodaaaGreatDoor
open Go.RowKit Go.Shelf Go.Lib Go.Sort
set_option linter.unusedVariables false
structure Por where
 index:Int
 share:Int
 rest:Int
instance : Inhabited Por:=⟨⟨0,0,0⟩⟩
def encP (p:Por):List Value:=[.int .i64 p.index,.int .u64 p.share,.int .u64 p.rest]
def cmpP (x y:Por):Int:=if Lib.compareInt y.rest x.rest != 0 then Lib.compareInt y.rest x.rest else Lib.compareInt x.index y.index
set_option maxHeartbeats 1000000 in
theorem cmpU_any (x y:Int) (w:World):Calls Tryz.prog 154 #[.int .u64 x,.int .u64 y] w fun e w'=>e=.returned (.int .i64 (Lib.compareInt x y))∧w=w':=by
 by_cases h1:x<y
 ·have E:=Lib.hid (show Lib.compareInt x y = -1 by simp [Lib.compareInt,h1])
  go_enter Tryz.func154,Tryz.ntmps154
  go_wp2
  go_ret
  exact⟨ret_int' E.out.symm,rfl⟩
 by_cases h2:y<x
 ·have E:=Lib.hid (show Lib.compareInt x y=1 by simp [Lib.compareInt,h1,h2])
  go_enter Tryz.func154,Tryz.ntmps154
  go_wp2
  go_ret
  exact⟨ret_int' E.out.symm,rfl⟩
 ·have E:=Lib.hid (show Lib.compareInt x y=0 by simp [Lib.compareInt,h1,h2])
  go_enter Tryz.func154,Tryz.ntmps154
  go_wp2
  go_ret
  exact⟨ret_int' E.out.symm,rfl⟩
set_option maxHeartbeats 1000000 in
theorem byRest_any (x y:Por) (w:World):Calls Tryz.prog 95 #[.agg #[.int .i64 x.index,.int .u64 x.share,.int .u64 x.rest],.agg #[.int .i64 y.index,.int .u64 y.share,.int .u64 y.rest]] w
  fun e w'=>e=.returned (.int .i64 (cmpP x y))∧∃ os',w'=grow w os':=by
 have H1:=Lib.hid (fun w=>cmpU_any y.rest x.rest w)
 have H2:=Lib.hid (fun w=>Tryz.cmp_Compare_int x.index y.index w)
 have HE:=Lib.hid (show cmpP x y=if Lib.compareInt y.rest x.rest != 0 then Lib.compareInt y.rest x.rest else Lib.compareInt x.index y.index from rfl)
 generalize cmpP x y=r at *
 generalize Lib.compareInt y.rest x.rest=a at *
 generalize Lib.compareInt x.index y.index=b at *
 cases h:(a != 0) with
 | true =>
  go_enter Tryz.func95,Tryz.ntmps95
  go_wp2_with (first | (go_at_call 154;refine (H1.out _).mono ?_;rintro e w' ⟨rfl,rfl⟩) | (go_at_call 31;refine (H2.out _).mono ?_;rintro e w' ⟨rfl,rfl⟩))
  go_ret
  exact⟨ret_int' (by rw [HE.out,h];rfl),_,by rw [alloc_eq_grow,alloc_eq_grow,grow_grow]⟩
 | false =>
  go_enter Tryz.func95,Tryz.ntmps95
  go_wp2_with (first | (go_at_call 154;refine (H1.out _).mono ?_;rintro e w' ⟨rfl,rfl⟩) | (go_at_call 31;refine (H2.out _).mono ?_;rintro e w' ⟨rfl,rfl⟩))
  go_ret
  exact⟨ret_int' (by rw [HE.out,h];rfl),_,by rw [alloc_eq_grow,alloc_eq_grow,grow_grow]⟩
set_option maxHeartbeats 1000000 in
theorem rankCmp_any (x y:Por) (bk:Nat) (W:World) (hc:W.cell? ⟨bk,0,none⟩=some (.func (.func 95) #[] #[])) (hb:bk<W.heap.size) :
  Calls Tryz.prog 156 #[.agg #[.int .i64 x.index,.int .u64 x.share,.int .u64 x.rest],.agg #[.int .i64 y.index,.int .u64 y.share,.int .u64 y.rest],.pointer (some ⟨bk,0,none⟩)] W
  fun e w'=>e=.returned (.int .i64 (cmpP x y))∧∃ q os',w'=grow (W.drewN q) os':=by
 have H1:=Lib.hid (fun w=>byRest_any x y w)
 have hc':∀ o1 o2,((W.alloc o1).alloc o2).cell? ⟨bk,0,none⟩=some (.func (.func 95) #[] #[]):=fun o1 o2=>by
  rw [World.cell?_alloc_lt _ _ _ (by simp;omega),World.cell?_alloc_lt _ _ _ hb,hc]
 generalize cmpP x y=r at *
 go_enter Tryz.func156,Tryz.ntmps156
 go_wp2_with (go_at_call 95;refine (H1.out _).mono ?_;rintro e w' ⟨rfl,os,rfl⟩)
 go_ret
 exact⟨rfl,0,_,by rw [alloc_eq_grow,alloc_eq_grow,grow_grow,grow_grow];rfl⟩
theorem rankLays (blk off size:Nat) (w:World) (T:TypeId) (hblk:blk<w.heap.size) :
  CmpLays Tryz.prog 156 #[.pointer (some ⟨w.heap.size,0,none⟩)] encP 3 cmpP blk off size (w.alloc (.cells #[.func (.func 95) #[] #[]] T)):=by
 intro m os dk _ x y
 refine rankCmp_any x y w.heap.size _ ?_ ?_
 ·unfold sortWorldK
  rw [cell?_grow _ _ _ (by simp [putRowK]),cell?_putRowK_other encP 3 _ _ _ _ _ (by show w.heap.size≠blk;omega),cell?_ahead]
  simp only [World.cell?,heap_alloc_new]
  rfl
 ·simp [sortWorldK,putRowK]
  omega
theorem ltP (x y:Por):ltOf cmpP x y=decide (y.rest<x.rest∨(x.rest=y.rest∧x.index<y.index)):=by
 unfold ltOf cmpP Lib.compareInt
 by_cases h1:y.rest<x.rest
 ·simp [h1]
 ·by_cases h2:x.rest<y.rest
  ·have:¬ x.rest=y.rest:=by omega
   simp [h1,h2,this]
  ·have:x.rest=y.rest:=by omega
   simp [this]
   by_cases h3:x.index<y.index
   ·simp [h3]
   ·by_cases h4:y.index<x.index <;> simp [h3,h4]
theorem swoP:SWO (ltOf cmpP) where
 irrefl x:=by rw [ltP];simp
 trans x y z h1 h2:=by rw [ltP] at *;simp at *;omega
 ntrans x y z h1 h2:=by rw [ltP] at *;simp at *;omega
set_option maxHeartbeats 1000000 in
theorem rankSort_any (blk off cap:Nat) (d:Array Por) (w:World) (hH:HoldsK encP 3 w blk off d) (hblk:blk<w.heap.size) (hsz:d.size<4611686018427387904) :
  Calls Tryz.prog 96 #[.agg #[.func (.func 95) #[] #[]],.slice (some ⟨blk,off,none⟩) d.size cap] w fun e w'=>e=.returned (.tuple #[]) ∧
   ∃ d' n os,PermIn 0 d.size d d'∧SortedIn (ltOf cmpP) 0 d.size d'∧w'=sortWorldK encP 3 w blk off n d' os:=by
 have eg:∀ args w,(callFunc 156 args).run Tryz.prog w=.ok (.enter 156 args) w:=enters_of Tryz.func156 (by kernel_rfl) rfl
 have hcon:=fun T=>AnyQ.slices_SortFunc Tryz.sortP 3 Tryz.isAgg192 Tryz.sizeOf192 encP (fun _=>rfl) (fun x v hv=>by simp [encP] at hv;rcases hv with rfl | rfl | rfl <;> rfl) cmpP swoP 156 #[.pointer (some ⟨w.heap.size,0,none⟩)] blk off cap d (w.alloc (.cells #[.func (.func 95) #[] #[]] T)) eg (rankLays blk off d.size w T hblk)
  (by rw [alloc_eq_grow];exact holdsK_grow encP 3 w _ blk off d hblk hH) (by simp;omega) hsz
 change ∀ T,Calls Tryz.prog 155 _ _ _ at hcon
 have HC:=Lib.hid hcon
 clear hH hcon eg
 go_enter Tryz.func96,Tryz.ntmps96
 go_wp2_with (go_at_call 155;refine (HC.out _).mono ?_;rintro e w' ⟨rfl,d',n,os,hp,hs,rfl⟩)
 go_end0
 refine⟨rfl,d',n,#[.cells #[.func (.func 95) #[] #[]] 195] ++ os,hp,hs,?_⟩
 unfold sortWorldK
 rw [alloc_eq_grow,ahead_grow,putRowK_grow encP 3 _ _ _ _ _ (by simpa using hblk),grow_grow]
def porOf (t:Int) (ws:List Int) (j:Nat):Por:=⟨j,quoI t ws j,rstI t ws j⟩
def porArr (t:Int) (ws:List Int):Array Por:=((List.range ws.length).map (porOf t ws)).toArray
theorem porArr_size (t:Int) (ws:List Int):(porArr t ws).size=ws.length:=by simp [porArr]
theorem porArr_get (t:Int) (ws:List Int) (j:Nat) (h:j<ws.length):(porArr t ws)[j]! = porOf t ws j:=by
 simp [porArr,h]
theorem sorted_at (t:Int) (ws:List Int) (d':Array Por) (hp:PermIn 0 ws.length (porArr t ws) d') (hs:SortedIn (ltOf cmpP) 0 ws.length d') (p:Nat) (h:p<ws.length) :
  ∃ j,j<ws.length∧d'[p]! = porOf t ws j∧rank (rstI t ws) ws.length j=p:=by
 obtain⟨h1,_,h3⟩:=hp
 rw [porArr_size] at h1
 have hperm:d'.toList.Perm ((List.range ws.length).map (porOf t ws)):=by
  have e1:(d'.extract 0 ws.length).toList=d'.toList:=by rw [← h1];simp
  have e2:((porArr t ws).extract 0 ws.length).toList=(List.range ws.length).map (porOf t ws):=by
   rw [show ws.length=(porArr t ws).size from (porArr_size t ws).symm,Array.extract_size]
   simp [porArr]
  rw [e1,e2] at h3
  exact h3
 have hmem:∀ i (hi:i<d'.size),∃ j,j<ws.length∧d'[i] = porOf t ws j:=by
  intro i hi
  have:d'[i]∈d'.toList:=by simp
  obtain⟨j,hj,e⟩:=List.mem_map.1 (hperm.mem_iff.1 this)
  exact⟨j,List.mem_range.1 hj,e.symm⟩
 have hl:(d'.toList.map fun x=>x.index.toNat).Perm (List.range ws.length):=by
  have:=hperm.map fun x=>x.index.toNat
  rwa [List.map_map,show (List.range ws.length).map ((fun x:Por=>x.index.toNat) ∘ porOf t ws)=List.range ws.length from by
   conv=>rhs;rw [← List.map_id (List.range ws.length)]
   apply List.map_congr_left;intro j _;simp [porOf]] at this
 have hlen:(d'.toList.map fun x=>x.index.toNat).length=ws.length:=by simp [h1]
 have hr:=rank_of_sorted (rstI t ws) ws.length _ hl (by
  intro i j hi hj hij
  rw [hlen] at hi hj
  have h4:=hs i j (Nat.zero_le _) hij hj
  obtain⟨a,ha,ea⟩:=hmem i (by omega)
  obtain⟨b,hb,eb⟩:=hmem j (by omega)
  rw [getElem!_pos d' i (by omega),getElem!_pos d' j (by omega),ltP,ea,eb] at h4
  simp only [List.getElem_map,Array.getElem_toList,ea,eb]
  rw [← h4]
  rw [Bool.eq_iff_iff]
  simp [bef,porOf]
  exact decide_eq_true_iff) p (by omega)
 obtain⟨j,hj,e⟩:=hmem p (by omega)
 refine⟨j,hj,by rw [getElem!_pos d' p (by omega),e],?_⟩
 simp only [List.getElem_map,Array.getElem_toList,e] at hr
 simpa [porOf] using hr
theorem holds_porArr (t:Int) (ws:List Int) (w:World) (g:Nat) (hc:∀ j,j<ws.length→w.cell? ⟨g,j*3,none⟩=some (.int .i64 j)∧w.cell? ⟨g,j*3+1,none⟩=some (.int .u64 (quoI t ws j))∧w.cell? ⟨g,j*3+2,none⟩=some (.int .u64 (rstI t ws j)))
  (hf:∀ o,w.frozen? ⟨g,o,none⟩=false):HoldsK encP 3 w g 0 (porArr t ws):=by
 intro i hi
 rw [size_flatK,porArr_size] at hi
 rw [get_flatK _ _ _ _ (by rw [porArr_size];exact hi),porArr_get t ws (i / 3) (by omega)]
 refine⟨?_,hf _⟩
 obtain⟨c0,c1,c2⟩:=hc (i / 3) (by omega)
 have hm:i % 3=0∨i % 3=1∨i % 3=2:=by omega
 rcases hm with e | e | e
 ·rw [e,show 0+i=i / 3*3 by omega,c0];rfl
 ·rw [e,show 0+i=i / 3*3+1 by omega,c1];rfl
 ·rw [e,show 0+i=i / 3*3+2 by omega,c2];rfl
theorem holdsK_cells (w:World) (g:Nat) (d:Array Por) (h:HoldsK encP 3 w g 0 d) (i:Nat) (hi:i<d.size) :
  w.cell? ⟨g,i*3,none⟩=some (.int .i64 d[i]!.index)∧w.cell? ⟨g,i*3+1,none⟩=some (.int .u64 d[i]!.share)∧w.cell? ⟨g,i*3+2,none⟩=some (.int .u64 d[i]!.rest):=by
 have h1:∀ c,c<3→w.cell? ⟨g,0+(i*3+c),none⟩=some ((encP d[i]!)[c]!):=by
  intro c hc
  have:=(h (i*3+c) (by rw [size_flatK];omega)).1
  rw [this,get_flatK _ _ _ _ (by omega),show (i*3+c) / 3=i by omega,show (i*3+c) % 3=c by omega]
  rfl
 have a:=h1 0 (by omega)
 have b:=h1 1 (by omega)
 have c:=h1 2 (by omega)
 rw [Nat.zero_add] at a b c
 exact⟨a,b,c⟩
theorem sorted_world (w0 w:World) (g n m:Nat) (d d':Array Por) (os:Array Obj) (hb:RowKit.Below w0.heap.size w0 w) (hg:w0.heap.size≤g) (hg':g<w.heap.size) (hH:HoldsK encP 3 w g 0 d) (hs:d'.size=d.size) :
  RowKit.Below w0.heap.size w0 (sortWorldK encP 3 w g 0 m d' os)∧HoldsK encP 3 (sortWorldK encP 3 w g 0 m d' os) g 0 d'∧g<(sortWorldK encP 3 w g 0 m d' os).heap.size:=by
 have hsz:(putRowK encP 3 (Sort.ahead w m) g 0 d').heap.size=w.heap.size:=by simp [putRowK]
 refine⟨⟨hb.os,hb.tape,hb.output,?_,fun k hk=>?_⟩,?_,?_⟩
 ·have:=hb.size
  simp [sortWorldK,hsz]
  omega
 ·have h1:(sortWorldK encP 3 w g 0 m d' os).heap[k]? = (putRowK encP 3 (Sort.ahead w m) g 0 d').heap[k]?:=heap_grow_old _ _ (by rw [hsz];omega)
  rw [h1,← hb.block k hk]
  simp only [putRowK,putRow,mapBlock,heap_ahead]
  rw [Array.getElem?_modify,if_neg (by omega)]
 ·unfold sortWorldK
  exact holdsK_grow encP 3 _ _ _ _ _ (by rw [hsz];exact hg') (holdsK_putRowK encP 3 _ _ _ _ _ (holdsK_ahead encP 3 w m g 0 d hH) hs)
 ·simp [sortWorldK,hsz]
  omega
theorem infoP:(Tryz.prog.info? 192).map (fun i=>(i.zero,i.size,i.bytes))=some (some (.agg #[.int .i64 0,.int .u64 0,.int .u64 0]),3,24):=by kernel_rfl
theorem infoI:(Tryz.prog.info? 3).map (fun i=>(i.zero,i.size,i.bytes))=some (some (.int .i64 0),1,8):=by kernel_rfl
def PorRow (cs:Array Value) (t:Int) (ws:List Int) (k:Nat):Prop :=
 cs.size=ws.length*3∧∀ j,j<k→cs[j*3]? = some (.int .i64 j)∧cs[j*3+1]? = some (.int .u64 (quoI t ws j))∧cs[j*3+2]? = some (.int .u64 (rstI t ws j))
set_option maxHeartbeats 1000000 in
theorem share_err (t:Int) (A:Option Addr) (n c:Nat) (xs:List Int) (w:World) (h:Ints w A n xs) (hm:n≤9223372036854775807) (he:chkErr t xs≠0) :
  Calls Tryz.prog 54 #[.int .i64 t,.slice A n c] w fun e w'=>e=.returned (.tuple #[.slice none 0 0,.int .i64 (chkErr t xs)])∧w=w':=by
 have HC:=Lib.hid (fun w h=>check_any t A n c xs w h hm)
 have hb:(chkErr t xs != 0)=true:=by simpa using he
 clear he
 generalize chkErr t xs=er at *
 go_enter Tryz.func54,Tryz.ntmps54
 go_wp2_with (go_at_call 73;refine (HC.out _ h).mono ?_;rintro e w' ⟨rfl,rfl⟩)
 go_ret2
 exact⟨rfl,rfl⟩
theorem divOut_down (N c:Int) (hN:0≤N) (hc:0<c) (h:N / c≤18446744073709551615):divOut N c 0=(N / c,0):=by
 have h1:¬ c≤N / 18446744073709551616:=by
  intro h2
  have h3:N<(N / c+1)*c:=by
   have:=Int.mul_ediv_add_emod N c
   have:=Int.emod_lt_of_pos N hc
   rw [Int.add_mul,Int.mul_comm (N / c)]
   omega
  have h4:(N / c+1)*c≤18446744073709551616*c:=Int.mul_le_mul_of_nonneg_right (by omega) (by omega)
  omega
 have h2:¬ c=0:=by omega
 simp [divOut,h1,h2,raisedB]
theorem getD_le_sum (ws:List Int) (h:NonNeg ws) (i:Nat) (hi:i<ws.length):ws.getD i 0≤ws.sum:=by
 rw [← sumN_list]
 exact sumN_le_all (f:=fun i=>ws.getD i 0) (fun i _=>h i) i hi
theorem wt_le_wsum (ws:List Int) (h:NonNeg ws) (i:Nat) (hi:i<ws.length):wt ws i≤wsum ws:=by
 unfold wt wsum
 by_cases h0:ws.sum=0
 ·simp [h0];omega
 ·simp only [h0,if_false];exact getD_le_sum ws h i hi
theorem quo_le (t:Int) (ws:List Int) (ht:0≤t) (h:NonNeg ws) (i:Nat) (hi:i<ws.length):quoI t ws i≤t:=by
 have h1:=wt_le_wsum ws h i hi
 have h2:=wsum_pos h (by omega)
 unfold quoI
 have h3:t*wt ws i / wsum ws<t+1:=by
  rw [Int.ediv_lt_iff_lt_mul h2,Int.add_mul]
  have:t*wt ws i≤t*wsum ws:=Int.mul_le_mul_of_nonneg_left h1 ht
  omega
 omega
theorem sum_quo_bounds (t:Int) (ws:List Int) (ht:0≤t) (h:NonNeg ws) (k:Nat) (hk:k≤ws.length) (hn:0<ws.length):0≤sumN k (quoI t ws)∧sumN k (quoI t ws)≤t:=by
 refine⟨sumN_nonneg fun i _=>quo_nonneg h ht hn i,?_⟩
 have h1:∀ m,sumN k (quoI t ws)≤sumN (k+m) (quoI t ws):=by
  intro m
  induction m with
  | zero=>exact Int.le_refl _
  | succ m ih=>rw [← Nat.add_assoc,sumN_succ];have:=quo_nonneg h ht hn (k+m);omega
 have h2:=h1 (ws.length - k)
 rw [show k+(ws.length - k)=ws.length by omega] at h2
 have h3:=left_nonneg (t:=t) h hn
 unfold leftI at h3
 omega
theorem PorRow.put {cs:Array Value} {t:Int} {ws:List Int} {k:Nat} (h:PorRow cs t ws k) (hk:k<ws.length) :
  PorRow (((cs.setIfInBounds (k*3) (.int .i64 k)).setIfInBounds (k*3+1) (.int .u64 (quoI t ws k))).setIfInBounds (k*3+2) (.int .u64 (rstI t ws k))) t ws (k+1):=by
 have hs:=h.1
 refine⟨by simpa using hs,fun j hj=>?_⟩
 by_cases e:j=k
 ·subst e
  simp [Array.getElem?_setIfInBounds]
  omega
 ·have:=h.2 j (by omega)
  simp only [Array.getElem?_setIfInBounds,Array.size_setIfInBounds]
  refine⟨?_,?_,?_⟩
  ·rw [if_neg (by omega),if_neg (by omega),if_neg (by omega)];exact this.1
  ·rw [if_neg (by omega),if_neg (by omega),if_neg (by omega)];exact this.2.1
  ·rw [if_neg (by omega),if_neg (by omega),if_neg (by omega)];exact this.2.2
theorem Bl.three {w:World} {g:Nat} {T:TypeId} {cs:Array Value} (h:Bl w g T cs) (o:Nat) (ho:o+2<cs.size) :
  (∃ v,w.cell? ⟨g,o,none⟩=some v)∧(∃ v,w.cell? ⟨g,o+1,none⟩=some v)∧(∃ v,w.cell? ⟨g,o+2,none⟩=some v)∧w.frozen? ⟨g,o,none⟩=false∧w.frozen? ⟨g,o+1,none⟩=false∧w.frozen? ⟨g,o+2,none⟩=false :=
 ⟨⟨_,(h.cell o).trans (Array.getElem?_eq_getElem (by omega))⟩,⟨_,(h.cell (o+1)).trans (Array.getElem?_eq_getElem (by omega))⟩,⟨_,(h.cell (o+2)).trans (Array.getElem?_eq_getElem (by omega))⟩,h.free _,h.free _,h.free _⟩
def ResRow (rs:Array Value) (t:Int) (ws:List Int) (p:Nat):Prop :=
 rs.size=ws.length∧∀ j,j<ws.length→rs[j]? = some (.int .i64 (if rank (rstI t ws) ws.length j<p then shareI t ws j else 0))
theorem ResRow.put {rs:Array Value} {t:Int} {ws:List Int} {p j:Nat} {q:Int} (h:ResRow rs t ws p) (hj:j<ws.length) (hr:rank (rstI t ws) ws.length j=p) (hq:shareI t ws j=q) :
  ResRow (rs.setIfInBounds j (.int .i64 q)) t ws (p+1):=by
 refine⟨by simpa using h.1,fun i hi=>?_⟩
 rw [Array.getElem?_setIfInBounds]
 by_cases e:j=i
 ·subst e
  rw [if_pos rfl,if_pos (by rw [h.1];exact hj),if_pos (by omega),hq]
 ·rw [if_neg e,h.2 i hi]
  have:rank (rstI t ws) ws.length i≠p:=fun e2=>e (rank_inj (rstI t ws) ws.length j i hj hi (by omega))
  by_cases h2:rank (rstI t ws) ws.length i<p
  ·rw [if_pos h2,if_pos (by omega)]
  ·rw [if_neg h2,if_neg (by omega)]
set_option maxHeartbeats 1000000 in
theorem share_ok (t:Int) (A:Option Addr) (n c:Nat) (xs:List Int) (w:World) (h:Ints w A n xs) (hn:n≤1000) (h0:chkErr t xs=0) (ht0:0≤t) (ht:t≤1000000000000) (ha:AllIn xs) (hs:xs.sum≠0) (W:Int) (HW:Hid (xs.sum=W)) (HWs:Hid (wsum xs=W)) (hW:0<W) (hW':W≤1000000000000000) :
  Calls Tryz.prog 54 #[.int .i64 t,.slice A n c] w fun e w'=>∃ g,e=.returned (.tuple #[.slice (some ⟨g,0,none⟩) n n,.int .i64 0])∧w.heap.size≤g∧w'.ownsRow w.heap.size 3 1 (.slice (some ⟨g,0,none⟩) n n) n ((shareL t xs).map (Value.int .i64))∧Below w.heap.size w w':=by
 have HC:=Lib.hid (fun w h=>check_any t A n c xs w h (by omega))
 rw [h0] at HC
 clear h0
 have HS:=Lib.hid (fun w h=>sumOf_any A n c xs w h hn ha)
 obtain⟨C1,HC1,hmk1⟩:=make_any (P:=Tryz.prog) 188 192 _ 3 24 n Tryz.underlying188 infoP (by omega) (by omega)
 obtain⟨C2,HC2,hmk2⟩:=make_any (P:=Tryz.prog) 22 3 _ 1 8 n Tryz.underlying22 infoI (by omega) (by omega)
 have HN:=Lib.hid (show NonNeg xs from fun i=>(ha i).1)
 have HL:=Lib.hid h.1
 rw [HW.out] at HS
 have hb:(W == 0)=false:=by simp;omega
 clear ha
 go_enter Tryz.func54,Tryz.ntmps54
 go_wp2_with (first | (go_at_call 73;refine (HC.out _ h).mono ?_;rintro e w' ⟨rfl,rfl⟩) | (go_at_call 74;refine (HS.out _ h).mono ?_;rintro e w' ⟨rfl,rfl⟩))
 go_loopw [9,38] (fun l i wr=>∃ (k:Nat) (cs:Array Value),k≤n∧i=.int .i64 k∧l=.int .i64 (t - sumN k (quoI t xs))∧Bl wr w.heap.size 192 cs∧PorRow cs t xs k∧Below w.heap.size w wr) (fun _ i _=>n - (intOf i).toNat)
 case atStart=>exact⟨0,C1,Nat.zero_le _,rfl,by simp [sumN_zero],Bl.new _ _ _,⟨by rw [HC1.out.1,HL.out],fun j hj=>absurd hj (by omega)⟩,(Below.refl _ _).alloc (Nat.le_refl _) _⟩
 case round =>
  obtain⟨k,cs,hk,rfl,rfl,HB,HP,hbel⟩:=hrel
  by_cases hlt:k<n
  ·obtain⟨b,off,x,hA,hbw,hc,HX⟩:=h.get hlt
   subst hA
   have hc1:wr.cell? ⟨b,off+k,none⟩=some (.int .i64 x):=(hbel.cell (p:=⟨b,off+k,none⟩) hbw).trans hc
   have hqn:=quo_nonneg HN.out ht0 (by have:=HL.out;omega) k
   have hql:=quo_le t xs ht0 HN.out k (by have:=HL.out;omega)
   have hx0:0≤x:=by have:=HN.out k;rw [HX.out] at this;exact this
   have hxW:x≤W:=by have:=getD_le_sum xs HN.out k (by have:=HL.out;omega);rw [HX.out,HW.out] at this;exact this
   have hwt:wt xs k=x:=by rw [← HX.out];simp [wt,hs]
   have HMD:=Lib.hid (fun w=>mulDiv_any t x W 0 w ht0 (by omega) hx0 (by omega) (by omega) (by omega))
   have HMM:=Lib.hid (fun w=>mulMod_any t x W w ht0 (by omega) hx0 (by omega) (by omega) (by omega))
   have eq1:t*x / W=quoI t xs k:=by unfold quoI;rw [hwt,HWs.out]
   have eq2:t*x % W=rstI t xs k:=by unfold rstI;rw [hwt,HWs.out]
   rw [divOut_down _ _ (Int.mul_nonneg ht0 hx0) (by omega) (by rw [eq1];omega),eq1] at HMD
   rw [eq2] at HMM
   have HP':=HP.put (by have:=HL.out;omega)
   have HQ:=Lib.hid (sumN_succ k (quoI t xs))
   obtain⟨hb1,hb2⟩:=sum_quo_bounds t xs ht0 HN.out k (by have:=HL.out;omega) (by have:=HL.out;omega)
   obtain⟨hb3,hb4⟩:=sum_quo_bounds t xs ht0 HN.out (k+1) (by have:=HL.out;omega) (by have:=HL.out;omega)
   rw [HQ.out] at hb3 hb4
   clear eq1 eq2 hwt
   generalize quoI t xs k=q at *
   generalize rstI t xs k=r at *
   generalize sumN k (quoI t xs)=s at *
   go_wp2_with (first | (go_at_call 93;refine (HMD.out _).mono ?_;rintro e w1 ⟨rfl,hbd1⟩) | (go_at_call 94;refine (HMM.out _).mono ?_;rintro e w2 ⟨rfl,hbd2⟩;have HB2:=(HB.keep hbd1).keep hbd2;obtain⟨⟨v0,c0⟩,⟨v1,c1⟩,⟨v2,c2⟩,z0,z1,z2⟩:=HB2.three (k*3) (by have:=HP.1;have:=HL.out;omega)))
   go_roundw
   case rel=>exact⟨k+1,_,by omega,by go_num,by rw [HQ.out];go_num,((HB2.put _ _).put _ _).put _ _,HP',((((hbel.trans (hbd1.mono hbel.size)).trans (hbd2.mono (Nat.le_trans hbel.size hbd1.size))).setCell (Nat.le_refl _) _).setCell (Nat.le_refl _) _).setCell (Nat.le_refl _) _⟩
   case measure=>simp [intOf];omega
  ·obtain rfl:k=n:=by omega
   have hH:HoldsK encP 3 wr w.heap.size 0 (porArr t xs):=holds_porArr t xs wr w.heap.size (fun j hj=>by
    have:=HP.2 j (by have:=HL.out;omega)
    exact⟨(HB.cell _).trans this.1,(HB.cell _).trans this.2.1,(HB.cell _).trans this.2.2⟩) (fun o=>HB.free o)
   have hsort:=rankSort_any w.heap.size 0 k (porArr t xs) wr hH HB.lt (by rw [porArr_size,HL.out];omega)
   rw [porArr_size,HL.out] at hsort
   have HSO:=Lib.hid hsort
   clear hsort
   go_wp2_with (go_at_call 96;refine HSO.out.mono ?_;rintro e w3 ⟨rfl,d',m,os,hpm,hsd,hw3⟩;have hw3f:=sorted_world w wr w.heap.size k m (porArr t xs) d' os hbel (Nat.le_refl _) HB.lt hH hpm.1;rw [← hw3] at hw3f;clear hw3)
   obtain⟨hbel3,hH3,hg3⟩:=hw3f
   have HPM:=Lib.hid hpm
   have HSD:=Lib.hid hsd
   have hd':d'.size=k:=by rw [hpm.1,porArr_size,HL.out]
   have HD:=Lib.hid hd'
   clear hpm hsd hd' HSO HB HP hbel hH HC HS HC1 hmk1
   have eL:t - sumN k (quoI t xs)=leftI t xs:=by unfold leftI;rw [HL.out]
   rw [eL]
   clear eL
   obtain⟨L,hLe⟩:∃ L,leftI t xs=L:=⟨_,rfl⟩
   rw [hLe]
   have HLE:=Lib.hid hLe
   clear hLe
   go_loopw [81] (fun i wr2=>∃ (p:Nat) (rs:Array Value),p≤k∧i=.int .i64 p∧Bl wr2 w3.heap.size 3 rs∧ResRow rs t xs p∧RowKit.Below w3.heap.size w3 wr2) (fun i _=>k - (intOf i).toNat)
   case atStart=>exact⟨0,C2,Nat.zero_le _,rfl,Bl.new _ _ _,⟨by rw [HC2.out.1,HL.out];omega,fun j hj=>by rw [HC2.out.2 j (by have:=HL.out;omega),if_neg (by omega)];simp [Value.cells,Nat.mod_one]⟩,(Below.refl _ _).alloc (Nat.le_refl _) _⟩
   case round =>
    obtain⟨p,rs,hp,rfl,HB,HR,hbel⟩:=hrel
    by_cases hlt2:p<k
    ·obtain⟨j,hj,ej,hrk⟩:=sorted_at t xs d' (by rw [HL.out];exact HPM.out) (by rw [HL.out];exact HSD.out) p (by have:=HL.out;omega)
     obtain⟨c0,c1,c2⟩:=holdsK_cells w3 w.heap.size d' hH3 p (by have:=HD.out;omega)
     rw [ej] at c0 c1 c2
     have c0':wr.cell? ⟨w.heap.size,p*3,none⟩=some (.int .i64 j):=(hbel.cell (p:=⟨w.heap.size,p*3,none⟩) hg3).trans c0
     have c1':wr.cell? ⟨w.heap.size,p*3+1,none⟩=some (.int .u64 (quoI t xs j)):=(hbel.cell (p:=⟨w.heap.size,p*3+1,none⟩) hg3).trans c1
     have c2':wr.cell? ⟨w.heap.size,p*3+2,none⟩=some (.int .u64 (rstI t xs j)):=(hbel.cell (p:=⟨w.heap.size,p*3+2,none⟩) hg3).trans c2
     clear c0 c1 c2
     have hqn:=quo_nonneg HN.out ht0 (by have:=HL.out;omega) j
     have hql:=quo_le t xs ht0 HN.out j hj
     have hjk:j<k:=by have:=HL.out;omega
     have HRP:=Lib.hid (fun q hq=>HR.put (q:=q) hj hrk hq)
     have HSH:Hid (shareI t xs j=quoI t xs j+if (p:Int)<L then 1 else 0):=by unfold shareI;rw [hrk,HLE.out];exact rfl
     have hcj:wr.cell? ⟨w3.heap.size,j,none⟩=some (.int .i64 0):=by rw [HB.cell,HR.2 j hj,if_neg (by omega)]
     have hfj:wr.frozen? ⟨w3.heap.size,j,none⟩=false:=HB.free j
     have hcj':∀ o,(wr.alloc o).cell? ⟨w3.heap.size,j,none⟩=some (.int .i64 0):=fun o=>(World.cell?_alloc_lt _ _ _ HB.lt).trans hcj
     have hfj':∀ o,(wr.alloc o).frozen? ⟨w3.heap.size,j,none⟩=false:=fun o=>(HB.alloc o).free j
     have hlt3:=HB.lt
     clear ej hrk
     generalize quoI t xs j=q at *
     generalize rstI t xs j=r at *
     by_cases hpL:(p:Int)<L
     ·have HE:Hid (shareI t xs j=q+1):=by rw [HSH.out,if_pos hpL];exact rfl
      go_wp2
      go_roundw
      case rel=>exact⟨p+1,_,by omega,by go_num,((HB.put _ _).put _ _).alloc _,by rw [Array.setIfInBounds_setIfInBounds];exact HRP.out _ HE.out,((hbel.setCell (Nat.le_refl _) _).setCell (Nat.le_refl _) _).alloc (by have:=hbel.size;simpa [World.setCell] using this) _⟩
      case measure=>simp [intOf];omega
     ·have HE:Hid (shareI t xs j=q):=by rw [HSH.out,if_neg hpL];exact Int.add_zero _
      go_wp2
      go_roundw
      case rel=>exact⟨p+1,_,by omega,by go_num,(HB.put _ _).alloc _,HRP.out _ HE.out,(hbel.setCell (Nat.le_refl _) _).alloc (by have:=hbel.size;simpa [World.setCell] using this) _⟩
      case measure=>simp [intOf];omega
    ·obtain rfl:p=k:=by omega
     have HF:Hid (∀ i,i<xs.length→rs[i]? = some (.int .i64 (shareI t xs i))):=fun i hi=>by rw [HR.2 i hi,if_pos (by have:=rank_lt (rstI t xs) xs.length i hi;have:=HL.out;omega)]
     go_wp2
     go_ret2
     exact⟨w3.heap.size,rfl,hbel3.size,HB.own_ints hbel3.size (by rw [HR.1,HL.out]) (by rw [shareL_length,HL.out]) (by omega) (fun i hi=>by rw [HF.out i (by have:=HL.out;omega),shareL_get t xs i (by have:=HL.out;omega)]),hbel3.trans (hbel.mono hbel3.size)⟩
set_option maxHeartbeats 1000000 in
theorem share_okz (t:Int) (A:Option Addr) (n c:Nat) (xs:List Int) (w:World) (h:Ints w A n xs) (hn:n≤1000) (h0:chkErr t xs=0) (ht0:0≤t) (ht:t≤1000000000000) (ha:AllIn xs) (hs:xs.sum=0) (HWs:Hid (wsum xs=n)) :
  Calls Tryz.prog 54 #[.int .i64 t,.slice A n c] w fun e w'=>∃ g,e=.returned (.tuple #[.slice (some ⟨g,0,none⟩) n n,.int .i64 0])∧w.heap.size≤g∧w'.ownsRow w.heap.size 3 1 (.slice (some ⟨g,0,none⟩) n n) n ((shareL t xs).map (Value.int .i64))∧Below w.heap.size w w':=by
 have HC:=Lib.hid (fun w h=>check_any t A n c xs w h (by omega))
 rw [h0] at HC
 clear h0
 have HS:=Lib.hid (fun w h=>sumOf_any A n c xs w h hn ha)
 obtain⟨C1,HC1,hmk1⟩:=make_any (P:=Tryz.prog) 188 192 _ 3 24 n Tryz.underlying188 infoP (by omega) (by omega)
 obtain⟨C2,HC2,hmk2⟩:=make_any (P:=Tryz.prog) 22 3 _ 1 8 n Tryz.underlying22 infoI (by omega) (by omega)
 have HN:=Lib.hid (show NonNeg xs from fun i=>(ha i).1)
 have HL:=Lib.hid h.1
 rw [hs] at HS
 have HSs:=Lib.hid hs
 clear hs
 clear ha
 go_enter Tryz.func54,Tryz.ntmps54
 go_wp2_with (first | (go_at_call 73;refine (HC.out _ h).mono ?_;rintro e w' ⟨rfl,rfl⟩) | (go_at_call 74;refine (HS.out _ h).mono ?_;rintro e w' ⟨rfl,rfl⟩))
 go_loopw [9,38] (fun l i wr=>∃ (k:Nat) (cs:Array Value),k≤n∧i=.int .i64 k∧l=.int .i64 (t - sumN k (quoI t xs))∧Bl wr w.heap.size 192 cs∧PorRow cs t xs k∧Below w.heap.size w wr) (fun _ i _=>n - (intOf i).toNat)
 case atStart=>exact⟨0,C1,Nat.zero_le _,rfl,by simp [sumN_zero],Bl.new _ _ _,⟨by rw [HC1.out.1,HL.out],fun j hj=>absurd hj (by omega)⟩,(Below.refl _ _).alloc (Nat.le_refl _) _⟩
 case round =>
  obtain⟨k,cs,hk,rfl,rfl,HB,HP,hbel⟩:=hrel
  by_cases hlt:k<n
  ·obtain⟨b,off,x,hA,hbw,hc,HX⟩:=h.get hlt
   subst hA
   have hc1:wr.cell? ⟨b,off+k,none⟩=some (.int .i64 x):=(hbel.cell (p:=⟨b,off+k,none⟩) hbw).trans hc
   have hqn:=quo_nonneg HN.out ht0 (by have:=HL.out;omega) k
   have hql:=quo_le t xs ht0 HN.out k (by have:=HL.out;omega)
   have hwt:wt xs k=1:=by simp [wt,HSs.out]
   have HMD:=Lib.hid (fun w=>mulDiv_any t 1 n 0 w ht0 (by omega) (by omega) (by omega) (by omega) (by omega))
   have HMM:=Lib.hid (fun w=>mulMod_any t 1 n w ht0 (by omega) (by omega) (by omega) (by omega) (by omega))
   have eq1:t*1 / n=quoI t xs k:=by unfold quoI;rw [hwt,HWs.out]
   have eq2:t*1 % n=rstI t xs k:=by unfold rstI;rw [hwt,HWs.out]
   rw [divOut_down _ _ (Int.mul_nonneg ht0 (by omega)) (by omega) (by rw [eq1];omega),eq1] at HMD
   rw [eq2] at HMM
   have HP':=HP.put (by have:=HL.out;omega)
   have HQ:=Lib.hid (sumN_succ k (quoI t xs))
   obtain⟨hb1,hb2⟩:=sum_quo_bounds t xs ht0 HN.out k (by have:=HL.out;omega) (by have:=HL.out;omega)
   obtain⟨hb3,hb4⟩:=sum_quo_bounds t xs ht0 HN.out (k+1) (by have:=HL.out;omega) (by have:=HL.out;omega)
   rw [HQ.out] at hb3 hb4
   clear eq1 eq2 hwt
   generalize quoI t xs k=q at *
   generalize rstI t xs k=r at *
   generalize sumN k (quoI t xs)=s at *
   go_wp2_with (first | (go_at_call 93;refine (HMD.out _).mono ?_;rintro e w1 ⟨rfl,hbd1⟩) | (go_at_call 94;refine (HMM.out _).mono ?_;rintro e w2 ⟨rfl,hbd2⟩;have HB2:=(HB.keep hbd1).keep hbd2;obtain⟨⟨v0,c0⟩,⟨v1,c1⟩,⟨v2,c2⟩,z0,z1,z2⟩:=HB2.three (k*3) (by have:=HP.1;have:=HL.out;omega)))
   go_roundw
   case rel=>exact⟨k+1,_,by omega,by go_num,by rw [HQ.out];go_num,((HB2.put _ _).put _ _).put _ _,HP',((((hbel.trans (hbd1.mono hbel.size)).trans (hbd2.mono (Nat.le_trans hbel.size hbd1.size))).setCell (Nat.le_refl _) _).setCell (Nat.le_refl _) _).setCell (Nat.le_refl _) _⟩
   case measure=>simp [intOf];omega
  ·obtain rfl:k=n:=by omega
   have hH:HoldsK encP 3 wr w.heap.size 0 (porArr t xs):=holds_porArr t xs wr w.heap.size (fun j hj=>by
    have:=HP.2 j (by have:=HL.out;omega)
    exact⟨(HB.cell _).trans this.1,(HB.cell _).trans this.2.1,(HB.cell _).trans this.2.2⟩) (fun o=>HB.free o)
   have hsort:=rankSort_any w.heap.size 0 k (porArr t xs) wr hH HB.lt (by rw [porArr_size,HL.out];omega)
   rw [porArr_size,HL.out] at hsort
   have HSO:=Lib.hid hsort
   clear hsort
   go_wp2_with (go_at_call 96;refine HSO.out.mono ?_;rintro e w3 ⟨rfl,d',m,os,hpm,hsd,hw3⟩;have hw3f:=sorted_world w wr w.heap.size k m (porArr t xs) d' os hbel (Nat.le_refl _) HB.lt hH hpm.1;rw [← hw3] at hw3f;clear hw3)
   obtain⟨hbel3,hH3,hg3⟩:=hw3f
   have HPM:=Lib.hid hpm
   have HSD:=Lib.hid hsd
   have hd':d'.size=k:=by rw [hpm.1,porArr_size,HL.out]
   have HD:=Lib.hid hd'
   clear hpm hsd hd' HSO HB HP hbel hH HC HS HC1 hmk1
   have eL:t - sumN k (quoI t xs)=leftI t xs:=by unfold leftI;rw [HL.out]
   rw [eL]
   clear eL
   obtain⟨L,hLe⟩:∃ L,leftI t xs=L:=⟨_,rfl⟩
   rw [hLe]
   have HLE:=Lib.hid hLe
   clear hLe
   go_loopw [81] (fun i wr2=>∃ (p:Nat) (rs:Array Value),p≤k∧i=.int .i64 p∧Bl wr2 w3.heap.size 3 rs∧ResRow rs t xs p∧RowKit.Below w3.heap.size w3 wr2) (fun i _=>k - (intOf i).toNat)
   case atStart=>exact⟨0,C2,Nat.zero_le _,rfl,Bl.new _ _ _,⟨by rw [HC2.out.1,HL.out];omega,fun j hj=>by rw [HC2.out.2 j (by have:=HL.out;omega),if_neg (by omega)];simp [Value.cells,Nat.mod_one]⟩,(Below.refl _ _).alloc (Nat.le_refl _) _⟩
   case round =>
    obtain⟨p,rs,hp,rfl,HB,HR,hbel⟩:=hrel
    by_cases hlt2:p<k
    ·obtain⟨j,hj,ej,hrk⟩:=sorted_at t xs d' (by rw [HL.out];exact HPM.out) (by rw [HL.out];exact HSD.out) p (by have:=HL.out;omega)
     obtain⟨c0,c1,c2⟩:=holdsK_cells w3 w.heap.size d' hH3 p (by have:=HD.out;omega)
     rw [ej] at c0 c1 c2
     have c0':wr.cell? ⟨w.heap.size,p*3,none⟩=some (.int .i64 j):=(hbel.cell (p:=⟨w.heap.size,p*3,none⟩) hg3).trans c0
     have c1':wr.cell? ⟨w.heap.size,p*3+1,none⟩=some (.int .u64 (quoI t xs j)):=(hbel.cell (p:=⟨w.heap.size,p*3+1,none⟩) hg3).trans c1
     have c2':wr.cell? ⟨w.heap.size,p*3+2,none⟩=some (.int .u64 (rstI t xs j)):=(hbel.cell (p:=⟨w.heap.size,p*3+2,none⟩) hg3).trans c2
     clear c0 c1 c2
     have hqn:=quo_nonneg HN.out ht0 (by have:=HL.out;omega) j
     have hql:=quo_le t xs ht0 HN.out j hj
     have hjk:j<k:=by have:=HL.out;omega
     have HRP:=Lib.hid (fun q hq=>HR.put (q:=q) hj hrk hq)
     have HSH:Hid (shareI t xs j=quoI t xs j+if (p:Int)<L then 1 else 0):=by unfold shareI;rw [hrk,HLE.out];exact rfl
     have hcj:wr.cell? ⟨w3.heap.size,j,none⟩=some (.int .i64 0):=by rw [HB.cell,HR.2 j hj,if_neg (by omega)]
     have hfj:wr.frozen? ⟨w3.heap.size,j,none⟩=false:=HB.free j
     have hcj':∀ o,(wr.alloc o).cell? ⟨w3.heap.size,j,none⟩=some (.int .i64 0):=fun o=>(World.cell?_alloc_lt _ _ _ HB.lt).trans hcj
     have hfj':∀ o,(wr.alloc o).frozen? ⟨w3.heap.size,j,none⟩=false:=fun o=>(HB.alloc o).free j
     have hlt3:=HB.lt
     clear ej hrk
     generalize quoI t xs j=q at *
     generalize rstI t xs j=r at *
     by_cases hpL:(p:Int)<L
     ·have HE:Hid (shareI t xs j=q+1):=by rw [HSH.out,if_pos hpL];exact rfl
      go_wp2
      go_roundw
      case rel=>exact⟨p+1,_,by omega,by go_num,((HB.put _ _).put _ _).alloc _,by rw [Array.setIfInBounds_setIfInBounds];exact HRP.out _ HE.out,((hbel.setCell (Nat.le_refl _) _).setCell (Nat.le_refl _) _).alloc (by have:=hbel.size;simpa [World.setCell] using this) _⟩
      case measure=>simp [intOf];omega
     ·have HE:Hid (shareI t xs j=q):=by rw [HSH.out,if_neg hpL];exact Int.add_zero _
      go_wp2
      go_roundw
      case rel=>exact⟨p+1,_,by omega,by go_num,(HB.put _ _).alloc _,HRP.out _ HE.out,(hbel.setCell (Nat.le_refl _) _).alloc (by have:=hbel.size;simpa [World.setCell] using this) _⟩
      case measure=>simp [intOf];omega
    ·obtain rfl:p=k:=by omega
     have HF:Hid (∀ i,i<xs.length→rs[i]? = some (.int .i64 (shareI t xs i))):=fun i hi=>by rw [HR.2 i hi,if_pos (by have:=rank_lt (rstI t xs) xs.length i hi;have:=HL.out;omega)]
     go_wp2
     go_ret2
     exact⟨w3.heap.size,rfl,hbel3.size,HB.own_ints hbel3.size (by rw [HR.1,HL.out]) (by rw [shareL_length,HL.out]) (by omega) (fun i hi=>by rw [HF.out i (by have:=HL.out;omega),shareL_get t xs i (by have:=HL.out;omega)]),hbel3.trans (hbel.mono hbel3.size)⟩
end Go.Proofs.YtbokkeooahodaaaGreatDoor
namespace Go.Proofs.YtbokkeooahodaaaGreatDoor
open Go.RowKit
set_option linter.unusedVariables false
def SlRes (w:World) (er:Int) (out:List Int) (e:Ending) (w':World):Prop :=
 ∃ A n c,e=.returned (.tuple #[.slice A n c,.int .i64 er])∧w'.ownsRow w.heap.size 3 1 (.slice A n c) n (out.map (Value.int .i64))∧RowKit.Below w.heap.size w w'
def shareOut (t:Int) (ws:List Int):List Int:=if chkErr t ws=0 then shareL t ws else []
theorem own_nil (w:World) (b:Nat) (T:TypeId):w.ownsRow b T 1 (.slice none 0 0) 0 ([].map (Value.int .i64)):=⟨by simp,.inl ⟨rfl,rfl⟩⟩
theorem chk_zero {t:Int} {ws:List Int} (h:chkErr t ws=0):ws.length≤1000∧0≤t∧t≤1000000000000∧AllIn ws∧(ws.length=0→t=0):=by
 unfold chkErr at h
 split at h
 ·omega
 ·split at h
  ·omega
  ·split at h
   ·rename_i h3
    split at h
    ·omega
    ·exact⟨by omega,by omega,by omega,h3,by omega⟩
   ·omega
theorem share_any (t:Int) (A:Option Addr) (n c:Nat) (xs:List Int) (w:World) (h:Ints w A n xs) (hm:n≤9223372036854775807) :
  Calls Tryz.prog 54 #[.int .i64 t,.slice A n c] w (SlRes w (chkErr t xs) (shareOut t xs)):=by
 by_cases he:chkErr t xs=0
 ·obtain⟨h1,h2,h3,h4,h5⟩:=chk_zero he
  have hl:=h.1
  have hN:NonNeg xs:=fun i=>(h4 i).1
  unfold shareOut
  rw [if_pos he,he]
  by_cases hs:xs.sum=0
  ·refine (share_okz t A n c xs w h (by omega) he h2 h3 h4 hs (Lib.hid (by rw [← hl];simp [wsum,hs]))).mono ?_
   rintro e w' ⟨g,rfl,_,ho,hb⟩
   exact⟨_,_,_,rfl,ho,hb⟩
  ·have hw:wsum xs=xs.sum:=by simp [wsum,hs]
   have hp:=sum_nonneg hN
   have hb:=(sum_take_bound xs 1000000000000 h4 xs.length (Nat.le_refl _)).2
   rw [List.take_length] at hb
   refine (share_ok t A n c xs w h (by omega) he h2 h3 h4 hs xs.sum rfl hw (by omega) (by omega)).mono ?_
   rintro e w' ⟨g,rfl,_,ho,hb⟩
   exact⟨_,_,_,rfl,ho,hb⟩
 ·unfold shareOut
  rw [if_neg he]
  refine (share_err t A n c xs w h hm he).mono ?_
  rintro e w' ⟨rfl,rfl⟩
  exact⟨_,_,_,rfl,own_nil _ _ _,Below.refl _ _⟩
theorem own_len {w:World} {base:Nat} {t:TypeId} {v:Value} {n:Nat} {xs:List Int} (h:w.ownsRow base t 1 v n (xs.map (Value.int .i64))):xs.length=n:=by have:=h.1;simpa using this
theorem one_ints (k:IntKind) (xs:List Int):∀ u∈xs.map (Value.int k),u.oneCell'=true:=fun u hu=>by
 obtain⟨x,_,rfl⟩:=List.mem_map.1 hu
 rfl
theorem own_mono {w:World} {base base':Nat} {e:TypeId} {size:Nat} {v:Value} {n:Nat} {xs:List Value} (h:w.ownsRow base e size v n xs) (hb:base'≤base):w.ownsRow base' e size v n xs:=by
 refine⟨h.1,?_⟩
 rcases h.2 with h1 | ⟨g,cap,cur,h1,h2,h3⟩
 ·exact .inl h1
 ·exact .inr ⟨g,cap,cur,h1,by omega,h3⟩
theorem lit_ints (w:World) (T:TypeId) (xs:List Int):Ints (w.alloc (.cells (xs.map (Value.int .i64)).toArray T)) (some ⟨w.heap.size,0,none⟩) xs.length xs :=
 (Bl.new w T _).ints fun i hi=>by simp [List.getElem?_eq_getElem hi,List.getD]
theorem tmod_bounds (x m:Int) (hm:0<m) : -m<x.tmod m∧x.tmod m<m:=by
 rcases Int.lt_or_le x 0 with h | h
 ·have h1:x.tmod m = -((-x).tmod m):=by rw [Int.neg_tmod,Int.neg_neg]
  have h2:(-x).tmod m=(-x) % m:=Int.tmod_eq_emod_of_nonneg (by omega)
  have h3:=Int.emod_nonneg (-x) (show m≠0 by omega)
  have h4:=Int.emod_lt_of_pos (-x) hm
  omega
 ·have h2:x.tmod m=x % m:=Int.tmod_eq_emod_of_nonneg h
  have h3:=Int.emod_nonneg x (show m≠0 by omega)
  have h4:=Int.emod_lt_of_pos x hm
  omega
theorem chk_ok {t:Int} {ws:List Int} (h0:0≤t) (h1:t≤1000000000000) (hl:ws.length≤1000) (hn:0<ws.length) (ha:AllIn ws):chkErr t ws=0:=by
 unfold chkErr
 rw [if_neg (by omega),if_neg (by omega),if_pos ha,if_neg (by omega)]
def AddRes (w:World) (h l:Int) (e:Ending) (w':World):Prop:=∃ ov:Bool,e=.returned (.tuple #[.agg #[.int .u64 h,.int .u64 l],.bool ov])∧RowKit.Below w.heap.size w w'
set_option maxHeartbeats 1000000 in
theorem radd_core (ah al bh bl lo h1 h2:Int) (w:World) (e1:IntKind.u64.wrap (al+bl)=lo) (e2:IntKind.u64.wrap (ah+bh)=h1) (e3:IntKind.u64.wrap (h1+1)=h2) :
  Calls Tryz.prog 84 #[.agg #[.int .u64 ah,.int .u64 al],.agg #[.int .u64 bh,.int .u64 bl]] w (AddRes w (if lo<al then h2 else h1) lo):=by
 have fin:∀ (o1 o2 o3:Obj) (n:Nat) (u v:Value),RowKit.Below w.heap.size w ((((((w.alloc o1).alloc o2).alloc o3).drewN n).setCell ⟨w.heap.size+1+1,0,none⟩ u).setCell ⟨w.heap.size+1+1,1,none⟩ v):=fun o1 o2 o3 n u v =>
  ((below_drewN ((((Below.refl _ _).alloc (Nat.le_refl _) _).alloc (by simp) _).alloc (by simp;omega) _) n).setCell (by show w.heap.size≤w.heap.size+1+1;omega) _).setCell (by show w.heap.size≤w.heap.size+1+1;omega) _
 have FIN:=Lib.hid fin
 clear fin
 by_cases c:lo<al
 ·rw [if_pos c]
  cases d:decide (h1<ah) with
  | true =>
   go_enter Tryz.func84,Tryz.ntmps84
   go_wp2
   go_quiet (fail)
   go_wp2
   refine bodyPost_ret (v:=.tuple #[.agg #[.int .u64 h2,.int .u64 lo],.bool true]) (by simp [results,Tryz.results84,go_sem]) rfl ⟨_,rfl,FIN.out _ _ _ _ _ _⟩
  | false =>
   go_enter Tryz.func84,Tryz.ntmps84
   go_wp2
   go_quiet (fail)
   go_wp2
   refine bodyPost_ret (v:=.tuple #[.agg #[.int .u64 h2,.int .u64 lo],.bool (h2 == 0)]) (by simp [results,Tryz.results84,go_sem]) rfl ⟨_,rfl,FIN.out _ _ _ _ _ _⟩
 ·rw [if_neg c]
  go_enter Tryz.func84,Tryz.ntmps84
  go_wp2
  go_quiet (fail)
  go_wp2
  refine bodyPost_ret (v:=.tuple #[.agg #[.int .u64 h1,.int .u64 lo],.bool (decide (h1<ah))]) (by simp [results,Tryz.results84,go_sem]) rfl ⟨_,rfl,FIN.out _ _ _ _ _ _⟩
theorem radd_any (ah al bh bl:Int) (w:World) (h1:0≤ah) (h2:ah≤18446744073709551615) (h3:0≤al) (h4:al≤18446744073709551615) (h5:0≤bh) (h6:bh≤18446744073709551615) (h7:0≤bl) (h8:bl≤18446744073709551615) :
  Calls Tryz.prog 84 #[.agg #[.int .u64 ah,.int .u64 al],.agg #[.int .u64 bh,.int .u64 bl]] w
   (AddRes w ((ah*18446744073709551616+al+(bh*18446744073709551616+bl)) / 18446744073709551616 % 18446744073709551616) ((ah*18446744073709551616+al+(bh*18446744073709551616+bl)) % 18446744073709551616)):=by
 have h:=radd_core ah al bh bl _ _ _ w rfl rfl rfl
 simp only [IntKind.wrap_u64] at h
 have e1:(al+bl) % 18446744073709551616=(ah*18446744073709551616+al+(bh*18446744073709551616+bl)) % 18446744073709551616:=by omega
 have e2:(if (al+bl) % 18446744073709551616<al then ((ah+bh) % 18446744073709551616+1) % 18446744073709551616 else (ah+bh) % 18446744073709551616)=(ah*18446744073709551616+al+(bh*18446744073709551616+bl)) / 18446744073709551616 % 18446744073709551616:=by split <;> omega
 rw [e2,e1] at h
 exact h
theorem radd_val (A B:Int) (w:World) (hA:0≤A) (hB:0≤B) (h:A+B<340282366920938463463374607431768211456) :
  Calls Tryz.prog 84 #[.agg #[.int .u64 (A / 18446744073709551616),.int .u64 (A % 18446744073709551616)],.agg #[.int .u64 (B / 18446744073709551616),.int .u64 (B % 18446744073709551616)]] w
   (AddRes w ((A+B) / 18446744073709551616) ((A+B) % 18446744073709551616)):=by
 have:=radd_any (A / 18446744073709551616) (A % 18446744073709551616) (B / 18446744073709551616) (B % 18446744073709551616) w (by omega) (by omega) (by omega) (by omega) (by omega) (by omega) (by omega) (by omega)
 rw [show A / 18446744073709551616*18446744073709551616+A % 18446744073709551616+(B / 18446744073709551616*18446744073709551616+B % 18446744073709551616)=A+B by omega] at this
 rwa [show (A+B) / 18446744073709551616 % 18446744073709551616=(A+B) / 18446744073709551616 by omega] at this
theorem and_one (x:Int) (h0:0≤x) (h:x≤18446744073709551615):bits .and .u64 x 1=x % 2:=by
 obtain⟨n,rfl⟩:=Int.eq_ofNat_of_zero_le h0
 have h1:=bits_and_u64_nat n 1 (by omega) (by omega)
 rw [Nat.and_one_is_mod] at h1
 exact h1.trans (by omega)
theorem halves (b:Int) (j:Nat) (hb:0≤b):b / 2 ^ j=2*(b / 2 ^ (j+1))+b / 2 ^ j % 2:=by
 rw [Int.pow_succ,← Int.ediv_ediv_of_nonneg (Int.pow_nonneg (by omega))]
 omega
theorem shr_bounds (b:Int) (j:Nat) (hb:0≤b) (hb':b≤18446744073709551615):0≤b / 2 ^ j∧b / 2 ^ j≤b:=by
 have hp:(0:Int)<2 ^ j:=Int.pow_pos (by omega)
 exact⟨Int.ediv_nonneg hb (by omega),Int.ediv_le_self _ hb⟩
theorem mul_round (a b:Int) (j:Nat) (ha:0≤a) (ha':a≤18446744073709551615) (hb:0≤b) (hb':b≤18446744073709551615) :
  0≤a*(b / 2 ^ (j+1))∧a*(b / 2 ^ (j+1))+a*(b / 2 ^ (j+1))<340282366920938463463374607431768211456 ∧
  (b / 2 ^ j % 2=0→a*(b / 2 ^ (j+1))+a*(b / 2 ^ (j+1))=a*(b / 2 ^ j)) ∧
  (b / 2 ^ j % 2=1→a*(b / 2 ^ (j+1))+a*(b / 2 ^ (j+1))+a=a*(b / 2 ^ j)∧a*(b / 2 ^ (j+1))+a*(b / 2 ^ (j+1))+a<340282366920938463463374607431768211456):=by
 have h1:=halves b j hb
 have h2:=shr_bounds b j hb hb'
 have h3:=shr_bounds b (j+1) hb hb'
 have h4:a*(b / 2 ^ j)≤18446744073709551615*18446744073709551615:=Int.mul_le_mul ha' (by omega) h2.1 (by omega)
 have h5:0≤a*(b / 2 ^ (j+1)):=Int.mul_nonneg ha h3.1
 generalize b / 2 ^ (j+1)=y at *
 generalize b / 2 ^ j=x at *
 have e:a*x=a*y+a*y+a*(x % 2):=by
  conv=>lhs;rw [h1]
  grind
 refine⟨h5,?_,?_,?_⟩
 ·have:0≤a*(x % 2):=Int.mul_nonneg ha (by omega)
  omega
 ·intro hz;rw [hz] at e;omega
 ·intro hz;rw [hz] at e;omega
theorem Bl.new1 (w:World) (o:Obj) (t:TypeId) (cs:Array Value):Bl ((w.alloc o).alloc (.cells cs t)) (w.heap.size+1) t cs:=by
 have:=Bl.new (w.alloc o) t cs
 simpa using this
theorem Bl.two {w:World} {g:Nat} {t:TypeId} {a b:Value} (h:Bl w g t #[a,b]) (x y:Value):Bl ((w.setCell ⟨g,0,none⟩ x).setCell ⟨g,1,none⟩ y) g t #[x,y]:=by
 simpa using (h.put 0 x).put 1 y
set_option maxHeartbeats 2000000 in
theorem rmul_any (a b:Int) (w:World) (ha:0≤a) (ha':a≤18446744073709551615) (hb:0≤b) (hb':b≤18446744073709551615) :
  Calls Tryz.prog 79 #[.int .u64 a,.int .u64 b] w fun e w'=>e=.returned (.agg #[.int .u64 (a*b / 18446744073709551616),.int .u64 (a*b % 18446744073709551616)])∧RowKit.Below w.heap.size w w':=by
 have b0:b / 2 ^ (63+1)=0:=Int.ediv_eq_zero_of_lt hb (by omega)
 have B0:=Lib.hid b0
 clear b0
 go_enter Tryz.func79,Tryz.ntmps79
 go_wp2
 go_loopw [6] (fun i wr=>∃ (j vh vl:Int),-1≤j∧j≤63∧i=.int .i64 j∧Bl wr w.heap.size 170 #[.int .u64 0,.int .u64 0]∧Bl wr (w.heap.size+1) 170 #[.int .u64 vh,.int .u64 vl]∧Hid (vh=a*(b / 2 ^ (j+1).toNat) / 18446744073709551616∧vl=a*(b / 2 ^ (j+1).toNat) % 18446744073709551616)∧RowKit.Below w.heap.size w wr) (fun i _=>(intOf i+1).toNat)
 case atStart=>exact⟨63,0,0,by omega,by omega,rfl,(Bl.new _ _ _).alloc _,Bl.new1 _ _ _ _,(by rw [show ((63:Int)+1).toNat=63+1 from rfl,B0.out];exact⟨by simp,by simp⟩),((Below.refl _ _).alloc (Nat.le_refl _) _).alloc (by simp) _⟩
 case round =>
  obtain⟨j,vh,vl,hj0,hj1,rfl,HB1,HB2,HV,hbel⟩:=hrel
  by_cases hlt:0≤j
  ·obtain⟨jn,rfl⟩:=Int.eq_ofNat_of_zero_le hlt
   rw [show ((jn:Int)+1).toNat=jn+1 by omega] at HV
   obtain⟨m1,m2,m3,m4⟩:=mul_round a b jn ha ha' hb hb'
   have HA1:=Lib.hid (fun w=>radd_val (a*(b / 2 ^ (jn+1))) (a*(b / 2 ^ (jn+1))) w m1 m1 m2)
   rw [← HV.out.1,← HV.out.2] at HA1
   obtain⟨s1,s2⟩:=shr_bounds b jn hb hb'
   have hbit:=and_one (b / 2 ^ jn) s1 (by omega)
   have c0:wr.cell? ⟨w.heap.size+1,0,none⟩=some (.int .u64 vh):=HB2.cell 0
   have c1:wr.cell? ⟨w.heap.size+1,1,none⟩=some (.int .u64 vl):=HB2.cell 1
   have hne:w.heap.size≠w.heap.size+1:=by omega
   have hsm:=Nat.mod_two_eq_zero_or_one 0
   by_cases hz:b / 2 ^ jn % 2=1
   ·rw [hz] at hbit
    obtain⟨m5,m6⟩:=m4 hz
    have HA2:=Lib.hid (fun w=>radd_val (a*(b / 2 ^ (jn+1))+a*(b / 2 ^ (jn+1))) a w (by omega) ha m6)
    rw [m5,Int.ediv_eq_zero_of_lt ha (by omega),Int.emod_eq_of_lt ha (by omega)] at HA2
    clear m1 m2 m3 m4 m5 m6 hz s1 s2
    generalize (a*(b / 2 ^ (jn+1))+a*(b / 2 ^ (jn+1))) / 18446744073709551616=h1 at *
    generalize (a*(b / 2 ^ (jn+1))+a*(b / 2 ^ (jn+1))) % 18446744073709551616=l1 at *
    go_wp2_with fail
    refine (HA1.out _).mono ?_
    rintro e w1 ⟨ov,rfl,hb1⟩
    have HC1:=HB1.keep hb1
    have HC2:=HB2.keep hb1
    have d0:w1.cell? ⟨w.heap.size+1,0,none⟩=some (.int .u64 vh):=HC2.cell 0
    have d1:w1.cell? ⟨w.heap.size+1,1,none⟩=some (.int .u64 vl):=HC2.cell 1
    have f0:w1.frozen? ⟨w.heap.size+1,0,none⟩=false:=HC2.free 0
    have f1:w1.frozen? ⟨w.heap.size+1,1,none⟩=false:=HC2.free 1
    have HE1:=HC1.far (p:=⟨w.heap.size+1,0,none⟩) hne (.int .u64 h1)
    have HE1:=HE1.far (p:=⟨w.heap.size+1,1,none⟩) hne (.int .u64 l1)
    have HE2:=HC2.two (.int .u64 h1) (.int .u64 l1)
    have hbel2:=((hbel.trans (hb1.mono hbel.size)).setCell (p:=⟨w.heap.size+1,0,none⟩) (Nat.le_succ _) (.int .u64 h1)).setCell (p:=⟨w.heap.size+1,1,none⟩) (Nat.le_succ _) (.int .u64 l1)
    clear c0 c1
    go_wp2_with fail
    refine (HA2.out _).mono ?_
    rintro e w2 ⟨ov2,rfl,hb2⟩
    have HF1:=HE1.keep hb2
    have HF2:=HE2.keep hb2
    clear d0 d1 f0 f1
    have d0:w2.cell? ⟨w.heap.size+1,0,none⟩=some (.int .u64 h1):=HF2.cell 0
    have d1:w2.cell? ⟨w.heap.size+1,1,none⟩=some (.int .u64 l1):=HF2.cell 1
    have f0:w2.frozen? ⟨w.heap.size+1,0,none⟩=false:=HF2.free 0
    have f1:w2.frozen? ⟨w.heap.size+1,1,none⟩=false:=HF2.free 1
    go_wp2
    go_roundw
    case rel=>exact⟨(jn:Int) - 1,_,_,by omega,by omega,rfl,(HF1.far (p:=⟨w.heap.size+1,0,none⟩) hne _).far (p:=⟨w.heap.size+1,1,none⟩) hne _,HF2.two _ _,(by rw [show ((jn:Int) - 1+1).toNat=jn by omega];exact⟨rfl,rfl⟩),((hbel2.trans (hb2.mono hbel2.size)).setCell (p:=⟨w.heap.size+1,0,none⟩) (Nat.le_succ _) _).setCell (p:=⟨w.heap.size+1,1,none⟩) (Nat.le_succ _) _⟩
    case measure=>simp [intOf]
   ·have hz0:b / 2 ^ jn % 2=0:=by omega
    rw [hz0] at hbit
    have m5:=m3 hz0
    rw [m5] at HA1
    clear m1 m2 m3 m4 m5 hz hz0 s1 s2
    go_wp2_with fail
    refine (HA1.out _).mono ?_
    rintro e w1 ⟨ov,rfl,hb1⟩
    have HC1:=HB1.keep hb1
    have HC2:=HB2.keep hb1
    have d0:w1.cell? ⟨w.heap.size+1,0,none⟩=some (.int .u64 vh):=HC2.cell 0
    have d1:w1.cell? ⟨w.heap.size+1,1,none⟩=some (.int .u64 vl):=HC2.cell 1
    have f0:w1.frozen? ⟨w.heap.size+1,0,none⟩=false:=HC2.free 0
    have f1:w1.frozen? ⟨w.heap.size+1,1,none⟩=false:=HC2.free 1
    clear c0 c1
    go_wp2
    go_roundw
    case rel=>exact⟨(jn:Int) - 1,_,_,by omega,by omega,rfl,(HC1.far (p:=⟨w.heap.size+1,0,none⟩) hne _).far (p:=⟨w.heap.size+1,1,none⟩) hne _,HC2.two _ _,(by rw [show ((jn:Int) - 1+1).toNat=jn by omega];exact⟨rfl,rfl⟩),((hbel.trans (hb1.mono hbel.size)).setCell (p:=⟨w.heap.size+1,0,none⟩) (Nat.le_succ _) _).setCell (p:=⟨w.heap.size+1,1,none⟩) (Nat.le_succ _) _⟩
    case measure=>simp [intOf]
  ·obtain rfl:j = -1:=by omega
   rw [show ((-1:Int)+1).toNat=0 from rfl,Int.pow_zero,Int.ediv_one] at HV
   have c0:wr.cell? ⟨w.heap.size+1,0,none⟩=some (.int .u64 vh):=HB2.cell 0
   have c1:wr.cell? ⟨w.heap.size+1,1,none⟩=some (.int .u64 vl):=HB2.cell 1
   have d0:wr.cell? ⟨w.heap.size,0,none⟩=some (.int .u64 0):=HB1.cell 0
   have d1:wr.cell? ⟨w.heap.size,1,none⟩=some (.int .u64 0):=HB1.cell 1
   have f0:wr.frozen? ⟨w.heap.size,0,none⟩=false:=HB1.free 0
   have f1:wr.frozen? ⟨w.heap.size,1,none⟩=false:=HB1.free 1
   go_wp2
   have HX:=HB1.two (.int .u64 vh) (.int .u64 vl)
   refine bodyPost_ret (v:=.agg #[.int .u64 vh,.int .u64 vl]) (by have x0:=HX.cell 0;have x1:=HX.cell 1;simp at x0 x1;simp [results,Tryz.results79,go_sem,x0,x1]) rfl ⟨by rw [HV.out.1,HV.out.2],(hbel.setCell (p:=⟨w.heap.size,0,none⟩) (Nat.le_refl _) _).setCell (p:=⟨w.heap.size,1,none⟩) (Nat.le_refl _) _⟩
end Go.Proofs.YtbokkeooahodaaaGreatDoor

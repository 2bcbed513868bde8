/-
  Words for the reference's Process: a lot with its slices in a box, in a region that draws its order; a number that is not taken. No statement of the seat is proved here. No conditions.
  Contract of the reference's Split (customsref24) at an estate. No statement of the seat is proved here. Conditions: the estate is sound; the parts' numbers ascend from its next one on.
-/
import Derived.Test.YthnhgjhnkncmiaaGreatMAN
import Derived.Test.YthnhgjhnkncmiaaGreatMAL
import Derived.Test.YthnhgjhnkncmiaaGreatMAK
namespace Go.Proofs.YthnhgjhnkncmiaaGreat
open Go.RowKit
set_option linter.unusedVariables false

theorem own_two {w : World} {base base' size size' n n' : Nat} {e e' : TypeId} {v v' : Value} {xs xs' : List Value} (h : w.ownsRow base e size v n xs) (h' : w.ownsRow base' e' size' v' n' xs') (hne : e ≠ e') : ∀ g, v.ownBlock = some g → some g ≠ v'.ownBlock := fun g hg e2 => by
  rcases h.2 with ⟨rfl, _⟩ | ⟨k, cap, cur, rfl, _, hk, _⟩
  · cases hg
  · have e3 : k = g := by simpa [Value.ownBlock] using hg
    subst e3
    exact own_far29 h' (show Bl w k e cur from hk) (fun e4 => hne e4.symm) e2.symm
/-- Another row grows. -/
theorem own_other {w w' : World} {base base' size size' n n' : Nat} {e e' : TypeId} {v v' : Value} {xs xs' : List Value} (h : w.ownsRow base e size v n xs) (h' : w.ownsRow base' e' size' v' n' xs') (hne : e ≠ e') (hg : w.grownBy w' v'.ownBlock) : w'.ownsRow base e size v n xs :=
  own_of_block h fun g hb => hg.block g (own_lt h g hb) (own_two h h' hne g hb)
/-- A lot whose slices are a row of the call's own. -/
def BkL (N : Nat) (id : Int) (code : ByteArray) (q p : Int) (zs : List Sl) : List Value → Value → List Nat → World → Prop := fun _ v f w => ∃ B d, v = .agg #[.int .i64 id, .string code, .int .i64 q, .int .i64 p, .slice B zs.length d] ∧ w.ownsRow N 68 3 (.slice B zs.length d) zs.length (flat encSl zs) ∧ f = (Value.slice B zs.length d).ownBlock.toList
theorem BkL.loc {w0 : World} {N : Nat} {id : Int} {code : ByteArray} {q p : Int} {zs : List Sl} : Loc w0 (BkL N id code q p zs) := by
  rintro _ v f w w' h1 h2 h3 h4 ⟨B, d, rfl, h5, rfl⟩
  exact ⟨B, d, rfl, own_of_block h5 fun j hj => (h4 j (by simp [hj])).2.2, rfl⟩
/-- Such a lot in a box: its address is the first value that was read. -/
def BoxL (N : Nat) (id : Int) (code : ByteArray) (q p : Int) (zs : List Sl) : List Value → Value → List Nat → World → Prop := fun vs _ f w => ∃ g B d, vs[0]? = some (.pointer (some ⟨g, 0, none⟩)) ∧ f = g :: (Value.slice B zs.length d).ownBlock.toList ∧ Bl w g 36 #[.int .i64 id, .string code, .int .i64 q, .int .i64 p, .slice B zs.length d] ∧ w.ownsRow N 68 3 (.slice B zs.length d) zs.length (flat encSl zs)
theorem BoxL.loc {w0 : World} {N : Nat} {id : Int} {code : ByteArray} {q p : Int} {zs : List Sl} : Loc w0 (BoxL N id code q p zs) := by
  rintro _ v f w w' h1 h2 h3 h4 ⟨g, B, d, e1, rfl, h5, h6⟩
  exact ⟨g, B, d, e1, rfl, (h4 g (by simp)).2.2.trans h5, own_of_block h6 fun j hj => (h4 j (by simp [hj])).2.2⟩
theorem sizeS5 (w : World) (g : Nat) (a b c d e : Value) : (((((w.setCell ⟨g, 0, none⟩ a).setCell ⟨g, 1, none⟩ b).setCell ⟨g, 2, none⟩ c).setCell ⟨g, 3, none⟩ d).setCell ⟨g, 4, none⟩ e).heap.size = w.heap.size := by simp [World.setCell]
theorem heapS5 (w : World) (g : Nat) (a b c d e : Value) (k : Nat) (hne : k ≠ g) : (((((w.setCell ⟨g, 0, none⟩ a).setCell ⟨g, 1, none⟩ b).setCell ⟨g, 2, none⟩ c).setCell ⟨g, 3, none⟩ d).setCell ⟨g, 4, none⟩ e).heap[k]? = w.heap[k]? :=
  ((((Below.heap_setCell _ _ _ k hne).trans (Below.heap_setCell _ _ _ k hne)).trans (Below.heap_setCell _ _ _ k hne)).trans (Below.heap_setCell _ _ _ k hne)).trans (Below.heap_setCell _ _ _ k hne)
theorem Finds.boxl {js : List Job} {a0 : Act} {w0 : World} {fact : Nat → List Value → Value → Prop} {res : Nat → List Value → Value → List Nat → World → Prop} {kb kv i : Nat} {a : Act} {w : World} {vs : Nat → Value} {fp : Nat → List Nat}
    (h : Finds js a0 w0 fact res i ⟨none, [kb, kv], [kb, kv]⟩ a w vs fp) (hne : kv ≠ kb) {N : Nat} {id : Int} {code : ByteArray} {q p : Int} {zs : List Sl} {g : Nat} {B : Option Addr} {d : Nat} {z0 z1 z2 z3 z4 : Value} (hg : vs kb = .pointer (some ⟨g, 0, none⟩)) (hf : fp kb = [g])
    (hb : Bl w g 36 #[z0, z1, z2, z3, z4]) (hk : w.ownsRow N 68 3 (.slice B zs.length d) zs.length (flat encSl zs)) (hf2 : fp kv = (Value.slice B zs.length d).ownBlock.toList) (h1 : fact i ([kb, kv].map vs) undef) (h2 : ∀ f w', BoxL N id code q p zs ([kb, kv].map vs) undef f w' → res i ([kb, kv].map vs) undef f w') :
    Leaves w0 fact res i ⟨none, [kb, kv], [kb, kv]⟩ w vs fp undef (g :: fp kv) (((((w.setCell ⟨g, 0, none⟩ (.int .i64 id)).setCell ⟨g, 1, none⟩ (.string code)).setCell ⟨g, 2, none⟩ (.int .i64 q)).setCell ⟨g, 3, none⟩ (.int .i64 p)).setCell ⟨g, 4, none⟩ (.slice B zs.length d)) := by
  have hgb : w0.heap.size ≤ g := (h.own kb (by simp) g (by rw [hf]; simp)).1
  have hap : ∀ b ∈ fp kv, b ≠ g := fun b hb e => h.apart kv (by simp) kb (by simp) hne b hb (by rw [hf, e]; simp)
  refine ⟨put5 h.below hgb _ _ _ _ _, by rw [sizeS5]; exact Nat.le_refl _, fun k hk hn => heapS5 w g _ _ _ _ _ k (fun e => hn kb (by simp) (by rw [hf, e]; simp)), h1, h2 _ _ ⟨g, B, d, by simp [hg], by rw [hf2], set5_bl hb _ _ _ _ _, own_of_block hk fun j hj => heapS5 w g _ _ _ _ _ j (hap j (by rw [hf2]; simp [hj]))⟩, fun k hk => ?_⟩
  rw [sizeS5]
  rcases List.mem_cons.1 hk with rfl | hk
  · exact ⟨hb.lt, .inl ⟨kb, by simp, by rw [hf]; simp⟩⟩
  · exact ⟨(h.own kv (by simp) k hk).2, .inl ⟨kv, by simp, hk⟩⟩
/-- The outputs made so far. -/
structure PrI (W9 : World) (ys : List Sl) (os : List Int) (i : Nat) (d1 : Int) (L : Option Addr) (lc : Nat) (ls : List Lb) (wx : World) : Prop where
  ll : ls.length = i
  own : wx.ownsRow W9.heap.size 36 5 (.slice L i lc) i (flat encL ls)
  sls : ∀ b ∈ ls, SlP wx b.A b.n b.c b.x.sl
  lok : ∀ b ∈ ls, LtOk b.x
  ids : ls.map (fun b => b.x.id) = os.take i
  units : stUnits (lotsOf ls) = (unitsOf ys).take d1.toNat
  below : RowKit.Below W9.heap.size W9 wx
theorem PrI.start (W9 : World) (ys : List Sl) (os : List Int) : PrI W9 ys os 0 0 none 0 [] W9 := ⟨rfl, ⟨by simp [flat], .inl ⟨rfl, rfl⟩⟩, (fun b k => by cases k), (fun b k => by cases k), rfl, by simp [lotsOf, stUnits], Below.refl _ _⟩
theorem PrI.under {W9 : World} {ys : List Sl} {os : List Int} {i : Nat} {d1 : Int} {L : Option Addr} {lc : Nat} {ls : List Lb} {wx w' : World} (h : PrI W9 ys os i d1 L lc ls wx) (hb : RowKit.Below wx.heap.size wx w') : PrI W9 ys os i d1 L lc ls w' :=
  ⟨h.ll, own_below h.own hb, fun b k => (h.sls b k).below hb, h.lok, h.ids, h.units, h.below.trans (hb.mono h.below.size)⟩
theorem PrI.next {W9 : World} {ys : List Sl} {os : List Int} {i : Nat} {d1 b : Int} {L : Option Addr} {lc : Nat} {ls : List Lb} {wx w' : World} (h : PrI W9 ys os i d1 L lc ls wx) {nb : Lb} (hi : i < os.length) (hid : nb.x.id = os.getD i 0) (hs : SlP wx nb.A nb.n nb.c nb.x.sl) (hl : LtOk nb.x) (hy : SlsOk ys) (hz : nb.x.sl = betweenS ys d1 b) (hd : d1 ≤ b) {L' : Option Addr} {lc' : Nat}
    (ho : w'.ownsRow W9.heap.size 36 5 (.slice L' (i + 1) lc') (i + 1) (flat encL ls ++ encL nb)) (hg : wx.grownBy w' (.slice L i lc : Value).ownBlock) : PrI W9 ys os (i + 1) b L' lc' (ls ++ [nb]) w' := by
  have hne : 68 ≠ 36 := by decide
  refine ⟨by rw [List.length_append, h.ll]; rfl, by rw [flat_append, flat_one]; exact ho, fun x hx => ?_, fun x hx => ?_, ?_, ?_, h.below.grown hg h.below.size fun g hg' => own_base h.own g hg'⟩
  · rcases List.mem_append.1 hx with hx | hx
    · exact (h.sls x hx).grown h.own hne hg
    · rw [List.mem_singleton] at hx; subst hx; exact hs.grown h.own hne hg
  · rcases List.mem_append.1 hx with hx | hx
    · exact h.lok x hx
    · rw [List.mem_singleton] at hx; subst hx; exact hl
  · have e0 : os.getD i 0 = os[i] := by rw [List.getD_eq_getElem?_getD, List.getElem?_eq_getElem hi]; rfl
    have e1 : os.take (i + 1) = os.take i ++ [os[i]] := by rw [List.take_add_one, List.getElem?_eq_getElem hi]; rfl
    rw [List.map_append, h.ids, e1, List.map_cons, List.map_nil, hid, e0]
  · have e1 : lotsOf (ls ++ [nb]) = lotsOf ls ++ [nb.x] := by unfold lotsOf; rw [List.map_append]; rfl
    have e2 : stUnits [nb.x] = unitsOf nb.x.sl := by rw [stUnits_cons]; simp [stUnits]
    rw [e1, stUnits_append, e2, hz, between_units hy, h.units]
    exact seg_snoc _ (by omega)
set_option maxRecDepth 100000 in
set_option maxHeartbeats 8000000 in
theorem Taken_no (A : Option Addr) (n c : Nat) (bs : List Lb) (id : Int) (w : World) (h : StAt w A n bs) (hn : n ≤ 1000000) (hno : ∀ b ∈ bs, b.x.id ≠ id ∧ ∀ y ∈ b.x.sl, y.src ≠ id) :
    Calls Tryz.prog 74 #[.slice A n c, .int .i64 id] w fun e w' => e = .returned (.bool false) ∧ w' = w := by
  have HX := Lib.hid h.lots.recs
  have HS := Lib.hid h.sls
  have HNO := Lib.hid hno
  have hxl : bs.length = n := h.lots.recs.1
  clear h hno
  go_enter Tryz.func74, Tryz.ntmps74
  go_wp2_with fail
  go_loop [5] (fun v => ∃ i : Nat, v = .int .i64 (i : Int) ∧ i ≤ n) (fun v => n - (intOf v).toNat)
  case atStart => exact ⟨0, rfl, Nat.zero_le _⟩
  case round =>
    obtain ⟨i, rfl, hi⟩ := hrel
    by_cases hlt : i < n
    case neg =>
      have dk : decide ((i : Int) < (n : Int)) = false := by simp; omega
      go_wp2
      go_ret
      exact ⟨rfl, rfl⟩
    case pos =>
    have dk : decide ((i : Int) < (n : Int)) = true := by simp; omega
    obtain ⟨b1, o1, rfl, hb1, ha⟩ := recs_at HX.out hlt
    obtain ⟨x, hx⟩ : ∃ x, bs[i]! = x := ⟨_, rfl⟩
    rw [hx] at ha
    have a0 : w.cell? ⟨b1, o1 + i * 5, none⟩ = some (.int .i64 x.x.id) := ha.out 0 (by omega)
    have a4 : w.cell? ⟨b1, o1 + i * 5 + 4, none⟩ = some (.slice x.A x.n x.c) := ha.out 4 (by omega)
    have hxm : x ∈ bs := by rw [← hx, getElem!_pos bs i (by omega)]; exact List.getElem_mem _
    have hsx := HS.out x hxm
    have hnx := HNO.out x hxm
    have HNX := Lib.hid hnx.2
    have HSX := Lib.hid hsx.1.recs
    have hxn : x.n ≤ 9223372036854775807 := by omega
    have hxs : x.x.sl.length = x.n := hsx.1.recs.1
    have hii : (i : Int) < (n : Int) := by omega
    have hiz : (0 : Int) ≤ (i : Int) := by omega
    have d1 : (x.x.id == id) = false := by simpa using hnx.1
    clear ha hx hsx hnx hxm
    go_wp2_with fail
    go_loop [6] (fun v => ∃ k : Nat, v = .int .i64 (k : Int) ∧ k ≤ x.n) (fun v => x.n - (intOf v).toNat)
    case atStart => exact ⟨0, rfl, Nat.zero_le _⟩
    case round =>
      obtain ⟨k, rfl, hk⟩ := hrel
      by_cases hlk : k < x.n
      case neg =>
        have dk2 : decide ((k : Int) < (x.n : Int)) = false := by simp; omega
        go_wp2_with fail
        go_round
        case rel => exact ⟨i + 1, by go_num, by omega⟩
        case measure => simp [intOf]; omega
      case pos =>
      have dk2 : decide ((k : Int) < (x.n : Int)) = true := by simp; omega
      obtain ⟨b2, o2, hA2, hb2, hb⟩ := recs_at HSX.out hlk
      rw [hA2] at a4
      have c0 : w.cell? ⟨b2, o2 + k * 3, none⟩ = some (.int .i64 x.x.sl[k]!.src) := hb.out 0 (by omega)
      have hsr : x.x.sl[k]!.src ≠ id := HNX.out _ (by rw [getElem!_pos x.x.sl k (by omega)]; exact List.getElem_mem _)
      generalize x.x.sl[k]!.src = s at c0 hsr
      have hkk : (k : Int) < (x.n : Int) := by omega
      have hkz : (0 : Int) ≤ (k : Int) := by omega
      have d2 : (s == id) = false := by simpa using hsr
      clear hb hsr
      go_wp2_with fail
      go_round
      case rel => exact ⟨k + 1, by go_num, by omega⟩
      case measure => simp [intOf]; omega
end Go.Proofs.YthnhgjhnkncmiaaGreat

namespace Go.Proofs.YthnhgjhnkncmiaaGreat
open Go.RowKit
set_option linter.unusedVariables false

theorem sum2_take {l : List (Int × Int)} {i : Nat} (h : i < l.length) : ((l.take (i + 1)).map Prod.snd).sum = ((l.take i).map Prod.snd).sum + l[i]!.2 := by
  rw [take_snoc29 l i h, List.map_append, List.sum_append]
  simp
theorem sum2_mono {l : List (Int × Int)} (h : ∀ q ∈ l, 1 ≤ q.2) (i : Nat) : 0 ≤ ((l.take i).map Prod.snd).sum ∧ ((l.take i).map Prod.snd).sum ≤ (l.map Prod.snd).sum := by
  have key : ∀ l : List (Int × Int), (∀ q ∈ l, 1 ≤ q.2) → 0 ≤ (l.map Prod.snd).sum := fun l => by
    induction l with
    | nil => intro _; simp
    | cons y ys ih =>
      intro hl
      have h1 := ih fun q hq => hl q (by simp [hq])
      have h2 := hl y (by simp)
      simp only [List.map_cons, List.sum_cons]
      omega
  have h1 := key (l.take i) fun q hq => h q (List.mem_of_mem_take hq)
  have h2 := key (l.drop i) fun q hq => h q (List.mem_of_mem_drop hq)
  have h3 : (l.map Prod.snd).sum = ((l.take i).map Prod.snd).sum + ((l.drop i).map Prod.snd).sum := by
    conv => lhs; rw [← List.take_append_drop i l, List.map_append, List.sum_append]
  omega
/-- The lots with a number of an ascending stock. -/
theorem one_lot {bs : List Lb} (h : bs.Pairwise (fun a b => a.x.id < b.x.id)) {x : Lb} (hx : x ∈ bs) : (lotsOf bs).filter (fun l => decide (l.id = x.x.id)) = [x.x] := by
  unfold lotsOf
  induction bs with
  | nil => cases hx
  | cons y ys ih =>
    rw [List.pairwise_cons] at h
    rw [List.map_cons, List.filter_cons]
    rcases List.mem_cons.1 hx with rfl | hx
    · simp only [decide_true, if_true]
      congr 1
      rw [List.filter_eq_nil_iff]
      intro l hl
      obtain ⟨b, hb, rfl⟩ := List.mem_map.1 hl
      have := h.1 b hb
      simp
      omega
    · have := h.1 x hx
      have hd : decide (y.x.id = x.x.id) = false := by simp; omega
      rw [hd]
      simp only [Bool.false_eq_true, if_false]
      exact ih h.2 hx
set_option maxRecDepth 100000 in
set_option maxHeartbeats 32000000 in
theorem Split_any (A : Option Addr) (n c : Nat) (bs : List Lb) (cs : List Ch) (free free' id me : Int) (P : Option Addr) (m pc : Nat) (ps : List (Int × Int)) (w : World) (h : StM w A n c bs) (he : EstOk (lotsOf bs) cs free) (hps : Recs enc2 2 w P m ps) (hm : m ≤ 16) (hasc : ps.Pairwise (fun a b => a.1 < b.1)) (hfr : ∀ q ∈ ps, free ≤ q.1 ∧ q.1 < free') (hff : free ≤ free') :
    Calls Tryz.prog 52 #[.slice A n c, .int .i64 id, .slice P m pc, .int .i64 me] w (ActR w fun s => EstOk s cs free') := by
  have HX := Lib.hid h
  have HE := Lib.hid he
  have HPS := Lib.hid hps
  have HASC := Lib.hid hasc
  have HFR := Lib.hid hfr
  have HFF := Lib.hid hff
  have hpl : ps.length = m := hps.1
  have hbl : bs.length = n := h.len
  have hn : n ≤ 64 := by have := he.few; omega
  have HSK := Lib.hid (Stock_any A n c bs w h.st hn he.ok)
  have HAT := Lib.hid At_any
  have HRE := Lib.hid Rests_any
  have HTK := Lib.hid Taken_any
  have HCO := Lib.hid count29_any
  have HMD := Lib.hid rmuldivG_any
  have HTA := Lib.hid Take_any
  have HWO := Lib.hid Without_any
  have HPU := Lib.hid Put_any
  clear h he hps hasc hfr hff
  go_enter Tryz.func52, Tryz.ntmps52
  go_wp2_with fail
  refine HSK.out.mono ?_
  rintro e w1 ⟨er, rfl, hb1⟩
  have HB1 := Lib.hid hb1
  clear hb1 HSK
  cases de : (er == 0)
  case false =>
    have hne : er ≠ 0 := by simpa using de
    have HNE := Lib.hid hne
    clear hne
    go_wp2
    go_ret2
    exact ActR.bad HNE.out HB1.out
  case true =>
  obtain rfl : er = 0 := by simpa using de
  have HR1 : Hid (Recs encL 5 w1 A n bs) := HX.out.st.lots.recs.below HB1.out
  go_wp2_with fail
  refine (HAT.out A n c bs id w1 HR1.out (by omega)).mono ?_
  rintro e w2 ⟨rfl, ⟨rfl, hno⟩ | ⟨ix, hi, rfl, hid⟩⟩
  · go_wp2
    go_ret2
    exact ActR.bad (by decide) HB1.out
  have di : decide ((ix : Int) < 0) = false := decide_eq_false (by omega)
  obtain ⟨b1, o1, rfl, hb1, ha⟩ := recs_at HR1.out hi
  obtain ⟨x, hx⟩ : ∃ x, bs[ix]! = x := ⟨_, rfl⟩
  rw [hx] at ha hid
  have a0 : w2.cell? ⟨b1, o1 + ix * 5, none⟩ = some (.int .i64 x.x.id) := ha.out 0 (by omega)
  have a1 : w2.cell? ⟨b1, o1 + ix * 5 + 1, none⟩ = some (.string x.x.code) := ha.out 1 (by omega)
  have a2 : w2.cell? ⟨b1, o1 + ix * 5 + 2, none⟩ = some (.int .i64 x.x.qty) := ha.out 2 (by omega)
  have a3 : w2.cell? ⟨b1, o1 + ix * 5 + 3, none⟩ = some (.int .i64 x.x.proc) := ha.out 3 (by omega)
  have a4 : w2.cell? ⟨b1, o1 + ix * 5 + 4, none⟩ = some (.slice x.A x.n x.c) := ha.out 4 (by omega)
  have hxm : x ∈ bs := by rw [← hx, getElem!_pos bs ix (by omega)]; exact List.getElem_mem _
  have HXM := Lib.hid hxm
  have HXO : Hid (LtOk x.x) := HE.out.ok x hxm
  have HID := Lib.hid hid
  have hii : (ix : Int) < (n : Int) := by omega
  have hiz : (0 : Int) ≤ (ix : Int) := by omega
  have HBX : Hid (Bl (w2.alloc (.cells #[.int .i64 x.x.id, .string x.x.code, .int .i64 x.x.qty, .int .i64 x.x.proc, .slice x.A x.n x.c] 36)) w2.heap.size 36 #[.int .i64 x.x.id, .string x.x.code, .int .i64 x.x.qty, .int .i64 x.x.proc, .slice x.A x.n x.c]) := Bl.new _ _ _
  have HB3 : Hid (RowKit.Below w.heap.size w (w2.alloc (.cells #[.int .i64 x.x.id, .string x.x.code, .int .i64 x.x.qty, .int .i64 x.x.proc, .slice x.A x.n x.c] 36))) := HB1.out.alloc HB1.out.size _
  clear ha hxm hx hid
  go_upto_region 8 with (fail)
  clear a0 a1 a2 a3 a4 HR1 HB1 hb1
  generalize w2.alloc (.cells #[.int .i64 x.x.id, .string x.x.code, .int .i64 x.x.qty, .int .i64 x.x.proc, .slice x.A x.n x.c] 36) = w3 at *
  generalize w2.heap.size = gx at *
  have c3 := HBX.out.c3
  go_wp2_with fail
  refine (HRE.out x.x.proc w3).mono ?_
  rintro e w4 ⟨b, rfl, hb4⟩
  have HB4 : Hid (RowKit.Below w.heap.size w w4) := HB3.out.trans (hb4.mono HB3.out.size)
  have HBX4 : Hid (Bl w4 gx 36 #[.int .i64 x.x.id, .string x.x.code, .int .i64 x.x.qty, .int .i64 x.x.proc, .slice x.A x.n x.c]) := (hb4.block gx HBX.out.lt).trans HBX.out
  clear hb4 HB3 HBX c3
  cases b
  case false =>
    go_wp2
    go_ret2
    exact ActR.bad (by decide) HB4.out
  case true =>
  by_cases g0 : m < 2
  case pos =>
    have d0 : decide ((m : Int) < 2) = true := by simp; omega
    go_wp2
    go_ret2
    exact ActR.bad (by decide) HB4.out
  case neg =>
  have d0 : decide ((m : Int) < 2) = false := by simp; omega
  have d1 : decide ((m : Int) > 16) = false := by simp; omega
  have d1' : decide (16 < (m : Int)) = false := by simp; omega
  by_cases g2 : me < 1
  case pos =>
    have d2 : decide (me < 1) = true := decide_eq_true g2
    go_wp2
    go_ret2
    exact ActR.bad (by decide) HB4.out
  case neg =>
  have d2 : decide (me < 1) = false := decide_eq_false g2
  by_cases g3 : me > 3
  case pos =>
    have d3 : decide (me > 3) = true := decide_eq_true g3
    go_wp2
    go_ret2
    exact ActR.bad (by decide) HB4.out
  case neg =>
  have d3 : decide (me > 3) = false := decide_eq_false g3
  clear g2 g3
  go_wp2_with fail
  go_loopw [13] (fun v wx => ∃ i : Nat, v = .int .i64 (i : Int) ∧ i ≤ m ∧ Hid (∀ j, j < i → 1 ≤ ps[j]!.1 ∧ ps[j]!.1 ≤ 1000000 ∧ 1 ≤ ps[j]!.2 ∧ ps[j]!.2 ≤ 1000000000) ∧ Hid (RowKit.Below w4.heap.size w4 wx)) (fun v _ => m - (intOf v).toNat)
  case atStart => exact ⟨0, rfl, Nat.zero_le _, (fun j hj => by omega), Below.refl _ _⟩
  case round =>
    obtain ⟨i, rfl, hi2, HN, HB⟩ := hrel
    by_cases hlt : i < m
    case pos =>
      have dk : decide ((i : Int) < (m : Int)) = true := by simp; omega
      have HBW : Hid (RowKit.Below w.heap.size w wr) := HB4.out.trans (HB.out.mono HB4.out.size)
      obtain ⟨b2, o2, rfl, hb2, hb⟩ := recs_at (HPS.out.below HBW.out) hlt
      obtain ⟨y, hy⟩ : ∃ y, ps[i]! = y := ⟨_, rfl⟩
      rw [hy] at hb
      have f0 : wr.cell? ⟨b2, o2 + i * 2, none⟩ = some (.int .i64 y.1) := hb.out 0 (by omega)
      have f1 : wr.cell? ⟨b2, o2 + i * 2 + 1, none⟩ = some (.int .i64 y.2) := hb.out 1 (by omega)
      have HYI := Lib.hid hy
      have hjj : (i : Int) < (m : Int) := by omega
      have hjz : (0 : Int) ≤ (i : Int) := by omega
      clear hb hy
      by_cases q0 : y.1 < 1
      case pos =>
        have e0 : decide (y.1 < 1) = true := decide_eq_true q0
        go_wp2
        go_ret2
        exact ActR.bad (by decide) HBW.out
      case neg =>
      have e0 : decide (y.1 < 1) = false := decide_eq_false q0
      by_cases q1 : y.1 > 1000000
      case pos =>
        have e1 : decide (y.1 > 1000000) = true := decide_eq_true q1
        go_wp2
        go_ret2
        exact ActR.bad (by decide) HBW.out
      case neg =>
      have e1 : decide (y.1 > 1000000) = false := decide_eq_false q1
      by_cases q2 : y.2 < 1
      case pos =>
        have e2 : decide (y.2 < 1) = true := decide_eq_true q2
        go_wp2
        go_ret2
        exact ActR.bad (by decide) HBW.out
      case neg =>
      have e2 : decide (y.2 < 1) = false := decide_eq_false q2
      by_cases q3 : y.2 > 1000000000
      case pos =>
        have e3 : decide (y.2 > 1000000000) = true := decide_eq_true q3
        go_wp2
        go_ret2
        exact ActR.bad (by decide) HBW.out
      case neg =>
      have e3 : decide (y.2 > 1000000000) = false := decide_eq_false q3
      have HN2 : Hid (∀ j, j < i + 1 → 1 ≤ ps[j]!.1 ∧ ps[j]!.1 ≤ 1000000 ∧ 1 ≤ ps[j]!.2 ∧ ps[j]!.2 ≤ 1000000000) := fun j hj => by
        by_cases e : j = i
        · subst e; rw [HYI.out]; omega
        · exact HN.out j (by omega)
      clear q0 q1 q2 q3
      go_wp2_with fail
      go_roundw
      case rel => exact ⟨i + 1, by go_num, by omega, HN2, HB⟩
      case measure => simp [intOf]; omega
    case neg =>
    have dk : decide ((i : Int) < (m : Int)) = false := by simp; omega
    have HPV : Hid (∀ j, j < m → 1 ≤ ps[j]!.1 ∧ ps[j]!.1 ≤ 1000000 ∧ 1 ≤ ps[j]!.2 ∧ ps[j]!.2 ≤ 1000000000) := fun j hj => HN.out j (by omega)
    have HPQ : Hid (∀ q ∈ ps, 1 ≤ q.2) := fun q hq => by
      obtain ⟨j, hj, rfl⟩ := List.getElem_of_mem hq
      have := HPV.out j (by omega)
      rw [getElem!_pos ps j hj] at this
      omega
    clear HN
    go_wp2_with fail
    go_loopw [14, 15] (fun s v wx => ∃ (i : Nat) (sm : Int), v = .int .i64 (i : Int) ∧ s = .int .i64 sm ∧ i ≤ m ∧ Hid (sm = ((ps.take i).map Prod.snd).sum) ∧ 0 ≤ sm ∧ sm ≤ i * 1000000000 ∧ Hid (RowKit.Below w4.heap.size w4 wx)) (fun _ v _ => m - (intOf v).toNat)
    case atStart => exact ⟨0, 0, rfl, rfl, Nat.zero_le _, (by show _ = _; simp), by omega, by omega, HB⟩
    case round =>
      clear HB dk hi2 hlt
      obtain ⟨i, sm, rfl, rfl, hi2, HSM, hs0, hs1, HB⟩ := hrel
      have HBW : Hid (RowKit.Below w.heap.size w wr) := HB4.out.trans (HB.out.mono HB4.out.size)
      by_cases hlt : i < m
      case pos =>
        have dk : decide ((i : Int) < (m : Int)) = true := by simp; omega
        obtain ⟨b2, o2, rfl, hb2, hb⟩ := recs_at (HPS.out.below HBW.out) hlt
        obtain ⟨y, hy⟩ : ∃ y, ps[i]! = y := ⟨_, rfl⟩
        rw [hy] at hb
        have f0 : wr.cell? ⟨b2, o2 + i * 2, none⟩ = some (.int .i64 y.1) := hb.out 0 (by omega)
        have f1 : wr.cell? ⟨b2, o2 + i * 2 + 1, none⟩ = some (.int .i64 y.2) := hb.out 1 (by omega)
        have hyv := HPV.out i hlt
        rw [hy] at hyv
        have HS2 : Hid (sm + y.2 = ((ps.take (i + 1)).map Prod.snd).sum) := by show _ = _; rw [sum2_take (by omega), hy, HSM.out]
        have u1 : IntKind.i64.wrap (sm + y.2) = sm + y.2 := IntWalk.i64_in _ (by omega)
        have hjj : (i : Int) < (m : Int) := by omega
        have hjz : (0 : Int) ≤ (i : Int) := by omega
        have HSTW : Hid (StAt wr (some ⟨b1, o1, none⟩) n bs) := HX.out.st.below HBW.out
        clear hb hy HSM
        go_wp2_with fail
        refine (HTK.out (some ⟨b1, o1, none⟩) n c bs y.1 wr HSTW.out (by omega)).mono ?_
        rintro e w5 ⟨rfl, b, rfl⟩
        cases b
        case true =>
          go_wp2
          go_ret2
          exact ActR.bad (by decide) HBW.out
        case false =>
        go_wp2_with fail
        go_loopw [16] (fun v wx => ∃ k : Nat, v = .int .i64 (k : Int) ∧ k ≤ i ∧ Hid (RowKit.Below w4.heap.size w4 wx)) (fun v _ => i - (intOf v).toNat)
        case atStart => exact ⟨0, rfl, Nat.zero_le _, HB⟩
        case round =>
          clear f0 f1 HB HBW HSTW
          obtain ⟨k, rfl, hk, HB⟩ := hrel
          have HBW : Hid (RowKit.Below w.heap.size w wr) := HB4.out.trans (HB.out.mono HB4.out.size)
          by_cases hlk : k < i
          case neg =>
            have dk2 : decide ((k : Int) < (i : Int)) = false := by simp; omega
            go_wp2_with fail
            go_roundw
            case rel => exact ⟨i + 1, sm + y.2, by go_num, rfl, by omega, HS2.out, by omega, by omega, HB⟩
            case measure => simp [intOf]; omega
          case pos =>
          have dk2 : decide ((k : Int) < (i : Int)) = true := by simp; omega
          obtain ⟨b3, o3, e3, hb3, hb⟩ := recs_at (HPS.out.below HBW.out) hlt
          injection e3 with e3
          injection e3 with e4 e5
          subst e4 e5
          obtain ⟨b3, o3, e3, hb4, hd⟩ := recs_at (HPS.out.below HBW.out) (show k < m by omega)
          injection e3 with e3
          injection e3 with e4 e5
          subst e4 e5
          have f0 : wr.cell? ⟨b2, o2 + i * 2, none⟩ = some (.int .i64 ps[i]!.1) := hb.out 0 (by omega)
          have f1 : wr.cell? ⟨b2, o2 + k * 2, none⟩ = some (.int .i64 ps[k]!.1) := hd.out 0 (by omega)
          generalize ps[i]!.1 = y0 at f0
          generalize ps[k]!.1 = z0 at f1
          have hkk : (k : Int) < (m : Int) := by omega
          have hkz : (0 : Int) ≤ (k : Int) := by omega
          clear hb hd
          cases dz : (z0 == y0)
          · go_upto_region 27 with (fail)
            go_quiet (fail)
            go_wp2_with fail
            go_roundw
            case rel => exact ⟨k + 1, by go_num, by omega, below_drewN HB.out _⟩
            case measure => simp [intOf]; omega
          · go_upto_region 27 with (fail)
            go_quiet (fail)
            go_wp2
            go_ret2
            exact ActR.bad (by decide) (below_drewN HBW.out _)
      case neg =>
      have dk : decide ((i : Int) < (m : Int)) = false := by simp; omega
      have HBX5 : Hid (Bl wr gx 36 #[.int .i64 x.x.id, .string x.x.code, .int .i64 x.x.qty, .int .i64 x.x.proc, .slice x.A x.n x.c]) := (HB.out.block gx HBX4.out.lt).trans HBX4.out
      have HSM2 : Hid (sm = (ps.map Prod.snd).sum) := by show _ = _; rw [HSM.out, List.take_of_length_le (by omega)]
      have hqty : 1 ≤ x.x.qty ∧ x.x.qty ≤ 1000000000 := HXO.out.qty
      have c2 := HBX5.out.c2
      have c4 := HBX5.out.c4
      clear HSM HBX4
      by_cases gq : sm = x.x.qty
      case neg =>
        have dq : (sm == x.x.qty) = false := by simpa using gq
        go_wp2
        go_ret2
        exact ActR.bad (by decide) HBW.out
      case pos =>
      have dq : (sm == x.x.qty) = true := by simpa using gq
      have HSQ : Hid ((ps.map Prod.snd).sum = x.x.qty) := by show _ = _; rw [← HSM2.out, gq]
      clear gq HSM2
      have un1 : IntKind.i64.wrap ((n : Int) - 1) = (n : Int) - 1 := IntWalk.i64_in _ (by omega)
      have un2 : IntKind.i64.wrap ((n : Int) - 1 + (m : Int)) = (n : Int) - 1 + (m : Int) := IntWalk.i64_in _ (by omega)
      by_cases gl : 64 < (n : Int) - 1 + (m : Int)
      case pos =>
        have dl : decide (64 < (n : Int) - 1 + (m : Int)) = true := decide_eq_true gl
        have dl2 : decide ((n : Int) - 1 + (m : Int) > 64) = true := decide_eq_true gl
        go_wp2
        go_ret2
        exact ActR.bad (by decide) HBW.out
      case neg =>
      have dl : decide (64 < (n : Int) - 1 + (m : Int)) = false := decide_eq_false gl
      have HSX : Hid (SlP wr x.A x.n x.c x.x.sl) := sl_below (HX.out.sl x HXM.out) HBW.out
      have hx64 : x.n ≤ 64 := by have := HSX.out.1.1.recs.1; have := HXO.out.few; omega
      have hcb := cnt29_bounds HXO.out.sls
      have hcl : x.x.sl.length ≤ 64 := HXO.out.few
      obtain ⟨N, hN⟩ : ∃ N, cnt29 x.x.sl = N := ⟨_, rfl⟩
      rw [hN] at hcb
      have HN := Lib.hid hN
      clear hN
      go_wp2_with fail
      refine (HCO.out x.A x.n x.c x.x.sl wr HSX.out.1.1.recs HXO.out.sls (by omega)).mono ?_
      rintro e w5 ⟨rfl, q5, rfl⟩
      rw [HN.out]
      have HB5 : Hid (RowKit.Below w.heap.size w (wr.drewN q5)) := below_drewN HBW.out q5
      have HBX6 : Hid (Bl (wr.drewN q5) gx 36 #[.int .i64 x.x.id, .string x.x.code, .int .i64 x.x.qty, .int .i64 x.x.proc, .slice x.A x.n x.c]) := HBX5.out
      have HSX6 : Hid (SlP (wr.drewN q5) x.A x.n x.c x.x.sl) := HSX.out.below (below_drewN (Below.refl _ _) q5)
      clear HSX HBX5 HBW HB c2 c4
      generalize wr.drewN q5 = w5 at *
      have c2 := HBX6.out.c2
      have c4 := HBX6.out.c4
      go_wp2_with fail
      go_loopw [18, 19, 20, 21, 22] (fun dn cc r l v wx => ∃ (i : Nat) (d1 c1 : Int) (R : Option Addr) (rn rc : Nat) (rs : List Sl) (L : Option Addr) (lc : Nat) (ls : List Lb), v = .int .i64 (i : Int) ∧ dn = .int .i64 d1 ∧ cc = .int .i64 c1 ∧ r = .slice R rn rc ∧ l = .slice L i lc ∧ i ≤ m ∧ 0 ≤ d1 ∧ d1 ≤ N ∧ Hid (c1 = ((ps.take i).map Prod.snd).sum) ∧ Hid (SpI w x.x.sl ps i R rn rc rs L lc ls wx) ∧ Hid (wx.ownsRow w5.heap.size 36 5 (.slice L i lc) i (flat encL ls)) ∧ Hid (RowKit.Below w5.heap.size w5 wx)) (fun _ _ _ _ v _ => m - (intOf v).toNat)
      case atStart => exact ⟨0, 0, 0, x.A, x.n, x.c, x.x.sl, none, 0, [], rfl, rfl, rfl, rfl, rfl, Nat.zero_le _, by omega, by omega, (by show _ = _; simp), ⟨HSX6.out, HXO.out.sls, HXO.out.few, rfl, ⟨by simp [flat], .inl ⟨rfl, rfl⟩⟩, (fun b k => by cases k), (fun b k => by cases k), by simp, ⟨[], by simp [lotsOf, stUnits]⟩, HB5.out⟩, ⟨by simp [flat], .inl ⟨rfl, rfl⟩⟩, Below.refl _ _⟩
      case round =>
        clear c2 c4 dk
        obtain ⟨i, d1, c1, R, rn, rc, rs, L, lc, ls, rfl, rfl, rfl, rfl, rfl, hi2, hd0, hd1, HC1, HI, HO, HB⟩ := hrel
        have HBX7 : Hid (Bl wr gx 36 #[.int .i64 x.x.id, .string x.x.code, .int .i64 x.x.qty, .int .i64 x.x.proc, .slice x.A x.n x.c]) := (HB.out.block gx HBX6.out.lt).trans HBX6.out
        by_cases hlt : i < m
        case pos =>
          have dk : decide ((i : Int) < (m : Int)) = true := by simp; omega
          have HBW : Hid (RowKit.Below w.heap.size w wr) := HI.out.below
          obtain ⟨b2, o2, rfl, hb2, hb⟩ := recs_at HPS.out hlt
          obtain ⟨y, hy⟩ : ∃ y, ps[i]! = y := ⟨_, rfl⟩
          rw [hy] at hb
          have HF0 : Hid (w.cell? ⟨b2, o2 + i * 2, none⟩ = some (.int .i64 y.1)) := hb.out 0 (by omega)
          have HF1 : Hid (w.cell? ⟨b2, o2 + i * 2 + 1, none⟩ = some (.int .i64 y.2)) := hb.out 1 (by omega)
          have HKS : Hid (∀ wx, RowKit.Below w5.heap.size w5 wx → wx.cell? ⟨b2, o2 + i * 2, none⟩ = some (.int .i64 y.1) ∧ wx.cell? ⟨b2, o2 + i * 2 + 1, none⟩ = some (.int .i64 y.2) ∧ wx.cell? ⟨gx, 1, none⟩ = some (.string x.x.code) ∧ wx.cell? ⟨gx, 3, none⟩ = some (.int .i64 x.x.proc)) := fun wx hx => by
            have h1 : RowKit.Below w.heap.size w wx := HB5.out.trans (hx.mono HB5.out.size)
            have h2 : Bl wx gx 36 #[.int .i64 x.x.id, .string x.x.code, .int .i64 x.x.qty, .int .i64 x.x.proc, .slice x.A x.n x.c] := (hx.block gx HBX6.out.lt).trans HBX6.out
            exact ⟨(h1.cell (p := ⟨b2, o2 + i * 2, none⟩) hb2).trans HF0.out, (h1.cell (p := ⟨b2, o2 + i * 2 + 1, none⟩) hb2).trans HF1.out, h2.c1, h2.c3⟩
          have f1 : wr.cell? ⟨b2, o2 + i * 2 + 1, none⟩ = some (.int .i64 y.2) := (HKS.out _ HB.out).2.1
          have hyv := HPV.out i hlt
          rw [hy] at hyv
          have HC2 : Hid (c1 + y.2 = ((ps.take (i + 1)).map Prod.snd).sum) := by show _ = _; rw [sum2_take (by omega), hy, HC1.out]
          have hc0 : 0 ≤ c1 := by have := (sum2_mono HPQ.out i).1; rw [HC1.out]; exact this
          have hc1 : c1 + y.2 ≤ x.x.qty := by have := (sum2_mono HPQ.out (i + 1)).2; rw [HC2.out, ← HSQ.out]; exact this
          have HYI := Lib.hid hy
          have c2 := HBX7.out.c2
          have v1 : IntKind.i64.wrap (c1 + y.2) = c1 + y.2 := IntWalk.i64_in _ (by omega)
          have hjj : (i : Int) < (m : Int) := by omega
          have hjz : (0 : Int) ≤ (i : Int) := by omega
          obtain ⟨bd, hbd⟩ : ∃ bd, N * (c1 + y.2) / x.x.qty = bd := ⟨_, rfl⟩
          have hbd0 : 0 ≤ bd := by rw [← hbd]; exact Int.ediv_nonneg (Int.mul_nonneg hcb.1 (by omega)) (by omega)
          have hbd1 : bd ≤ N := by
            rw [← hbd]
            refine Int.ediv_le_of_le_mul (by omega) ?_
            exact Int.mul_le_mul_of_nonneg_left hc1 hcb.1
          have hN1 : N ≤ 64000000000 := by omega
          clear hb hy
          go_wp2_with fail
          refine (HMD.out N (c1 + y.2) x.x.qty wr hcb.1 (by omega) (by omega) (by omega) (by omega) (by omega) (by rw [hbd]; omega)).mono ?_
          rintro e w6 ⟨rfl, q6, rfl⟩
          rw [hbd]
          have HI6 : Hid (SpI w x.x.sl ps i R rn rc rs L lc ls (wr.drewN q6)) := HI.out.under (below_drewN (Below.refl _ _) q6)
          have HO6 : Hid ((wr.drewN q6).ownsRow w5.heap.size 36 5 (.slice L i lc) i (flat encL ls)) := own_drewN HO.out q6
          have HBX8 : Hid (Bl (wr.drewN q6) gx 36 #[.int .i64 x.x.id, .string x.x.code, .int .i64 x.x.qty, .int .i64 x.x.proc, .slice x.A x.n x.c]) := HBX7.out
          have HB6 : Hid (RowKit.Below w5.heap.size w5 (wr.drewN q6)) := below_drewN HB.out q6
          clear f1 HI HBX7 HB HBW HO c2 hbd
          generalize wr.drewN q6 = W6 at *
          have v2 : IntKind.i64.wrap (bd - d1) = bd - d1 := IntWalk.i64_in _ (by omega)
          have hrl : rs.length = rn := HI6.out.rest.1.1.recs.1
          have hrn : rn ≤ 64 := by have := HI6.out.r64; omega
          go_wp2_with fail
          refine (HTA.out R rn rc rs (bd - d1) me W6 HI6.out.rest.1.1.recs HI6.out.rok hrn HI6.out.rest.1.2.1 HI6.out.rest.1.2.2).mono ?_
          rintro e w7 ⟨B, d, C, d2, fs, gs, er, rfl, htwo, hpart⟩
          have HSF : Hid (SlP w7 B fs.length d fs) := SlP.own htwo.l
          have HSG : Hid (SlP w7 C gs.length d2 gs) := SlP.own htwo.r
          have HI7 : Hid (SpI w x.x.sl ps i R rn rc rs L lc ls w7) := HI6.out.under htwo.below
          have HO7 : Hid (w7.ownsRow w5.heap.size 36 5 (.slice L i lc) i (flat encL ls)) := own_below HO6.out htwo.below
          have HBX9 : Hid (Bl w7 gx 36 #[.int .i64 x.x.id, .string x.x.code, .int .i64 x.x.qty, .int .i64 x.x.proc, .slice x.A x.n x.c]) := (htwo.below.block gx HBX8.out.lt).trans HBX8.out
          have HB7 : Hid (RowKit.Below w5.heap.size w5 w7) := HB6.out.trans (htwo.below.mono HB6.out.size)
          have HPA := Lib.hid hpart
          clear htwo hpart HI6 HBX8 HB6 HO6 hrn hrl
          obtain ⟨kf, hkf⟩ : ∃ kf, fs.length = kf := ⟨_, rfl⟩
          obtain ⟨kg, hkg⟩ : ∃ kg, gs.length = kg := ⟨_, rfl⟩
          have HKF := Lib.hid hkf
          have HKG := Lib.hid hkg
          rw [hkf, hkg]
          clear hkf hkg
          obtain ⟨nb, hnb⟩ : ∃ nb : Lb, nb = ⟨⟨y.1, x.x.code, y.2, x.x.proc, fs⟩, B, kf, d⟩ := ⟨_, rfl⟩
          have HNB := Lib.hid hnb
          have HNE : Hid (encL nb = [.int .i64 y.1, .string x.x.code, .int .i64 y.2, .int .i64 x.x.proc, .slice B kf d]) := by show _ = _; rw [hnb]; rfl
          clear hnb
          have HRD : Hid (Rd (w7.drew.alloc (.cells #[.int .i64 y.1, .string x.x.code, .int .i64 y.2, .int .i64 x.x.proc, .slice B kf d] 36)) 5 (some ⟨w7.drew.heap.size, 0, none⟩) 1 (encL nb)) := by
            show Rd _ _ _ _ _
            rw [HNE.out]
            exact rd_bl (Bl.new _ _ _) rfl
          have HSA : Hid (RowKit.Below w7.heap.size w7 (w7.drew.alloc (.cells #[.int .i64 y.1, .string x.x.code, .int .i64 y.2, .int .i64 x.x.proc, .slice B kf d] 36))) := (Below.refl _ _).drew.alloc (Nat.le_refl _) _
          have HIA : Hid (SpI w x.x.sl ps i R rn rc rs L lc ls (w7.drew.alloc (.cells #[.int .i64 y.1, .string x.x.code, .int .i64 y.2, .int .i64 x.x.proc, .slice B kf d] 36))) := HI7.out.under HSA.out
          have HOA : Hid ((w7.drew.alloc (.cells #[.int .i64 y.1, .string x.x.code, .int .i64 y.2, .int .i64 x.x.proc, .slice B kf d] 36)).ownsRow w5.heap.size 36 5 (.slice L i lc) i (flat encL ls)) := own_alloc (w := w7.drew) HO7.out _
          have HBA : Hid (RowKit.Below w5.heap.size w5 (w7.drew.alloc (.cells #[.int .i64 y.1, .string x.x.code, .int .i64 y.2, .int .i64 x.x.proc, .slice B kf d] 36))) := HB7.out.trans (HSA.out.mono HB7.out.size)
          have HM1 : Hid (i + 1 ≤ maxLen ∧ (i + 1) * 64 ≤ 140737488355328) := ⟨by unfold maxLen; omega, by omega⟩
          have HON := Lib.hid (encL_one nb)
          have HK8 : Hid (∀ w8 : World, (w7.drew.alloc (.cells #[.int .i64 y.1, .string x.x.code, .int .i64 y.2, .int .i64 x.x.proc, .slice B kf d] 36)).grownBy w8 (Value.slice L i lc).ownBlock → RowKit.Below w5.heap.size w5 w8) := fun w8 hg => HBA.out.grown hg HBA.out.size (fun j hj => own_base HOA.out j hj)
          have g0 := (HKS.out _ HB7.out).1
          have g1 := (HKS.out _ HB7.out).2.1
          have g2 := (HKS.out _ HB7.out).2.2.1
          have g3 := (HKS.out _ HB7.out).2.2.2
          have hlt := hlt
          go_upto_region 44 with (fail)
          go_region_held3 (fun w' => w'.cell? ⟨b2, o2 + i * 2, none⟩ = some (.int .i64 y.1) ∧ w'.cell? ⟨b2, o2 + i * 2 + 1, none⟩ = some (.int .i64 y.2) ∧ w'.cell? ⟨gx, 1, none⟩ = some (.string x.x.code) ∧ w'.cell? ⟨gx, 3, none⟩ = some (.int .i64 x.x.proc))
            (first
              | with_reducible exact hk8.out
              | go_keep)
            (first
              | (refine step_append_rd _ (by rfl) (.tmp 176) (.tmp 193) 23 (by rfl) w5.heap.size 36 _ 5 64 Tryz.underlying23 infoLt rfl (by decide) (.slice L i lc) i _ (by rfl) HOA.out (some ⟨w7.drew.heap.size, 0, none⟩) 1 1 (encL nb) (by rfl) HRD.out HON.out HM1.out.1 HM1.out.2 HBA.out.size ?_; intro v8 w8 ho8 hg8; obtain ⟨L8, e8, rfl⟩ := own_slice ho8; have hk8 := Lib.hid (HKS.out _ (HK8.out _ hg8))))
          all_goals
            have hne : 68 ≠ 36 := by decide
            have hI8 : SpI w x.x.sl ps (i + 1) C kg d2 gs L8 e8 (ls ++ [nb]) w8 := by
              have h1 := HKF.out
              have h2 := HKG.out
              subst h1 h2
              refine HIA.out.next (HSF.out.below HSA.out) (HSG.out.below HSA.out) HPA.out (by omega) (by rw [HYI.out]; omega) (by rw [HYI.out]; omega) HXO.out.code HXO.out.proc ?_ (own_mono ho8 HB5.out.size) hg8
              rw [HNB.out, HYI.out]
            have hb8 : RowKit.Below w5.heap.size w5 w8 := HBA.out.grown hg8 HBA.out.size (fun j hj => own_base HOA.out j hj)
            have ho8' : w8.ownsRow w5.heap.size 36 5 (.slice L8 (i + 1) e8) (i + 1) (flat encL (ls ++ [nb])) := by rw [flat_append, flat_one]; exact ho8
            try go_wp2_with fail
            try go_roundw
            all_goals first
            | exact ⟨⟨i + 1, bd, c1 + y.2, C, kg, d2, gs, L8, e8, ls ++ [nb], by go_num, rfl, rfl, rfl, rfl, by omega, hbd0, hbd1, HC2.out, hI8, ho8', hb8⟩, by simp [intOf]; omega⟩
            | exact ⟨i + 1, bd, c1 + y.2, C, kg, d2, gs, L8, e8, ls ++ [nb], by go_num, rfl, rfl, rfl, rfl, by omega, hbd0, hbd1, HC2.out, hI8, ho8', hb8⟩
            | (simp [intOf]; omega)
        case neg =>
        have dk : decide ((i : Int) < (m : Int)) = false := by simp; omega
        obtain rfl : m = i := by omega
        have hlsl : ls.length = m := HI.out.ll
        have hids : ls.map (fun b => b.x.id) = ps.map Prod.fst := by rw [HI.out.ids, List.take_of_length_le (by omega)]
        have HLI : Hid (∀ b ∈ ls, ∃ q ∈ ps, b.x.id = q.1) := fun b hb => by
          have : b.x.id ∈ ps.map Prod.fst := by rw [← hids]; exact List.mem_map.2 ⟨b, hb, rfl⟩
          obtain ⟨q, hq, e⟩ := List.mem_map.1 this
          exact ⟨q, hq, e.symm⟩
        have HLA : Hid (ls.Pairwise (fun a b => a.x.id < b.x.id)) := by
          have h1 : (ps.map Prod.fst).Pairwise (· < ·) := List.pairwise_map.2 HASC.out
          rw [← hids] at h1
          exact List.pairwise_map.1 h1
        clear hids
        have HBA : Hid (RowKit.Below w.heap.size w (wr.alloc (.cells #[.int .i64 id] 3))) := HI.out.below.alloc HI.out.below.size _
        have HIA : Hid (SpI w x.x.sl ps m R rn rc rs L lc ls (wr.alloc (.cells #[.int .i64 id] 3))) := HI.out.under ((Below.refl _ _).alloc (Nat.le_refl _) _)
        have HNI : Hid (Ints (wr.alloc (.cells #[.int .i64 id] 3)) (some ⟨wr.heap.size, 0, none⟩) 1 [id]) := ⟨rfl, fun _ => ⟨wr.heap.size, 0, rfl, by simp, fun j hj => by
          obtain rfl : j = 0 := by omega
          exact (Bl.new wr 3 #[.int .i64 id]).cell 0⟩⟩
        have HRW : Hid (Recs encL 5 (wr.alloc (.cells #[.int .i64 id] 3)) (some ⟨b1, o1, none⟩) n bs) := HX.out.st.lots.recs.below HBA.out
        clear HO HB HBX7 HI HBX6 HSX6
        go_wp2_with fail
        refine (HWO.out (some ⟨b1, o1, none⟩) n c bs (some ⟨wr.heap.size, 0, none⟩) 1 1 [id] _ HRW.out HNI.out (by omega) (by omega)).mono ?_
        rintro e w8 ⟨B8, d8, rfl, ho8, hb8⟩
        have HO8 := Lib.hid ho8
        have HI8 := Lib.hid (HIA.out.under hb8)
        have hsl8 := List.length_filter_le (fun b : Lb => decide (b.x.id ∉ [id])) bs
        have HB8 : Hid (RowKit.Below w.heap.size w w8) := HI8.out.below
        have HORD : Hid (((bs.filter fun b => decide (b.x.id ∉ [id])) ++ ls).Pairwise (fun a b => a.x.id < b.x.id)) := by
          show List.Pairwise _ _
          rw [List.pairwise_append]
          refine ⟨HE.out.pair.sublist List.filter_sublist, HLA.out, fun a ha b hb => ?_⟩
          have h1 := HE.out.idb a (List.filter_sublist.subset ha)
          obtain ⟨q, hq, e⟩ := HLI.out b hb
          have h2 := (HFR.out q hq).1
          omega
        have hcnt : (bs.filter fun b => decide (b.x.id ∉ [id])).length + 1 = n := by
          have h4 := filter_out29 (xs := [id]) HE.out.st.asc (by simp) fun j hj => by
            rw [List.mem_singleton] at hj
            exact ⟨x.x, List.mem_map.2 ⟨x, HXM.out, rfl⟩, by rw [HID.out, hj]⟩
          rw [← lots_out] at h4
          unfold lotsOf at h4
          rw [List.length_map, List.length_map] at h4
          simp only [List.length_cons, List.length_nil] at h4
          omega
        clear ho8 hb8 HNI HRW HBA HIA
        generalize hss : (bs.filter fun b => decide (b.x.id ∉ [id])) = ss at *
        go_wp2_with fail
        refine (HPU.out B8 ss.length d8 ss L m lc ls w8 (Recs.of_own encL_len HO8.out rfl) (Recs.of_own encL_len HI8.out.own hlsl) (by omega) (by omega) HORD.out).mono ?_
        rintro e w9 ⟨B9, d9, rfl, ho9, hb9⟩
        have HB9 : Hid (RowKit.Below w.heap.size w w9) := HB8.out.trans (hb9.mono HB8.out.size)
        have HM9 : Hid (StM w9 B9 (ss ++ ls).length d9 (ss ++ ls)) := StM.own ho9 fun b hb => by
          rcases List.mem_append.1 hb with hb | hb
          · rw [← hss] at hb
            exact sl_below (HX.out.sl b (List.filter_sublist.subset hb)) HB9.out
          · exact (HI8.out.sls b hb).below hb9
        have HR9 : Hid (EstOk (lotsOf (ss ++ ls)) cs free') := by
          show EstOk _ _ _
          have e1 : lotsOf (ss ++ ls) = ((lotsOf bs).filter fun x => decide (x.id ∉ [id])) ++ lotsOf ls := by
            rw [← lots_out, hss]; unfold lotsOf; rw [List.map_append]
          obtain ⟨lost, hu⟩ := HI8.out.units
          have hxs : x.x ∈ lotsOf bs := List.mem_map.2 ⟨x, HXM.out, rfl⟩
          have hnd : (stUnits (lotsOf ls) ++ unitsOf rs ++ lost).Nodup := hu.symm.nodup ((apart_units HXO.out.sls.lt).1 (HE.out.st.apart hxs))
          rw [List.append_assoc, List.nodup_append] at hnd
          rw [e1]
          refine HE.out.over (fun y hy => ?_) ?_ (fun y hy => ?_) HFF.out ?_ hnd.1 fun u hu2 => ?_
          · obtain ⟨b, hb, rfl⟩ := List.mem_map.1 hy
            exact HI8.out.lok b hb
          · exact List.pairwise_map.2 HLA.out
          · obtain ⟨b, hb, rfl⟩ := List.mem_map.1 hy
            obtain ⟨q, hq, e⟩ := HLI.out b hb
            have := HFR.out q hq
            rw [e]
            exact this
          · rw [← lots_out, hss]
            unfold lotsOf
            rw [List.length_map, List.length_map]
            omega
          · exact ⟨x.x, hxs, by rw [HID.out]; simp, hu.mem_iff.1 (by rw [List.append_assoc]; exact List.mem_append.2 (.inl hu2))⟩
        clear ho9 hb9 HORD HO8 HI8
        generalize ss ++ ls = bs6 at *
        go_wp2
        go_ret2
        exact ⟨B9, d9, 0, bs6, rfl, fun _ => ⟨HM9.out, HR9.out⟩, HB9.out⟩
end Go.Proofs.YthnhgjhnkncmiaaGreat

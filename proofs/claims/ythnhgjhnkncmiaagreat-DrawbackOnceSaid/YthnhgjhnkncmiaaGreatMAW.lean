/-
  Words: a Source goes on, nothing else changes; stores into boxes. No statement of the seat is proved here. No conditions.
  Contract of customsmade.DrawbackClaims: valid claims for lots of an estate. No statement of the seat is proved here. Conditions: the estate is sound and lies in memory that the caller knows, the list reads as integers.
  Contract of drawback.Payouts at valid claims. No statement of the seat is proved here. Conditions: the lists read as claims and charges.
  Contract of customsref27.ChargeOf. No statement of the seat is proved here. Conditions: the list reads as charges, at most 1000 of them.
-/
import Derived.Test.YthnhgjhnkncmiaaGreatMAT
import Derived.Test.YthnhgjhnkncmiaaGreatMAJ
import Derived.Test.YthnhgjhnkncmiaaGreatMAM
namespace Go.Proofs.YthnhgjhnkncmiaaGreat
open Go.RowKit
set_option linter.unusedVariables false

theorem Kp.cell29 {g : Nat} {a b : World} (h : Kp g a b) {p : Addr} (hp : a.heap.size ≤ p.block) (v : Value) : Kp g a (b.setCell p v) :=
  ⟨h.os, h.tape, h.output, by simp [World.setCell]; exact h.size, fun k hk hg => (Below.heap_setCell b p v k (by omega)).trans (h.block k hk hg)⟩
/-- The Source goes on and new memory is made, nothing else. -/
structure TrS (gs : Nat) (LA : Option Addr) (m lc J : Nat) (W wx : World) : Prop where
  kp : Kp gs W wx
  src : Src wx gs LA m lc J
section
variable {gs : Nat} {LA : Option Addr} {m lc J : Nat} {W wx w' : World}
theorem TrS.start (h : Src W gs LA m lc J) : TrS gs LA m lc J W W := ⟨Kp.refl _ _, h⟩
theorem TrS.drew (h : TrS gs LA m lc J W wx) : TrS gs LA m lc J W wx.drew := ⟨h.kp.drew, h.src⟩
theorem TrS.alloc (h : TrS gs LA m lc J W wx) (o : Obj) : TrS gs LA m lc J W (wx.alloc o) := ⟨h.kp.alloc o, Bl.alloc h.src o⟩
theorem TrS.only {J' : Nat} (h : TrS gs LA m lc J W wx) (ho : Only gs wx w') (hs : Src w' gs LA m lc J') : TrS gs LA m lc J' W w' := ⟨h.kp.trans ho.kp, hs⟩
theorem TrS.under (h : TrS gs LA m lc J W wx) {N : Nat} {w : World} (hb : RowKit.Below N w W) (hs : N ≤ W.heap.size) (hg : N ≤ gs) : RowKit.Below N w wx := h.kp.under hb hs hg
/-- .. wherever the Source has got to. -/
def TrE (gs : Nat) (LA : Option Addr) (m lc : Nat) (W wx : World) : Prop := ∃ J, TrS gs LA m lc J W wx
theorem TrE.drew (h : TrE gs LA m lc W wx) : TrE gs LA m lc W wx.drew := by obtain ⟨J, h⟩ := h; exact ⟨J, h.drew⟩
theorem TrE.alloc (h : TrE gs LA m lc W wx) (o : Obj) : TrE gs LA m lc W (wx.alloc o) := by obtain ⟨J, h⟩ := h; exact ⟨J, h.alloc o⟩
theorem TrE.size (h : TrE gs LA m lc W wx) : W.heap.size ≤ wx.heap.size := by obtain ⟨J, h⟩ := h; exact h.kp.size
theorem Only.freshd {g : Nat} {w w' : World} {cs : Array Value} {T : TypeId} (ho : Only g (w.alloc (.cells cs T)).drew w') (hg : g < w.heap.size) : Bl w' w.heap.size T cs := (ho.block _ (Nat.ne_of_gt hg)).trans (Bl.new w T cs)
theorem Only.fresh {g : Nat} {w w' : World} {cs : Array Value} {T : TypeId} (ho : Only g (w.alloc (.cells cs T)) w') (hg : g < w.heap.size) : Bl w' w.heap.size T cs := (ho.block _ (Nat.ne_of_gt hg)).trans (Bl.new w T cs)
end
/-- A claim for a lot of an estate is valid. -/
theorem clOk_lot {x : Lt} (h : LtOk x) (ha : Apart x.sl) {s r q : Int} (hs : s = 1 ∨ s = 2) (h0 : 0 ≤ r) (h1 : r ≤ 10000000) (hq : 1 ≤ q) (hq2 : q ≤ 1000000000) : clOk ⟨q, x.id, s, x.qty, r, x.sl⟩ = true := by
  have h2 := slErr_of h.few h.sls ha
  have h3 := h.id
  have h4 := h.qty
  simp [clOk, h2]
  omega
/-- The world behind a store of a claim into a box. -/
theorem set6_bl {w : World} {g : Nat} {T : TypeId} {z0 z1 z2 z3 z4 z5 : Value} (h : Bl w g T #[z0, z1, z2, z3, z4, z5]) (a b c d e f : Value) : Bl ((((((w.setCell ⟨g, 0, none⟩ a).setCell ⟨g, 1, none⟩ b).setCell ⟨g, 2, none⟩ c).setCell ⟨g, 3, none⟩ d).setCell ⟨g, 4, none⟩ e).setCell ⟨g, 5, none⟩ f) g T #[a, b, c, d, e, f] := by
  have := (((((h.put 0 a).put 1 b).put 2 c).put 3 d).put 4 e).put 5 f
  simpa using this
theorem TrS.set5 {gs : Nat} {LA : Option Addr} {m lc J : Nat} {W w : World} (h : TrS gs LA m lc J W w) {g : Nat} (hg : W.heap.size ≤ g) (hne : gs ≠ g) (a b c d e : Value) : TrS gs LA m lc J W (((((w.setCell ⟨g, 0, none⟩ a).setCell ⟨g, 1, none⟩ b).setCell ⟨g, 2, none⟩ c).setCell ⟨g, 3, none⟩ d).setCell ⟨g, 4, none⟩ e) :=
  ⟨((((h.kp.cell29 (p := ⟨g, 0, none⟩) hg _).cell29 (p := ⟨g, 1, none⟩) hg _).cell29 (p := ⟨g, 2, none⟩) hg _).cell29 (p := ⟨g, 3, none⟩) hg _).cell29 (p := ⟨g, 4, none⟩) hg _, Bl.far5 h.src hne _ _ _ _ _⟩
theorem TrS.set6 {gs : Nat} {LA : Option Addr} {m lc J : Nat} {W w : World} (h : TrS gs LA m lc J W w) {g : Nat} (hg : W.heap.size ≤ g) (hne : gs ≠ g) (a b c d e f : Value) : TrS gs LA m lc J W ((((((w.setCell ⟨g, 0, none⟩ a).setCell ⟨g, 1, none⟩ b).setCell ⟨g, 2, none⟩ c).setCell ⟨g, 3, none⟩ d).setCell ⟨g, 4, none⟩ e).setCell ⟨g, 5, none⟩ f) :=
  ⟨(h.set5 hg hne a b c d e).kp.cell29 (p := ⟨g, 5, none⟩) hg _, Bl.far (p := ⟨g, 5, none⟩) (h.set5 hg hne a b c d e).src hne _⟩
theorem TrE.set6 {gs : Nat} {LA : Option Addr} {m lc : Nat} {W w : World} (h : TrE gs LA m lc W w) {g : Nat} (hg : W.heap.size ≤ g) (hne : gs ≠ g) (a b c d e f : Value) : TrE gs LA m lc W ((((((w.setCell ⟨g, 0, none⟩ a).setCell ⟨g, 1, none⟩ b).setCell ⟨g, 2, none⟩ c).setCell ⟨g, 3, none⟩ d).setCell ⟨g, 4, none⟩ e).setCell ⟨g, 5, none⟩ f) := by
  obtain ⟨J, h⟩ := h
  exact ⟨J, h.set6 hg hne a b c d e f⟩
theorem bl6 {w : World} {g : Nat} {T : TypeId} {z0 z1 z2 z3 z4 z5 : Value} (h : Bl w g T #[z0, z1, z2, z3, z4, z5]) : (w.cell? ⟨g, 0, none⟩ = some z0 ∧ w.cell? ⟨g, 1, none⟩ = some z1 ∧ w.cell? ⟨g, 2, none⟩ = some z2 ∧ w.cell? ⟨g, 3, none⟩ = some z3 ∧ w.cell? ⟨g, 4, none⟩ = some z4 ∧ w.cell? ⟨g, 5, none⟩ = some z5) ∧ (w.frozen? ⟨g, 0, none⟩ = false ∧ w.frozen? ⟨g, 1, none⟩ = false ∧ w.frozen? ⟨g, 2, none⟩ = false ∧ w.frozen? ⟨g, 3, none⟩ = false ∧ w.frozen? ⟨g, 4, none⟩ = false ∧ w.frozen? ⟨g, 5, none⟩ = false) :=
  ⟨⟨h.cell 0, h.cell 1, h.cell 2, h.cell 3, h.cell 4, h.cell 5⟩, h.free 0, h.free 1, h.free 2, h.free 3, h.free 4, h.free 5⟩
end Go.Proofs.YthnhgjhnkncmiaaGreat

namespace Go.Proofs.YthnhgjhnkncmiaaGreat
open Go.RowKit
set_option linter.unusedVariables false

/-- A claim for one of the first lots. -/
structure ClmOf (s : List Lt) (i : Nat) (c : Clm) : Prop where
  lot : ∃ j, j < i ∧ j < s.length ∧ c.lot = s[j]!.id ∧ c.qty = s[j]!.qty ∧ c.sl = s[j]!.sl
  sch : c.sch = 1 ∨ c.sch = 2
  rate : 0 ≤ c.rate ∧ c.rate ≤ 10000000
  num : 1 ≤ c.num ∧ c.num ≤ 3 * (i : Int)
theorem ClmOf.mono {s : List Lt} {i k : Nat} {c : Clm} (h : ClmOf s i c) (hk : i ≤ k) : ClmOf s k c := by
  obtain ⟨j, h1, h2, h3⟩ := h.lot
  exact ⟨⟨j, by omega, h2, h3⟩, h.sch, h.rate, by have := h.num; omega⟩
/-- Claims made so far. -/
structure DcW (W1 wx : World) (gs : Nat) (LA : Option Addr) (m lc J : Nat) (CA : Option Addr) (cn cd : Nat) (xs : List Cb) : Prop where
  src : Src wx gs LA m lc J
  own : wx.ownsRow W1.heap.size 39 6 (.slice CA cn cd) cn (flat encCl xs)
  len : xs.length = cn
  below : RowKit.Below W1.heap.size W1 wx
  base : W1.heap.size ≤ gs
section
variable {W1 wx w' : World} {gs : Nat} {LA : Option Addr} {m lc J J' : Nat} {CA : Option Addr} {cn cd : Nat} {xs : List Cb}
theorem DcW.tr (h : DcW W1 wx gs LA m lc J CA cn cd xs) (ht : TrS gs LA m lc J' wx w') : DcW W1 w' gs LA m lc J' CA cn cd xs :=
  ⟨ht.src, own_of_block h.own fun g hg => ht.kp.block g (own_lt h.own g hg) (fun e => own_far29 h.own h.src (by decide) (hg.trans (congrArg some e))), h.len, ht.under h.below h.below.size h.base, h.base⟩
theorem DcW.under (h : DcW W1 wx gs LA m lc J CA cn cd xs) (hb : RowKit.Below wx.heap.size wx w') : DcW W1 w' gs LA m lc J CA cn cd xs :=
  ⟨(hb.block gs h.src.lt).trans h.src, own_below h.own hb, h.len, h.below.trans (hb.mono h.below.size), h.base⟩
theorem DcW.app (h : DcW W1 wx gs LA m lc J CA cn cd xs) {o : Obj} {B9 : Option Addr} {d9 : Nat} {b : Cb} (ho : w'.ownsRow W1.heap.size 39 6 (.slice B9 (cn + 1) d9) (cn + 1) (flat encCl xs ++ encCl b)) (hg : (wx.alloc o).grownBy w' (Value.slice CA cn cd).ownBlock) : DcW W1 w' gs LA m lc J B9 (cn + 1) d9 (xs ++ [b]) := by
  have h1 := h.under ((Below.refl _ _).alloc (Nat.le_refl _) o)
  exact ⟨(hg.block gs h1.src.lt (fun e => own_far29 h1.own h1.src (by decide) e.symm)).trans h1.src, by rw [flat_append, flat_one]; exact ho, by rw [List.length_append, h.len]; rfl, h1.below.grown hg h1.below.size (fun j hj => own_base h1.own j hj), h.base⟩
/-- A box of another type stays behind an append. -/
theorem DcW.box (h : DcW W1 wx gs LA m lc J CA cn cd xs) {o : Obj} {g : Nat} {T : TypeId} {cs : Array Value} (hb : Bl wx g T cs) (hne : 39 ≠ T) (hg : (wx.alloc o).grownBy w' (Value.slice CA cn cd).ownBlock) : Bl w' g T cs := by
  have h1 := h.under ((Below.refl _ _).alloc (Nat.le_refl _) o)
  have h2 := Bl.alloc hb o
  exact (hg.block g h2.lt (fun e => own_far29 h1.own h2 hne e.symm)).trans h2
end
/-- What DrawbackClaims returns. -/
def DclRes (w : World) (s : List Lt) (e : Ending) (w' : World) : Prop := ∃ (CA : Option Addr) (cn cd : Nat) (xs : List Cb), e = .returned (.slice CA cn cd) ∧ cn ≤ cd ∧ ClAt w' CA cn xs ∧ ClsOk (clms xs) ∧ (∀ b ∈ xs, ClmOf s s.length b.x) ∧ RowKit.Below w.heap.size w w' ∧ w'.ownsRow w.heap.size 39 6 (.slice CA cn cd) cn (flat encCl xs) ∧ ∀ b ∈ xs, TyA w' b.A 68
theorem claims_more {s : List Lt} {cs : List Clm} {i : Nat} {c : Clm} (hs : StOk s) (hi : i < s.length) (h : ClsOk cs) (hf : ∀ x ∈ cs, ClmOf s i x) (hl : cs.length < 64) (hc : clOk c = true) (hn : 3 * (i : Int) < c.num) (hsl : c.sl = s[i]!.sl) : ClsOk (cs ++ [c]) := by
  refine h.add hc hl (fun x hx => by have := (hf x hx).num; omega) ((h.more hc).2 ?_)
  rintro ⟨x, hx, hm⟩
  obtain ⟨j, hj, hj2, _, _, e⟩ := (hf x hx).lot
  rw [e, hsl] at hm
  exact hs.meet hj hi hm
set_option maxRecDepth 100000 in
set_option maxHeartbeats 32000000 in
theorem DrawbackClaims_any (SA : Option Addr) (sn sc : Nat) (bs : List Lb) (B : Option Addr) (k d0 : Nat) (cs : List Ch) (free : Int) (A1 : Option Addr) (n1 c1 : Nat) (xs1 : List Int) (w : World) (hst : StM w SA sn sc bs) (hok : EstOk (lotsOf bs) cs free) (h1 : Ints w A1 n1 xs1) (hnc1 : n1 ≤ c1) (hcm1 : c1 ≤ 9223372036854775807) :
    Calls Tryz.prog 18 #[.agg #[.slice SA sn sc, .slice B k d0, .int .i64 free], .slice A1 n1 c1] w (DclRes w (lotsOf bs)) := by
  have hT := h1.take (m := min n1 40) (by omega)
  obtain ⟨m, hm⟩ : ∃ m, m = min n1 40 := ⟨_, rfl⟩
  have HB1 : Hid (RowKit.Below w.heap.size w (w.alloc (.cells #[.slice SA sn sc, .slice B k d0, .int .i64 free] 26))) := (Below.refl _ _).alloc (Nat.le_refl _) _
  have HC : Hid (Calls Tryz.prog 8 #[.slice A1 n1 c1, .int .i64 40] (w.alloc (.cells #[.slice SA sn sc, .slice B k d0, .int .i64 free] 26)) fun e w' => e = .returned (.slice A1 m c1) ∧ w.alloc (.cells #[.slice SA sn sc, .slice B k d0, .int .i64 free] 26) = w') := by
    rw [hm]
    exact cut_any A1 n1 c1 40 xs1 _ (h1.below HB1.out) hnc1 hcm1 (by omega) (by omega)
  rw [← hm] at hT
  have hm1 : m ≤ 40 := by omega
  have HST : Hid (StM (w.alloc (.cells #[.slice SA sn sc, .slice B k d0, .int .i64 free] 26)) SA sn sc bs) := hst.below HB1.out
  have HI1 : Hid (Ints (w.alloc (.cells #[.slice SA sn sc, .slice B k d0, .int .i64 free] 26)) A1 m (xs1.take m)) := hT.below HB1.out
  have HX1 : Hid (Bl (w.alloc (.cells #[.slice SA sn sc, .slice B k d0, .int .i64 free] 26)) w.heap.size 26 #[.slice SA sn sc, .slice B k d0, .int .i64 free]) := Bl.new _ _ _
  have HOK := Lib.hid hok
  have hsl : bs.length = sn := hst.len
  have hs64 : sn ≤ 64 := by rw [← hsl]; exact hok.few
  have HLL : Hid ((lotsOf bs).length = sn) := by show _ = _; rw [← hsl]; simp [lotsOf]
  clear hm hT h1 hst hok hnc1 hcm1
  go_enter Tryz.func18, Tryz.ntmps18
  go_upto_region 1 with (fail)
  generalize w.alloc (.cells #[.slice SA sn sc, .slice B k d0, .int .i64 free] 26) = W1 at *
  obtain ⟨gx, hgx⟩ : ∃ gx, w.heap.size = gx := ⟨_, rfl⟩
  rw [hgx] at HX1 ⊢
  have HGX := Lib.hid hgx
  clear hgx
  go_wp2_with fail
  refine HC.out.mono ?_
  rintro e wz ⟨rfl, rfl⟩
  have HL0 : Hid (DcW W1 (W1.alloc (.cells #[.slice A1 m c1, .int .i64 0] 31)) W1.heap.size A1 m c1 0 none 0 0 []) := ⟨Bl.new W1 _ _, ⟨by simp [flat], .inl ⟨rfl, rfl⟩⟩, rfl, (Below.refl _ _).alloc (Nat.le_refl _) _, Nat.le_refl _⟩
  clear HC
  go_upto_region 3 with (fail)
  generalize W1.alloc (.cells #[.slice A1 m c1, .int .i64 0] 31) = W0 at *
  obtain ⟨gs, hgs⟩ : ∃ gs, W1.heap.size = gs := ⟨_, rfl⟩
  rw [hgs] at HL0 ⊢
  have HGS := Lib.hid hgs
  clear hgs
  go_wp2_with fail
  go_loopw [6, 7] (fun s v wx => ∃ (i : Nat) (CA : Option Addr) (cn cd : Nat) (xs : List Cb) (J : Nat), s = .slice CA cn cd ∧ v = .int .i64 (i : Int) ∧ i ≤ sn ∧ cn ≤ i ∧ Hid (DcW W1 wx gs A1 m c1 J CA cn cd xs) ∧ Hid (ClsOk (clms xs)) ∧ Hid (∀ b ∈ xs, ClmOf (lotsOf bs) i b.x) ∧ Hid (∀ b ∈ xs, (SlAt W1 b.A b.n b.x.sl ∧ b.n ≤ b.c ∧ b.c ≤ 9223372036854775807) ∧ TyA W1 b.A 68)) (fun _ v _ => sn - (intOf v).toNat)
  case atStart => exact ⟨0, none, 0, 0, [], 0, rfl, rfl, by omega, by omega, HL0, ClsOk.nil, (fun b hb => by cases hb), fun b hb => by cases hb⟩
  case round =>
    clear HL0
    obtain ⟨i, CA, cn, cd, xs, J, rfl, rfl, hi, hci, HL, HCO, HOF, HSL⟩ := hrel
    have c0 : wr.cell? ⟨gx, 0, none⟩ = some (.slice SA sn sc) := (HX1.out.keep HL.out.below).cell 0
    by_cases hlt : i < sn
    case neg =>
      have d1 : decide ((i : Int) < (sn : Int)) = false := by simp; omega
      have HR : Hid (DclRes w (lotsOf bs) (.returned (.slice CA cn cd)) wr) := ⟨CA, cn, cd, xs, rfl, (own_boundsF HL.out.own).1, ⟨RRd.own encCl_len HL.out.own HL.out.len, fun b hb => ⟨(HSL.out b hb).1.1.below HL.out.below, (HSL.out b hb).1.2⟩⟩, HCO.out, fun b hb => (HOF.out b hb).mono (by rw [HLL.out]; exact hi), HB1.out.trans (HL.out.below.mono HB1.out.size), own_mono HL.out.own HB1.out.size, fun b hb => (HSL.out b hb).2.below HL.out.below⟩
      go_wp2
      go_ret
      exact HR.out
    case pos =>
    have d1 : decide ((i : Int) < (sn : Int)) = true := by simp; omega
    by_cases h12 : cn < 12
    case neg =>
      have d2 : decide ((cn : Int) < 12) = false := by simp; omega
      have d2b : decide (cn < 12) = false := decide_eq_false h12
      have HR : Hid (DclRes w (lotsOf bs) (.returned (.slice CA cn cd)) wr) := ⟨CA, cn, cd, xs, rfl, (own_boundsF HL.out.own).1, ⟨RRd.own encCl_len HL.out.own HL.out.len, fun b hb => ⟨(HSL.out b hb).1.1.below HL.out.below, (HSL.out b hb).1.2⟩⟩, HCO.out, fun b hb => (HOF.out b hb).mono (by rw [HLL.out]; exact hi), HB1.out.trans (HL.out.below.mono HB1.out.size), own_mono HL.out.own HB1.out.size, fun b hb => (HSL.out b hb).2.below HL.out.below⟩
      go_wp2
      go_ret
      exact HR.out
    case pos =>
    have d2 : decide ((cn : Int) < 12) = true := by simp; omega
    have d2b : decide (cn < 12) = true := decide_eq_true h12
    obtain ⟨b1, o1, rfl, hb1, ha⟩ := recs_at (HST.out.below HL.out.below).st.lots.recs hlt
    obtain ⟨y, hy⟩ : ∃ y, bs[i]! = y := ⟨_, rfl⟩
    rw [hy] at ha
    have hmem : y ∈ bs := by rw [← hy]; exact get_memK (by omega)
    have HSY : Hid ((SlAt W1 y.A y.n y.x.sl ∧ y.n ≤ y.c ∧ y.c ≤ 9223372036854775807) ∧ TyA W1 y.A 68) := HST.out.sl y hmem
    have HYM : Hid (y.x ∈ lotsOf bs) := List.mem_map.2 ⟨y, hmem, rfl⟩
    have HYI : Hid ((lotsOf bs)[i]! = y.x) := by
      show _ = _
      rw [getElem!_pos (lotsOf bs) i (by rw [HLL.out]; exact hlt), ← hy, getElem!_pos bs i (by omega)]
      simp [lotsOf]
    have a0 : wr.cell? ⟨b1, o1 + i * 5, none⟩ = some (.int .i64 y.x.id) := ha.out 0 (by omega)
    have a1 : wr.cell? ⟨b1, o1 + i * 5 + 1, none⟩ = some (.string y.x.code) := ha.out 1 (by omega)
    have a2 : wr.cell? ⟨b1, o1 + i * 5 + 2, none⟩ = some (.int .i64 y.x.qty) := ha.out 2 (by omega)
    have a3 : wr.cell? ⟨b1, o1 + i * 5 + 3, none⟩ = some (.int .i64 y.x.proc) := ha.out 3 (by omega)
    have a4 : wr.cell? ⟨b1, o1 + i * 5 + 4, none⟩ = some (.slice y.A y.n y.c) := ha.out 4 (by omega)
    have hii : (i : Int) < (sn : Int) := by omega
    have hiz : (0 : Int) ≤ (i : Int) := by omega
    have HL7 : Hid (DcW W1 (wr.alloc (.cells #[.int .i64 y.x.id, .string y.x.code, .int .i64 y.x.qty, .int .i64 y.x.proc, .slice y.A y.n y.c] 36)) gs A1 m c1 J CA cn cd xs) := HL.out.under ((Below.refl _ _).alloc (Nat.le_refl _) _)
    have HY7 : Hid (Bl (wr.alloc (.cells #[.int .i64 y.x.id, .string y.x.code, .int .i64 y.x.qty, .int .i64 y.x.proc, .slice y.A y.n y.c] 36)) wr.heap.size 36 #[.int .i64 y.x.id, .string y.x.code, .int .i64 y.x.qty, .int .i64 y.x.proc, .slice y.A y.n y.c]) := Bl.new _ _ _
    clear ha hy hmem
    go_upto_region 7 with (fail)
    clear a0 a1 a2 a3 a4 c0 d1 d2 d2b hb1 HL
    generalize wr.alloc (.cells #[.int .i64 y.x.id, .string y.x.code, .int .i64 y.x.qty, .int .i64 y.x.proc, .slice y.A y.n y.c] 36) = W7 at *
    generalize wr.heap.size = gy at *
    have u1 : IntKind.i64.wrap ((i : Int) + 1) = (i : Int) + 1 := IntWalk.i64_in _ (by omega)
    have HN7 := Lib.hid (next_any gs A1 m c1 J (xs1.take m) 2 W1 W7 HL7.out.src HI1.out HL7.out.below HL7.out.base (by omega) (by decide) (by decide))
    have hvb := nextV_bounds (xs1.take m) m J 2 (by decide)
    obtain ⟨v, hv⟩ : ∃ v, nextV (xs1.take m) m J 2 = v := ⟨_, rfl⟩
    rw [hv] at HN7 hvb
    clear hv
    go_wp2_with fail
    refine HN7.out.mono ?_
    rintro e w8 ⟨rfl, ho8, hs8⟩
    have HTR : Hid (TrS gs A1 m c1 (nextI m J) W7 w8) := (TrS.start HL7.out.src).only ho8 hs8
    have HL8 : Hid (DcW W1 w8 gs A1 m c1 (nextI m J) CA cn cd xs) := HL7.out.tr HTR.out
    have HY8 : Hid (Bl w8 gy 36 #[.int .i64 y.x.id, .string y.x.code, .int .i64 y.x.qty, .int .i64 y.x.proc, .slice y.A y.n y.c]) := HTR.out.kp.bl HY7.out (bl_inj HY7.out HL7.out.src (by decide))
    clear ho8 hs8 HTR HL7 HY7 HN7
    generalize nextI m J = J8 at *
    have y3 : w8.cell? ⟨gy, 3, none⟩ = some (.int .i64 y.x.proc) := HY8.out.cell 3
    have HOF1 : Hid (∀ b ∈ xs, ClmOf (lotsOf bs) (i + 1) b.x) := fun b hb => (HOF.out b hb).mono (by omega)
    by_cases hv0 : v = 0
    case pos =>
      have e0 : (v == 0) = true := by simpa using hv0
      clear hv0 hvb
      go_wp2_with fail
      go_roundw
      case rel => exact ⟨i + 1, CA, cn, cd, xs, J8, rfl, by go_num, by omega, by omega, HL8, HCO, HOF1, HSL⟩
      case measure => simp [intOf]; omega
    case neg =>
    have e0 : (v == 0) = false := by simpa using hv0
    by_cases hp13 : y.x.proc = 13
    case pos =>
      have e1 : (y.x.proc == 13) = true := by simpa using hp13
      clear hv0 hvb hp13
      go_wp2_with fail
      go_roundw
      case rel => exact ⟨i + 1, CA, cn, cd, xs, J8, rfl, by go_num, by omega, by omega, HL8, HCO, HOF1, HSL⟩
      case measure => simp [intOf]; omega
    case neg =>
    have e1 : (y.x.proc == 13) = false := by simpa using hp13
    clear hv0 hvb hp13
    go_upto_region 8 with (fail)
    clear e0 e1 y3
    have HNE : Hid (gy ≠ gs) := bl_inj HY8.out HL8.out.src (by decide)
    have HU : Hid (∀ wx, TrE gs A1 m c1 w8 wx → RowKit.Below W1.heap.size W1 wx) := fun wx ht => by
      obtain ⟨J', ht⟩ := ht
      exact ht.under HL8.out.below HL8.out.below.size HL8.out.base
    have HNX : Hid (∀ (k : Int) wx, TrE gs A1 m c1 w8 wx → 0 < k → k ≤ 5000 → Calls Tryz.prog 10 #[.pointer (some ⟨gs, 0, none⟩), .int .i64 k] wx fun e w' => ∃ v : Int, e = .returned (.int .i64 v) ∧ (0 ≤ v ∧ v < k) ∧ TrE gs A1 m c1 w8 w') := fun k wx ht h1 h2 => by
      obtain ⟨J', ht'⟩ := ht
      exact (next_any gs A1 m c1 J' (xs1.take m) k W1 wx ht'.src HI1.out (HU.out _ ⟨J', ht'⟩) HL8.out.base (by omega) h1 (by omega)).mono fun e w' ⟨h3, h4, h5⟩ => ⟨_, h3, nextV_bounds (xs1.take m) m J' k h1, _, ht'.only h4 h5⟩
    have HN3 : Hid (∀ wx, TrE gs A1 m c1 w8 wx → Calls Tryz.prog 10 #[.pointer (some ⟨gs, 0, none⟩), .int .i64 3] wx fun e w' => ∃ v : Int, e = .returned (.int .i64 v) ∧ (0 ≤ v ∧ v < 3) ∧ TrE gs A1 m c1 w8 w') := fun wx ht => HNX.out 3 wx ht (by decide) (by decide)
    have HN2 : Hid (∀ wx, TrE gs A1 m c1 w8 wx → Calls Tryz.prog 10 #[.pointer (some ⟨gs, 0, none⟩), .int .i64 2] wx fun e w' => ∃ v : Int, e = .returned (.int .i64 v) ∧ (0 ≤ v ∧ v < 2) ∧ TrE gs A1 m c1 w8 w') := fun wx ht => HNX.out 2 wx ht (by decide) (by decide)
    have HNR : Hid (∀ wx, TrE gs A1 m c1 w8 wx → Calls Tryz.prog 37 #[.pointer (some ⟨gs, 0, none⟩), .int .i64 3000, .int .i64 10000001] wx fun e w' => ∃ v : Int, e = .returned (.int .i64 v) ∧ (0 ≤ v ∧ v < 10000001) ∧ TrE gs A1 m c1 w8 w') := fun wx ht => by
      obtain ⟨J', ht'⟩ := ht
      refine (small29_any gs A1 m c1 J' (xs1.take m) 3000 10000001 W1 wx ht'.src HI1.out (HU.out _ ⟨J', ht'⟩) HL8.out.base (by omega) (by decide) (by decide) (by decide)).mono ?_
      rintro e w' ⟨v, J2, h3, h4, h5, _, _, h6, h7⟩
      exact ⟨v, h3, ⟨h4, h5⟩, J2, ht'.only h6 h7⟩
    have HS : Hid (∀ wx, TrE gs A1 m c1 w8 wx → (wx.cell? ⟨gy, 0, none⟩ = some (.int .i64 y.x.id) ∧ wx.cell? ⟨gy, 2, none⟩ = some (.int .i64 y.x.qty) ∧ wx.cell? ⟨gy, 4, none⟩ = some (.slice y.A y.n y.c))) := fun wx ht => by
      obtain ⟨J', ht'⟩ := ht
      have hk := ht'.kp.bl HY8.out HNE.out
      exact ⟨hk.cell 0, hk.cell 2, hk.cell 4⟩
    have HS9 : Hid (∀ wx o w', TrE gs A1 m c1 w8 wx → (wx.alloc o).grownBy w' (Value.slice CA cn cd).ownBlock → (w'.cell? ⟨gy, 0, none⟩ = some (.int .i64 y.x.id) ∧ w'.cell? ⟨gy, 2, none⟩ = some (.int .i64 y.x.qty) ∧ w'.cell? ⟨gy, 4, none⟩ = some (.slice y.A y.n y.c))) := fun wx o w' ht hg => by
      obtain ⟨J', ht'⟩ := ht
      have hk := (HL8.out.tr ht').box (ht'.kp.bl HY8.out HNE.out) (by decide) hg
      exact ⟨hk.cell 0, hk.cell 2, hk.cell 4⟩
    have HOA : Hid (∀ wx o, TrE gs A1 m c1 w8 wx → (wx.alloc o).ownsRow W1.heap.size 39 6 (.slice CA cn cd) cn (flat encCl xs)) := fun wx o ht => by
      obtain ⟨J', ht'⟩ := ht
      exact own_alloc (HL8.out.tr ht').own o
    have HRD : Hid (∀ (wx : World) (v3 v2 vr : Int), Rd (wx.alloc (.cells #[.int .i64 (3 * (i : Int) + 1 + v3), .int .i64 y.x.id, .int .i64 (1 + v2), .int .i64 y.x.qty, .int .i64 vr, .slice y.A y.n y.c] 39)) 6 (some ⟨wx.heap.size, 0, none⟩) 1 (encCl ⟨⟨3 * (i : Int) + 1 + v3, y.x.id, 1 + v2, y.x.qty, vr, y.x.sl⟩, y.A, y.n, y.c⟩)) := fun wx v3 v2 vr => rd_bl (xs := encCl ⟨⟨3 * (i : Int) + 1 + v3, y.x.id, 1 + v2, y.x.qty, vr, y.x.sl⟩, y.A, y.n, y.c⟩) (Bl.new _ _ _) rfl
    have HSZ : Hid (∀ wx (o : Obj), TrE gs A1 m c1 w8 wx → W1.heap.size ≤ (wx.alloc o).heap.size) := fun wx o ht => Nat.le_trans (HU.out _ ht).size (by simp)
    have HM1 : Hid (cn + 1 ≤ maxLen ∧ (cn + 1) * 64 ≤ 140737488355328) := ⟨by unfold maxLen; omega, by omega⟩
    have hk00 : Hid (TrE gs A1 m c1 w8 w8) := ⟨_, TrS.start HL8.out.src⟩
    have hk0 : Hid (TrE gs A1 m c1 w8 w8.drew) := TrE.drew hk00.out
    have y0 := (HS.out _ hk00.out).1
    have y2 := (HS.out _ hk00.out).2.1
    have y4 := (HS.out _ hk00.out).2.2
    have u5 : IntKind.i64.wrap (3 * (i : Int)) = 3 * (i : Int) := IntWalk.i64_in _ (by omega)
    have u6 : IntKind.i64.wrap (3 * (i : Int) + 1) = 3 * (i : Int) + 1 := IntWalk.i64_in _ (by omega)
    clear HNX
    go_region_held3 (fun wx => wx.cell? ⟨gy, 0, none⟩ = some (.int .i64 y.x.id) ∧ wx.cell? ⟨gy, 2, none⟩ = some (.int .i64 y.x.qty) ∧ wx.cell? ⟨gy, 4, none⟩ = some (.slice y.A y.n y.c))
      (first
        | with_reducible exact hk9.out
        | with_reducible exact HS.out _ hkc.out
        | with_reducible exact HS.out _ (TrE.alloc hkc.out _)
        | with_reducible exact HS.out _ hkb.out
        | with_reducible exact HS.out _ hka.out
        | with_reducible exact HS.out _ hk0.out
        | with_reducible exact HS.out _ hk00.out)
      (first
        | (refine step_append_rd _ (by rfl) (.tmp 38) (.tmp 57) 32 (by rfl) W1.heap.size 39 _ 6 64 Tryz.underlying32 infoCl rfl (by decide) (.slice CA cn cd) cn _ (by rfl) (HOA.out wc _ hkc.out) (some ⟨wc.heap.size, 0, none⟩) 1 1 (encCl ⟨⟨3 * (i : Int) + 1 + v3, y.x.id, 1 + v2, y.x.qty, vr, y.x.sl⟩, y.A, y.n, y.c⟩) (by rfl) (HRD.out wc v3 v2 vr) (encCl_one _) HM1.out.1 HM1.out.2 (HSZ.out wc _ hkc.out) ?_; intro v9 w9 ho9 hg9; obtain ⟨B9, d9, rfl⟩ := own_slice ho9; have hk9 := Lib.hid (HS9.out _ _ _ hkc.out hg9))
        | (go_at_call 10; with_reducible (refine (HN3.out _ hkb.out).mono ?_); rintro e wc ⟨v3, rfl, hv3, htc⟩; have hkc := Lib.hid htc; have u3 : IntKind.i64.wrap (3 * (i : Int) + 1 + v3) = 3 * (i : Int) + 1 + v3 := IntWalk.i64_in _ (by omega))
        | (go_at_call 10; with_reducible (refine (HN2.out _ hkb.out).mono ?_); rintro e wc ⟨v2, rfl, hv2, htc⟩; have hkc := Lib.hid htc; have u2 : IntKind.i64.wrap (1 + v2) = 1 + v2 := IntWalk.i64_in _ (by omega))
        | (go_at_call 37; with_reducible (refine (HNR.out _ hkb.out).mono ?_); rintro e wc ⟨vr, rfl, hvr, htc⟩; have hkc := Lib.hid htc)
        | (go_at_call 10; with_reducible (refine (HN3.out _ hka.out).mono ?_); rintro e wb ⟨v3, rfl, hv3, htb⟩; have hkb := Lib.hid htb; have u3 : IntKind.i64.wrap (3 * (i : Int) + 1 + v3) = 3 * (i : Int) + 1 + v3 := IntWalk.i64_in _ (by omega))
        | (go_at_call 10; with_reducible (refine (HN2.out _ hka.out).mono ?_); rintro e wb ⟨v2, rfl, hv2, htb⟩; have hkb := Lib.hid htb; have u2 : IntKind.i64.wrap (1 + v2) = 1 + v2 := IntWalk.i64_in _ (by omega))
        | (go_at_call 37; with_reducible (refine (HNR.out _ hka.out).mono ?_); rintro e wb ⟨vr, rfl, hvr, htb⟩; have hkb := Lib.hid htb)
        | (go_at_call 10; with_reducible (refine (HN3.out _ hk0.out).mono ?_); rintro e wa ⟨v3, rfl, hv3, hta⟩; have hka := Lib.hid hta; have u3 : IntKind.i64.wrap (3 * (i : Int) + 1 + v3) = 3 * (i : Int) + 1 + v3 := IntWalk.i64_in _ (by omega))
        | (go_at_call 10; with_reducible (refine (HN2.out _ hk0.out).mono ?_); rintro e wa ⟨v2, rfl, hv2, hta⟩; have hka := Lib.hid hta; have u2 : IntKind.i64.wrap (1 + v2) = 1 + v2 := IntWalk.i64_in _ (by omega))
        | (go_at_call 37; with_reducible (refine (HNR.out _ hk0.out).mono ?_); rintro e wa ⟨vr, rfl, hvr, hta⟩; have hka := Lib.hid hta))
    all_goals
      obtain ⟨J9, ht9⟩ := hkc.out
      have HL9 : Hid (DcW W1 w9 gs A1 m c1 J9 B9 (cn + 1) d9 (xs ++ [⟨⟨3 * (i : Int) + 1 + v3, y.x.id, 1 + v2, y.x.qty, vr, y.x.sl⟩, y.A, y.n, y.c⟩])) := (HL8.out.tr ht9).app ho9 hg9
      have hck : clOk ⟨3 * (i : Int) + 1 + v3, y.x.id, 1 + v2, y.x.qty, vr, y.x.sl⟩ = true := clOk_lot (HOK.out.st.lots y.x HYM.out) (HOK.out.st.apart HYM.out) (by omega) (by omega) (by omega) (by omega) (by omega)
      have HC9 : Hid (ClsOk (clms (xs ++ [⟨⟨3 * (i : Int) + 1 + v3, y.x.id, 1 + v2, y.x.qty, vr, y.x.sl⟩, y.A, y.n, y.c⟩]))) := by
        have h3 : clms (xs ++ [⟨⟨3 * (i : Int) + 1 + v3, y.x.id, 1 + v2, y.x.qty, vr, y.x.sl⟩, y.A, y.n, y.c⟩]) = clms xs ++ [⟨3 * (i : Int) + 1 + v3, y.x.id, 1 + v2, y.x.qty, vr, y.x.sl⟩] := by simp [clms]
        rw [h3]
        exact claims_more (i := i) HOK.out.st (by rw [HLL.out]; exact hlt) HCO.out (fun x hx => by
          obtain ⟨b, hb, rfl⟩ := List.mem_map.1 hx
          exact HOF.out b hb) (by rw [clms_len]; have := HL8.out.len; omega) hck (by show 3 * (i : Int) < 3 * (i : Int) + 1 + v3; omega) (by rw [HYI.out])
      have HF9 : Hid (∀ b ∈ xs ++ [⟨⟨3 * (i : Int) + 1 + v3, y.x.id, 1 + v2, y.x.qty, vr, y.x.sl⟩, y.A, y.n, y.c⟩], ClmOf (lotsOf bs) (i + 1) b.x) := fun b hb => by
        rcases List.mem_append.1 hb with hb | hb
        · exact HOF1.out b hb
        · rw [List.mem_singleton] at hb
          subst hb
          exact ⟨⟨i, by omega, by rw [HLL.out]; exact hlt, by rw [HYI.out], by rw [HYI.out], by rw [HYI.out]⟩, by show 1 + v2 = 1 ∨ 1 + v2 = 2; omega, ⟨by show 0 ≤ vr; omega, by show vr ≤ 10000000; omega⟩, by show 1 ≤ 3 * (i : Int) + 1 + v3 ∧ 3 * (i : Int) + 1 + v3 ≤ 3 * ((i + 1 : Nat) : Int); omega⟩
      have HSL9 : Hid (∀ b ∈ xs ++ [⟨⟨3 * (i : Int) + 1 + v3, y.x.id, 1 + v2, y.x.qty, vr, y.x.sl⟩, y.A, y.n, y.c⟩], (SlAt W1 b.A b.n b.x.sl ∧ b.n ≤ b.c ∧ b.c ≤ 9223372036854775807) ∧ TyA W1 b.A 68) := fun b hb => by
        rcases List.mem_append.1 hb with hb | hb
        · exact HSL.out b hb
        · rw [List.mem_singleton] at hb
          subst hb
          exact HSY.out
      clear hck ht9
      go_wp2_with fail
      go_roundw
      case rel => exact ⟨i + 1, B9, cn + 1, d9, _, J9, rfl, by go_num, by omega, by omega, HL9, HC9, HF9, HSL9⟩
      case measure => simp [intOf]; omega
end Go.Proofs.YthnhgjhnkncmiaaGreat

namespace Go.Proofs.YthnhgjhnkncmiaaGreat
open Go.RowKit
set_option linter.unusedVariables false

/-- A payout. -/
structure Po where
  num : Int
  lot : Int
  am : Int
deriving Inhabited
def encPo (x : Po) : List Value := [.int .i64 x.num, .int .i64 x.lot, .int .i64 x.am]
theorem encPo_len (x : Po) : (encPo x).length = 3 := rfl
theorem encPo_one (x : Po) : ∀ v ∈ encPo x, v.oneCell' = true := fun v hv => by
  simp [encPo] at hv
  rcases hv with rfl | rfl | rfl <;> rfl
def poOf (d p : List Ch) (c : Clm) : Po := ⟨c.num, c.lot, (payE c d p).1⟩
/-- The first error of the payouts. -/
def poErr (d p : List Ch) : List Clm → Int
  | [] => 0
  | c :: r => if (payE c d p).2 = 0 then poErr d p r else (payE c d p).2
theorem poErr_at {d p : List Ch} {cs : List Clm} {i : Nat} (hi : i < cs.length) (h : ∀ j, j < i → (payE cs[j]! d p).2 = 0) (hx : (payE cs[i]! d p).2 ≠ 0) : poErr d p cs = (payE cs[i]! d p).2 := by
  induction cs generalizing i with
  | nil => cases hi
  | cons c r ih =>
    cases i with
    | zero =>
      have hx' : (payE c d p).2 ≠ 0 := hx
      show (if (payE c d p).2 = 0 then poErr d p r else (payE c d p).2) = (payE c d p).2
      rw [if_neg hx']
    | succ i =>
      have h0 : (payE c d p).2 = 0 := h 0 (by omega)
      show (if (payE c d p).2 = 0 then poErr d p r else (payE c d p).2) = _
      rw [if_pos h0]
      have := ih (i := i) (by simpa using hi) (fun j hj => by have := h (j + 1) (by omega); simpa using this) (by simpa using hx)
      simpa using this
theorem poErr_none {d p : List Ch} {cs : List Clm} (h : ∀ j, j < cs.length → (payE cs[j]! d p).2 = 0) : poErr d p cs = 0 := by
  induction cs with
  | nil => rfl
  | cons c r ih =>
    have h0 : (payE c d p).2 = 0 := h 0 (by simp)
    show (if (payE c d p).2 = 0 then poErr d p r else (payE c d p).2) = _
    rw [if_pos h0]
    exact ih fun j hj => by have := h (j + 1) (by simpa using hj); simpa using this
theorem poErr_zero {d p : List Ch} {cs : List Clm} (h : ∀ c ∈ cs, (payE c d p).2 = 0) : poErr d p cs = 0 := poErr_none fun j hj => h _ (get_memK hj)
/-- What Payouts returns. -/
def PoutRes (w : World) (n : Nat) (cs : List Clm) (d p : List Ch) (e : Ending) (w' : World) : Prop :=
  (poErr d p cs = 0 → ∃ (B : Option Addr) (k : Nat), e = .returned (.tuple #[.slice B n k, .int .i64 0]) ∧ Recs encPo 3 w' B n (cs.map (poOf d p))) ∧
  (poErr d p cs ≠ 0 → e = .returned (.tuple #[.slice none 0 0, .int .i64 (poErr d p cs)])) ∧
  RowKit.Below w.heap.size w w'
theorem infoPo : (Tryz.prog.info? 58).map (fun i => (i.zero, i.size, i.bytes)) = some (some (.agg #[.int .i64 0, .int .i64 0, .int .i64 0]), 3, 24) := by kernel_rfl
theorem zerosPo {C : Array Value} {n : Nat} (h : C.size = n * 3 ∧ ∀ j, j < n * 3 → C[j]? = some ((Value.agg #[.int .i64 0, .int .i64 0, .int .i64 0]).cells[j % (Value.agg #[.int .i64 0, .int .i64 0, .int .i64 0]).cells.size]!)) : C = (flat encPo (List.replicate n ⟨0, 0, 0⟩)).toArray := by
  have e3 : (Value.agg #[.int .i64 0, .int .i64 0, .int .i64 0]).cells.size = 3 := rfl
  apply Array.ext_getElem?
  intro i
  rw [show (flat encPo (List.replicate n (⟨0, 0, 0⟩ : Po))).toArray[i]? = (flat encPo (List.replicate n (⟨0, 0, 0⟩ : Po)))[i]? from List.getElem?_toArray]
  by_cases hi : i < n * 3
  · rw [h.2 i hi, e3]
    have h1 := flat_get encPo_len (List.replicate n ⟨0, 0, 0⟩) (i / 3) (i % 3) (by rw [List.length_replicate]; omega) (by omega)
    rw [show i / 3 * 3 + i % 3 = i by omega] at h1
    rw [h1, getElem!_pos (List.replicate n (⟨0, 0, 0⟩ : Po)) (i / 3) (by rw [List.length_replicate]; omega), List.getElem_replicate]
    have hc : i % 3 = 0 ∨ i % 3 = 1 ∨ i % 3 = 2 := by omega
    rcases hc with e | e | e <;> rw [e] <;> rfl
  · rw [Array.getElem?_eq_none (by rw [h.1]; omega), List.getElem?_eq_none (by rw [flat_length encPo_len, List.length_replicate]; omega)]
/-- A payout is stored. -/
theorem own_setPo {w : World} {N : Nat} {g n cap : Nat} {xs : List Po} {i : Nat} (h : w.ownsRow N 58 3 (.slice (some ⟨g, 0, none⟩) n cap) n (flat encPo xs)) (hi : i < xs.length) (y : Po) :
    (((w.setCell ⟨g, i * 3, none⟩ (.int .i64 y.num)).setCell ⟨g, i * 3 + 1, none⟩ (.int .i64 y.lot)).setCell ⟨g, i * 3 + 2, none⟩ (.int .i64 y.am)).ownsRow N 58 3 (.slice (some ⟨g, 0, none⟩) n cap) n (flat encPo (xs.set i y)) := by
  have h1 := own_setK (c := 0) (v := .int .i64 y.num) (y := ⟨y.num, xs[i]!.lot, xs[i]!.am⟩) encPo_len h (by decide) hi rfl
  have h2 := own_setK (c := 1) (v := .int .i64 y.lot) (y := ⟨y.num, y.lot, xs[i]!.am⟩) encPo_len h1 (by decide) (by rw [List.length_set]; exact hi) (by rw [get_setK _ _ _ _ hi, if_pos rfl]; rfl)
  have h3 := own_setK (c := 2) (v := .int .i64 y.am) (y := y) encPo_len h2 (by decide) (by rw [List.length_set, List.length_set]; exact hi) (by rw [get_setK _ _ _ _ (by rw [List.length_set]; exact hi), if_pos rfl]; rfl)
  rw [List.set_set, List.set_set] at h3
  exact h3
set_option maxRecDepth 100000 in
set_option maxHeartbeats 16000000 in
theorem Payouts_ok (A : Option Addr) (n c : Nat) (bs : List Cb) (DA PA : Option Addr) (dn dc pn pc : Nat) (d p : List Ch) (w : World) (h : ClAt w A n bs) (hok : ClsOk (clms bs)) (hd : Recs encCh 3 w DA dn d) (hp : Recs encCh 3 w PA pn p) :
    Calls Tryz.prog 22 #[.slice A n c, .slice DA dn dc, .slice PA pn pc] w (PoutRes w n (clms bs) d p) := by
  have hxl : bs.length = n := h.cls.recs.1
  have hn64 : n ≤ 64 := by have := hok.few; rw [clms_len] at this; omega
  have HVD := Lib.hid (Validate29_ok A n c bs w h hok)
  have HX := Lib.hid h
  have HPA : Hid (∀ b ∈ bs, ∀ wx, RowKit.Below w.heap.size w wx → Calls Tryz.prog 17 #[.agg #[.int .i64 b.x.num, .int .i64 b.x.lot, .int .i64 b.x.sch, .int .i64 b.x.qty, .int .i64 b.x.rate, .slice b.A b.n b.c], .slice DA dn dc, .slice PA pn pc] wx (E2 wx (payE b.x d p))) := fun b hb wx hbw =>
    Payable_any b.x b.A b.n b.c DA PA dn dc pn pc d p wx ((h.sls b hb).1.recs.below hbw) (hd.below hbw) (hp.below hbw)
  obtain ⟨C1, HC1, hmk1⟩ := make_any (P := Tryz.prog) 54 58 _ 3 24 n Tryz.underlying54 infoPo (by omega) (by omega)
  have HZ : Hid (C1 = (flat encPo (List.replicate n ⟨0, 0, 0⟩)).toArray) := zerosPo HC1.out
  clear h hok hd hp HC1
  go_enter Tryz.func22, Tryz.ntmps22
  go_wp2_with fail
  refine HVD.out.mono ?_
  rintro e w1 ⟨rfl, hb1⟩
  have HB1 : Hid (RowKit.Below w.heap.size w (w1.alloc (.cells C1 58))) := hb1.alloc hb1.size _
  have HO1 : Hid ((w1.alloc (.cells C1 58)).ownsRow w.heap.size 58 3 (.slice (some ⟨w1.heap.size, 0, none⟩) n n) n (flat encPo (List.replicate n ⟨0, 0, 0⟩))) := own_lit (by have := Bl.new w1 58 C1; rw [HZ.out] at this ⊢; exact this) hb1.size (by rw [flat_length encPo_len, List.length_replicate]) (by omega)
  clear hb1 HVD
  go_upto_region 5 with (fail)
  clear hmk1 HZ
  generalize w1.alloc (.cells C1 58) = W1 at *
  generalize w1.heap.size = g1 at *
  go_wp2_with fail
  go_loopw [24] (fun v wx => ∃ (i : Nat) (xs : List Po), v = .int .i64 (i : Int) ∧ i ≤ n ∧ Hid (xs.length = n) ∧ Hid (∀ j, j < i → xs[j]! = poOf d p (clms bs)[j]! ∧ (payE (clms bs)[j]! d p).2 = 0) ∧ Hid (wx.ownsRow w.heap.size 58 3 (.slice (some ⟨g1, 0, none⟩) n n) n (flat encPo xs)) ∧ Hid (RowKit.Below w.heap.size w wx)) (fun v _ => n - (intOf v).toNat)
  case atStart => exact ⟨0, List.replicate n ⟨0, 0, 0⟩, rfl, Nat.zero_le _, (by show _ = _; rw [List.length_replicate]), (fun j hj => by omega), HO1, HB1⟩
  case round =>
    clear HO1 HB1
    obtain ⟨i, xs, rfl, hi, HL, HJ, HO, HB⟩ := hrel
    by_cases hlt : i < n
    case neg =>
      have dk : decide ((i : Int) < (n : Int)) = false := by simp; omega
      have hxe : xs = (clms bs).map (poOf d p) := by
        apply List.ext_getElem (by rw [HL.out, List.length_map, clms_len, hxl])
        intro j h1 h2
        have hj : j < n := by rw [← HL.out]; exact h1
        have := (HJ.out j (by omega)).1
        rw [getElem!_pos xs j h1, getElem!_pos (clms bs) j (by rw [clms_len]; omega)] at this
        rw [this]
        simp
      have hr0 : poErr d p (clms bs) = 0 := poErr_none fun j hj => (HJ.out j (by rw [clms_len] at hj; omega)).2
      have HR : Hid (PoutRes w n (clms bs) d p (.returned (.tuple #[.slice (some ⟨g1, 0, none⟩) n n, .int .i64 0])) wr) := ⟨fun _ => ⟨_, n, rfl, by rw [← hxe]; exact Recs.of_own encPo_len HO.out HL.out⟩, fun k => absurd hr0 k, HB.out⟩
      clear hxe hr0
      go_wp2
      go_ret2
      exact HR.out
    case pos =>
      have dk : decide ((i : Int) < (n : Int)) = true := by simp; omega
      obtain ⟨b1, o1, rfl, hb1, ha⟩ := recs_at (HX.out.below HB.out).cls.recs hlt
      obtain ⟨y, hy⟩ : ∃ y, bs[i]! = y := ⟨_, rfl⟩
      rw [hy] at ha
      have a0 : wr.cell? ⟨b1, o1 + i * 6, none⟩ = some (.int .i64 y.x.num) := ha.out 0 (by omega)
      have a1 : wr.cell? ⟨b1, o1 + i * 6 + 1, none⟩ = some (.int .i64 y.x.lot) := ha.out 1 (by omega)
      have a2 : wr.cell? ⟨b1, o1 + i * 6 + 2, none⟩ = some (.int .i64 y.x.sch) := ha.out 2 (by omega)
      have a3 : wr.cell? ⟨b1, o1 + i * 6 + 3, none⟩ = some (.int .i64 y.x.qty) := ha.out 3 (by omega)
      have a4 : wr.cell? ⟨b1, o1 + i * 6 + 4, none⟩ = some (.int .i64 y.x.rate) := ha.out 4 (by omega)
      have a5 : wr.cell? ⟨b1, o1 + i * 6 + 5, none⟩ = some (.slice y.A y.n y.c) := ha.out 5 (by omega)
      have hmem : y ∈ bs := by rw [← hy]; exact get_memK (by omega)
      have HPY := Lib.hid (HPA.out y hmem)
      have HCI : Hid ((clms bs)[i]! = y.x) := by show _ = _; rw [clms_get (by omega), hy]
      have hii : (i : Int) < (n : Int) := by omega
      have hiz : (0 : Int) ≤ (i : Int) := by omega
      have HBA : Hid (RowKit.Below w.heap.size w (wr.alloc (.cells #[.int .i64 y.x.num, .int .i64 y.x.lot, .int .i64 y.x.sch, .int .i64 y.x.qty, .int .i64 y.x.rate, .slice y.A y.n y.c] 39))) := HB.out.alloc HB.out.size _
      have HXB : Hid (Bl (wr.alloc (.cells #[.int .i64 y.x.num, .int .i64 y.x.lot, .int .i64 y.x.sch, .int .i64 y.x.qty, .int .i64 y.x.rate, .slice y.A y.n y.c] 39)) wr.heap.size 39 #[.int .i64 y.x.num, .int .i64 y.x.lot, .int .i64 y.x.sch, .int .i64 y.x.qty, .int .i64 y.x.rate, .slice y.A y.n y.c]) := Bl.new _ _ _
      have HOA : Hid ((wr.alloc (.cells #[.int .i64 y.x.num, .int .i64 y.x.lot, .int .i64 y.x.sch, .int .i64 y.x.qty, .int .i64 y.x.rate, .slice y.A y.n y.c] 39)).ownsRow w.heap.size 58 3 (.slice (some ⟨g1, 0, none⟩) n n) n (flat encPo xs)) := own_alloc HO.out _
      clear ha hy hmem
      go_upto_region 8 with (fail)
      clear a0 a1 a2 a3 a4 a5 HB hb1 HO
      generalize wr.alloc (.cells #[.int .i64 y.x.num, .int .i64 y.x.lot, .int .i64 y.x.sch, .int .i64 y.x.qty, .int .i64 y.x.rate, .slice y.A y.n y.c] 39) = W at *
      generalize wr.heap.size = gx at *
      obtain ⟨am, er, hpe⟩ : ∃ am er, payE y.x d p = (am, er) := ⟨_, _, rfl⟩
      rw [hpe] at HPY
      have HPE := Lib.hid hpe
      clear hpe
      have x0 := HXB.out.cell 0
      have x1 := HXB.out.cell 1
      have x2 := HXB.out.cell 2
      have x3 := HXB.out.cell 3
      have x4 := HXB.out.cell 4
      have x5 := HXB.out.cell 5
      go_wp2_with fail
      refine (HPY.out W HBA.out).mono ?_
      rintro e w2 ⟨rfl, hb2⟩
      have HB2 : Hid (RowKit.Below w.heap.size w w2) := HBA.out.trans (hb2.mono HBA.out.size)
      have HXB2 : Hid (Bl w2 gx 39 #[.int .i64 y.x.num, .int .i64 y.x.lot, .int .i64 y.x.sch, .int .i64 y.x.qty, .int .i64 y.x.rate, .slice y.A y.n y.c]) := (hb2.block gx HXB.out.lt).trans HXB.out
      have HO2 : Hid (w2.ownsRow w.heap.size 58 3 (.slice (some ⟨g1, 0, none⟩) n n) n (flat encPo xs)) := own_below HOA.out hb2
      clear hb2 HBA HXB HOA HPY x0 x1 x2 x3 x4 x5
      by_cases h0 : er = 0
      case neg =>
        have d0 : (er != 0) = true := by simpa using h0
        have hE : poErr d p (clms bs) = er := by
          have := poErr_at (d := d) (p := p) (cs := clms bs) (i := i) (by rw [clms_len]; omega) (fun j hj => (HJ.out j hj).2) (by rw [HCI.out, HPE.out]; exact h0)
          rw [this, HCI.out, HPE.out]
        have HR : Hid (PoutRes w n (clms bs) d p (.returned (.tuple #[.slice none 0 0, .int .i64 er])) w2) := ⟨fun k => absurd (hE.symm.trans k) h0, fun _ => by rw [hE], HB2.out⟩
        clear h0 hE
        go_wp2
        go_ret2
        exact HR.out
      case pos =>
        subst h0
        have x0 : w2.cell? ⟨gx, 0, none⟩ = some (.int .i64 y.x.num) := HXB2.out.cell 0
        have x1 : w2.cell? ⟨gx, 1, none⟩ = some (.int .i64 y.x.lot) := HXB2.out.cell 1
        have hil : i < xs.length := by rw [HL.out]; exact hlt
        obtain ⟨z, hz⟩ : ∃ z, xs[i]! = z := ⟨_, rfl⟩
        have q0 : w2.cell? ⟨g1, i * 3, none⟩ = some (.int .i64 z.num) := by have := own_cellK (c := 0) encPo_len HO2.out hil (by decide) HL.out; rw [hz] at this; exact this
        have q1 : w2.cell? ⟨g1, i * 3 + 1, none⟩ = some (.int .i64 z.lot) := by have := own_cellK (c := 1) encPo_len HO2.out hil (by decide) HL.out; rw [hz] at this; exact this
        have q2 : w2.cell? ⟨g1, i * 3 + 2, none⟩ = some (.int .i64 z.am) := by have := own_cellK (c := 2) encPo_len HO2.out hil (by decide) HL.out; rw [hz] at this; exact this
        have f0 : w2.frozen? ⟨g1, i * 3, none⟩ = false := HO2.out.frozenAt _
        have f1 : w2.frozen? ⟨g1, i * 3 + 1, none⟩ = false := HO2.out.frozenAt _
        have f2 : w2.frozen? ⟨g1, i * 3 + 2, none⟩ = false := HO2.out.frozenAt _
        have HO3 : Hid ((((w2.setCell ⟨g1, i * 3, none⟩ (.int .i64 y.x.num)).setCell ⟨g1, i * 3 + 1, none⟩ (.int .i64 y.x.lot)).setCell ⟨g1, i * 3 + 2, none⟩ (.int .i64 am)).ownsRow w.heap.size 58 3 (.slice (some ⟨g1, 0, none⟩) n n) n (flat encPo (xs.set i ⟨y.x.num, y.x.lot, am⟩))) := own_setPo HO2.out hil ⟨y.x.num, y.x.lot, am⟩
        have hgb := own_base HO2.out g1 rfl
        have HB3 : Hid (RowKit.Below w.heap.size w (((w2.setCell ⟨g1, i * 3, none⟩ (.int .i64 y.x.num)).setCell ⟨g1, i * 3 + 1, none⟩ (.int .i64 y.x.lot)).setCell ⟨g1, i * 3 + 2, none⟩ (.int .i64 am))) := ((HB2.out.setCell (p := ⟨g1, i * 3, none⟩) hgb _).setCell (p := ⟨g1, i * 3 + 1, none⟩) hgb _).setCell (p := ⟨g1, i * 3 + 2, none⟩) hgb _
        have HL3 : Hid ((xs.set i ⟨y.x.num, y.x.lot, am⟩).length = n) := by show _ = _; rw [List.length_set]; exact HL.out
        have HJ3 : Hid (∀ j, j < i + 1 → (xs.set i ⟨y.x.num, y.x.lot, am⟩)[j]! = poOf d p (clms bs)[j]! ∧ (payE (clms bs)[j]! d p).2 = 0) := fun j hj => by
          rw [get_setK xs i j _ hil]
          by_cases e : i = j
          · subst e
            rw [if_pos rfl, HCI.out]
            unfold poOf
            rw [HPE.out]
            exact ⟨rfl, rfl⟩
          · rw [if_neg e]
            exact HJ.out j (by omega)
        clear hz hil hgb
        go_wp2_with fail
        go_roundw
        case rel => exact ⟨i + 1, _, by go_num, by omega, HL3, HJ3, HO3, HB3⟩
        case measure => simp [intOf]; omega
end Go.Proofs.YthnhgjhnkncmiaaGreat

namespace Go.Proofs.YthnhgjhnkncmiaaGreat
open Go.RowKit
set_option linter.unusedVariables false

set_option maxRecDepth 100000 in
set_option maxHeartbeats 8000000 in
theorem ChargeOf_any (A : Option Addr) (n c : Nat) (xs : List Ch) (s : Int) (w : World) (h : Recs encCh 3 w A n xs) (hn : n ≤ 1000) :
    Calls Tryz.prog 24 #[.slice A n c, .int .i64 s] w (FindRes w (findC xs s)) := by
  have hxl : xs.length = n := h.1
  have hb0 : RowKit.Below w.heap.size w (w.alloc (.cells #[.int .i64 0, .int .i64 0, .int .i64 0] 61)) := (Below.refl _ _).alloc (Nat.le_refl _) _
  have hr0 : Bl (w.alloc (.cells #[.int .i64 0, .int .i64 0, .int .i64 0] 61)) w.heap.size 61 #[.int .i64 0, .int .i64 0, .int .i64 0] := Bl.new _ _ _
  have HB0 := Lib.hid hb0
  have HR0 := Lib.hid hr0
  have HX := Lib.hid (h.below hb0)
  clear h hb0 hr0
  go_enter Tryz.func24, Tryz.ntmps24
  go_upto_region 1 with (fail)
  generalize w.alloc (.cells #[.int .i64 0, .int .i64 0, .int .i64 0] 61) = wz at *
  go_wp2_with fail
  go_loopw [6] (fun v wx => ∃ i : Nat, v = .int .i64 (i : Int) ∧ i ≤ n ∧ Hid (∀ j, j < i → xs[j]!.src ≠ s) ∧ Hid (RowKit.Below wz.heap.size wz wx)) (fun v _ => n - (intOf v).toNat)
  case atStart => exact ⟨0, rfl, Nat.zero_le _, (fun j hj => by omega), Below.refl _ _⟩
  case round =>
    obtain ⟨i, rfl, hi, HN, HB⟩ := hrel
    have HR : Hid (Bl wr w.heap.size 61 #[.int .i64 0, .int .i64 0, .int .i64 0]) := (HB.out.block w.heap.size HR0.out.lt).trans HR0.out
    have r0 : wr.cell? ⟨w.heap.size, 0, none⟩ = some (.int .i64 0) := HR.out.cell 0
    have r1 : wr.cell? ⟨w.heap.size, 1, none⟩ = some (.int .i64 0) := HR.out.cell 1
    have r2 : wr.cell? ⟨w.heap.size, 2, none⟩ = some (.int .i64 0) := HR.out.cell 2
    have f0 : wr.frozen? ⟨w.heap.size, 0, none⟩ = false := HR.out.free 0
    have f1 : wr.frozen? ⟨w.heap.size, 1, none⟩ = false := HR.out.free 1
    have f2 : wr.frozen? ⟨w.heap.size, 2, none⟩ = false := HR.out.free 2
    by_cases hlt : i < n
    case pos =>
      have dk : decide ((i : Int) < (n : Int)) = true := by simp; omega
      obtain ⟨b1, o1, rfl, hb1, ha⟩ := recs_at (HX.out.below HB.out) hlt
      obtain ⟨x, hx⟩ : ∃ x, xs[i]! = x := ⟨_, rfl⟩
      rw [hx] at ha
      have a0 : wr.cell? ⟨b1, o1 + i * 3, none⟩ = some (.int .i64 x.src) := ha.out 0 (by omega)
      have a1 : wr.cell? ⟨b1, o1 + i * 3 + 1, none⟩ = some (.int .i64 x.un) := ha.out 1 (by omega)
      have a2 : wr.cell? ⟨b1, o1 + i * 3 + 2, none⟩ = some (.int .i64 x.am) := ha.out 2 (by omega)
      have HXI := Lib.hid hx
      have hii : (i : Int) < (n : Int) := by omega
      have hiz : (0 : Int) ≤ (i : Int) := by omega
      clear ha hx
      by_cases g0 : x.src = s
      case pos =>
        have d0 : (x.src == s) = true := by simpa using g0
        have HFO : Hid (findC xs s = some x) := by
          have := findC_hit (s := s) (i := i) (by omega) HN.out (by rw [HXI.out]; exact g0)
          rw [HXI.out] at this
          exact this
        clear g0
        go_wp2
        refine bodyPost_ret (v := .tuple #[.agg #[.int .i64 x.src, .int .i64 x.un, .int .i64 x.am], .bool true]) (by simp [results, Tryz.results24, go_sem, r0, r1, r2]) rfl ?_
        exact FindRes.of (HB0.out.trans (HB.out.mono HB0.out.size)) HR.out (by rw [HFO.out]; rfl) (by rw [HFO.out]; rfl)
      case neg =>
        have d0 : (x.src == s) = false := by simpa using g0
        have HN2 : Hid (∀ j, j < i + 1 → xs[j]!.src ≠ s) := fun j hj => by
          by_cases e : j = i
          · subst e; rw [HXI.out]; exact g0
          · exact HN.out j (by omega)
        clear g0 r0 r1 r2 f0 f1 f2
        go_wp2_with fail
        go_roundw
        case rel => exact ⟨i + 1, by go_num, by omega, HN2, HB⟩
        case measure => simp [intOf]; omega
    case neg =>
      have dk : decide ((i : Int) < (n : Int)) = false := by simp; omega
      have HFO : Hid (findC xs s = none) := findC_none fun j hj => HN.out j (by omega)
      go_wp2
      refine bodyPost_ret (v := .tuple #[.agg #[.int .i64 0, .int .i64 0, .int .i64 0], .bool false]) (by simp [results, Tryz.results24, go_sem, r0, r1, r2]) rfl ?_
      exact FindRes.of (HB0.out.trans (HB.out.mono HB0.out.size)) HR.out (by rw [HFO.out]; rfl) (by rw [HFO.out]; rfl)
end Go.Proofs.YthnhgjhnkncmiaaGreat

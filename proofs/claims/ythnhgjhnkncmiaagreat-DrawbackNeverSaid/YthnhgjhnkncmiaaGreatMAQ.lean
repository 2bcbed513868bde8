/-
  Contracts of customsmade's Left, Small, Goods and of an estate's any; words for an estate in memory. No statement of the seat is proved here. Conditions: the lists lie in memory that the caller knows.
  Contract of customsmade.Recipes: three recipes of the estate's codes. No statement of the seat is proved here. No conditions.
-/
import Derived.Test.YthnhgjhnkncmiaaGreatMAP
namespace Go.Proofs.YthnhgjhnkncmiaaGreat
open Go.RowKit
set_option linter.unusedVariables false
set_option maxHeartbeats 1000000 in
theorem left_any (g : Nat) (A : Option Addr) (n c I : Nat) (w : World) (hS : Src w g A n c I) (hn : n ≤ 9223372036854775807) :
    Calls Tryz.prog 9 #[.pointer (some ⟨g, 0, none⟩)] w fun e w' => e = .returned (.bool (decide (I < n))) ∧ ∃ q, w' = w.drewN q := by
  have c0 : w.cell? ⟨g, 0, none⟩ = some (.slice A n c) := hS.cell 0
  have c1 : w.cell? ⟨g, 1, none⟩ = some (.int .i64 I) := hS.cell 1
  cases hd : decide (I < n)
  · have hd' : decide ((I : Int) < (n : Int)) = false := by simp at hd ⊢; omega
    go_enter Tryz.func9, Tryz.ntmps9
    go_wp2
    go_quiet (fail)
    go_wp2
    go_ret
    exact ⟨rfl, _, rfl⟩
  · have hd' : decide ((I : Int) < (n : Int)) = true := by simp at hd ⊢; omega
    go_enter Tryz.func9, Tryz.ntmps9
    go_wp2
    go_quiet (fail)
    go_wp2
    go_ret
    exact ⟨rfl, _, rfl⟩
def SmlRes (w : World) (g : Nat) (A : Option Addr) (n c I : Nat) (m : Int) (e : Ending) (w' : World) : Prop :=
  ∃ (v : Int) (I' : Nat), e = .returned (.int .i64 v) ∧ 0 ≤ v ∧ v < m ∧ nextI n I ≤ I' ∧ (I ≤ n → I' ≤ n) ∧ Only g w w' ∧ Src w' g A n c I'
set_option maxHeartbeats 1000000 in
theorem small29_any (g : Nat) (A : Option Addr) (n c I : Nat) (xs : List Int) (few m : Int) (w0 w : World) (hS : Src w g A n c I) (hI : Ints w0 A n xs) (hb : RowKit.Below w0.heap.size w0 w) (hg : w0.heap.size ≤ g) (hn : n ≤ 1000000) (hf : 0 < few) (hfm : few ≤ m) (hm' : m ≤ 4000000000000000000) :
    Calls Tryz.prog 37 #[.pointer (some ⟨g, 0, none⟩), .int .i64 few, .int .i64 m] w (SmlRes w g A n c I m) := by
  have b1 := nextV_bounds xs n I 5 (by omega)
  have hl1 := nextI_ge n I
  have hl2 := nextI_le n I
  by_cases h4 : nextV xs n I 5 = 4
  · have hb4 : (nextV xs n I 5 == 4) = true := by simpa using h4
    have b2 := nextV_bounds xs n (nextI n I) m (by omega)
    have hl3 := nextI_ge n (nextI n I)
    have hl4 := nextI_le n (nextI n I)
    clear h4
    go_enter Tryz.func37, Tryz.ntmps37
    go_wp2_with fail
    refine (next_any g A n c I xs 5 w0 w hS hI hb hg hn (by omega) (by omega)).mono ?_
    rintro e w1 ⟨rfl, hO1, hS1⟩
    have hB1 := hb.trans ((hO1.below hg))
    generalize nextV xs n I 5 = v1 at *
    go_wp2_with fail
    refine (next_any g A n c _ xs m w0 w1 hS1 hI hB1 hg hn (by omega) hm').mono ?_
    rintro e w2 ⟨rfl, hO2, hS2⟩
    go_wp2
    go_ret
    exact ⟨_, _, rfl, b2.1, b2.2, by omega, fun h => hl4 (hl2 h), hO1.trans hO2, hS2⟩
  · have hb4 : (nextV xs n I 5 == 4) = false := by simpa using h4
    have b2 := nextV_bounds xs n (nextI n I) few hf
    have hl3 := nextI_ge n (nextI n I)
    have hl4 := nextI_le n (nextI n I)
    clear h4
    go_enter Tryz.func37, Tryz.ntmps37
    go_wp2_with fail
    refine (next_any g A n c I xs 5 w0 w hS hI hb hg hn (by omega) (by omega)).mono ?_
    rintro e w1 ⟨rfl, hO1, hS1⟩
    have hB1 := hb.trans ((hO1.below hg))
    generalize nextV xs n I 5 = v1 at *
    go_wp2_with fail
    refine (next_any g A n c _ xs few w0 w1 hS1 hI hB1 hg hn hf (by omega)).mono ?_
    rintro e w2 ⟨rfl, hO2, hS2⟩
    go_wp2
    go_ret
    exact ⟨_, _, rfl, b2.1, by omega, by omega, fun h => hl4 (hl2 h), hO1.trans hO2, hS2⟩
abbrev ET : TypeId := 26
set_option maxRecDepth 100000 in
set_option maxHeartbeats 4000000 in
theorem any29_any (gx : Nat) (A : Option Addr) (n c : Nat) (bs : List Lb) (S1 F1 : Value) (k : Int) (w : World) (hx : Bl w gx 26 #[.slice A n c, S1, F1]) (h : Recs encL 5 w A n bs) (hn : n ≤ 1000) :
    Calls Tryz.prog 50 #[.pointer (some ⟨gx, 0, none⟩), .int .i64 k] w fun e w' => ∃ v : Int, e = .returned (.int .i64 v) ∧ ∃ q, w' = w.drewN q := by
  have c0 : w.cell? ⟨gx, 0, none⟩ = some (.slice A n c) := hx.cell 0
  have HX := Lib.hid h
  clear hx h
  by_cases h0 : n = 0
  case pos =>
    subst h0
    go_enter Tryz.func50, Tryz.ntmps50
    go_wp2
    go_ret
    exact ⟨0, rfl, 0, rfl⟩
  case neg =>
  have hk0 := Int.emod_nonneg k (show (n : Int) ≠ 0 by omega)
  have hk1 := Int.emod_lt_of_pos k (show (0 : Int) < n by omega)
  have HW : Hid (∀ wx, Calls Tryz.prog 16 #[.int .i64 k, .int .i64 (n : Int)] wx fun e w' => e = .returned (.int .i64 (k % (n : Int))) ∧ w' = wx) := fun wx => (within_any k (n : Int) wx (by omega) (by omega)).mono fun e w' ⟨h1, h2⟩ => ⟨h1, h2.symm⟩
  obtain ⟨j, hj⟩ : ∃ j : Nat, k % (n : Int) = (j : Int) := ⟨(k % (n : Int)).toNat, by omega⟩
  have hjn : j < n := by omega
  rw [hj] at HW
  clear hk0 hk1 hj
  obtain ⟨b1, o1, rfl, hb1, ha⟩ := recs_at HX.out hjn
  have a0 : w.cell? ⟨b1, o1 + j * 5, none⟩ = some (.int .i64 bs[j]!.x.id) := ha.out 0 (by omega)
  generalize bs[j]!.x.id = v at a0
  have hjj : (j : Int) < (n : Int) := by omega
  have hjz : (0 : Int) ≤ (j : Int) := by omega
  have d0 : ((n : Int) == 0) = false := by simp; omega
  have d1 : (n == 0) = false := by simp; omega
  clear ha
  go_enter Tryz.func50, Tryz.ntmps50
  go_upto_region 3 with (fail)
  go_quiet ((go_at_call 16; exact Calls.quiet_of_same (HW.out _)))
  go_wp2
  go_ret
  exact ⟨v, rfl, _, rfl⟩
abbrev goodS (d : UInt8) : ByteArray := ⟨#[d, 48, 48, 48, 48, 48, 48, 48]⟩
theorem goodS_49 : code8 (goodS 49) := by
  refine ⟨rfl, fun i hi => ?_⟩
  have h8 : i < 8 := hi
  have hc : i = 0 ∨ i = 1 ∨ i = 2 ∨ i = 3 ∨ i = 4 ∨ i = 5 ∨ i = 6 ∨ i = 7 := by omega
  rcases hc with rfl | rfl | rfl | rfl | rfl | rfl | rfl | rfl <;> exact ⟨by decide, by decide⟩
theorem goodS_50 : code8 (goodS 50) := by
  refine ⟨rfl, fun i hi => ?_⟩
  have h8 : i < 8 := hi
  have hc : i = 0 ∨ i = 1 ∨ i = 2 ∨ i = 3 ∨ i = 4 ∨ i = 5 ∨ i = 6 ∨ i = 7 := by omega
  rcases hc with rfl | rfl | rfl | rfl | rfl | rfl | rfl | rfl <;> exact ⟨by decide, by decide⟩
theorem goodS_51 : code8 (goodS 51) := by
  refine ⟨rfl, fun i hi => ?_⟩
  have h8 : i < 8 := hi
  have hc : i = 0 ∨ i = 1 ∨ i = 2 ∨ i = 3 ∨ i = 4 ∨ i = 5 ∨ i = 6 ∨ i = 7 := by omega
  rcases hc with rfl | rfl | rfl | rfl | rfl | rfl | rfl | rfl <;> exact ⟨by decide, by decide⟩
theorem goodS_52 : code8 (goodS 52) := by
  refine ⟨rfl, fun i hi => ?_⟩
  have h8 : i < 8 := hi
  have hc : i = 0 ∨ i = 1 ∨ i = 2 ∨ i = 3 ∨ i = 4 ∨ i = 5 ∨ i = 6 ∨ i = 7 := by omega
  rcases hc with rfl | rfl | rfl | rfl | rfl | rfl | rfl | rfl <;> exact ⟨by decide, by decide⟩
def GoodsRes (w : World) (e : Ending) (w' : World) : Prop := e = .returned (.slice (some ⟨w.heap.size, 0, none⟩) 4 4) ∧ Bl w' w.heap.size 9 #[.string (goodS 49), .string (goodS 50), .string (goodS 51), .string (goodS 52)] ∧ RowKit.Below w.heap.size w w'
set_option maxHeartbeats 1000000 in
theorem Goods_any (w : World) : Calls Tryz.prog 48 #[] w (GoodsRes w) := by
  go_enter Tryz.func48, Tryz.ntmps48
  go_wp2
  go_ret
  exact ⟨rfl, Bl.new _ _ _, (Below.refl _ _).alloc (Nat.le_refl _) _⟩
/-- The position of a number in an ascending stock is determined. -/
theorem At_det (n : Nat) (bs : List Lb) (id : Int) (hp : bs.Pairwise (fun a b => a.x.id < b.x.id)) (hl : bs.length = n) (hn : n ≤ 1000000) :
    ∃ v : Int, (v = -1 ∨ ∃ i : Nat, i < n ∧ v = i) ∧ ∀ (A : Option Addr) (c : Nat) (w : World), Recs encL 5 w A n bs → Calls Tryz.prog 51 #[.slice A n c, .int .i64 id] w fun e w' => e = .returned (.int .i64 v) ∧ w' = w := by
  by_cases h : ∃ i, i < n ∧ bs[i]!.x.id = id
  · obtain ⟨i, hi, hid⟩ := h
    refine ⟨(i : Int), .inr ⟨i, hi, rfl⟩, fun A c w hr => (At_any A n c bs id w hr hn).mono ?_⟩
    rintro e w' ⟨rfl, ⟨_, hno⟩ | ⟨j, hj, rfl, hjd⟩⟩
    · exact absurd hid (hno i hi)
    · have hij : i = j := by
        rw [List.pairwise_iff_getElem] at hp
        rw [getElem!_pos bs i (by omega)] at hid
        rw [getElem!_pos bs j (by omega)] at hjd
        rcases Nat.lt_trichotomy i j with h | h | h
        · have := hp i j (by omega) (by omega) h; omega
        · exact h
        · have := hp j i (by omega) (by omega) h; omega
      subst hij
      exact ⟨rfl, rfl⟩
  · refine ⟨-1, .inl rfl, fun A c w hr => (At_any A n c bs id w hr hn).mono ?_⟩
    rintro e w' ⟨rfl, ⟨rfl, _⟩ | ⟨j, hj, _, hjd⟩⟩
    · exact ⟨rfl, rfl⟩
    · exact absurd ⟨j, hj, hjd⟩ h
/-- Blocks of lots and slices stay as they are. -/
structure Keeps (w w' : World) : Prop where
  size : w.heap.size ≤ w'.heap.size
  block : ∀ b T cs, Bl w b T cs → (T = 36 ∨ T = 68) → w'.heap[b]? = w.heap[b]?
theorem Keeps.of_below {w w' : World} (h : RowKit.Below w.heap.size w w') : Keeps w w' := ⟨h.size, fun b T cs hb _ => h.block b hb.lt⟩
theorem Keeps.trans {a b c : World} (h : Keeps a b) (h2 : Keeps b c) : Keeps a c := ⟨Nat.le_trans h.size h2.size, fun k T cs hb hT => by
  have e := h.block k T cs hb hT
  exact (h2.block k T cs (e.trans hb) hT).trans e⟩
theorem Keeps.kp {g : Nat} {w w' : World} {T : TypeId} {cs : Array Value} (h : Kp g w w') (hg : Bl w g T cs) (h1 : T ≠ 36) (h2 : T ≠ 68) : Keeps w w' := ⟨h.size, fun b T' cs' hb hT => h.block b hb.lt fun e => by
  subst e
  have : (some (.cells cs T (0, 0)) : Option Obj) = some (.cells cs' T' (0, 0)) := hg.symm.trans hb
  injection this with this
  injection this with _ h4
  subst h4
  rcases hT with hT | hT
  · exact h1 hT
  · exact h2 hT⟩
theorem Keeps.grown {w w' : World} {N k n : Nat} {T : TypeId} {v : Value} {xs : List Value} (hg : w.grownBy w' v.ownBlock) (ho : w.ownsRow N T k v n xs) (h1 : T ≠ 36) (h2 : T ≠ 68) : Keeps w w' := ⟨hg.size, fun b T' cs' hb hT => hg.block b hb.lt fun e => by
  rcases hT with hT | hT
  · exact own_far29 ho hb (fun e2 => h1 (e2.trans hT)) e.symm
  · exact own_far29 ho hb (fun e2 => h2 (e2.trans hT)) e.symm⟩
theorem Keeps.rrd {α : Type} [Inhabited α] {enc : α → List Value} {k : Nat} {w w' : World} {A : Option Addr} {n : Nat} {xs : List α} {T : TypeId} (h : Keeps w w') (hr : RRd enc k w A n xs) (ht : TyA w A T) (hT : T = 36 ∨ T = 68) : RRd enc k w' A n xs ∧ TyA w' A T := by
  refine ⟨hr.of_block (c := 0) h.size fun b hb => ?_, fun b off e => ?_⟩
  · rcases hr.plain with e | ⟨b', off, e⟩
    · rw [e] at hb; cases hb
    · rw [e] at hb
      have e1 : b' = b := by simpa [Value.ownBlock] using hb
      subst e1
      obtain ⟨cs, hc⟩ := ht b' off e
      exact h.block b' T cs hc hT
  · obtain ⟨cs, hc⟩ := ht b off e
    exact ⟨cs, (h.block b T cs hc hT).trans hc⟩
theorem StM.keeps {w w' : World} {A : Option Addr} {n c : Nat} {bs : List Lb} (h : StM w A n c bs) (hk : Keeps w w') : StM w' A n c bs := by
  have h1 := hk.rrd h.st.lots h.tyl (.inl rfl)
  exact ⟨⟨h1.1, fun b k => ⟨(hk.rrd (h.st.sls b k).1 (h.ty b k) (.inr rfl)).1, (h.st.sls b k).2⟩⟩, h.cap, fun b k => (hk.rrd (h.st.sls b k).1 (h.ty b k) (.inr rfl)).2, h1.2⟩
/-- The Source's place lies between I and m. -/
def zS (A : Option Addr) (m c I : Nat) (o : Option Obj) : Prop := ∃ J : Nat, I ≤ J ∧ J ≤ m ∧ o = some (.cells #[.slice A m c, .int .i64 J] 31 (0, 0))
theorem zS.src {A : Option Addr} {m c I g : Nat} {w : World} (h : zS A m c I w.heap[g]?) : ∃ J, I ≤ J ∧ J ≤ m ∧ Src w g A m c J := h
theorem zS.of {A : Option Addr} {m c I J g : Nat} {w : World} (h : Src w g A m c J) (h1 : I ≤ J) (h2 : J ≤ m) : zS A m c I w.heap[g]? := ⟨J, h1, h2, h⟩
end Go.Proofs.YthnhgjhnkncmiaaGreat

namespace Go.Proofs.YthnhgjhnkncmiaaGreat
open Go.RowKit
set_option linter.unusedVariables false

section
variable {js : List Job} {a0 : Act} {w0 : World} {fact : Nat → List Value → Value → Prop} {res : Nat → List Value → Value → List Nat → World → Prop} {i : Nat} {j : Job} {a : Act} {w : World} {vs : Nat → Value} {fp : Nat → List Nat} {v : Value}
/-- A value out of three that hold memory. -/
theorem Finds.join3 (h : Finds js a0 w0 fact res i j a w vs fp) (k1 k2 k3 : Nat) (h1' : j.eats.contains k1 = true) (h2' : j.eats.contains k2 = true) (h3' : j.eats.contains k3 = true) (h1 : fact i (j.deps.map vs) v) (h2 : res i (j.deps.map vs) v (fp k1 ++ fp k2 ++ fp k3) w) : Leaves w0 fact res i j w vs fp v (fp k1 ++ fp k2 ++ fp k3) w := by
  have e1 : k1 ∈ j.eats := by simpa using h1'
  have e2 : k2 ∈ j.eats := by simpa using h2'
  have e3 : k3 ∈ j.eats := by simpa using h3'
  refine ⟨h.below, Nat.le_refl _, fun _ _ _ => rfl, h1, h2, fun g hg => ?_⟩
  rcases List.mem_append.1 hg with hg | hg
  · rcases List.mem_append.1 hg with hg | hg
    · exact ⟨(h.own k1 e1 g hg).2, .inl ⟨k1, e1, hg⟩⟩
    · exact ⟨(h.own k2 e2 g hg).2, .inl ⟨k2, e2, hg⟩⟩
  · exact ⟨(h.own k3 e3 g hg).2, .inl ⟨k3, e3, hg⟩⟩
/-- A new block that leads to three that hold memory. -/
theorem Finds.make3 (h : Finds js a0 w0 fact res i j a w vs fp) (o : Obj) (k1 k2 k3 : Nat) (h1' : j.eats.contains k1 = true) (h2' : j.eats.contains k2 = true) (h3' : j.eats.contains k3 = true) (h1 : fact i (j.deps.map vs) v) (h2 : res i (j.deps.map vs) v (w.heap.size :: (fp k1 ++ fp k2 ++ fp k3)) (w.alloc o)) : Leaves w0 fact res i j w vs fp v (w.heap.size :: (fp k1 ++ fp k2 ++ fp k3)) (w.alloc o) := by
  have e1 : k1 ∈ j.eats := by simpa using h1'
  have e2 : k2 ∈ j.eats := by simpa using h2'
  have e3 : k3 ∈ j.eats := by simpa using h3'
  have hs : w.heap.size < (w.alloc o).heap.size := by simp
  refine ⟨h.below.alloc h.below.size o, by simp, fun g hg _ => Below.heap_alloc w o g hg, h1, h2, fun g hg => ?_⟩
  rcases List.mem_cons.1 hg with rfl | hg
  · exact ⟨hs, .inr (Nat.le_refl _)⟩
  rcases List.mem_append.1 hg with hg | hg
  · rcases List.mem_append.1 hg with hg | hg
    · exact ⟨Nat.lt_trans (h.own k1 e1 g hg).2 hs, .inl ⟨k1, e1, hg⟩⟩
    · exact ⟨Nat.lt_trans (h.own k2 e2 g hg).2 hs, .inl ⟨k2, e2, hg⟩⟩
  · exact ⟨Nat.lt_trans (h.own k3 e3 g hg).2 hs, .inl ⟨k3, e3, hg⟩⟩
end
/-- The blocks from N on that lie there are as they were. -/
structure AgN (N : Nat) (w w' : World) : Prop where
  size : w.heap.size ≤ w'.heap.size
  block : ∀ k, N ≤ k → k < w.heap.size → w'.heap[k]? = w.heap[k]?
theorem AgN.refl (N : Nat) (w : World) : AgN N w w := ⟨Nat.le_refl _, fun _ _ _ => rfl⟩
theorem AgN.trans {N : Nat} {a b c : World} (h : AgN N a b) (h2 : AgN N b c) : AgN N a c := ⟨Nat.le_trans h.size h2.size, fun k h3 h4 => (h2.block k h3 (Nat.lt_of_lt_of_le h4 h.size)).trans (h.block k h3 h4)⟩
theorem AgN.below {N : Nat} {a b c : World} (h : AgN N a b) (hb : RowKit.Below b.heap.size b c) : AgN N a c := h.trans ⟨hb.size, fun k _ h4 => hb.block k h4⟩
theorem AgN.only {N g : Nat} {a b c : World} (h : AgN N a b) (ho : Only g b c) (hg : g < N) : AgN N a c := h.trans ⟨by rw [ho.size]; exact Nat.le_refl _, fun k h3 _ => ho.block k (by omega)⟩
theorem AgN.bl {N k : Nat} {a b : World} {T : TypeId} {ds : Array Value} (h : AgN N a b) (hb : Bl a k T ds) (hk : N ≤ k) : Bl b k T ds := (h.block k hk hb.lt).trans hb
/-- A recipe among others in a block; it is read alike wherever the blocks from N on are the same. -/
def RcIn (w : World) (N g o : Nat) : Prop := ∃ (rid : Int) (IA : Option Addr) (ni ci : Nat) (ins : List Nd) (OA : Option Addr) (no co : Nat) (outs : List Nd) (SA : Option Addr) (ns cs : Nat) (sc : List Int), (∀ w', AgN N w w' → w'.cell? ⟨g, o, none⟩ = some (.int .i64 rid) ∧ w'.cell? ⟨g, o + 1, none⟩ = some (.slice IA ni ci) ∧ w'.cell? ⟨g, o + 2, none⟩ = some (.slice OA no co) ∧ w'.cell? ⟨g, o + 3, none⟩ = some (.slice SA ns cs) ∧ RcAt w' IA ni ci ins OA no co outs SA ns cs sc) ∧ RcOk rid ins outs sc
def RcsRes (w : World) (e : Ending) (w' : World) : Prop := ∃ g, e = .returned (.slice (some ⟨g, 0, none⟩) 3 3) ∧ (∀ j, j < 3 → RcIn w' w.heap.size g (j * 4)) ∧ RowKit.Below w.heap.size w w'
def AgR0 : List Value → Value → List Nat → World → Prop := fun _ v f w => ∃ g1 g2 g3, v = .agg #[.int .i64 1, .slice (some ⟨g1, 0, none⟩) 1 1, .slice (some ⟨g2, 0, none⟩) 2 2, .slice (some ⟨g3, 0, none⟩) 2 2] ∧ f = [g1] ++ [g2] ++ [g3] ∧ Bl w g1 105 #[.string (goodS 49), .int .i64 3] ∧ Bl w g2 105 #[.string (goodS 50), .int .i64 2, .string (goodS 52), .int .i64 1] ∧ Bl w g3 3 #[.int .i64 5, .int .i64 1]
theorem AgR0.loc {w0 : World} : Loc w0 AgR0 := by
  rintro _ v f w w' h1 h2 h3 h4 ⟨g1, g2, g3, rfl, rfl, h5, h6, h7⟩
  exact ⟨g1, g2, g3, rfl, rfl, (h4 g1 (by simp)).2.2.trans h5, (h4 g2 (by simp)).2.2.trans h6, (h4 g3 (by simp)).2.2.trans h7⟩
def AgR1 : List Value → Value → List Nat → World → Prop := fun _ v f w => ∃ g1 g2 g3, v = .agg #[.int .i64 2, .slice (some ⟨g1, 0, none⟩) 2 2, .slice (some ⟨g2, 0, none⟩) 1 1, .slice (some ⟨g3, 0, none⟩) 1 1] ∧ f = [g1] ++ [g2] ++ [g3] ∧ Bl w g1 105 #[.string (goodS 49), .int .i64 1, .string (goodS 50), .int .i64 2] ∧ Bl w g2 105 #[.string (goodS 51), .int .i64 1] ∧ Bl w g3 3 #[.int .i64 1]
theorem AgR1.loc {w0 : World} : Loc w0 AgR1 := by
  rintro _ v f w w' h1 h2 h3 h4 ⟨g1, g2, g3, rfl, rfl, h5, h6, h7⟩
  exact ⟨g1, g2, g3, rfl, rfl, (h4 g1 (by simp)).2.2.trans h5, (h4 g2 (by simp)).2.2.trans h6, (h4 g3 (by simp)).2.2.trans h7⟩
def AgR2 : List Value → Value → List Nat → World → Prop := fun _ v f w => ∃ g1 g2 g3, v = .agg #[.int .i64 5, .slice (some ⟨g1, 0, none⟩) 1 1, .slice (some ⟨g2, 0, none⟩) 2 2, .slice (some ⟨g3, 0, none⟩) 2 2] ∧ f = [g1] ++ [g2] ++ [g3] ∧ Bl w g1 105 #[.string (goodS 50), .int .i64 1] ∧ Bl w g2 105 #[.string (goodS 51), .int .i64 4, .string (goodS 52), .int .i64 2] ∧ Bl w g3 3 #[.int .i64 1, .int .i64 0]
theorem AgR2.loc {w0 : World} : Loc w0 AgR2 := by
  rintro _ v f w w' h1 h2 h3 h4 ⟨g1, g2, g3, rfl, rfl, h5, h6, h7⟩
  exact ⟨g1, g2, g3, rfl, rfl, (h4 g1 (by simp)).2.2.trans h5, (h4 g2 (by simp)).2.2.trans h6, (h4 g3 (by simp)).2.2.trans h7⟩
def RcsR : List Value → Value → List Nat → World → Prop := fun _ v f w => ∃ g a1 a2 a3 b1 b2 b3 c1 c2 c3, v = .slice (some ⟨g, 0, none⟩) 3 3 ∧ f = g :: (([a1] ++ [a2] ++ [a3]) ++ ([b1] ++ [b2] ++ [b3]) ++ ([c1] ++ [c2] ++ [c3])) ∧ Bl w g 100 #[.int .i64 1, .slice (some ⟨a1, 0, none⟩) 1 1, .slice (some ⟨a2, 0, none⟩) 2 2, .slice (some ⟨a3, 0, none⟩) 2 2, .int .i64 2, .slice (some ⟨b1, 0, none⟩) 2 2, .slice (some ⟨b2, 0, none⟩) 1 1, .slice (some ⟨b3, 0, none⟩) 1 1, .int .i64 5, .slice (some ⟨c1, 0, none⟩) 1 1, .slice (some ⟨c2, 0, none⟩) 2 2, .slice (some ⟨c3, 0, none⟩) 2 2] ∧ (Bl w a1 105 #[.string (goodS 49), .int .i64 3] ∧ Bl w a2 105 #[.string (goodS 50), .int .i64 2, .string (goodS 52), .int .i64 1] ∧ Bl w a3 3 #[.int .i64 5, .int .i64 1]) ∧ (Bl w b1 105 #[.string (goodS 49), .int .i64 1, .string (goodS 50), .int .i64 2] ∧ Bl w b2 105 #[.string (goodS 51), .int .i64 1] ∧ Bl w b3 3 #[.int .i64 1]) ∧ (Bl w c1 105 #[.string (goodS 50), .int .i64 1] ∧ Bl w c2 105 #[.string (goodS 51), .int .i64 4, .string (goodS 52), .int .i64 2] ∧ Bl w c3 3 #[.int .i64 1, .int .i64 0])
theorem RcsR.loc {w0 : World} : Loc w0 RcsR := by
  rintro _ v f w w' h1 h2 h3 h4 ⟨g, a1, a2, a3, b1, b2, b3, c1, c2, c3, rfl, rfl, h5, ⟨p1, p2, p3⟩, ⟨q1, q2, q3⟩, r1, r2, r3⟩
  have hh : ∀ x ∈ (g :: (([a1] ++ [a2] ++ [a3]) ++ ([b1] ++ [b2] ++ [b3]) ++ ([c1] ++ [c2] ++ [c3]))), w'.heap[x]? = w.heap[x]? := fun x hx => (h4 x hx).2.2
  exact ⟨g, a1, a2, a3, b1, b2, b3, c1, c2, c3, rfl, rfl, (hh g (by simp)).trans h5, ⟨(hh a1 (by simp)).trans p1, (hh a2 (by simp)).trans p2, (hh a3 (by simp)).trans p3⟩, ⟨(hh b1 (by simp)).trans q1, (hh b2 (by simp)).trans q2, (hh b3 (by simp)).trans q3⟩, (hh c1 (by simp)).trans r1, (hh c2 (by simp)).trans r2, (hh c3 (by simp)).trans r3⟩
theorem ints_lit {w : World} {g : Nat} {cs : List Int} (h : Bl w g 3 (cs.map (Value.int .i64)).toArray) : Ints w (some ⟨g, 0, none⟩) cs.length cs := ⟨rfl, fun _ => ⟨g, 0, rfl, h.lt, fun j hj => by
  rw [Nat.zero_add, h.cell]
  rw [List.getElem?_toArray, List.getElem?_map, List.getElem?_eq_getElem hj, List.getD_eq_getElem?_getD, List.getElem?_eq_getElem hj]
  rfl⟩⟩
set_option maxRecDepth 100000 in
set_option maxHeartbeats 32000000 in
theorem Recipes_any (w : World) : Calls Tryz.prog 54 #[] w (RcsRes w) := by
  go_enter Tryz.func54, Tryz.ntmps54
  go_wp2_with fail
  refine (Goods_any w).mono ?_
  rintro e W ⟨rfl, hb, hbw⟩
  have s0 := hb.cell 0
  have s1 := hb.cell 1
  have s2 := hb.cell 2
  have s3 := hb.cell 3
  have lg : w.heap.size < W.heap.size := hb.lt
  have HBW := Lib.hid hbw
  clear hb hbw
  generalize hgg : w.heap.size = gg at *
  go_upto_region 2 with (fail)
  refine wp_region_rows [
      ⟨⟨some 3, [], []⟩, fun _ v => v = .slice (some ⟨gg, 0, none⟩) 4 4, NoR⟩,
      ⟨⟨some 4, [0], []⟩, fun _ v => v = .pointer (some ⟨gg, 0, none⟩), NoR⟩,
      ⟨⟨some 5, [1], []⟩, fun _ v => v = .string (goodS 49), NoR⟩,
      ⟨⟨some 6, [2], []⟩, fun _ v => v = .agg #[.string (goodS 49), .int .i64 3], NoR⟩,
      ⟨⟨some 7, [3], []⟩, NoF, LitR 105 #[.string (goodS 49), .int .i64 3] 1⟩,
      ⟨⟨some 8, [], []⟩, fun _ v => v = .slice (some ⟨gg, 0, none⟩) 4 4, NoR⟩,
      ⟨⟨some 9, [5], []⟩, fun _ v => v = .pointer (some ⟨gg, 1, none⟩), NoR⟩,
      ⟨⟨some 10, [6], []⟩, fun _ v => v = .string (goodS 50), NoR⟩,
      ⟨⟨some 11, [7], []⟩, fun _ v => v = .agg #[.string (goodS 50), .int .i64 2], NoR⟩,
      ⟨⟨some 12, [], []⟩, fun _ v => v = .slice (some ⟨gg, 0, none⟩) 4 4, NoR⟩,
      ⟨⟨some 13, [9], []⟩, fun _ v => v = .pointer (some ⟨gg, 3, none⟩), NoR⟩,
      ⟨⟨some 14, [10], []⟩, fun _ v => v = .string (goodS 52), NoR⟩,
      ⟨⟨some 15, [11], []⟩, fun _ v => v = .agg #[.string (goodS 52), .int .i64 1], NoR⟩,
      ⟨⟨some 16, [8, 12], []⟩, NoF, LitR 105 #[.string (goodS 50), .int .i64 2, .string (goodS 52), .int .i64 1] 2⟩,
      ⟨⟨some 17, [], []⟩, NoF, LitR 3 #[.int .i64 5, .int .i64 1] 2⟩,
      ⟨⟨some 18, [4, 13, 14], [4, 13, 14]⟩, NoF, AgR0⟩,
      ⟨⟨some 19, [], []⟩, fun _ v => v = .slice (some ⟨gg, 0, none⟩) 4 4, NoR⟩,
      ⟨⟨some 20, [16], []⟩, fun _ v => v = .pointer (some ⟨gg, 0, none⟩), NoR⟩,
      ⟨⟨some 21, [17], []⟩, fun _ v => v = .string (goodS 49), NoR⟩,
      ⟨⟨some 22, [18], []⟩, fun _ v => v = .agg #[.string (goodS 49), .int .i64 1], NoR⟩,
      ⟨⟨some 23, [], []⟩, fun _ v => v = .slice (some ⟨gg, 0, none⟩) 4 4, NoR⟩,
      ⟨⟨some 24, [20], []⟩, fun _ v => v = .pointer (some ⟨gg, 1, none⟩), NoR⟩,
      ⟨⟨some 25, [21], []⟩, fun _ v => v = .string (goodS 50), NoR⟩,
      ⟨⟨some 26, [22], []⟩, fun _ v => v = .agg #[.string (goodS 50), .int .i64 2], NoR⟩,
      ⟨⟨some 27, [19, 23], []⟩, NoF, LitR 105 #[.string (goodS 49), .int .i64 1, .string (goodS 50), .int .i64 2] 2⟩,
      ⟨⟨some 28, [], []⟩, fun _ v => v = .slice (some ⟨gg, 0, none⟩) 4 4, NoR⟩,
      ⟨⟨some 29, [25], []⟩, fun _ v => v = .pointer (some ⟨gg, 2, none⟩), NoR⟩,
      ⟨⟨some 30, [26], []⟩, fun _ v => v = .string (goodS 51), NoR⟩,
      ⟨⟨some 31, [27], []⟩, fun _ v => v = .agg #[.string (goodS 51), .int .i64 1], NoR⟩,
      ⟨⟨some 32, [28], []⟩, NoF, LitR 105 #[.string (goodS 51), .int .i64 1] 1⟩,
      ⟨⟨some 33, [], []⟩, NoF, LitR 3 #[.int .i64 1] 1⟩,
      ⟨⟨some 34, [24, 29, 30], [24, 29, 30]⟩, NoF, AgR1⟩,
      ⟨⟨some 35, [], []⟩, fun _ v => v = .slice (some ⟨gg, 0, none⟩) 4 4, NoR⟩,
      ⟨⟨some 36, [32], []⟩, fun _ v => v = .pointer (some ⟨gg, 1, none⟩), NoR⟩,
      ⟨⟨some 37, [33], []⟩, fun _ v => v = .string (goodS 50), NoR⟩,
      ⟨⟨some 38, [34], []⟩, fun _ v => v = .agg #[.string (goodS 50), .int .i64 1], NoR⟩,
      ⟨⟨some 39, [35], []⟩, NoF, LitR 105 #[.string (goodS 50), .int .i64 1] 1⟩,
      ⟨⟨some 40, [], []⟩, fun _ v => v = .slice (some ⟨gg, 0, none⟩) 4 4, NoR⟩,
      ⟨⟨some 41, [37], []⟩, fun _ v => v = .pointer (some ⟨gg, 2, none⟩), NoR⟩,
      ⟨⟨some 42, [38], []⟩, fun _ v => v = .string (goodS 51), NoR⟩,
      ⟨⟨some 43, [39], []⟩, fun _ v => v = .agg #[.string (goodS 51), .int .i64 4], NoR⟩,
      ⟨⟨some 44, [], []⟩, fun _ v => v = .slice (some ⟨gg, 0, none⟩) 4 4, NoR⟩,
      ⟨⟨some 45, [41], []⟩, fun _ v => v = .pointer (some ⟨gg, 3, none⟩), NoR⟩,
      ⟨⟨some 46, [42], []⟩, fun _ v => v = .string (goodS 52), NoR⟩,
      ⟨⟨some 47, [43], []⟩, fun _ v => v = .agg #[.string (goodS 52), .int .i64 2], NoR⟩,
      ⟨⟨some 48, [40, 44], []⟩, NoF, LitR 105 #[.string (goodS 51), .int .i64 4, .string (goodS 52), .int .i64 2] 2⟩,
      ⟨⟨some 49, [], []⟩, NoF, LitR 3 #[.int .i64 1, .int .i64 0] 2⟩,
      ⟨⟨some 50, [36, 45, 46], [36, 45, 46]⟩, NoF, AgR2⟩,
      ⟨⟨some 51, [15, 31, 47], [15, 31, 47]⟩, NoF, RcsR⟩,
      ⟨⟨some 0, [48], [48]⟩, NoF, RcsR⟩] (by kernel_rfl) (by kernel_rfl) (by kernel_rfl) ⟨NoR.loc, NoR.loc, NoR.loc, NoR.loc, LitR.loc, NoR.loc, NoR.loc, NoR.loc, NoR.loc, NoR.loc, NoR.loc, NoR.loc, NoR.loc, LitR.loc, LitR.loc, AgR0.loc, NoR.loc, NoR.loc, NoR.loc, NoR.loc, NoR.loc, NoR.loc, NoR.loc, NoR.loc, LitR.loc, NoR.loc, NoR.loc, NoR.loc, NoR.loc, LitR.loc, LitR.loc, AgR1.loc, NoR.loc, NoR.loc, NoR.loc, NoR.loc, LitR.loc, NoR.loc, NoR.loc, NoR.loc, NoR.loc, NoR.loc, NoR.loc, NoR.loc, NoR.loc, LitR.loc, LitR.loc, AgR2.loc, RcsR.loc, RcsR.loc, trivial⟩ ⟨?r0, ?r1, ?r2, ?r3, ?r4, ?r5, ?r6, ?r7, ?r8, ?r9, ?r10, ?r11, ?r12, ?r13, ?r14, ?r15, ?r16, ?r17, ?r18, ?r19, ?r20, ?r21, ?r22, ?r23, ?r24, ?r25, ?r26, ?r27, ?r28, ?r29, ?r30, ?r31, ?r32, ?r33, ?r34, ?r35, ?r36, ?r37, ?r38, ?r39, ?r40, ?r41, ?r42, ?r43, ?r44, ?r45, ?r46, ?r47, ?r48, ?r49, trivial⟩ ?fin
  case r0 =>
    refine step_of rfl rfl ?_
    intro a wx vs fp K hF hK
    exact op_move rfl (hF.at_ 1 rfl) (hK _ _ _ (hF.only rfl trivial))
  case r1 =>
    refine step_of rfl rfl ?_
    intro a wx vs fp K hF hK
    have ev0 : a.eval (.tmp 3) = .slice (some ⟨gg, 0, none⟩) 4 4 := (hF.ev 0 3 rfl rfl).trans (hF.va 0 rfl)
    refine op_value (v := .pointer (some ⟨gg, 0, none⟩)) ?_ (hK _ _ _ (hF.only rfl trivial))
    have ec : ∀ v, a.eval (.const v) = v := fun _ => rfl
    clear hF hK
    generalize a.eval = ρ at *
    go_simp
  case r2 =>
    refine step_of rfl rfl ?_
    intro a wx vs fp K hF hK
    have ev1 : a.eval (.tmp 4) = .pointer (some ⟨gg, 0, none⟩) := (hF.ev 1 4 rfl rfl).trans (hF.va 1 rfl)
    have m0 := (hF.below.cell (p := ⟨gg, 0, none⟩) lg).trans s0
    refine op_value (v := .string (goodS 49)) ?_ (hK _ _ _ (hF.only rfl trivial))
    have ec : ∀ v, a.eval (.const v) = v := fun _ => rfl
    clear hF hK
    generalize a.eval = ρ at *
    go_simp
  case r3 =>
    refine step_of rfl rfl ?_
    intro a wx vs fp K hF hK
    have ev2 : a.eval (.tmp 5) = .string (goodS 49) := (hF.ev 2 5 rfl rfl).trans (hF.va 2 rfl)
    refine op_value (v := .agg #[.string (goodS 49), .int .i64 3]) ?_ (hK _ _ _ (hF.only rfl trivial))
    have ec : ∀ v, a.eval (.const v) = v := fun _ => rfl
    clear hF hK
    generalize a.eval = ρ at *
    go_simp
  case r4 =>
    refine step_of rfl rfl ?_
    intro a wx vs fp K hF hK
    have evr0n0b : a.eval (.tmp 6) = .agg #[.string (goodS 49), .int .i64 3] := (hF.ev 3 6 rfl rfl).trans (hF.va 3 rfl)
    refine op_value (v := .slice (some ⟨wx.heap.size, 0, none⟩) 1 1) (w' := wx.alloc (.cells #[.string (goodS 49), .int .i64 3] 105)) ?_ (hK _ _ _ (hF.made _ trivial ⟨_, rfl, rfl, Bl.new _ _ _⟩))
    have ec : ∀ v, a.eval (.const v) = v := fun _ => rfl
    clear hF hK
    generalize a.eval = ρ at *
    go_simp
  case r5 =>
    refine step_of rfl rfl ?_
    intro a wx vs fp K hF hK
    exact op_move rfl (hF.at_ 1 rfl) (hK _ _ _ (hF.only rfl trivial))
  case r6 =>
    refine step_of rfl rfl ?_
    intro a wx vs fp K hF hK
    have ev5 : a.eval (.tmp 8) = .slice (some ⟨gg, 0, none⟩) 4 4 := (hF.ev 5 8 rfl rfl).trans (hF.va 5 rfl)
    refine op_value (v := .pointer (some ⟨gg, 1, none⟩)) ?_ (hK _ _ _ (hF.only rfl trivial))
    have ec : ∀ v, a.eval (.const v) = v := fun _ => rfl
    clear hF hK
    generalize a.eval = ρ at *
    go_simp
  case r7 =>
    refine step_of rfl rfl ?_
    intro a wx vs fp K hF hK
    have ev6 : a.eval (.tmp 9) = .pointer (some ⟨gg, 1, none⟩) := (hF.ev 6 9 rfl rfl).trans (hF.va 6 rfl)
    have m0 := (hF.below.cell (p := ⟨gg, 1, none⟩) lg).trans s1
    refine op_value (v := .string (goodS 50)) ?_ (hK _ _ _ (hF.only rfl trivial))
    have ec : ∀ v, a.eval (.const v) = v := fun _ => rfl
    clear hF hK
    generalize a.eval = ρ at *
    go_simp
  case r8 =>
    refine step_of rfl rfl ?_
    intro a wx vs fp K hF hK
    have ev7 : a.eval (.tmp 10) = .string (goodS 50) := (hF.ev 7 10 rfl rfl).trans (hF.va 7 rfl)
    refine op_value (v := .agg #[.string (goodS 50), .int .i64 2]) ?_ (hK _ _ _ (hF.only rfl trivial))
    have ec : ∀ v, a.eval (.const v) = v := fun _ => rfl
    clear hF hK
    generalize a.eval = ρ at *
    go_simp
  case r9 =>
    refine step_of rfl rfl ?_
    intro a wx vs fp K hF hK
    exact op_move rfl (hF.at_ 1 rfl) (hK _ _ _ (hF.only rfl trivial))
  case r10 =>
    refine step_of rfl rfl ?_
    intro a wx vs fp K hF hK
    have ev9 : a.eval (.tmp 12) = .slice (some ⟨gg, 0, none⟩) 4 4 := (hF.ev 9 12 rfl rfl).trans (hF.va 9 rfl)
    refine op_value (v := .pointer (some ⟨gg, 3, none⟩)) ?_ (hK _ _ _ (hF.only rfl trivial))
    have ec : ∀ v, a.eval (.const v) = v := fun _ => rfl
    clear hF hK
    generalize a.eval = ρ at *
    go_simp
  case r11 =>
    refine step_of rfl rfl ?_
    intro a wx vs fp K hF hK
    have ev10 : a.eval (.tmp 13) = .pointer (some ⟨gg, 3, none⟩) := (hF.ev 10 13 rfl rfl).trans (hF.va 10 rfl)
    have m0 := (hF.below.cell (p := ⟨gg, 3, none⟩) lg).trans s3
    refine op_value (v := .string (goodS 52)) ?_ (hK _ _ _ (hF.only rfl trivial))
    have ec : ∀ v, a.eval (.const v) = v := fun _ => rfl
    clear hF hK
    generalize a.eval = ρ at *
    go_simp
  case r12 =>
    refine step_of rfl rfl ?_
    intro a wx vs fp K hF hK
    have ev11 : a.eval (.tmp 14) = .string (goodS 52) := (hF.ev 11 14 rfl rfl).trans (hF.va 11 rfl)
    refine op_value (v := .agg #[.string (goodS 52), .int .i64 1]) ?_ (hK _ _ _ (hF.only rfl trivial))
    have ec : ∀ v, a.eval (.const v) = v := fun _ => rfl
    clear hF hK
    generalize a.eval = ρ at *
    go_simp
  case r13 =>
    refine step_of rfl rfl ?_
    intro a wx vs fp K hF hK
    have evr0o0b : a.eval (.tmp 11) = .agg #[.string (goodS 50), .int .i64 2] := (hF.ev 8 11 rfl rfl).trans (hF.va 8 rfl)
    have evr0o1b : a.eval (.tmp 15) = .agg #[.string (goodS 52), .int .i64 1] := (hF.ev 12 15 rfl rfl).trans (hF.va 12 rfl)
    refine op_value (v := .slice (some ⟨wx.heap.size, 0, none⟩) 2 2) (w' := wx.alloc (.cells #[.string (goodS 50), .int .i64 2, .string (goodS 52), .int .i64 1] 105)) ?_ (hK _ _ _ (hF.made _ trivial ⟨_, rfl, rfl, Bl.new _ _ _⟩))
    have ec : ∀ v, a.eval (.const v) = v := fun _ => rfl
    clear hF hK
    generalize a.eval = ρ at *
    go_simp
  case r14 =>
    refine step_of rfl rfl ?_
    intro a wx vs fp K hF hK
    refine op_value (v := .slice (some ⟨wx.heap.size, 0, none⟩) 2 2) (w' := wx.alloc (.cells #[.int .i64 5, .int .i64 1] 3)) ?_ (hK _ _ _ (hF.made _ trivial ⟨_, rfl, rfl, Bl.new _ _ _⟩))
    have ec : ∀ v, a.eval (.const v) = v := fun _ => rfl
    clear hF hK
    generalize a.eval = ρ at *
    go_simp
  case r15 =>
    refine step_of rfl rfl ?_
    intro a wx vs fp K hF hK
    have hm0 : LitR 105 #[.string (goodS 49), .int .i64 3] 1 [] (vs 4) (fp 4) wx := hF.me 4 rfl
    obtain ⟨g0, hg0, hf0, hb0⟩ := hm0
    have e0 : a.eval (.tmp 7) = .slice (some ⟨g0, 0, none⟩) 1 1 := (hF.ev 4 7 rfl rfl).trans hg0
    have hm1 : LitR 105 #[.string (goodS 50), .int .i64 2, .string (goodS 52), .int .i64 1] 2 [] (vs 13) (fp 13) wx := hF.me 13 rfl
    obtain ⟨g1, hg1, hf1, hb1⟩ := hm1
    have e1 : a.eval (.tmp 16) = .slice (some ⟨g1, 0, none⟩) 2 2 := (hF.ev 13 16 rfl rfl).trans hg1
    have hm2 : LitR 3 #[.int .i64 5, .int .i64 1] 2 [] (vs 14) (fp 14) wx := hF.me 14 rfl
    obtain ⟨g2, hg2, hf2, hb2⟩ := hm2
    have e2 : a.eval (.tmp 17) = .slice (some ⟨g2, 0, none⟩) 2 2 := (hF.ev 14 17 rfl rfl).trans hg2
    refine op_value (v := .agg #[.int .i64 1, .slice (some ⟨g0, 0, none⟩) 1 1, .slice (some ⟨g1, 0, none⟩) 2 2, .slice (some ⟨g2, 0, none⟩) 2 2]) ?_ (hK _ _ _ (hF.join3 4 13 14 rfl rfl rfl trivial ⟨g0, g1, g2, rfl, by rw [hf0, hf1, hf2], hb0, hb1, hb2⟩))
    have ec : ∀ v, a.eval (.const v) = v := fun _ => rfl
    clear hF hK
    generalize a.eval = ρ at *
    go_simp
  case r16 =>
    refine step_of rfl rfl ?_
    intro a wx vs fp K hF hK
    exact op_move rfl (hF.at_ 1 rfl) (hK _ _ _ (hF.only rfl trivial))
  case r17 =>
    refine step_of rfl rfl ?_
    intro a wx vs fp K hF hK
    have ev16 : a.eval (.tmp 19) = .slice (some ⟨gg, 0, none⟩) 4 4 := (hF.ev 16 19 rfl rfl).trans (hF.va 16 rfl)
    refine op_value (v := .pointer (some ⟨gg, 0, none⟩)) ?_ (hK _ _ _ (hF.only rfl trivial))
    have ec : ∀ v, a.eval (.const v) = v := fun _ => rfl
    clear hF hK
    generalize a.eval = ρ at *
    go_simp
  case r18 =>
    refine step_of rfl rfl ?_
    intro a wx vs fp K hF hK
    have ev17 : a.eval (.tmp 20) = .pointer (some ⟨gg, 0, none⟩) := (hF.ev 17 20 rfl rfl).trans (hF.va 17 rfl)
    have m0 := (hF.below.cell (p := ⟨gg, 0, none⟩) lg).trans s0
    refine op_value (v := .string (goodS 49)) ?_ (hK _ _ _ (hF.only rfl trivial))
    have ec : ∀ v, a.eval (.const v) = v := fun _ => rfl
    clear hF hK
    generalize a.eval = ρ at *
    go_simp
  case r19 =>
    refine step_of rfl rfl ?_
    intro a wx vs fp K hF hK
    have ev18 : a.eval (.tmp 21) = .string (goodS 49) := (hF.ev 18 21 rfl rfl).trans (hF.va 18 rfl)
    refine op_value (v := .agg #[.string (goodS 49), .int .i64 1]) ?_ (hK _ _ _ (hF.only rfl trivial))
    have ec : ∀ v, a.eval (.const v) = v := fun _ => rfl
    clear hF hK
    generalize a.eval = ρ at *
    go_simp
  case r20 =>
    refine step_of rfl rfl ?_
    intro a wx vs fp K hF hK
    exact op_move rfl (hF.at_ 1 rfl) (hK _ _ _ (hF.only rfl trivial))
  case r21 =>
    refine step_of rfl rfl ?_
    intro a wx vs fp K hF hK
    have ev20 : a.eval (.tmp 23) = .slice (some ⟨gg, 0, none⟩) 4 4 := (hF.ev 20 23 rfl rfl).trans (hF.va 20 rfl)
    refine op_value (v := .pointer (some ⟨gg, 1, none⟩)) ?_ (hK _ _ _ (hF.only rfl trivial))
    have ec : ∀ v, a.eval (.const v) = v := fun _ => rfl
    clear hF hK
    generalize a.eval = ρ at *
    go_simp
  case r22 =>
    refine step_of rfl rfl ?_
    intro a wx vs fp K hF hK
    have ev21 : a.eval (.tmp 24) = .pointer (some ⟨gg, 1, none⟩) := (hF.ev 21 24 rfl rfl).trans (hF.va 21 rfl)
    have m0 := (hF.below.cell (p := ⟨gg, 1, none⟩) lg).trans s1
    refine op_value (v := .string (goodS 50)) ?_ (hK _ _ _ (hF.only rfl trivial))
    have ec : ∀ v, a.eval (.const v) = v := fun _ => rfl
    clear hF hK
    generalize a.eval = ρ at *
    go_simp
  case r23 =>
    refine step_of rfl rfl ?_
    intro a wx vs fp K hF hK
    have ev22 : a.eval (.tmp 25) = .string (goodS 50) := (hF.ev 22 25 rfl rfl).trans (hF.va 22 rfl)
    refine op_value (v := .agg #[.string (goodS 50), .int .i64 2]) ?_ (hK _ _ _ (hF.only rfl trivial))
    have ec : ∀ v, a.eval (.const v) = v := fun _ => rfl
    clear hF hK
    generalize a.eval = ρ at *
    go_simp
  case r24 =>
    refine step_of rfl rfl ?_
    intro a wx vs fp K hF hK
    have evr1n0b : a.eval (.tmp 22) = .agg #[.string (goodS 49), .int .i64 1] := (hF.ev 19 22 rfl rfl).trans (hF.va 19 rfl)
    have evr1n1b : a.eval (.tmp 26) = .agg #[.string (goodS 50), .int .i64 2] := (hF.ev 23 26 rfl rfl).trans (hF.va 23 rfl)
    refine op_value (v := .slice (some ⟨wx.heap.size, 0, none⟩) 2 2) (w' := wx.alloc (.cells #[.string (goodS 49), .int .i64 1, .string (goodS 50), .int .i64 2] 105)) ?_ (hK _ _ _ (hF.made _ trivial ⟨_, rfl, rfl, Bl.new _ _ _⟩))
    have ec : ∀ v, a.eval (.const v) = v := fun _ => rfl
    clear hF hK
    generalize a.eval = ρ at *
    go_simp
  case r25 =>
    refine step_of rfl rfl ?_
    intro a wx vs fp K hF hK
    exact op_move rfl (hF.at_ 1 rfl) (hK _ _ _ (hF.only rfl trivial))
  case r26 =>
    refine step_of rfl rfl ?_
    intro a wx vs fp K hF hK
    have ev25 : a.eval (.tmp 28) = .slice (some ⟨gg, 0, none⟩) 4 4 := (hF.ev 25 28 rfl rfl).trans (hF.va 25 rfl)
    refine op_value (v := .pointer (some ⟨gg, 2, none⟩)) ?_ (hK _ _ _ (hF.only rfl trivial))
    have ec : ∀ v, a.eval (.const v) = v := fun _ => rfl
    clear hF hK
    generalize a.eval = ρ at *
    go_simp
  case r27 =>
    refine step_of rfl rfl ?_
    intro a wx vs fp K hF hK
    have ev26 : a.eval (.tmp 29) = .pointer (some ⟨gg, 2, none⟩) := (hF.ev 26 29 rfl rfl).trans (hF.va 26 rfl)
    have m0 := (hF.below.cell (p := ⟨gg, 2, none⟩) lg).trans s2
    refine op_value (v := .string (goodS 51)) ?_ (hK _ _ _ (hF.only rfl trivial))
    have ec : ∀ v, a.eval (.const v) = v := fun _ => rfl
    clear hF hK
    generalize a.eval = ρ at *
    go_simp
  case r28 =>
    refine step_of rfl rfl ?_
    intro a wx vs fp K hF hK
    have ev27 : a.eval (.tmp 30) = .string (goodS 51) := (hF.ev 27 30 rfl rfl).trans (hF.va 27 rfl)
    refine op_value (v := .agg #[.string (goodS 51), .int .i64 1]) ?_ (hK _ _ _ (hF.only rfl trivial))
    have ec : ∀ v, a.eval (.const v) = v := fun _ => rfl
    clear hF hK
    generalize a.eval = ρ at *
    go_simp
  case r29 =>
    refine step_of rfl rfl ?_
    intro a wx vs fp K hF hK
    have evr1o0b : a.eval (.tmp 31) = .agg #[.string (goodS 51), .int .i64 1] := (hF.ev 28 31 rfl rfl).trans (hF.va 28 rfl)
    refine op_value (v := .slice (some ⟨wx.heap.size, 0, none⟩) 1 1) (w' := wx.alloc (.cells #[.string (goodS 51), .int .i64 1] 105)) ?_ (hK _ _ _ (hF.made _ trivial ⟨_, rfl, rfl, Bl.new _ _ _⟩))
    have ec : ∀ v, a.eval (.const v) = v := fun _ => rfl
    clear hF hK
    generalize a.eval = ρ at *
    go_simp
  case r30 =>
    refine step_of rfl rfl ?_
    intro a wx vs fp K hF hK
    refine op_value (v := .slice (some ⟨wx.heap.size, 0, none⟩) 1 1) (w' := wx.alloc (.cells #[.int .i64 1] 3)) ?_ (hK _ _ _ (hF.made _ trivial ⟨_, rfl, rfl, Bl.new _ _ _⟩))
    have ec : ∀ v, a.eval (.const v) = v := fun _ => rfl
    clear hF hK
    generalize a.eval = ρ at *
    go_simp
  case r31 =>
    refine step_of rfl rfl ?_
    intro a wx vs fp K hF hK
    have hm0 : LitR 105 #[.string (goodS 49), .int .i64 1, .string (goodS 50), .int .i64 2] 2 [] (vs 24) (fp 24) wx := hF.me 24 rfl
    obtain ⟨g0, hg0, hf0, hb0⟩ := hm0
    have e0 : a.eval (.tmp 27) = .slice (some ⟨g0, 0, none⟩) 2 2 := (hF.ev 24 27 rfl rfl).trans hg0
    have hm1 : LitR 105 #[.string (goodS 51), .int .i64 1] 1 [] (vs 29) (fp 29) wx := hF.me 29 rfl
    obtain ⟨g1, hg1, hf1, hb1⟩ := hm1
    have e1 : a.eval (.tmp 32) = .slice (some ⟨g1, 0, none⟩) 1 1 := (hF.ev 29 32 rfl rfl).trans hg1
    have hm2 : LitR 3 #[.int .i64 1] 1 [] (vs 30) (fp 30) wx := hF.me 30 rfl
    obtain ⟨g2, hg2, hf2, hb2⟩ := hm2
    have e2 : a.eval (.tmp 33) = .slice (some ⟨g2, 0, none⟩) 1 1 := (hF.ev 30 33 rfl rfl).trans hg2
    refine op_value (v := .agg #[.int .i64 2, .slice (some ⟨g0, 0, none⟩) 2 2, .slice (some ⟨g1, 0, none⟩) 1 1, .slice (some ⟨g2, 0, none⟩) 1 1]) ?_ (hK _ _ _ (hF.join3 24 29 30 rfl rfl rfl trivial ⟨g0, g1, g2, rfl, by rw [hf0, hf1, hf2], hb0, hb1, hb2⟩))
    have ec : ∀ v, a.eval (.const v) = v := fun _ => rfl
    clear hF hK
    generalize a.eval = ρ at *
    go_simp
  case r32 =>
    refine step_of rfl rfl ?_
    intro a wx vs fp K hF hK
    exact op_move rfl (hF.at_ 1 rfl) (hK _ _ _ (hF.only rfl trivial))
  case r33 =>
    refine step_of rfl rfl ?_
    intro a wx vs fp K hF hK
    have ev32 : a.eval (.tmp 35) = .slice (some ⟨gg, 0, none⟩) 4 4 := (hF.ev 32 35 rfl rfl).trans (hF.va 32 rfl)
    refine op_value (v := .pointer (some ⟨gg, 1, none⟩)) ?_ (hK _ _ _ (hF.only rfl trivial))
    have ec : ∀ v, a.eval (.const v) = v := fun _ => rfl
    clear hF hK
    generalize a.eval = ρ at *
    go_simp
  case r34 =>
    refine step_of rfl rfl ?_
    intro a wx vs fp K hF hK
    have ev33 : a.eval (.tmp 36) = .pointer (some ⟨gg, 1, none⟩) := (hF.ev 33 36 rfl rfl).trans (hF.va 33 rfl)
    have m0 := (hF.below.cell (p := ⟨gg, 1, none⟩) lg).trans s1
    refine op_value (v := .string (goodS 50)) ?_ (hK _ _ _ (hF.only rfl trivial))
    have ec : ∀ v, a.eval (.const v) = v := fun _ => rfl
    clear hF hK
    generalize a.eval = ρ at *
    go_simp
  case r35 =>
    refine step_of rfl rfl ?_
    intro a wx vs fp K hF hK
    have ev34 : a.eval (.tmp 37) = .string (goodS 50) := (hF.ev 34 37 rfl rfl).trans (hF.va 34 rfl)
    refine op_value (v := .agg #[.string (goodS 50), .int .i64 1]) ?_ (hK _ _ _ (hF.only rfl trivial))
    have ec : ∀ v, a.eval (.const v) = v := fun _ => rfl
    clear hF hK
    generalize a.eval = ρ at *
    go_simp
  case r36 =>
    refine step_of rfl rfl ?_
    intro a wx vs fp K hF hK
    have evr2n0b : a.eval (.tmp 38) = .agg #[.string (goodS 50), .int .i64 1] := (hF.ev 35 38 rfl rfl).trans (hF.va 35 rfl)
    refine op_value (v := .slice (some ⟨wx.heap.size, 0, none⟩) 1 1) (w' := wx.alloc (.cells #[.string (goodS 50), .int .i64 1] 105)) ?_ (hK _ _ _ (hF.made _ trivial ⟨_, rfl, rfl, Bl.new _ _ _⟩))
    have ec : ∀ v, a.eval (.const v) = v := fun _ => rfl
    clear hF hK
    generalize a.eval = ρ at *
    go_simp
  case r37 =>
    refine step_of rfl rfl ?_
    intro a wx vs fp K hF hK
    exact op_move rfl (hF.at_ 1 rfl) (hK _ _ _ (hF.only rfl trivial))
  case r38 =>
    refine step_of rfl rfl ?_
    intro a wx vs fp K hF hK
    have ev37 : a.eval (.tmp 40) = .slice (some ⟨gg, 0, none⟩) 4 4 := (hF.ev 37 40 rfl rfl).trans (hF.va 37 rfl)
    refine op_value (v := .pointer (some ⟨gg, 2, none⟩)) ?_ (hK _ _ _ (hF.only rfl trivial))
    have ec : ∀ v, a.eval (.const v) = v := fun _ => rfl
    clear hF hK
    generalize a.eval = ρ at *
    go_simp
  case r39 =>
    refine step_of rfl rfl ?_
    intro a wx vs fp K hF hK
    have ev38 : a.eval (.tmp 41) = .pointer (some ⟨gg, 2, none⟩) := (hF.ev 38 41 rfl rfl).trans (hF.va 38 rfl)
    have m0 := (hF.below.cell (p := ⟨gg, 2, none⟩) lg).trans s2
    refine op_value (v := .string (goodS 51)) ?_ (hK _ _ _ (hF.only rfl trivial))
    have ec : ∀ v, a.eval (.const v) = v := fun _ => rfl
    clear hF hK
    generalize a.eval = ρ at *
    go_simp
  case r40 =>
    refine step_of rfl rfl ?_
    intro a wx vs fp K hF hK
    have ev39 : a.eval (.tmp 42) = .string (goodS 51) := (hF.ev 39 42 rfl rfl).trans (hF.va 39 rfl)
    refine op_value (v := .agg #[.string (goodS 51), .int .i64 4]) ?_ (hK _ _ _ (hF.only rfl trivial))
    have ec : ∀ v, a.eval (.const v) = v := fun _ => rfl
    clear hF hK
    generalize a.eval = ρ at *
    go_simp
  case r41 =>
    refine step_of rfl rfl ?_
    intro a wx vs fp K hF hK
    exact op_move rfl (hF.at_ 1 rfl) (hK _ _ _ (hF.only rfl trivial))
  case r42 =>
    refine step_of rfl rfl ?_
    intro a wx vs fp K hF hK
    have ev41 : a.eval (.tmp 44) = .slice (some ⟨gg, 0, none⟩) 4 4 := (hF.ev 41 44 rfl rfl).trans (hF.va 41 rfl)
    refine op_value (v := .pointer (some ⟨gg, 3, none⟩)) ?_ (hK _ _ _ (hF.only rfl trivial))
    have ec : ∀ v, a.eval (.const v) = v := fun _ => rfl
    clear hF hK
    generalize a.eval = ρ at *
    go_simp
  case r43 =>
    refine step_of rfl rfl ?_
    intro a wx vs fp K hF hK
    have ev42 : a.eval (.tmp 45) = .pointer (some ⟨gg, 3, none⟩) := (hF.ev 42 45 rfl rfl).trans (hF.va 42 rfl)
    have m0 := (hF.below.cell (p := ⟨gg, 3, none⟩) lg).trans s3
    refine op_value (v := .string (goodS 52)) ?_ (hK _ _ _ (hF.only rfl trivial))
    have ec : ∀ v, a.eval (.const v) = v := fun _ => rfl
    clear hF hK
    generalize a.eval = ρ at *
    go_simp
  case r44 =>
    refine step_of rfl rfl ?_
    intro a wx vs fp K hF hK
    have ev43 : a.eval (.tmp 46) = .string (goodS 52) := (hF.ev 43 46 rfl rfl).trans (hF.va 43 rfl)
    refine op_value (v := .agg #[.string (goodS 52), .int .i64 2]) ?_ (hK _ _ _ (hF.only rfl trivial))
    have ec : ∀ v, a.eval (.const v) = v := fun _ => rfl
    clear hF hK
    generalize a.eval = ρ at *
    go_simp
  case r45 =>
    refine step_of rfl rfl ?_
    intro a wx vs fp K hF hK
    have evr2o0b : a.eval (.tmp 43) = .agg #[.string (goodS 51), .int .i64 4] := (hF.ev 40 43 rfl rfl).trans (hF.va 40 rfl)
    have evr2o1b : a.eval (.tmp 47) = .agg #[.string (goodS 52), .int .i64 2] := (hF.ev 44 47 rfl rfl).trans (hF.va 44 rfl)
    refine op_value (v := .slice (some ⟨wx.heap.size, 0, none⟩) 2 2) (w' := wx.alloc (.cells #[.string (goodS 51), .int .i64 4, .string (goodS 52), .int .i64 2] 105)) ?_ (hK _ _ _ (hF.made _ trivial ⟨_, rfl, rfl, Bl.new _ _ _⟩))
    have ec : ∀ v, a.eval (.const v) = v := fun _ => rfl
    clear hF hK
    generalize a.eval = ρ at *
    go_simp
  case r46 =>
    refine step_of rfl rfl ?_
    intro a wx vs fp K hF hK
    refine op_value (v := .slice (some ⟨wx.heap.size, 0, none⟩) 2 2) (w' := wx.alloc (.cells #[.int .i64 1, .int .i64 0] 3)) ?_ (hK _ _ _ (hF.made _ trivial ⟨_, rfl, rfl, Bl.new _ _ _⟩))
    have ec : ∀ v, a.eval (.const v) = v := fun _ => rfl
    clear hF hK
    generalize a.eval = ρ at *
    go_simp
  case r47 =>
    refine step_of rfl rfl ?_
    intro a wx vs fp K hF hK
    have hm0 : LitR 105 #[.string (goodS 50), .int .i64 1] 1 [] (vs 36) (fp 36) wx := hF.me 36 rfl
    obtain ⟨g0, hg0, hf0, hb0⟩ := hm0
    have e0 : a.eval (.tmp 39) = .slice (some ⟨g0, 0, none⟩) 1 1 := (hF.ev 36 39 rfl rfl).trans hg0
    have hm1 : LitR 105 #[.string (goodS 51), .int .i64 4, .string (goodS 52), .int .i64 2] 2 [] (vs 45) (fp 45) wx := hF.me 45 rfl
    obtain ⟨g1, hg1, hf1, hb1⟩ := hm1
    have e1 : a.eval (.tmp 48) = .slice (some ⟨g1, 0, none⟩) 2 2 := (hF.ev 45 48 rfl rfl).trans hg1
    have hm2 : LitR 3 #[.int .i64 1, .int .i64 0] 2 [] (vs 46) (fp 46) wx := hF.me 46 rfl
    obtain ⟨g2, hg2, hf2, hb2⟩ := hm2
    have e2 : a.eval (.tmp 49) = .slice (some ⟨g2, 0, none⟩) 2 2 := (hF.ev 46 49 rfl rfl).trans hg2
    refine op_value (v := .agg #[.int .i64 5, .slice (some ⟨g0, 0, none⟩) 1 1, .slice (some ⟨g1, 0, none⟩) 2 2, .slice (some ⟨g2, 0, none⟩) 2 2]) ?_ (hK _ _ _ (hF.join3 36 45 46 rfl rfl rfl trivial ⟨g0, g1, g2, rfl, by rw [hf0, hf1, hf2], hb0, hb1, hb2⟩))
    have ec : ∀ v, a.eval (.const v) = v := fun _ => rfl
    clear hF hK
    generalize a.eval = ρ at *
    go_simp
  case r48 =>
    refine step_of rfl rfl ?_
    intro a wx vs fp K hF hK
    have hm0 : AgR0 [] (vs 15) (fp 15) wx := hF.me 15 rfl
    obtain ⟨a1, a2, a3, hv0, hf0, hb0⟩ := hm0
    have e0 : a.eval (.tmp 18) = .agg #[.int .i64 1, .slice (some ⟨a1, 0, none⟩) 1 1, .slice (some ⟨a2, 0, none⟩) 2 2, .slice (some ⟨a3, 0, none⟩) 2 2] := (hF.ev 15 18 rfl rfl).trans hv0
    have hm1 : AgR1 [] (vs 31) (fp 31) wx := hF.me 31 rfl
    obtain ⟨b1, b2, b3, hv1, hf1, hb1⟩ := hm1
    have e1 : a.eval (.tmp 34) = .agg #[.int .i64 2, .slice (some ⟨b1, 0, none⟩) 2 2, .slice (some ⟨b2, 0, none⟩) 1 1, .slice (some ⟨b3, 0, none⟩) 1 1] := (hF.ev 31 34 rfl rfl).trans hv1
    have hm2 : AgR2 [] (vs 47) (fp 47) wx := hF.me 47 rfl
    obtain ⟨c1, c2, c3, hv2, hf2, hb2⟩ := hm2
    have e2 : a.eval (.tmp 50) = .agg #[.int .i64 5, .slice (some ⟨c1, 0, none⟩) 1 1, .slice (some ⟨c2, 0, none⟩) 2 2, .slice (some ⟨c3, 0, none⟩) 2 2] := (hF.ev 47 50 rfl rfl).trans hv2
    have hal : ∀ k T cs, Bl wx k T cs → Bl (wx.alloc (.cells #[.int .i64 1, .slice (some ⟨a1, 0, none⟩) 1 1, .slice (some ⟨a2, 0, none⟩) 2 2, .slice (some ⟨a3, 0, none⟩) 2 2, .int .i64 2, .slice (some ⟨b1, 0, none⟩) 2 2, .slice (some ⟨b2, 0, none⟩) 1 1, .slice (some ⟨b3, 0, none⟩) 1 1, .int .i64 5, .slice (some ⟨c1, 0, none⟩) 1 1, .slice (some ⟨c2, 0, none⟩) 2 2, .slice (some ⟨c3, 0, none⟩) 2 2] 100)) k T cs := fun k T cs h => h.alloc _
    refine op_value (v := .slice (some ⟨wx.heap.size, 0, none⟩) 3 3) (w' := wx.alloc (.cells #[.int .i64 1, .slice (some ⟨a1, 0, none⟩) 1 1, .slice (some ⟨a2, 0, none⟩) 2 2, .slice (some ⟨a3, 0, none⟩) 2 2, .int .i64 2, .slice (some ⟨b1, 0, none⟩) 2 2, .slice (some ⟨b2, 0, none⟩) 1 1, .slice (some ⟨b3, 0, none⟩) 1 1, .int .i64 5, .slice (some ⟨c1, 0, none⟩) 1 1, .slice (some ⟨c2, 0, none⟩) 2 2, .slice (some ⟨c3, 0, none⟩) 2 2] 100)) ?_ (hK _ _ _ (hF.make3 _ 15 31 47 rfl rfl rfl trivial ⟨_, a1, a2, a3, b1, b2, b3, c1, c2, c3, rfl, by rw [hf0, hf1, hf2], Bl.new _ _ _, ⟨hal _ _ _ hb0.1, hal _ _ _ hb0.2.1, hal _ _ _ hb0.2.2⟩, ⟨hal _ _ _ hb1.1, hal _ _ _ hb1.2.1, hal _ _ _ hb1.2.2⟩, hal _ _ _ hb2.1, hal _ _ _ hb2.2.1, hal _ _ _ hb2.2.2⟩))
    clear hF hK hal hb0 hb1 hb2 hf0 hf1 hf2 hv0 hv1 hv2
    generalize a.eval = ρ at *
    go_simp
  case r49 =>
    refine step_of rfl rfl ?_
    intro a wx vs fp K hF hK
    have hm : RcsR [] (vs 48) (fp 48) wx := hF.me 48 rfl
    exact op_assign rfl (hF.ev 48 51 rfl rfl) (hK _ _ _ (hF.hand 48 rfl trivial hm))
  case fin =>
    intro wz vs fp hI
    have hM : RcsR [vs 48] (vs 49) (fp 49) wz := (hI.finM 49 (by decide) rfl).1
    have hlb : ∀ q ∈ fp 49, W.heap.size ≤ q ∧ q < wz.heap.size := (hI.finM 49 (by decide) rfl).2
    obtain ⟨g, a1, a2, a3, b1, b2, b3, c1, c2, c3, hv, hf, hbl, ⟨p01, p02, p03⟩, ⟨p11, p12, p13⟩, p21, p22, p23⟩ := hM
    have hbz := hI.below
    rw [hf] at hlb
    have hN : ∀ q ∈ (g :: (([a1] ++ [a2] ++ [a3]) ++ ([b1] ++ [b2] ++ [b3]) ++ ([c1] ++ [c2] ++ [c3]))), gg ≤ q := fun q hq => by have := (hlb q hq).1; omega
    clear hI hf hlb
    simp only [rj, number, putJ, List.map_cons, List.map_nil, if_true, Act.put, List.setIfInBounds_toArray, List.set_cons_zero, List.set_cons_succ, hv]
    generalize vs 0 = zv0
    generalize vs 1 = zv1
    generalize vs 2 = zv2
    generalize vs 3 = zv3
    generalize vs 4 = zv4
    generalize vs 5 = zv5
    generalize vs 6 = zv6
    generalize vs 7 = zv7
    generalize vs 8 = zv8
    generalize vs 9 = zv9
    generalize vs 10 = zv10
    generalize vs 11 = zv11
    generalize vs 12 = zv12
    generalize vs 13 = zv13
    generalize vs 14 = zv14
    generalize vs 15 = zv15
    generalize vs 16 = zv16
    generalize vs 17 = zv17
    generalize vs 18 = zv18
    generalize vs 19 = zv19
    generalize vs 20 = zv20
    generalize vs 21 = zv21
    generalize vs 22 = zv22
    generalize vs 23 = zv23
    generalize vs 24 = zv24
    generalize vs 25 = zv25
    generalize vs 26 = zv26
    generalize vs 27 = zv27
    generalize vs 28 = zv28
    generalize vs 29 = zv29
    generalize vs 30 = zv30
    generalize vs 31 = zv31
    generalize vs 32 = zv32
    generalize vs 33 = zv33
    generalize vs 34 = zv34
    generalize vs 35 = zv35
    generalize vs 36 = zv36
    generalize vs 37 = zv37
    generalize vs 38 = zv38
    generalize vs 39 = zv39
    generalize vs 40 = zv40
    generalize vs 41 = zv41
    generalize vs 42 = zv42
    generalize vs 43 = zv43
    generalize vs 44 = zv44
    generalize vs 45 = zv45
    generalize vs 46 = zv46
    generalize vs 47 = zv47
    generalize vs 48 = zv48
    have hr0 : RcIn wz gg g 0 := ⟨1, some ⟨a1, 0, none⟩, 1, 1, [⟨goodS 49, 3⟩], some ⟨a2, 0, none⟩, 2, 2, [⟨goodS 50, 2⟩, ⟨goodS 52, 1⟩], some ⟨a3, 0, none⟩, 2, 2, [5, 1], (fun w2 ha => ⟨(ha.bl hbl (hN g (by simp))).cell 0, (ha.bl hbl (hN g (by simp))).cell 1, (ha.bl hbl (hN g (by simp))).cell 2, (ha.bl hbl (hN g (by simp))).cell 3, ⟨recs_lit (xs := [⟨goodS 49, 3⟩]) encNd_len (ha.bl p01 (hN a1 (by simp))), recs_lit (xs := [⟨goodS 50, 2⟩, ⟨goodS 52, 1⟩]) encNd_len (ha.bl p02 (hN a2 (by simp))), ints_lit (cs := [5, 1]) (ha.bl p03 (hN a3 (by simp)))⟩⟩), ⟨by decide, by decide, by decide, rfl, (fun x hx => by simp at hx; subst hx; first | exact ⟨goodS_49, by decide, by decide⟩), (fun x hx => by simp at hx; rcases hx with rfl | rfl <;> first | exact ⟨goodS_50, by decide, by decide⟩ | exact ⟨goodS_52, by decide, by decide⟩), by decide, by decide⟩⟩
    have hr1 : RcIn wz gg g 4 := ⟨2, some ⟨b1, 0, none⟩, 2, 2, [⟨goodS 49, 1⟩, ⟨goodS 50, 2⟩], some ⟨b2, 0, none⟩, 1, 1, [⟨goodS 51, 1⟩], some ⟨b3, 0, none⟩, 1, 1, [1], (fun w2 ha => ⟨(ha.bl hbl (hN g (by simp))).cell 4, (ha.bl hbl (hN g (by simp))).cell 5, (ha.bl hbl (hN g (by simp))).cell 6, (ha.bl hbl (hN g (by simp))).cell 7, ⟨recs_lit (xs := [⟨goodS 49, 1⟩, ⟨goodS 50, 2⟩]) encNd_len (ha.bl p11 (hN b1 (by simp))), recs_lit (xs := [⟨goodS 51, 1⟩]) encNd_len (ha.bl p12 (hN b2 (by simp))), ints_lit (cs := [1]) (ha.bl p13 (hN b3 (by simp)))⟩⟩), ⟨by decide, by decide, by decide, rfl, (fun x hx => by simp at hx; rcases hx with rfl | rfl <;> first | exact ⟨goodS_49, by decide, by decide⟩ | exact ⟨goodS_50, by decide, by decide⟩), (fun x hx => by simp at hx; subst hx; first | exact ⟨goodS_51, by decide, by decide⟩), by decide, by decide⟩⟩
    have hr2 : RcIn wz gg g 8 := ⟨5, some ⟨c1, 0, none⟩, 1, 1, [⟨goodS 50, 1⟩], some ⟨c2, 0, none⟩, 2, 2, [⟨goodS 51, 4⟩, ⟨goodS 52, 2⟩], some ⟨c3, 0, none⟩, 2, 2, [1, 0], (fun w2 ha => ⟨(ha.bl hbl (hN g (by simp))).cell 8, (ha.bl hbl (hN g (by simp))).cell 9, (ha.bl hbl (hN g (by simp))).cell 10, (ha.bl hbl (hN g (by simp))).cell 11, ⟨recs_lit (xs := [⟨goodS 50, 1⟩]) encNd_len (ha.bl p21 (hN c1 (by simp))), recs_lit (xs := [⟨goodS 51, 4⟩, ⟨goodS 52, 2⟩]) encNd_len (ha.bl p22 (hN c2 (by simp))), ints_lit (cs := [1, 0]) (ha.bl p23 (hN c3 (by simp)))⟩⟩), ⟨by decide, by decide, by decide, rfl, (fun x hx => by simp at hx; subst hx; first | exact ⟨goodS_50, by decide, by decide⟩), (fun x hx => by simp at hx; rcases hx with rfl | rfl <;> first | exact ⟨goodS_51, by decide, by decide⟩ | exact ⟨goodS_52, by decide, by decide⟩), by decide, by decide⟩⟩
    clear hN hbl p01 p02 p03 p11 p12 p13 p21 p22 p23 hv
    go_wp2
    go_ret
    rw [← hgg] at hr0 hr1 hr2
    refine ⟨g, rfl, fun j hj => ?_, by rw [hgg]; exact HBW.out.trans (hbz.mono (by omega))⟩
    have hc : j = 0 ∨ j = 1 ∨ j = 2 := by omega
    rcases hc with rfl | rfl | rfl
    · exact hr0
    · exact hr1
    · exact hr2
end Go.Proofs.YthnhgjhnkncmiaaGreat

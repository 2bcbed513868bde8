/-
  Words for memory: rows of the call's own, small lemmas. No statement of the seat is proved here. No conditions.
  Small facts on sums and shares. No statement of the seat is proved here. No conditions beyond those typed.
  Contracts of customsmade's Within, Cut, and of the Source's Next and Left and of Small. No statement of the seat is proved here. Conditions: the list lies below the source's own block; bounds are positive.
  The plain mathematics of the stable sort of facts: exchanges, insertion, rotation, merging. No statement of the seat is proved here. No conditions beyond those typed.
  A block that holds a row of facts, and what is kept beside it. No statement of the seat is proved here. No conditions.
-/
import Derived.Test.YthnhgjhnkncmiaaGreatMAA
import Derived.Test.YthnhgjhnkncmiaaGreatMAD
import Derived.Deep.QuietTactic
import Derived.BigQuiet
import Derived.Deep.DeepMust
import Derived.Test.YthnhgjhnkncmiaaGreatShelf
import Derived.BigRegion
import Derived.Deep.DeepCutAuto
import Derived.Deep.RegionHeld3
namespace Go.Proofs.YthnhgjhnkncmiaaGreat
open Go.RowKit
set_option linter.unusedVariables false

/-- The first n cells are the integers f 0 .. f (n-1). -/
def PRow (cs : Array Value) (n : Nat) (f : Nat → Int) : Prop := n ≤ cs.size ∧ ∀ j, j < n → cs[j]? = some (.int .i64 (f j))
section
variable {cs : Array Value} {n : Nat} {f g : Nat → Int}
theorem PRow.congr (h : PRow cs n f) (e : ∀ j, j < n → f j = g j) : PRow cs n g := ⟨h.1, fun j hj => by rw [h.2 j hj, e j hj]⟩
theorem PRow.set (h : PRow cs n f) (i : Nat) (v : Int) (hi : i < n) (e : ∀ j, j < n → g j = if j = i then v else f j) : PRow (cs.setIfInBounds i (.int .i64 v)) n g := by
  refine ⟨by simpa using h.1, fun j hj => ?_⟩
  have h1 := h.1
  rw [Array.getElem?_setIfInBounds, e j hj]
  by_cases e2 : i = j
  · subst e2
    rw [if_pos rfl, if_pos (by omega), if_pos rfl]
  · rw [if_neg e2, if_neg (fun x => e2 x.symm), h.2 j hj]
theorem PRow.cell {w : World} {b : Nat} {t : TypeId} (h : PRow cs n f) (hb : Bl w b t cs) {j : Nat} (hj : j < n) : w.cell? ⟨b, j, none⟩ = some (.int .i64 (f j)) := (hb.cell j).trans (h.2 j hj)
theorem PRow.own {w : World} {b base c : Nat} {t : TypeId} (h : PRow cs n f) (hb : Bl w b t cs) (hg : base ≤ b) (hc : cs.size = c) (hm : c ≤ 9223372036854775807) : w.ownsRow base t 1 (.slice (some ⟨b, 0, none⟩) n c) n (((List.range n).map f).map (Value.int .i64)) := by
  have h1 := h.1
  refine ⟨by simp, .inr ⟨b, c, cs, rfl, hg, hb, by omega, by unfold maxLen; omega, by omega, ?_⟩⟩
  apply List.ext_getElem?
  intro i
  by_cases hi : i < n
  · rw [List.getElem?_take, if_pos (by omega), Array.getElem?_toList, h.2 i hi]
    simp [hi]
  · rw [List.getElem?_eq_none (by simp; omega), List.getElem?_eq_none (by simp; omega)]
end

/-- A row of the call's own that is not empty: its block, and what is in it. -/
theorem own_prow {w : World} {base : Nat} {t : TypeId} {A : Option Addr} {n c : Nat} {xs : List Int} (h : w.ownsRow base t 1 (.slice A n c) n (xs.map (Value.int .i64))) (hn : 0 < n) :
    ∃ g cs, A = some ⟨g, 0, none⟩ ∧ base ≤ g ∧ Bl w g t cs ∧ cs.size = c ∧ c ≤ 9223372036854775807 ∧ PRow cs n (fun j => xs.getD j 0) := by
  have hc : c ≤ 9223372036854775807 := by
    rcases h.2 with ⟨hv, h0⟩ | ⟨g, cap, cur, hv, hb, hh, h1, h2, h3, h4⟩
    · omega
    · injection hv with e1 e2 e3
      subst e3
      unfold maxLen at h2
      omega
  obtain ⟨g, cs, e, hb, hB, h1, h2, h3⟩ := own_open h hn
  exact ⟨g, cs, e, hb, hB, h2, hc, by omega, h3⟩

theorem own_len {w : World} {base : Nat} {t : TypeId} {v : Value} {n : Nat} {xs : List Int} (h : w.ownsRow base t 1 v n (xs.map (Value.int .i64))) : xs.length = n := by have := h.1; simpa using this

theorem one_ints (k : IntKind) (xs : List Int) : ∀ u ∈ xs.map (Value.int k), u.oneCell' = true := fun u hu => by
  obtain ⟨x, _, rfl⟩ := List.mem_map.1 hu
  rfl

theorem own_mono {w : World} {base base' : Nat} {e : TypeId} {size : Nat} {v : Value} {n : Nat} {xs : List Value} (h : w.ownsRow base e size v n xs) (hb : base' ≤ base) : w.ownsRow base' e size v n xs := by
  refine ⟨h.1, ?_⟩
  rcases h.2 with h1 | ⟨g, cap, cur, h1, h2, h3⟩
  · exact .inl h1
  · exact .inr ⟨g, cap, cur, h1, by omega, h3⟩

theorem own_le {w : World} {base : Nat} {t : TypeId} {v : Value} {n : Nat} {xs : List Value} (h : w.ownsRow base t 1 v n xs) : n ≤ 9223372036854775807 := by
  rcases h.2 with ⟨_, h0⟩ | ⟨g, cap, cur, hv, hb, hh, h1, h2, h3⟩
  · omega
  · unfold maxLen at h2
    omega

theorem lit_ints (w : World) (T : TypeId) (xs : List Int) : Ints (w.alloc (.cells (xs.map (Value.int .i64)).toArray T)) (some ⟨w.heap.size, 0, none⟩) xs.length xs :=
  (Bl.new w T _).ints fun i hi => by simp [List.getElem?_eq_getElem hi, List.getD]

theorem tmod_bounds (x m : Int) (hm : 0 < m) : -m < x.tmod m ∧ x.tmod m < m := by
  rcases Int.lt_or_le x 0 with h | h
  · have h1 : x.tmod m = -((-x).tmod m) := by rw [Int.neg_tmod, Int.neg_neg]
    have h2 : (-x).tmod m = (-x) % m := Int.tmod_eq_emod_of_nonneg (by omega)
    have h3 := Int.emod_nonneg (-x) (show m ≠ 0 by omega)
    have h4 := Int.emod_lt_of_pos (-x) hm
    omega
  · have h2 : x.tmod m = x % m := Int.tmod_eq_emod_of_nonneg h
    have h3 := Int.emod_nonneg x (show m ≠ 0 by omega)
    have h4 := Int.emod_lt_of_pos x hm
    omega
end Go.Proofs.YthnhgjhnkncmiaaGreat

namespace Go.Proofs.YthnhgjhnkncmiaaGreat
open Go.RowKit
set_option linter.unusedVariables false

theorem sum_range (m : Nat) (f : Nat → Int) : ((List.range m).map f).sum = sumN m f := rfl

theorem getD_range (m : Nat) (f : Nat → Int) (i : Nat) (h : i < m) : ((List.range m).map f).getD i 0 = f i := by simp [List.getD, h]

theorem getD_range_out (m : Nat) (f : Nat → Int) (i : Nat) (h : ¬ i < m) : ((List.range m).map f).getD i 0 = 0 := by simp [List.getD, h]

theorem sumN_part {f : Nat → Int} (h : ∀ i, 0 ≤ f i) (p n : Nat) (hp : p ≤ n) : 0 ≤ sumN p f ∧ sumN p f ≤ sumN n f := by
  refine ⟨sumN_nonneg fun i _ => h i, ?_⟩
  have h1 : ∀ m, sumN p f ≤ sumN (p + m) f := by
    intro m
    induction m with
    | zero => exact Int.le_refl _
    | succ m ih => rw [← Nat.add_assoc, sumN_succ]; have := h (p + m); omega
  have h2 := h1 (n - p)
  rwa [show p + (n - p) = n by omega] at h2

/-- Weights in range, not empty, give no error. -/
theorem chk_ok {t : Int} {ws : List Int} (h0 : 0 ≤ t) (h1 : t ≤ 1000000000000) (hl : ws.length ≤ 1000) (hn : 0 < ws.length) (ha : AllIn ws) : chkErr t ws = 0 := by
  unfold chkErr
  rw [if_neg (by omega), if_neg (by omega), if_pos ha, if_neg (by omega)]

/-- Shares are small. -/
theorem shareOut_bounds (t : Int) (ws : List Int) (i : Nat) : 0 ≤ (shareOut t ws).getD i 0 ∧ (shareOut t ws).getD i 0 ≤ 1000000000000 := by
  unfold shareOut
  by_cases h : chkErr t ws = 0
  · rw [if_pos h]
    obtain ⟨h1, h2, h3, h4, h5⟩ := chk_zero h
    by_cases hi : i < ws.length
    · rw [shareL_get t ws i hi]
      have hN : NonNeg ws := fun i => (h4 i).1
      exact ⟨share_nonneg hN h2 (by omega) i, Int.le_trans (share_le_total hN h2 (by omega) i hi) h3⟩
    · simp [List.getD, List.getElem?_eq_none (show (shareL t ws).length ≤ i by rw [shareL_length]; omega)]
  · rw [if_neg h]; simp
end Go.Proofs.YthnhgjhnkncmiaaGreat

namespace Go.Proofs.YthnhgjhnkncmiaaGreat
open Go.RowKit
set_option linter.unusedVariables false

theorem within_val (x k : Int) (hk : 0 < k) : (x.tmod k + k) % k = x % k := by
  rcases Int.lt_or_le x 0 with h | h
  · have h1 : x.tmod k = -((-x) % k) := by rw [← Int.tmod_eq_emod_of_nonneg (by omega), Int.neg_tmod, Int.neg_neg]
    have h2 := Int.mul_ediv_add_emod (-x) k
    rw [h1]
    have h3 : x = -((-x) % k) + k * (-((-x) / k)) := by rw [Int.mul_neg]; omega
    conv => rhs; rw [h3, Int.add_mul_emod_self_left]
    rw [Int.add_emod_right]
  · rw [Int.tmod_eq_emod_of_nonneg h, Int.add_emod_right, Int.emod_emod_of_dvd _ (Int.dvd_refl k)]

set_option maxHeartbeats 1000000 in
theorem within_any (x k : Int) (w : World) (hk : 0 < k) (hk' : k ≤ 4000000000000000000) :
    Calls Tryz.prog 16 #[.int .i64 x, .int .i64 k] w fun e w' => e = .returned (.int .i64 (x % k)) ∧ w = w' := by
  have hb := tmod_bounds x k hk
  have E := Lib.hid (within_val x k hk)
  have bk : (k == 0) = false := by simp; omega
  obtain ⟨y, hy⟩ : ∃ y, x.tmod k = y := ⟨_, rfl⟩
  rw [hy] at hb E
  go_enter Tryz.func16, Tryz.ntmps16
  go_wp2
  go_ret
  exact ⟨ret_int' E.out, rfl⟩

/-- A callee that leaves the world alone, in a region that only reads. -/
theorem quiet_left {P : Program} {f : FuncId} {args : Array Value} {w : World} {n : Nat} {v : Value}
    (h : Calls P f args (w.drewN n) fun e w' => e = .returned v ∧ w.drewN n = w') : Calls P f args (w.drewN n) fun e w'' => e = .returned v ∧ ∃ m, w'' = w.drewN m :=
  h.mono fun _ _ ⟨he, hm⟩ => ⟨he, n, hm.symm⟩

/-- w' is w but for draws and block g. -/
structure Only (g : Nat) (w w' : World) : Prop where
  os : w'.os = w.os
  tape : w'.tape = w.tape
  output : w'.output = w.output
  size : w'.heap.size = w.heap.size
  block : ∀ k, k ≠ g → w'.heap[k]? = w.heap[k]?
section
variable {g : Nat} {w w' w'' : World}
theorem Only.refl (g : Nat) (w : World) : Only g w w := ⟨rfl, rfl, rfl, rfl, fun _ _ => rfl⟩
theorem Only.trans (h : Only g w w') (k : Only g w' w'') : Only g w w'' := ⟨k.os.trans h.os, k.tape.trans h.tape, k.output.trans h.output, k.size.trans h.size, fun i hi => (k.block i hi).trans (h.block i hi)⟩
theorem Only.drewN (h : Only g w w') (n : Nat) : Only g w (w'.drewN n) := ⟨h.os, h.tape, h.output, h.size, h.block⟩
theorem Only.setCell (h : Only g w w') (o : Nat) (v : Value) : Only g w (w'.setCell ⟨g, o, none⟩ v) :=
  ⟨h.os, h.tape, h.output, by simp [World.setCell, h.size], fun k hk => (Below.heap_setCell w' ⟨g, o, none⟩ v k hk).trans (h.block k hk)⟩
theorem Only.below (h : Only g w w') {B : Nat} (hB : B ≤ g) : RowKit.Below B w w' := ⟨h.os, h.tape, h.output, by rw [h.size]; exact Nat.le_refl _, fun k hk => h.block k (by omega)⟩
theorem Only.bl (h : Only g w w') {b : Nat} {t : TypeId} {cs : Array Value} (hb : Bl w b t cs) (hne : b ≠ g) : Bl w' b t cs := (h.block b hne).trans hb
end

/-- The Source whose list is '.slice A n c' and whose place is I. -/
def Src (w : World) (g : Nat) (A : Option Addr) (n c I : Nat) : Prop := Bl w g 31 #[.slice A n c, .int .i64 I]
def nextV (xs : List Int) (n I : Nat) (k : Int) : Int := if I < n then xs.getD I 0 % k else 0
def nextI (n I : Nat) : Nat := if I < n then I + 1 else I
theorem nextV_bounds (xs : List Int) (n I : Nat) (k : Int) (hk : 0 < k) : 0 ≤ nextV xs n I k ∧ nextV xs n I k < k := by
  unfold nextV
  split
  · exact ⟨Int.emod_nonneg _ (by omega), Int.emod_lt_of_pos _ hk⟩
  · omega
theorem nextI_ge (n I : Nat) : I ≤ nextI n I := by unfold nextI; split <;> omega
theorem nextI_le (n I : Nat) (h : I ≤ n) : nextI n I ≤ n := by unfold nextI; split <;> omega
theorem nextI_lt (n I : Nat) (h : I < n) : nextI n I = I + 1 := by unfold nextI; rw [if_pos h]
/-- What Next leaves. -/
def NextRes (w : World) (g : Nat) (A : Option Addr) (n c : Nat) (v : Int) (I' : Nat) (e : Ending) (w' : World) : Prop := e = .returned (.int .i64 v) ∧ Only g w w' ∧ Src w' g A n c I'

set_option maxRecDepth 100000 in
set_option maxHeartbeats 2000000 in
theorem next_any (g : Nat) (A : Option Addr) (n c I : Nat) (xs : List Int) (k : Int) (w0 w : World) (hS : Src w g A n c I) (hI : Ints w0 A n xs) (hb : RowKit.Below w0.heap.size w0 w) (hg : w0.heap.size ≤ g) (hn : n ≤ 1000000) (hk : 0 < k) (hk' : k ≤ 4000000000000000000) :
    Calls Tryz.prog 10 #[.pointer (some ⟨g, 0, none⟩), .int .i64 k] w (NextRes w g A n c (nextV xs n I k) (nextI n I)) := by
  have c0 : w.cell? ⟨g, 0, none⟩ = some (.slice A n c) := hS.cell 0
  have c1 : w.cell? ⟨g, 1, none⟩ = some (.int .i64 I) := hS.cell 1
  have f1 : w.frozen? ⟨g, 1, none⟩ = false := hS.free 1
  by_cases hlt : I < n
  · have eV : nextV xs n I k = xs.getD I 0 % k := by unfold nextV; rw [if_pos hlt]
    have eI : nextI n I = I + 1 := by unfold nextI; rw [if_pos hlt]
    rw [eV, eI]
    obtain ⟨b, off, x, rfl, hbl, hx, HX⟩ := hI.get hlt
    rw [HX.out]
    have hx' : w.cell? ⟨b, off + I, none⟩ = some (.int .i64 x) := (hb.cell (p := ⟨b, off + I, none⟩) hbl).trans hx
    have hd : decide ((n : Int) ≤ (I : Int)) = false := by simp; omega
    have hne : b ≠ g := by omega
    have HW := Lib.hid (fun w => within_any x k w hk hk')
    have i1 : (0 : Int) ≤ (I : Int) := by omega
    have i2 : (I : Int) < (n : Int) := by omega
    have u1 : IntKind.i64.wrap ((I : Int) + 1) = (I : Int) + 1 := IntWalk.i64_in _ (by omega)
    have u2 : IntKind.i64.wrap ((I : Int) + 1 - 1) = (I : Int) := (IntWalk.i64_in _ (by omega)).trans (by omega)
    have u3 : IntKind.i64.wrap (I : Int) = (I : Int) := IntWalk.i64_in _ (by omega)
    clear eV eI hx
    go_enter Tryz.func10, Tryz.ntmps10
    go_wp2
    go_quiet (fail)
    go_wp2_with fail
    have hS1 : Bl ((w.drewN nq).setCell ⟨g, 1, none⟩ (.int .i64 ((I : Int) + 1))) g 31 #[.slice (some ⟨b, off, none⟩) n c, .int .i64 ((I : Int) + 1)] := by simpa using (hS.drewN nq).put 1 (.int .i64 ((I : Int) + 1))
    have hO1 := ((Only.refl g w).drewN nq).setCell 1 (.int .i64 ((I : Int) + 1))
    have hx1 : ((w.drewN nq).setCell ⟨g, 1, none⟩ (.int .i64 ((I : Int) + 1))).cell? ⟨b, off + I, none⟩ = some (.int .i64 x) := (World.cell?_of_block (hO1.block b hne)).trans hx'
    generalize (w.drewN nq).setCell ⟨g, 1, none⟩ (.int .i64 ((I : Int) + 1)) = W at *
    have e0 : W.cell? ⟨g, 0, none⟩ = some (.slice (some ⟨b, off, none⟩) n c) := hS1.cell 0
    have e1 : W.cell? ⟨g, 1, none⟩ = some (.int .i64 ((I : Int) + 1)) := hS1.cell 1
    clear c0 c1 f1 hx'
    go_quiet ((go_at_call 16; exact quiet_left (HW.out _)))
    go_wp2
    go_ret
    exact ⟨rfl, hO1.drewN _, by show Bl _ _ _ _; rw [Int.natCast_add]; exact hS1.drewN _⟩
  · have eV : nextV xs n I k = 0 := by unfold nextV; rw [if_neg hlt]
    have eI : nextI n I = I := by unfold nextI; rw [if_neg hlt]
    rw [eV, eI]
    have hd : decide ((n : Int) ≤ (I : Int)) = true := by simp; omega
    go_enter Tryz.func10, Tryz.ntmps10
    go_wp2
    go_quiet (fail)
    go_wp2
    go_ret
    exact ⟨rfl, (Only.refl _ _).drewN _, hS.drewN _⟩
/-- A cut of a list of integers. -/
def CutRes (w : World) (A : Option Addr) (n c m : Nat) (xs : List Int) (e : Ending) (w' : World) : Prop := e = .returned (.slice A (min n m) c) ∧ w = w'

set_option maxHeartbeats 1000000 in
theorem cut_any (A : Option Addr) (n c m : Nat) (xs : List Int) (w : World) (h : Ints w A n xs) (hnc : n ≤ c) (hcm : c ≤ 9223372036854775807) (hm0 : 0 < m) (hm : m ≤ 1000000) :
    Calls Tryz.prog 8 #[.slice A n c, .int .i64 m] w (CutRes w A n c m xs) := by
  by_cases hl : m < n
  · obtain ⟨b, off, rfl, _⟩ := h.2 (by omega)
    have e : min n m = m := by omega
    unfold CutRes
    rw [e]
    clear e
    have d : (m : Int) < (n : Int) := by omega
    go_enter Tryz.func8, Tryz.ntmps8
    go_wp2
    go_ret
    exact ⟨rfl, rfl⟩
  · have e : min n m = n := by omega
    unfold CutRes
    rw [e]
    clear e
    go_enter Tryz.func8, Tryz.ntmps8
    go_wp2
    go_ret
    exact ⟨rfl, rfl⟩

/-- The place of a source in a world. -/
def srcI (w : World) (g : Nat) : Nat := match w.cell? ⟨g, 1, none⟩ with | some v => (intOf v).toNat | none => 0
theorem Src.at_ {w : World} {g : Nat} {A : Option Addr} {n c I : Nat} (h : Src w g A n c I) : srcI w g = I := by
  unfold srcI
  rw [show w.cell? ⟨g, 1, none⟩ = some (.int .i64 I) from h.cell 1]
  simp [intOf]

/-- A row of the call's own and a block of another element type lie apart. -/
theorem own_apart {w : World} {base : Nat} {e t : TypeId} {size n g : Nat} {v : Value} {xs : List Value} {cs : Array Value} (h : w.ownsRow base e size v n xs) (hg : Bl w g t cs) (hne : e ≠ t) : some g ≠ v.ownBlock := by
  rcases h.2 with ⟨rfl, _⟩ | ⟨g', cap, cur, rfl, _, hh, _⟩
  · simp [Value.ownBlock]
  · intro he
    have : g = g' := by simpa [Value.ownBlock] using he
    subst this
    unfold Bl at hg
    rw [hh] at hg
    injection hg with hg
    injection hg with _ ht
    exact hne ht

section
variable {w w' : World} {base : Nat} {e : TypeId} {size n : Nat} {v : Value} {xs : List Value}
theorem own_of_block (h : w.ownsRow base e size v n xs) (hk : ∀ g, v.ownBlock = some g → w'.heap[g]? = w.heap[g]?) : w'.ownsRow base e size v n xs := by
  refine ⟨h.1, ?_⟩
  rcases h.2 with h1 | ⟨g, cap, cur, h1, h2, h3, h4⟩
  · exact .inl h1
  · exact .inr ⟨g, cap, cur, h1, h2, (hk g (by rw [h1]; rfl)).trans h3, h4⟩
theorem own_drewN (h : w.ownsRow base e size v n xs) (q : Nat) : (w.drewN q).ownsRow base e size v n xs := h
theorem own_keep (h : w.ownsRow base e size v n xs) {g : Nat} (hO : Only g w w') (hne : some g ≠ v.ownBlock) : w'.ownsRow base e size v n xs :=
  own_of_block h fun g' hg' => hO.block g' (fun e => hne (by rw [hg', e]))
theorem own_lt (h : w.ownsRow base e size v n xs) (g : Nat) (hg : v.ownBlock = some g) : g < w.heap.size := by
  rcases h.2 with ⟨rfl, rfl⟩ | ⟨g', cap, cur, rfl, _, hh, _⟩
  · simp [Value.ownBlock] at hg
  · have : g' = g := by simpa [Value.ownBlock] using hg
    subst this
    rcases Nat.lt_or_ge g' w.heap.size with h4 | h4
    · exact h4
    · rw [Array.getElem?_eq_none h4] at hh; cases hh
theorem own_alloc (h : w.ownsRow base e size v n xs) (o : Obj) : (w.alloc o).ownsRow base e size v n xs :=
  own_of_block h fun g hg => Below.heap_alloc w o g (own_lt h g hg)
theorem own_below (h : w.ownsRow base e size v n xs) (hb : RowKit.Below w.heap.size w w') : w'.ownsRow base e size v n xs :=
  own_of_block h fun g hg => hb.block g (own_lt h g hg)
end
/-- A new block as the source of an append of one element. -/
theorem rd_new (w : World) (T : TypeId) (xs : List Value) : Rd (w.alloc (.cells xs.toArray T)) xs.length (some ⟨w.heap.size, 0, none⟩) 1 xs :=
  ⟨by omega, fun _ => ⟨w.heap.size, 0, rfl, by simp, fun j u hu => by rw [Nat.zero_add, (Bl.new w T xs.toArray).cell j]; simpa using hu⟩⟩

theorem get_snoc {α : Type} [Inhabited α] (xs : List α) (x : α) (i : Nat) (hi : i < xs.length) : (xs ++ [x])[i]! = xs[i]! := by
  rw [getElem!_pos _ i (by simp; omega), getElem!_pos xs i hi, List.getElem_append_left hi]
theorem get_snoc_last {α : Type} [Inhabited α] (xs : List α) (x : α) : (xs ++ [x])[xs.length]! = x := by
  rw [getElem!_pos _ _ (by simp)]
  simp

end Go.Proofs.YthnhgjhnkncmiaaGreat

namespace Go.Proofs.YthnhgjhnkncmiaaGreat
set_option linter.unusedVariables false

/-- A fact about a quota. -/
structure Fct where
  num : Int
  kind : Int
  day : Int
  id : Int
  qty : Int
deriving Inhabited, DecidableEq

def swapF {α : Type} (f : Nat → α) (i j : Nat) : Nat → α := fun k => if k = i then f j else if k = j then f i else f k
theorem swapF_left {α : Type} (f : Nat → α) (i j : Nat) : swapF f i j i = f j := by unfold swapF; rw [if_pos rfl]
theorem swapF_right {α : Type} (f : Nat → α) (i j : Nat) : swapF f i j j = f i := by
  unfold swapF
  by_cases e : j = i
  · rw [if_pos e, e]
  · rw [if_neg e, if_pos rfl]
theorem swapF_other {α : Type} (f : Nat → α) (i j k : Nat) (h1 : k ≠ i) (h2 : k ≠ j) : swapF f i j k = f k := by unfold swapF; rw [if_neg h1, if_neg h2]

/-- g comes of f by exchanges of elements from a on, below b. -/
inductive Swaps {α : Type} (a b : Nat) (f : Nat → α) : (Nat → α) → Prop
  | refl : Swaps a b f f
  | step {g : Nat → α} (i j : Nat) : Swaps a b f g → a ≤ i → i < b → a ≤ j → j < b → Swaps a b f (swapF g i j)
section
variable {α : Type} {a b : Nat} {f g h : Nat → α}
theorem Swaps.trans (h1 : Swaps a b f g) (h2 : Swaps a b g h) : Swaps a b f h := by
  induction h2 with
  | refl => exact h1
  | step i j _ p q r s ih => exact .step i j ih p q r s
theorem Swaps.mono {a' b' : Nat} (h1 : Swaps a b f g) (ha : a' ≤ a) (hb : b ≤ b') : Swaps a' b' f g := by
  induction h1 with
  | refl => exact .refl
  | step i j _ p q r s ih => exact .step i j ih (by omega) (by omega) (by omega) (by omega)
theorem Swaps.out (h1 : Swaps a b f g) (k : Nat) (hk : k < a ∨ b ≤ k) : g k = f k := by
  induction h1 with
  | refl => rfl
  | step i j _ p q r s ih => rw [swapF_other _ _ _ _ (by omega) (by omega), ih]
theorem Swaps.in_ (h1 : Swaps a b f g) : ∀ k, a ≤ k → k < b → ∃ k', a ≤ k' ∧ k' < b ∧ g k = f k' := by
  induction h1 with
  | refl => exact fun k h2 h3 => ⟨k, h2, h3, rfl⟩
  | step i j _ p q r s ih =>
    intro k h2 h3
    by_cases e1 : k = i
    · subst e1; rw [swapF_left]; exact ih j r s
    · by_cases e2 : k = j
      · subst e2; rw [swapF_right]; exact ih i p q
      · rw [swapF_other _ _ _ _ e1 e2]; exact ih k h2 h3
theorem range_swap_perm (n i j : Nat) (f : Nat → α) (hi : i < n) (hj : j < n) : ((List.range n).map (swapF f i j)).Perm ((List.range n).map f) := by
  have hb : (List.range n).map (swapF f i j) = ((List.range n).map (swapF id i j)).map f := by
    rw [List.map_map]
    apply List.map_congr_left
    intro k _
    unfold swapF
    simp only [Function.comp, id]
    split
    · rfl
    · split <;> rfl
  rw [hb]
  refine List.Perm.map f ?_
  have nd : ((List.range n).map (swapF id i j)).Nodup := by
    rw [List.Nodup, List.pairwise_map]
    refine List.Pairwise.imp_of_mem ?_ (List.nodup_range (n := n))
    intro x y hx hy hne e
    apply hne
    unfold swapF at e
    simp only [id] at e
    split at e <;> split at e <;> (try split at e) <;> (try split at e) <;> omega
  refine (List.perm_ext_iff_of_nodup nd List.nodup_range).2 ?_
  intro x
  simp only [List.mem_map, List.mem_range]
  constructor
  · rintro ⟨y, hy, rfl⟩
    unfold swapF
    simp only [id]
    split
    · exact hj
    · split
      · exact hi
      · exact hy
  · intro hx
    by_cases e1 : x = i
    · subst e1; exact ⟨j, hj, by rw [swapF_right]; rfl⟩
    · by_cases e2 : x = j
      · subst e2; exact ⟨i, hi, by rw [swapF_left]; rfl⟩
      · exact ⟨x, hx, by rw [swapF_other _ _ _ _ e1 e2]; rfl⟩
theorem Swaps.perm {n : Nat} (h1 : Swaps 0 n f g) : ((List.range n).map g).Perm ((List.range n).map f) := by
  induction h1 with
  | refl => exact List.Perm.refl _
  | step i j _ p q r s ih => exact (range_swap_perm n i j _ q s).trans ih
end

/-- Sorted by the day from a on, below b. -/
def Srt (a b : Nat) (f : Nat → Fct) : Prop := ∀ i j, a ≤ i → i < j → j < b → (f i).day ≤ (f j).day
theorem Srt.mono {a b a' b' : Nat} {f : Nat → Fct} (h : Srt a b f) (ha : a ≤ a') (hb : b' ≤ b) : Srt a' b' f := fun i j h1 h2 h3 => h i j (by omega) h2 (by omega)
theorem Srt.le {a b : Nat} {f : Nat → Fct} (h : Srt a b f) {i j : Nat} (h1 : a ≤ i) (h2 : i ≤ j) (h3 : j < b) : (f i).day ≤ (f j).day := by
  rcases Nat.lt_or_ge i j with e | e
  · exact h i j h1 e h3
  · obtain rfl : i = j := by omega
    omega
theorem Srt.congr {a b : Nat} {f g : Nat → Fct} (h : Srt a b f) (e : ∀ k, a ≤ k → k < b → g k = f k) : Srt a b g := fun i j h1 h2 h3 => by
  rw [e i h1 (by omega), e j (by omega) h3]; exact h i j h1 h2 h3
theorem Srt.one {a b : Nat} {f : Nat → Fct} (h : b ≤ a + 1) : Srt a b f := fun i j h1 h2 h3 => by omega

/-! ### Insertion -/
/-- What the inner loop keeps: all but the element at j stand in order, and what lies behind it is no smaller. -/
def Ins (a i j : Nat) (g : Nat → Fct) : Prop := (∀ p q, a ≤ p → p < q → q ≤ i → p ≠ j → q ≠ j → (g p).day ≤ (g q).day) ∧ ∀ q, j < q → q ≤ i → (g j).day ≤ (g q).day
theorem Ins.start {a i : Nat} {g : Nat → Fct} (h : Srt a i g) : Ins a i i g := ⟨fun p q h1 h2 h3 h4 h5 => h p q h1 h2 (by omega), fun q h1 h2 => by omega⟩
theorem Ins.step {a i j : Nat} {g : Nat → Fct} (h : Ins a i j g) (ha : a < j) (hj : j ≤ i) (hlt : (g j).day < (g (j - 1)).day) : Ins a i (j - 1) (swapF g j (j - 1)) := by
  refine ⟨fun p q h1 h2 h3 h4 h5 => ?_, fun q h1 h2 => ?_⟩
  · by_cases e1 : p = j
    · subst e1
      rw [swapF_left, swapF_other _ _ _ _ (by omega) (by omega)]
      exact h.1 (p - 1) q (by omega) (by omega) h3 (by omega) (by omega)
    · by_cases e2 : q = j
      · subst e2
        rw [swapF_left, swapF_other _ _ _ _ (by omega) (by omega)]
        exact h.1 p (q - 1) h1 (by omega) (by omega) (by omega) (by omega)
      · rw [swapF_other _ _ _ _ e1 h4, swapF_other _ _ _ _ e2 h5]
        exact h.1 p q h1 h2 h3 e1 e2
  · rw [swapF_right]
    by_cases e : q = j
    · subst e; rw [swapF_left]; omega
    · rw [swapF_other _ _ _ _ e (by omega)]; exact h.2 q (by omega) h2
theorem Ins.done {a i j : Nat} {g : Nat → Fct} (h : Ins a i j g) (hj : j ≤ i) (he : j = a ∨ ¬ (g j).day < (g (j - 1)).day) (ha : a ≤ j) : Srt a (i + 1) g := by
  intro p q h1 h2 h3
  by_cases e1 : p = j
  · subst e1; exact h.2 q h2 (by omega)
  · by_cases e2 : q = j
    · subst e2
      rcases he with e | e
      · omega
      · by_cases e3 : p = q - 1
        · subst e3; omega
        · have := h.1 p (q - 1) h1 (by omega) (by omega) e1 (by omega); omega
    · exact h.1 p q h1 h2 (by omega) e1 e2

/-! ### Exchange of two ranges, rotation -/
def swapR (f : Nat → Fct) (a b n : Nat) : Nat → Fct := fun j => if a ≤ j ∧ j < a + n then f (j - a + b) else if b ≤ j ∧ j < b + n then f (j - b + a) else f j
theorem swapR_zero (f : Nat → Fct) (a b : Nat) : swapR f a b 0 = f := by
  funext j; unfold swapR; rw [if_neg (by omega), if_neg (by omega)]
theorem swapR_succ (f : Nat → Fct) (a b n : Nat) (h : a + n < b) : swapR f a b (n + 1) = swapF (swapR f a b n) (a + n) (b + n) := by
  funext j
  unfold swapF
  by_cases e1 : j = a + n
  · subst e1
    rw [if_pos rfl]
    unfold swapR
    rw [if_pos (by omega), if_neg (by omega), if_neg (by omega)]
    congr 1; omega
  · rw [if_neg e1]
    by_cases e2 : j = b + n
    · subst e2
      rw [if_pos rfl]
      unfold swapR
      rw [if_neg (by omega), if_pos (by omega), if_neg (by omega), if_neg (by omega)]
      congr 1; omega
    · rw [if_neg e2]
      unfold swapR
      by_cases e3 : a ≤ j ∧ j < a + n
      · rw [if_pos (by omega), if_pos e3]
      · rw [if_neg (by omega), if_neg e3]
        by_cases e4 : b ≤ j ∧ j < b + n
        · rw [if_pos (by omega), if_pos e4]
        · rw [if_neg (by omega), if_neg e4]
/-- The blocks from a to m and from m to b change places. -/
def rotF (f : Nat → Fct) (a m b : Nat) : Nat → Fct := fun j => if a ≤ j ∧ j < b then (if j < a + (b - m) then f (j + (m - a)) else f (j - (b - m))) else f j
theorem rot_gt (f : Nat → Fct) (m i j : Nat) (hi : i ≤ m) (h : j < i) : rotF (swapR f (m - i) m j) (m - (i - j)) m (m + j) = rotF f (m - i) m (m + j) := by
  funext k
  unfold rotF swapR
  by_cases c1 : m - i ≤ k ∧ k < m + j
  · rw [if_pos (show m - i ≤ k ∧ k < m + j from c1)]
    by_cases c2 : k < m - i + (m + j - m)
    · rw [if_pos c2, if_neg (show ¬ (m - (i - j) ≤ k ∧ k < m + j) by omega), if_pos (by omega)]
      congr 1; omega
    · rw [if_neg c2, if_pos (by omega)]
      by_cases c3 : k < m - (i - j) + (m + j - m)
      · rw [if_pos c3, if_neg (by omega), if_pos (by omega)]
        congr 1; omega
      · rw [if_neg c3, if_neg (by omega), if_neg (by omega)]
  · rw [if_neg c1, if_neg (by omega), if_neg (by omega), if_neg (by omega)]
theorem rot_lt (f : Nat → Fct) (m i j : Nat) (hi : i ≤ m) (h : i < j) : rotF (swapR f (m - i) (m + j - i) i) (m - i) m (m + (j - i)) = rotF f (m - i) m (m + j) := by
  funext k
  unfold rotF swapR
  by_cases c1 : m - i ≤ k ∧ k < m + j
  · rw [if_pos (show m - i ≤ k ∧ k < m + j from c1)]
    by_cases c2 : k < m + (j - i)
    · rw [if_pos (show m - i ≤ k ∧ k < m + (j - i) by omega)]
      by_cases c3 : k < m - i + (m + (j - i) - m)
      · rw [if_pos c3, if_neg (by omega), if_neg (by omega), if_pos (by omega)]
      · rw [if_neg c3]
        by_cases c4 : k < m - i + (m + j - m)
        · rw [if_pos c4, if_pos (by omega)]
          congr 1; omega
        · omega
    · rw [if_neg (show ¬ (m - i ≤ k ∧ k < m + (j - i)) by omega), if_neg (by omega), if_pos (by omega), if_neg (by omega)]
      congr 1; omega
  · rw [if_neg c1, if_neg (by omega), if_neg (by omega), if_neg (by omega)]
theorem rot_eq (f : Nat → Fct) (m i : Nat) (hi : i ≤ m) : swapR f (m - i) m i = rotF f (m - i) m (m + i) := by
  funext k
  unfold rotF swapR
  by_cases c1 : m - i ≤ k ∧ k < m + i
  · rw [if_pos c1]
    by_cases c2 : k < m
    · rw [if_pos (by omega), if_pos (by omega)]; congr 1; omega
    · rw [if_neg (by omega), if_pos (by omega), if_neg (by omega)]; congr 1; omega
  · rw [if_neg (by omega), if_neg (by omega), if_neg c1]

/-! ### Merging -/
/-- The element at a moves to e. -/
def mvR (f : Nat → Fct) (a e : Nat) : Nat → Fct := fun j => if a ≤ j ∧ j < e then f (j + 1) else if j = e then f a else f j
theorem mvR_zero (f : Nat → Fct) (a : Nat) : mvR f a a = f := by
  funext j; unfold mvR; rw [if_neg (by omega)]; split
  · rename_i h; rw [h]
  · rfl
theorem mvR_succ (f : Nat → Fct) (a e : Nat) (h : a ≤ e) : swapF (mvR f a e) e (e + 1) = mvR f a (e + 1) := by
  funext j
  by_cases e1 : j = e
  · subst e1; rw [swapF_left]; unfold mvR; rw [if_neg (by omega), if_neg (by omega), if_pos (by omega)]
  · by_cases e2 : j = e + 1
    · subst e2; rw [swapF_right]; unfold mvR; rw [if_neg (by omega), if_pos rfl, if_neg (by omega), if_pos rfl]
    · rw [swapF_other _ _ _ _ e1 e2]; unfold mvR
      by_cases c : a ≤ j ∧ j < e
      · rw [if_pos c, if_pos (by omega)]
      · rw [if_neg c, if_neg e1, if_neg (by omega), if_neg e2]
theorem mvR_srt {a b i : Nat} {f : Nat → Fct} (hs : Srt (a + 1) b f) (hi : a + 1 ≤ i) (hib : i ≤ b) (h1 : ∀ q, a + 1 ≤ q → q < i → (f q).day < (f a).day) (h2 : ∀ q, i ≤ q → q < b → (f a).day ≤ (f q).day) : Srt a b (mvR f a (i - 1)) := by
  intro p q hp hpq hq
  unfold mvR
  by_cases c1 : a ≤ p ∧ p < i - 1
  · rw [if_pos c1]
    by_cases c2 : a ≤ q ∧ q < i - 1
    · rw [if_pos c2]; exact hs _ _ (by omega) (by omega) (by omega)
    · rw [if_neg c2]
      by_cases c3 : q = i - 1
      · rw [if_pos c3]; have := h1 (p + 1) (by omega) (by omega); omega
      · rw [if_neg c3]; exact hs _ _ (by omega) (by omega) (by omega)
  · rw [if_neg c1, if_neg (show ¬ (a ≤ q ∧ q < i - 1) by omega)]
    by_cases c3 : p = i - 1
    · rw [if_pos c3, if_neg (by omega)]; exact h2 q (by omega) hq
    · rw [if_neg c3, if_neg (by omega)]; exact hs _ _ (by omega) hpq hq
/-- The element at m moves back to e. -/
def mvL (f : Nat → Fct) (m e : Nat) : Nat → Fct := fun j => if j = e then f m else if e < j ∧ j ≤ m then f (j - 1) else f j
theorem mvL_zero (f : Nat → Fct) (m : Nat) : mvL f m m = f := by
  funext j; unfold mvL; split
  · rename_i h; rw [h]
  · rw [if_neg (by omega)]
theorem mvL_succ (f : Nat → Fct) (m e : Nat) (h : e ≤ m) (h0 : 0 < e) : swapF (mvL f m e) e (e - 1) = mvL f m (e - 1) := by
  funext j
  by_cases e1 : j = e
  · subst e1; rw [swapF_left]; unfold mvL; rw [if_neg (by omega), if_neg (by omega), if_neg (by omega), if_pos (by omega)]
  · by_cases e2 : j = e - 1
    · subst e2; rw [swapF_right]; unfold mvL; rw [if_pos rfl, if_pos rfl]
    · rw [swapF_other _ _ _ _ e1 e2]; unfold mvL
      rw [if_neg e1, if_neg e2]
      by_cases c : e < j ∧ j ≤ m
      · rw [if_pos c, if_pos (by omega)]
      · rw [if_neg c, if_neg (by omega)]
theorem mvL_srt {a m i : Nat} {f : Nat → Fct} (hs : Srt a m f) (hi : a ≤ i) (him : i ≤ m) (h1 : ∀ q, a ≤ q → q < i → (f q).day ≤ (f m).day) (h2 : ∀ q, i ≤ q → q < m → (f m).day < (f q).day) : Srt a (m + 1) (mvL f m i) := by
  intro p q hp hpq hq
  unfold mvL
  by_cases c1 : p = i
  · rw [if_pos c1, if_neg (by omega), if_pos (by omega)]; have := h2 (q - 1) (by omega) (by omega); omega
  · rw [if_neg c1]
    by_cases c2 : q = i
    · rw [if_pos c2, if_neg (by omega)]; exact h1 p hp (by omega)
    · rw [if_neg c2]
      by_cases c3 : i < p ∧ p ≤ m
      · rw [if_pos c3, if_pos (by omega)]; exact hs _ _ (by omega) (by omega) (by omega)
      · rw [if_neg c3]
        by_cases c4 : i < q ∧ q ≤ m
        · rw [if_pos c4]
          exact hs.le (by omega) (by omega) (by omega)
        · rw [if_neg c4]; exact hs _ _ hp hpq (by omega)
/-- What the search of the merge knows. -/
def SymLo (a m b mid lo r0 : Nat) : Prop := (mid < m ∧ lo = mid + m - b ∧ r0 = mid) ∨ (m ≤ mid ∧ lo = a ∧ r0 = m)
def SymA (f : Nat → Fct) (n lo s : Nat) : Prop := ∀ c, lo ≤ c → c < s → (f c).day ≤ (f (n - 1 - c)).day
def SymB (f : Nat → Fct) (n r r0 : Nat) : Prop := ∀ c, r ≤ c → c < r0 → (f (n - 1 - c)).day < (f c).day
section
variable {a m b mid lo r0 : Nat} {f : Nat → Fct}
theorem sym_bounds (hm : mid = (a + b) / 2) (h1 : a + 2 ≤ m) (h2 : m + 2 ≤ b) (hl : SymLo a m b mid lo r0) : a ≤ lo ∧ lo ≤ r0 ∧ r0 ≤ m ∧ r0 ≤ mid ∧ mid + m - b ≤ lo ∧ a < mid ∧ mid < b := by
  unfold SymLo at hl; omega
theorem symA_step (hm : mid = (a + b) / 2) (h1 : a + 2 ≤ m) (h2 : m + 2 ≤ b) (hl : SymLo a m b mid lo r0) (hs1 : Srt a m f) (hs2 : Srt m b f) {c : Nat} (hc : c < r0) (hlc : lo ≤ c) (ht : ¬ (f (mid + m - 1 - c)).day < (f c).day) : SymA f (mid + m) lo (c + 1) := by
  have hb := sym_bounds hm h1 h2 hl
  intro x hx hxc
  have e1 := hs1.le (i := x) (j := c) (by omega) (by omega) (by omega)
  have e2 := hs2.le (i := mid + m - 1 - c) (j := mid + m - 1 - x) (by omega) (by omega) (by omega)
  omega
theorem symB_step (hm : mid = (a + b) / 2) (h1 : a + 2 ≤ m) (h2 : m + 2 ≤ b) (hl : SymLo a m b mid lo r0) (hs1 : Srt a m f) (hs2 : Srt m b f) {c : Nat} (hc : c < r0) (hlc : lo ≤ c) (ht : (f (mid + m - 1 - c)).day < (f c).day) : SymB f (mid + m) c r0 := by
  have hb := sym_bounds hm h1 h2 hl
  intro x hx hxc
  have e1 := hs1.le (i := c) (j := x) (by omega) (by omega) (by omega)
  have e2 := hs2.le (i := mid + m - 1 - x) (j := mid + m - 1 - c) (by omega) (by omega) (by omega)
  omega
/-- Behind the rotation the four pieces stand in order, and nothing left of the middle is greater than anything right of it. -/
theorem sym_rot (hm : mid = (a + b) / 2) (h1 : a + 2 ≤ m) (h2 : m + 2 ≤ b) (hl : SymLo a m b mid lo r0) (hs1 : Srt a m f) (hs2 : Srt m b f) {s : Nat} (hs : lo ≤ s) (hsr : s ≤ r0) (hA : SymA f (mid + m) lo s) (hB : SymB f (mid + m) s r0) {e : Nat} (he : e = mid + m - s) :
    m ≤ e ∧ e ≤ b ∧ mid ≤ e ∧ Srt a s (rotF f s m e) ∧ Srt s mid (rotF f s m e) ∧ Srt mid e (rotF f s m e) ∧ Srt e b (rotF f s m e) ∧ ∀ x y, a ≤ x → x < mid → mid ≤ y → y < b → (rotF f s m e x).day ≤ (rotF f s m e y).day := by
  have hb := sym_bounds hm h1 h2 hl
  have g1 : ∀ x, x < s → rotF f s m e x = f x := fun x hx => by unfold rotF; rw [if_neg (by omega)]
  have g2 : ∀ x, s ≤ x → x < mid → rotF f s m e x = f (x + (m - s)) := fun x hx hy => by unfold rotF; rw [if_pos (by omega), if_pos (by omega)]
  have g3 : ∀ x, mid ≤ x → x < e → rotF f s m e x = f (x - (mid - s)) := fun x hx hy => by unfold rotF; rw [if_pos (by omega), if_neg (by omega)]; congr 1; omega
  have g4 : ∀ x, e ≤ x → rotF f s m e x = f x := fun x hx => by unfold rotF; rw [if_neg (by omega)]
  refine ⟨by omega, by unfold SymLo at hl; omega, by omega, fun i j h3 h4 h5 => ?_, fun i j h3 h4 h5 => ?_, fun i j h3 h4 h5 => ?_, fun i j h3 h4 h5 => ?_, fun x y h3 h4 h5 h6 => ?_⟩
  · rw [g1 i (by omega), g1 j h5]; exact hs1 i j h3 h4 (by omega)
  · rw [g2 i h3 (by omega), g2 j (by omega) h5]; exact hs2 _ _ (by omega) (by omega) (by unfold SymLo at hl; omega)
  · rw [g3 i h3 (by omega), g3 j (by omega) h5]; exact hs1 _ _ (by omega) (by omega) (by omega)
  · rw [g4 i h3, g4 j (by omega)]; exact hs2 _ _ (by omega) h4 h5
  · rcases Nat.lt_or_ge x s with cx | cx
    · rw [g1 x cx]
      rcases Nat.lt_or_ge y e with cy | cy
      · rw [g3 y h5 cy]; exact hs1.le h3 (by omega) (by omega)
      · rw [g4 y cy]
        -- u1 against v2
        by_cases c0 : lo ≤ s - 1
        · have k1 := hs1.le (i := x) (j := s - 1) h3 (by omega) (by omega)
          have k2 := hA (s - 1) c0 (by omega)
          have k3 := hs2.le (i := mid + m - 1 - (s - 1)) (j := y) (by omega) (by omega) h6
          omega
        · unfold SymLo at hl; omega
    · rw [g2 x cx h4]
      rcases Nat.lt_or_ge y e with cy | cy
      · rw [g3 y h5 cy]
        by_cases c0 : s < r0
        · have k1 := hs2.le (i := x + (m - s)) (j := mid + m - 1 - s) (by omega) (by omega) (by unfold SymLo at hl; omega)
          have k2 := hB s (Nat.le_refl _) c0
          have k3 := hs1.le (i := s) (j := y - (mid - s)) (by omega) (by omega) (by omega)
          omega
        · unfold SymLo at hl; omega
      · rw [g4 y cy]; exact hs2.le (by omega) (by omega) h6
end
theorem sym_final {a mid b : Nat} {g g1 g2 : Nat → Fct} (h1 : Swaps a mid g g1) (h2 : Swaps mid b g1 g2) (s1 : Srt a mid g1) (s2 : Srt mid b g2) (hc : ∀ x y, a ≤ x → x < mid → mid ≤ y → y < b → (g x).day ≤ (g y).day) : Srt a b g2 := by
  intro i j hi hij hj
  rcases Nat.lt_or_ge j mid with c | c
  · rw [h2.out i (.inl (by omega)), h2.out j (.inl c)]; exact s1 i j hi hij c
  · rcases Nat.lt_or_ge i mid with c2 | c2
    · rw [h2.out i (.inl c2)]
      obtain ⟨j', a1, a2, a3⟩ := h2.in_ j c hj
      obtain ⟨i', b1, b2, b3⟩ := h1.in_ i hi c2
      rw [a3, b3, h1.out j' (.inr a1)]
      exact hc i' j' b1 b2 a1 a2
    · exact s2 i j c2 hij hj

/-! ### Blocks -/
/-- Each block of bs elements that begins at a multiple of bs from lo on is sorted. -/
def Blks (bs lo n : Nat) (f : Nat → Fct) : Prop := ∀ t, lo ≤ t * bs → Srt (t * bs) (min (t * bs + bs) n) f
theorem mul_gap {B x y : Nat} (h : x * B < y * B) : x * B + B ≤ y * B := by
  have : x < y := Nat.lt_of_mul_lt_mul_right h
  calc x * B + B = (x + 1) * B := (Nat.succ_mul x B).symm
    _ ≤ y * B := Nat.mul_le_mul_right B this
/-- The first blocks (below t * bs) are sorted. -/
def Bef (bs t n : Nat) (f : Nat → Fct) : Prop := ∀ k, k < t → Srt (k * bs) (min (k * bs + bs) n) f
theorem Bef.zero (bs n : Nat) (f : Nat → Fct) : Bef bs 0 n f := fun k hk => by omega
theorem Bef.succ {bs t n : Nat} {f g : Nat → Fct} (h : Bef bs t n f) (hs : Srt (t * bs) (min (t * bs + bs) n) g) (hg : ∀ k, k < t * bs → g k = f k) : Bef bs (t + 1) n g := fun k hk => by
  by_cases e : k = t
  · subst e; exact hs
  · have hkt : k < t := by omega
    have : k * bs + bs ≤ t * bs := by
      calc k * bs + bs = (k + 1) * bs := (Nat.succ_mul k bs).symm
        _ ≤ t * bs := Nat.mul_le_mul_right bs hkt
    exact (h k hkt).congr fun x h1 h2 => hg x (by omega)
theorem Bef.all {bs t n : Nat} {f : Nat → Fct} (h : Bef bs t n f) (ht : n ≤ t * bs) : Blks bs 0 n f := fun k _ => by
  by_cases e : k < t
  · exact h k e
  · have : t * bs ≤ k * bs := Nat.mul_le_mul_right bs (by omega)
    exact Srt.one (by omega)
theorem Blks.later {bs n : Nat} {f g : Nat → Fct} {x : Nat} (h : Blks bs 0 n f) (hg : ∀ k, x ≤ k → g k = f k) : Blks bs x n g := fun t ht =>
  (h t (Nat.zero_le _)).congr fun k h1 h2 => hg k (by omega)
theorem Blks.keep {bs lo lo' n : Nat} {f g : Nat → Fct} (h : Blks bs lo n f) (hl : lo ≤ lo') (hg : ∀ k, lo' ≤ k → g k = f k) : Blks bs lo' n g := fun t ht =>
  (h t (by omega)).congr fun k h1 h2 => hg k (by omega)
theorem Blks.pair {bs lo n t : Nat} {f : Nat → Fct} (h : Blks bs lo n f) (hl : lo ≤ t * (2 * bs)) : Srt (t * (2 * bs)) (min (t * (2 * bs) + bs) n) f ∧ Srt (t * (2 * bs) + bs) (min (t * (2 * bs) + 2 * bs) n) f := by
  have e1 : t * (2 * bs) = (2 * t) * bs := by rw [← Nat.mul_assoc, Nat.mul_comm t 2]
  have e2 : t * (2 * bs) + bs = (2 * t + 1) * bs := by rw [e1]; exact (Nat.succ_mul (2 * t) bs).symm
  refine ⟨?_, ?_⟩
  · have := h (2 * t) (by rw [← e1]; exact hl)
    rw [← e1] at this; exact this
  · have := h (2 * t + 1) (by rw [← e2]; omega)
    rw [← e2, show t * (2 * bs) + bs + bs = t * (2 * bs) + 2 * bs by omega] at this; exact this
theorem Blks.whole {bs n : Nat} {f : Nat → Fct} (h : Blks bs 0 n f) (hn : n ≤ bs) : Srt 0 n f := by
  have := h 0 (Nat.zero_le _)
  rw [Nat.zero_mul, Nat.zero_add, Nat.min_eq_right hn] at this
  exact this
end Go.Proofs.YthnhgjhnkncmiaaGreat

namespace Go.Proofs.YthnhgjhnkncmiaaGreat
open Go.RowKit
set_option linter.unusedVariables false

/-- From a to b only block g and new blocks have changed. -/
structure Kp (g : Nat) (a b : World) : Prop where
  os : b.os = a.os
  tape : b.tape = a.tape
  output : b.output = a.output
  size : a.heap.size ≤ b.heap.size
  block : ∀ k, k < a.heap.size → k ≠ g → b.heap[k]? = a.heap[k]?
section
variable {g : Nat} {a b c : World}
theorem Kp.refl (g : Nat) (a : World) : Kp g a a := ⟨rfl, rfl, rfl, Nat.le_refl _, fun _ _ _ => rfl⟩
theorem Kp.trans (h : Kp g a b) (h2 : Kp g b c) : Kp g a c := ⟨h2.os.trans h.os, h2.tape.trans h.tape, h2.output.trans h.output, Nat.le_trans h.size h2.size, fun k hk hg => (h2.block k (Nat.lt_of_lt_of_le hk h.size) hg).trans (h.block k hk hg)⟩
theorem Kp.below (h : Kp g a b) (hB : RowKit.Below b.heap.size b c) : Kp g a c := ⟨hB.os.trans h.os, hB.tape.trans h.tape, hB.output.trans h.output, Nat.le_trans h.size hB.size, fun k hk hg => (hB.block k (Nat.lt_of_lt_of_le hk h.size)).trans (h.block k hk hg)⟩
theorem Kp.alloc (h : Kp g a b) (o : Obj) : Kp g a (b.alloc o) := h.below ((Below.refl _ _).alloc (Nat.le_refl _) _)
theorem Kp.drew (h : Kp g a b) : Kp g a b.drew := ⟨h.os, h.tape, h.output, h.size, h.block⟩
theorem Kp.drewN (h : Kp g a b) (n : Nat) : Kp g a (b.drewN n) := ⟨h.os, h.tape, h.output, h.size, h.block⟩
theorem Kp.put (h : Kp g a b) (o : Nat) (v : Value) : Kp g a (b.setCell ⟨g, o, none⟩ v) :=
  ⟨h.os, h.tape, h.output, by simp [World.setCell]; exact h.size, fun k hk hg => (Below.heap_setCell b ⟨g, o, none⟩ v k hg).trans (h.block k hk hg)⟩
theorem Kp.bl (h : Kp g a b) {k : Nat} {t : TypeId} {cs : Array Value} (hb : Bl a k t cs) (hg : k ≠ g) : Bl b k t cs := (h.block k hb.lt hg).trans hb
theorem Kp.under (h : Kp g a b) {B : Nat} {w : World} (hB : RowKit.Below B w a) (hs : B ≤ a.heap.size) (hg : B ≤ g) : RowKit.Below B w b :=
  hB.trans ⟨h.os, h.tape, h.output, h.size, fun k hk => h.block k (by omega) (by omega)⟩
end
theorem Bl.drew {w : World} {g : Nat} {t : TypeId} {cs : Array Value} (h : Bl w g t cs) : Bl w.drew g t cs := h

def encF (x : Fct) : List Value := [.int .i64 x.num, .int .i64 x.kind, .int .i64 x.day, .int .i64 x.id, .int .i64 x.qty]
theorem encF_len (x : Fct) : (encF x).length = 5 := rfl
theorem encF_one (x : Fct) : ∀ v ∈ encF x, v.oneCell' = true := fun v hv => by
  simp [encF] at hv
  rcases hv with rfl | rfl | rfl | rfl | rfl <;> rfl
/-- The first n facts of a block. -/
def RowF (arr : Array Value) (n : Nat) (f : Nat → Fct) : Prop := ∀ j, j < n → ∀ c, c < 5 → arr[j * 5 + c]? = some ((encF (f j))[c]!)
def putF (arr : Array Value) (i : Nat) (x : Fct) : Array Value := ((((arr.setIfInBounds (i * 5) (.int .i64 x.num)).setIfInBounds (i * 5 + 1) (.int .i64 x.kind)).setIfInBounds (i * 5 + 2) (.int .i64 x.day)).setIfInBounds (i * 5 + 3) (.int .i64 x.id)).setIfInBounds (i * 5 + 4) (.int .i64 x.qty)
theorem RowF.put {arr : Array Value} {m : Nat} {f : Nat → Fct} (h : RowF arr m f) (i : Nat) (x : Fct) (hi : i < m) : RowF (putF arr i x) m (fun j => if j = i then x else f j) := by
  have hs : i * 5 + 4 < arr.size := by
    rcases Nat.lt_or_ge (i * 5 + 4) arr.size with h1 | h1
    · exact h1
    · have := h i hi 4 (by omega)
      rw [Array.getElem?_eq_none h1] at this
      cases this
  intro j hj c hc
  unfold putF
  simp only [Array.getElem?_setIfInBounds, Array.size_setIfInBounds]
  by_cases e : j = i
  · subst e
    have hcc : c = 0 ∨ c = 1 ∨ c = 2 ∨ c = 3 ∨ c = 4 := by omega
    rcases hcc with rfl | rfl | rfl | rfl | rfl
    · rw [if_neg (by omega), if_neg (by omega), if_neg (by omega), if_neg (by omega), if_pos (by omega), if_pos (by omega), if_pos rfl]; rfl
    · rw [if_neg (by omega), if_neg (by omega), if_neg (by omega), if_pos (by omega), if_pos (by omega), if_pos rfl]; rfl
    · rw [if_neg (by omega), if_neg (by omega), if_pos (by omega), if_pos (by omega), if_pos rfl]; rfl
    · rw [if_neg (by omega), if_pos (by omega), if_pos (by omega), if_pos rfl]; rfl
    · rw [if_pos (by omega), if_pos (by omega), if_pos rfl]; rfl
  · rw [if_neg (by omega), if_neg (by omega), if_neg (by omega), if_neg (by omega), if_neg (by omega), if_neg e, h j hj c hc]
theorem putF_size (arr : Array Value) (i : Nat) (x : Fct) : (putF arr i x).size = arr.size := by simp [putF]
/-- The world with a fact stored at place i of block g. -/
def setF (w : World) (g i : Nat) (x : Fct) : World := ((((w.setCell ⟨g, i * 5, none⟩ (.int .i64 x.num)).setCell ⟨g, i * 5 + 1, none⟩ (.int .i64 x.kind)).setCell ⟨g, i * 5 + 2, none⟩ (.int .i64 x.day)).setCell ⟨g, i * 5 + 3, none⟩ (.int .i64 x.id)).setCell ⟨g, i * 5 + 4, none⟩ (.int .i64 x.qty)
theorem Bl.setF {w : World} {g : Nat} {t : TypeId} {arr : Array Value} (h : Bl w g t arr) (i : Nat) (x : Fct) : Bl (setF w g i x) g t (putF arr i x) := ((((h.put _ _).put _ _).put _ _).put _ _).put _ _
theorem Kp.setF {g : Nat} {a b : World} (h : Kp g a b) (i : Nat) (x : Fct) : Kp g a (setF b g i x) := ((((h.put _ _).put _ _).put _ _).put _ _).put _ _
section
variable {w w' : World} {g n sz : Nat} {f : Nat → Fct}
end
end Go.Proofs.YthnhgjhnkncmiaaGreat

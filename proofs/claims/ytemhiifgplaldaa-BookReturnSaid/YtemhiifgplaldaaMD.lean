/-
  Words for memory: rows of the call's own, small lemmas. No statement of the seat is proved here. No conditions.
  Small facts on sums and shares. No statement of the seat is proved here. No conditions beyond those typed.
  Contracts of customsmade's Within, Cut, and of the Source's Next and Left and of Small. No statement of the seat is proved here. Conditions: the list lies below the source's own block; bounds are positive.
  Contracts of apportion.Cap and apportion.Spread, and of slices.Clone at integers. No statement of the seat is proved here. Conditions: lengths fit an int.
  Contracts of quota.Validate and of the reference's ValidRequests: the first error of a list of requests. No statement of the seat is proved here. Conditions: the list's length fits an int.
  Contract of quota.Allocate: a grant for each request and what is left, or an error. No statement of the seat is proved here. Conditions: the list's length fits an int.
-/
import Derived.Test.YtemhiifgplaldaaMA
import Derived.Test.YtemhiifgplaldaaMC
import Derived.Deep.QuietTactic
import Derived.BigQuiet
import Derived.Deep.DeepMust
import Derived.Deep.DeepCutAuto
namespace Go.Proofs.Ytemhiifgplaldaa
open Go.RowKit
set_option linter.unusedVariables false

/-- The first n cells are the integers f 0 .. f (n-1). -/
def PRow (cs : Array Value) (n : Nat) (f : Nat → Int) : Prop := n ≤ cs.size ∧ ∀ j, j < n → cs[j]? = some (.int .i64 (f j))
section
variable {cs : Array Value} {n : Nat} {f g : Nat → Int}
theorem PRow.congr (h : PRow cs n f) (e : ∀ j, j < n → f j = g j) : PRow cs n g := ⟨h.1, fun j hj => by rw [h.2 j hj, e j hj]⟩
theorem PRow.set (h : PRow cs n f) (i : Nat) (v : Int) (hi : i < n) (e : ∀ j, j < n → g j = if j = i then v else f j) : PRow (cs.setIfInBounds i (.int .i64 v)) n g := by
  refine ⟨by simpa using h.1, fun j hj => ?_⟩
  have h1 := h.1
  rw [Array.getElem?_setIfInBounds, e j hj]
  by_cases e2 : i = j
  · subst e2
    rw [if_pos rfl, if_pos (by omega), if_pos rfl]
  · rw [if_neg e2, if_neg (fun x => e2 x.symm), h.2 j hj]
theorem PRow.cell {w : World} {b : Nat} {t : TypeId} (h : PRow cs n f) (hb : Bl w b t cs) {j : Nat} (hj : j < n) : w.cell? ⟨b, j, none⟩ = some (.int .i64 (f j)) := (hb.cell j).trans (h.2 j hj)
theorem PRow.own {w : World} {b base c : Nat} {t : TypeId} (h : PRow cs n f) (hb : Bl w b t cs) (hg : base ≤ b) (hc : cs.size = c) (hm : c ≤ 9223372036854775807) : w.ownsRow base t 1 (.slice (some ⟨b, 0, none⟩) n c) n (((List.range n).map f).map (Value.int .i64)) := by
  have h1 := h.1
  refine ⟨by simp, .inr ⟨b, c, cs, rfl, hg, hb, by omega, by unfold maxLen; omega, by omega, ?_⟩⟩
  apply List.ext_getElem?
  intro i
  by_cases hi : i < n
  · rw [List.getElem?_take, if_pos (by omega), Array.getElem?_toList, h.2 i hi]
    simp [hi]
  · rw [List.getElem?_eq_none (by simp; omega), List.getElem?_eq_none (by simp; omega)]
end

/-- A row of the call's own that is not empty: its block, and what is in it. -/
theorem own_prow {w : World} {base : Nat} {t : TypeId} {A : Option Addr} {n c : Nat} {xs : List Int} (h : w.ownsRow base t 1 (.slice A n c) n (xs.map (Value.int .i64))) (hn : 0 < n) :
    ∃ g cs, A = some ⟨g, 0, none⟩ ∧ base ≤ g ∧ Bl w g t cs ∧ cs.size = c ∧ c ≤ 9223372036854775807 ∧ PRow cs n (fun j => xs.getD j 0) := by
  have hc : c ≤ 9223372036854775807 := by
    rcases h.2 with ⟨hv, h0⟩ | ⟨g, cap, cur, hv, hb, hh, h1, h2, h3, h4⟩
    · omega
    · injection hv with e1 e2 e3
      subst e3
      unfold maxLen at h2
      omega
  obtain ⟨g, cs, e, hb, hB, h1, h2, h3⟩ := own_open h hn
  exact ⟨g, cs, e, hb, hB, h2, hc, by omega, h3⟩

theorem own_len {w : World} {base : Nat} {t : TypeId} {v : Value} {n : Nat} {xs : List Int} (h : w.ownsRow base t 1 v n (xs.map (Value.int .i64))) : xs.length = n := by have := h.1; simpa using this

theorem one_ints (k : IntKind) (xs : List Int) : ∀ u ∈ xs.map (Value.int k), u.oneCell' = true := fun u hu => by
  obtain ⟨x, _, rfl⟩ := List.mem_map.1 hu
  rfl

theorem own_mono {w : World} {base base' : Nat} {e : TypeId} {size : Nat} {v : Value} {n : Nat} {xs : List Value} (h : w.ownsRow base e size v n xs) (hb : base' ≤ base) : w.ownsRow base' e size v n xs := by
  refine ⟨h.1, ?_⟩
  rcases h.2 with h1 | ⟨g, cap, cur, h1, h2, h3⟩
  · exact .inl h1
  · exact .inr ⟨g, cap, cur, h1, by omega, h3⟩

theorem own_le {w : World} {base : Nat} {t : TypeId} {v : Value} {n : Nat} {xs : List Value} (h : w.ownsRow base t 1 v n xs) : n ≤ 9223372036854775807 := by
  rcases h.2 with ⟨_, h0⟩ | ⟨g, cap, cur, hv, hb, hh, h1, h2, h3⟩
  · omega
  · unfold maxLen at h2
    omega

theorem lit_ints (w : World) (T : TypeId) (xs : List Int) : Ints (w.alloc (.cells (xs.map (Value.int .i64)).toArray T)) (some ⟨w.heap.size, 0, none⟩) xs.length xs :=
  (Bl.new w T _).ints fun i hi => by simp [List.getElem?_eq_getElem hi, List.getD]

theorem tmod_bounds (x m : Int) (hm : 0 < m) : -m < x.tmod m ∧ x.tmod m < m := by
  rcases Int.lt_or_le x 0 with h | h
  · have h1 : x.tmod m = -((-x).tmod m) := by rw [Int.neg_tmod, Int.neg_neg]
    have h2 : (-x).tmod m = (-x) % m := Int.tmod_eq_emod_of_nonneg (by omega)
    have h3 := Int.emod_nonneg (-x) (show m ≠ 0 by omega)
    have h4 := Int.emod_lt_of_pos (-x) hm
    omega
  · have h2 : x.tmod m = x % m := Int.tmod_eq_emod_of_nonneg h
    have h3 := Int.emod_nonneg x (show m ≠ 0 by omega)
    have h4 := Int.emod_lt_of_pos x hm
    omega
end Go.Proofs.Ytemhiifgplaldaa

namespace Go.Proofs.Ytemhiifgplaldaa
open Go.RowKit
set_option linter.unusedVariables false

theorem sum_range (m : Nat) (f : Nat → Int) : ((List.range m).map f).sum = sumN m f := rfl

theorem getD_range (m : Nat) (f : Nat → Int) (i : Nat) (h : i < m) : ((List.range m).map f).getD i 0 = f i := by simp [List.getD, h]

theorem getD_range_out (m : Nat) (f : Nat → Int) (i : Nat) (h : ¬ i < m) : ((List.range m).map f).getD i 0 = 0 := by simp [List.getD, h]

theorem sumN_part {f : Nat → Int} (h : ∀ i, 0 ≤ f i) (p n : Nat) (hp : p ≤ n) : 0 ≤ sumN p f ∧ sumN p f ≤ sumN n f := by
  refine ⟨sumN_nonneg fun i _ => h i, ?_⟩
  have h1 : ∀ m, sumN p f ≤ sumN (p + m) f := by
    intro m
    induction m with
    | zero => exact Int.le_refl _
    | succ m ih => rw [← Nat.add_assoc, sumN_succ]; have := h (p + m); omega
  have h2 := h1 (n - p)
  rwa [show p + (n - p) = n by omega] at h2

/-- Weights in range, not empty, give no error. -/
theorem chk_ok {t : Int} {ws : List Int} (h0 : 0 ≤ t) (h1 : t ≤ 1000000000000) (hl : ws.length ≤ 1000) (hn : 0 < ws.length) (ha : AllIn ws) : chkErr t ws = 0 := by
  unfold chkErr
  rw [if_neg (by omega), if_neg (by omega), if_pos ha, if_neg (by omega)]

/-- Shares are small. -/
theorem shareOut_bounds (t : Int) (ws : List Int) (i : Nat) : 0 ≤ (shareOut t ws).getD i 0 ∧ (shareOut t ws).getD i 0 ≤ 1000000000000 := by
  unfold shareOut
  by_cases h : chkErr t ws = 0
  · rw [if_pos h]
    obtain ⟨h1, h2, h3, h4, h5⟩ := chk_zero h
    by_cases hi : i < ws.length
    · rw [shareL_get t ws i hi]
      have hN : NonNeg ws := fun i => (h4 i).1
      exact ⟨share_nonneg hN h2 (by omega) i, Int.le_trans (share_le_total hN h2 (by omega) i hi) h3⟩
    · simp [List.getD, List.getElem?_eq_none (show (shareL t ws).length ≤ i by rw [shareL_length]; omega)]
  · rw [if_neg h]; simp
end Go.Proofs.Ytemhiifgplaldaa

namespace Go.Proofs.Ytemhiifgplaldaa
open Go.RowKit
set_option linter.unusedVariables false

theorem within_val (x k : Int) (hk : 0 < k) : (x.tmod k + k) % k = x % k := by
  rcases Int.lt_or_le x 0 with h | h
  · have h1 : x.tmod k = -((-x) % k) := by rw [← Int.tmod_eq_emod_of_nonneg (by omega), Int.neg_tmod, Int.neg_neg]
    have h2 := Int.mul_ediv_add_emod (-x) k
    rw [h1]
    have h3 : x = -((-x) % k) + k * (-((-x) / k)) := by rw [Int.mul_neg]; omega
    conv => rhs; rw [h3, Int.add_mul_emod_self_left]
    rw [Int.add_emod_right]
  · rw [Int.tmod_eq_emod_of_nonneg h, Int.add_emod_right, Int.emod_emod_of_dvd _ (Int.dvd_refl k)]

set_option maxHeartbeats 1000000 in
theorem within_any (x k : Int) (w : World) (hk : 0 < k) (hk' : k ≤ 4000000000000000000) :
    Calls Try.prog 16 #[.int .i64 x, .int .i64 k] w fun e w' => e = .returned (.int .i64 (x % k)) ∧ w = w' := by
  have hb := tmod_bounds x k hk
  have E := Lib.hid (within_val x k hk)
  have bk : (k == 0) = false := by simp; omega
  obtain ⟨y, hy⟩ : ∃ y, x.tmod k = y := ⟨_, rfl⟩
  rw [hy] at hb E
  go_enter Try.func16, Try.ntmps16
  go_wp2
  go_ret
  exact ⟨ret_int' E.out, rfl⟩

/-- A callee that leaves the world alone, in a region that only reads. -/
theorem quiet_left {P : Program} {f : FuncId} {args : Array Value} {w : World} {n : Nat} {v : Value}
    (h : Calls P f args (w.drewN n) fun e w' => e = .returned v ∧ w.drewN n = w') : Calls P f args (w.drewN n) fun e w'' => e = .returned v ∧ ∃ m, w'' = w.drewN m :=
  h.mono fun _ _ ⟨he, hm⟩ => ⟨he, n, hm.symm⟩

/-- w' is w but for draws and block g. -/
structure Only (g : Nat) (w w' : World) : Prop where
  os : w'.os = w.os
  tape : w'.tape = w.tape
  output : w'.output = w.output
  size : w'.heap.size = w.heap.size
  block : ∀ k, k ≠ g → w'.heap[k]? = w.heap[k]?
section
variable {g : Nat} {w w' w'' : World}
theorem Only.refl (g : Nat) (w : World) : Only g w w := ⟨rfl, rfl, rfl, rfl, fun _ _ => rfl⟩
theorem Only.trans (h : Only g w w') (k : Only g w' w'') : Only g w w'' := ⟨k.os.trans h.os, k.tape.trans h.tape, k.output.trans h.output, k.size.trans h.size, fun i hi => (k.block i hi).trans (h.block i hi)⟩
theorem Only.drewN (h : Only g w w') (n : Nat) : Only g w (w'.drewN n) := ⟨h.os, h.tape, h.output, h.size, h.block⟩
theorem Only.setCell (h : Only g w w') (o : Nat) (v : Value) : Only g w (w'.setCell ⟨g, o, none⟩ v) :=
  ⟨h.os, h.tape, h.output, by simp [World.setCell, h.size], fun k hk => (Below.heap_setCell w' ⟨g, o, none⟩ v k hk).trans (h.block k hk)⟩
theorem Only.below (h : Only g w w') {B : Nat} (hB : B ≤ g) : RowKit.Below B w w' := ⟨h.os, h.tape, h.output, by rw [h.size]; exact Nat.le_refl _, fun k hk => h.block k (by omega)⟩
theorem Only.bl (h : Only g w w') {b : Nat} {t : TypeId} {cs : Array Value} (hb : Bl w b t cs) (hne : b ≠ g) : Bl w' b t cs := (h.block b hne).trans hb
end

/-- The Source whose list is '.slice A n c' and whose place is I. -/
def Src (w : World) (g : Nat) (A : Option Addr) (n c I : Nat) : Prop := Bl w g 69 #[.slice A n c, .int .i64 I]
def nextV (xs : List Int) (n I : Nat) (k : Int) : Int := if I < n then xs.getD I 0 % k else 0
def nextI (n I : Nat) : Nat := if I < n then I + 1 else I
theorem nextV_bounds (xs : List Int) (n I : Nat) (k : Int) (hk : 0 < k) : 0 ≤ nextV xs n I k ∧ nextV xs n I k < k := by
  unfold nextV
  split
  · exact ⟨Int.emod_nonneg _ (by omega), Int.emod_lt_of_pos _ hk⟩
  · omega
theorem nextI_ge (n I : Nat) : I ≤ nextI n I := by unfold nextI; split <;> omega
theorem nextI_le (n I : Nat) (h : I ≤ n) : nextI n I ≤ n := by unfold nextI; split <;> omega
theorem nextI_lt (n I : Nat) (h : I < n) : nextI n I = I + 1 := by unfold nextI; rw [if_pos h]
/-- What Next leaves. -/
def NextRes (w : World) (g : Nat) (A : Option Addr) (n c : Nat) (v : Int) (I' : Nat) (e : Ending) (w' : World) : Prop := e = .returned (.int .i64 v) ∧ Only g w w' ∧ Src w' g A n c I'

set_option maxRecDepth 100000 in
set_option maxHeartbeats 2000000 in
theorem next_any (g : Nat) (A : Option Addr) (n c I : Nat) (xs : List Int) (k : Int) (w0 w : World) (hS : Src w g A n c I) (hI : Ints w0 A n xs) (hb : RowKit.Below w0.heap.size w0 w) (hg : w0.heap.size ≤ g) (hn : n ≤ 1000000) (hk : 0 < k) (hk' : k ≤ 4000000000000000000) :
    Calls Try.prog 29 #[.pointer (some ⟨g, 0, none⟩), .int .i64 k] w (NextRes w g A n c (nextV xs n I k) (nextI n I)) := by
  have c0 : w.cell? ⟨g, 0, none⟩ = some (.slice A n c) := hS.cell 0
  have c1 : w.cell? ⟨g, 1, none⟩ = some (.int .i64 I) := hS.cell 1
  have f1 : w.frozen? ⟨g, 1, none⟩ = false := hS.free 1
  by_cases hlt : I < n
  · have eV : nextV xs n I k = xs.getD I 0 % k := by unfold nextV; rw [if_pos hlt]
    have eI : nextI n I = I + 1 := by unfold nextI; rw [if_pos hlt]
    rw [eV, eI]
    obtain ⟨b, off, x, rfl, hbl, hx, HX⟩ := hI.get hlt
    rw [HX.out]
    have hx' : w.cell? ⟨b, off + I, none⟩ = some (.int .i64 x) := (hb.cell (p := ⟨b, off + I, none⟩) hbl).trans hx
    have hd : decide ((n : Int) ≤ (I : Int)) = false := by simp; omega
    have hne : b ≠ g := by omega
    have HW := Lib.hid (fun w => within_any x k w hk hk')
    have i1 : (0 : Int) ≤ (I : Int) := by omega
    have i2 : (I : Int) < (n : Int) := by omega
    have u1 : IntKind.i64.wrap ((I : Int) + 1) = (I : Int) + 1 := IntWalk.i64_in _ (by omega)
    have u2 : IntKind.i64.wrap ((I : Int) + 1 - 1) = (I : Int) := (IntWalk.i64_in _ (by omega)).trans (by omega)
    have u3 : IntKind.i64.wrap (I : Int) = (I : Int) := IntWalk.i64_in _ (by omega)
    clear eV eI hx
    go_enter Try.func29, Try.ntmps29
    go_wp2
    go_quiet (fail)
    go_wp2_with fail
    have hS1 : Bl ((w.drewN nq).setCell ⟨g, 1, none⟩ (.int .i64 ((I : Int) + 1))) g 69 #[.slice (some ⟨b, off, none⟩) n c, .int .i64 ((I : Int) + 1)] := by simpa using (hS.drewN nq).put 1 (.int .i64 ((I : Int) + 1))
    have hO1 := ((Only.refl g w).drewN nq).setCell 1 (.int .i64 ((I : Int) + 1))
    have hx1 : ((w.drewN nq).setCell ⟨g, 1, none⟩ (.int .i64 ((I : Int) + 1))).cell? ⟨b, off + I, none⟩ = some (.int .i64 x) := (World.cell?_of_block (hO1.block b hne)).trans hx'
    generalize (w.drewN nq).setCell ⟨g, 1, none⟩ (.int .i64 ((I : Int) + 1)) = W at *
    have e0 : W.cell? ⟨g, 0, none⟩ = some (.slice (some ⟨b, off, none⟩) n c) := hS1.cell 0
    have e1 : W.cell? ⟨g, 1, none⟩ = some (.int .i64 ((I : Int) + 1)) := hS1.cell 1
    clear c0 c1 f1 hx'
    go_quiet ((go_at_call 16; exact quiet_left (HW.out _)))
    go_wp2
    go_ret
    exact ⟨rfl, hO1.drewN _, by show Bl _ _ _ _; rw [Int.natCast_add]; exact hS1.drewN _⟩
  · have eV : nextV xs n I k = 0 := by unfold nextV; rw [if_neg hlt]
    have eI : nextI n I = I := by unfold nextI; rw [if_neg hlt]
    rw [eV, eI]
    have hd : decide ((n : Int) ≤ (I : Int)) = true := by simp; omega
    go_enter Try.func29, Try.ntmps29
    go_wp2
    go_quiet (fail)
    go_wp2
    go_ret
    exact ⟨rfl, (Only.refl _ _).drewN _, hS.drewN _⟩
/-- A cut of a list of integers. -/
def CutRes (w : World) (A : Option Addr) (n c m : Nat) (xs : List Int) (e : Ending) (w' : World) : Prop := e = .returned (.slice A (min n m) c) ∧ w = w'

set_option maxHeartbeats 1000000 in
theorem cut_any (A : Option Addr) (n c m : Nat) (xs : List Int) (w : World) (h : Ints w A n xs) (hnc : n ≤ c) (hcm : c ≤ 9223372036854775807) (hm0 : 0 < m) (hm : m ≤ 1000000) :
    Calls Try.prog 28 #[.slice A n c, .int .i64 m] w (CutRes w A n c m xs) := by
  by_cases hl : m < n
  · obtain ⟨b, off, rfl, _⟩ := h.2 (by omega)
    have e : min n m = m := by omega
    unfold CutRes
    rw [e]
    clear e
    have d : (m : Int) < (n : Int) := by omega
    go_enter Try.func28, Try.ntmps28
    go_wp2
    go_ret
    exact ⟨rfl, rfl⟩
  · have e : min n m = n := by omega
    unfold CutRes
    rw [e]
    clear e
    go_enter Try.func28, Try.ntmps28
    go_wp2
    go_ret
    exact ⟨rfl, rfl⟩

/-- The place of a source in a world. -/
def srcI (w : World) (g : Nat) : Nat := match w.cell? ⟨g, 1, none⟩ with | some v => (intOf v).toNat | none => 0
theorem Src.at_ {w : World} {g : Nat} {A : Option Addr} {n c I : Nat} (h : Src w g A n c I) : srcI w g = I := by
  unfold srcI
  rw [show w.cell? ⟨g, 1, none⟩ = some (.int .i64 I) from h.cell 1]
  simp [intOf]

/-- A row of the call's own and a block of another element type lie apart. -/
theorem own_apart {w : World} {base : Nat} {e t : TypeId} {size n g : Nat} {v : Value} {xs : List Value} {cs : Array Value} (h : w.ownsRow base e size v n xs) (hg : Bl w g t cs) (hne : e ≠ t) : some g ≠ v.ownBlock := by
  rcases h.2 with ⟨rfl, _⟩ | ⟨g', cap, cur, rfl, _, hh, _⟩
  · simp [Value.ownBlock]
  · intro he
    have : g = g' := by simpa [Value.ownBlock] using he
    subst this
    unfold Bl at hg
    rw [hh] at hg
    injection hg with hg
    injection hg with _ ht
    exact hne ht

section
variable {w w' : World} {base : Nat} {e : TypeId} {size n : Nat} {v : Value} {xs : List Value}
theorem own_of_block (h : w.ownsRow base e size v n xs) (hk : ∀ g, v.ownBlock = some g → w'.heap[g]? = w.heap[g]?) : w'.ownsRow base e size v n xs := by
  refine ⟨h.1, ?_⟩
  rcases h.2 with h1 | ⟨g, cap, cur, h1, h2, h3, h4⟩
  · exact .inl h1
  · exact .inr ⟨g, cap, cur, h1, h2, (hk g (by rw [h1]; rfl)).trans h3, h4⟩
theorem own_drewN (h : w.ownsRow base e size v n xs) (q : Nat) : (w.drewN q).ownsRow base e size v n xs := h
theorem own_keep (h : w.ownsRow base e size v n xs) {g : Nat} (hO : Only g w w') (hne : some g ≠ v.ownBlock) : w'.ownsRow base e size v n xs :=
  own_of_block h fun g' hg' => hO.block g' (fun e => hne (by rw [hg', e]))
theorem own_lt (h : w.ownsRow base e size v n xs) (g : Nat) (hg : v.ownBlock = some g) : g < w.heap.size := by
  rcases h.2 with ⟨rfl, rfl⟩ | ⟨g', cap, cur, rfl, _, hh, _⟩
  · simp [Value.ownBlock] at hg
  · have : g' = g := by simpa [Value.ownBlock] using hg
    subst this
    rcases Nat.lt_or_ge g' w.heap.size with h4 | h4
    · exact h4
    · rw [Array.getElem?_eq_none h4] at hh; cases hh
theorem own_alloc (h : w.ownsRow base e size v n xs) (o : Obj) : (w.alloc o).ownsRow base e size v n xs :=
  own_of_block h fun g hg => Below.heap_alloc w o g (own_lt h g hg)
theorem own_below (h : w.ownsRow base e size v n xs) (hb : RowKit.Below w.heap.size w w') : w'.ownsRow base e size v n xs :=
  own_of_block h fun g hg => hb.block g (own_lt h g hg)
end
/-- A new block as the source of an append of one element. -/
theorem rd_new (w : World) (T : TypeId) (xs : List Value) : Rd (w.alloc (.cells xs.toArray T)) xs.length (some ⟨w.heap.size, 0, none⟩) 1 xs :=
  ⟨by omega, fun _ => ⟨w.heap.size, 0, rfl, by simp, fun j u hu => by rw [Nat.zero_add, (Bl.new w T xs.toArray).cell j]; simpa using hu⟩⟩

theorem get_snoc {α : Type} [Inhabited α] (xs : List α) (x : α) (i : Nat) (hi : i < xs.length) : (xs ++ [x])[i]! = xs[i]! := by
  rw [getElem!_pos _ i (by simp; omega), getElem!_pos xs i hi, List.getElem_append_left hi]
theorem get_snoc_last {α : Type} [Inhabited α] (xs : List α) (x : α) : (xs ++ [x])[xs.length]! = x := by
  rw [getElem!_pos _ _ (by simp)]
  simp

end Go.Proofs.Ytemhiifgplaldaa

namespace Go.Proofs.Ytemhiifgplaldaa
open Go.RowKit
set_option linter.unusedVariables false

/-- A list of the call's own with these elements. -/
def CloneRes (w : World) (n : Nat) (xs : List Int) (e : Ending) (w' : World) : Prop := ∃ (A : Option Addr) (c : Nat), e = .returned (.slice A n c) ∧ w'.ownsRow w.heap.size 3 1 (.slice A n c) n (xs.map (Value.int .i64)) ∧ RowKit.Below w.heap.size w w'

theorem clone_any (A : Option Addr) (n c : Nat) (xs : List Int) (w : World) (h : Ints w A n xs) (hn : n ≤ 1000000) :
    Calls Try.prog 75 #[.slice A n c] w (CloneRes w n xs) := by
  have hl := h.1
  by_cases h0 : n = 0
  · subst h0
    obtain rfl : xs = [] := List.eq_nil_of_length_eq_zero hl
    cases A with
    | none =>
      refine (Try.slices_Clone_int_nil 0 c w).mono ?_
      rintro e w' ⟨rfl, rfl⟩
      exact ⟨_, _, rfl, own_nil _ _ _, Below.refl _ _⟩
    | some a =>
      refine (Try.slices_Clone_int_zero a c w).mono ?_
      rintro e w' ⟨v', rfl, ho, _, hb⟩
      obtain ⟨A, c, rfl⟩ := own_slice ho
      exact ⟨A, c, rfl, ho, hb⟩
  · obtain ⟨b, off, rfl, hlt, hc⟩ := h.2 (by omega)
    refine (Try.slices_Clone_int b off n c xs w (by omega) (by omega) (fun j hj => hc j (by omega))).mono ?_
    rintro e w' ⟨v', rfl, ho, _, hb⟩
    rw [List.take_of_length_le (by omega)] at ho
    obtain ⟨A, c, rfl⟩ := own_slice ho
    exact ⟨A, c, rfl, ho, hb⟩

def capErr (t : Int) (ws : List Int) : Int := if chkErr t ws = 7 then 0 else chkErr t ws
def capOut (t : Int) (ws : List Int) : List Int := if chkErr t ws = 0 then (if ws.sum ≤ t then ws else shareL t ws) else []

set_option maxHeartbeats 1000000 in
theorem cap_any (t : Int) (A : Option Addr) (n c : Nat) (xs : List Int) (w : World) (h : Ints w A n xs) (hm : n ≤ 9223372036854775807) :
    Calls Try.prog 60 #[.int .i64 t, .slice A n c] w (SlRes w (capErr t xs) (capOut t xs)) := by
  have HC := Lib.hid (fun w h => check_any t A n c xs w h hm)
  by_cases h7 : chkErr t xs = 7
  · have E1 : capErr t xs = 0 := by unfold capErr; rw [if_pos h7]
    have E2 : capOut t xs = [] := by unfold capOut; rw [if_neg (by omega)]
    rw [E1, E2]
    rw [h7] at HC
    clear E1 E2 h7
    go_enter Try.func60, Try.ntmps60
    go_wp2_with (go_at_call 73; refine (HC.out _ h).mono ?_; rintro e w' ⟨rfl, rfl⟩)
    go_ret2
    exact ⟨_, _, _, rfl, own_nil _ _ _, Below.refl _ _⟩
  have E1 : capErr t xs = chkErr t xs := by unfold capErr; rw [if_neg h7]
  rw [E1]
  clear E1
  by_cases h0 : chkErr t xs = 0
  · obtain ⟨h1, h2, h3, h4, h5⟩ := chk_zero h0
    have hl := h.1
    have HS := Lib.hid (fun w h => sumOf_any A n c xs w h (by omega) h4)
    have E2 : capOut t xs = if xs.sum ≤ t then xs else shareL t xs := by unfold capOut; rw [if_pos h0]
    rw [E2]
    have HSH := Lib.hid (fun w h => share_any t A n c xs w h hm)
    have e3 : shareOut t xs = shareL t xs := by unfold shareOut; rw [if_pos h0]
    rw [e3] at HSH
    rw [h0] at HC HSH ⊢
    have HCL := Lib.hid (fun w h => clone_any A n c xs w h (by omega))
    clear E2 e3 h7 h0 hl h1 h2 h3 h4 h5
    obtain ⟨S, hS⟩ : ∃ S, xs.sum = S := ⟨_, rfl⟩
    rw [hS] at HS ⊢
    clear hS
    by_cases hle : S ≤ t
    · rw [if_pos hle]
      go_enter Try.func60, Try.ntmps60
      go_wp2_with (first | (go_at_call 73; refine (HC.out _ h).mono ?_; rintro e w' ⟨rfl, rfl⟩) | (go_at_call 74; refine (HS.out _ h).mono ?_; rintro e w' ⟨rfl, rfl⟩) | (go_at_call 75; refine (HCL.out _ h).mono ?_; rintro e w' ⟨A', c', rfl, ho, hb⟩))
      go_ret2
      exact ⟨_, _, _, rfl, ho, hb⟩
    · rw [if_neg hle]
      go_enter Try.func60, Try.ntmps60
      go_wp2_with (first | (go_at_call 73; refine (HC.out _ h).mono ?_; rintro e w' ⟨rfl, rfl⟩) | (go_at_call 74; refine (HS.out _ h).mono ?_; rintro e w' ⟨rfl, rfl⟩) | (go_at_call 76; refine (HSH.out _ h).mono ?_; rintro e w' ⟨A', n', c', rfl, ho, hb⟩))
      go_ret2
      exact ⟨_, _, _, rfl, ho, hb⟩
  · have E2 : capOut t xs = [] := by unfold capOut; rw [if_neg h0]
    rw [E2]
    have b1 : (chkErr t xs == 7) = false := by simpa using h7
    have b2 : (chkErr t xs != 0) = true := by simpa using h0
    clear E2 h7 h0
    generalize chkErr t xs = er at *
    go_enter Try.func60, Try.ntmps60
    go_wp2_with (go_at_call 73; refine (HC.out _ h).mono ?_; rintro e w' ⟨rfl, rfl⟩)
    go_ret2
    exact ⟨_, _, _, rfl, own_nil _ _ _, Below.refl _ _⟩

end Go.Proofs.Ytemhiifgplaldaa

namespace Go.Proofs.Ytemhiifgplaldaa
open Go.RowKit
set_option linter.unusedVariables false

def okReq (p : Int × Int) : Prop := 1 ≤ p.1 ∧ p.1 ≤ 1000000 ∧ 0 ≤ p.2 ∧ p.2 ≤ 1000000000
instance (p : Int × Int) : Decidable (okReq p) := by unfold okReq; infer_instance
/-- All requests are in range. -/
def okAll (xs : List (Int × Int)) : Prop := ∀ i, i < xs.length → okReq xs[i]!
/-- The IDs ascend. -/
def okAsc (xs : List (Int × Int)) : Prop := ∀ r, r < xs.length - 1 → xs[r]!.1 < xs[r + 1]!.1
instance (xs : List (Int × Int)) : Decidable (okAll xs) := by unfold okAll; infer_instance
instance (xs : List (Int × Int)) : Decidable (okAsc xs) := by unfold okAsc; infer_instance
/-- The first error of P21.1. -/
def vErr (xs : List (Int × Int)) : Int := if 200 < xs.length then 8 else if okAll xs then (if okAsc xs then 0 else 9) else 2

theorem vErr_long {xs : List (Int × Int)} (h : 200 < xs.length) : vErr xs = 8 := by unfold vErr; rw [if_pos h]
theorem vErr_bad {xs : List (Int × Int)} (h : xs.length ≤ 200) (i : Nat) (hi : i < xs.length) (hb : ¬ okReq xs[i]!) : vErr xs = 2 := by
  unfold vErr; rw [if_neg (by omega), if_neg (fun ha => hb (ha i hi))]
theorem vErr_asc {xs : List (Int × Int)} (h : xs.length ≤ 200) (ha : okAll xs) (r : Nat) (hr : r + 1 < xs.length) (hb : ¬ xs[r]!.1 < xs[r + 1]!.1) : vErr xs = 9 := by
  unfold vErr; rw [if_neg (by omega), if_pos ha, if_neg (fun hx => hb (hx r (by omega)))]
theorem vErr_ok {xs : List (Int × Int)} (h : xs.length ≤ 200) (ha : okAll xs) (hb : okAsc xs) : vErr xs = 0 := by
  unfold vErr; rw [if_neg (by omega), if_pos ha, if_pos hb]
theorem vErr_zero {xs : List (Int × Int)} (h : vErr xs = 0) : xs.length ≤ 200 ∧ okAll xs ∧ okAsc xs := by
  unfold vErr at h
  split at h
  · omega
  · split at h
    · split at h
      · exact ⟨by omega, by assumption, by assumption⟩
      · omega
    · omega

def VRes (w : World) (er : Int) (e : Ending) (w' : World) : Prop := e = .returned (.int .i64 er) ∧ RowKit.Below w.heap.size w w'

set_option maxRecDepth 100000 in
set_option maxHeartbeats 4000000 in
theorem validate_any (A : Option Addr) (n c : Nat) (xs : List (Int × Int)) (w : World) (h : Recs enc2 2 w A n xs) (hm : n ≤ 9223372036854775807) :
    Calls Try.prog 59 #[.slice A n c] w (VRes w (vErr xs)) := by
  have HL := Lib.hid h.1
  by_cases hl : 200 < n
  · have E := Lib.hid (vErr_long (xs := xs) (by have := HL.out; omega))
    go_enter Try.func59, Try.ntmps59
    go_wp2
    go_ret
    exact ⟨ret_int' E.out.symm, Below.refl _ _⟩
  go_enter Try.func59, Try.ntmps59
  go_wp2
  go_loopw [11] (fun i wr => ∃ k : Nat, k ≤ n ∧ i = .int .i64 k ∧ Hid (∀ i, i < k → okReq xs[i]!) ∧ RowKit.Below w.heap.size w wr) (fun i _ => n - (intOf i).toNat)
  case atStart => exact ⟨0, Nat.zero_le _, rfl, fun i hi => absurd hi (by omega), Below.refl _ _⟩
  case round =>
    obtain ⟨k, hk, rfl, HA, hbel⟩ := hrel
    by_cases hlt : k < n
    · obtain ⟨b, off, x, y, rfl, _, hc1, hc2, HX⟩ := (h.below hbel).get2 hlt
      by_cases g1 : x < 1
      · have d1 : decide (x < 1) = true := by simpa using g1
        go_wp2
        go_ret
        exact ⟨ret_int' (vErr_bad (by have := HL.out; omega) k (by have := HL.out; omega) (by rw [HX.out]; unfold okReq; omega)).symm, hbel.alloc hbel.size _⟩

      have d1 : decide (x < 1) = false := by simpa using g1
      by_cases g2 : 1000000 < x
      · have d2 : decide (1000000 < x) = true := by simpa using g2
        go_wp2
        go_ret
        exact ⟨ret_int' (vErr_bad (by have := HL.out; omega) k (by have := HL.out; omega) (by rw [HX.out]; unfold okReq; omega)).symm, hbel.alloc hbel.size _⟩

      have d2 : decide (1000000 < x) = false := by simpa using g2
      by_cases g3 : y < 0
      · have d3 : decide (y < 0) = true := by simpa using g3
        go_wp2
        go_ret
        exact ⟨ret_int' (vErr_bad (by have := HL.out; omega) k (by have := HL.out; omega) (by rw [HX.out]; unfold okReq; omega)).symm, hbel.alloc hbel.size _⟩

      have d3 : decide (y < 0) = false := by simpa using g3
      by_cases g4 : 1000000000 < y
      · have d4 : decide (1000000000 < y) = true := by simpa using g4
        go_wp2
        go_ret
        exact ⟨ret_int' (vErr_bad (by have := HL.out; omega) k (by have := HL.out; omega) (by rw [HX.out]; unfold okReq; omega)).symm, hbel.alloc hbel.size _⟩

      have d4 : decide (1000000000 < y) = false := by simpa using g4
      have HA' : Hid (∀ i, i < k + 1 → okReq xs[i]!) := fun i hi => by
        by_cases e : i = k
        · subst e; rw [HX.out]; unfold okReq; omega
        · exact HA.out i (by omega)
      go_wp2
      go_roundw
      case rel => exact ⟨k + 1, by omega, by go_num, HA'.out, ((hbel.alloc hbel.size _))⟩
      case measure => simp [intOf]; omega
    · have HAll : Hid (okAll xs) := fun i hi => HA.out i (by have := HL.out; omega)
      clear HA
      have h' := h.below hbel
      go_wp2
      go_loopw [5] (fun i wi => ∃ r q : Nat, r ≤ n ∧ i = .int .i64 ((r : Int) + 1) ∧ Hid (∀ s, s < r → xs[s]!.1 < xs[s + 1]!.1) ∧ wi = wr.drewN q) (fun i _ => n + 1 - (intOf i).toNat)
      case atStart => exact ⟨0, 0, Nat.zero_le _, rfl, fun i hi => absurd hi (by omega), rfl⟩
      case round =>
        obtain ⟨r, q, hr, rfl, HS, rfl⟩ := hrel
        by_cases hlt2 : r + 1 < n
        · obtain ⟨b, off, x1, y1, hA, _, hc1, hc2, HX1⟩ := h'.get2 hlt2
          subst hA
          obtain ⟨b', off', x0, y0, hA, _, hc3, hc4, HX0⟩ := h'.get2 (show r < n by omega)
          obtain ⟨rfl, rfl⟩ : b = b' ∧ off = off' := by simpa using hA
          clear hA
          have i1 : (0 : Int) ≤ (r : Int) + 1 := by omega
          have i2 : (r : Int) + 1 < (n : Int) := by omega
          have i3 : (0 : Int) ≤ (r : Int) := by omega
          have i4 : (r : Int) < (n : Int) := by omega
          have u1 : IntKind.i64.wrap ((r : Int) + 1 - 1) = (r : Int) := IntWalk.i64_in _ (by omega) |>.trans (by omega)
          have u2 : IntKind.i64.wrap (r : Int) = (r : Int) := IntWalk.i64_in _ (by omega)
          have u3 : ((r : Int) + 1).toNat = r + 1 := by omega
          by_cases g : x1 ≤ x0
          · have d1 : decide (x1 ≤ x0) = true := by simpa using g
            go_wp2
            go_quiet (fail)
            go_wp2
            go_ret
            exact ⟨ret_int' (vErr_asc (by have := HL.out; omega) HAll.out r (by have := HL.out; omega) (by rw [HX0.out, HX1.out]; show ¬ x0 < x1; omega)).symm, below_drewN (below_drewN hbel _) _⟩
          · have d1 : decide (x1 ≤ x0) = false := by simpa using g
            have HS' : Hid (∀ s, s < r + 1 → xs[s]!.1 < xs[s + 1]!.1) := fun s hs => by
              by_cases e : s = r
              · subst e; rw [HX0.out, HX1.out]; show x0 < x1; omega
              · exact HS.out s (by omega)
            go_wp2
            go_quiet (fail)
            go_wp2
            go_roundw
            case rel => exact ⟨r + 1, _, by omega, by go_num, HS'.out, rfl⟩
            case measure => simp [intOf]; omega
        · have HAsc : Hid (okAsc xs) := fun s hs => HS.out s (by have := HL.out; omega)
          have i2 : ¬ (r : Int) + 1 < (n : Int) := by omega
          go_wp2
          go_ret
          exact ⟨ret_int' (vErr_ok (by have := HL.out; omega) HAll.out HAsc.out).symm, below_drewN hbel _⟩
end Go.Proofs.Ytemhiifgplaldaa

namespace Go.Proofs.Ytemhiifgplaldaa
open Go.RowKit
set_option linter.unusedVariables false

/-- What Cap gives to weights in range. -/
theorem cap_facts (t : Int) (ys : List Int) (ht0 : 0 ≤ t) (ht1 : t ≤ 1000000000000) (hl : ys.length ≤ 1000) (ha : AllIn ys) :
    capErr t ys = 0 ∧ (capOut t ys).length = ys.length ∧ (∀ i, i < ys.length → 0 ≤ (capOut t ys).getD i 0 ∧ (capOut t ys).getD i 0 ≤ ys.getD i 0) ∧ (capOut t ys).sum = min t ys.sum := by
  by_cases hn : ys.length = 0
  · have h0 : ys = [] := List.eq_nil_of_length_eq_zero hn
    subst h0
    have hc : chkErr t [] = 0 ∨ chkErr t [] = 7 := by
      unfold chkErr
      rw [if_neg (by simp), if_neg (by omega), if_pos ha]
      split <;> simp
    have hO : capOut t [] = [] := by
      unfold capOut
      rcases hc with e | e
      · rw [if_pos e, if_pos (by simpa using ht0)]
      · rw [if_neg (by omega)]
    refine ⟨?_, by rw [hO], fun i hi => by simp at hi, by rw [hO]; simp; omega⟩
    unfold capErr
    rcases hc with e | e <;> simp [e]
  · have hc := chk_ok (t := t) (ws := ys) ht0 ht1 hl (by omega) ha
    have hN : NonNeg ys := fun i => (ha i).1
    have hE : capErr t ys = 0 := by unfold capErr; rw [hc]; simp
    by_cases hs : ys.sum ≤ t
    · have hO : capOut t ys = ys := by unfold capOut; rw [if_pos hc, if_pos hs]
      rw [hO]
      exact ⟨hE, rfl, fun i _ => ⟨hN i, Int.le_refl _⟩, by omega⟩
    · have hO : capOut t ys = shareL t ys := by unfold capOut; rw [if_pos hc, if_neg hs]
      rw [hO]
      refine ⟨hE, shareL_length _ _, fun i hi => ?_, ?_⟩
      · rw [shareL_get t ys i hi]
        exact ⟨share_nonneg hN ht0 (by omega) i, share_le_weight hN (by omega) ht0 (by omega) i hi⟩
      · have : (shareL t ys).sum = sumN ys.length (shareI t ys) := rfl
        rw [this, sum_share hN (by omega)]
        omega

/-- The quantities of requests. -/
def qsOf (xs : List (Int × Int)) : List Int := xs.map (·.2)
theorem qsOf_len (xs : List (Int × Int)) : (qsOf xs).length = xs.length := by simp [qsOf]
theorem qsOf_get (xs : List (Int × Int)) (i : Nat) (h : i < xs.length) : (qsOf xs).getD i 0 = xs[i]!.2 := by
  simp [qsOf, List.getD, List.getElem?_eq_getElem h, getElem!_pos xs i h]
/-- What request i is granted. -/
def grantV (t : Int) (xs : List (Int × Int)) (i : Nat) : Int := if (qsOf xs).sum ≤ t then xs[i]!.2 else shareI t (qsOf xs) i
def grantsOf (t : Int) (xs : List (Int × Int)) : List (Int × Int) := (List.range xs.length).map fun i => (xs[i]!.1, grantV t xs i)
def allocErr (t : Int) (xs : List (Int × Int)) : Int := if t < 0 ∨ 1000000000000 < t then 2 else vErr xs
def allocOut (t : Int) (xs : List (Int × Int)) : List (Int × Int) := if allocErr t xs = 0 then grantsOf t xs else []
def allocLeft (t : Int) (xs : List (Int × Int)) : Int := if allocErr t xs = 0 then max (t - (qsOf xs).sum) 0 else 0
theorem grantsOf_len (t : Int) (xs : List (Int × Int)) : (grantsOf t xs).length = xs.length := by simp [grantsOf]

theorem range_getD (l : List Int) (n : Nat) (h : l.length = n) : (List.range n).map (fun j => l.getD j 0) = l := by
  subst h
  apply List.ext_getElem
  · simp
  · intro i h1 h2
    simp [List.getD, List.getElem?_eq_getElem h2]

def AllocRes (w : World) (T : TypeId) (out : List (Int × Int)) (left er : Int) (e : Ending) (w' : World) : Prop :=
  ∃ A n c, e = .returned (.tuple #[.slice A n c, .int .i64 left, .int .i64 er]) ∧ out.length = n ∧ w'.ownsRow w.heap.size T 2 (.slice A n c) n (flat enc2 out) ∧ RowKit.Below w.heap.size w w'

theorem own_nil2 (w : World) (b : Nat) (T : TypeId) : w.ownsRow b T 2 (.slice none 0 0) 0 (flat enc2 []) := ⟨by simp [flat], .inl ⟨rfl, rfl⟩⟩

theorem infoG : (Try.prog.info? 51).map (fun i => (i.zero, i.size, i.bytes)) = some (some (.agg #[.int .i64 0, .int .i64 0]), 2, 16) := by kernel_rfl

theorem RecRow.zeros2 {C : Array Value} {n : Nat} (h : C.size = n * 2 ∧ ∀ j, j < n * 2 → C[j]? = some ((Value.agg #[.int .i64 0, .int .i64 0]).cells[j % (Value.agg #[.int .i64 0, .int .i64 0]).cells.size]!)) : RecRow enc2 2 C n (fun _ => (0, 0)) := by
  refine ⟨h.1, fun j hj c hc => ?_⟩
  rw [h.2 (j * 2 + c) (by omega)]
  have e : (Value.agg #[.int .i64 0, .int .i64 0]).cells.size = 2 := rfl
  rw [e, show (j * 2 + c) % 2 = c by omega]
  have hcc : c = 0 ∨ c = 1 := by omega
  rcases hcc with rfl | rfl <;> rfl

set_option maxRecDepth 100000 in
set_option maxHeartbeats 4000000 in
theorem alloc_any (t : Int) (A : Option Addr) (n c : Nat) (xs : List (Int × Int)) (w : World) (h : Recs enc2 2 w A n xs) (hm : n ≤ 9223372036854775807) :
    Calls Try.prog 54 #[.int .i64 t, .slice A n c] w (AllocRes w 51 (allocOut t xs) (allocLeft t xs) (allocErr t xs)) := by
  by_cases h1 : t < 0
  · have E : allocErr t xs = 2 := by unfold allocErr; rw [if_pos (by omega)]
    unfold allocOut allocLeft
    rw [E, if_neg (by omega), if_neg (by omega)]
    clear E
    have d1 : decide (t < 0) = true := by simpa using h1
    go_enter Try.func54, Try.ntmps54
    go_wp2
    go_ret3
    exact ⟨_, _, _, rfl, rfl, own_nil2 _ _ _, Below.refl _ _⟩
  have d1 : decide (t < 0) = false := by simpa using h1
  by_cases h2 : 1000000000000 < t
  · have E : allocErr t xs = 2 := by unfold allocErr; rw [if_pos (by omega)]
    unfold allocOut allocLeft
    rw [E, if_neg (by omega), if_neg (by omega)]
    clear E
    have d2 : decide (1000000000000 < t) = true := by simpa using h2
    go_enter Try.func54, Try.ntmps54
    go_wp2
    go_ret3
    exact ⟨_, _, _, rfl, rfl, own_nil2 _ _ _, Below.refl _ _⟩
  have d2 : decide (1000000000000 < t) = false := by simpa using h2
  have E : allocErr t xs = vErr xs := by unfold allocErr; rw [if_neg (by omega)]
  have HV := Lib.hid (validate_any A n c xs w h hm)
  by_cases h3 : vErr xs = 0
  · obtain ⟨v1, v2, v3⟩ := vErr_zero h3
    unfold allocOut allocLeft
    rw [E, h3, if_pos rfl, if_pos rfl]
    rw [h3] at HV
    have hl := h.1
    have hq : ∀ i : Nat, 0 ≤ (qsOf xs).getD i 0 ∧ (qsOf xs).getD i 0 ≤ 1000000000 := fun i => by
      by_cases hi : i < xs.length
      · rw [qsOf_get xs i hi]; exact ⟨(v2 i hi).2.2.1, (v2 i hi).2.2.2⟩
      · simp [List.getD, List.getElem?_eq_none (show (qsOf xs).length ≤ i by rw [qsOf_len]; omega)]
    have HQ := Lib.hid hq
    have HL := Lib.hid hl
    have hn : n ≤ 200 := by omega
    obtain ⟨C1, HC1, hmk1⟩ := make_any (P := Try.prog) 33 3 _ 1 8 n Try.underlying33 infoI (by omega) (by omega)
    obtain ⟨C2, HC2, hmk2⟩ := make_any (P := Try.prog) 47 51 _ 2 16 n Try.underlying47 infoG (by omega) (by omega)
    clear E h3 v1 v2 v3 hq hl
    go_enter Try.func54, Try.ntmps54
    go_wp2_with fail
    refine HV.out.mono ?_
    rintro e w1 ⟨rfl, hb1⟩
    have h' := h.below hb1
    go_wp2
    go_loopw [8, 32] (fun s i wr => ∃ (k : Nat) (cs : Array Value), k ≤ n ∧ i = .int .i64 k ∧ s = .int .i64 ((qsOf xs).take k).sum ∧ Bl wr w1.heap.size 3 cs ∧ IntRow cs n (fun j => if j < k then (qsOf xs).getD j 0 else 0) ∧ RowKit.Below w1.heap.size w1 wr) (fun _ i _ => n - (intOf i).toNat)
    case atStart => exact ⟨0, C1, Nat.zero_le _, rfl, by simp, Bl.new _ _ _, (IntRow.zeros HC1.out).congr (fun j _ => by simp), (Below.refl _ _).alloc (Nat.le_refl _) _⟩
    case round =>
      obtain ⟨k, cs, hk, rfl, rfl, HB, HR, hbel⟩ := hrel
      by_cases hlt : k < n
      · obtain ⟨b, off, x, y, hA, hbl, hc1, hc2, HX⟩ := h'.get2 hlt
        subst hA
        have hc3 : wr.cell? ⟨b, off + k * 2 + 1, none⟩ = some (.int .i64 y) := (hbel.cell (p := ⟨b, off + k * 2 + 1, none⟩) hbl).trans hc2
        have hne : b ≠ w1.heap.size := by omega
        have c3 := HR.cell HB hlt
        rw [if_neg (by omega)] at c3
        have f3 : wr.frozen? ⟨w1.heap.size, k, none⟩ = false := HB.free k
        have hy : (qsOf xs).getD k 0 = y := by rw [qsOf_get xs k (by have := HL.out; omega), HX.out]
        have hbs := sum_take_bound (qsOf xs) 1000000000 HQ.out k (by rw [qsOf_len]; have := HL.out; omega)
        have hb0 := HQ.out k
        have HSS := Lib.hid (sum_take_succ (qsOf xs) k (by rw [qsOf_len]; have := HL.out; omega))
        rw [hy] at hb0 HSS
        have HS : Hid (IntRow (cs.setIfInBounds k (.int .i64 y)) n (fun j => if j < k + 1 then (qsOf xs).getD j 0 else 0)) := HR.set k y (fun j hj => by
          by_cases e : j = k
          · subst e; rw [if_pos (by omega), if_pos rfl, hy]
          · rw [if_neg e]; by_cases e2 : j < k
            · rw [if_pos e2, if_pos (by omega)]
            · rw [if_neg e2, if_neg (by omega)])
        generalize ((qsOf xs).take k).sum = s at *
        clear hy hc1 hc2
        go_wp2
        go_roundw
        case rel => exact ⟨k + 1, _, by omega, by go_num, by rw [HSS.out], HB.put _ _, HS.out, hbel.setCell (Nat.le_refl _) _⟩
        case measure => simp [intOf]; omega
      · obtain rfl : k = n := by omega
        rw [List.take_of_length_le (by rw [qsOf_len]; have := HL.out; omega)]
        have hS := sum_take_bound (qsOf xs) 1000000000 HQ.out (qsOf xs).length (Nat.le_refl _)
        rw [List.take_length, qsOf_len, HL.out] at hS
        have hIq : Ints wr (some ⟨w1.heap.size, 0, none⟩) k (qsOf xs) := by
          have how := (HR.congr (g := fun j => (qsOf xs).getD j 0) (fun j hj => by simp [hj])).own HB (Nat.le_refl _) (by omega)
          rw [range_getD (qsOf xs) k (by rw [qsOf_len]; exact HL.out)] at how
          exact IntsK.of_own how
        have hb := hb1.trans (hbel.mono hb1.size)
        have hcf := cap_facts t (qsOf xs) (by omega) (by omega) (by rw [qsOf_len]; have := HL.out; omega) (fun i => by have := HQ.out i; omega)
        have HCE := Lib.hid hcf.1
        have HCL := Lib.hid hcf.2.1
        clear HR HB hcf hmk1 HC1
        obtain ⟨S, hSe⟩ : ∃ S, (qsOf xs).sum = S := ⟨_, rfl⟩
        rw [hSe] at hS ⊢
        have HSE := Lib.hid hSe
        clear hSe
        have hmk2' := Lib.hid hmk2
        clear hmk2
        go_upto_if 54 with (fail)
        go_cut [11, 12] (fun l g wx => ∃ (A2 : Option Addr) (c2 : Nat) (G : List Int) (lv : Int), l = .int .i64 lv ∧ g = .slice A2 k c2 ∧ Ints wx A2 k G ∧ Hid (lv = max (t - S) 0 ∧ ∀ i, i < k → G.getD i 0 = grantV t xs i) ∧ RowKit.Below w.heap.size w wx ∧ w1.heap.size ≤ wx.heap.size ∧ Recs enc2 2 wx A k xs)
        case first =>
          by_cases hle : S ≤ t
          · go_wp2_with fail
            go_meet
            exact ⟨_, _, qsOf xs, _, rfl, rfl, hIq, ⟨by omega, fun i hi => by unfold grantV; rw [HSE.out, if_pos hle, qsOf_get xs i (by have := HL.out; omega)]⟩, hb, hbel.size, h'.below hbel⟩
          · go_wp2_with fail
            refine (cap_any t (some ⟨w1.heap.size, 0, none⟩) k k (qsOf xs) _ hIq (by omega)).mono ?_
            rintro e w3 ⟨A3, n3, c3, rfl, ho3, hb3⟩
            rw [HCE.out]
            have hn3 := own_len ho3
            rw [HCL.out, qsOf_len, HL.out] at hn3
            subst hn3
            have hO : capOut t (qsOf xs) = shareL t (qsOf xs) := by
              unfold capOut
              have hq0 : ¬ (qsOf xs).length = 0 := fun e => by
                have : qsOf xs = [] := List.eq_nil_of_length_eq_zero e
                have h9 := HSE.out
                rw [this] at h9
                simp at h9
                omega
              rw [if_pos (chk_ok (by omega) (by omega) (by rw [qsOf_len]; have := HL.out; omega) (by omega) (fun i => by have := HQ.out i; omega)), HSE.out, if_neg (by omega)]
            rw [hO] at ho3
            have hI3 := IntsK.of_own ho3
            have hbel3 := hbel.trans (hb3.mono hbel.size)
            clear hO ho3
            go_wp2_with fail
            go_meet
            exact ⟨_, _, shareL t (qsOf xs), _, rfl, rfl, hI3, ⟨by omega, fun i hi => by unfold grantV; rw [HSE.out, if_neg (by omega), shareL_get t (qsOf xs) i (by rw [qsOf_len]; have := HL.out; omega)]⟩, hb.trans (hb3.mono hb.size), hbel3.size, h'.below hbel3⟩
        case rest =>
          obtain ⟨A2, c2, G, lv, rfl, rfl, hIG, HG, hbx, hsx, hx⟩ := hcut
          have hmk2 := hmk2'.out
          go_wp2
          go_loopw [72] (fun i wr => ∃ (p : Nat) (cs : Array Value), p ≤ k ∧ i = .int .i64 p ∧ Bl wr wc.heap.size 51 cs ∧ RecRow enc2 2 cs k (fun j => if j < p then (xs[j]!.1, grantV t xs j) else (0, 0)) ∧ RowKit.Below wc.heap.size wc wr) (fun i _ => k - (intOf i).toNat)
          case atStart => exact ⟨0, C2, Nat.zero_le _, rfl, Bl.new _ _ _, (RecRow.zeros2 HC2.out).congr (fun j _ => by simp), (Below.refl _ _).alloc (Nat.le_refl _) _⟩
          case round =>
            obtain ⟨p, cs2, hp, rfl, HB, HR, hbel2⟩ := hrel
            by_cases hlt2 : p < k
            · obtain ⟨b, off, x, y, hA, hbl, hc1, hc2, HX⟩ := hx.get2 hlt2
              subst hA
              obtain ⟨b2, off2, gv, hA2, hbl2, hc3, HX2⟩ := hIG.get hlt2
              subst hA2
              have e1 : wr.cell? ⟨b, off + p * 2, none⟩ = some (.int .i64 x) := (hbel2.cell (p := ⟨b, off + p * 2, none⟩) hbl).trans hc1
              have e2 : wr.cell? ⟨b2, off2 + p, none⟩ = some (.int .i64 gv) := (hbel2.cell (p := ⟨b2, off2 + p, none⟩) hbl2).trans hc3
              have q0 := HR.cell HB hlt2 (c := 0) (by omega)
              have q1 := HR.cell HB hlt2 (c := 1) (by omega)
              rw [if_neg (by omega)] at q0 q1
              have q0' : wr.cell? ⟨wc.heap.size, p * 2, none⟩ = some (.int .i64 0) := q0
              have q1' : wr.cell? ⟨wc.heap.size, p * 2 + 1, none⟩ = some (.int .i64 0) := q1
              have f0 : wr.frozen? ⟨wc.heap.size, p * 2, none⟩ = false := HB.free _
              have f1 : wr.frozen? ⟨wc.heap.size, p * 2 + 1, none⟩ = false := HB.free _
              have hgv : grantV t xs p = gv := by rw [← HG.out.2 p hlt2, HX2.out]
              have HP : Hid (RecRow enc2 2 ((cs2.setIfInBounds (p * 2) (.int .i64 x)).setIfInBounds (p * 2 + 1) (.int .i64 gv)) k (fun j => if j < p + 1 then (xs[j]!.1, grantV t xs j) else (0, 0))) := (HR.put2 p (x, gv) hlt2).congr (fun j hj => by
                by_cases e : j = p
                · subst e; rw [if_pos rfl, if_pos (by omega), HX.out, hgv]
                · rw [if_neg e]; by_cases e2 : j < p
                  · rw [if_pos e2, if_pos (by omega)]
                  · rw [if_neg e2, if_neg (by omega)])
              have i1 : (0 : Int) ≤ (p : Int) := by omega
              have i2 : (p : Int) < (k : Int) := by omega
              clear q0 q1 hc1 hc2 hc3 hgv
              go_wp2
              go_region
              go_wp2
              go_roundw
              case rel => exact ⟨p + 1, _, by omega, by go_num, (HB.put _ _).put _ _, HP.out, ((hbel2.setCell (Nat.le_refl _) _).setCell (Nat.le_refl _) _).drew⟩
              case measure => simp [intOf]; omega
            · obtain rfl : p = k := by omega
              have how := (HR.congr (g := fun j => (xs[j]!.1, grantV t xs j)) (fun j hj => by simp [hj])).own enc2_len HB hbx.size (by omega)
              have hgo : (List.range p).map (fun j => (xs[j]!.1, grantV t xs j)) = grantsOf t xs := by unfold grantsOf; rw [HL.out]
              rw [hgo] at how
              go_wp2
              go_ret3
              rw [HSE.out, ← HG.out.1]
              exact ⟨_, _, _, rfl, by rw [grantsOf_len]; exact HL.out, how, hbx.trans (hbel2.mono hbx.size)⟩
  · unfold allocOut allocLeft
    rw [E, if_neg h3, if_neg h3]
    have b1 : (vErr xs != 0) = true := by simpa using h3
    clear E h3
    generalize vErr xs = er at *
    go_enter Try.func54, Try.ntmps54
    go_wp2_with fail
    refine HV.out.mono ?_
    rintro e w1 ⟨rfl, hb1⟩
    go_wp2
    go_ret3
    exact ⟨_, _, _, rfl, rfl, own_nil2 _ _ _, hb1⟩
end Go.Proofs.Ytemhiifgplaldaa

/-
  Contracts of customsmade's Within, Cut, and of the Source's Next and Left and of Small. No statement of the seat is proved here. Conditions: the list lies below the source's own block; bounds are positive.
-/
import Derived.Test.YtknbbamlpadfdaaGenB
import Derived.Test.YtknbbamlpadfdaaRecs
import Derived.Deep.QuietTactic
import Derived.BigQuiet
import Derived.Deep.DeepMust
namespace Go.Proofs.Ytknbbamlpadfdaa
open Go.RowKit
set_option linter.unusedVariables false

theorem within_val (x k : Int) (hk : 0 < k) : (x.tmod k + k) % k = x % k := by
  rcases Int.lt_or_le x 0 with h | h
  · have h1 : x.tmod k = -((-x) % k) := by rw [← Int.tmod_eq_emod_of_nonneg (by omega), Int.neg_tmod, Int.neg_neg]
    have h2 := Int.mul_ediv_add_emod (-x) k
    rw [h1]
    have h3 : x = -((-x) % k) + k * (-((-x) / k)) := by rw [Int.mul_neg]; omega
    conv => rhs; rw [h3, Int.add_mul_emod_self_left]
    rw [Int.add_emod_right]
  · rw [Int.tmod_eq_emod_of_nonneg h, Int.add_emod_right, Int.emod_emod_of_dvd _ (Int.dvd_refl k)]

set_option maxHeartbeats 1000000 in
theorem within_any (x k : Int) (w : World) (hk : 0 < k) (hk' : k ≤ 4000000000000000000) :
    Calls Try.prog 13 #[.int .i64 x, .int .i64 k] w fun e w' => e = .returned (.int .i64 (x % k)) ∧ w = w' := by
  have hb := tmod_bounds x k hk
  have E := Lib.hid (within_val x k hk)
  have bk : (k == 0) = false := by simp; omega
  obtain ⟨y, hy⟩ : ∃ y, x.tmod k = y := ⟨_, rfl⟩
  rw [hy] at hb E
  go_enter Try.func13, Try.ntmps13
  go_wp2
  go_ret
  exact ⟨ret_int' E.out, rfl⟩

/-- A callee that leaves the world alone, in a region that only reads. -/
theorem quiet_left {P : Program} {f : FuncId} {args : Array Value} {w : World} {n : Nat} {v : Value}
    (h : Calls P f args (w.drewN n) fun e w' => e = .returned v ∧ w.drewN n = w') : Calls P f args (w.drewN n) fun e w'' => e = .returned v ∧ ∃ m, w'' = w.drewN m :=
  h.mono fun _ _ ⟨he, hm⟩ => ⟨he, n, hm.symm⟩

/-- w' is w but for draws and block g. -/
structure Only (g : Nat) (w w' : World) : Prop where
  os : w'.os = w.os
  tape : w'.tape = w.tape
  output : w'.output = w.output
  size : w'.heap.size = w.heap.size
  block : ∀ k, k ≠ g → w'.heap[k]? = w.heap[k]?
section
variable {g : Nat} {w w' w'' : World}
theorem Only.refl (g : Nat) (w : World) : Only g w w := ⟨rfl, rfl, rfl, rfl, fun _ _ => rfl⟩
theorem Only.trans (h : Only g w w') (k : Only g w' w'') : Only g w w'' := ⟨k.os.trans h.os, k.tape.trans h.tape, k.output.trans h.output, k.size.trans h.size, fun i hi => (k.block i hi).trans (h.block i hi)⟩
theorem Only.drewN (h : Only g w w') (n : Nat) : Only g w (w'.drewN n) := ⟨h.os, h.tape, h.output, h.size, h.block⟩
theorem Only.setCell (h : Only g w w') (o : Nat) (v : Value) : Only g w (w'.setCell ⟨g, o, none⟩ v) :=
  ⟨h.os, h.tape, h.output, by simp [World.setCell, h.size], fun k hk => (Below.heap_setCell w' ⟨g, o, none⟩ v k hk).trans (h.block k hk)⟩
theorem Only.below (h : Only g w w') {B : Nat} (hB : B ≤ g) : RowKit.Below B w w' := ⟨h.os, h.tape, h.output, by rw [h.size]; exact Nat.le_refl _, fun k hk => h.block k (by omega)⟩
theorem Only.bl (h : Only g w w') {b : Nat} {t : TypeId} {cs : Array Value} (hb : Bl w b t cs) (hne : b ≠ g) : Bl w' b t cs := (h.block b hne).trans hb
end

/-- The Source whose list is '.slice A n c' and whose place is I. -/
def Src (w : World) (g : Nat) (A : Option Addr) (n c I : Nat) : Prop := Bl w g 53 #[.slice A n c, .int .i64 I]
def nextV (xs : List Int) (n I : Nat) (k : Int) : Int := if I < n then xs.getD I 0 % k else 0
def nextI (n I : Nat) : Nat := if I < n then I + 1 else I
theorem nextV_bounds (xs : List Int) (n I : Nat) (k : Int) (hk : 0 < k) : 0 ≤ nextV xs n I k ∧ nextV xs n I k < k := by
  unfold nextV
  split
  · exact ⟨Int.emod_nonneg _ (by omega), Int.emod_lt_of_pos _ hk⟩
  · omega
theorem nextI_ge (n I : Nat) : I ≤ nextI n I := by unfold nextI; split <;> omega
theorem nextI_le (n I : Nat) (h : I ≤ n) : nextI n I ≤ n := by unfold nextI; split <;> omega
theorem nextI_lt (n I : Nat) (h : I < n) : nextI n I = I + 1 := by unfold nextI; rw [if_pos h]
/-- What Next leaves. -/
def NextRes (w : World) (g : Nat) (A : Option Addr) (n c : Nat) (v : Int) (I' : Nat) (e : Ending) (w' : World) : Prop := e = .returned (.int .i64 v) ∧ Only g w w' ∧ Src w' g A n c I'

set_option maxRecDepth 100000 in
set_option maxHeartbeats 2000000 in
theorem next_any (g : Nat) (A : Option Addr) (n c I : Nat) (xs : List Int) (k : Int) (w0 w : World) (hS : Src w g A n c I) (hI : Ints w0 A n xs) (hb : RowKit.Below w0.heap.size w0 w) (hg : w0.heap.size ≤ g) (hn : n ≤ 1000000) (hk : 0 < k) (hk' : k ≤ 4000000000000000000) :
    Calls Try.prog 24 #[.pointer (some ⟨g, 0, none⟩), .int .i64 k] w (NextRes w g A n c (nextV xs n I k) (nextI n I)) := by
  have c0 : w.cell? ⟨g, 0, none⟩ = some (.slice A n c) := hS.cell 0
  have c1 : w.cell? ⟨g, 1, none⟩ = some (.int .i64 I) := hS.cell 1
  have f1 : w.frozen? ⟨g, 1, none⟩ = false := hS.free 1
  by_cases hlt : I < n
  · have eV : nextV xs n I k = xs.getD I 0 % k := by unfold nextV; rw [if_pos hlt]
    have eI : nextI n I = I + 1 := by unfold nextI; rw [if_pos hlt]
    rw [eV, eI]
    obtain ⟨b, off, x, rfl, hbl, hx, HX⟩ := hI.get hlt
    rw [HX.out]
    have hx' : w.cell? ⟨b, off + I, none⟩ = some (.int .i64 x) := (hb.cell (p := ⟨b, off + I, none⟩) hbl).trans hx
    have hd : decide ((n : Int) ≤ (I : Int)) = false := by simp; omega
    have hne : b ≠ g := by omega
    have HW := Lib.hid (fun w => within_any x k w hk hk')
    have i1 : (0 : Int) ≤ (I : Int) := by omega
    have i2 : (I : Int) < (n : Int) := by omega
    have u1 : IntKind.i64.wrap ((I : Int) + 1) = (I : Int) + 1 := IntWalk.i64_in _ (by omega)
    have u2 : IntKind.i64.wrap ((I : Int) + 1 - 1) = (I : Int) := (IntWalk.i64_in _ (by omega)).trans (by omega)
    have u3 : IntKind.i64.wrap (I : Int) = (I : Int) := IntWalk.i64_in _ (by omega)
    clear eV eI hx
    go_enter Try.func24, Try.ntmps24
    go_wp2
    go_quiet (fail)
    go_wp2_with fail
    have hS1 : Bl ((w.drewN nq).setCell ⟨g, 1, none⟩ (.int .i64 ((I : Int) + 1))) g 53 #[.slice (some ⟨b, off, none⟩) n c, .int .i64 ((I : Int) + 1)] := by simpa using (hS.drewN nq).put 1 (.int .i64 ((I : Int) + 1))
    have hO1 := ((Only.refl g w).drewN nq).setCell 1 (.int .i64 ((I : Int) + 1))
    have hx1 : ((w.drewN nq).setCell ⟨g, 1, none⟩ (.int .i64 ((I : Int) + 1))).cell? ⟨b, off + I, none⟩ = some (.int .i64 x) := (World.cell?_of_block (hO1.block b hne)).trans hx'
    generalize (w.drewN nq).setCell ⟨g, 1, none⟩ (.int .i64 ((I : Int) + 1)) = W at *
    have e0 : W.cell? ⟨g, 0, none⟩ = some (.slice (some ⟨b, off, none⟩) n c) := hS1.cell 0
    have e1 : W.cell? ⟨g, 1, none⟩ = some (.int .i64 ((I : Int) + 1)) := hS1.cell 1
    clear c0 c1 f1 hx'
    go_quiet ((go_at_call 13; exact quiet_left (HW.out _)))
    go_wp2
    go_ret
    exact ⟨rfl, hO1.drewN _, by show Bl _ _ _ _; rw [Int.natCast_add]; exact hS1.drewN _⟩
  · have eV : nextV xs n I k = 0 := by unfold nextV; rw [if_neg hlt]
    have eI : nextI n I = I := by unfold nextI; rw [if_neg hlt]
    rw [eV, eI]
    have hd : decide ((n : Int) ≤ (I : Int)) = true := by simp; omega
    go_enter Try.func24, Try.ntmps24
    go_wp2
    go_quiet (fail)
    go_wp2
    go_ret
    exact ⟨rfl, (Only.refl _ _).drewN _, hS.drewN _⟩
/-- A cut of a list of integers. -/
def CutRes (w : World) (A : Option Addr) (n c m : Nat) (xs : List Int) (e : Ending) (w' : World) : Prop := e = .returned (.slice A (min n m) c) ∧ w = w'

set_option maxHeartbeats 1000000 in
theorem cut_any (A : Option Addr) (n c m : Nat) (xs : List Int) (w : World) (h : Ints w A n xs) (hnc : n ≤ c) (hcm : c ≤ 9223372036854775807) (hm0 : 0 < m) (hm : m ≤ 1000000) :
    Calls Try.prog 23 #[.slice A n c, .int .i64 m] w (CutRes w A n c m xs) := by
  by_cases hl : m < n
  · obtain ⟨b, off, rfl, _⟩ := h.2 (by omega)
    have e : min n m = m := by omega
    unfold CutRes
    rw [e]
    clear e
    have d : (m : Int) < (n : Int) := by omega
    go_enter Try.func23, Try.ntmps23
    go_wp2
    go_ret
    exact ⟨rfl, rfl⟩
  · have e : min n m = n := by omega
    unfold CutRes
    rw [e]
    clear e
    go_enter Try.func23, Try.ntmps23
    go_wp2
    go_ret
    exact ⟨rfl, rfl⟩

/-- The place of a source in a world. -/
def srcI (w : World) (g : Nat) : Nat := match w.cell? ⟨g, 1, none⟩ with | some v => (intOf v).toNat | none => 0
theorem Src.at_ {w : World} {g : Nat} {A : Option Addr} {n c I : Nat} (h : Src w g A n c I) : srcI w g = I := by
  unfold srcI
  rw [show w.cell? ⟨g, 1, none⟩ = some (.int .i64 I) from h.cell 1]
  simp [intOf]

/-- A row of the call's own and a block of another element type lie apart. -/
theorem own_apart {w : World} {base : Nat} {e t : TypeId} {size n g : Nat} {v : Value} {xs : List Value} {cs : Array Value} (h : w.ownsRow base e size v n xs) (hg : Bl w g t cs) (hne : e ≠ t) : some g ≠ v.ownBlock := by
  rcases h.2 with ⟨rfl, _⟩ | ⟨g', cap, cur, rfl, _, hh, _⟩
  · simp [Value.ownBlock]
  · intro he
    have : g = g' := by simpa [Value.ownBlock] using he
    subst this
    unfold Bl at hg
    rw [hh] at hg
    injection hg with hg
    injection hg with _ ht
    exact hne ht

section
variable {w w' : World} {base : Nat} {e : TypeId} {size n : Nat} {v : Value} {xs : List Value}
theorem own_of_block (h : w.ownsRow base e size v n xs) (hk : ∀ g, v.ownBlock = some g → w'.heap[g]? = w.heap[g]?) : w'.ownsRow base e size v n xs := by
  refine ⟨h.1, ?_⟩
  rcases h.2 with h1 | ⟨g, cap, cur, h1, h2, h3, h4⟩
  · exact .inl h1
  · exact .inr ⟨g, cap, cur, h1, h2, (hk g (by rw [h1]; rfl)).trans h3, h4⟩
theorem own_drewN (h : w.ownsRow base e size v n xs) (q : Nat) : (w.drewN q).ownsRow base e size v n xs := h
theorem own_keep (h : w.ownsRow base e size v n xs) {g : Nat} (hO : Only g w w') (hne : some g ≠ v.ownBlock) : w'.ownsRow base e size v n xs :=
  own_of_block h fun g' hg' => hO.block g' (fun e => hne (by rw [hg', e]))
theorem own_lt (h : w.ownsRow base e size v n xs) (g : Nat) (hg : v.ownBlock = some g) : g < w.heap.size := by
  rcases h.2 with ⟨rfl, rfl⟩ | ⟨g', cap, cur, rfl, _, hh, _⟩
  · simp [Value.ownBlock] at hg
  · have : g' = g := by simpa [Value.ownBlock] using hg
    subst this
    rcases Nat.lt_or_ge g' w.heap.size with h4 | h4
    · exact h4
    · rw [Array.getElem?_eq_none h4] at hh; cases hh
theorem own_alloc (h : w.ownsRow base e size v n xs) (o : Obj) : (w.alloc o).ownsRow base e size v n xs :=
  own_of_block h fun g hg => Below.heap_alloc w o g (own_lt h g hg)
theorem own_below (h : w.ownsRow base e size v n xs) (hb : RowKit.Below w.heap.size w w') : w'.ownsRow base e size v n xs :=
  own_of_block h fun g hg => hb.block g (own_lt h g hg)
end
/-- A new block as the source of an append of one element. -/
theorem rd_new (w : World) (T : TypeId) (xs : List Value) : Rd (w.alloc (.cells xs.toArray T)) xs.length (some ⟨w.heap.size, 0, none⟩) 1 xs :=
  ⟨by omega, fun _ => ⟨w.heap.size, 0, rfl, by simp, fun j u hu => by rw [Nat.zero_add, (Bl.new w T xs.toArray).cell j]; simpa using hu⟩⟩

theorem get_snoc {α : Type} [Inhabited α] (xs : List α) (x : α) (i : Nat) (hi : i < xs.length) : (xs ++ [x])[i]! = xs[i]! := by
  rw [getElem!_pos _ i (by simp; omega), getElem!_pos xs i hi, List.getElem_append_left hi]
theorem get_snoc_last {α : Type} [Inhabited α] (xs : List α) (x : α) : (xs ++ [x])[xs.length]! = x := by
  rw [getElem!_pos _ _ (by simp)]
  simp

end Go.Proofs.Ytknbbamlpadfdaa

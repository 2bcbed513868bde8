/-
  The laws of single operations for regions that draw their order. No statement of the seat is proved here.
  Contracts of customsmade's Within, Cut, and of the Source's Next and Left and of Small. No statement of the seat is proved here. Conditions: the list lies below the source's own block; bounds are positive.
  Words: a Source goes on and new memory is made, nothing else changes. No statement of the seat is proved here. No conditions.
  What operations of a drawn region hold: rows, literals, boxes; a call through a function value; a store. No statement of the seat is proved here.
  The comparison of accounts, and the sort of a row of them. No statement of the seat is proved here. Conditions: at most 10000 accounts.
  'sums[key] += n' at a map keyed by accounts: the look-up, the entry, the store, in either order. No statement of the seat is proved here. Conditions: the map is the call's own.
-/
import Derived.Test.YtbokkeooahodaaaGreatDoorKAE
import Derived.Test.YtbokkeooahodaaaGreatDoorKAB
import Derived.Test.YtbokkeooahodaaaGreatDoorKAD
import Derived.Test.YtbokkeooahodaaaGreatDoorKAC
import Derived.Deep.QuietTactic
import Derived.BigQuiet
import Derived.Deep.DeepMust
import Derived.Deep.RegionHeld3
import Derived.Shelf.SlSortCmp.NoneTotal
import Derived.WideKeyEntry
namespace Go.Proofs.YtbokkeooahodaaaGreatDoor
open Go.RowKit
set_option linter.unusedVariables false

section
variable {P : Program} {o : Oper} {a : Act} {w : World} {K : Act → World → Prop} {Q : Exit → Act → World → Prop}

theorem op_value {v : Value} {w' : World} (h : (execOp a.eval o).run P w = .ok (.value v) w') (hK : K (a.put o.dst v) w') : o.wp P a w K Q := by
  unfold Oper.wp; rw [h]; exact hK
theorem op_skip {w' : World} (h : (execOp a.eval o).run P w = .ok .skip w') (hK : K (a.put o.dst undef) w') : o.wp P a w K Q := by
  unfold Oper.wp; rw [h]; exact hK
theorem op_move {x : Operand} {v : Value} (ho : o.op = .move x) (hx : a.eval x = v) (hK : K (a.put o.dst v) w) : o.wp P a w K Q :=
  op_value (by simp only [execOp, ho, hx]; rfl) hK
theorem op_assign {x : Operand} {v : Value} (ho : o.op = .assign x) (hx : a.eval x = v) (hK : K (a.put o.dst v) w) : o.wp P a w K Q :=
  op_value (by simp only [execOp, ho, hx]; rfl) hK
theorem op_append (s x : Operand) (t : TypeId)
    (ho : o.op = .call { callee := .builtin .append, args := #[s, x], argTypes := #[t, t] })
    (base : Nat) (e : TypeId) (z : Value) (size bytes : Nat) (ht : P.underlying t = some (.slice e)) (hi : (P.info? e).map (fun i => (i.zero, i.size, i.bytes)) = some (some z, size, bytes)) (hzs : z.cells.size = size) (hsz : 0 < size)
    (v : Value) (n : Nat) (xs : List Value) (hs : a.eval s = v) (hown : w.ownsRow base e size v n xs)
    (A : Option Addr) (m c : Nat) (news : List Value) (hx : a.eval x = .slice A m c) (hr : Rd w size A m news) (h1 : ∀ u ∈ news, u.oneCell' = true)
    (h63 : n + m ≤ maxLen) (hbytes : (n + m) * bytes ≤ 140737488355328) (hbase : base ≤ w.heap.size)
    (h : ∀ v' w', w'.ownsRow base e size v' (n + m) (xs ++ news) → w.grownBy w' v.ownBlock → (v'.ownBlock = v.ownBlock ∨ v'.ownBlock = some w.heap.size) → K (a.put o.dst v') w') : o.wp P a w K Q := by
  obtain ⟨i, hi0, hz, hsize, hby⟩ := info_parts hi
  obtain ⟨v', w', hrun, h2, h3, h4⟩ := run_append_rd (P := P) w base t o.type e i z size bytes ht hi0 hz hsize hby hzs hsz v n xs hown A m c news hr h1 h63 hbytes hbase
  unfold Oper.wp execOp
  simp only [ho, resolve, invoke, builtin, Sem.run_bind, Sem.run_pure, Result.andThen_ok, List.map_toArray, List.map_cons, List.map_nil, hs, hx, hrun]
  exact h v' w' h2 h3 h4
def hasBody (P : Program) (f : FuncId) : Bool := match P.funcs[f]? with | some fn => fn.name != "runtime.NumGoroutine" && fn.body.isSome | none => false
theorem op_call {f : FuncId} {xs : Array Operand} {ts : Array TypeId} {vals : Array Value} (ho : o.op = .call { callee := .value (.func f), args := xs, argTypes := ts }) (hf : hasBody P f = true) (hx : xs.map a.eval = vals)
    (hc : Calls P f vals w fun e w' => ∃ v, e = .returned v ∧ K (a.put o.dst v) w') : o.wp P a w K Q := by
  unfold Oper.wp
  have : (execOp a.eval o).run P w = .ok (.enter f vals) w := by
    unfold hasBody at hf
    simp only [execOp, ho, resolve, hx, Act.eval, Deferred.ofValue, invoke, callFunc]
    cases hp : P.funcs[f]? with
    | none => rw [hp] at hf; cases hf
    | some fn =>
      rw [hp] at hf
      simp only [Bool.and_eq_true, bne_iff_ne] at hf
      have h2 : fn.body.isNone = false := by cases hb : fn.body <;> simp [hb] at hf ⊢
      simp [Sem.run_bind, hp, hf.1]
      intro h3
      rw [h3] at h2; cases h2
  rw [this]
  exact hc.mono fun e w' ⟨v, h1, h2⟩ => by subst h1; exact h2
theorem op_extract {x : Operand} {k : Nat} {vs : Array Value} {v : Value} (ho : o.op = .extract x k) (hx : a.eval x = .tuple vs) (hv : vs[k]? = some v) (hK : K (a.put o.dst v) w) : o.wp P a w K Q :=
  op_value (by simp only [execOp, ho, hx, Instr.extract]; simp [hv]) hK
end

/-! Slices of slices. -/
section
variable {P : Program} {o : Oper} {a : Act} {w : World} {K : Act → World → Prop} {Q : Exit → Act → World → Prop}
end
theorem Rd.take {w : World} {size : Nat} {A : Option Addr} {n : Nat} {xs : List Value} (h : Rd w size A n xs) {k : Nat} (hk : k ≤ n) : Rd w size A k (xs.take (k * size)) := by
  refine ⟨by rw [List.length_take, h.1]; exact Nat.min_eq_left (Nat.mul_le_mul_right _ hk), fun h0 => ?_⟩
  obtain ⟨b, off, e, hb, hc⟩ := h.2 (by omega)
  refine ⟨b, off, e, hb, fun j u hu => hc j u ?_⟩
  rw [List.getElem?_take] at hu
  split at hu
  · exact hu
  · cases hu
theorem Rd.drop {w : World} {size : Nat} {A : Option Addr} {n : Nat} {xs : List Value} (h : Rd w size A n xs) {k c : Nat} (hk : k ≤ n) (hc : n ≤ c) : Rd w size (if c = k then A else A.map (·.add (k * size))) (n - k) (xs.drop (k * size)) := by
  refine ⟨by rw [List.length_drop, h.1, Nat.sub_mul], fun h0 => ?_⟩
  obtain ⟨b, off, e, hb, hcl⟩ := h.2 (by omega)
  rw [if_neg (by omega), e]
  refine ⟨b, off + k * size, by by_cases e0 : k * size = 0 <;> simp [Addr.add, e0], hb, fun j u hu => ?_⟩
  rw [List.getElem?_drop] at hu
  have := hcl _ u hu
  rwa [← Nat.add_assoc] at this
end Go.Proofs.YtbokkeooahodaaaGreatDoor

namespace Go.Proofs.YtbokkeooahodaaaGreatDoor
open Go.RowKit
set_option linter.unusedVariables false

theorem within_val (x k : Int) (hk : 0 < k) : (x.tmod k + k) % k = x % k := by
  rcases Int.lt_or_le x 0 with h | h
  · have h1 : x.tmod k = -((-x) % k) := by rw [← Int.tmod_eq_emod_of_nonneg (by omega), Int.neg_tmod, Int.neg_neg]
    have h2 := Int.mul_ediv_add_emod (-x) k
    rw [h1]
    have h3 : x = -((-x) % k) + k * (-((-x) / k)) := by rw [Int.mul_neg]; omega
    conv => rhs; rw [h3, Int.add_mul_emod_self_left]
    rw [Int.add_emod_right]
  · rw [Int.tmod_eq_emod_of_nonneg h, Int.add_emod_right, Int.emod_emod_of_dvd _ (Int.dvd_refl k)]

set_option maxHeartbeats 1000000 in
theorem within_any (x k : Int) (w : World) (hk : 0 < k) (hk' : k ≤ 4000000000000000000) :
    Calls Tryz.prog 11 #[.int .i64 x, .int .i64 k] w fun e w' => e = .returned (.int .i64 (x % k)) ∧ w = w' := by
  have hb := tmod_bounds x k hk
  have E := Lib.hid (within_val x k hk)
  have bk : (k == 0) = false := by simp; omega
  obtain ⟨y, hy⟩ : ∃ y, x.tmod k = y := ⟨_, rfl⟩
  rw [hy] at hb E
  go_enter Tryz.func11, Tryz.ntmps11
  go_wp2
  go_ret
  exact ⟨ret_int' E.out, rfl⟩

theorem quiet_left {P : Program} {f : FuncId} {args : Array Value} {w : World} {n : Nat} {v : Value}
    (h : Calls P f args (w.drewN n) fun e w' => e = .returned v ∧ w.drewN n = w') : Calls P f args (w.drewN n) fun e w'' => e = .returned v ∧ ∃ m, w'' = w.drewN m :=
  h.mono fun _ _ ⟨he, hm⟩ => ⟨he, n, hm.symm⟩

structure Only (g : Nat) (w w' : World) : Prop where
  os : w'.os = w.os
  tape : w'.tape = w.tape
  output : w'.output = w.output
  size : w'.heap.size = w.heap.size
  block : ∀ k, k ≠ g → w'.heap[k]? = w.heap[k]?
section
variable {g : Nat} {w w' w'' : World}
theorem Only.refl (g : Nat) (w : World) : Only g w w := ⟨rfl, rfl, rfl, rfl, fun _ _ => rfl⟩
theorem Only.trans (h : Only g w w') (k : Only g w' w'') : Only g w w'' := ⟨k.os.trans h.os, k.tape.trans h.tape, k.output.trans h.output, k.size.trans h.size, fun i hi => (k.block i hi).trans (h.block i hi)⟩
theorem Only.drewN (h : Only g w w') (n : Nat) : Only g w (w'.drewN n) := ⟨h.os, h.tape, h.output, h.size, h.block⟩
theorem Only.setCell (h : Only g w w') (o : Nat) (v : Value) : Only g w (w'.setCell ⟨g, o, none⟩ v) :=
  ⟨h.os, h.tape, h.output, by simp [World.setCell, h.size], fun k hk => (Below.heap_setCell w' ⟨g, o, none⟩ v k hk).trans (h.block k hk)⟩
theorem Only.below (h : Only g w w') {B : Nat} (hB : B ≤ g) : RowKit.Below B w w' := ⟨h.os, h.tape, h.output, by rw [h.size]; exact Nat.le_refl _, fun k hk => h.block k (by omega)⟩
theorem Only.bl (h : Only g w w') {b : Nat} {t : TypeId} {cs : Array Value} (hb : Bl w b t cs) (hne : b ≠ g) : Bl w' b t cs := (h.block b hne).trans hb
end

def Src (w : World) (g : Nat) (A : Option Addr) (n c I : Nat) : Prop := Bl w g 55 #[.slice A n c, .int .i64 I]
def nextV (xs : List Int) (n I : Nat) (k : Int) : Int := if I < n then xs.getD I 0 % k else 0
def nextI (n I : Nat) : Nat := if I < n then I + 1 else I
theorem nextV_bounds (xs : List Int) (n I : Nat) (k : Int) (hk : 0 < k) : 0 ≤ nextV xs n I k ∧ nextV xs n I k < k := by
  unfold nextV
  split
  · exact ⟨Int.emod_nonneg _ (by omega), Int.emod_lt_of_pos _ hk⟩
  · omega
def NextRes (w : World) (g : Nat) (A : Option Addr) (n c : Nat) (v : Int) (I' : Nat) (e : Ending) (w' : World) : Prop := e = .returned (.int .i64 v) ∧ Only g w w' ∧ Src w' g A n c I'

set_option maxRecDepth 100000 in
set_option maxHeartbeats 2000000 in
theorem next_any (g : Nat) (A : Option Addr) (n c I : Nat) (xs : List Int) (k : Int) (w0 w : World) (hS : Src w g A n c I) (hI : Ints w0 A n xs) (hb : RowKit.Below w0.heap.size w0 w) (hg : w0.heap.size ≤ g) (hn : n ≤ 1000000) (hk : 0 < k) (hk' : k ≤ 4000000000000000000) :
    Calls Tryz.prog 16 #[.pointer (some ⟨g, 0, none⟩), .int .i64 k] w (NextRes w g A n c (nextV xs n I k) (nextI n I)) := by
  have c0 : w.cell? ⟨g, 0, none⟩ = some (.slice A n c) := hS.cell 0
  have c1 : w.cell? ⟨g, 1, none⟩ = some (.int .i64 I) := hS.cell 1
  have f1 : w.frozen? ⟨g, 1, none⟩ = false := hS.free 1
  by_cases hlt : I < n
  · have eV : nextV xs n I k = xs.getD I 0 % k := by unfold nextV; rw [if_pos hlt]
    have eI : nextI n I = I + 1 := by unfold nextI; rw [if_pos hlt]
    rw [eV, eI]
    obtain ⟨b, off, x, rfl, hbl, hx, HX⟩ := hI.get hlt
    rw [HX.out]
    have hx' : w.cell? ⟨b, off + I, none⟩ = some (.int .i64 x) := (hb.cell (p := ⟨b, off + I, none⟩) hbl).trans hx
    have hd : decide ((n : Int) ≤ (I : Int)) = false := by simp; omega
    have hne : b ≠ g := by omega
    have HW := Lib.hid (fun w => within_any x k w hk hk')
    have i1 : (0 : Int) ≤ (I : Int) := by omega
    have i2 : (I : Int) < (n : Int) := by omega
    have u1 : IntKind.i64.wrap ((I : Int) + 1) = (I : Int) + 1 := IntWalk.i64_in _ (by omega)
    have u2 : IntKind.i64.wrap ((I : Int) + 1 - 1) = (I : Int) := (IntWalk.i64_in _ (by omega)).trans (by omega)
    have u3 : IntKind.i64.wrap (I : Int) = (I : Int) := IntWalk.i64_in _ (by omega)
    clear eV eI hx
    go_enter Tryz.func16, Tryz.ntmps16
    go_wp2
    go_quiet (fail)
    go_wp2_with fail
    have hS1 : Bl ((w.drewN nq).setCell ⟨g, 1, none⟩ (.int .i64 ((I : Int) + 1))) g 55 #[.slice (some ⟨b, off, none⟩) n c, .int .i64 ((I : Int) + 1)] := by simpa using (hS.drewN nq).put 1 (.int .i64 ((I : Int) + 1))
    have hO1 := ((Only.refl g w).drewN nq).setCell 1 (.int .i64 ((I : Int) + 1))
    have hx1 : ((w.drewN nq).setCell ⟨g, 1, none⟩ (.int .i64 ((I : Int) + 1))).cell? ⟨b, off + I, none⟩ = some (.int .i64 x) := (World.cell?_of_block (hO1.block b hne)).trans hx'
    generalize (w.drewN nq).setCell ⟨g, 1, none⟩ (.int .i64 ((I : Int) + 1)) = W at *
    have e0 : W.cell? ⟨g, 0, none⟩ = some (.slice (some ⟨b, off, none⟩) n c) := hS1.cell 0
    have e1 : W.cell? ⟨g, 1, none⟩ = some (.int .i64 ((I : Int) + 1)) := hS1.cell 1
    clear c0 c1 f1 hx'
    go_quiet ((go_at_call 11; exact quiet_left (HW.out _)))
    go_wp2
    go_ret
    exact ⟨rfl, hO1.drewN _, by show Bl _ _ _ _; rw [Int.natCast_add]; exact hS1.drewN _⟩
  · have eV : nextV xs n I k = 0 := by unfold nextV; rw [if_neg hlt]
    have eI : nextI n I = I := by unfold nextI; rw [if_neg hlt]
    rw [eV, eI]
    have hd : decide ((n : Int) ≤ (I : Int)) = true := by simp; omega
    go_enter Tryz.func16, Tryz.ntmps16
    go_wp2
    go_quiet (fail)
    go_wp2
    go_ret
    exact ⟨rfl, (Only.refl _ _).drewN _, hS.drewN _⟩
def CutRes (w : World) (A : Option Addr) (n c m : Nat) (xs : List Int) (e : Ending) (w' : World) : Prop := e = .returned (.slice A (min n m) c) ∧ w = w'

set_option maxHeartbeats 1000000 in
theorem cut_any (A : Option Addr) (n c m : Nat) (xs : List Int) (w : World) (h : Ints w A n xs) (hnc : n ≤ c) (hcm : c ≤ 9223372036854775807) (hm0 : 0 < m) (hm : m ≤ 1000000) :
    Calls Tryz.prog 15 #[.slice A n c, .int .i64 m] w (CutRes w A n c m xs) := by
  by_cases hl : m < n
  · obtain ⟨b, off, rfl, _⟩ := h.2 (by omega)
    have e : min n m = m := by omega
    unfold CutRes
    rw [e]
    clear e
    have d : (m : Int) < (n : Int) := by omega
    go_enter Tryz.func15, Tryz.ntmps15
    go_wp2
    go_ret
    exact ⟨rfl, rfl⟩
  · have e : min n m = n := by omega
    unfold CutRes
    rw [e]
    clear e
    go_enter Tryz.func15, Tryz.ntmps15
    go_wp2
    go_ret
    exact ⟨rfl, rfl⟩

def srcI (w : World) (g : Nat) : Nat := match w.cell? ⟨g, 1, none⟩ with | some v => (intOf v).toNat | none => 0
theorem Src.at_ {w : World} {g : Nat} {A : Option Addr} {n c I : Nat} (h : Src w g A n c I) : srcI w g = I := by
  unfold srcI
  rw [show w.cell? ⟨g, 1, none⟩ = some (.int .i64 I) from h.cell 1]
  simp [intOf]

theorem own_apart {w : World} {base : Nat} {e t : TypeId} {size n g : Nat} {v : Value} {xs : List Value} {cs : Array Value} (h : w.ownsRow base e size v n xs) (hg : Bl w g t cs) (hne : e ≠ t) : some g ≠ v.ownBlock := by
  rcases h.2 with ⟨rfl, _⟩ | ⟨g', cap, cur, rfl, _, hh, _⟩
  · simp [Value.ownBlock]
  · intro he
    have : g = g' := by simpa [Value.ownBlock] using he
    subst this
    unfold Bl at hg
    rw [hh] at hg
    injection hg with hg
    injection hg with _ ht
    exact hne ht

section
variable {w w' : World} {base : Nat} {e : TypeId} {size n : Nat} {v : Value} {xs : List Value}
theorem own_of_block (h : w.ownsRow base e size v n xs) (hk : ∀ g, v.ownBlock = some g → w'.heap[g]? = w.heap[g]?) : w'.ownsRow base e size v n xs := by
  refine ⟨h.1, ?_⟩
  rcases h.2 with h1 | ⟨g, cap, cur, h1, h2, h3, h4⟩
  · exact .inl h1
  · exact .inr ⟨g, cap, cur, h1, h2, (hk g (by rw [h1]; rfl)).trans h3, h4⟩
theorem own_lt (h : w.ownsRow base e size v n xs) (g : Nat) (hg : v.ownBlock = some g) : g < w.heap.size := by
  rcases h.2 with ⟨rfl, rfl⟩ | ⟨g', cap, cur, rfl, _, hh, _⟩
  · simp [Value.ownBlock] at hg
  · have : g' = g := by simpa [Value.ownBlock] using hg
    subst this
    rcases Nat.lt_or_ge g' w.heap.size with h4 | h4
    · exact h4
    · rw [Array.getElem?_eq_none h4] at hh; cases hh
theorem own_alloc (h : w.ownsRow base e size v n xs) (o : Obj) : (w.alloc o).ownsRow base e size v n xs :=
  own_of_block h fun g hg => Below.heap_alloc w o g (own_lt h g hg)
theorem own_below (h : w.ownsRow base e size v n xs) (hb : RowKit.Below w.heap.size w w') : w'.ownsRow base e size v n xs :=
  own_of_block h fun g hg => hb.block g (own_lt h g hg)
end
end Go.Proofs.YtbokkeooahodaaaGreatDoor

namespace Go.Proofs.YtbokkeooahodaaaGreatDoor
open Go.RowKit
set_option linter.unusedVariables false

structure Kp (g : Nat) (a b : World) : Prop where
  os : b.os = a.os
  tape : b.tape = a.tape
  output : b.output = a.output
  size : a.heap.size ≤ b.heap.size
  block : ∀ k, k < a.heap.size → k ≠ g → b.heap[k]? = a.heap[k]?
section
variable {g : Nat} {a b c : World}
theorem Kp.refl (g : Nat) (a : World) : Kp g a a := ⟨rfl, rfl, rfl, Nat.le_refl _, fun _ _ _ => rfl⟩
theorem Kp.trans (h : Kp g a b) (k : Kp g b c) : Kp g a c := ⟨k.os.trans h.os, k.tape.trans h.tape, k.output.trans h.output, Nat.le_trans h.size k.size, fun i hi hg => (k.block i (Nat.lt_of_lt_of_le hi h.size) hg).trans (h.block i hi hg)⟩
theorem Kp.only (h : Kp g a b) (hO : Only g b c) : Kp g a c := ⟨hO.os.trans h.os, hO.tape.trans h.tape, hO.output.trans h.output, by rw [hO.size]; exact h.size, fun k hk hg => (hO.block k hg).trans (h.block k hk hg)⟩
theorem Kp.below (h : Kp g a b) (hB : RowKit.Below b.heap.size b c) : Kp g a c := ⟨hB.os.trans h.os, hB.tape.trans h.tape, hB.output.trans h.output, Nat.le_trans h.size hB.size, fun k hk hg => (hB.block k (Nat.lt_of_lt_of_le hk h.size)).trans (h.block k hk hg)⟩
theorem Kp.alloc (h : Kp g a b) (o : Obj) : Kp g a (b.alloc o) := h.below ((Below.refl _ _).alloc (Nat.le_refl _) _)
theorem Kp.drew (h : Kp g a b) : Kp g a b.drew := ⟨h.os, h.tape, h.output, h.size, h.block⟩
theorem Kp.drewN (h : Kp g a b) (n : Nat) : Kp g a (b.drewN n) := ⟨h.os, h.tape, h.output, h.size, h.block⟩
theorem Kp.setCell (h : Kp g a b) {p : Addr} (hp : a.heap.size ≤ p.block) (v : Value) : Kp g a (b.setCell p v) :=
  ⟨h.os, h.tape, h.output, by simp [World.setCell]; exact h.size, fun k hk hg => (Below.heap_setCell b p v k (by omega)).trans (h.block k hk hg)⟩
theorem Kp.bl (h : Kp g a b) {k : Nat} {t : TypeId} {cs : Array Value} (hb : Bl a k t cs) (hg : k ≠ g) : Bl b k t cs := (h.block k hb.lt hg).trans hb
theorem Kp.own (h : Kp g a b) {base : Nat} {e : TypeId} {size n : Nat} {v : Value} {xs : List Value} (ho : a.ownsRow base e size v n xs) (hg : v.ownBlock ≠ some g) : b.ownsRow base e size v n xs :=
  own_of_block ho fun k hk => h.block k (own_lt ho k hk) (fun x => hg (by rw [hk, x]))
theorem Kp.under (h : Kp g a b) {B : Nat} {w : World} (hB : RowKit.Below B w a) (hs : B ≤ a.heap.size) (hg : B ≤ g) : RowKit.Below B w b :=
  hB.trans ⟨h.os, h.tape, h.output, h.size, fun k hk => h.block k (by omega) (by omega)⟩
end
theorem bl_far {w : World} {a b : Nat} {t u : TypeId} {cs ds : Array Value} (h : Bl w a t cs) (k : Bl w b u ds) (hne : t ≠ u) : a ≠ b := fun e => by
  subst e
  unfold Bl at h k
  rw [h] at k
  injection k with k
  injection k with _ k
  exact hne k
def TrE (gs : Nat) (LA : Option Addr) (m lc : Nat) (W wx : World) : Prop := Kp gs W wx ∧ ∃ J, Src wx gs LA m lc J
section
variable {gs : Nat} {LA : Option Addr} {m lc : Nat} {W wx w' : World}
theorem TrE.start {J : Nat} (h : Src W gs LA m lc J) : TrE gs LA m lc W W := ⟨Kp.refl _ _, J, h⟩
theorem TrE.drew (h : TrE gs LA m lc W wx) : TrE gs LA m lc W wx.drew := ⟨h.1.drew, h.2⟩
theorem TrE.drewN (h : TrE gs LA m lc W wx) (n : Nat) : TrE gs LA m lc W (wx.drewN n) := ⟨h.1.drewN n, h.2⟩
theorem TrE.alloc (h : TrE gs LA m lc W wx) (o : Obj) : TrE gs LA m lc W (wx.alloc o) := ⟨h.1.alloc o, h.2.elim fun J hJ => ⟨J, Bl.alloc hJ o⟩⟩
theorem TrE.trans (h : TrE gs LA m lc W wx) (k : TrE gs LA m lc wx w') : TrE gs LA m lc W w' := ⟨h.1.trans k.1, k.2⟩
theorem TrE.only {J' : Nat} (h : TrE gs LA m lc W wx) (ho : Only gs wx w') (hs : Src w' gs LA m lc J') : TrE gs LA m lc W w' := ⟨h.1.only ho, J', hs⟩
theorem TrE.size (h : TrE gs LA m lc W wx) : W.heap.size ≤ wx.heap.size := h.1.size
theorem TrE.bl (h : TrE gs LA m lc W wx) {k : Nat} {t : TypeId} {cs : Array Value} (hb : Bl W k t cs) (hg : k ≠ gs) : Bl wx k t cs := h.1.bl hb hg
theorem TrE.under (h : TrE gs LA m lc W wx) {N : Nat} {w : World} (hb : RowKit.Below N w W) (hs : N ≤ W.heap.size) (hg : N ≤ gs) : RowKit.Below N w wx := h.1.under hb hs hg
theorem TrE.own (h : TrE gs LA m lc W wx) {J : Nat} (hS : Src W gs LA m lc J) {base : Nat} {e : TypeId} {size n : Nat} {v : Value} {xs : List Value} (ho : W.ownsRow base e size v n xs) (hne : e ≠ 55) : wx.ownsRow base e size v n xs :=
  h.1.own ho (fun x => own_apart ho hS hne x.symm)
end
structure SrcOk (w0 w : World) (gs : Nat) (LA : Option Addr) (m lc : Nat) (xs : List Int) : Prop where
  src : ∃ J, Src w gs LA m lc J
  ints : Ints w0 LA m xs
  below : RowKit.Below w0.heap.size w0 w
  base : w0.heap.size ≤ gs
  few : m ≤ 1000000
theorem SrcOk.tr {w0 w w' : World} {gs : Nat} {LA : Option Addr} {m lc : Nat} {xs : List Int} (h : SrcOk w0 w gs LA m lc xs) (ht : TrE gs LA m lc w w') : SrcOk w0 w' gs LA m lc xs :=
  ⟨ht.2, h.ints, ht.under h.below h.below.size h.base, h.base, h.few⟩
theorem SrcOk.start {w0 w : World} {gs : Nat} {LA : Option Addr} {m lc : Nat} {xs : List Int} (h : SrcOk w0 w gs LA m lc xs) : TrE gs LA m lc w w := ⟨Kp.refl _ _, h.src⟩
theorem SrcOk.lt {w0 w : World} {gs : Nat} {LA : Option Addr} {m lc : Nat} {xs : List Int} (h : SrcOk w0 w gs LA m lc xs) : gs < w.heap.size := h.src.elim fun _ h => h.lt
def TrNum (gs : Nat) (LA : Option Addr) (m lc : Nat) (w : World) (a b : Int) (e : Ending) (w' : World) : Prop := ∃ v : Int, e = .returned (.int .i64 v) ∧ (a ≤ v ∧ v ≤ b) ∧ TrE gs LA m lc w w'
theorem next20 {w0 w : World} {gs : Nat} {LA : Option Addr} {m lc : Nat} {xs : List Int} (h : SrcOk w0 w gs LA m lc xs) (k : Int) (hk : 0 < k) (hk' : k ≤ 4000000000000000000) :
    Calls Tryz.prog 16 #[.pointer (some ⟨gs, 0, none⟩), .int .i64 k] w (TrNum gs LA m lc w 0 (k - 1)) := by
  obtain ⟨J, hJ⟩ := h.src
  refine (next_any gs LA m lc J xs k w0 w hJ h.ints h.below h.base h.few hk hk').mono ?_
  rintro e w' ⟨h1, h2, h3⟩
  have := nextV_bounds xs m J k hk
  exact ⟨_, h1, ⟨this.1, by omega⟩, (TrE.start hJ).only h2 h3⟩
end Go.Proofs.YtbokkeooahodaaaGreatDoor

namespace Go.Proofs.YtbokkeooahodaaaGreatDoor
open Go.RowKit
set_option linter.unusedVariables false

theorem step_append_rd {P : Program} (w : World) {ops : Array Oper} {o : Oper} {a : Act} {K : Act → World → Prop} {Q : Exit → Act → World → Prop} {E : Prop} (hgd : o.guard = none) (s x : Operand) (t : TypeId)
    (ho : o.op = .call { callee := .builtin .append, args := #[s, x], argTypes := #[t, t] })
    (base : Nat) (e : TypeId) (z : Value) (size bytes : Nat) (ht : P.underlying t = some (.slice e)) (hi : (P.info? e).map (fun i => (i.zero, i.size, i.bytes)) = some (some z, size, bytes)) (hzs : z.cells.size = size) (hsz : 0 < size)
    (v : Value) (n : Nat) (xs : List Value) (hs : a.eval s = v) (hown : w.ownsRow base e size v n xs)
    (A : Option Addr) (m c : Nat) (news : List Value) (hx : a.eval x = .slice A m c) (hr : Rd w size A m news) (h1 : ∀ u ∈ news, u.oneCell' = true)
    (h63 : n + m ≤ maxLen) (hbytes : (n + m) * bytes ≤ 140737488355328) (hbase : base ≤ w.heap.size)
    (h : ∀ v' w', w'.ownsRow base e size v' (n + m) (xs ++ news) → w.grownBy w' v.ownBlock → K (a.put o.dst v') w') :
    if Region.wanted o (yielded ops a.tmps) = true then Oper.wp P o a w K Q else E := by
  obtain ⟨i, hi0, hz, hsize, hby⟩ := info_parts hi
  have hw : Region.wanted o (yielded ops a.tmps) = true := by simp [Region.wanted, hgd]
  rw [if_pos hw]
  obtain ⟨v', w', hrun, h2, h3, _⟩ := run_append_rd (P := P) w base t o.type e i z size bytes ht hi0 hz hsize hby hzs hsz v n xs hown A m c news hr h1 h63 hbytes hbase
  unfold Oper.wp execOp
  simp only [ho, resolve, invoke, builtin, Sem.run_bind, Sem.run_pure, Result.andThen_ok, List.map_toArray, List.map_cons, List.map_nil, hs, hx, hrun]
  exact h v' w' h2 h3
theorem Rd.drew {w : World} {size n : Nat} {A : Option Addr} {xs : List Value} (h : Rd w size A n xs) : Rd w.drew size A n xs := h

abbrev NoF : List Value → Value → Prop := fun _ _ => True
abbrev NoR : List Value → Value → List Nat → World → Prop := fun _ _ _ _ => True
theorem NoR.loc {w0 : World} : Loc w0 NoR := fun _ _ _ _ _ _ _ _ _ _ => trivial
def OwnR (N : Nat) (T : TypeId) (k n : Nat) (xs : List Value) : List Value → Value → List Nat → World → Prop := fun _ v f w => w.ownsRow N T k v n xs ∧ f = v.ownBlock.toList
theorem OwnR.loc {w0 : World} {N : Nat} {T : TypeId} {k n : Nat} {xs : List Value} : Loc w0 (OwnR N T k n xs) := by
  rintro l v f w w' h1 h2 h3 h4 ⟨h5, rfl⟩
  exact ⟨own_of_block h5 fun j hj => (h4 j (by simp [hj])).2.2, rfl⟩
def LitR (T : TypeId) (cs : Array Value) (n : Nat) : List Value → Value → List Nat → World → Prop := fun _ v f w => ∃ g, v = .slice (some ⟨g, 0, none⟩) n n ∧ f = [g] ∧ Bl w g T cs
theorem LitR.loc {w0 : World} {T : TypeId} {n : Nat} {cs : Array Value} : Loc w0 (LitR T cs n) := by
  rintro l v f w w' h1 h2 h3 h4 ⟨g, rfl, rfl, h5⟩
  exact ⟨g, rfl, rfl, (h4 g (by simp)).2.2.trans h5⟩
def PtrR (T : TypeId) (cs : Array Value) : List Value → Value → List Nat → World → Prop := fun _ v f w => ∃ g, v = .pointer (some ⟨g, 0, none⟩) ∧ f = [g] ∧ Bl w g T cs
theorem PtrR.loc {w0 : World} {T : TypeId} {cs : Array Value} : Loc w0 (PtrR T cs) := by
  rintro l v f w w' h1 h2 h3 h4 ⟨g, rfl, rfl, h5⟩
  exact ⟨g, rfl, rfl, (h4 g (by simp)).2.2.trans h5⟩
def PutR (T : TypeId) (cs : Array Value) : List Value → Value → List Nat → World → Prop := fun vs _ f w => ∃ g, vs[0]? = some (.pointer (some ⟨g, 0, none⟩)) ∧ f = [g] ∧ Bl w g T cs
theorem PutR.loc {w0 : World} {T : TypeId} {cs : Array Value} : Loc w0 (PutR T cs) := by
  rintro l v f w w' h1 h2 h3 h4 ⟨g, e, rfl, h5⟩
  exact ⟨g, e, rfl, (h4 g (by simp)).2.2.trans h5⟩
theorem own_lit {w : World} {g base : Nat} {t : TypeId} {size n : Nat} {xs : List Value} (h : Bl w g t xs.toArray) (hb : base ≤ g) (hl : xs.length = n * size) (hn : n ≤ 1000) : w.ownsRow base t size (.slice (some ⟨g, 0, none⟩) n n) n xs :=
  ⟨hl, .inr ⟨g, n, xs.toArray, rfl, hb, h, Nat.le_refl _, by unfold maxLen; omega, by simpa using hl, by simp [← hl]⟩⟩
theorem rd_bl {w : World} {g n : Nat} {t : TypeId} {size : Nat} {xs : List Value} (h : Bl w g t xs.toArray) (hl : xs.length = n * size) : Rd w size (some ⟨g, 0, none⟩) n xs :=
  ⟨hl, fun _ => ⟨g, 0, rfl, h.lt, fun j u hu => by rw [Nat.zero_add, h.cell j, ← Array.getElem?_toList]; exact hu⟩⟩
theorem Finds.wrote {js : List Job} {a0 : Act} {w0 : World} {fact : Nat → List Value → Value → Prop} {res : Nat → List Value → Value → List Nat → World → Prop} {i : Nat} {j : Job} {a : Act} {w w' : World} {vs : Nat → Value} {fp : Nat → List Nat} {v : Value}
    (h : Finds js a0 w0 fact res i j a w vs fp) (k : Nat) (hk' : j.eats.contains k = true) {g : Nat} (hf : fp k = [g]) (hO : Only g w w') (h1 : fact i (j.deps.map vs) v) (h2 : res i (j.deps.map vs) v [g] w') : Leaves w0 fact res i j w vs fp v [g] w' := by
  have hk : k ∈ j.eats := by simpa using hk'
  have hg := h.own k hk g (by rw [hf]; simp)
  refine ⟨h.below.trans (hO.below hg.1), by rw [hO.size]; exact Nat.le_refl _, fun b hb hn => hO.block b (fun e => hn k hk (by rw [hf, e]; simp)), h1, h2, fun b hb => ?_⟩
  rw [List.mem_singleton] at hb
  subst hb
  exact ⟨by rw [hO.size]; exact hg.2, .inl ⟨k, hk, by rw [hf]; simp⟩⟩
section
variable {P : Program} {o : Oper} {a : Act} {w : World} {K : Act → World → Prop} {Q : Exit → Act → World → Prop}
theorem op_callf {f : FuncId} {x : Operand} {caps : Array Value} {xs : Array Operand} {ts : Array TypeId} {vals all : Array Value} (ho : o.op = .call { callee := .value x, args := xs, argTypes := ts }) (hx0 : a.eval x = .func (.func f) #[] caps) (hf : hasBody P f = true) (hx : xs.map a.eval = vals) (hv : vals ++ caps = all)
    (hc : Calls P f all w fun e w' => ∃ v, e = .returned v ∧ K (a.put o.dst v) w') : o.wp P a w K Q := by
  unfold Oper.wp
  have : (execOp a.eval o).run P w = .ok (.enter f all) w := by
    unfold hasBody at hf
    simp only [execOp, ho, resolve, hx, hx0, Deferred.ofValue, invoke, callFunc]
    cases hp : P.funcs[f]? with
    | none => rw [hp] at hf; cases hf
    | some fn =>
      rw [hp] at hf
      simp only [Bool.and_eq_true, bne_iff_ne] at hf
      have h2 : fn.body.isNone = false := by cases hb : fn.body <;> simp [hb] at hf ⊢
      simp [Sem.run_bind, hp, hf.1, hv]
      intro h3
      rw [h3] at h2; cases h2
  rw [this]
  exact hc.mono fun e w' ⟨v, h1, h2⟩ => by subst h1; exact h2
end
end Go.Proofs.YtbokkeooahodaaaGreatDoor

namespace Go.Proofs.YtbokkeooahodaaaGreatDoor
open Go.RowKit Go.Shelf Go.Lib Go.Sort
set_option linter.unusedVariables false

abbrev Ak := Int × Int
def encA (x : Ak) : List Value := [.int .i64 x.1, .int .i64 x.2]
theorem encA_len (x : Ak) : (encA x).length = 2 := rfl
theorem encA_one (x : Ak) : ∀ v ∈ encA x, v.oneCell' = true := fun v hv => by
  simp only [encA, List.mem_cons, List.not_mem_nil, or_false] at hv
  rcases hv with rfl | rfl <;> rfl
set_option maxHeartbeats 1000000 in
theorem cmpOr_any (g : Nat) (a b : Int) (w : World) (h0 : w.cell? ⟨g, 0, none⟩ = some (.int .i64 a)) (h1 : w.cell? ⟨g, 1, none⟩ = some (.int .i64 b)) :
    Calls Tryz.prog 30 #[.slice (some ⟨g, 0, none⟩) 2 2] w fun e w' => e = .returned (.int .i64 (if a = 0 then b else a)) ∧ w = w' := by
  by_cases ha : a = 0
  · subst ha
    rw [if_pos rfl]
    by_cases hb : b = 0
    · subst hb
      go_enter Tryz.func30, Tryz.ntmps30
      go_wp2
      refine wp_loop_rounds 3 ?_
      rw [rounds_succ]
      go_wp2
      rw [rounds_succ]
      go_wp2
      rw [rounds_succ]
      go_wp2
      go_ret
      exact ⟨rfl, rfl⟩
    · have b1 : (b != 0) = true := by simpa using hb
      clear hb
      go_enter Tryz.func30, Tryz.ntmps30
      go_wp2
      refine wp_loop_rounds 2 ?_
      rw [rounds_succ]
      go_wp2
      rw [rounds_succ]
      go_wp2
      go_ret
      exact ⟨rfl, rfl⟩
  · have b1 : (a != 0) = true := by simpa using ha
    rw [if_neg ha]
    clear ha
    go_enter Tryz.func30, Tryz.ntmps30
    go_wp2
    refine wp_loop_rounds 1 ?_
    rw [rounds_succ]
    go_wp2
    go_ret
    exact ⟨rfl, rfl⟩

def cmpA (x y : Ak) : Int := if Lib.compareInt x.1 y.1 = 0 then Lib.compareInt x.2 y.2 else Lib.compareInt x.1 y.1

set_option maxRecDepth 100000 in
set_option maxHeartbeats 4000000 in
theorem cmpA_any (x y : Ak) (W : World) :
    Calls Tryz.prog 29 #[.agg #[.int .i64 x.1, .int .i64 x.2], .agg #[.int .i64 y.1, .int .i64 y.2]] W
    fun e w' => e = .returned (.int .i64 (cmpA x y)) ∧ ∃ q os', w' = grow (W.drewN q) os' := by
  unfold cmpA
  have H1 := Lib.hid (fun w => Tryz.cmp_Compare_int x.1 y.1 w)
  have H2 := Lib.hid (fun w => Tryz.cmp_Compare_int x.2 y.2 w)
  generalize Lib.compareInt x.1 y.1 = r1 at *
  generalize Lib.compareInt x.2 y.2 = r2 at *
  have HOR : Hid (∀ (w' : World) (g : Nat), w'.heap.size = g → Calls Tryz.prog 30 #[.slice (some ⟨g, 0, none⟩) 2 2] (w'.alloc (.cells #[.int .i64 r1, .int .i64 r2] 3)).drew (fun e w9 => e = .returned (.int .i64 (if r1 = 0 then r2 else r1)) ∧ (w'.alloc (.cells #[.int .i64 r1, .int .i64 r2] 3)).drew = w9)) := fun w' g hg => by
    subst hg
    exact cmpOr_any _ r1 r2 _ ((Bl.new w' _ _).cell 0) ((Bl.new w' _ _).cell 1)
  generalize (if r1 = 0 then r2 else r1) = r at *
  have HB1 := (Bl.new W 83 #[.int .i64 x.1, .int .i64 x.2]).alloc (.cells #[.int .i64 y.1, .int .i64 y.2] 83)
  have HB2 := Bl.new (W.alloc (.cells #[.int .i64 x.1, .int .i64 x.2] 83)) 83 #[.int .i64 y.1, .int .i64 y.2]
  have HG : Hid ((W.alloc (.cells #[.int .i64 x.1, .int .i64 x.2] 83)).alloc (.cells #[.int .i64 y.1, .int .i64 y.2] 83) = grow W #[.cells #[.int .i64 x.1, .int .i64 x.2] 83, .cells #[.int .i64 y.1, .int .i64 y.2] 83]) := by
    show _ = _
    rw [alloc_eq_grow, alloc_eq_grow, grow_grow]; rfl
  have hz : (W.alloc (.cells #[.int .i64 x.1, .int .i64 x.2] 83)).heap.size = W.heap.size + 1 := by simp
  rw [hz] at HB2
  clear hz
  go_enter Tryz.func29, Tryz.ntmps29
  go_upto_region 1 with (fail)
  generalize (W.alloc (.cells #[.int .i64 x.1, .int .i64 x.2] 83)).alloc (.cells #[.int .i64 y.1, .int .i64 y.2] 83) = W2 at *
  have g1 : W.heap.size < W2.heap.size := HB1.lt
  have g2 : W.heap.size + 1 < W2.heap.size := HB2.lt
  have p0 : W2.cell? ⟨W.heap.size, 0, none⟩ = some (.int .i64 x.1) := HB1.cell 0
  have p1 : W2.cell? ⟨W.heap.size, 1, none⟩ = some (.int .i64 x.2) := HB1.cell 1
  have r0 : W2.cell? ⟨W.heap.size + 1, 0, none⟩ = some (.int .i64 y.1) := HB2.cell 0
  have r1' : W2.cell? ⟨W.heap.size + 1, 1, none⟩ = some (.int .i64 y.2) := HB2.cell 1
  clear HB1 HB2
  generalize W.heap.size + 1 = k2 at *
  generalize W.heap.size = k1 at *
  go_region_held3 (fun w' => w'.cell? ⟨k1, 0, none⟩ = some (.int .i64 x.1) ∧ w'.cell? ⟨k1, 1, none⟩ = some (.int .i64 x.2) ∧ w'.cell? ⟨k2, 0, none⟩ = some (.int .i64 y.1) ∧ w'.cell? ⟨k2, 1, none⟩ = some (.int .i64 y.2))
    (first
      | go_keep)
    (first
      | (go_at_call 31; (first | (with_reducible refine (H1.out _).mono ?_) | (with_reducible refine (H2.out _).mono ?_)); rintro e w' ⟨rfl, rfl⟩)
      | (go_at_call 30; refine (HOR.out _ _ ?_).mono ?_; (rfl); rintro e w' ⟨rfl, rfl⟩))
  all_goals
    go_wp2
    go_ret
    exact ⟨rfl, 1, _, by rw [HG.out, alloc_eq_grow, grow_grow]; rfl⟩

theorem ltA (x y : Ak) : ltOf cmpA x y = decide (x.1 < y.1 ∨ (x.1 = y.1 ∧ x.2 < y.2)) := by
  unfold ltOf cmpA Lib.compareInt
  by_cases h1 : x.1 < y.1
  · simp [h1]
  · by_cases h2 : y.1 < x.1
    · have : ¬ x.1 = y.1 := by omega
      simp [h1, h2, this]
    · have : x.1 = y.1 := by omega
      simp [this]
      by_cases h3 : x.2 < y.2
      · simp [h3]
      · by_cases h4 : y.2 < x.2 <;> simp [h3, h4]
theorem swoA : SWO (ltOf cmpA) where
  irrefl x := by rw [ltA]; simp
  trans x y z h1 h2 := by rw [ltA] at *; simp at *; omega
  ntrans x y z h1 h2 := by rw [ltA] at *; simp at *; omega

/-! ### A row of records with its room -/
def RowK {α : Type} (enc : α → List Value) (k : Nat) (arr : Array Value) (n : Nat) (f : Nat → α) : Prop := ∀ j, j < n → ∀ c, c < k → arr[j * k + c]? = some ((enc (f j))[c]!)
theorem own_rowK {α : Type} [Inhabited α] {enc : α → List Value} {k : Nat} (hk : ∀ x, (enc x).length = k) {w : World} {base n c : Nat} {t : TypeId} {A : Option Addr} {xs : List α} (h : w.ownsRow base t k (.slice A n c) n (flat enc xs)) (hl : xs.length = n) (hn : 0 < n) :
    ∃ g arr, A = some ⟨g, 0, none⟩ ∧ base ≤ g ∧ Bl w g t arr ∧ RowK enc k arr n (fun i => xs[i]!) ∧ Hid (arr.size = c * k) ∧ n ≤ c ∧ Hid (c ≤ maxLen) := by
  rcases h.2 with ⟨_, h0⟩ | ⟨g, cap, cur, hv, hb, hh, h1, h2, h3, h4⟩
  · omega
  · injection hv with e1 e2 e3
    subst e3
    refine ⟨g, cur, e1, hb, hh, fun j hj q hq => ?_, h3, h1, h2⟩
    have := flat_get hk xs j q (by omega) hq
    have hlt : j * k + q < n * k := by
      have := Nat.mul_le_mul_right k (show j + 1 ≤ n from hj)
      rw [Nat.add_mul, Nat.one_mul] at this
      omega
    rw [← h4, List.getElem?_take, if_pos hlt, Array.getElem?_toList] at this
    exact this
theorem own_of_rowK {α : Type} [Inhabited α] {enc : α → List Value} {k : Nat} (hk : ∀ x, (enc x).length = k) (hk0 : 0 < k) {w : World} {base g n c : Nat} {t : TypeId} {arr : Array Value} {f : Nat → α} (hb : Bl w g t arr) (h : RowK enc k arr n f) (hg : base ≤ g) (hs : arr.size = c * k) (hn : n ≤ c) (hc : c ≤ maxLen) : w.ownsRow base t k (.slice (some ⟨g, 0, none⟩) n c) n (flat enc ((List.range n).map f)) := by
  have hfl := flat_length hk ((List.range n).map f)
  rw [List.length_map, List.length_range] at hfl
  refine ⟨hfl, .inr ⟨g, c, arr, rfl, hg, hb, hn, hc, hs, ?_⟩⟩
  apply List.ext_getElem?
  intro i
  rw [List.getElem?_take]
  by_cases hi : i < n * k
  · have e1 : i / k * k + i % k = i := by have := Nat.div_add_mod i k; rw [Nat.mul_comm] at this; exact this
    have hj : i / k < n := (Nat.div_lt_iff_lt_mul hk0).2 hi
    have hc : i % k < k := Nat.mod_lt _ hk0
    have h1 := h (i / k) hj (i % k) hc
    have h2 := flat_get hk ((List.range n).map f) (i / k) (i % k) (by simpa using hj) hc
    rw [e1] at h1 h2
    rw [if_pos hi, Array.getElem?_toList, h1, h2]
    congr 2
    simp [hj]
  · rw [if_neg hi, List.getElem?_eq_none (by omega)]
theorem sortWorld_block {α : Type} [Inhabited α] (enc : α → List Value) (k : Nat) (w : World) (g q : Nat) (d : Array α) (os : Array Obj) {t : TypeId} {arr : Array Value} (h : Bl w g t arr) :
    Bl (sortWorldK enc k w g 0 q d os) g t (putCells id 0 (flatK enc k d) arr) ∧ (∀ j, j < w.heap.size → j ≠ g → (sortWorldK enc k w g 0 q d os).heap[j]? = w.heap[j]?) ∧ w.heap.size ≤ (sortWorldK enc k w g 0 q d os).heap.size ∧ (sortWorldK enc k w g 0 q d os).os = w.os ∧ (sortWorldK enc k w g 0 q d os).tape = w.tape ∧ (sortWorldK enc k w g 0 q d os).output = w.output := by
  have hlt := h.lt
  unfold Bl at h
  refine ⟨?_, fun j hj hne => ?_, ?_, rfl, rfl, rfl⟩
  · unfold Bl sortWorldK grow putRowK putRow mapBlock Sort.ahead
    rw [Array.getElem?_append_left (by simpa using hlt), Array.getElem?_modify, if_pos rfl, h]
    rfl
  · unfold sortWorldK grow putRowK putRow mapBlock Sort.ahead
    rw [Array.getElem?_append_left (by simpa using hj), Array.getElem?_modify, if_neg (fun e => hne e.symm)]
  · unfold sortWorldK grow putRowK putRow mapBlock Sort.ahead
    simp
theorem putCells_row {α : Type} [Inhabited α] {enc : α → List Value} {k n : Nat} (hk0 : 0 < k) (d : Array α) (arr : Array Value) (hd : d.size = n) (hs : n * k ≤ arr.size) : RowK enc k (putCells id 0 (flatK enc k d) arr) n (fun i => d[i]!) ∧ (putCells id 0 (flatK enc k d) arr).size = arr.size := by
  refine ⟨fun j hj c hc => ?_, by simp [putCells]⟩
  have hlt : j * k + c < n * k := by
    have := Nat.mul_le_mul_right k (show j + 1 ≤ n from hj)
    rw [Nat.add_mul, Nat.one_mul] at this
    omega
  have e1 : (j * k + c) / k = j := by
    rw [Nat.mul_comm, Nat.mul_add_div hk0, Nat.div_eq_of_lt hc, Nat.add_zero]
  have e2 : (j * k + c) % k = c := by
    rw [Nat.mul_comm, Nat.mul_add_mod, Nat.mod_eq_of_lt hc]
  unfold putCells
  rw [Array.getElem?_mapIdx, Array.getElem?_eq_getElem (by omega), Option.map_some]
  rw [if_pos (by rw [size_flatK, hd]; omega), Nat.sub_zero, get_flatK _ _ _ _ (by rw [hd]; exact hlt), e1, e2]
  rfl
theorem holds_rowK {α : Type} [Inhabited α] {enc : α → List Value} {k n : Nat} (hk0 : 0 < k) {w : World} {g : Nat} {t : TypeId} {arr : Array Value} {d : Array α} (hb : Bl w g t arr) (h : RowK enc k arr n (fun i => d[i]!)) (hd : d.size = n) : HoldsK enc k w g 0 d := by
  intro i hi
  rw [size_flatK, hd] at hi
  rw [get_flatK _ _ _ _ (by rw [hd]; exact hi), Nat.zero_add]
  refine ⟨?_, hb.free _⟩
  rw [hb.cell]
  have hj : i / k < n := (Nat.div_lt_iff_lt_mul hk0).2 hi
  have := h (i / k) hj (i % k) (Nat.mod_lt _ hk0)
  rw [show i / k * k + i % k = i by have := Nat.div_add_mod i k; rw [Nat.mul_comm] at this; exact this] at this
  rw [this]
  rfl

def SrtA (w : World) (base : Nat) (lt : Ak → Ak → Bool) (v : Value) (n : Nat) (rs : List Ak) (e : Ending) (w' : World) : Prop := e = .returned (.tuple #[]) ∧ ∃ rs', rs'.Perm rs ∧ (∀ i j, i < j → j < n → lt rs'[j]! rs'[i]! = false) ∧ w'.ownsRow base 83 2 v n (flat encA rs') ∧ RowKit.Below base w w' ∧ w.grownBy w' v.ownBlock

theorem sortA_any (A : Option Addr) (n c base : Nat) (rs : List Ak) (w : World) (h : w.ownsRow base 83 2 (.slice A n c) n (flat encA rs)) (hl : rs.length = n) (hn : n ≤ 10000) (hb : base ≤ w.heap.size) :
    Calls Tryz.prog 28 #[.slice A n c, .func (.func 29) #[] #[]] w (SrtA w base (ltOf cmpA) (.slice A n c) n rs) := by
  by_cases h0 : n = 0
  · subst h0
    obtain rfl : rs = [] := List.eq_nil_of_length_eq_zero hl
    refine (AnyF.slices_SortFunc_none Tryz.sortA A c (.func (.func 29) #[] #[]) w).mono ?_
    rintro e w1 ⟨rfl, rfl⟩
    exact ⟨rfl, [], List.Perm.refl _, fun i j h1 h2 => by omega, h, RowKit.Below.refl _ _, World.grownBy.refl _ _⟩
  · obtain ⟨g, arr, rfl, hg, hB, hR, hs, hnc, hm⟩ := own_rowK encA_len h hl (by omega)
    have eg : ∀ args w, (callFunc 29 args).run Tryz.prog w = .ok (.enter 29 args) w := enters_of Tryz.func29 (by kernel_rfl) rfl
    have hd : rs.toArray.size = n := by simpa using hl
    have hH : HoldsK encA 2 w g 0 rs.toArray := holds_rowK (by omega) hB (fun j hj c hc => by have := hR j hj c hc; simpa using this) hd
    have hcon := AnyQ.slices_SortFunc Tryz.sortA 2 Tryz.isAgg83 Tryz.sizeOf83 encA encA_len encA_one cmpA swoA 29 #[] g 0 c rs.toArray w eg (fun m os dk _ x y => cmpA_any x y _) hH hB.lt (by rw [hd]; omega)
    rw [hd] at hcon
    refine hcon.mono ?_
    rintro e w1 ⟨rfl, d', q, os, hp, hs2, rfl⟩
    obtain ⟨hp1, _, hp3⟩ := hp
    rw [hd] at hp1
    obtain ⟨k1, k2, k3, k4, k5, k6⟩ := sortWorld_block encA 2 w g q d' os hB
    have hsz : n * 2 ≤ arr.size := by rw [hs.out]; exact Nat.mul_le_mul_right 2 hnc
    obtain ⟨r1, r2⟩ := putCells_row (enc := encA) (k := 2) (by omega) d' arr hp1 hsz
    have ho := own_of_rowK (base := base) encA_len (by omega) k1 r1 hg (by rw [r2]; exact hs.out) hnc hm.out
    have hlist : (List.range n).map (fun i => d'[i]!) = d'.toList := by
      apply List.ext_getElem
      · simp [hp1]
      · intro i h1 h2
        rw [List.getElem_map, List.getElem_range, getElem!_pos d' i (by simpa using h2), Array.getElem_toList]
    rw [hlist] at ho
    refine ⟨rfl, d'.toList, ?_, fun i j h1 h2 => ?_, ho, ⟨k4, k5, k6, k3, fun j hj => k2 j (by omega) (by omega)⟩, ⟨k4, k5, k6, k3, fun j hj hne => k2 j hj (fun e => hne (by rw [e]; rfl))⟩⟩
    · have e1 : (d'.extract 0 n).toList = d'.toList := by rw [← hp1]; simp
      have e2 : (rs.toArray.extract 0 n).toList = rs := by rw [← hd]; simp
      rw [e1, e2] at hp3
      exact hp3
    · have := hs2 i j (Nat.zero_le _) h1 h2
      rw [getElem!_pos d' j (by omega), getElem!_pos d' i (by omega)] at this
      rw [getElem!_pos d'.toList j (by simpa [hp1] using h2), getElem!_pos d'.toList i (by simp [hp1]; omega), Array.getElem_toList, Array.getElem_toList]
      exact this

end Go.Proofs.YtbokkeooahodaaaGreatDoor

namespace Go.Proofs.YtbokkeooahodaaaGreatDoor
open Go.RowKit Go.Maps Go.ChangeShapes Go.WideShapes Go.ChangeMaps
set_option linter.unusedVariables false

set_option maxRecDepth 100000 in
theorem accLawK : WideMaps.KeyLaw Tryz.prog 83 := deep_law_laid accLaid (m := 2) (by omega) accRow (by kernel_rfl) accWide
set_option maxRecDepth 100000 in
theorem zeroI20 (w : World) : (zeroValue 3).run Tryz.prog w = .ok (.int .i64 0) w := by kernel_rfl
abbrev TlMap (w : World) (b n : Nat) (D : DataW Unit) : Prop := w.ownsMap Tryz.prog 83 (plainElem Tryz.prog 3) b n D
set_option maxRecDepth 100000 in
theorem look20 {w : World} {b n : Nat} {D : DataW Unit} (h : TlMap w b n D) {key : Value} {kl : Lit} (hkey : keyOf Tryz.prog 83 key = some kl) {c : Int} (hc : D.atKey kl (.lit (.int .i64 0)) = .lit (.int .i64 c)) :
    (Instr.lookup 78 (.map (some b)) key false).run Tryz.prog w = .ok (.int .i64 c) w := by
  obtain ⟨c2, h1, h2, _⟩ := h.lookup_int accLaw Tryz.underlying78 Tryz.underlying3 (zeroI20 w) hkey
  rw [hc] at h2
  injection h2 with h2
  injection h2 with _ h2
  rw [h2]
  exact h1
set_option maxRecDepth 100000 in
theorem only_block (w : World) (b : Nat) (o : Obj) {es : Array MapEntry} {clock : Nat} (hb : w.heap[b]? = some (.map es clock)) : Only b w (setBlock w b o) :=
  ⟨rfl, rfl, rfl, by simp [setBlock], fun i hi => heap_setBlock_other hb _ hi⟩
set_option maxRecDepth 100000 in
theorem entry20 {w : World} {b n : Nat} {D : DataW Unit} (h : TlMap w b n D) (hn : n < maxLen) {key : Value} {kl : Lit} (hkey : keyOf Tryz.prog 83 key = some kl) (hkk : WideAt.IsKeyLit kl) {c : Int} (hc : D.atKey kl (.lit (.int .i64 0)) = .lit (.int .i64 c)) :
    ∃ (v0 : Value) (st : Nat) (W1 : World), (Instr.mapEntry 78 (.map (some b)) key).run Tryz.prog w = .ok (.tuple #[v0, goInt st]) W1 ∧ Only b w W1 ∧
      (Instr.lookup 78 (.map (some b)) key false).run Tryz.prog w = .ok (.int .i64 c) w ∧ (Instr.lookup 78 (.map (some b)) key false).run Tryz.prog W1 = .ok (.int .i64 c) W1 ∧
      ∀ val : Int, (Lit.int .i64 val).wf = true → ∃ W2, (Instr.entryStore 78 (.map (some b)) (goInt st) (.int .i64 val)).run Tryz.prog W1 = .ok () W2 ∧ Only b w W2 ∧ TlMap W2 b (n + 1) (D.put kl (.lit (.int .i64 val))) := by
  have hl := look20 h hkey hc
  have hM := World.ownsMap.isMap h
  have hOW : w.ownsMap Tryz.prog 83 (plainElem Tryz.prog 3) b n D := h
  obtain ⟨es, clock, hb, F, hs, hD⟩ := h
  obtain ⟨v0, st, es1, clock1, hr, _, hst⟩ := WideElems.entry_then_store (H := Unit) (t := 78) accLawK Tryz.underlying78 zeroI20 hb F hkey
  have hsame : (setBlock w b (.map es1 clock1)).heap[b]? = some (.map es1 clock1) := heap_setBlock_same hb _
  refine ⟨v0, st, setBlock w b (.map es1 clock1), hr, only_block w b _ hb, hl, ?_, fun val hv => ?_⟩
  · rcases accLawK.find w hkey es.toList F.keys with ⟨h1, h2⟩ | ⟨j, e0, h1, h2, h3⟩
    · -- the key was not there: the entry holds nothing yet
      have hz0 : (Instr.lookup 78 (.map (some b)) key false).run Tryz.prog w = .ok (.int .i64 0) w := by
        simp [Instr.lookup, MapKept.run_getObj_map hb, run_underlying Tryz.underlying78, accLawK.check w es.isEmpty hkey, h1, Result.andThen]
      have c0 : c = 0 := by
        rw [hl] at hz0
        injection hz0 with hz0
        injection hz0 with _ hz0
      have hw : setBlock w b (.map es1 clock1) = setBlock w b (.map (es.push { key := key, val := .int .i64 0, born := clock }) (clock + 1)) := by
        have h4 : (Instr.mapEntry 78 (.map (some b)) key).run Tryz.prog w = .ok (.tuple #[.int .i64 0, goInt clock]) (setBlock w b (.map (es.push { key := key, val := .int .i64 0, born := clock }) (clock + 1))) := by
          simp [Instr.mapEntry, MapKept.run_getObj_map hb, run_underlying Tryz.underlying78, accLawK.check w false hkey, h1, MapKept.run_setObj_map _ hb, Result.andThen, setBlock]
        rw [hr] at h4
        injection h4
      have hu : (Instr.mapUpdate 78 (.map (some b)) key (.int .i64 0)).run Tryz.prog w = .ok () (setBlock w b (.map es1 clock1)) := by
        rw [hw]
        simp [Instr.mapUpdate, MapKept.run_getObj_map hb, run_underlying Tryz.underlying78, accLawK.check w false hkey, h1, MapKept.run_setObj_map _ hb, Result.andThen, setBlock]
      have hz : (Lit.int .i64 0).wf = true := by decide
      obtain ⟨w', hr', ho', _⟩ := hOW.update accLaw Tryz.underlying78 hn hkey (plainElem_int Tryz.underlying3 hz)
      obtain rfl := (Result.ok.inj (hu.symm.trans hr')).2
      refine look20 ho' hkey ?_
      rw [atKey_put_same hM hkk, c0]
    · have e1 : es1 = es ∧ clock1 = clock := by
        have hj : es[j]? = some e0 := by simpa using h2
        have hm : (es.modify j fun e => { e with key := key }) = es := by
          apply Array.ext
          · simp
          · intro i a1 a2
            rw [Array.getElem_modify]
            split
            · next e =>
              subst e
              have h5 : es[j] = e0 := by rw [Array.getElem?_eq_getElem a2] at hj; injection hj
              rw [h5, ← h3]
            · rfl
        have h4 : (Instr.mapEntry 78 (.map (some b)) key).run Tryz.prog w = .ok (.tuple #[e0.val, goInt e0.born]) (setBlock w b (.map es clock)) := by
          simp [Instr.mapEntry, MapKept.run_getObj_map hb, run_underlying Tryz.underlying78, accLawK.check w false hkey, h1, hj, h3, accLawK.stays w hkey, hm, MapKept.run_setObj_map _ hb, Result.andThen, setBlock]
        rw [hr] at h4
        injection h4 with _ h4
        have h6 := hsame
        rw [h4, heap_setBlock_same hb] at h6
        injection h6 with h6
        injection h6 with h7 h8
        exact ⟨h7.symm, h8.symm⟩
      obtain ⟨rfl, rfl⟩ := e1
      exact look20 ⟨es1, clock1, hsame, F, hs, hD⟩ hkey hc
  · obtain ⟨es', clock', h1, h2⟩ := hst (setBlock w b (.map es1 clock1)) (.int .i64 val) hsame
    obtain ⟨w', hr', ho', _⟩ := hOW.update accLaw Tryz.underlying78 hn hkey (plainElem_int Tryz.underlying3 hv)
    rw [h2] at hr'
    injection hr' with _ hr'
    subst hr'
    refine ⟨setBlock (setBlock w b (.map es1 clock1)) b (.map es' clock'), h1, (only_block w b _ hb).trans (only_block _ b _ hsame), ?_⟩
    have e2 : setBlock (setBlock w b (.map es1 clock1)) b (.map es' clock') = setBlock w b (.map es' clock') := by
      simp [setBlock]
    rw [e2]
    exact ho'
end Go.Proofs.YtbokkeooahodaaaGreatDoor

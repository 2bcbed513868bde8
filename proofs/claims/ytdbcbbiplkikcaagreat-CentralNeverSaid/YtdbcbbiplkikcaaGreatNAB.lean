/-
  A block that holds a row of facts, and what is kept beside it. No statement of the seat is proved here. No conditions.
  Contracts of slices.swapRangeCmpFunc and slices.rotateCmpFunc at facts. No statement of the seat is proved here. Conditions: the ranges lie in the row and do not meet.
  Contracts of the comparison of the tranches and of slices.insertionSortCmpFunc at facts. No statement of the seat is proved here. Conditions: the range lies in the row.
  The contract of slices.symMergeCmpFunc at facts. No statement of the seat is proved here. Conditions: two sorted ranges that lie in the row, one behind the other.
-/
import Derived.Test.YtdbcbbiplkikcaaGreatNAA
import Derived.Test.YtdbcbbiplkikcaaGreatShelf
import Derived.BigRegion
import Derived.Deep.DeepCutAuto
import Derived.Deep.DeepMust
import Derived.Deep.QuietTactic
import Derived.BigQuiet
import Derived.Deep.RegionHeld3
namespace Go.Proofs.YtdbcbbiplkikcaaGreat
open Go.RowKit
set_option linter.unusedVariables false

structure Kp (g : Nat) (a b : World) : Prop where
  os : b.os = a.os
  tape : b.tape = a.tape
  output : b.output = a.output
  size : a.heap.size ≤ b.heap.size
  block : ∀ k, k < a.heap.size → k ≠ g → b.heap[k]? = a.heap[k]?
section
variable {g : Nat} {a b c : World}
theorem Kp.refl (g : Nat) (a : World) : Kp g a a := ⟨rfl, rfl, rfl, Nat.le_refl _, fun _ _ _ => rfl⟩
theorem Kp.trans (h : Kp g a b) (h2 : Kp g b c) : Kp g a c := ⟨h2.os.trans h.os, h2.tape.trans h.tape, h2.output.trans h.output, Nat.le_trans h.size h2.size, fun k hk hg => (h2.block k (Nat.lt_of_lt_of_le hk h.size) hg).trans (h.block k hk hg)⟩
theorem Kp.below (h : Kp g a b) (hB : RowKit.Below b.heap.size b c) : Kp g a c := ⟨hB.os.trans h.os, hB.tape.trans h.tape, hB.output.trans h.output, Nat.le_trans h.size hB.size, fun k hk hg => (hB.block k (Nat.lt_of_lt_of_le hk h.size)).trans (h.block k hk hg)⟩
theorem Kp.alloc (h : Kp g a b) (o : Obj) : Kp g a (b.alloc o) := h.below ((Below.refl _ _).alloc (Nat.le_refl _) _)
theorem Kp.drew (h : Kp g a b) : Kp g a b.drew := ⟨h.os, h.tape, h.output, h.size, h.block⟩
theorem Kp.drewN (h : Kp g a b) (n : Nat) : Kp g a (b.drewN n) := ⟨h.os, h.tape, h.output, h.size, h.block⟩
theorem Kp.put (h : Kp g a b) (o : Nat) (v : Value) : Kp g a (b.setCell ⟨g, o, none⟩ v) :=
  ⟨h.os, h.tape, h.output, by simp [World.setCell]; exact h.size, fun k hk hg => (Below.heap_setCell b ⟨g, o, none⟩ v k hg).trans (h.block k hk hg)⟩
theorem Kp.bl (h : Kp g a b) {k : Nat} {t : TypeId} {cs : Array Value} (hb : Bl a k t cs) (hg : k ≠ g) : Bl b k t cs := (h.block k hb.lt hg).trans hb
theorem Kp.under (h : Kp g a b) {B : Nat} {w : World} (hB : RowKit.Below B w a) (hs : B ≤ a.heap.size) (hg : B ≤ g) : RowKit.Below B w b :=
  hB.trans ⟨h.os, h.tape, h.output, h.size, fun k hk => h.block k (by omega) (by omega)⟩
end
theorem Bl.drew {w : World} {g : Nat} {t : TypeId} {cs : Array Value} (h : Bl w g t cs) : Bl w.drew g t cs := h

def encF (x : Fct) : List Value := [.int .i64 x.num, .int .i64 x.kind, .int .i64 x.day, .int .i64 x.id, .int .i64 x.qty]
theorem encF_len (x : Fct) : (encF x).length = 5 := rfl
theorem encF_one (x : Fct) : ∀ v ∈ encF x, v.oneCell' = true := fun v hv => by
  simp [encF] at hv
  rcases hv with rfl | rfl | rfl | rfl | rfl <;> rfl
def RowF (arr : Array Value) (n : Nat) (f : Nat → Fct) : Prop := ∀ j, j < n → ∀ c, c < 5 → arr[j * 5 + c]? = some ((encF (f j))[c]!)
def putF (arr : Array Value) (i : Nat) (x : Fct) : Array Value := ((((arr.setIfInBounds (i * 5) (.int .i64 x.num)).setIfInBounds (i * 5 + 1) (.int .i64 x.kind)).setIfInBounds (i * 5 + 2) (.int .i64 x.day)).setIfInBounds (i * 5 + 3) (.int .i64 x.id)).setIfInBounds (i * 5 + 4) (.int .i64 x.qty)
theorem RowF.put {arr : Array Value} {m : Nat} {f : Nat → Fct} (h : RowF arr m f) (i : Nat) (x : Fct) (hi : i < m) : RowF (putF arr i x) m (fun j => if j = i then x else f j) := by
  have hs : i * 5 + 4 < arr.size := by
    rcases Nat.lt_or_ge (i * 5 + 4) arr.size with h1 | h1
    · exact h1
    · have := h i hi 4 (by omega)
      rw [Array.getElem?_eq_none h1] at this
      cases this
  intro j hj c hc
  unfold putF
  simp only [Array.getElem?_setIfInBounds, Array.size_setIfInBounds]
  by_cases e : j = i
  · subst e
    have hcc : c = 0 ∨ c = 1 ∨ c = 2 ∨ c = 3 ∨ c = 4 := by omega
    rcases hcc with rfl | rfl | rfl | rfl | rfl
    · rw [if_neg (by omega), if_neg (by omega), if_neg (by omega), if_neg (by omega), if_pos (by omega), if_pos (by omega), if_pos rfl]; rfl
    · rw [if_neg (by omega), if_neg (by omega), if_neg (by omega), if_pos (by omega), if_pos (by omega), if_pos rfl]; rfl
    · rw [if_neg (by omega), if_neg (by omega), if_pos (by omega), if_pos (by omega), if_pos rfl]; rfl
    · rw [if_neg (by omega), if_pos (by omega), if_pos (by omega), if_pos rfl]; rfl
    · rw [if_pos (by omega), if_pos (by omega), if_pos rfl]; rfl
  · rw [if_neg (by omega), if_neg (by omega), if_neg (by omega), if_neg (by omega), if_neg (by omega), if_neg e, h j hj c hc]
theorem putF_size (arr : Array Value) (i : Nat) (x : Fct) : (putF arr i x).size = arr.size := by simp [putF]
def setF (w : World) (g i : Nat) (x : Fct) : World := ((((w.setCell ⟨g, i * 5, none⟩ (.int .i64 x.num)).setCell ⟨g, i * 5 + 1, none⟩ (.int .i64 x.kind)).setCell ⟨g, i * 5 + 2, none⟩ (.int .i64 x.day)).setCell ⟨g, i * 5 + 3, none⟩ (.int .i64 x.id)).setCell ⟨g, i * 5 + 4, none⟩ (.int .i64 x.qty)
theorem Bl.setF {w : World} {g : Nat} {t : TypeId} {arr : Array Value} (h : Bl w g t arr) (i : Nat) (x : Fct) : Bl (setF w g i x) g t (putF arr i x) := ((((h.put _ _).put _ _).put _ _).put _ _).put _ _
theorem Kp.setF {g : Nat} {a b : World} (h : Kp g a b) (i : Nat) (x : Fct) : Kp g a (setF b g i x) := ((((h.put _ _).put _ _).put _ _).put _ _).put _ _
def FRow (w : World) (g n sz : Nat) (f : Nat → Fct) : Prop := ∃ arr, Bl w g 122 arr ∧ arr.size = sz ∧ RowF arr n f
section
variable {w w' : World} {g n sz : Nat} {f : Nat → Fct}
theorem FRow.lt (h : FRow w g n sz f) : g < w.heap.size := h.choose_spec.1.lt
theorem FRow.free (h : FRow w g n sz f) (o : Nat) : w.frozen? ⟨g, o, none⟩ = false := h.choose_spec.1.free o
theorem FRow.keep (h : FRow w g n sz f) (hb : RowKit.Below w.heap.size w w') : FRow w' g n sz f := by
  obtain ⟨arr, h1, h2, h3⟩ := h; exact ⟨arr, h1.keep hb, h2, h3⟩
theorem FRow.drewN (h : FRow w g n sz f) (k : Nat) : FRow (w.drewN k) g n sz f := h
theorem FRow.drew (h : FRow w g n sz f) : FRow w.drew g n sz f := h
theorem FRow.congr (h : FRow w g n sz f) {f' : Nat → Fct} (e : ∀ j, j < n → f' j = f j) : FRow w g n sz f' := by
  obtain ⟨arr, h1, h2, h3⟩ := h; exact ⟨arr, h1, h2, fun j hj c hc => by rw [e j hj]; exact h3 j hj c hc⟩
theorem FRow.cells (h : FRow w g n sz f) {i : Nat} (hi : i < n) : w.cell? ⟨g, i * 5, none⟩ = some (.int .i64 (f i).num) ∧ w.cell? ⟨g, i * 5 + 1, none⟩ = some (.int .i64 (f i).kind) ∧ w.cell? ⟨g, i * 5 + 2, none⟩ = some (.int .i64 (f i).day) ∧ w.cell? ⟨g, i * 5 + 3, none⟩ = some (.int .i64 (f i).id) ∧ w.cell? ⟨g, i * 5 + 4, none⟩ = some (.int .i64 (f i).qty) := by
  obtain ⟨arr, h1, h2, h3⟩ := h
  exact ⟨(h1.cell _).trans (h3 i hi 0 (by omega)), (h1.cell _).trans (h3 i hi 1 (by omega)), (h1.cell _).trans (h3 i hi 2 (by omega)), (h1.cell _).trans (h3 i hi 3 (by omega)), (h1.cell _).trans (h3 i hi 4 (by omega))⟩
theorem FRow.set (h : FRow w g n sz f) (i : Nat) (x : Fct) (hi : i < n) : FRow (setF w g i x) g n sz (fun j => if j = i then x else f j) := by
  obtain ⟨arr, h1, h2, h3⟩ := h; exact ⟨_, h1.setF i x, by rw [putF_size]; exact h2, h3.put i x hi⟩
theorem FRow.swap (h : FRow w g n sz f) (i j : Nat) (hi : i < n) (hj : j < n) (xi xj : Fct) (ei : f i = xi) (ej : f j = xj) : FRow (setF (setF w g i xj) g j xi).drew g n sz (swapF f i j) := by
  subst ei ej
  refine ((h.set i _ hi).set j _ hj).drew.congr fun k hk => ?_
  unfold swapF
  by_cases e1 : k = i
  · by_cases e2 : k = j
    · rw [if_pos e1, if_pos e2, ← e2, e1]
    · rw [if_pos e1, if_neg e2, if_pos e1]
  · rw [if_neg e1]
    by_cases e2 : k = j
    · rw [if_pos e2, if_pos e2]
    · rw [if_neg e2, if_neg e2, if_neg e1]
end
end Go.Proofs.YtdbcbbiplkikcaaGreat

namespace Go.Proofs.YtdbcbbiplkikcaaGreat
open Go.RowKit
set_option linter.unusedVariables false

def RowRes (w : World) (g n sz : Nat) (P : (Nat → Fct) → Prop) (e : Ending) (w' : World) : Prop := e = .returned (.tuple #[]) ∧ ∃ f', P f' ∧ FRow w' g n sz f' ∧ Kp g w w'

set_option maxRecDepth 100000 in
set_option maxHeartbeats 4000000 in
theorem swapRange_any (g n c sz : Nat) (f : Nat → Fct) (a b k : Nat) (fv : Value) (w : World) (h : FRow w g n sz f) (hab : a + k ≤ b) (hb : b + k ≤ n) (hn : n ≤ 1000000) :
    Calls Tryz.prog 352 #[.slice (some ⟨g, 0, none⟩) n c, .int .i64 a, .int .i64 b, .int .i64 k, fv] w (RowRes w g n sz (fun f' => f' = swapR f a b k)) := by
  go_enter Tryz.func352, Tryz.ntmps352
  go_wp2
  go_loopw [10] (fun i wx => ∃ j : Nat, j ≤ k ∧ i = .int .i64 j ∧ FRow wx g n sz (swapR f a b j) ∧ Kp g w wx) (fun i _ => k - (intOf i).toNat)
  case atStart => exact ⟨0, Nat.zero_le _, rfl, by rw [swapR_zero]; exact h, Kp.refl _ _⟩
  case round =>
    clear h
    obtain ⟨j, hj, rfl, hR, hK⟩ := hrel
    by_cases hlt : j < k
    · obtain ⟨p, hp⟩ : ∃ p, a + j = p := ⟨_, rfl⟩
      obtain ⟨q, hq⟩ : ∃ q, b + j = q := ⟨_, rfl⟩
      have HS := Lib.hid (swapR_succ f a b j (by omega))
      rw [hp, hq] at HS
      have u1 : IntKind.i64.wrap ((a : Int) + (j : Int)) = (p : Int) := (IntWalk.i64_in _ (by omega)).trans (by omega)
      have u2 : IntKind.i64.wrap ((b : Int) + (j : Int)) = (q : Int) := (IntWalk.i64_in _ (by omega)).trans (by omega)
      have hpn : p < n := by omega
      have hqn : q < n := by omega
      have hpi : (p : Int) < n := by omega
      have hqi : (q : Int) < n := by omega
      have n1 : p ≠ q := by omega
      have n2 : q ≠ p := by omega
      have n3 : p * 5 ≠ q * 5 := by omega
      have n4 : q * 5 ≠ p * 5 := by omega
      obtain ⟨xp, hxp⟩ : ∃ x, swapR f a b j p = x := ⟨_, rfl⟩
      obtain ⟨xq, hxq⟩ : ∃ x, swapR f a b j q = x := ⟨_, rfl⟩
      obtain ⟨a0, a1, a2, a3, a4⟩ := hR.cells hpn
      obtain ⟨b0, b1, b2, b3, b4⟩ := hR.cells hqn
      rw [hxp] at a0 a1 a2 a3 a4
      rw [hxq] at b0 b1 b2 b3 b4
      have e0 : wr.frozen? ⟨g, p * 5, none⟩ = false := hR.free _
      have e1 : wr.frozen? ⟨g, p * 5 + 1, none⟩ = false := hR.free _
      have e2 : wr.frozen? ⟨g, p * 5 + 2, none⟩ = false := hR.free _
      have e3 : wr.frozen? ⟨g, p * 5 + 3, none⟩ = false := hR.free _
      have e4 : wr.frozen? ⟨g, p * 5 + 4, none⟩ = false := hR.free _
      have f0 : wr.frozen? ⟨g, q * 5, none⟩ = false := hR.free _
      have f1 : wr.frozen? ⟨g, q * 5 + 1, none⟩ = false := hR.free _
      have f2 : wr.frozen? ⟨g, q * 5 + 2, none⟩ = false := hR.free _
      have f3 : wr.frozen? ⟨g, q * 5 + 3, none⟩ = false := hR.free _
      have f4 : wr.frozen? ⟨g, q * 5 + 4, none⟩ = false := hR.free _
      have HR := Lib.hid (hR.swap p q hpn hqn xp xq hxp hxq)
      have HK := Lib.hid ((hK.setF p xq).setF q xp).drew
      clear hxp hxq hR hK hp hq
      go_upto_region 3 with (fail)
      go_region
      have HR2 : Hid (FRow ((((((((((wr.setCell ⟨g, p * 5, none⟩ (.int .i64 xq.num)).setCell ⟨g, p * 5 + 1, none⟩ (.int .i64 xq.kind)).setCell ⟨g, p * 5 + 2, none⟩ (.int .i64 xq.day)).setCell ⟨g, p * 5 + 3, none⟩ (.int .i64 xq.id)).setCell ⟨g, p * 5 + 4, none⟩ (.int .i64 xq.qty)).setCell ⟨g, q * 5, none⟩ (.int .i64 xp.num)).setCell ⟨g, q * 5 + 1, none⟩ (.int .i64 xp.kind)).setCell ⟨g, q * 5 + 2, none⟩ (.int .i64 xp.day)).setCell ⟨g, q * 5 + 3, none⟩ (.int .i64 xp.id)).setCell ⟨g, q * 5 + 4, none⟩ (.int .i64 xp.qty)).drew g n sz (swapF (swapR f a b j) p q)) := HR.out
      have HK2 : Hid (Kp g w ((((((((((wr.setCell ⟨g, p * 5, none⟩ (.int .i64 xq.num)).setCell ⟨g, p * 5 + 1, none⟩ (.int .i64 xq.kind)).setCell ⟨g, p * 5 + 2, none⟩ (.int .i64 xq.day)).setCell ⟨g, p * 5 + 3, none⟩ (.int .i64 xq.id)).setCell ⟨g, p * 5 + 4, none⟩ (.int .i64 xq.qty)).setCell ⟨g, q * 5, none⟩ (.int .i64 xp.num)).setCell ⟨g, q * 5 + 1, none⟩ (.int .i64 xp.kind)).setCell ⟨g, q * 5 + 2, none⟩ (.int .i64 xp.day)).setCell ⟨g, q * 5 + 3, none⟩ (.int .i64 xp.id)).setCell ⟨g, q * 5 + 4, none⟩ (.int .i64 xp.qty)).drew) := HK.out
      generalize ((((((((((wr.setCell ⟨g, p * 5, none⟩ (.int .i64 xq.num)).setCell ⟨g, p * 5 + 1, none⟩ (.int .i64 xq.kind)).setCell ⟨g, p * 5 + 2, none⟩ (.int .i64 xq.day)).setCell ⟨g, p * 5 + 3, none⟩ (.int .i64 xq.id)).setCell ⟨g, p * 5 + 4, none⟩ (.int .i64 xq.qty)).setCell ⟨g, q * 5, none⟩ (.int .i64 xp.num)).setCell ⟨g, q * 5 + 1, none⟩ (.int .i64 xp.kind)).setCell ⟨g, q * 5 + 2, none⟩ (.int .i64 xp.day)).setCell ⟨g, q * 5 + 3, none⟩ (.int .i64 xp.id)).setCell ⟨g, q * 5 + 4, none⟩ (.int .i64 xp.qty)).drew = W11 at *
      clear HR HK a0 a1 a2 a3 a4 b0 b1 b2 b3 b4 e0 e1 e2 e3 e4 f0 f1 f2 f3 f4 u1 u2
      go_wp2_with fail
      go_roundw
      case rel => exact ⟨j + 1, by omega, by go_num, by rw [HS.out]; exact HR2.out, HK2.out⟩
      case measure => simp [intOf]; omega
    · obtain rfl : k = j := by omega
      go_wp2
      go_end0
      exact ⟨rfl, _, rfl, hR, hK⟩
theorem swapRange_int (g n c sz : Nat) (f : Nat → Fct) (a b k : Nat) (ai bi ki : Int) (ea : ai = a) (eb : bi = b) (ek : ki = k) (fv : Value) (w : World) (h : FRow w g n sz f) (hab : a + k ≤ b) (hb : b + k ≤ n) (hn : n ≤ 1000000) :
    Calls Tryz.prog 352 #[.slice (some ⟨g, 0, none⟩) n c, .int .i64 ai, .int .i64 bi, .int .i64 ki, fv] w (RowRes w g n sz (fun f' => f' = swapR f a b k)) := by
  subst ea eb ek
  exact swapRange_any g n c sz f a b k fv w h hab hb hn
theorem swapR_swaps (f : Nat → Fct) (a b k lo hi : Nat) (h : a + k ≤ b) (hl : lo ≤ a) (hh : b + k ≤ hi) : Swaps lo hi f (swapR f a b k) := by
  induction k with
  | zero => rw [swapR_zero]; exact .refl
  | succ k ih => rw [swapR_succ f a b k (by omega)]; exact .step _ _ (ih (by omega) (by omega)) (by omega) (by omega) (by omega) (by omega)

set_option maxRecDepth 100000 in
set_option maxHeartbeats 4000000 in
theorem rotate_any (g n c sz : Nat) (f : Nat → Fct) (a m b : Nat) (fv : Value) (w : World) (h : FRow w g n sz f) (ham : a < m) (hmb : m < b) (hb : b ≤ n) (hn : n ≤ 1000000) :
    Calls Tryz.prog 324 #[.slice (some ⟨g, 0, none⟩) n c, .int .i64 a, .int .i64 m, .int .i64 b, fv] w (RowRes w g n sz (fun f' => f' = rotF f a m b ∧ Swaps a b f f')) := by
  have HE : Hid (a = m - (m - a) ∧ b = m + (b - m)) := ⟨by omega, by omega⟩
  go_enter Tryz.func324, Tryz.ntmps324
  go_wp2
  go_loopw [10, 11] (fun i j wx => ∃ (I J : Nat) (f' : Nat → Fct), i = .int .i64 I ∧ j = .int .i64 J ∧ 0 < I ∧ 0 < J ∧ I ≤ m - a ∧ J ≤ b - m ∧ Hid (rotF f' (m - I) m (m + J) = rotF f a m b) ∧ Hid (Swaps a b f f') ∧ FRow wx g n sz f' ∧ Kp g w wx) (fun i j _ => (intOf i).toNat + (intOf j).toNat)
  case atStart => exact ⟨m - a, b - m, f, by congr 1; omega, by congr 1; omega, by omega, by omega, Nat.le_refl _, Nat.le_refl _, by show rotF _ _ _ _ = _; rw [← HE.out.1, ← HE.out.2], .refl, h, Kp.refl _ _⟩
  case round =>
    clear h HE
    obtain ⟨I, J, f1, rfl, rfl, hI, hJ, hIa, hJb, HRT, HSW, hR, hK⟩ := hrel
    rcases Nat.lt_trichotomy I J with hc | hc | hc
    · have b1 : ((I : Int) != (J : Int)) = true := by simp; omega
      have HS := Lib.hid (fun x y => swapRange_int g n c sz f1 (m - I) (m + J - I) I ((m : Int) - I) x I (by omega) y rfl fv wr hR (by omega) (by omega) hn)
      have HQ := Lib.hid (rot_lt f1 m I J (by omega) hc)
      have HW := Lib.hid (swapR_swaps f1 (m - I) (m + J - I) I a b (by omega) (by omega) (by omega))
      clear hR
      go_wp2_with fail
      refine (HS.out _ (by omega)).mono ?_
      rintro e w1 ⟨rfl, f2, rfl, hR2, hK2⟩
      clear HS
      go_wp2_with fail
      go_roundw
      case rel => exact ⟨I, J - I, _, rfl, by congr 1; omega, hI, by omega, hIa, by omega, by show rotF _ _ _ _ = _; rw [HQ.out, HRT.out], HSW.out.trans HW.out, hR2, hK.trans hK2⟩
      case measure => simp [intOf]; omega
    · subst hc
      have b1 : ((I : Int) != (I : Int)) = false := by simp
      have HS := Lib.hid (swapRange_int g n c sz f1 (m - I) m I ((m : Int) - I) m I (by omega) rfl rfl fv wr hR (by omega) (by omega) hn)
      have HQ := Lib.hid (rot_eq f1 m I (by omega))
      have HW := Lib.hid (swapR_swaps f1 (m - I) m I a b (by omega) (by omega) (by omega))
      clear hR
      go_wp2_with fail
      refine HS.out.mono ?_
      rintro e w1 ⟨rfl, f2, rfl, hR2, hK2⟩
      clear HS
      go_wp2
      go_end0
      exact ⟨rfl, _, ⟨by rw [HQ.out, HRT.out], HSW.out.trans HW.out⟩, hR2, hK.trans hK2⟩
    · have b1 : ((I : Int) != (J : Int)) = true := by simp; omega
      have HS := Lib.hid (swapRange_int g n c sz f1 (m - I) m J ((m : Int) - I) m J (by omega) rfl rfl fv wr hR (by omega) (by omega) hn)
      have HQ := Lib.hid (rot_gt f1 m I J (by omega) hc)
      have HW := Lib.hid (swapR_swaps f1 (m - I) m J a b (by omega) (by omega) (by omega))
      clear hR
      go_wp2_with fail
      refine HS.out.mono ?_
      rintro e w1 ⟨rfl, f2, rfl, hR2, hK2⟩
      clear HS
      go_wp2_with fail
      go_roundw
      case rel => exact ⟨I - J, J, _, by congr 1; omega, rfl, by omega, hJ, by omega, hJb, by show rotF _ _ _ _ = _; rw [HQ.out, HRT.out], HSW.out.trans HW.out, hR2, hK.trans hK2⟩
      case measure => simp [intOf]; omega
end Go.Proofs.YtdbcbbiplkikcaaGreat

namespace Go.Proofs.YtdbcbbiplkikcaaGreat
open Go.RowKit
set_option linter.unusedVariables false

def CmpSays (x y : Fct) (w : World) (e : Ending) (w' : World) : Prop := (∃ r : Int, e = .returned (.int .i64 r) ∧ (x.day < y.day → r = -1) ∧ (y.day ≤ x.day → 0 ≤ r)) ∧ RowKit.Below w.heap.size w w'
theorem compareInt_says (x y : Int) : (x < y → Lib.compareInt x y = -1) ∧ (y ≤ x → 0 ≤ Lib.compareInt x y) := by
  unfold Lib.compareInt
  constructor
  · intro h; rw [if_pos h]
  · intro h; rw [if_neg (by omega)]; split <;> omega

set_option maxRecDepth 100000 in
set_option maxHeartbeats 1000000 in
theorem cmpDay_any (x y : Fct) (w : World) : Calls Tryz.prog 189 #[.agg #[.int .i64 x.num, .int .i64 x.kind, .int .i64 x.day, .int .i64 x.id, .int .i64 x.qty], .agg #[.int .i64 y.num, .int .i64 y.kind, .int .i64 y.day, .int .i64 y.id, .int .i64 y.qty]] w (CmpSays x y w) := by
  have HC := Lib.hid (fun w => Tryz.cmp_Compare_int x.day y.day w)
  have HS := Lib.hid (compareInt_says x.day y.day)
  generalize Lib.compareInt x.day y.day = r at *
  go_enter Tryz.func189, Tryz.ntmps189
  go_wp2_with fail
  refine (HC.out _).mono ?_
  rintro e w1 ⟨rfl, rfl⟩
  go_wp2
  go_ret
  exact ⟨⟨r, rfl, HS.out⟩, ((Below.refl _ _).alloc (Nat.le_refl _) _).alloc (by simp) _⟩
theorem cmp_test {x y r : Int} (h : (x < y → r = -1) ∧ (y ≤ x → 0 ≤ r)) : decide (r < 0) = decide (x < y) := by
  by_cases e : x < y
  · rw [h.1 e, decide_eq_true e]; rfl
  · rw [decide_eq_false e]; have := h.2 (by omega); simp; omega
theorem cmpDay_over (x y : Fct) (w wx : World) (hb : RowKit.Below w.heap.size w wx) : Calls Tryz.prog 189 #[.agg #[.int .i64 x.num, .int .i64 x.kind, .int .i64 x.day, .int .i64 x.id, .int .i64 x.qty], .agg #[.int .i64 y.num, .int .i64 y.kind, .int .i64 y.day, .int .i64 y.id, .int .i64 y.qty]] wx (CmpSays x y w) :=
  (cmpDay_any x y wx).mono fun e w' ⟨h1, h2⟩ => ⟨h1, hb.trans (h2.mono hb.size)⟩
theorem cells_over {w w' : World} {g n sz : Nat} {f : Nat → Fct} (h : FRow w g n sz f) (hb : RowKit.Below w.heap.size w w') {i : Nat} (hi : i < n) : w'.cell? ⟨g, i * 5, none⟩ = some (.int .i64 (f i).num) ∧ w'.cell? ⟨g, i * 5 + 1, none⟩ = some (.int .i64 (f i).kind) ∧ w'.cell? ⟨g, i * 5 + 2, none⟩ = some (.int .i64 (f i).day) ∧ w'.cell? ⟨g, i * 5 + 3, none⟩ = some (.int .i64 (f i).id) ∧ w'.cell? ⟨g, i * 5 + 4, none⟩ = some (.int .i64 (f i).qty) := (h.keep hb).cells hi

def Sorts (w : World) (g n sz a b : Nat) (f : Nat → Fct) (e : Ending) (w' : World) : Prop := e = .returned (.tuple #[]) ∧ ∃ f', Srt a b f' ∧ Swaps a b f f' ∧ FRow w' g n sz f' ∧ Kp g w w'

set_option maxRecDepth 100000 in
set_option maxHeartbeats 4000000 in
theorem insSort_any (g n c sz : Nat) (f : Nat → Fct) (a b : Nat) (w : World) (h : FRow w g n sz f) (hab : a ≤ b) (hb : b ≤ n) (hn : n ≤ 1000000) :
    Calls Tryz.prog 266 #[.slice (some ⟨g, 0, none⟩) n c, .int .i64 a, .int .i64 b, .func (.func 189) #[] #[]] w (Sorts w g n sz a b f) := by
  go_enter Tryz.func266, Tryz.ntmps266
  go_wp2
  go_loopw [8] (fun i wx => ∃ (I : Nat) (f' : Nat → Fct), i = .int .i64 I ∧ a + 1 ≤ I ∧ (I ≤ b ∨ I = a + 1) ∧ Hid (Srt a I f') ∧ Hid (Swaps a b f f') ∧ FRow wx g n sz f' ∧ Kp g w wx) (fun i _ => b - (intOf i).toNat)
  case atStart => exact ⟨a + 1, f, by go_num, by omega, .inr rfl, Srt.one (by omega), .refl, h, Kp.refl _ _⟩
  case round =>
    clear h
    obtain ⟨I, f1, rfl, hI1, hI2, HS1, HW1, hR1, hK1⟩ := hrel
    by_cases hIb : I < b
    · clear hI2
      go_wp2_with fail
      go_loopw [9] (fun j wx => ∃ (J : Nat) (f' : Nat → Fct), j = .int .i64 J ∧ a ≤ J ∧ J ≤ I ∧ Hid (Ins a I J f') ∧ Hid (Swaps a b f f') ∧ FRow wx g n sz f' ∧ Kp g w wx) (fun j _ => (intOf j).toNat)
      case atStart => exact ⟨I, f1, rfl, by omega, Nat.le_refl _, Ins.start HS1.out, HW1, hR1, hK1⟩
      case round =>
        clear HS1 HW1 hR1 hK1
        obtain ⟨J, f2, rfl, hJ1, hJ2, HI, HW, hR, hK⟩ := hrel
        by_cases hJa : a < J
        · obtain ⟨p, hp⟩ : ∃ p, J - 1 = p := ⟨_, rfl⟩
          have u1 : IntKind.i64.wrap ((J : Int) - 1) = (p : Int) := (IntWalk.i64_in _ (by omega)).trans (by omega)
          have hJn : J < n := by omega
          have hpn : p < n := by omega
          have hJi : (J : Int) < n := by omega
          have hpi : (p : Int) < n := by omega
          have HT := Lib.hid (HI.out.step hJa hJ2)
          have HD := Lib.hid (fun h => HI.out.done hJ2 (.inr h) hJ1)
          rw [hp] at HT HD
          obtain ⟨xj, hxj⟩ : ∃ x, f2 J = x := ⟨_, rfl⟩
          obtain ⟨xp, hxp⟩ : ∃ x, f2 p = x := ⟨_, rfl⟩
          rw [hxj, hxp] at HT HD
          have HCJ := Lib.hid (fun w' hb => cells_over (w' := w') hR hb hJn)
          have HCP := Lib.hid (fun w' hb => cells_over (w' := w') hR hb hpn)
          rw [hxj] at HCJ
          rw [hxp] at HCP
          obtain ⟨a0, a1, a2, a3, a4⟩ := hR.cells hJn
          obtain ⟨b0, b1, b2, b3, b4⟩ := hR.cells hpn
          rw [hxj] at a0 a1 a2 a3 a4
          rw [hxp] at b0 b1 b2 b3 b4
          have HXJ := Lib.hid hxj
          have HXP := Lib.hid hxp
          have HCM : Hid (∀ wx, RowKit.Below wr.heap.size wr wx → Calls Tryz.prog 189 #[.agg #[.int .i64 xj.num, .int .i64 xj.kind, .int .i64 xj.day, .int .i64 xj.id, .int .i64 xj.qty], .agg #[.int .i64 xp.num, .int .i64 xp.kind, .int .i64 xp.day, .int .i64 xp.id, .int .i64 xp.qty]] wx (fun e w' => (∃ r : Int, e = .returned (.int .i64 r) ∧ (xj.day < xp.day → r = -1) ∧ (xp.day ≤ xj.day → 0 ≤ r)) ∧ RowKit.Below wr.heap.size wr w')) := fun wx hb => cmpDay_over xj xp wr wx hb
          have HB0 : Hid (RowKit.Below wr.heap.size wr wr.drew) := (Below.refl _ _).drew
          have HRR := Lib.hid hR
          have hp1 : p + 1 ≤ J := by omega
          have hp2 : J ≤ p + 1 := by omega
          clear hp hxj hxp HI hR
          go_upto_region 4 with (fail)
          obtain ⟨bb, hbb⟩ : ∃ b, decide (xj.day < xp.day) = b := ⟨_, rfl⟩
          have HBB := Lib.hid (fun r h => (cmp_test (r := r) h).trans hbb)
          have HBD := Lib.hid hbb
          clear hbb
          go_cut [34] (fun v wx => v = .bool bb ∧ RowKit.Below wr.heap.size wr wx)
          case first =>
            go_region_held3 (fun w' => w'.cell? ⟨g, J * 5, none⟩ = some (.int .i64 xj.num) ∧ w'.cell? ⟨g, J * 5 + 1, none⟩ = some (.int .i64 xj.kind) ∧ w'.cell? ⟨g, J * 5 + 2, none⟩ = some (.int .i64 xj.day) ∧ w'.cell? ⟨g, J * 5 + 3, none⟩ = some (.int .i64 xj.id) ∧ w'.cell? ⟨g, J * 5 + 4, none⟩ = some (.int .i64 xj.qty) ∧ w'.cell? ⟨g, p * 5, none⟩ = some (.int .i64 xp.num) ∧ w'.cell? ⟨g, p * 5 + 1, none⟩ = some (.int .i64 xp.kind) ∧ w'.cell? ⟨g, p * 5 + 2, none⟩ = some (.int .i64 xp.day) ∧ w'.cell? ⟨g, p * 5 + 3, none⟩ = some (.int .i64 xp.id) ∧ w'.cell? ⟨g, p * 5 + 4, none⟩ = some (.int .i64 xp.qty))
              (first
                | go_keep
                | exact ⟨(HCJ.out _ hb5.out).1, (HCJ.out _ hb5.out).2.1, (HCJ.out _ hb5.out).2.2.1, (HCJ.out _ hb5.out).2.2.2.1, (HCJ.out _ hb5.out).2.2.2.2, (HCP.out _ hb5.out).1, (HCP.out _ hb5.out).2.1, (HCP.out _ hb5.out).2.2.1, (HCP.out _ hb5.out).2.2.2.1, (HCP.out _ hb5.out).2.2.2.2⟩)
              (first
                | (go_at_call 189; with_reducible (refine (HCM.out _ ?_).mono ?_); with_reducible (first | exact HB0.out | exact hb5.out); rintro e w5 ⟨⟨r, rfl, hr'⟩, hb5'⟩; have hb5 := Lib.hid hb5'; have hr := Lib.hid hr'; clear hb5' hr'))
            all_goals (go_wp2_with fail; go_meet; exact ⟨by rw [HBB.out r hr.out], hb5.out⟩)
          case rest =>
            obtain ⟨rfl, hb5⟩ := hcut
            have hR5 := HRR.out.keep hb5
            have hK5 := hK.below hb5
            clear a0 a1 a2 a3 a4 b0 b1 b2 b3 b4 HCJ HCP HCM HB0 HRR hK hb5
            cases bb
            case true =>
              have HT2 := Lib.hid (HT.out (of_decide_eq_true HBD.out))
              have HW2 : Hid (Swaps a b f (swapF f2 J p)) := .step _ _ HW.out (by omega) (by omega) (by omega) (by omega)
              clear HT HD HBD HBB
              have n1 : J ≠ p := by omega
              have n2 : p ≠ J := by omega
              have n3 : J * 5 ≠ p * 5 := by omega
              have n4 : p * 5 ≠ J * 5 := by omega
              obtain ⟨a0, a1, a2, a3, a4⟩ := hR5.cells hJn
              obtain ⟨b0, b1, b2, b3, b4⟩ := hR5.cells hpn
              rw [HXJ.out] at a0 a1 a2 a3 a4
              rw [HXP.out] at b0 b1 b2 b3 b4
              have e0 : wc.frozen? ⟨g, J * 5, none⟩ = false := hR5.free _
              have e1 : wc.frozen? ⟨g, J * 5 + 1, none⟩ = false := hR5.free _
              have e2 : wc.frozen? ⟨g, J * 5 + 2, none⟩ = false := hR5.free _
              have e3 : wc.frozen? ⟨g, J * 5 + 3, none⟩ = false := hR5.free _
              have e4 : wc.frozen? ⟨g, J * 5 + 4, none⟩ = false := hR5.free _
              have fz0 : wc.frozen? ⟨g, p * 5, none⟩ = false := hR5.free _
              have fz1 : wc.frozen? ⟨g, p * 5 + 1, none⟩ = false := hR5.free _
              have fz2 : wc.frozen? ⟨g, p * 5 + 2, none⟩ = false := hR5.free _
              have fz3 : wc.frozen? ⟨g, p * 5 + 3, none⟩ = false := hR5.free _
              have fz4 : wc.frozen? ⟨g, p * 5 + 4, none⟩ = false := hR5.free _
              have HR2 : Hid (FRow ((((((((((wc.setCell ⟨g, J * 5, none⟩ (.int .i64 xp.num)).setCell ⟨g, J * 5 + 1, none⟩ (.int .i64 xp.kind)).setCell ⟨g, J * 5 + 2, none⟩ (.int .i64 xp.day)).setCell ⟨g, J * 5 + 3, none⟩ (.int .i64 xp.id)).setCell ⟨g, J * 5 + 4, none⟩ (.int .i64 xp.qty)).setCell ⟨g, p * 5, none⟩ (.int .i64 xj.num)).setCell ⟨g, p * 5 + 1, none⟩ (.int .i64 xj.kind)).setCell ⟨g, p * 5 + 2, none⟩ (.int .i64 xj.day)).setCell ⟨g, p * 5 + 3, none⟩ (.int .i64 xj.id)).setCell ⟨g, p * 5 + 4, none⟩ (.int .i64 xj.qty)).drew g n sz (swapF f2 J p)) := hR5.swap J p hJn hpn xj xp HXJ.out HXP.out
              have HK2 : Hid (Kp g w ((((((((((wc.setCell ⟨g, J * 5, none⟩ (.int .i64 xp.num)).setCell ⟨g, J * 5 + 1, none⟩ (.int .i64 xp.kind)).setCell ⟨g, J * 5 + 2, none⟩ (.int .i64 xp.day)).setCell ⟨g, J * 5 + 3, none⟩ (.int .i64 xp.id)).setCell ⟨g, J * 5 + 4, none⟩ (.int .i64 xp.qty)).setCell ⟨g, p * 5, none⟩ (.int .i64 xj.num)).setCell ⟨g, p * 5 + 1, none⟩ (.int .i64 xj.kind)).setCell ⟨g, p * 5 + 2, none⟩ (.int .i64 xj.day)).setCell ⟨g, p * 5 + 3, none⟩ (.int .i64 xj.id)).setCell ⟨g, p * 5 + 4, none⟩ (.int .i64 xj.qty)).drew) := ((hK5.setF J xp).setF p xj).drew
              clear hR5 hK5
              go_upto_region 6 with (fail)
              go_region
              generalize ((((((((((wc.setCell ⟨g, J * 5, none⟩ (.int .i64 xp.num)).setCell ⟨g, J * 5 + 1, none⟩ (.int .i64 xp.kind)).setCell ⟨g, J * 5 + 2, none⟩ (.int .i64 xp.day)).setCell ⟨g, J * 5 + 3, none⟩ (.int .i64 xp.id)).setCell ⟨g, J * 5 + 4, none⟩ (.int .i64 xp.qty)).setCell ⟨g, p * 5, none⟩ (.int .i64 xj.num)).setCell ⟨g, p * 5 + 1, none⟩ (.int .i64 xj.kind)).setCell ⟨g, p * 5 + 2, none⟩ (.int .i64 xj.day)).setCell ⟨g, p * 5 + 3, none⟩ (.int .i64 xj.id)).setCell ⟨g, p * 5 + 4, none⟩ (.int .i64 xj.qty)).drew = W11 at *
              clear a0 a1 a2 a3 a4 b0 b1 b2 b3 b4 e0 e1 e2 e3 e4 fz0 fz1 fz2 fz3 fz4 u1
              go_wp2_with fail
              go_roundw
              case rel => exact ⟨p, _, by congr 1; omega, by omega, by omega, HT2, HW2, HR2.out, HK2.out⟩
              case measure => simp [intOf]; omega
            case false =>
              have HD2 := Lib.hid (HD.out (of_decide_eq_false HBD.out))
              clear HT HD HBD HBB
              go_wp2_with fail
              go_roundw
              case rel => exact ⟨I + 1, f2, by go_num, by omega, .inl (by omega), HD2, HW, hR5, hK5⟩
              case measure => simp [intOf]; omega
        · have hd : decide ((a : Int) < (J : Int)) = false := by simp; omega
          have hd2 : decide (a < J) = false := by simp; omega
          have HD2 := Lib.hid (HI.out.done hJ2 (.inl (by omega)) hJ1)
          clear hJa
          go_upto_region 4 with (fail)
          go_quiet (fail)
          go_wp2_with fail
          go_roundw
          case rel => exact ⟨I + 1, f2, by go_num, by omega, .inl (by omega), HD2, HW, hR.drewN _, hK.drewN _⟩
          case measure => simp [intOf]; omega
    · have HS2 := Lib.hid (HS1.out.mono (Nat.le_refl _) (show b ≤ I by omega))
      go_wp2
      go_end0
      exact ⟨rfl, f1, HS2.out, HW1.out, hR1, hK1⟩
end Go.Proofs.YtdbcbbiplkikcaaGreat

namespace Go.Proofs.YtdbcbbiplkikcaaGreat
open Go.RowKit
set_option linter.unusedVariables false

theorem mvR_swaps (f : Nat → Fct) (a e lo hi : Nat) (hl : lo ≤ a) (h : a ≤ e) (hh : e < hi) : Swaps lo hi f (mvR f a e) := by
  induction e with
  | zero => obtain rfl : a = 0 := by omega
            rw [mvR_zero]; exact .refl
  | succ e ih =>
    by_cases x : a ≤ e
    · rw [← mvR_succ f a e x]; exact .step _ _ (ih x (by omega)) (by omega) (by omega) (by omega) (by omega)
    · obtain rfl : a = e + 1 := by omega
      rw [mvR_zero]; exact .refl
theorem mvL_swaps (f : Nat → Fct) (m k lo hi : Nat) (hk : k ≤ m) (hl : lo ≤ m - k) (hh : m < hi) : Swaps lo hi f (mvL f m (m - k)) := by
  induction k with
  | zero => rw [Nat.sub_zero, mvL_zero]; exact .refl
  | succ k ih =>
    have e : m - (k + 1) = m - k - 1 := by omega
    rw [e, ← mvL_succ f m (m - k) (by omega) (by omega)]
    exact .step _ _ (ih (by omega) (by omega)) (by omega) (by omega) (by omega) (by omega)
set_option maxRecDepth 100000 in
set_option maxHeartbeats 8000000 in
theorem symMerge_one (g n c sz : Nat) (f : Nat → Fct) (a m b : Nat) (w : World) (h : FRow w g n sz f) (ham : a + 1 = m) (hmb : m < b) (hb : b ≤ n) (hn : n ≤ 1000000) (hs : Srt m b f) :
    Calls Tryz.prog 267 #[.slice (some ⟨g, 0, none⟩) n c, .int .i64 a, .int .i64 m, .int .i64 b, .func (.func 189) #[] #[]] w (Sorts w g n sz a b f) := by
  have HSR := Lib.hid hs
  have ham1 : a + 1 ≤ m := by omega
  have ham2 : m ≤ a + 1 := by omega
  have b1 : ((m : Int) - (a : Int) == 1) = true := by simp; omega
  clear hs ham
  go_enter Tryz.func267, Tryz.ntmps267
  go_wp2
  go_loopw [10, 11] (fun i j wx => ∃ I J : Nat, i = .int .i64 I ∧ j = .int .i64 J ∧ m ≤ I ∧ I ≤ J ∧ J ≤ b ∧ Hid (∀ q, a + 1 ≤ q → q < I → (f q).day < (f a).day) ∧ Hid (∀ q, J ≤ q → q < b → (f a).day ≤ (f q).day) ∧ FRow wx g n sz f ∧ Kp g w wx) (fun i j _ => (intOf j).toNat - (intOf i).toNat)
  case atStart => exact ⟨m, b, rfl, rfl, Nat.le_refl _, by omega, Nat.le_refl _, fun q h1 h2 => by omega, fun q h1 h2 => by omega, h, Kp.refl _ _⟩
  case round =>
    clear h
    obtain ⟨I, J, rfl, rfl, hI, hIJ, hJ, HA, HB, hR, hK⟩ := hrel
    by_cases hlt : I < J
    · go_upto_region 5 with (fail)
      obtain ⟨H, hH⟩ : ∃ q : Nat, ((I : Int) + (J : Int)) / 2 = (q : Int) := ⟨(I + J) / 2, by omega⟩
      have hH1 : I ≤ H := by omega
      have hH2 : H < J := by omega
      rw [hH]
      clear hH
      have hPn : H < n := by omega
      have hQn : a < n := by omega
      have hPi : (H : Int) < n := by omega
      have hQi : (a : Int) < n := by omega
      obtain ⟨xP, hxP⟩ : ∃ x, f H = x := ⟨_, rfl⟩
      obtain ⟨xQ, hxQ⟩ : ∃ x, f a = x := ⟨_, rfl⟩
      have HCJ := Lib.hid (fun w' hb => cells_over (w' := w') hR hb hPn)
      have HCP := Lib.hid (fun w' hb => cells_over (w' := w') hR hb hQn)
      rw [hxP] at HCJ
      rw [hxQ] at HCP
      obtain ⟨a0, a1, a2, a3, a4⟩ := hR.cells hPn
      obtain ⟨b0, b1, b2, b3, b4⟩ := hR.cells hQn
      rw [hxP] at a0 a1 a2 a3 a4
      rw [hxQ] at b0 b1 b2 b3 b4
      have HCM : Hid (∀ wx, RowKit.Below wr.heap.size wr wx → Calls Tryz.prog 189 #[.agg #[.int .i64 xP.num, .int .i64 xP.kind, .int .i64 xP.day, .int .i64 xP.id, .int .i64 xP.qty], .agg #[.int .i64 xQ.num, .int .i64 xQ.kind, .int .i64 xQ.day, .int .i64 xQ.id, .int .i64 xQ.qty]] wx (fun e w' => (∃ r : Int, e = .returned (.int .i64 r) ∧ (xP.day < xQ.day → r = -1) ∧ (xQ.day ≤ xP.day → 0 ≤ r)) ∧ RowKit.Below wr.heap.size wr w')) := fun wx hb => cmpDay_over xP xQ wr wx hb
      have HB0 : Hid (RowKit.Below wr.heap.size wr wr.drew) := (Below.refl _ _).drew
      have HRR := Lib.hid hR
      have HKK := Lib.hid hK
      obtain ⟨bb, hbb⟩ : ∃ b, decide ((f H).day < (f a).day) = b := ⟨_, rfl⟩
      have HBD := Lib.hid hbb
      rw [hxP, hxQ] at hbb
      have HBB := Lib.hid (fun r h => (cmp_test (r := r) h).trans hbb)
      clear hbb hxP hxQ hR hK
      go_cut [50] (fun v wx => v = .bool bb ∧ RowKit.Below wr.heap.size wr wx)
      case first =>
        go_region_held3 (fun w' => w'.cell? ⟨g, H * 5, none⟩ = some (.int .i64 xP.num) ∧ w'.cell? ⟨g, H * 5 + 1, none⟩ = some (.int .i64 xP.kind) ∧ w'.cell? ⟨g, H * 5 + 2, none⟩ = some (.int .i64 xP.day) ∧ w'.cell? ⟨g, H * 5 + 3, none⟩ = some (.int .i64 xP.id) ∧ w'.cell? ⟨g, H * 5 + 4, none⟩ = some (.int .i64 xP.qty) ∧ w'.cell? ⟨g, a * 5, none⟩ = some (.int .i64 xQ.num) ∧ w'.cell? ⟨g, a * 5 + 1, none⟩ = some (.int .i64 xQ.kind) ∧ w'.cell? ⟨g, a * 5 + 2, none⟩ = some (.int .i64 xQ.day) ∧ w'.cell? ⟨g, a * 5 + 3, none⟩ = some (.int .i64 xQ.id) ∧ w'.cell? ⟨g, a * 5 + 4, none⟩ = some (.int .i64 xQ.qty))
          (first
            | go_keep
            | exact ⟨(HCJ.out _ hb5.out).1, (HCJ.out _ hb5.out).2.1, (HCJ.out _ hb5.out).2.2.1, (HCJ.out _ hb5.out).2.2.2.1, (HCJ.out _ hb5.out).2.2.2.2, (HCP.out _ hb5.out).1, (HCP.out _ hb5.out).2.1, (HCP.out _ hb5.out).2.2.1, (HCP.out _ hb5.out).2.2.2.1, (HCP.out _ hb5.out).2.2.2.2⟩)
          (first
            | (go_at_call 189; with_reducible (refine (HCM.out _ ?_).mono ?_); with_reducible (first | exact HB0.out | exact hb5.out); rintro e w5 ⟨⟨r, rfl, hr'⟩, hb5'⟩; have hb5 := Lib.hid hb5'; have hr := Lib.hid hr'; clear hb5' hr'))
        all_goals (go_wp2_with fail; go_meet; exact ⟨by rw [HBB.out r hr.out], hb5.out⟩)
      case rest =>
        obtain ⟨rfl, hb5⟩ := hcut
        have hR5 := HRR.out.keep hb5
        have hK5 := HKK.out.below hb5
        clear a0 a1 a2 a3 a4 b0 b1 b2 b3 b4 HCJ HCP HCM HB0 HRR HKK hb5 HBB
        cases bb
        case true =>
          have HA2 : Hid (∀ q, a + 1 ≤ q → q < H + 1 → (f q).day < (f a).day) := fun q h1 h2 => by
            have k1 := of_decide_eq_true HBD.out
            have k2 := HSR.out.le (i := q) (j := H) (by omega) (by omega) (by omega)
            omega
          clear HBD HA
          go_wp2_with fail
          go_roundw
          case rel => exact ⟨H + 1, J, by go_num, rfl, by omega, by omega, hJ, HA2, HB, hR5, hK5⟩
          case measure => simp [intOf]; omega
        case false =>
          have HB2 : Hid (∀ q, H ≤ q → q < b → (f a).day ≤ (f q).day) := fun q h1 h2 => by
            have k1 := of_decide_eq_false HBD.out
            have k2 := HSR.out.le (i := H) (j := q) (by omega) (by omega) (by omega)
            omega
          clear HBD HB
          go_wp2_with fail
          go_roundw
          case rel => exact ⟨I, H, rfl, rfl, by omega, by omega, by omega, HA, HB2, hR5, hK5⟩
          case measure => simp [intOf]; omega
    · obtain rfl : I = J := by omega
      have HSS := Lib.hid (mvR_srt (a := a) (b := b) (i := I) (HSR.out.mono (by omega) (Nat.le_refl _)) (by omega) (by omega) HA.out HB.out)
      have HWW := Lib.hid (mvR_swaps f a (I - 1) a b (Nat.le_refl _) (by omega) (by omega))
      clear HA HB
      go_wp2_with fail
      go_loopw [13] (fun k wx => ∃ K : Nat, k = .int .i64 K ∧ a ≤ K ∧ K ≤ I - 1 ∧ FRow wx g n sz (mvR f a K) ∧ Kp g w wx) (fun k _ => I - (intOf k).toNat)
      case atStart => exact ⟨a, rfl, Nat.le_refl _, by omega, by rw [mvR_zero]; exact hR, hK⟩
      case round =>
        clear hR hK
        obtain ⟨K, rfl, hK1, hK2, hR, hK⟩ := hrel
        by_cases hlt2 : K < I - 1
        · obtain ⟨p, hp⟩ : ∃ p, K + 1 = p := ⟨_, rfl⟩
          have u1 : IntKind.i64.wrap ((K : Int) + 1) = (p : Int) := (IntWalk.i64_in _ (by omega)).trans (by omega)
          have HE := Lib.hid (mvR_succ f a K hK1)
          rw [hp] at HE
          have hp1 : K + 1 ≤ p := by omega
          have hp2 : p ≤ K + 1 := by omega
          clear hp
          have n1 : K ≠ p := by omega
          have n2 : p ≠ K := by omega
          have n3 : K * 5 ≠ p * 5 := by omega
          have n4 : p * 5 ≠ K * 5 := by omega
          have hPn : K < n := by omega
          have hQn : p < n := by omega
          have hPi : (K : Int) < n := by omega
          have hQi : (p : Int) < n := by omega
          obtain ⟨xP, hxP⟩ : ∃ x, (mvR f a K) K = x := ⟨_, rfl⟩
          obtain ⟨xQ, hxQ⟩ : ∃ x, (mvR f a K) p = x := ⟨_, rfl⟩
          obtain ⟨a0, a1, a2, a3, a4⟩ := hR.cells hPn
          obtain ⟨b0, b1, b2, b3, b4⟩ := hR.cells hQn
          rw [hxP] at a0 a1 a2 a3 a4
          rw [hxQ] at b0 b1 b2 b3 b4
          have ez0 : wr.frozen? ⟨g, K * 5, none⟩ = false := hR.free _
          have ez1 : wr.frozen? ⟨g, K * 5 + 1, none⟩ = false := hR.free _
          have ez2 : wr.frozen? ⟨g, K * 5 + 2, none⟩ = false := hR.free _
          have ez3 : wr.frozen? ⟨g, K * 5 + 3, none⟩ = false := hR.free _
          have ez4 : wr.frozen? ⟨g, K * 5 + 4, none⟩ = false := hR.free _
          have fz0 : wr.frozen? ⟨g, p * 5, none⟩ = false := hR.free _
          have fz1 : wr.frozen? ⟨g, p * 5 + 1, none⟩ = false := hR.free _
          have fz2 : wr.frozen? ⟨g, p * 5 + 2, none⟩ = false := hR.free _
          have fz3 : wr.frozen? ⟨g, p * 5 + 3, none⟩ = false := hR.free _
          have fz4 : wr.frozen? ⟨g, p * 5 + 4, none⟩ = false := hR.free _
          have HR2 : Hid (FRow ((((((((((wr.setCell ⟨g, K * 5, none⟩ (.int .i64 xQ.num)).setCell ⟨g, K * 5 + 1, none⟩ (.int .i64 xQ.kind)).setCell ⟨g, K * 5 + 2, none⟩ (.int .i64 xQ.day)).setCell ⟨g, K * 5 + 3, none⟩ (.int .i64 xQ.id)).setCell ⟨g, K * 5 + 4, none⟩ (.int .i64 xQ.qty)).setCell ⟨g, p * 5, none⟩ (.int .i64 xP.num)).setCell ⟨g, p * 5 + 1, none⟩ (.int .i64 xP.kind)).setCell ⟨g, p * 5 + 2, none⟩ (.int .i64 xP.day)).setCell ⟨g, p * 5 + 3, none⟩ (.int .i64 xP.id)).setCell ⟨g, p * 5 + 4, none⟩ (.int .i64 xP.qty)).drew g n sz (swapF (mvR f a K) K p)) := hR.swap K p hPn hQn xP xQ hxP hxQ
          have HK2 : Hid (Kp g w ((((((((((wr.setCell ⟨g, K * 5, none⟩ (.int .i64 xQ.num)).setCell ⟨g, K * 5 + 1, none⟩ (.int .i64 xQ.kind)).setCell ⟨g, K * 5 + 2, none⟩ (.int .i64 xQ.day)).setCell ⟨g, K * 5 + 3, none⟩ (.int .i64 xQ.id)).setCell ⟨g, K * 5 + 4, none⟩ (.int .i64 xQ.qty)).setCell ⟨g, p * 5, none⟩ (.int .i64 xP.num)).setCell ⟨g, p * 5 + 1, none⟩ (.int .i64 xP.kind)).setCell ⟨g, p * 5 + 2, none⟩ (.int .i64 xP.day)).setCell ⟨g, p * 5 + 3, none⟩ (.int .i64 xP.id)).setCell ⟨g, p * 5 + 4, none⟩ (.int .i64 xP.qty)).drew) := ((hK.setF K xQ).setF p xP).drew
          clear hR hK hxP hxQ 
          go_upto_region 11 with (fail)
          go_region
          generalize ((((((((((wr.setCell ⟨g, K * 5, none⟩ (.int .i64 xQ.num)).setCell ⟨g, K * 5 + 1, none⟩ (.int .i64 xQ.kind)).setCell ⟨g, K * 5 + 2, none⟩ (.int .i64 xQ.day)).setCell ⟨g, K * 5 + 3, none⟩ (.int .i64 xQ.id)).setCell ⟨g, K * 5 + 4, none⟩ (.int .i64 xQ.qty)).setCell ⟨g, p * 5, none⟩ (.int .i64 xP.num)).setCell ⟨g, p * 5 + 1, none⟩ (.int .i64 xP.kind)).setCell ⟨g, p * 5 + 2, none⟩ (.int .i64 xP.day)).setCell ⟨g, p * 5 + 3, none⟩ (.int .i64 xP.id)).setCell ⟨g, p * 5 + 4, none⟩ (.int .i64 xP.qty)).drew = W11 at *
          clear a0 a1 a2 a3 a4 b0 b1 b2 b3 b4 ez0 ez1 ez2 ez3 ez4 fz0 fz1 fz2 fz3 fz4
          clear u1
          go_wp2_with fail
          go_roundw
          case rel => exact ⟨p, by congr 1; omega, by omega, by omega, by rw [← HE.out]; exact HR2.out, HK2.out⟩
          case measure => simp [intOf]; omega
        · obtain rfl : K = I - 1 := by omega
          go_wp2
          go_end0
          exact ⟨rfl, _, HSS.out, HWW.out, hR, hK⟩

set_option maxRecDepth 100000 in
set_option maxHeartbeats 8000000 in
theorem symMerge_two (g n c sz : Nat) (f : Nat → Fct) (a m b : Nat) (w : World) (h : FRow w g n sz f) (ham : a + 1 < m) (hmb : m + 1 = b) (hb : b ≤ n) (hn : n ≤ 1000000) (hs : Srt a m f) :
    Calls Tryz.prog 267 #[.slice (some ⟨g, 0, none⟩) n c, .int .i64 a, .int .i64 m, .int .i64 b, .func (.func 189) #[] #[]] w (Sorts w g n sz a b f) := by
  have HSR := Lib.hid hs
  have hb1 : m + 1 ≤ b := by omega
  have hb2 : b ≤ m + 1 := by omega
  have b1 : ((m : Int) - (a : Int) == 1) = false := by simp; omega
  have b2 : ((b : Int) - (m : Int) == 1) = true := by simp; omega
  have HBM := Lib.hid hmb
  clear hs hmb
  go_enter Tryz.func267, Tryz.ntmps267
  go_wp2
  go_loopw [14, 15] (fun i j wx => ∃ I J : Nat, i = .int .i64 I ∧ j = .int .i64 J ∧ a ≤ I ∧ I ≤ J ∧ J ≤ m ∧ Hid (∀ q, a ≤ q → q < I → (f q).day ≤ (f m).day) ∧ Hid (∀ q, J ≤ q → q < m → (f m).day < (f q).day) ∧ FRow wx g n sz f ∧ Kp g w wx) (fun i j _ => (intOf j).toNat - (intOf i).toNat)
  case atStart => exact ⟨a, m, rfl, rfl, Nat.le_refl _, by omega, Nat.le_refl _, fun q h1 h2 => by omega, fun q h1 h2 => by omega, h, Kp.refl _ _⟩
  case round =>
    clear h
    obtain ⟨I, J, rfl, rfl, hI, hIJ, hJ, HA, HB, hR, hK⟩ := hrel
    by_cases hlt : I < J
    · go_upto_region 17 with (fail)
      obtain ⟨H, hH⟩ : ∃ q : Nat, ((I : Int) + (J : Int)) / 2 = (q : Int) := ⟨(I + J) / 2, by omega⟩
      have hH1 : I ≤ H := by omega
      have hH2 : H < J := by omega
      rw [hH]
      clear hH
      have hPn : m < n := by omega
      have hQn : H < n := by omega
      have hPi : (m : Int) < n := by omega
      have hQi : (H : Int) < n := by omega
      obtain ⟨xP, hxP⟩ : ∃ x, f m = x := ⟨_, rfl⟩
      obtain ⟨xQ, hxQ⟩ : ∃ x, f H = x := ⟨_, rfl⟩
      have HCJ := Lib.hid (fun w' hb => cells_over (w' := w') hR hb hPn)
      have HCP := Lib.hid (fun w' hb => cells_over (w' := w') hR hb hQn)
      rw [hxP] at HCJ
      rw [hxQ] at HCP
      obtain ⟨a0, a1, a2, a3, a4⟩ := hR.cells hPn
      obtain ⟨b0, b1, b2, b3, b4⟩ := hR.cells hQn
      rw [hxP] at a0 a1 a2 a3 a4
      rw [hxQ] at b0 b1 b2 b3 b4
      have HCM : Hid (∀ wx, RowKit.Below wr.heap.size wr wx → Calls Tryz.prog 189 #[.agg #[.int .i64 xP.num, .int .i64 xP.kind, .int .i64 xP.day, .int .i64 xP.id, .int .i64 xP.qty], .agg #[.int .i64 xQ.num, .int .i64 xQ.kind, .int .i64 xQ.day, .int .i64 xQ.id, .int .i64 xQ.qty]] wx (fun e w' => (∃ r : Int, e = .returned (.int .i64 r) ∧ (xP.day < xQ.day → r = -1) ∧ (xQ.day ≤ xP.day → 0 ≤ r)) ∧ RowKit.Below wr.heap.size wr w')) := fun wx hb => cmpDay_over xP xQ wr wx hb
      have HB0 : Hid (RowKit.Below wr.heap.size wr wr.drew) := (Below.refl _ _).drew
      have HRR := Lib.hid hR
      have HKK := Lib.hid hK
      obtain ⟨bb, hbb⟩ : ∃ b, decide ((f m).day < (f H).day) = b := ⟨_, rfl⟩
      have HBD := Lib.hid hbb
      rw [hxP, hxQ] at hbb
      have HBB := Lib.hid (fun r h => (cmp_test (r := r) h).trans hbb)
      clear hbb hxP hxQ hR hK
      go_cut [103] (fun v wx => v = .bool (!bb) ∧ RowKit.Below wr.heap.size wr wx)
      case first =>
        go_region_held3 (fun w' => w'.cell? ⟨g, m * 5, none⟩ = some (.int .i64 xP.num) ∧ w'.cell? ⟨g, m * 5 + 1, none⟩ = some (.int .i64 xP.kind) ∧ w'.cell? ⟨g, m * 5 + 2, none⟩ = some (.int .i64 xP.day) ∧ w'.cell? ⟨g, m * 5 + 3, none⟩ = some (.int .i64 xP.id) ∧ w'.cell? ⟨g, m * 5 + 4, none⟩ = some (.int .i64 xP.qty) ∧ w'.cell? ⟨g, H * 5, none⟩ = some (.int .i64 xQ.num) ∧ w'.cell? ⟨g, H * 5 + 1, none⟩ = some (.int .i64 xQ.kind) ∧ w'.cell? ⟨g, H * 5 + 2, none⟩ = some (.int .i64 xQ.day) ∧ w'.cell? ⟨g, H * 5 + 3, none⟩ = some (.int .i64 xQ.id) ∧ w'.cell? ⟨g, H * 5 + 4, none⟩ = some (.int .i64 xQ.qty))
          (first
            | go_keep
            | exact ⟨(HCJ.out _ hb5.out).1, (HCJ.out _ hb5.out).2.1, (HCJ.out _ hb5.out).2.2.1, (HCJ.out _ hb5.out).2.2.2.1, (HCJ.out _ hb5.out).2.2.2.2, (HCP.out _ hb5.out).1, (HCP.out _ hb5.out).2.1, (HCP.out _ hb5.out).2.2.1, (HCP.out _ hb5.out).2.2.2.1, (HCP.out _ hb5.out).2.2.2.2⟩)
          (first
            | (go_at_call 189; with_reducible (refine (HCM.out _ ?_).mono ?_); with_reducible (first | exact HB0.out | exact hb5.out); rintro e w5 ⟨⟨r, rfl, hr'⟩, hb5'⟩; have hb5 := Lib.hid hb5'; have hr := Lib.hid hr'; clear hb5' hr'))
        all_goals (go_wp2_with fail; go_meet; exact ⟨by rw [HBB.out r hr.out], hb5.out⟩)
      case rest =>
        obtain ⟨rfl, hb5⟩ := hcut
        have hR5 := HRR.out.keep hb5
        have hK5 := HKK.out.below hb5
        clear a0 a1 a2 a3 a4 b0 b1 b2 b3 b4 HCJ HCP HCM HB0 HRR HKK hb5 HBB
        cases bb
        case true =>
          have HB2 : Hid (∀ q, H ≤ q → q < m → (f m).day < (f q).day) := fun q h1 h2 => by
            have k1 := of_decide_eq_true HBD.out
            have k2 := HSR.out.le (i := H) (j := q) (by omega) (by omega) (by omega)
            omega
          clear HBD HB
          go_wp2_with fail
          go_roundw
          case rel => exact ⟨I, H, rfl, rfl, by omega, by omega, by omega, HA, HB2, hR5, hK5⟩
          case measure => simp [intOf]; omega
        case false =>
          have HA2 : Hid (∀ q, a ≤ q → q < H + 1 → (f q).day ≤ (f m).day) := fun q h1 h2 => by
            have k1 := of_decide_eq_false HBD.out
            have k2 := HSR.out.le (i := q) (j := H) (by omega) (by omega) (by omega)
            omega
          clear HBD HA
          go_wp2_with fail
          go_roundw
          case rel => exact ⟨H + 1, J, by go_num, rfl, by omega, by omega, hJ, HA2, HB, hR5, hK5⟩
          case measure => simp [intOf]; omega
    · obtain rfl : I = J := by omega
      have HSS := Lib.hid (mvL_srt (a := a) (m := m) (i := I) HSR.out (by omega) (by omega) HA.out HB.out)
      have HWW := Lib.hid (mvL_swaps f m (m - I) a b (by omega) (by omega) (by omega))
      rw [show m - (m - I) = I by omega] at HWW
      rw [HBM.out] at HSS
      clear HA HB
      go_wp2_with fail
      go_loopw [17] (fun k wx => ∃ K : Nat, k = .int .i64 K ∧ I ≤ K ∧ K ≤ m ∧ FRow wx g n sz (mvL f m K) ∧ Kp g w wx) (fun k _ => (intOf k).toNat)
      case atStart => exact ⟨m, rfl, by omega, by omega, by rw [mvL_zero]; exact hR, hK⟩
      case round =>
        clear hR hK
        obtain ⟨K, rfl, hK1, hK2, hR, hK⟩ := hrel
        by_cases hlt2 : I < K
        · obtain ⟨p, hp⟩ : ∃ p, K - 1 = p := ⟨_, rfl⟩
          have u1 : IntKind.i64.wrap ((K : Int) - 1) = (p : Int) := (IntWalk.i64_in _ (by omega)).trans (by omega)
          have HE := Lib.hid (mvL_succ f m K hK2 (by omega))
          rw [hp] at HE
          have hp1 : p + 1 ≤ K := by omega
          have hp2 : K ≤ p + 1 := by omega
          clear hp
          have n1 : K ≠ p := by omega
          have n2 : p ≠ K := by omega
          have n3 : K * 5 ≠ p * 5 := by omega
          have n4 : p * 5 ≠ K * 5 := by omega
          have hPn : K < n := by omega
          have hQn : p < n := by omega
          have hPi : (K : Int) < n := by omega
          have hQi : (p : Int) < n := by omega
          obtain ⟨xP, hxP⟩ : ∃ x, (mvL f m K) K = x := ⟨_, rfl⟩
          obtain ⟨xQ, hxQ⟩ : ∃ x, (mvL f m K) p = x := ⟨_, rfl⟩
          obtain ⟨a0, a1, a2, a3, a4⟩ := hR.cells hPn
          obtain ⟨b0, b1, b2, b3, b4⟩ := hR.cells hQn
          rw [hxP] at a0 a1 a2 a3 a4
          rw [hxQ] at b0 b1 b2 b3 b4
          have ez0 : wr.frozen? ⟨g, K * 5, none⟩ = false := hR.free _
          have ez1 : wr.frozen? ⟨g, K * 5 + 1, none⟩ = false := hR.free _
          have ez2 : wr.frozen? ⟨g, K * 5 + 2, none⟩ = false := hR.free _
          have ez3 : wr.frozen? ⟨g, K * 5 + 3, none⟩ = false := hR.free _
          have ez4 : wr.frozen? ⟨g, K * 5 + 4, none⟩ = false := hR.free _
          have fz0 : wr.frozen? ⟨g, p * 5, none⟩ = false := hR.free _
          have fz1 : wr.frozen? ⟨g, p * 5 + 1, none⟩ = false := hR.free _
          have fz2 : wr.frozen? ⟨g, p * 5 + 2, none⟩ = false := hR.free _
          have fz3 : wr.frozen? ⟨g, p * 5 + 3, none⟩ = false := hR.free _
          have fz4 : wr.frozen? ⟨g, p * 5 + 4, none⟩ = false := hR.free _
          have HR2 : Hid (FRow ((((((((((wr.setCell ⟨g, K * 5, none⟩ (.int .i64 xQ.num)).setCell ⟨g, K * 5 + 1, none⟩ (.int .i64 xQ.kind)).setCell ⟨g, K * 5 + 2, none⟩ (.int .i64 xQ.day)).setCell ⟨g, K * 5 + 3, none⟩ (.int .i64 xQ.id)).setCell ⟨g, K * 5 + 4, none⟩ (.int .i64 xQ.qty)).setCell ⟨g, p * 5, none⟩ (.int .i64 xP.num)).setCell ⟨g, p * 5 + 1, none⟩ (.int .i64 xP.kind)).setCell ⟨g, p * 5 + 2, none⟩ (.int .i64 xP.day)).setCell ⟨g, p * 5 + 3, none⟩ (.int .i64 xP.id)).setCell ⟨g, p * 5 + 4, none⟩ (.int .i64 xP.qty)).drew g n sz (swapF (mvL f m K) K p)) := hR.swap K p hPn hQn xP xQ hxP hxQ
          have HK2 : Hid (Kp g w ((((((((((wr.setCell ⟨g, K * 5, none⟩ (.int .i64 xQ.num)).setCell ⟨g, K * 5 + 1, none⟩ (.int .i64 xQ.kind)).setCell ⟨g, K * 5 + 2, none⟩ (.int .i64 xQ.day)).setCell ⟨g, K * 5 + 3, none⟩ (.int .i64 xQ.id)).setCell ⟨g, K * 5 + 4, none⟩ (.int .i64 xQ.qty)).setCell ⟨g, p * 5, none⟩ (.int .i64 xP.num)).setCell ⟨g, p * 5 + 1, none⟩ (.int .i64 xP.kind)).setCell ⟨g, p * 5 + 2, none⟩ (.int .i64 xP.day)).setCell ⟨g, p * 5 + 3, none⟩ (.int .i64 xP.id)).setCell ⟨g, p * 5 + 4, none⟩ (.int .i64 xP.qty)).drew) := ((hK.setF K xQ).setF p xP).drew
          clear hR hK hxP hxQ 
          go_upto_region 23 with (fail)
          go_region
          generalize ((((((((((wr.setCell ⟨g, K * 5, none⟩ (.int .i64 xQ.num)).setCell ⟨g, K * 5 + 1, none⟩ (.int .i64 xQ.kind)).setCell ⟨g, K * 5 + 2, none⟩ (.int .i64 xQ.day)).setCell ⟨g, K * 5 + 3, none⟩ (.int .i64 xQ.id)).setCell ⟨g, K * 5 + 4, none⟩ (.int .i64 xQ.qty)).setCell ⟨g, p * 5, none⟩ (.int .i64 xP.num)).setCell ⟨g, p * 5 + 1, none⟩ (.int .i64 xP.kind)).setCell ⟨g, p * 5 + 2, none⟩ (.int .i64 xP.day)).setCell ⟨g, p * 5 + 3, none⟩ (.int .i64 xP.id)).setCell ⟨g, p * 5 + 4, none⟩ (.int .i64 xP.qty)).drew = W11 at *
          clear a0 a1 a2 a3 a4 b0 b1 b2 b3 b4 ez0 ez1 ez2 ez3 ez4 fz0 fz1 fz2 fz3 fz4
          clear u1
          go_wp2_with fail
          go_roundw
          case rel => exact ⟨p, by congr 1; omega, by omega, by omega, by rw [← HE.out]; exact HR2.out, HK2.out⟩
          case measure => simp [intOf]; omega
        · obtain rfl : I = K := by omega
          go_wp2
          go_end0
          exact ⟨rfl, _, HSS.out, HWW.out, hR, hK⟩

end Go.Proofs.YtdbcbbiplkikcaaGreat

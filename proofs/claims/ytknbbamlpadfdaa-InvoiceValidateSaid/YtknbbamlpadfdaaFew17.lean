/-
  Contract of customslaw17.few. No statement of the seat is proved here. Conditions: lengths are at most capacities.
-/
import Derived.Test.YtknbbamlpadfdaaStrs
import Derived.RegionTactic
import Derived.WalkKit
namespace Go.Proofs.Ytknbbamlpadfdaa
open Go.RowKit
set_option linter.unusedVariables false

theorem Recs.take {α : Type} [Inhabited α] {enc : α → List Value} {k : Nat} {w : World} {A : Option Addr} {n : Nat} {xs : List α} (h : Recs enc k w A n xs) {m : Nat} (hm : m ≤ n) : Recs enc k w A m (xs.take m) := by
  refine ⟨by rw [List.length_take, h.1]; omega, fun h0 => ?_⟩
  obtain ⟨b, off, e, hb, hc⟩ := h.2 (by omega)
  refine ⟨b, off, e, hb, fun i hi c hcc => ?_⟩
  rw [hc i (by omega) c hcc]
  have hl := h.1
  rw [getElem!_pos xs i (by omega), getElem!_pos (xs.take m) i (by simp; omega), List.getElem_take]

set_option maxRecDepth 100000 in
set_option maxHeartbeats 4000000 in
theorem few_any (cu : ByteArray) (day : Int) (A B : Option Addr) (n c m d : Nat) (w : World) (hn : n ≤ c) (hc : c ≤ 9223372036854775807) (hA : A = none → n = 0 ∧ c = 0) (hm : m ≤ d) (hd : d ≤ 9223372036854775807) (hB : B = none → m = 0 ∧ d = 0) :
    Calls Try.prog 9 #[.agg #[.string cu, .int .i64 day, .slice A n c, .slice B m d]] w fun e w' => e = .returned (.agg #[.string cu, .int .i64 day, .slice A (min n 105) c, .slice B (min m 55) d]) ∧ RowKit.Below w.heap.size w w' := by
  have t1 : (min (n : Int) 105).toNat = min n 105 := by omega
  have t2 : (min (m : Int) 55).toNat = min m 55 := by omega
  have T1 := Lib.hid t1
  have T2 := Lib.hid t2
  have l1 : (0 : Int) ≤ min (n : Int) 105 := by omega
  have l2 : min (n : Int) 105 ≤ (c : Int) := by omega
  have l3 : (0 : Int) ≤ min (m : Int) 55 := by omega
  have l4 : min (m : Int) 55 ≤ (d : Int) := by omega
  clear t1 t2
  cases A with
  | none =>
    obtain ⟨rfl, rfl⟩ := hA rfl
    clear hA
    cases B with
    | none =>
      obtain ⟨rfl, rfl⟩ := hB rfl
      clear hB
      go_enter Try.func9, Try.ntmps9
      go_wp2
      go_region
      go_wp2
      refine bodyPost_ret (v := .agg #[.string cu, .int .i64 day, .slice none 0 0, .slice none 0 0]) (by simp [results, Try.results9, go_sem] <;> omega) rfl ⟨?_, ((((Below.refl _ _).alloc (Nat.le_refl _) _).alloc (by simp) _)).drew⟩
      rfl
    | some a2 =>
      clear hB
      go_enter Try.func9, Try.ntmps9
      go_wp2
      go_region
      go_wp2
      refine bodyPost_ret (v := .agg #[.string cu, .int .i64 day, .slice none 0 0, .slice (some a2) (min (m : Int) 55).toNat d]) (by simp [results, Try.results9, go_sem] <;> omega) rfl ⟨?_, ((((Below.refl _ _).alloc (Nat.le_refl _) _).alloc (by simp) _)).drew⟩
      rw [T2.out] <;> rfl
  | some a =>
    clear hA
    cases B with
    | none =>
      obtain ⟨rfl, rfl⟩ := hB rfl
      clear hB
      go_enter Try.func9, Try.ntmps9
      go_wp2
      go_region
      go_wp2
      refine bodyPost_ret (v := .agg #[.string cu, .int .i64 day, .slice (some a) (min (n : Int) 105).toNat c, .slice none 0 0]) (by simp [results, Try.results9, go_sem] <;> omega) rfl ⟨?_, ((((Below.refl _ _).alloc (Nat.le_refl _) _).alloc (by simp) _)).drew⟩
      rw [T1.out] <;> rfl
    | some a2 =>
      clear hB
      go_enter Try.func9, Try.ntmps9
      go_wp2
      go_region
      go_wp2
      refine bodyPost_ret (v := .agg #[.string cu, .int .i64 day, .slice (some a) (min (n : Int) 105).toNat c, .slice (some a2) (min (m : Int) 55).toNat d]) (by simp [results, Try.results9, go_sem]) rfl ⟨?_, ((((Below.refl _ _).alloc (Nat.le_refl _) _).alloc (by simp) _)).drew⟩
      rw [T1.out, T2.out] <;> rfl
end Go.Proofs.Ytknbbamlpadfdaa

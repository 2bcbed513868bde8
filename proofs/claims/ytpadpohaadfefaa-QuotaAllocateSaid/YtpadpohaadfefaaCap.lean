/-
  Contracts of apportion.Cap and apportion.Spread, and of slices.Clone at integers. No statement of the seat is proved here. Conditions: lengths fit an int.
-/
import Derived.Test.YtpadpohaadfefaaLaw03a
import Derived.Test.YtpadpohaadfefaaAppend
namespace Go.Proofs.Ytpadpohaadfefaa
open Go.RowKit
set_option linter.unusedVariables false

/-- A list of the call's own with these elements. -/
def CloneRes (w : World) (n : Nat) (xs : List Int) (e : Ending) (w' : World) : Prop := ∃ (A : Option Addr) (c : Nat), e = .returned (.slice A n c) ∧ w'.ownsRow w.heap.size 3 1 (.slice A n c) n (xs.map (Value.int .i64)) ∧ RowKit.Below w.heap.size w w'

theorem clone_any (A : Option Addr) (n c : Nat) (xs : List Int) (w : World) (h : Ints w A n xs) (hn : n ≤ 1000000) :
    Calls Try.prog 45 #[.slice A n c] w (CloneRes w n xs) := by
  have hl := h.1
  by_cases h0 : n = 0
  · subst h0
    obtain rfl : xs = [] := List.eq_nil_of_length_eq_zero hl
    cases A with
    | none =>
      refine (Try.slices_Clone_int_nil 0 c w).mono ?_
      rintro e w' ⟨rfl, rfl⟩
      exact ⟨_, _, rfl, own_nil _ _ _, Below.refl _ _⟩
    | some a =>
      refine (Try.slices_Clone_int_zero a c w).mono ?_
      rintro e w' ⟨v', rfl, ho, _, hb⟩
      obtain ⟨A, c, rfl⟩ := own_slice ho
      exact ⟨A, c, rfl, ho, hb⟩
  · obtain ⟨b, off, rfl, hlt, hc⟩ := h.2 (by omega)
    refine (Try.slices_Clone_int b off n c xs w (by omega) (by omega) (fun j hj => hc j (by omega))).mono ?_
    rintro e w' ⟨v', rfl, ho, _, hb⟩
    rw [List.take_of_length_le (by omega)] at ho
    obtain ⟨A, c, rfl⟩ := own_slice ho
    exact ⟨A, c, rfl, ho, hb⟩

def capErr (t : Int) (ws : List Int) : Int := if chkErr t ws = 7 then 0 else chkErr t ws
def capOut (t : Int) (ws : List Int) : List Int := if chkErr t ws = 0 then (if ws.sum ≤ t then ws else shareL t ws) else []

set_option maxHeartbeats 1000000 in
theorem cap_any (t : Int) (A : Option Addr) (n c : Nat) (xs : List Int) (w : World) (h : Ints w A n xs) (hm : n ≤ 9223372036854775807) :
    Calls Try.prog 21 #[.int .i64 t, .slice A n c] w (SlRes w (capErr t xs) (capOut t xs)) := by
  have HC := Lib.hid (fun w h => check_any t A n c xs w h hm)
  by_cases h7 : chkErr t xs = 7
  · have E1 : capErr t xs = 0 := by unfold capErr; rw [if_pos h7]
    have E2 : capOut t xs = [] := by unfold capOut; rw [if_neg (by omega)]
    rw [E1, E2]
    rw [h7] at HC
    clear E1 E2 h7
    go_enter Try.func21, Try.ntmps21
    go_wp2_with (go_at_call 37; refine (HC.out _ h).mono ?_; rintro e w' ⟨rfl, rfl⟩)
    go_ret2
    exact ⟨_, _, _, rfl, own_nil _ _ _, Below.refl _ _⟩
  have E1 : capErr t xs = chkErr t xs := by unfold capErr; rw [if_neg h7]
  rw [E1]
  clear E1
  by_cases h0 : chkErr t xs = 0
  · obtain ⟨h1, h2, h3, h4, h5⟩ := chk_zero h0
    have hl := h.1
    have HS := Lib.hid (fun w h => sumOf_any A n c xs w h (by omega) h4)
    have E2 : capOut t xs = if xs.sum ≤ t then xs else shareL t xs := by unfold capOut; rw [if_pos h0]
    rw [E2]
    have HSH := Lib.hid (fun w h => share_any t A n c xs w h hm)
    have e3 : shareOut t xs = shareL t xs := by unfold shareOut; rw [if_pos h0]
    rw [e3] at HSH
    rw [h0] at HC HSH ⊢
    have HCL := Lib.hid (fun w h => clone_any A n c xs w h (by omega))
    clear E2 e3 h7 h0 hl h1 h2 h3 h4 h5
    obtain ⟨S, hS⟩ : ∃ S, xs.sum = S := ⟨_, rfl⟩
    rw [hS] at HS ⊢
    clear hS
    by_cases hle : S ≤ t
    · rw [if_pos hle]
      go_enter Try.func21, Try.ntmps21
      go_wp2_with (first | (go_at_call 37; refine (HC.out _ h).mono ?_; rintro e w' ⟨rfl, rfl⟩) | (go_at_call 38; refine (HS.out _ h).mono ?_; rintro e w' ⟨rfl, rfl⟩) | (go_at_call 45; refine (HCL.out _ h).mono ?_; rintro e w' ⟨A', c', rfl, ho, hb⟩))
      go_ret2
      exact ⟨_, _, _, rfl, ho, hb⟩
    · rw [if_neg hle]
      go_enter Try.func21, Try.ntmps21
      go_wp2_with (first | (go_at_call 37; refine (HC.out _ h).mono ?_; rintro e w' ⟨rfl, rfl⟩) | (go_at_call 38; refine (HS.out _ h).mono ?_; rintro e w' ⟨rfl, rfl⟩) | (go_at_call 17; refine (HSH.out _ h).mono ?_; rintro e w' ⟨A', n', c', rfl, ho, hb⟩))
      go_ret2
      exact ⟨_, _, _, rfl, ho, hb⟩
  · have E2 : capOut t xs = [] := by unfold capOut; rw [if_neg h0]
    rw [E2]
    have b1 : (chkErr t xs == 7) = false := by simpa using h7
    have b2 : (chkErr t xs != 0) = true := by simpa using h0
    clear E2 h7 h0
    generalize chkErr t xs = er at *
    go_enter Try.func21, Try.ntmps21
    go_wp2_with (go_at_call 37; refine (HC.out _ h).mono ?_; rintro e w' ⟨rfl, rfl⟩)
    go_ret2
    exact ⟨_, _, _, rfl, own_nil _ _ _, Below.refl _ _⟩

end Go.Proofs.Ytpadpohaadfefaa

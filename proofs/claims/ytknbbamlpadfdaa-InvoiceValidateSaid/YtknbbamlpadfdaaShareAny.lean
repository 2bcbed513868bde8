/-
  Contract of apportion.Share, all cases in one. No statement of the seat is proved here. Conditions: the list's length fits an int.
-/
import Derived.Test.YtknbbamlpadfdaaShare
namespace Go.Proofs.Ytknbbamlpadfdaa
open Go.RowKit
set_option linter.unusedVariables false

/-- What a function returns that gives a list of its own and an error. -/
def SlRes (w : World) (er : Int) (out : List Int) (e : Ending) (w' : World) : Prop :=
  ∃ A n c, e = .returned (.tuple #[.slice A n c, .int .i64 er]) ∧ w'.ownsRow w.heap.size 3 1 (.slice A n c) n (out.map (Value.int .i64)) ∧ RowKit.Below w.heap.size w w'

/-- The list of Share: nothing where there is an error. -/
def shareOut (t : Int) (ws : List Int) : List Int := if chkErr t ws = 0 then shareL t ws else []

theorem own_nil (w : World) (b : Nat) (T : TypeId) : w.ownsRow b T 1 (.slice none 0 0) 0 ([].map (Value.int .i64)) := ⟨by simp, .inl ⟨rfl, rfl⟩⟩

theorem chk_zero {t : Int} {ws : List Int} (h : chkErr t ws = 0) : ws.length ≤ 1000 ∧ 0 ≤ t ∧ t ≤ 1000000000000 ∧ AllIn ws ∧ (ws.length = 0 → t = 0) := by
  unfold chkErr at h
  split at h
  · omega
  · split at h
    · omega
    · split at h
      · rename_i h3
        split at h
        · omega
        · exact ⟨by omega, by omega, by omega, h3, by omega⟩
      · omega

theorem share_any (t : Int) (A : Option Addr) (n c : Nat) (xs : List Int) (w : World) (h : Ints w A n xs) (hm : n ≤ 9223372036854775807) :
    Calls Try.prog 29 #[.int .i64 t, .slice A n c] w (SlRes w (chkErr t xs) (shareOut t xs)) := by
  by_cases he : chkErr t xs = 0
  · obtain ⟨h1, h2, h3, h4, h5⟩ := chk_zero he
    have hl := h.1
    have hN : NonNeg xs := fun i => (h4 i).1
    unfold shareOut
    rw [if_pos he, he]
    by_cases hs : xs.sum = 0
    · refine (share_okz t A n c xs w h (by omega) he h2 h3 h4 hs (Lib.hid (by rw [← hl]; simp [wsum, hs]))).mono ?_
      rintro e w' ⟨g, rfl, _, ho, hb⟩
      exact ⟨_, _, _, rfl, ho, hb⟩
    · have hw : wsum xs = xs.sum := by simp [wsum, hs]
      have hp := sum_nonneg hN
      have hb := (sum_take_bound xs 1000000000000 h4 xs.length (Nat.le_refl _)).2
      rw [List.take_length] at hb
      refine (share_ok t A n c xs w h (by omega) he h2 h3 h4 hs xs.sum rfl hw (by omega) (by omega)).mono ?_
      rintro e w' ⟨g, rfl, _, ho, hb⟩
      exact ⟨_, _, _, rfl, ho, hb⟩
  · unfold shareOut
    rw [if_neg he]
    refine (share_err t A n c xs w h hm he).mono ?_
    rintro e w' ⟨rfl, rfl⟩
    exact ⟨_, _, _, rfl, own_nil _ _ _, Below.refl _ _⟩

end Go.Proofs.Ytknbbamlpadfdaa

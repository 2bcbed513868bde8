/-
  Contracts of apportion.Spread and of the reference's Spread and Cap (customsref02). No statement of the seat is proved here. Conditions: lengths fit an int, the total is an int.
-/
import Derived.Test.YtpadpohaadfefaaCap
namespace Go.Proofs.Ytpadpohaadfefaa
open Go.RowKit
set_option linter.unusedVariables false

/-- The first n cells are the integers f 0 .. f (n-1). -/
def PRow (cs : Array Value) (n : Nat) (f : Nat → Int) : Prop := n ≤ cs.size ∧ ∀ j, j < n → cs[j]? = some (.int .i64 (f j))
section
variable {cs : Array Value} {n : Nat} {f g : Nat → Int}
theorem PRow.congr (h : PRow cs n f) (e : ∀ j, j < n → f j = g j) : PRow cs n g := ⟨h.1, fun j hj => by rw [h.2 j hj, e j hj]⟩
theorem PRow.set (h : PRow cs n f) (i : Nat) (v : Int) (hi : i < n) (e : ∀ j, j < n → g j = if j = i then v else f j) : PRow (cs.setIfInBounds i (.int .i64 v)) n g := by
  refine ⟨by simpa using h.1, fun j hj => ?_⟩
  have h1 := h.1
  rw [Array.getElem?_setIfInBounds, e j hj]
  by_cases e2 : i = j
  · subst e2
    rw [if_pos rfl, if_pos (by omega), if_pos rfl]
  · rw [if_neg e2, if_neg (fun x => e2 x.symm), h.2 j hj]
theorem PRow.cell {w : World} {b : Nat} {t : TypeId} (h : PRow cs n f) (hb : Bl w b t cs) {j : Nat} (hj : j < n) : w.cell? ⟨b, j, none⟩ = some (.int .i64 (f j)) := (hb.cell j).trans (h.2 j hj)
theorem PRow.own {w : World} {b base c : Nat} {t : TypeId} (h : PRow cs n f) (hb : Bl w b t cs) (hg : base ≤ b) (hc : cs.size = c) (hm : c ≤ 9223372036854775807) : w.ownsRow base t 1 (.slice (some ⟨b, 0, none⟩) n c) n (((List.range n).map f).map (Value.int .i64)) := by
  have h1 := h.1
  refine ⟨by simp, .inr ⟨b, c, cs, rfl, hg, hb, by omega, by unfold maxLen; omega, by omega, ?_⟩⟩
  apply List.ext_getElem?
  intro i
  by_cases hi : i < n
  · rw [List.getElem?_take, if_pos (by omega), Array.getElem?_toList, h.2 i hi]
    simp [hi]
  · rw [List.getElem?_eq_none (by simp; omega), List.getElem?_eq_none (by simp; omega)]
end

/-- A row of the call's own that is not empty: its block, and what is in it. -/
theorem own_prow {w : World} {base : Nat} {t : TypeId} {A : Option Addr} {n c : Nat} {xs : List Int} (h : w.ownsRow base t 1 (.slice A n c) n (xs.map (Value.int .i64))) (hn : 0 < n) :
    ∃ g cs, A = some ⟨g, 0, none⟩ ∧ base ≤ g ∧ Bl w g t cs ∧ cs.size = c ∧ c ≤ 9223372036854775807 ∧ PRow cs n (fun j => xs.getD j 0) := by
  have hc : c ≤ 9223372036854775807 := by
    rcases h.2 with ⟨hv, h0⟩ | ⟨g, cap, cur, hv, hb, hh, h1, h2, h3, h4⟩
    · omega
    · injection hv with e1 e2 e3
      subst e3
      unfold maxLen at h2
      omega
  obtain ⟨g, cs, e, hb, hB, h1, h2, h3⟩ := own_open h hn
  exact ⟨g, cs, e, hb, hB, h2, hc, by omega, h3⟩
theorem own_len {w : World} {base : Nat} {t : TypeId} {v : Value} {n : Nat} {xs : List Int} (h : w.ownsRow base t 1 v n (xs.map (Value.int .i64))) : xs.length = n := by have := h.1; simpa using this

def negL (xs : List Int) : List Int := xs.map fun x => -x
theorem negL_range (xs : List Int) (n : Nat) (h : xs.length = n) : (List.range n).map (fun j => -xs.getD j 0) = negL xs := by
  subst h
  apply List.ext_getElem
  · simp [negL]
  · intro i h1 h2
    have h3 : i < xs.length := by simpa using h1
    simp [negL, List.getD, List.getElem?_eq_getElem h3]

/-- Shares are small. -/
theorem shareOut_bounds (t : Int) (ws : List Int) (i : Nat) : 0 ≤ (shareOut t ws).getD i 0 ∧ (shareOut t ws).getD i 0 ≤ 1000000000000 := by
  unfold shareOut
  by_cases h : chkErr t ws = 0
  · rw [if_pos h]
    obtain ⟨h1, h2, h3, h4, h5⟩ := chk_zero h
    by_cases hi : i < ws.length
    · rw [shareL_get t ws i hi]
      have hN : NonNeg ws := fun i => (h4 i).1
      exact ⟨share_nonneg hN h2 (by omega) i, Int.le_trans (share_le_total hN h2 (by omega) i hi) h3⟩
    · simp [List.getD, List.getElem?_eq_none (show (shareL t ws).length ≤ i by rw [shareL_length]; omega)]
  · rw [if_neg h]; simp

def spErr (t : Int) (ws : List Int) : Int := if 0 ≤ t then chkErr t ws else chkErr (wrap64 (-t)) ws
def spOut (t : Int) (ws : List Int) : List Int := if 0 ≤ t then shareOut t ws else negL (shareOut (wrap64 (-t)) ws)

set_option maxHeartbeats 1000000 in
theorem spread_any (t : Int) (A : Option Addr) (n c : Nat) (xs : List Int) (w : World) (h : Ints w A n xs) (hm : n ≤ 9223372036854775807) :
    Calls Try.prog 23 #[.int .i64 t, .slice A n c] w (SlRes w (spErr t xs) (spOut t xs)) := by
  by_cases h0 : 0 ≤ t
  · have HS := Lib.hid (fun w h => share_any t A n c xs w h hm)
    unfold spErr spOut
    rw [if_pos h0, if_pos h0]
    generalize chkErr t xs = er at *
    generalize shareOut t xs = out at *
    go_enter Try.func23, Try.ntmps23
    go_wp2_with (go_at_call 17; refine (HS.out _ h).mono ?_; rintro e w' ⟨A', n', c', rfl, ho, hb⟩)
    go_ret2
    exact ⟨_, _, _, rfl, ho, hb⟩
  · unfold spErr spOut
    rw [if_neg h0, if_neg h0]
    obtain ⟨u, hu⟩ : ∃ u, wrap64 (-t) = u := ⟨_, rfl⟩
    rw [hu]
    have HS := Lib.hid (fun w h => share_any u A n c xs w h hm)
    have HBD := Lib.hid (shareOut_bounds u xs)
    generalize chkErr u xs = er at *
    generalize shareOut u xs = out at *
    go_enter Try.func23, Try.ntmps23
    go_wp2_with (go_at_call 17; refine (HS.out _ h).mono ?_; rintro e w1 ⟨A', n', c', rfl, ho, hb⟩)
    have HLN := Lib.hid (own_len ho)
    by_cases hn0 : n' = 0
    · subst hn0
      go_loop [25] (fun i => i = .int .i64 0) (fun _ => 0)
      case atStart => exact rfl
      case round =>
        obtain rfl := hrel
        go_wp2
        go_ret2
        have e1 : out = [] := List.eq_nil_of_length_eq_zero HLN.out
        rw [e1] at ho ⊢
        exact ⟨_, _, _, rfl, ho, hb⟩
    · obtain ⟨g, cs, hA, hg, HB, hcs, hcm, HR⟩ := own_prow ho (by omega)
      subst hA
      have hle := HR.1
      rw [hcs] at hle
      go_loopw [25] (fun i wr => ∃ (k : Nat) (cs : Array Value), k ≤ n' ∧ i = .int .i64 k ∧ Bl wr g 3 cs ∧ cs.size = c' ∧ PRow cs n' (fun j => if j < k then -out.getD j 0 else out.getD j 0) ∧ RowKit.Below w.heap.size w wr) (fun i _ => n' - (intOf i).toNat)
      case atStart => exact ⟨0, cs, Nat.zero_le _, rfl, HB, hcs, HR.congr (fun j hj => by simp), hb⟩
      case round =>
        clear HB hcs HR hb
        obtain ⟨k, cs, hk, rfl, HB, hcs, HR, hbel⟩ := hrel
        by_cases hlt : k < n'
        · have c1 := HR.cell HB hlt
          rw [if_neg (by omega)] at c1
          have f1 : wr.frozen? ⟨g, k, none⟩ = false := HB.free k
          have hbd := HBD.out k
          have HS : Hid (∀ v, -out.getD k 0 = v → PRow (cs.setIfInBounds k (.int .i64 v)) n' (fun j => if j < k + 1 then -out.getD j 0 else out.getD j 0)) := fun v hv => HR.set k v hlt (fun j hj => by
            by_cases e : j = k
            · subst e; rw [if_pos (by omega), if_pos rfl, hv]
            · rw [if_neg e]; by_cases e2 : j < k
              · rw [if_pos e2, if_pos (by omega)]
              · rw [if_neg e2, if_neg (by omega)])
          generalize out.getD k 0 = x at *
          have HCS := Lib.hid hcs
          clear hcs
          go_wp2
          go_roundw
          case rel => exact ⟨k + 1, _, by omega, by go_num, HB.put _ _, by rw [Array.size_setIfInBounds]; exact HCS.out, HS.out _ rfl, hbel.setCell hg _⟩
          case measure => simp [intOf]; omega
        · obtain rfl : k = n' := by omega
          have hO := HR.congr (g := fun j => -out.getD j 0) (fun j hj => by simp [hj])
          have HCS := Lib.hid hcs
          clear hcs
          go_wp2
          go_ret2
          have how := hO.own HB hg HCS.out hcm
          rw [negL_range out k HLN.out] at how
          exact ⟨_, _, _, rfl, how, hbel⟩
end Go.Proofs.Ytpadpohaadfefaa

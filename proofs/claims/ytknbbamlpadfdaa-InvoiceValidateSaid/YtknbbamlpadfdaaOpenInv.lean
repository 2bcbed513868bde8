/-
  How an invoice and a table of rates that came in are opened. No statement of the seat is proved here. No conditions.
-/
import Derived.Test.YtknbbamlpadfdaaOpen17
import Derived.Test.YtknbbamlpadfdaaVal17b
namespace Go.Proofs.Ytknbbamlpadfdaa
open Go.RowKit Go.ChangeShapes Go.WideShapes Go.Deep
set_option linter.unusedVariables false

section
variable {H : Type} {enc : TypeId × Value → H} {w : World} {base : Nat} {spare : Nat → Bool} {held : Bool}
theorem slice_cell {P : Program} {t e : TypeId} {fuel : Nat} {v : Value} {x : DataW H × List MemPlace} (ht : P.underlying t = some (.slice e)) (h : DataW.trod enc P w base spare held fuel t [v] = some x) : ∃ A len cap, v = .slice A len cap := by
  rcases open_slice ht h with ⟨hcs, _⟩ | ⟨a, l, c, m, n, D, Pl, hcs, _⟩
  · exact ⟨_, _, _, by simpa using hcs⟩
  · exact ⟨_, _, _, by simpa using hcs⟩

set_option maxRecDepth 100000 in
theorem open_tab {r : Reach} {b0 : Nat} {v : Value} {d : DataW H} {p : List MemPlace} (hv : Value.okWide Try.prog w r b0 38 v) (h : DataW.Trod enc Try.prog w base spare held 38 v d p) :
    ∃ (T : Option Addr) (tn tc : Nat) (ts : List Exch), v = .slice T tn tc ∧ Recs encX 3 w T tn ts ∧ tn ≤ tc ∧ tc ≤ 9223372036854775807 ∧ (T = none → tn = 0 ∧ tc = 0) ∧ ExSz ts := by
  obtain ⟨T, tn, tc, rfl⟩ := okWide_slice Try.underlying38 hv
  obtain ⟨fuel, hf⟩ := h
  obtain ⟨ts, h1, h2, h3, h4, h5⟩ := open_exch Try.underlying38 Try.underlying61 (by kernel_rfl) rfl rfl rfl (by kernel_rfl) (by kernel_rfl) (by kernel_rfl) Try.underlying9 Try.underlying3 Try.underlying3 hf
  exact ⟨T, tn, tc, ts, rfl, h1, h2, h3, h4, fun i hi => by rw [getElem!_pos ts i hi]; exact h5 _ (List.getElem_mem hi)⟩

set_option maxRecDepth 100000 in
theorem open_inv {r : Reach} {b0 : Nat} {v : Value} {dd : DataW H} {p : List MemPlace} (hv : Value.okWide Try.prog w r b0 25 v) (h : DataW.Trod enc Try.prog w base spare held 25 v dd p) :
    ∃ (cu : ByteArray) (day : Int) (A : Option Addr) (n c : Nat) (B : Option Addr) (m d : Nat) (ls : List (Int × Int)) (cs : List Chg), v = .agg #[.string cu, .int .i64 day, .slice A n c, .slice B m d] ∧ cu.size ≤ 9223372036854775807 ∧
      Recs enc2 2 w A n ls ∧ n ≤ c ∧ c ≤ 9223372036854775807 ∧ (A = none → n = 0 ∧ c = 0) ∧ Recs encC 5 w B m cs ∧ m ≤ d ∧ d ≤ 9223372036854775807 ∧ (B = none → m = 0 ∧ d = 0) ∧ ChSz cs := by
  obtain ⟨v0, v1, v2, v3, y0, y1, y2, y3, k, rfl, _, _, t0, t1, t2, t3⟩ := Joins.open_agg4 Try.underlying25 (by kernel_rfl) (by kernel_rfl) hv h
  obtain ⟨cu, e0, _, hcu⟩ := DataW.trod_string Try.underlying9 t0
  obtain ⟨day, e1, _, _⟩ := DataW.trod_int Try.underlying3 t1
  obtain ⟨A, n, c, rfl⟩ := slice_cell Try.underlying22 t2
  obtain ⟨B, m, d, rfl⟩ := slice_cell Try.underlying23 t3
  simp at e0 e1
  subst e0 e1
  obtain ⟨ls, h1, h2, h3, h4, _⟩ := open_pairs Try.underlying22 Try.underlying35 (by kernel_rfl) rfl rfl (by kernel_rfl) (by kernel_rfl) Try.underlying3 Try.underlying3 t2
  obtain ⟨cs, g1, g2, g3, g4, g5⟩ := open_chgs Try.underlying23 Try.underlying33 (by kernel_rfl) rfl rfl rfl rfl rfl (by kernel_rfl) (by kernel_rfl) (by kernel_rfl) (by kernel_rfl) (by kernel_rfl) Try.underlying3 Try.underlying3 Try.underlying9 Try.underlying3 Try.underlying3 t3
  exact ⟨cu, day, A, n, c, B, m, d, ls, cs, rfl, hcu, h1, h2, h3, h4, g1, g2, g3, g4, fun i hi => by rw [getElem!_pos cs i hi]; exact g5 _ (List.getElem_mem hi)⟩
end
end Go.Proofs.Ytknbbamlpadfdaa

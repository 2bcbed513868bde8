/-
  How a slice of integers that came in is opened: it reads as a list, its length is at most its capacity. No statement of the seat is proved here. No conditions.
  How a quota that came in is opened. No statement of the seat is proved here. No conditions.
  The law BookNew: it returns true. Conditions: none.
-/
import Derived.Test.YtemhiifgplaldaaMA
import Derived.Test.YtemhiifgplaldaaMK
import Derived.Lib.SmallJoins
import Derived.Test.YtemhiifgplaldaaMP
import Derived.Test.YtemhiifgplaldaaML
namespace Go.Proofs.Ytemhiifgplaldaa
open Go.RowKit
set_option linter.unusedVariables false

/-- A slice of integers that came in: it is nil; or it leads to a row of 'cap' cells, the numbers 'zs' (the first 'len' are its elements), each fitting its kind. -/
def IsRow (k : IntKind) (w : World) (a : Option Addr) (len cap : Nat) (zs : List Int) : Prop :=
  (a = none ∧ len = 0 ∧ cap = 0 ∧ zs = []) ∨
  ∃ x, a = some x ∧ len ≤ cap ∧ cap ≤ maxLen ∧ zs.length = cap ∧ (∀ i, i < zs.length → w.cell? (x.add i) = some (.int k (zs.getD i 0))) ∧ ∀ n ∈ zs, (Lit.int k n).wf = true

theorem addr_none {w : World} {x : Addr} {v : Value} (h : w.cell? x = some v) : x.spot = none := World.cell?_spot h

theorem isRow_ints {k : IntKind} {w : World} {a : Option Addr} {len cap : Nat} {zs : List Int} (h : IsRow k w a len cap zs) :
    IntsK k w a len (zs.take len) ∧ len ≤ cap ∧ cap ≤ 9223372036854775807 ∧ (a = none → len = 0 ∧ cap = 0) := by
  rcases h with ⟨rfl, rfl, rfl, rfl⟩ | ⟨x, rfl, hl, hm, hz, hc, hw⟩
  · exact ⟨⟨rfl, fun h => absurd h (by omega)⟩, Nat.le_refl _, by omega, fun _ => ⟨rfl, rfl⟩⟩
  · refine ⟨⟨by rw [List.length_take]; omega, fun h0 => ?_⟩, hl, by unfold maxLen at hm; omega, by intro h; cases h⟩
    obtain ⟨b, off, spot⟩ := x
    have h1 := hc 0 (by omega)
    have hs : spot = none := by simpa [Addr.add] using World.cell?_spot h1
    subst hs
    have hb : b < w.heap.size := by
      rcases Nat.lt_or_ge b w.heap.size with h2 | h2
      · exact h2
      · simp [Addr.add, World.cell?, Array.getElem?_eq_none h2] at h1
    refine ⟨b, off, rfl, hb, fun i hi => ?_⟩
    have h2 := hc i (by omega)
    have e : (⟨b, off, none⟩ : Addr).add i = ⟨b, off + i, none⟩ := by
      by_cases h0 : i = 0
      · subst h0; simp [Addr.add]
      · simp [Addr.add, h0]
    rw [e] at h2
    rw [h2]
    simp [List.getD, hi]

end Go.Proofs.Ytemhiifgplaldaa

namespace Go.Proofs.Ytemhiifgplaldaa
open Go.RowKit Go.ChangeShapes Go.WideShapes Go.Deep
set_option linter.unusedVariables false

section
variable {H : Type} {enc : TypeId × Value → H} {w : World} {base : Nat} {spare : Nat → Bool} {held : Bool}
set_option maxRecDepth 100000 in
theorem open_quota {r : Reach} {b0 : Nat} {v : Value} {dd : DataW H} {p : List MemPlace} (hv : Value.okWide Try.prog w r b0 23 v) (h : DataW.Trod enc Try.prog w base spare held 23 v dd p) :
    ∃ q : Qt, v = .agg #[.int .i64 q.id, .int .i64 q.vol, .int .i64 q.fr, .int .i64 q.tod] := by
  obtain ⟨v0, v1, v2, v3, y0, y1, y2, y3, k, rfl, _, _, t0, t1, t2, t3⟩ := Joins.open_agg4 Try.underlying23 (by kernel_rfl) (by kernel_rfl) hv h
  obtain ⟨a0, e0, _, _⟩ := DataW.trod_int Try.underlying3 t0
  obtain ⟨a1, e1, _, _⟩ := DataW.trod_int Try.underlying3 t1
  obtain ⟨a2, e2, _, _⟩ := DataW.trod_int Try.underlying3 t2
  obtain ⟨a3, e3, _, _⟩ := DataW.trod_int Try.underlying3 t3
  simp at e0 e1 e2 e3
  subst e0 e1 e2 e3
  exact ⟨⟨a0, a1, a2, a3⟩, rfl⟩
end
end Go.Proofs.Ytemhiifgplaldaa

namespace Go.Proofs.Ytemhiifgplaldaa
open Go.RowKit
set_option linter.unusedVariables false

set_option maxRecDepth 100000 in
set_option maxHeartbeats 4000000 in
theorem bookNew_any (q : Qt) (w : World) : Calls Try.prog 3 #[.agg #[.int .i64 q.id, .int .i64 q.vol, .int .i64 q.fr, .int .i64 q.tod]] w (BRes w true) := by
  have HAW := Lib.hid awake22_any
  have HRV := Lib.hid (fun w => rvalidQuota_any q w)
  have hx0 := Bl.new w 23 #[.int .i64 q.id, .int .i64 q.vol, .int .i64 q.fr, .int .i64 q.tod]
  have hb0 : RowKit.Below w.heap.size w (w.alloc (.cells #[.int .i64 q.id, .int .i64 q.vol, .int .i64 q.fr, .int .i64 q.tod] 23)) := (Below.refl _ _).alloc (Nat.le_refl _) _
  cases hq : qOk q
  case true =>
    have HN := Lib.hid (fun w => new_ok q w hq)
    have HSB := Lib.hid (fun w => sameBook_true q none none 0 0 0 [] w Recs.nil Recs.nil (by omega))
    rw [hq] at HRV
    clear hq
    go_enter Try.func3, Try.ntmps3
    go_upto_region 1 with (fail)
    generalize w.alloc (.cells #[.int .i64 q.id, .int .i64 q.vol, .int .i64 q.fr, .int .i64 q.tod] 23) = W0 at *
    have p0 : W0.cell? ⟨w.heap.size, 0, none⟩ = some (.int .i64 q.id) := hx0.cell 0
    have p1 : W0.cell? ⟨w.heap.size, 1, none⟩ = some (.int .i64 q.vol) := hx0.cell 1
    have p2 : W0.cell? ⟨w.heap.size, 2, none⟩ = some (.int .i64 q.fr) := hx0.cell 2
    have p3 : W0.cell? ⟨w.heap.size, 3, none⟩ = some (.int .i64 q.tod) := hx0.cell 3
    go_wp2_with fail
    refine (HN.out _).mono ?_
    rintro e w1 ⟨rfl, hb1⟩
    have hB1 : RowKit.Below w.heap.size w (w1.alloc (.cells #[.int .i64 q.id, .int .i64 q.vol, .int .i64 q.fr, .int .i64 q.tod, .slice none 0 0] 26)) := (hb0.trans (hb1.mono hb0.size)).alloc (Nat.le_trans hb0.size hb1.size) _
    have hx1 := (hx0.keep hb1).alloc (.cells #[.int .i64 q.id, .int .i64 q.vol, .int .i64 q.fr, .int .i64 q.tod, .slice none 0 0] 26)
    have hy1 := Bl.new w1 26 #[.int .i64 q.id, .int .i64 q.vol, .int .i64 q.fr, .int .i64 q.tod, .slice none 0 0]
    clear p0 p1 p2 p3 hx0 hb0 hb1 HN
    go_upto_region 2 with (fail)
    generalize w1.alloc (.cells #[.int .i64 q.id, .int .i64 q.vol, .int .i64 q.fr, .int .i64 q.tod, .slice none 0 0] 26) = W1 at *
    generalize w1.heap.size = g at *
    have p0 : W1.cell? ⟨w.heap.size, 0, none⟩ = some (.int .i64 q.id) := hx1.cell 0
    have p1 : W1.cell? ⟨w.heap.size, 1, none⟩ = some (.int .i64 q.vol) := hx1.cell 1
    have p2 : W1.cell? ⟨w.heap.size, 2, none⟩ = some (.int .i64 q.fr) := hx1.cell 2
    have p3 : W1.cell? ⟨w.heap.size, 3, none⟩ = some (.int .i64 q.tod) := hx1.cell 3
    go_wp2_with fail
    refine (HRV.out _).mono ?_
    rintro e w2 ⟨rfl, hb2⟩
    have hB2 := hB1.trans (hb2.mono hB1.size)
    have hx2 := hx1.keep hb2
    have hy2 := hy1.keep hb2
    clear p0 p1 p2 p3 hx1 hy1 hB1 hb2 HRV
    have p0 : w2.cell? ⟨w.heap.size, 0, none⟩ = some (.int .i64 q.id) := hx2.cell 0
    have p1 : w2.cell? ⟨w.heap.size, 1, none⟩ = some (.int .i64 q.vol) := hx2.cell 1
    have p2 : w2.cell? ⟨w.heap.size, 2, none⟩ = some (.int .i64 q.fr) := hx2.cell 2
    have p3 : w2.cell? ⟨w.heap.size, 3, none⟩ = some (.int .i64 q.tod) := hx2.cell 3
    have y0 : w2.cell? ⟨g, 0, none⟩ = some (.int .i64 q.id) := hy2.c0
    have y1 : w2.cell? ⟨g, 1, none⟩ = some (.int .i64 q.vol) := hy2.c1
    have y2 : w2.cell? ⟨g, 2, none⟩ = some (.int .i64 q.fr) := hy2.c2
    have y3 : w2.cell? ⟨g, 3, none⟩ = some (.int .i64 q.tod) := hy2.c3
    have y4 : w2.cell? ⟨g, 4, none⟩ = some (.slice none 0 0) := hy2.c4
    go_wp2_with fail
    refine (HSB.out _).mono ?_
    rintro e w3 ⟨rfl, hb3⟩
    have hB3 := hB2.trans (hb3.mono hB2.size)
    go_wp2_with fail
    refine (HAW.out _).mono ?_
    rintro e w4 ⟨rfl, hb4⟩
    go_wp2
    go_ret
    exact ⟨rfl, hB3.trans (hb4.mono hB3.size)⟩
  case false =>
    have HN := Lib.hid (fun w => new_bad q w hq)
    have HSB := Lib.hid (fun w => sameBook_true ⟨0, 0, 0, 0⟩ none none 0 0 0 [] w Recs.nil Recs.nil (by omega))
    rw [hq] at HRV
    clear hq
    go_enter Try.func3, Try.ntmps3
    go_upto_region 1 with (fail)
    generalize w.alloc (.cells #[.int .i64 q.id, .int .i64 q.vol, .int .i64 q.fr, .int .i64 q.tod] 23) = W0 at *
    have p0 : W0.cell? ⟨w.heap.size, 0, none⟩ = some (.int .i64 q.id) := hx0.cell 0
    have p1 : W0.cell? ⟨w.heap.size, 1, none⟩ = some (.int .i64 q.vol) := hx0.cell 1
    have p2 : W0.cell? ⟨w.heap.size, 2, none⟩ = some (.int .i64 q.fr) := hx0.cell 2
    have p3 : W0.cell? ⟨w.heap.size, 3, none⟩ = some (.int .i64 q.tod) := hx0.cell 3
    go_wp2_with fail
    refine (HN.out _).mono ?_
    rintro e w1 ⟨rfl, hb1⟩
    have hB1 : RowKit.Below w.heap.size w (w1.alloc (.cells #[.int .i64 0, .int .i64 0, .int .i64 0, .int .i64 0, .slice none 0 0] 26)) := (hb0.trans (hb1.mono hb0.size)).alloc (Nat.le_trans hb0.size hb1.size) _
    have hx1 := (hx0.keep hb1).alloc (.cells #[.int .i64 0, .int .i64 0, .int .i64 0, .int .i64 0, .slice none 0 0] 26)
    have hy1 := Bl.new w1 26 #[.int .i64 0, .int .i64 0, .int .i64 0, .int .i64 0, .slice none 0 0]
    clear p0 p1 p2 p3 hx0 hb0 hb1 HN
    go_upto_region 2 with (fail)
    generalize w1.alloc (.cells #[.int .i64 0, .int .i64 0, .int .i64 0, .int .i64 0, .slice none 0 0] 26) = W1 at *
    generalize w1.heap.size = g at *
    have p0 : W1.cell? ⟨w.heap.size, 0, none⟩ = some (.int .i64 q.id) := hx1.cell 0
    have p1 : W1.cell? ⟨w.heap.size, 1, none⟩ = some (.int .i64 q.vol) := hx1.cell 1
    have p2 : W1.cell? ⟨w.heap.size, 2, none⟩ = some (.int .i64 q.fr) := hx1.cell 2
    have p3 : W1.cell? ⟨w.heap.size, 3, none⟩ = some (.int .i64 q.tod) := hx1.cell 3
    go_wp2_with fail
    refine (HRV.out _).mono ?_
    rintro e w2 ⟨rfl, hb2⟩
    have hB2 := hB1.trans (hb2.mono hB1.size)
    have hx2 := hx1.keep hb2
    have hy2 := hy1.keep hb2
    clear p0 p1 p2 p3 hx1 hy1 hB1 hb2 HRV
    have p0 : w2.cell? ⟨w.heap.size, 0, none⟩ = some (.int .i64 q.id) := hx2.cell 0
    have p1 : w2.cell? ⟨w.heap.size, 1, none⟩ = some (.int .i64 q.vol) := hx2.cell 1
    have p2 : w2.cell? ⟨w.heap.size, 2, none⟩ = some (.int .i64 q.fr) := hx2.cell 2
    have p3 : w2.cell? ⟨w.heap.size, 3, none⟩ = some (.int .i64 q.tod) := hx2.cell 3
    have y0 : w2.cell? ⟨g, 0, none⟩ = some (.int .i64 0) := hy2.c0
    have y1 : w2.cell? ⟨g, 1, none⟩ = some (.int .i64 0) := hy2.c1
    have y2 : w2.cell? ⟨g, 2, none⟩ = some (.int .i64 0) := hy2.c2
    have y3 : w2.cell? ⟨g, 3, none⟩ = some (.int .i64 0) := hy2.c3
    have y4 : w2.cell? ⟨g, 4, none⟩ = some (.slice none 0 0) := hy2.c4
    go_wp2_with fail
    refine (HSB.out _).mono ?_
    rintro e w3 ⟨rfl, hb3⟩
    have hB3 := hB2.trans (hb3.mono hB2.size)
    go_wp2_with fail
    refine (HAW.out _).mono ?_
    rintro e w4 ⟨rfl, hb4⟩
    go_wp2
    go_ret
    exact ⟨rfl, hB3.trans (hb4.mono hB3.size)⟩
end Go.Proofs.Ytemhiifgplaldaa

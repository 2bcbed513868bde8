/-
  Contracts of quotabook.validQuota, of the reference's ValidQuota and of quotabook.validateFact. No statement of the seat is proved here. No conditions.
  How a quota book that came in is opened. No statement of the seat is proved here. No conditions.
  The contract of quotabook.Validate. No statement of the seat is proved here. Conditions: the list's length fits an int.
  The contract of slices.BinarySearchFunc at facts and numbers. No statement of the seat is proved here. Conditions: the numbers ascend; at most 1000 facts.
  The contract of slices.Clone at facts. No statement of the seat is proved here. Conditions: at most 1000 facts.
  The contract of quotabook.New. No statement of the seat is proved here. No conditions.
  Contracts of the reference's SameFacts and SameBook at equal lists and books. No statement of the seat is proved here. Conditions: the lists are equal.
  copy(dst, src) for elements of k cells, dst in a row that is known whole. No statement of the seat is proved here.
-/
import Derived.Test.YtdbcbbiplkikcaaGreatNAH
import Derived.Test.YtdbcbbiplkikcaaGreatNAA
import Derived.Lib.SmallJoins
import Derived.Shelf.SlicesE.Clone
import Derived.Laws.CopyOwn
import Derived.Lib.AppendZerosOnto
import Derived.Lib.Overlaps
namespace Go.Proofs.YtdbcbbiplkikcaaGreat
open Go.RowKit
set_option linter.unusedVariables false

structure Qt where
  id : Int
  vol : Int
  fr : Int
  tod : Int
deriving Inhabited, DecidableEq
def qOk (q : Qt) : Bool := decide (1 ≤ q.id ∧ q.id ≤ 1000000 ∧ 0 ≤ q.vol ∧ q.vol ≤ 100000000000 ∧ 0 ≤ q.fr ∧ q.fr < q.tod ∧ q.tod ≤ 36525)
theorem qOk_yes {q : Qt} (h : qOk q = true) : 1 ≤ q.id ∧ q.id ≤ 1000000 ∧ 0 ≤ q.vol ∧ q.vol ≤ 100000000000 ∧ 0 ≤ q.fr ∧ q.fr < q.tod ∧ q.tod ≤ 36525 := of_decide_eq_true h
def fErr (q : Qt) (x : Fct) : Int :=
  if x.num < 1 ∨ 1000000000 < x.num ∨ x.kind < 1 ∨ 4 < x.kind ∨ x.day < 0 ∨ 36524 < x.day ∨ x.qty < 0 ∨ 1000000000 < x.qty then 2
  else if x.kind = 4 ∧ x.id ≠ 0 then 2
  else if x.kind ≠ 4 ∧ (x.id < 1 ∨ 1000000 < x.id) then 2
  else if (x.kind = 1 ∨ x.kind = 4) ∧ (x.day < q.fr ∨ q.tod ≤ x.day) then 15 else 0
theorem fErr_zero {q : Qt} {x : Fct} (h : fErr q x = 0) : FOk x ∧ 1 ≤ x.num ∧ (x.kind = 1 → 1 ≤ x.id) ∧ (x.kind = 4 → x.id = 0) ∧ (x.kind ≠ 4 → 1 ≤ x.id) := by
  unfold fErr at h
  split at h
  · omega
  split at h
  · omega
  split at h
  · omega
  unfold FOk
  omega
def BRes (w : World) (b : Bool) (e : Ending) (w' : World) : Prop := e = .returned (.bool b) ∧ RowKit.Below w.heap.size w w'
def ERes (w : World) (er : Int) (e : Ending) (w' : World) : Prop := e = .returned (.int .i64 er) ∧ RowKit.Below w.heap.size w w'
theorem ret_bool' {a b : Bool} (h : a = b) : Ending.returned (.bool a) = .returned (.bool b) := by rw [h]
theorem ret_err {a b : Int} (h : a = b) : Ending.returned (.int .i64 a) = .returned (.int .i64 b) := by rw [h]

set_option maxRecDepth 100000 in
set_option maxHeartbeats 4000000 in
theorem validQuota_any (q : Qt) (w : World) : Calls Tryz.prog 31 #[.agg #[.int .i64 q.id, .int .i64 q.vol, .int .i64 q.fr, .int .i64 q.tod]] w (BRes w (qOk q)) := by
  have hb : RowKit.Below w.heap.size w (w.alloc (.cells #[.int .i64 q.id, .int .i64 q.vol, .int .i64 q.fr, .int .i64 q.tod] 27)) := (Below.refl _ _).alloc (Nat.le_refl _) _
  by_cases g0 : 1 ≤ q.id
  case neg =>
    have d0 : decide (1 ≤ q.id) = false := by simpa using g0
    have E : Hid (false = qOk q) := (decide_eq_false (by omega)).symm
    go_enter Tryz.func31, Tryz.ntmps31
    go_wp2
    go_ret
    exact ⟨ret_bool' E.out, hb⟩
  have d0 : decide (1 ≤ q.id) = true := by simpa using g0
  by_cases g1 : q.id ≤ 1000000
  case neg =>
    have d1 : decide (q.id ≤ 1000000) = false := by simpa using g1
    have E : Hid (false = qOk q) := (decide_eq_false (by omega)).symm
    go_enter Tryz.func31, Tryz.ntmps31
    go_wp2
    go_ret
    exact ⟨ret_bool' E.out, hb⟩
  have d1 : decide (q.id ≤ 1000000) = true := by simpa using g1
  by_cases g2 : 0 ≤ q.vol
  case neg =>
    have d2 : decide (0 ≤ q.vol) = false := by simpa using g2
    have E : Hid (false = qOk q) := (decide_eq_false (by omega)).symm
    go_enter Tryz.func31, Tryz.ntmps31
    go_wp2
    go_ret
    exact ⟨ret_bool' E.out, hb⟩
  have d2 : decide (0 ≤ q.vol) = true := by simpa using g2
  by_cases g3 : q.vol ≤ 100000000000
  case neg =>
    have d3 : decide (q.vol ≤ 100000000000) = false := by simpa using g3
    have E : Hid (false = qOk q) := (decide_eq_false (by omega)).symm
    go_enter Tryz.func31, Tryz.ntmps31
    go_wp2
    go_ret
    exact ⟨ret_bool' E.out, hb⟩
  have d3 : decide (q.vol ≤ 100000000000) = true := by simpa using g3
  by_cases g4 : 0 ≤ q.fr
  case neg =>
    have d4 : decide (0 ≤ q.fr) = false := by simpa using g4
    have E : Hid (false = qOk q) := (decide_eq_false (by omega)).symm
    go_enter Tryz.func31, Tryz.ntmps31
    go_wp2
    go_ret
    exact ⟨ret_bool' E.out, hb⟩
  have d4 : decide (0 ≤ q.fr) = true := by simpa using g4
  by_cases g5 : q.fr < q.tod
  case neg =>
    have d5 : decide (q.fr < q.tod) = false := by simpa using g5
    have E : Hid (false = qOk q) := (decide_eq_false (by omega)).symm
    go_enter Tryz.func31, Tryz.ntmps31
    go_wp2
    go_ret
    exact ⟨ret_bool' E.out, hb⟩
  have d5 : decide (q.fr < q.tod) = true := by simpa using g5
  by_cases g6 : q.tod ≤ 36525
  case neg =>
    have d6 : decide (q.tod ≤ 36525) = false := by simpa using g6
    have E : Hid (false = qOk q) := (decide_eq_false (by omega)).symm
    go_enter Tryz.func31, Tryz.ntmps31
    go_wp2
    go_ret
    exact ⟨ret_bool' E.out, hb⟩
  have d6 : decide (q.tod ≤ 36525) = true := by simpa using g6
  have E : Hid (true = qOk q) := (decide_eq_true (by omega)).symm
  go_enter Tryz.func31, Tryz.ntmps31
  go_wp2
  go_ret
  exact ⟨ret_bool' E.out, hb⟩

set_option maxRecDepth 100000 in
set_option maxHeartbeats 4000000 in
theorem rvalidQuota_any (q : Qt) (w : World) : Calls Tryz.prog 16 #[.agg #[.int .i64 q.id, .int .i64 q.vol, .int .i64 q.fr, .int .i64 q.tod]] w (BRes w (qOk q)) := by
  have hb : RowKit.Below w.heap.size w (w.alloc (.cells #[.int .i64 q.id, .int .i64 q.vol, .int .i64 q.fr, .int .i64 q.tod] 27)) := (Below.refl _ _).alloc (Nat.le_refl _) _
  by_cases g0 : 1 ≤ q.id
  case neg =>
    have d0 : decide (1 ≤ q.id) = false := by simpa using g0
    have E : Hid (false = qOk q) := (decide_eq_false (by omega)).symm
    go_enter Tryz.func16, Tryz.ntmps16
    go_wp2
    go_ret
    exact ⟨ret_bool' E.out, hb⟩
  have d0 : decide (1 ≤ q.id) = true := by simpa using g0
  by_cases g1 : q.id ≤ 1000000
  case neg =>
    have d1 : decide (q.id ≤ 1000000) = false := by simpa using g1
    have E : Hid (false = qOk q) := (decide_eq_false (by omega)).symm
    go_enter Tryz.func16, Tryz.ntmps16
    go_wp2
    go_ret
    exact ⟨ret_bool' E.out, hb⟩
  have d1 : decide (q.id ≤ 1000000) = true := by simpa using g1
  by_cases g2 : 0 ≤ q.vol
  case neg =>
    have d2 : decide (0 ≤ q.vol) = false := by simpa using g2
    have E : Hid (false = qOk q) := (decide_eq_false (by omega)).symm
    go_enter Tryz.func16, Tryz.ntmps16
    go_wp2
    go_ret
    exact ⟨ret_bool' E.out, hb⟩
  have d2 : decide (0 ≤ q.vol) = true := by simpa using g2
  by_cases g3 : q.vol ≤ 100000000000
  case neg =>
    have d3 : decide (q.vol ≤ 100000000000) = false := by simpa using g3
    have E : Hid (false = qOk q) := (decide_eq_false (by omega)).symm
    go_enter Tryz.func16, Tryz.ntmps16
    go_wp2
    go_ret
    exact ⟨ret_bool' E.out, hb⟩
  have d3 : decide (q.vol ≤ 100000000000) = true := by simpa using g3
  by_cases g4 : 0 ≤ q.fr
  case neg =>
    have d4 : decide (0 ≤ q.fr) = false := by simpa using g4
    have E : Hid (false = qOk q) := (decide_eq_false (by omega)).symm
    go_enter Tryz.func16, Tryz.ntmps16
    go_wp2
    go_ret
    exact ⟨ret_bool' E.out, hb⟩
  have d4 : decide (0 ≤ q.fr) = true := by simpa using g4
  by_cases g5 : q.fr < q.tod
  case neg =>
    have d5 : decide (q.fr < q.tod) = false := by simpa using g5
    have E : Hid (false = qOk q) := (decide_eq_false (by omega)).symm
    go_enter Tryz.func16, Tryz.ntmps16
    go_wp2
    go_ret
    exact ⟨ret_bool' E.out, hb⟩
  have d5 : decide (q.fr < q.tod) = true := by simpa using g5
  by_cases g6 : q.tod ≤ 36525
  case neg =>
    have d6 : decide (q.tod ≤ 36525) = false := by simpa using g6
    have E : Hid (false = qOk q) := (decide_eq_false (by omega)).symm
    go_enter Tryz.func16, Tryz.ntmps16
    go_wp2
    go_ret
    exact ⟨ret_bool' E.out, hb⟩
  have d6 : decide (q.tod ≤ 36525) = true := by simpa using g6
  have E : Hid (true = qOk q) := (decide_eq_true (by omega)).symm
  go_enter Tryz.func16, Tryz.ntmps16
  go_wp2
  go_ret
  exact ⟨ret_bool' E.out, hb⟩

set_option maxRecDepth 100000 in
set_option maxHeartbeats 4000000 in
theorem validateFact_any (q : Qt) (x : Fct) (w : World) : Calls Tryz.prog 109 #[.agg #[.int .i64 q.id, .int .i64 q.vol, .int .i64 q.fr, .int .i64 q.tod], .agg #[.int .i64 x.num, .int .i64 x.kind, .int .i64 x.day, .int .i64 x.id, .int .i64 x.qty]] w (ERes w (fErr q x)) := by
  have hb : RowKit.Below w.heap.size w ((w.alloc (.cells #[.int .i64 q.id, .int .i64 q.vol, .int .i64 q.fr, .int .i64 q.tod] 27)).alloc (.cells #[.int .i64 x.num, .int .i64 x.kind, .int .i64 x.day, .int .i64 x.id, .int .i64 x.qty] 122)) := ((Below.refl _ _).alloc (Nat.le_refl _) _).alloc (by simp) _
  by_cases g0 : x.num < 1
  · have d0 : decide (x.num < 1) = true := by simpa using g0
    have E : Hid ((2 : Int) = fErr q x) := by
      show _ = _
      unfold fErr
      rw [if_pos (by omega)]
    go_enter Tryz.func109, Tryz.ntmps109
    go_wp2
    go_ret
    exact ⟨ret_err E.out, hb⟩
  have d0 : decide (x.num < 1) = false := by simpa using g0
  by_cases g1 : 1000000000 < x.num
  · have d1 : decide (1000000000 < x.num) = true := by simpa using g1
    have E : Hid ((2 : Int) = fErr q x) := by
      show _ = _
      unfold fErr
      rw [if_pos (by omega)]
    go_enter Tryz.func109, Tryz.ntmps109
    go_wp2
    go_ret
    exact ⟨ret_err E.out, hb⟩
  have d1 : decide (1000000000 < x.num) = false := by simpa using g1
  by_cases g2 : x.kind < 1
  · have d2 : decide (x.kind < 1) = true := by simpa using g2
    have E : Hid ((2 : Int) = fErr q x) := by
      show _ = _
      unfold fErr
      rw [if_pos (by omega)]
    go_enter Tryz.func109, Tryz.ntmps109
    go_wp2
    go_ret
    exact ⟨ret_err E.out, hb⟩
  have d2 : decide (x.kind < 1) = false := by simpa using g2
  by_cases g3 : 4 < x.kind
  · have d3 : decide (4 < x.kind) = true := by simpa using g3
    have E : Hid ((2 : Int) = fErr q x) := by
      show _ = _
      unfold fErr
      rw [if_pos (by omega)]
    go_enter Tryz.func109, Tryz.ntmps109
    go_wp2
    go_ret
    exact ⟨ret_err E.out, hb⟩
  have d3 : decide (4 < x.kind) = false := by simpa using g3
  by_cases g4 : x.day < 0
  · have d4 : decide (x.day < 0) = true := by simpa using g4
    have E : Hid ((2 : Int) = fErr q x) := by
      show _ = _
      unfold fErr
      rw [if_pos (by omega)]
    go_enter Tryz.func109, Tryz.ntmps109
    go_wp2
    go_ret
    exact ⟨ret_err E.out, hb⟩
  have d4 : decide (x.day < 0) = false := by simpa using g4
  by_cases g5 : 36524 < x.day
  · have d5 : decide (36524 < x.day) = true := by simpa using g5
    have E : Hid ((2 : Int) = fErr q x) := by
      show _ = _
      unfold fErr
      rw [if_pos (by omega)]
    go_enter Tryz.func109, Tryz.ntmps109
    go_wp2
    go_ret
    exact ⟨ret_err E.out, hb⟩
  have d5 : decide (36524 < x.day) = false := by simpa using g5
  by_cases g6 : x.qty < 0
  · have d6 : decide (x.qty < 0) = true := by simpa using g6
    have E : Hid ((2 : Int) = fErr q x) := by
      show _ = _
      unfold fErr
      rw [if_pos (by omega)]
    go_enter Tryz.func109, Tryz.ntmps109
    go_wp2
    go_ret
    exact ⟨ret_err E.out, hb⟩
  have d6 : decide (x.qty < 0) = false := by simpa using g6
  by_cases g7 : 1000000000 < x.qty
  · have d7 : decide (1000000000 < x.qty) = true := by simpa using g7
    have E : Hid ((2 : Int) = fErr q x) := by
      show _ = _
      unfold fErr
      rw [if_pos (by omega)]
    go_enter Tryz.func109, Tryz.ntmps109
    go_wp2
    go_ret
    exact ⟨ret_err E.out, hb⟩
  have d7 : decide (1000000000 < x.qty) = false := by simpa using g7
  by_cases k4 : x.kind = 4
  · have b4 : (x.kind == 4) = true := by simpa using k4
    have b1 : (x.kind == 1) = false := by simp; omega
    by_cases i0 : x.id = 0
    case neg =>
      have c0 : (x.id != 0) = true := by simpa using i0
      have E : Hid ((2 : Int) = fErr q x) := by
        show _ = _
        unfold fErr
        rw [if_neg (by omega), if_pos (by omega)]
      clear k4
      go_enter Tryz.func109, Tryz.ntmps109
      go_wp2
      go_ret
      exact ⟨ret_err E.out, hb⟩
    have c0 : (x.id != 0) = false := by simpa using i0
    by_cases p1 : x.day < q.fr
    · have e1 : decide (x.day < q.fr) = true := by simpa using p1
      have E : Hid ((15 : Int) = fErr q x) := by
        show _ = _
        unfold fErr
        rw [if_neg (by omega), if_neg (by omega), if_neg (by omega), if_pos (by omega)]
      clear k4 i0
      go_enter Tryz.func109, Tryz.ntmps109
      go_wp2
      go_ret
      exact ⟨ret_err E.out, hb⟩
    have e1 : decide (x.day < q.fr) = false := by simpa using p1
    by_cases p2 : q.tod ≤ x.day
    · have e2 : decide (q.tod ≤ x.day) = true := by simpa using p2
      have E : Hid ((15 : Int) = fErr q x) := by
        show _ = _
        unfold fErr
        rw [if_neg (by omega), if_neg (by omega), if_neg (by omega), if_pos (by omega)]
      clear k4 i0
      go_enter Tryz.func109, Tryz.ntmps109
      go_wp2
      go_ret
      exact ⟨ret_err E.out, hb⟩
    have e2 : decide (q.tod ≤ x.day) = false := by simpa using p2
    have E : Hid ((0 : Int) = fErr q x) := by
      show _ = _
      unfold fErr
      rw [if_neg (by omega), if_neg (by omega), if_neg (by omega), if_neg (by omega)]
    clear k4 i0
    go_enter Tryz.func109, Tryz.ntmps109
    go_wp2
    go_ret
    exact ⟨ret_err E.out, hb⟩
  have b4 : (x.kind == 4) = false := by simpa using k4
  by_cases i1 : x.id < 1
  · have c1 : decide (x.id < 1) = true := by simpa using i1
    have E : Hid ((2 : Int) = fErr q x) := by
      show _ = _
      unfold fErr
      rw [if_neg (by omega), if_neg (by omega), if_pos (by omega)]
    go_enter Tryz.func109, Tryz.ntmps109
    go_wp2
    go_ret
    exact ⟨ret_err E.out, hb⟩
  have c1 : decide (x.id < 1) = false := by simpa using i1
  by_cases i2 : 1000000 < x.id
  · have c2 : decide (1000000 < x.id) = true := by simpa using i2
    have E : Hid ((2 : Int) = fErr q x) := by
      show _ = _
      unfold fErr
      rw [if_neg (by omega), if_neg (by omega), if_pos (by omega)]
    go_enter Tryz.func109, Tryz.ntmps109
    go_wp2
    go_ret
    exact ⟨ret_err E.out, hb⟩
  have c2 : decide (1000000 < x.id) = false := by simpa using i2
  by_cases k1 : x.kind = 1
  · have b1 : (x.kind == 1) = true := by simpa using k1
    by_cases p1 : x.day < q.fr
    · have e1 : decide (x.day < q.fr) = true := by simpa using p1
      have E : Hid ((15 : Int) = fErr q x) := by
        show _ = _
        unfold fErr
        rw [if_neg (by omega), if_neg (by omega), if_neg (by omega), if_pos (by omega)]
      clear k1
      go_enter Tryz.func109, Tryz.ntmps109
      go_wp2
      go_ret
      exact ⟨ret_err E.out, hb⟩
    have e1 : decide (x.day < q.fr) = false := by simpa using p1
    by_cases p2 : q.tod ≤ x.day
    · have e2 : decide (q.tod ≤ x.day) = true := by simpa using p2
      have E : Hid ((15 : Int) = fErr q x) := by
        show _ = _
        unfold fErr
        rw [if_neg (by omega), if_neg (by omega), if_neg (by omega), if_pos (by omega)]
      clear k1
      go_enter Tryz.func109, Tryz.ntmps109
      go_wp2
      go_ret
      exact ⟨ret_err E.out, hb⟩
    have e2 : decide (q.tod ≤ x.day) = false := by simpa using p2
    have E : Hid ((0 : Int) = fErr q x) := by
      show _ = _
      unfold fErr
      rw [if_neg (by omega), if_neg (by omega), if_neg (by omega), if_neg (by omega)]
    clear k1
    go_enter Tryz.func109, Tryz.ntmps109
    go_wp2
    go_ret
    exact ⟨ret_err E.out, hb⟩
  have b1 : (x.kind == 1) = false := by simpa using k1
  have E : Hid ((0 : Int) = fErr q x) := by
    show _ = _
    unfold fErr
    rw [if_neg (by omega), if_neg (by omega), if_neg (by omega), if_neg (by omega)]
  go_enter Tryz.func109, Tryz.ntmps109
  go_wp2
  go_ret
  exact ⟨ret_err E.out, hb⟩

end Go.Proofs.YtdbcbbiplkikcaaGreat

namespace Go.Proofs.YtdbcbbiplkikcaaGreat
open Go.RowKit Go.ChangeShapes Go.WideShapes Go.Deep
set_option linter.unusedVariables false

section
variable {H : Type} {enc : TypeId × Value → H} {P : Program} {w : World} {base : Nat} {spare : Nat → Bool} {held : Bool}
theorem open_recs {α : Type} [Inhabited α] {en : α → List Value} {Q : α → Prop} {k : Nat} (hk : 0 < k) {t e : TypeId} {fuel : Nat} {A : Option Addr} {len cap : Nat} {x : DataW H × List MemPlace}
    (ht : P.underlying t = some (.slice e)) (ce : P.cellsOf e = k) (hrd : ∀ cs' n y, cs'.length = k → DataW.trod enc P w base spare held n e cs' = some y → ∃ a : α, cs' = en a ∧ Q a)
    (h : DataW.trod enc P w base spare held fuel t [.slice A len cap] = some x) :
    ∃ xs : List α, Recs en k w A len xs ∧ len ≤ cap ∧ cap ≤ 9223372036854775807 ∧ (A = none → len = 0 ∧ cap = 0) ∧ ∀ a ∈ xs, Q a := by
  rcases open_slice ht h with ⟨hcs, _⟩ | ⟨a, l, c, m, n, D, Pl, hcs, _, hl, hm, hmm, _, hi⟩
  · simp at hcs
    obtain ⟨rfl, rfl, rfl⟩ := hcs
    exact ⟨[], Recs.nil, Nat.le_refl _, by omega, fun _ => ⟨rfl, rfl⟩, by simp⟩
  · simp at hcs
    obtain ⟨rfl, rfl, rfl⟩ := hcs
    have hlm : len ≤ m := by rw [hmm]; split <;> omega
    obtain ⟨F, hF⟩ := choose_lt (α := α) (n := len) (p := fun i r => (∀ j, j < k → w.cell? ((a.add (i * k)).add j) = (en r)[j]?) ∧ (en r).length = k ∧ Q r) (fun i hil => by
      obtain ⟨cs', h1, h2⟩ := hi i (by omega)
      rw [ce] at h1
      obtain ⟨_, hlen, hcell⟩ := World.cells?_some h1
      obtain ⟨r, rfl, hq⟩ := hrd cs' _ _ hlen h2
      exact ⟨r, hcell, hlen, hq⟩)
    refine ⟨(List.range len).map F, ⟨by simp, fun h0 => ?_⟩, hl, by unfold maxLen at hm; omega, (fun h => by cases h), fun r hr => ?_⟩
    · obtain ⟨b, off, spot⟩ := a
      have hz := hF 0 h0
      have h1 := hz.1 0 hk
      rw [List.getElem?_eq_getElem (by rw [hz.2.1]; exact hk)] at h1
      have hs : spot = none := by simpa [Addr.add] using World.cell?_spot h1
      subst hs
      have hb : b < w.heap.size := by
        rcases Nat.lt_or_ge b w.heap.size with h2 | h2
        · exact h2
        · simp [Addr.add, World.cell?, Array.getElem?_eq_none h2] at h1
      refine ⟨b, off, rfl, hb, fun i hil c hc => ?_⟩
      have g := hF i hil
      have g1 := g.1 c hc
      rw [add_none b off _ none rfl, add_none b _ _ none rfl] at g1
      rw [g1, List.getElem?_eq_getElem (by rw [g.2.1]; exact hc)]
      have e : ((List.range len).map F)[i]! = F i := by simp [hil]
      rw [e, getElem!_pos _ c (by rw [g.2.1]; exact hc)]
    · obtain ⟨i, hil, rfl⟩ := List.mem_map.1 hr
      exact (hF i (List.mem_range.1 hil)).2.2

theorem slice_cell {t e : TypeId} {fuel : Nat} {v : Value} {x : DataW H × List MemPlace} (ht : P.underlying t = some (.slice e)) (h : DataW.trod enc P w base spare held fuel t [v] = some x) : ∃ A len cap, v = .slice A len cap := by
  rcases open_slice ht h with ⟨hcs, _⟩ | ⟨a, l, c, m, n, D, Pl, hcs, _⟩
  · exact ⟨_, _, _, by simpa using hcs⟩
  · exact ⟨_, _, _, by simpa using hcs⟩
end
section
variable {H : Type} {enc : TypeId × Value → H} {w : World} {base : Nat} {spare : Nat → Bool} {held : Bool}
end
end Go.Proofs.YtdbcbbiplkikcaaGreat

namespace Go.Proofs.YtdbcbbiplkikcaaGreat
open Go.RowKit
set_option linter.unusedVariables false

def firstErr (e : Nat → Int) : Nat → Int
  | 0 => 0
  | n + 1 => if firstErr e n = 0 then e n else firstErr e n
theorem firstErr_zero {e : Nat → Int} {n : Nat} (h : ∀ i, i < n → e i = 0) : firstErr e n = 0 := by
  induction n with
  | zero => rfl
  | succ n ih => rw [firstErr, if_pos (ih fun i hi => h i (by omega))]; exact h n (by omega)
theorem firstErr_at {e : Nat → Int} {k : Nat} (h : ∀ i, i < k → e i = 0) (hk : e k ≠ 0) : ∀ n, k < n → firstErr e n = e k := by
  intro n hn
  induction n with
  | zero => omega
  | succ n ih =>
    rw [firstErr]
    by_cases x : k = n
    · subst x; rw [if_pos (firstErr_zero h)]
    · rw [ih (by omega), if_neg hk]
def numAsc (fs : List Fct) : Prop := ∀ r, r < fs.length - 1 → fs[r]!.num < fs[r + 1]!.num
instance (fs : List Fct) : Decidable (numAsc fs) := by unfold numAsc; infer_instance
def bErr (q : Qt) (fs : List Fct) : Int :=
  if qOk q = false then 2 else if 200 < fs.length then 8
  else if firstErr (fun i => fErr q fs[i]!) fs.length ≠ 0 then firstErr (fun i => fErr q fs[i]!) fs.length
  else if numAsc fs then 0 else 9
theorem bErr_ok {q : Qt} {fs : List Fct} (h1 : qOk q = true) (h2 : fs.length ≤ 200) (h3 : ∀ i, i < fs.length → fErr q fs[i]! = 0) (h4 : numAsc fs) : bErr q fs = 0 := by
  unfold bErr
  rw [if_neg (by rw [h1]; simp), if_neg (by omega), if_neg (by rw [firstErr_zero h3]; simp), if_pos h4]
theorem bErr_fact {q : Qt} {fs : List Fct} (h1 : qOk q = true) (h2 : fs.length ≤ 200) (k : Nat) (hk : k < fs.length) (h3 : ∀ i, i < k → fErr q fs[i]! = 0) (h4 : fErr q fs[k]! ≠ 0) : bErr q fs = fErr q fs[k]! := by
  have h5 := firstErr_at (e := fun i => fErr q fs[i]!) h3 h4 fs.length hk
  unfold bErr
  rw [if_neg (by rw [h1]; simp), if_neg (by omega), if_pos (by rw [h5]; exact h4), h5]
theorem bErr_order {q : Qt} {fs : List Fct} (h1 : qOk q = true) (h2 : fs.length ≤ 200) (h3 : ∀ i, i < fs.length → fErr q fs[i]! = 0) (r : Nat) (hr : r + 1 < fs.length) (h4 : ¬ fs[r]!.num < fs[r + 1]!.num) : bErr q fs = 9 := by
  unfold bErr
  rw [if_neg (by rw [h1]; simp), if_neg (by omega), if_neg (by rw [firstErr_zero h3]; simp), if_neg (fun h => h4 (h r (by omega)))]

set_option maxRecDepth 100000 in
set_option maxHeartbeats 4000000 in
theorem bvalidate_any (q : Qt) (A : Option Addr) (n c : Nat) (fs : List Fct) (w : World) (h : Recs encF 5 w A n fs) (hm : n ≤ 9223372036854775807) :
    Calls Tryz.prog 108 #[.agg #[.int .i64 q.id, .int .i64 q.vol, .int .i64 q.fr, .int .i64 q.tod, .slice A n c]] w (ERes w (bErr q fs)) := by
  have HL := Lib.hid h.1
  have hb0 : RowKit.Below w.heap.size w (w.alloc (.cells #[.int .i64 q.id, .int .i64 q.vol, .int .i64 q.fr, .int .i64 q.tod, .slice A n c] 54)) := (Below.refl _ _).alloc (Nat.le_refl _) _
  have hx0 := Bl.new w 54 #[.int .i64 q.id, .int .i64 q.vol, .int .i64 q.fr, .int .i64 q.tod, .slice A n c]
  have h0 := h.alloc (.cells #[.int .i64 q.id, .int .i64 q.vol, .int .i64 q.fr, .int .i64 q.tod, .slice A n c] 54)
  clear h
  go_enter Tryz.func108, Tryz.ntmps108
  go_upto_region 1 with (fail)
  generalize w.alloc (.cells #[.int .i64 q.id, .int .i64 q.vol, .int .i64 q.fr, .int .i64 q.tod, .slice A n c] 54) = W0 at *
  have HVQ := Lib.hid (fun w => validQuota_any q w)
  have HVF := Lib.hid (fun x w => validateFact_any q x w)
  have p0 : W0.cell? ⟨w.heap.size, 0, none⟩ = some (.int .i64 q.id) := hx0.cell 0
  have p1 : W0.cell? ⟨w.heap.size, 1, none⟩ = some (.int .i64 q.vol) := hx0.cell 1
  have p2 : W0.cell? ⟨w.heap.size, 2, none⟩ = some (.int .i64 q.fr) := hx0.cell 2
  have p3 : W0.cell? ⟨w.heap.size, 3, none⟩ = some (.int .i64 q.tod) := hx0.cell 3
  go_wp2_with fail
  refine (HVQ.out _).mono ?_
  rintro e w1 ⟨rfl, hb1⟩
  have hx1 := hx0.keep hb1
  have hB1 := hb0.trans (hb1.mono hb0.size)
  have h1 := h0.below hb1
  have HX1 := Lib.hid hx1
  have r4 : w1.cell? ⟨w.heap.size, 4, none⟩ = some (.slice A n c) := hx1.cell 4
  clear p0 p1 p2 p3 hx0 hb0 hb1 h0 hx1
  cases hq : qOk q with
  | false =>
    have E : Hid (2 = bErr q fs) := by show _ = _; unfold bErr; rw [if_pos hq]
    clear hq
    go_wp2
    go_ret
    exact ⟨ret_err E.out, hB1⟩
  | true =>
    have HQ := Lib.hid hq
    clear hq
    by_cases hl : 200 < n
    · have E : Hid (8 = bErr q fs) := by show _ = _; unfold bErr; rw [if_neg (by rw [HQ.out]; simp), if_pos (by have := HL.out; omega)]
      have hli : (200 : Int) < n := by omega
      go_wp2
      go_ret
      exact ⟨ret_err E.out, hB1⟩
    · have hln : n ≤ 200 := by omega
      go_wp2_with fail
      go_loopw [18] (fun i wx => ∃ k : Nat, k ≤ n ∧ i = .int .i64 k ∧ Hid (∀ i, i < k → fErr q fs[i]! = 0) ∧ RowKit.Below w1.heap.size w1 wx) (fun i _ => n - (intOf i).toNat)
      case atStart => exact ⟨0, Nat.zero_le _, rfl, fun i hi => by omega, Below.refl _ _⟩
      case round =>
        obtain ⟨k, hk, rfl, HA, hbk⟩ := hrel
        have hBk := hB1.trans (hbk.mono hB1.size)
        have hxk := HX1.out.keep hbk
        by_cases hlt : k < n
        · obtain ⟨b, off, x, hA, hbl, c0, c1, c2, c3, c4, HX⟩ := (h1.below hbk).getF hlt
          subst hA
          have hki : (k : Int) < n := by omega
          have hx4 := Bl.new wr 122 #[.int .i64 x.num, .int .i64 x.kind, .int .i64 x.day, .int .i64 x.id, .int .i64 x.qty]
          have hxk4 := hxk.alloc (.cells #[.int .i64 x.num, .int .i64 x.kind, .int .i64 x.day, .int .i64 x.id, .int .i64 x.qty] 122)
          have hb4 : RowKit.Below w1.heap.size w1 (wr.alloc (.cells #[.int .i64 x.num, .int .i64 x.kind, .int .i64 x.day, .int .i64 x.id, .int .i64 x.qty] 122)) := hbk.alloc hbk.size _
          go_upto_region 8 with (fail)
          clear c0 c1 c2 c3 c4
          generalize wr.alloc (.cells #[.int .i64 x.num, .int .i64 x.kind, .int .i64 x.day, .int .i64 x.id, .int .i64 x.qty] 122) = W4 at *
          generalize wr.heap.size = g4 at *
          have q0 : W4.cell? ⟨g4, 0, none⟩ = some (.int .i64 x.num) := hx4.cell 0
          have q1 : W4.cell? ⟨g4, 1, none⟩ = some (.int .i64 x.kind) := hx4.cell 1
          have q2 : W4.cell? ⟨g4, 2, none⟩ = some (.int .i64 x.day) := hx4.cell 2
          have q3 : W4.cell? ⟨g4, 3, none⟩ = some (.int .i64 x.id) := hx4.cell 3
          have q4 : W4.cell? ⟨g4, 4, none⟩ = some (.int .i64 x.qty) := hx4.cell 4
          have p0 : W4.cell? ⟨w.heap.size, 0, none⟩ = some (.int .i64 q.id) := hxk4.cell 0
          have p1 : W4.cell? ⟨w.heap.size, 1, none⟩ = some (.int .i64 q.vol) := hxk4.cell 1
          have p2 : W4.cell? ⟨w.heap.size, 2, none⟩ = some (.int .i64 q.fr) := hxk4.cell 2
          have p3 : W4.cell? ⟨w.heap.size, 3, none⟩ = some (.int .i64 q.tod) := hxk4.cell 3
          obtain ⟨er, her⟩ : ∃ e, fErr q x = e := ⟨_, rfl⟩
          have HER := Lib.hid her
          have HV := Lib.hid (HVF.out x W4)
          rw [her] at HV
          clear her
          go_wp2_with fail
          refine HV.out.mono ?_
          rintro e w5 ⟨rfl, hb5⟩
          have hb15 := hb4.trans (hb5.mono hb4.size)
          have hB5 := hB1.trans (hb15.mono hB1.size)
          clear q0 q1 q2 q3 q4 p0 p1 p2 p3 hx4 hxk4 hb5 hb4
          by_cases g : er = 0
          · have b1 : (er != 0) = false := by simpa using g
            have HA2 : Hid (∀ i, i < k + 1 → fErr q fs[i]! = 0) := fun i hi => by
              by_cases e : i = k
              · subst e; rw [HX.out, HER.out]; exact g
              · exact HA.out i (by omega)
            clear g
            go_wp2_with fail
            go_roundw
            case rel => exact ⟨k + 1, by omega, by go_num, HA2, hb15⟩
            case measure => simp [intOf]; omega
          · have b1 : (er != 0) = true := by simpa using g
            have E : Hid (er = bErr q fs) := by
              have h2 := bErr_fact HQ.out (by have := HL.out; omega) k (by have := HL.out; omega) HA.out (by rw [HX.out, HER.out]; exact g)
              rw [HX.out, HER.out] at h2
              exact h2.symm
            clear g
            go_wp2
            go_ret
            exact ⟨ret_err E.out, hB5⟩
        · obtain rfl : n = k := by omega
          go_wp2_with fail
          go_loopw [6] (fun i wx => ∃ k : Nat, i = .int .i64 k ∧ 1 ≤ k ∧ (k ≤ n ∨ k = 1) ∧ Hid (∀ r, r + 1 < k → fs[r]!.num < fs[r + 1]!.num) ∧ RowKit.Below w1.heap.size w1 wx) (fun i _ => n - (intOf i).toNat)
          case atStart => exact ⟨1, rfl, Nat.le_refl _, .inr rfl, fun r hr => by omega, hbk⟩
          case round =>
            clear hbk hBk hxk
            obtain ⟨k, rfl, hk1, hk2, HAS, hbk⟩ := hrel
            have hBk := hB1.trans (hbk.mono hB1.size)
            have hRk := h1.below hbk
            have s4 : wr.cell? ⟨w.heap.size, 4, none⟩ = some (.slice A n c) := (HX1.out.keep hbk).cell 4
            by_cases hlt2 : k < n
            · obtain ⟨b, off, x, hA, hbl, c0, _, _, _, _, HX⟩ := hRk.getF hlt2
              subst hA
              obtain ⟨p, hp⟩ : ∃ p, k - 1 = p := ⟨_, rfl⟩
              obtain ⟨b', off', y, hA, _, e0, _, _, _, _, HY⟩ := hRk.getF (i := p) (by omega)
              injection hA with hA
              injection hA with hA1 hA2
              subst hA1 hA2
              have u1 : IntKind.i64.wrap ((k : Int) - 1) = (p : Int) := (IntWalk.i64_in _ (by omega)).trans (by omega)
              have hp1 : p + 1 ≤ k := by omega
              have hp2 : k ≤ p + 1 := by omega
              have hki : (k : Int) < n := by omega
              have hpi : (p : Int) < n := by omega
              clear hp
              go_upto_region 15 with (fail)
              go_quiet (fail)
              by_cases g : x.num ≤ y.num
              · have d1 : decide (x.num ≤ y.num) = true := by simpa using g
                have E : Hid (9 = bErr q fs) := (bErr_order HQ.out (by have := HL.out; omega) (fun i hi => HA.out i (by have := HL.out; omega)) p (by have := HL.out; omega) (by rw [show p + 1 = k by omega, HX.out, HY.out]; omega)).symm
                go_wp2
                go_ret
                exact ⟨ret_err E.out, below_drewN hBk _⟩
              · have d1 : decide (x.num ≤ y.num) = false := by simpa using g
                have HAS2 : Hid (∀ r, r + 1 < k + 1 → fs[r]!.num < fs[r + 1]!.num) := fun r hr => by
                  by_cases e : r = p
                  · subst e; rw [show r + 1 = k by omega, HX.out, HY.out]; omega
                  · exact HAS.out r (by omega)
                clear u1
                go_wp2_with fail
                go_roundw
                case rel => exact ⟨k + 1, by go_num, by omega, .inl (by omega), HAS2, below_drewN hbk _⟩
                case measure => simp [intOf]; omega
            · have E : Hid (0 = bErr q fs) := (bErr_ok HQ.out (by have := HL.out; omega) (fun i hi => HA.out i (by have := HL.out; omega)) (fun r hr => HAS.out r (by have := HL.out; omega))).symm
              go_wp2
              go_ret
              exact ⟨ret_err E.out, hBk⟩
end Go.Proofs.YtdbcbbiplkikcaaGreat

namespace Go.Proofs.YtdbcbbiplkikcaaGreat
open Go.RowKit
set_option linter.unusedVariables false

def CmpN (x t : Int) (w : World) (e : Ending) (w' : World) : Prop := (∃ r : Int, e = .returned (.int .i64 r) ∧ decide (r < 0) = decide (x < t) ∧ (r == 0) = (x == t)) ∧ RowKit.Below w.heap.size w w'
theorem compareInt_tests (x y : Int) : decide (Lib.compareInt x y < 0) = decide (x < y) ∧ (Lib.compareInt x y == 0) = (x == y) := by
  unfold Lib.compareInt
  by_cases h : x < y
  · rw [if_pos h]
    refine ⟨by simp [h], ?_⟩
    have : (x == y) = false := by simp; omega
    rw [this]; rfl
  · rw [if_neg h]
    by_cases h2 : y < x
    · rw [if_pos h2]
      refine ⟨by simp; omega, ?_⟩
      have : (x == y) = false := by simp; omega
      rw [this]; rfl
    · rw [if_neg h2]
      refine ⟨by simp; omega, ?_⟩
      have : (x == y) = true := by simp; omega
      rw [this]; rfl
set_option maxRecDepth 100000 in
set_option maxHeartbeats 1000000 in
theorem cmpNum_any (x : Fct) (t : Int) (w : World) : Calls Tryz.prog 111 #[.agg #[.int .i64 x.num, .int .i64 x.kind, .int .i64 x.day, .int .i64 x.id, .int .i64 x.qty], .int .i64 t] w (CmpN x.num t w) := by
  have HC := Lib.hid (fun w => Tryz.cmp_Compare_int x.num t w)
  have HS := Lib.hid (compareInt_tests x.num t)
  generalize Lib.compareInt x.num t = r at *
  go_enter Tryz.func111, Tryz.ntmps111
  go_wp2_with fail
  refine (HC.out _).mono ?_
  rintro e w1 ⟨rfl, rfl⟩
  go_wp2
  go_ret
  exact ⟨⟨r, rfl, HS.out.1, HS.out.2⟩, (Below.refl _ _).alloc (Nat.le_refl _) _⟩
theorem num_lt {fs : List Fct} (h : numAsc fs) {i j : Nat} (hij : i < j) (hj : j < fs.length) : fs[i]!.num < fs[j]!.num := by
  induction j with
  | zero => omega
  | succ j ih =>
    have h1 := h j (by omega)
    by_cases e : i = j
    · subst e; exact h1
    · have := ih (by omega) (by omega); omega
theorem num_le {fs : List Fct} (h : numAsc fs) {i j : Nat} (hij : i ≤ j) (hj : j < fs.length) : fs[i]!.num ≤ fs[j]!.num := by
  by_cases e : i = j
  · subst e; exact Int.le_refl _
  · have := num_lt h (show i < j by omega) hj; omega
def BsRes (w : World) (fs : List Fct) (t : Int) (e : Ending) (w' : World) : Prop := ∃ (I : Nat) (b : Bool), e = .returned (.tuple #[.int .i64 I, .bool b]) ∧ I ≤ fs.length ∧ (∀ q, q < I → fs[q]!.num < t) ∧ (∀ q, I ≤ q → q < fs.length → t ≤ fs[q]!.num) ∧ (b = true ↔ (I < fs.length ∧ fs[I]!.num = t)) ∧ RowKit.Below w.heap.size w w'

set_option maxRecDepth 100000 in
set_option maxHeartbeats 4000000 in
theorem bsearch_any (A : Option Addr) (n c : Nat) (fs : List Fct) (t : Int) (w : World) (h : Recs encF 5 w A n fs) (hn : n ≤ 1000) (ha : numAsc fs) :
    Calls Tryz.prog 110 #[.slice A n c, .int .i64 t, .func (.func 111) #[] #[]] w (BsRes w fs t) := by
  have HL := Lib.hid h.1
  have HA := Lib.hid ha
  have HCM := Lib.hid (fun x w => cmpNum_any x t w)
  clear ha
  go_enter Tryz.func110, Tryz.ntmps110
  go_wp2
  go_loopw [9, 10] (fun i j wx => ∃ I J : Nat, i = .int .i64 I ∧ j = .int .i64 J ∧ I ≤ J ∧ J ≤ n ∧ Hid (∀ q, q < I → fs[q]!.num < t) ∧ Hid (∀ q, J ≤ q → q < n → t ≤ fs[q]!.num) ∧ RowKit.Below w.heap.size w wx) (fun i j _ => (intOf j).toNat - (intOf i).toNat)
  case atStart => exact ⟨0, n, rfl, rfl, Nat.zero_le _, Nat.le_refl _, fun q h1 => by omega, fun q h1 h2 => by omega, Below.refl _ _⟩
  case round =>
    obtain ⟨I, J, rfl, rfl, hIJ, hJ, HB, HC, hb⟩ := hrel
    by_cases hlt : I < J
    · go_upto_region 5 with (fail)
      obtain ⟨H, hH⟩ : ∃ q : Nat, ((I : Int) + (J : Int)) / 2 = (q : Int) := ⟨(I + J) / 2, by omega⟩
      have hH1 : I ≤ H := by omega
      have hH2 : H < J := by omega
      rw [hH]
      clear hH
      obtain ⟨b, off, x, hA, hbl, c0, c1, c2, c3, c4, HX⟩ := (h.below hb).getF (i := H) (by omega)
      subst hA
      have hHi : (H : Int) < n := by omega
      go_wp2_with fail
      refine (HCM.out x _).mono ?_
      rintro e w1 ⟨⟨r, rfl, hr1, hr2⟩, hb1⟩
      have hb2 := hb.trans (hb1.mono hb.size)
      clear c0 c1 c2 c3 c4 hb1 hr2
      by_cases g : x.num < t
      · have d1 : decide (r < 0) = true := by rw [hr1]; simpa using g
        have HB2 : Hid (∀ q, q < H + 1 → fs[q]!.num < t) := fun q hq => by
          have := num_le HA.out (show q ≤ H by omega) (by have := HL.out; omega)
          rw [HX.out] at this
          omega
        clear hr1 g
        go_wp2_with fail
        go_roundw
        case rel => exact ⟨H + 1, J, by go_num, rfl, by omega, hJ, HB2, HC, hb2⟩
        case measure => simp [intOf]; omega
      · have d1 : decide (r < 0) = false := by rw [hr1]; simpa using g
        have HC2 : Hid (∀ q, H ≤ q → q < n → t ≤ fs[q]!.num) := fun q h1 h2 => by
          have := num_le HA.out h1 (by have := HL.out; omega)
          rw [HX.out] at this
          omega
        clear hr1 g
        go_wp2_with fail
        go_roundw
        case rel => exact ⟨I, H, rfl, rfl, by omega, by omega, HB, HC2, hb2⟩
        case measure => simp [intOf]; omega
    · obtain rfl : I = J := by omega
      by_cases hIn : I < n
      · obtain ⟨b, off, x, hA, hbl, c0, c1, c2, c3, c4, HX⟩ := (h.below hb).getF hIn
        subst hA
        have hIi : (I : Int) < n := by omega
        go_wp2_with fail
        refine (HCM.out x _).mono ?_
        rintro e w1 ⟨⟨r, rfl, hr1, hr2⟩, hb1⟩
        have hb2 := hb.trans (hb1.mono hb.size)
        have HR2 := Lib.hid hr2
        have HIF : Hid ((r == 0) = true ↔ (I < fs.length ∧ fs[I]!.num = t)) := by
          show _ ↔ _
          rw [hr2, HX.out]
          constructor
          · intro h1
            exact ⟨by have := HL.out; omega, by simpa using h1⟩
          · intro h1
            simpa using h1.2
        clear hr1 hr2 hb1
        go_wp2
        go_ret2
        exact ⟨I, _, rfl, by have := HL.out; omega, HB.out, fun q h1 h2 => HC.out q h1 (by have := HL.out; omega), HIF.out, hb2⟩
      · obtain rfl : n = I := by omega
        have hd : decide (n < n) = false := by simp
        go_wp2
        go_ret2
        exact ⟨n, false, rfl, by have := HL.out; omega, HB.out, fun q h1 h2 => HC.out q h1 (by have := HL.out; omega), ⟨fun h1 => (by cases h1), fun h1 => (by have := HL.out; omega)⟩, hb⟩
end Go.Proofs.YtdbcbbiplkikcaaGreat

namespace Go.Proofs.YtdbcbbiplkikcaaGreat
open Go.RowKit Go.Shelf
set_option linter.unusedVariables false

theorem Recs.cells {α : Type} [Inhabited α] {enc : α → List Value} {k : Nat} (hk : ∀ x, (enc x).length = k) (hk0 : 0 < k) {w : World} {b off n : Nat} {xs : List α} (h : Recs enc k w (some ⟨b, off, none⟩) n xs) : ∀ j u, (flat enc xs)[j]? = some u → w.cell? ⟨b, off + j, none⟩ = some u := by
  intro j u hu
  have hl : (flat enc xs).length = n * k := by rw [flat_length hk, h.1]
  have hj : j < n * k := by
    rcases Nat.lt_or_ge j (n * k) with h1 | h1
    · exact h1
    · rw [List.getElem?_eq_none (by omega)] at hu; cases hu
  have hjk : j / k < n := (Nat.div_lt_iff_lt_mul hk0).2 hj
  have e1 : j / k * k + j % k = j := by have := Nat.div_add_mod j k; rw [Nat.mul_comm] at this; exact this
  have h2 := flat_get hk xs (j / k) (j % k) (by rw [h.1]; exact hjk) (Nat.mod_lt _ hk0)
  rw [e1, hu] at h2
  injection h2 with h2
  obtain ⟨b', off', e, hb, hc⟩ := h.2 (Nat.lt_of_le_of_lt (Nat.zero_le _) hjk)
  injection e with e
  injection e with e3 e4
  subst e3 e4
  have h3 := hc (j / k) hjk (j % k) (Nat.mod_lt _ hk0)
  rw [Nat.add_assoc, e1] at h3
  rw [h3, h2]
def Plain (A : Option Addr) : Prop := A = none ∨ ∃ b off, A = some ⟨b, off, none⟩
def ClRes (w : World) (n : Nat) (fs : List Fct) (e : Ending) (w' : World) : Prop := ∃ (B : Option Addr) (d : Nat), e = .returned (.slice B n d) ∧ w'.ownsRow w.heap.size 122 5 (.slice B n d) n (flat encF fs) ∧ RowKit.Below w.heap.size w w'
theorem cloneF_any (A : Option Addr) (n c : Nat) (fs : List Fct) (w : World) (h : Recs encF 5 w A n fs) (hA : Plain A) (hn : n ≤ 1000) (h0 : A = none → n = 0) :
    Calls Tryz.prog 48 #[.slice A n c] w (ClRes w n fs) := by
  rcases hA with rfl | ⟨b, off, rfl⟩
  · obtain rfl : n = 0 := h0 rfl
    obtain rfl : fs = [] := List.eq_nil_of_length_eq_zero h.1
    refine (AnyE.slices_Clone_nil Tryz.cloneF 0 c w).mono ?_
    rintro e w' ⟨rfl, rfl⟩
    exact ⟨none, 0, rfl, own_nilF _ _, Below.refl _ _⟩
  · obtain ⟨i0, hi, hz0, hz1, hz2⟩ := info_parts infoF
    refine (AnyE.slices_Clone Tryz.cloneF i0 _ 5 40 hi hz0 hz1 hz2 rfl (by decide) Tryz.sizeOf122 b off n c (flat encF fs) w (by rw [flat_length encF_len, h.1]) (by unfold maxLen; omega) (by omega) (Recs.cells encF_len (by omega) h) (fun u hu => by
      obtain ⟨x, _, hx⟩ := List.mem_flatMap.1 hu
      exact encF_one x u hx)).mono ?_
    rintro e w' ⟨v', rfl, ho, _, hb⟩
    obtain ⟨B, d, rfl⟩ := own_slice ho
    exact ⟨B, d, rfl, ho, hb⟩
end Go.Proofs.YtdbcbbiplkikcaaGreat

namespace Go.Proofs.YtdbcbbiplkikcaaGreat
open Go.RowKit
set_option linter.unusedVariables false

set_option maxRecDepth 100000 in
set_option maxHeartbeats 2000000 in
theorem new_ok (q : Qt) (w : World) (h : qOk q = true) : Calls Tryz.prog 15 #[.agg #[.int .i64 q.id, .int .i64 q.vol, .int .i64 q.fr, .int .i64 q.tod]] w fun e w' => e = .returned (.tuple #[.agg #[.int .i64 q.id, .int .i64 q.vol, .int .i64 q.fr, .int .i64 q.tod, .slice none 0 0], .int .i64 0]) ∧ RowKit.Below w.heap.size w w' := by
  have HV := Lib.hid (fun w => validQuota_any q w)
  rw [h] at HV
  clear h
  go_enter Tryz.func15, Tryz.ntmps15
  go_wp2_with fail
  refine (HV.out _).mono ?_
  rintro e w1 ⟨rfl, hb1⟩
  have hx := ((Bl.new w 27 #[.int .i64 q.id, .int .i64 q.vol, .int .i64 q.fr, .int .i64 q.tod]).alloc (.cells #[.int .i64 0, .int .i64 0, .int .i64 0, .int .i64 0, .slice none 0 0] 54)).keep hb1
  have hr : Bl w1 (w.heap.size + 1) 54 #[.int .i64 0, .int .i64 0, .int .i64 0, .int .i64 0, .slice none 0 0] := by
    have := (Bl.new (w.alloc (.cells #[.int .i64 q.id, .int .i64 q.vol, .int .i64 q.fr, .int .i64 q.tod] 27)) 54 #[.int .i64 0, .int .i64 0, .int .i64 0, .int .i64 0, .slice none 0 0]).keep hb1
    simpa using this
  have hB : RowKit.Below w.heap.size w w1 := by
    have h0 : RowKit.Below w.heap.size w ((w.alloc (.cells #[.int .i64 q.id, .int .i64 q.vol, .int .i64 q.fr, .int .i64 q.tod] 27)).alloc (.cells #[.int .i64 0, .int .i64 0, .int .i64 0, .int .i64 0, .slice none 0 0] 54)) := ((Below.refl _ _).alloc (Nat.le_refl _) _).alloc (by simp) _
    exact h0.trans (hb1.mono h0.size)
  clear hb1
  have a0 : w1.cell? ⟨w.heap.size, 0, none⟩ = some (.int .i64 q.id) := hx.cell 0
  have a1 : w1.cell? ⟨w.heap.size, 1, none⟩ = some (.int .i64 q.vol) := hx.cell 1
  have a2 : w1.cell? ⟨w.heap.size, 2, none⟩ = some (.int .i64 q.fr) := hx.cell 2
  have a3 : w1.cell? ⟨w.heap.size, 3, none⟩ = some (.int .i64 q.tod) := hx.cell 3
  have r0 : w1.cell? ⟨w.heap.size + 1, 0, none⟩ = some (.int .i64 0) := hr.cell 0
  have r1 : w1.cell? ⟨w.heap.size + 1, 1, none⟩ = some (.int .i64 0) := hr.cell 1
  have r2 : w1.cell? ⟨w.heap.size + 1, 2, none⟩ = some (.int .i64 0) := hr.cell 2
  have r3 : w1.cell? ⟨w.heap.size + 1, 3, none⟩ = some (.int .i64 0) := hr.cell 3
  have r4 : w1.cell? ⟨w.heap.size + 1, 4, none⟩ = some (.slice none 0 0) := hr.cell 4
  have f0 : w1.frozen? ⟨w.heap.size + 1, 0, none⟩ = false := hr.free 0
  have f1 : w1.frozen? ⟨w.heap.size + 1, 1, none⟩ = false := hr.free 1
  have f2 : w1.frozen? ⟨w.heap.size + 1, 2, none⟩ = false := hr.free 2
  have f3 : w1.frozen? ⟨w.heap.size + 1, 3, none⟩ = false := hr.free 3
  have f4 : w1.frozen? ⟨w.heap.size + 1, 4, none⟩ = false := hr.free 4
  clear hx hr
  go_wp2
  refine bodyPost_ret (v := .tuple #[.agg #[.int .i64 q.id, .int .i64 q.vol, .int .i64 q.fr, .int .i64 q.tod, .slice none 0 0], .int .i64 0]) (by simp [results, Tryz.results15, go_sem, r0, r1, r2, r3, r4]) rfl ⟨rfl, ?_⟩
  exact ((((hB.setCell (p := ⟨w.heap.size + 1, 0, none⟩) (by show w.heap.size ≤ w.heap.size + 1; omega) _).setCell (p := ⟨w.heap.size + 1, 1, none⟩) (by show w.heap.size ≤ w.heap.size + 1; omega) _).setCell (p := ⟨w.heap.size + 1, 2, none⟩) (by show w.heap.size ≤ w.heap.size + 1; omega) _).setCell (p := ⟨w.heap.size + 1, 3, none⟩) (by show w.heap.size ≤ w.heap.size + 1; omega) _).setCell (p := ⟨w.heap.size + 1, 4, none⟩) (by show w.heap.size ≤ w.heap.size + 1; omega) _

set_option maxRecDepth 100000 in
set_option maxHeartbeats 2000000 in
theorem new_bad (q : Qt) (w : World) (h : qOk q = false) : Calls Tryz.prog 15 #[.agg #[.int .i64 q.id, .int .i64 q.vol, .int .i64 q.fr, .int .i64 q.tod]] w fun e w' => e = .returned (.tuple #[.agg #[.int .i64 0, .int .i64 0, .int .i64 0, .int .i64 0, .slice none 0 0], .int .i64 2]) ∧ RowKit.Below w.heap.size w w' := by
  have HV := Lib.hid (fun w => validQuota_any q w)
  rw [h] at HV
  clear h
  go_enter Tryz.func15, Tryz.ntmps15
  go_wp2_with fail
  refine (HV.out _).mono ?_
  rintro e w1 ⟨rfl, hb1⟩
  have hx := ((Bl.new w 27 #[.int .i64 q.id, .int .i64 q.vol, .int .i64 q.fr, .int .i64 q.tod]).alloc (.cells #[.int .i64 0, .int .i64 0, .int .i64 0, .int .i64 0, .slice none 0 0] 54)).keep hb1
  have hr : Bl w1 (w.heap.size + 1) 54 #[.int .i64 0, .int .i64 0, .int .i64 0, .int .i64 0, .slice none 0 0] := by
    have := (Bl.new (w.alloc (.cells #[.int .i64 q.id, .int .i64 q.vol, .int .i64 q.fr, .int .i64 q.tod] 27)) 54 #[.int .i64 0, .int .i64 0, .int .i64 0, .int .i64 0, .slice none 0 0]).keep hb1
    simpa using this
  have hB : RowKit.Below w.heap.size w w1 := by
    have h0 : RowKit.Below w.heap.size w ((w.alloc (.cells #[.int .i64 q.id, .int .i64 q.vol, .int .i64 q.fr, .int .i64 q.tod] 27)).alloc (.cells #[.int .i64 0, .int .i64 0, .int .i64 0, .int .i64 0, .slice none 0 0] 54)) := ((Below.refl _ _).alloc (Nat.le_refl _) _).alloc (by simp) _
    exact h0.trans (hb1.mono h0.size)
  clear hb1
  have a0 : w1.cell? ⟨w.heap.size, 0, none⟩ = some (.int .i64 q.id) := hx.cell 0
  have a1 : w1.cell? ⟨w.heap.size, 1, none⟩ = some (.int .i64 q.vol) := hx.cell 1
  have a2 : w1.cell? ⟨w.heap.size, 2, none⟩ = some (.int .i64 q.fr) := hx.cell 2
  have a3 : w1.cell? ⟨w.heap.size, 3, none⟩ = some (.int .i64 q.tod) := hx.cell 3
  have r0 : w1.cell? ⟨w.heap.size + 1, 0, none⟩ = some (.int .i64 0) := hr.cell 0
  have r1 : w1.cell? ⟨w.heap.size + 1, 1, none⟩ = some (.int .i64 0) := hr.cell 1
  have r2 : w1.cell? ⟨w.heap.size + 1, 2, none⟩ = some (.int .i64 0) := hr.cell 2
  have r3 : w1.cell? ⟨w.heap.size + 1, 3, none⟩ = some (.int .i64 0) := hr.cell 3
  have r4 : w1.cell? ⟨w.heap.size + 1, 4, none⟩ = some (.slice none 0 0) := hr.cell 4
  have f0 : w1.frozen? ⟨w.heap.size + 1, 0, none⟩ = false := hr.free 0
  have f1 : w1.frozen? ⟨w.heap.size + 1, 1, none⟩ = false := hr.free 1
  have f2 : w1.frozen? ⟨w.heap.size + 1, 2, none⟩ = false := hr.free 2
  have f3 : w1.frozen? ⟨w.heap.size + 1, 3, none⟩ = false := hr.free 3
  have f4 : w1.frozen? ⟨w.heap.size + 1, 4, none⟩ = false := hr.free 4
  clear hx hr
  go_wp2
  refine bodyPost_ret (v := .tuple #[.agg #[.int .i64 0, .int .i64 0, .int .i64 0, .int .i64 0, .slice none 0 0], .int .i64 2]) (by simp [results, Tryz.results15, go_sem, r0, r1, r2, r3, r4]) rfl ⟨rfl, ?_⟩
  exact ((((hB.setCell (p := ⟨w.heap.size + 1, 0, none⟩) (by show w.heap.size ≤ w.heap.size + 1; omega) _).setCell (p := ⟨w.heap.size + 1, 1, none⟩) (by show w.heap.size ≤ w.heap.size + 1; omega) _).setCell (p := ⟨w.heap.size + 1, 2, none⟩) (by show w.heap.size ≤ w.heap.size + 1; omega) _).setCell (p := ⟨w.heap.size + 1, 3, none⟩) (by show w.heap.size ≤ w.heap.size + 1; omega) _).setCell (p := ⟨w.heap.size + 1, 4, none⟩) (by show w.heap.size ≤ w.heap.size + 1; omega) _
end Go.Proofs.YtdbcbbiplkikcaaGreat

namespace Go.Proofs.YtdbcbbiplkikcaaGreat
open Go.RowKit
set_option linter.unusedVariables false

end Go.Proofs.YtdbcbbiplkikcaaGreat

namespace Go.Proofs.YtdbcbbiplkikcaaGreat
open Go.RowKit Go.Shelf
set_option linter.unusedVariables false

section
variable {P : Program}
structure Over (w w' : World) (g : Nat) : Prop where
  os : w'.os = w.os
  tape : w'.tape = w.tape
  output : w'.output = w.output
  size : w'.heap.size = w.heap.size
  other : ∀ k, k ≠ g → w'.heap[k]? = w.heap[k]?

theorem over_setRow (w : World) (g : Nat) (cs : Array Value) : Over w (w.setRow g cs) g := ⟨rfl, rfl, rfl, by simp [World.setRow], fun k hk => setRow_other w g k cs (by omega)⟩
theorem Over.below {w w' : World} {g B : Nat} (h : Over w w' g) (hB : B ≤ g) : RowKit.Below B w w' :=
  ⟨h.os, h.tape, h.output, by rw [h.size]; exact Nat.le_refl _, fun k hk => h.other k (by omega)⟩

theorem run_copy_rowK (w : World) (dT sT ty elem : TypeId) (k g o dLen dCap : Nat) (a : Addr) (sLen sCap : Nat) (cur : List Value) (t : TypeId) (cs : List Value)
    (hu : P.underlying dT = some (.slice elem)) (hs : (P.info? elem).map (·.size) = some k)
    (hg : w.heap[g]? = some (.cells cur.toArray t (0, 0))) (hn : cs.length = Nat.min sLen dLen * k)
    (hsrc : ∀ j v, cs[j]? = some v → w.cell? (a.add j) = some v) (hfit : o + cs.length ≤ cur.length) (h1 : ∀ v ∈ cs, v.oneCell' = true) :
    (Builtin.copy_ #[dT, sT] ty #[.slice (some ⟨g, o, none⟩) dLen dCap, .slice (some a) sLen sCap]).run P w =
      .ok (goInt (Nat.min sLen dLen)) (w.setRow g (splice cur o cs).toArray) := by
  have hl := run_loadCells_list (P := P) w a cs hsrc
  have hst := run_storeCells_at P g o t cs 0 cur.toArray w hg (by simpa using hfit) h1
  cases hq : P.info? elem with
  | none => simp [hq] at hs
  | some i =>
    have hi : i.size = k := by simpa [hq] using hs
    simp [Builtin.copy_, run_underlying hu, Builtin.lenOf, Builtin.firstCells, sizeOf, typeInfo, hq, hi, ← hn, hl, hst, splice]

theorem step_copyK {ops : Array Oper} {o : Oper} {a : Act} {w : World} {K : Act → World → Prop} {Q : Exit → Act → World → Prop} {E : Prop}
    (hgd : o.guard = none) (d s : Operand) (dT sT : TypeId)
    (ho : o.op = .call { callee := .builtin .copy, args := #[d, s], argTypes := #[dT, sT] }) (elem : TypeId) (k : Nat) (hu : P.underlying dT = some (.slice elem)) (hsz : (P.info? elem).map (·.size) = some k)
    (g off dLen dCap : Nat) (ad : Addr) (sLen sCap : Nat) (hd : a.eval d = .slice (some ⟨g, off, none⟩) dLen dCap) (hs : a.eval s = .slice (some ad) sLen sCap)
    (cur : List Value) (t : TypeId) (hg : w.heap[g]? = some (.cells cur.toArray t (0, 0))) (cs : List Value) (hn : cs.length = Nat.min sLen dLen * k)
    (hsrc : ∀ j v, cs[j]? = some v → w.cell? (ad.add j) = some v) (hfit : off + cs.length ≤ cur.length) (h1 : ∀ v ∈ cs, v.oneCell' = true)
    (h : ∀ w', Hid (w'.heap[g]? = some (.cells (splice cur off cs).toArray t (0, 0))) → Over w w' g → K (a.put o.dst (goInt (Nat.min sLen dLen))) w') :
    if Region.wanted o (yielded ops a.tmps) = true then Oper.wp P o a w K Q else E := by
  have hw : Region.wanted o (yielded ops a.tmps) = true := by simp [Region.wanted, hgd]
  rw [if_pos hw]
  have hrun := run_copy_rowK (P := P) w dT sT o.type elem k g off dLen dCap ad sLen sCap cur t cs hu hsz hg hn hsrc hfit h1
  unfold Oper.wp execOp
  simp only [ho, resolve, invoke, builtin, Sem.run_bind, Sem.run_pure, Result.andThen_ok, List.map_toArray, List.map_cons, List.map_nil, hd, hs, hrun]
  exact h _ (show _ = _ from setRow_heap w g _ _ t _ hg) (over_setRow w g _)
end
end Go.Proofs.YtdbcbbiplkikcaaGreat

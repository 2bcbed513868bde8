/-
  Contracts of quotabook.validQuota, of the reference's ValidQuota and of quotabook.validateFact. No statement of the seat is proved here. No conditions.
-/
import Derived.Test.YtemhiifgplaldaaMJ
namespace Go.Proofs.Ytemhiifgplaldaa
open Go.RowKit
set_option linter.unusedVariables false

/-- A quota. -/
structure Qt where
  id : Int
  vol : Int
  fr : Int
  tod : Int
deriving Inhabited, DecidableEq
def qOk (q : Qt) : Bool := decide (1 ≤ q.id ∧ q.id ≤ 1000000 ∧ 0 ≤ q.vol ∧ q.vol ≤ 100000000000 ∧ 0 ≤ q.fr ∧ q.fr < q.tod ∧ q.tod ≤ 36525)
theorem qOk_yes {q : Qt} (h : qOk q = true) : 1 ≤ q.id ∧ q.id ≤ 1000000 ∧ 0 ≤ q.vol ∧ q.vol ≤ 100000000000 ∧ 0 ≤ q.fr ∧ q.fr < q.tod ∧ q.tod ≤ 36525 := of_decide_eq_true h
/-- The error of a fact about a quota. -/
def fErr (q : Qt) (x : Fct) : Int :=
  if x.num < 1 ∨ 1000000000 < x.num ∨ x.kind < 1 ∨ 4 < x.kind ∨ x.day < 0 ∨ 36524 < x.day ∨ x.qty < 0 ∨ 1000000000 < x.qty then 2
  else if x.kind = 4 ∧ x.id ≠ 0 then 2
  else if x.kind ≠ 4 ∧ (x.id < 1 ∨ 1000000 < x.id) then 2
  else if (x.kind = 1 ∨ x.kind = 4) ∧ (x.day < q.fr ∨ q.tod ≤ x.day) then 15 else 0
theorem fErr_zero {q : Qt} {x : Fct} (h : fErr q x = 0) : FOk x ∧ 1 ≤ x.num ∧ (x.kind = 1 → 1 ≤ x.id) ∧ (x.kind = 4 → x.id = 0) ∧ (x.kind ≠ 4 → 1 ≤ x.id) := by
  unfold fErr at h
  split at h
  · omega
  split at h
  · omega
  split at h
  · omega
  unfold FOk
  omega
def BRes (w : World) (b : Bool) (e : Ending) (w' : World) : Prop := e = .returned (.bool b) ∧ RowKit.Below w.heap.size w w'
def ERes (w : World) (er : Int) (e : Ending) (w' : World) : Prop := e = .returned (.int .i64 er) ∧ RowKit.Below w.heap.size w w'
theorem ret_bool' {a b : Bool} (h : a = b) : Ending.returned (.bool a) = .returned (.bool b) := by rw [h]
theorem ret_err {a b : Int} (h : a = b) : Ending.returned (.int .i64 a) = .returned (.int .i64 b) := by rw [h]

set_option maxRecDepth 100000 in
set_option maxHeartbeats 4000000 in
theorem validQuota_any (q : Qt) (w : World) : Calls Try.prog 25 #[.agg #[.int .i64 q.id, .int .i64 q.vol, .int .i64 q.fr, .int .i64 q.tod]] w (BRes w (qOk q)) := by
  have hb : RowKit.Below w.heap.size w (w.alloc (.cells #[.int .i64 q.id, .int .i64 q.vol, .int .i64 q.fr, .int .i64 q.tod] 23)) := (Below.refl _ _).alloc (Nat.le_refl _) _
  by_cases g0 : 1 ≤ q.id
  case neg =>
    have d0 : decide (1 ≤ q.id) = false := by simpa using g0
    have E : Hid (false = qOk q) := (decide_eq_false (by omega)).symm
    go_enter Try.func25, Try.ntmps25
    go_wp2
    go_ret
    exact ⟨ret_bool' E.out, hb⟩
  have d0 : decide (1 ≤ q.id) = true := by simpa using g0
  by_cases g1 : q.id ≤ 1000000
  case neg =>
    have d1 : decide (q.id ≤ 1000000) = false := by simpa using g1
    have E : Hid (false = qOk q) := (decide_eq_false (by omega)).symm
    go_enter Try.func25, Try.ntmps25
    go_wp2
    go_ret
    exact ⟨ret_bool' E.out, hb⟩
  have d1 : decide (q.id ≤ 1000000) = true := by simpa using g1
  by_cases g2 : 0 ≤ q.vol
  case neg =>
    have d2 : decide (0 ≤ q.vol) = false := by simpa using g2
    have E : Hid (false = qOk q) := (decide_eq_false (by omega)).symm
    go_enter Try.func25, Try.ntmps25
    go_wp2
    go_ret
    exact ⟨ret_bool' E.out, hb⟩
  have d2 : decide (0 ≤ q.vol) = true := by simpa using g2
  by_cases g3 : q.vol ≤ 100000000000
  case neg =>
    have d3 : decide (q.vol ≤ 100000000000) = false := by simpa using g3
    have E : Hid (false = qOk q) := (decide_eq_false (by omega)).symm
    go_enter Try.func25, Try.ntmps25
    go_wp2
    go_ret
    exact ⟨ret_bool' E.out, hb⟩
  have d3 : decide (q.vol ≤ 100000000000) = true := by simpa using g3
  by_cases g4 : 0 ≤ q.fr
  case neg =>
    have d4 : decide (0 ≤ q.fr) = false := by simpa using g4
    have E : Hid (false = qOk q) := (decide_eq_false (by omega)).symm
    go_enter Try.func25, Try.ntmps25
    go_wp2
    go_ret
    exact ⟨ret_bool' E.out, hb⟩
  have d4 : decide (0 ≤ q.fr) = true := by simpa using g4
  by_cases g5 : q.fr < q.tod
  case neg =>
    have d5 : decide (q.fr < q.tod) = false := by simpa using g5
    have E : Hid (false = qOk q) := (decide_eq_false (by omega)).symm
    go_enter Try.func25, Try.ntmps25
    go_wp2
    go_ret
    exact ⟨ret_bool' E.out, hb⟩
  have d5 : decide (q.fr < q.tod) = true := by simpa using g5
  by_cases g6 : q.tod ≤ 36525
  case neg =>
    have d6 : decide (q.tod ≤ 36525) = false := by simpa using g6
    have E : Hid (false = qOk q) := (decide_eq_false (by omega)).symm
    go_enter Try.func25, Try.ntmps25
    go_wp2
    go_ret
    exact ⟨ret_bool' E.out, hb⟩
  have d6 : decide (q.tod ≤ 36525) = true := by simpa using g6
  have E : Hid (true = qOk q) := (decide_eq_true (by omega)).symm
  go_enter Try.func25, Try.ntmps25
  go_wp2
  go_ret
  exact ⟨ret_bool' E.out, hb⟩

set_option maxRecDepth 100000 in
set_option maxHeartbeats 4000000 in
theorem rvalidQuota_any (q : Qt) (w : World) : Calls Try.prog 11 #[.agg #[.int .i64 q.id, .int .i64 q.vol, .int .i64 q.fr, .int .i64 q.tod]] w (BRes w (qOk q)) := by
  have hb : RowKit.Below w.heap.size w (w.alloc (.cells #[.int .i64 q.id, .int .i64 q.vol, .int .i64 q.fr, .int .i64 q.tod] 23)) := (Below.refl _ _).alloc (Nat.le_refl _) _
  by_cases g0 : 1 ≤ q.id
  case neg =>
    have d0 : decide (1 ≤ q.id) = false := by simpa using g0
    have E : Hid (false = qOk q) := (decide_eq_false (by omega)).symm
    go_enter Try.func11, Try.ntmps11
    go_wp2
    go_ret
    exact ⟨ret_bool' E.out, hb⟩
  have d0 : decide (1 ≤ q.id) = true := by simpa using g0
  by_cases g1 : q.id ≤ 1000000
  case neg =>
    have d1 : decide (q.id ≤ 1000000) = false := by simpa using g1
    have E : Hid (false = qOk q) := (decide_eq_false (by omega)).symm
    go_enter Try.func11, Try.ntmps11
    go_wp2
    go_ret
    exact ⟨ret_bool' E.out, hb⟩
  have d1 : decide (q.id ≤ 1000000) = true := by simpa using g1
  by_cases g2 : 0 ≤ q.vol
  case neg =>
    have d2 : decide (0 ≤ q.vol) = false := by simpa using g2
    have E : Hid (false = qOk q) := (decide_eq_false (by omega)).symm
    go_enter Try.func11, Try.ntmps11
    go_wp2
    go_ret
    exact ⟨ret_bool' E.out, hb⟩
  have d2 : decide (0 ≤ q.vol) = true := by simpa using g2
  by_cases g3 : q.vol ≤ 100000000000
  case neg =>
    have d3 : decide (q.vol ≤ 100000000000) = false := by simpa using g3
    have E : Hid (false = qOk q) := (decide_eq_false (by omega)).symm
    go_enter Try.func11, Try.ntmps11
    go_wp2
    go_ret
    exact ⟨ret_bool' E.out, hb⟩
  have d3 : decide (q.vol ≤ 100000000000) = true := by simpa using g3
  by_cases g4 : 0 ≤ q.fr
  case neg =>
    have d4 : decide (0 ≤ q.fr) = false := by simpa using g4
    have E : Hid (false = qOk q) := (decide_eq_false (by omega)).symm
    go_enter Try.func11, Try.ntmps11
    go_wp2
    go_ret
    exact ⟨ret_bool' E.out, hb⟩
  have d4 : decide (0 ≤ q.fr) = true := by simpa using g4
  by_cases g5 : q.fr < q.tod
  case neg =>
    have d5 : decide (q.fr < q.tod) = false := by simpa using g5
    have E : Hid (false = qOk q) := (decide_eq_false (by omega)).symm
    go_enter Try.func11, Try.ntmps11
    go_wp2
    go_ret
    exact ⟨ret_bool' E.out, hb⟩
  have d5 : decide (q.fr < q.tod) = true := by simpa using g5
  by_cases g6 : q.tod ≤ 36525
  case neg =>
    have d6 : decide (q.tod ≤ 36525) = false := by simpa using g6
    have E : Hid (false = qOk q) := (decide_eq_false (by omega)).symm
    go_enter Try.func11, Try.ntmps11
    go_wp2
    go_ret
    exact ⟨ret_bool' E.out, hb⟩
  have d6 : decide (q.tod ≤ 36525) = true := by simpa using g6
  have E : Hid (true = qOk q) := (decide_eq_true (by omega)).symm
  go_enter Try.func11, Try.ntmps11
  go_wp2
  go_ret
  exact ⟨ret_bool' E.out, hb⟩

set_option maxRecDepth 100000 in
set_option maxHeartbeats 4000000 in
theorem validateFact_any (q : Qt) (x : Fct) (w : World) : Calls Try.prog 33 #[.agg #[.int .i64 q.id, .int .i64 q.vol, .int .i64 q.fr, .int .i64 q.tod], .agg #[.int .i64 x.num, .int .i64 x.kind, .int .i64 x.day, .int .i64 x.id, .int .i64 x.qty]] w (ERes w (fErr q x)) := by
  have hb : RowKit.Below w.heap.size w ((w.alloc (.cells #[.int .i64 q.id, .int .i64 q.vol, .int .i64 q.fr, .int .i64 q.tod] 23)).alloc (.cells #[.int .i64 x.num, .int .i64 x.kind, .int .i64 x.day, .int .i64 x.id, .int .i64 x.qty] 39)) := ((Below.refl _ _).alloc (Nat.le_refl _) _).alloc (by simp) _
  by_cases g0 : x.num < 1
  · have d0 : decide (x.num < 1) = true := by simpa using g0
    have E : Hid ((2 : Int) = fErr q x) := by
      show _ = _
      unfold fErr
      rw [if_pos (by omega)]
    go_enter Try.func33, Try.ntmps33
    go_wp2
    go_ret
    exact ⟨ret_err E.out, hb⟩
  have d0 : decide (x.num < 1) = false := by simpa using g0
  by_cases g1 : 1000000000 < x.num
  · have d1 : decide (1000000000 < x.num) = true := by simpa using g1
    have E : Hid ((2 : Int) = fErr q x) := by
      show _ = _
      unfold fErr
      rw [if_pos (by omega)]
    go_enter Try.func33, Try.ntmps33
    go_wp2
    go_ret
    exact ⟨ret_err E.out, hb⟩
  have d1 : decide (1000000000 < x.num) = false := by simpa using g1
  by_cases g2 : x.kind < 1
  · have d2 : decide (x.kind < 1) = true := by simpa using g2
    have E : Hid ((2 : Int) = fErr q x) := by
      show _ = _
      unfold fErr
      rw [if_pos (by omega)]
    go_enter Try.func33, Try.ntmps33
    go_wp2
    go_ret
    exact ⟨ret_err E.out, hb⟩
  have d2 : decide (x.kind < 1) = false := by simpa using g2
  by_cases g3 : 4 < x.kind
  · have d3 : decide (4 < x.kind) = true := by simpa using g3
    have E : Hid ((2 : Int) = fErr q x) := by
      show _ = _
      unfold fErr
      rw [if_pos (by omega)]
    go_enter Try.func33, Try.ntmps33
    go_wp2
    go_ret
    exact ⟨ret_err E.out, hb⟩
  have d3 : decide (4 < x.kind) = false := by simpa using g3
  by_cases g4 : x.day < 0
  · have d4 : decide (x.day < 0) = true := by simpa using g4
    have E : Hid ((2 : Int) = fErr q x) := by
      show _ = _
      unfold fErr
      rw [if_pos (by omega)]
    go_enter Try.func33, Try.ntmps33
    go_wp2
    go_ret
    exact ⟨ret_err E.out, hb⟩
  have d4 : decide (x.day < 0) = false := by simpa using g4
  by_cases g5 : 36524 < x.day
  · have d5 : decide (36524 < x.day) = true := by simpa using g5
    have E : Hid ((2 : Int) = fErr q x) := by
      show _ = _
      unfold fErr
      rw [if_pos (by omega)]
    go_enter Try.func33, Try.ntmps33
    go_wp2
    go_ret
    exact ⟨ret_err E.out, hb⟩
  have d5 : decide (36524 < x.day) = false := by simpa using g5
  by_cases g6 : x.qty < 0
  · have d6 : decide (x.qty < 0) = true := by simpa using g6
    have E : Hid ((2 : Int) = fErr q x) := by
      show _ = _
      unfold fErr
      rw [if_pos (by omega)]
    go_enter Try.func33, Try.ntmps33
    go_wp2
    go_ret
    exact ⟨ret_err E.out, hb⟩
  have d6 : decide (x.qty < 0) = false := by simpa using g6
  by_cases g7 : 1000000000 < x.qty
  · have d7 : decide (1000000000 < x.qty) = true := by simpa using g7
    have E : Hid ((2 : Int) = fErr q x) := by
      show _ = _
      unfold fErr
      rw [if_pos (by omega)]
    go_enter Try.func33, Try.ntmps33
    go_wp2
    go_ret
    exact ⟨ret_err E.out, hb⟩
  have d7 : decide (1000000000 < x.qty) = false := by simpa using g7
  by_cases k4 : x.kind = 4
  · have b4 : (x.kind == 4) = true := by simpa using k4
    have b1 : (x.kind == 1) = false := by simp; omega
    by_cases i0 : x.id = 0
    case neg =>
      have c0 : (x.id != 0) = true := by simpa using i0
      have E : Hid ((2 : Int) = fErr q x) := by
        show _ = _
        unfold fErr
        rw [if_neg (by omega), if_pos (by omega)]
      clear k4
      go_enter Try.func33, Try.ntmps33
      go_wp2
      go_ret
      exact ⟨ret_err E.out, hb⟩
    have c0 : (x.id != 0) = false := by simpa using i0
    by_cases p1 : x.day < q.fr
    · have e1 : decide (x.day < q.fr) = true := by simpa using p1
      have E : Hid ((15 : Int) = fErr q x) := by
        show _ = _
        unfold fErr
        rw [if_neg (by omega), if_neg (by omega), if_neg (by omega), if_pos (by omega)]
      clear k4 i0
      go_enter Try.func33, Try.ntmps33
      go_wp2
      go_ret
      exact ⟨ret_err E.out, hb⟩
    have e1 : decide (x.day < q.fr) = false := by simpa using p1
    by_cases p2 : q.tod ≤ x.day
    · have e2 : decide (q.tod ≤ x.day) = true := by simpa using p2
      have E : Hid ((15 : Int) = fErr q x) := by
        show _ = _
        unfold fErr
        rw [if_neg (by omega), if_neg (by omega), if_neg (by omega), if_pos (by omega)]
      clear k4 i0
      go_enter Try.func33, Try.ntmps33
      go_wp2
      go_ret
      exact ⟨ret_err E.out, hb⟩
    have e2 : decide (q.tod ≤ x.day) = false := by simpa using p2
    have E : Hid ((0 : Int) = fErr q x) := by
      show _ = _
      unfold fErr
      rw [if_neg (by omega), if_neg (by omega), if_neg (by omega), if_neg (by omega)]
    clear k4 i0
    go_enter Try.func33, Try.ntmps33
    go_wp2
    go_ret
    exact ⟨ret_err E.out, hb⟩
  have b4 : (x.kind == 4) = false := by simpa using k4
  by_cases i1 : x.id < 1
  · have c1 : decide (x.id < 1) = true := by simpa using i1
    have E : Hid ((2 : Int) = fErr q x) := by
      show _ = _
      unfold fErr
      rw [if_neg (by omega), if_neg (by omega), if_pos (by omega)]
    go_enter Try.func33, Try.ntmps33
    go_wp2
    go_ret
    exact ⟨ret_err E.out, hb⟩
  have c1 : decide (x.id < 1) = false := by simpa using i1
  by_cases i2 : 1000000 < x.id
  · have c2 : decide (1000000 < x.id) = true := by simpa using i2
    have E : Hid ((2 : Int) = fErr q x) := by
      show _ = _
      unfold fErr
      rw [if_neg (by omega), if_neg (by omega), if_pos (by omega)]
    go_enter Try.func33, Try.ntmps33
    go_wp2
    go_ret
    exact ⟨ret_err E.out, hb⟩
  have c2 : decide (1000000 < x.id) = false := by simpa using i2
  by_cases k1 : x.kind = 1
  · have b1 : (x.kind == 1) = true := by simpa using k1
    by_cases p1 : x.day < q.fr
    · have e1 : decide (x.day < q.fr) = true := by simpa using p1
      have E : Hid ((15 : Int) = fErr q x) := by
        show _ = _
        unfold fErr
        rw [if_neg (by omega), if_neg (by omega), if_neg (by omega), if_pos (by omega)]
      clear k1
      go_enter Try.func33, Try.ntmps33
      go_wp2
      go_ret
      exact ⟨ret_err E.out, hb⟩
    have e1 : decide (x.day < q.fr) = false := by simpa using p1
    by_cases p2 : q.tod ≤ x.day
    · have e2 : decide (q.tod ≤ x.day) = true := by simpa using p2
      have E : Hid ((15 : Int) = fErr q x) := by
        show _ = _
        unfold fErr
        rw [if_neg (by omega), if_neg (by omega), if_neg (by omega), if_pos (by omega)]
      clear k1
      go_enter Try.func33, Try.ntmps33
      go_wp2
      go_ret
      exact ⟨ret_err E.out, hb⟩
    have e2 : decide (q.tod ≤ x.day) = false := by simpa using p2
    have E : Hid ((0 : Int) = fErr q x) := by
      show _ = _
      unfold fErr
      rw [if_neg (by omega), if_neg (by omega), if_neg (by omega), if_neg (by omega)]
    clear k1
    go_enter Try.func33, Try.ntmps33
    go_wp2
    go_ret
    exact ⟨ret_err E.out, hb⟩
  have b1 : (x.kind == 1) = false := by simpa using k1
  have E : Hid ((0 : Int) = fErr q x) := by
    show _ = _
    unfold fErr
    rw [if_neg (by omega), if_neg (by omega), if_neg (by omega), if_neg (by omega)]
  go_enter Try.func33, Try.ntmps33
  go_wp2
  go_ret
  exact ⟨ret_err E.out, hb⟩

end Go.Proofs.Ytemhiifgplaldaa

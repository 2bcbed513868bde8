/-
  Contracts of the reference's Div, MulDiv (customsref01), Amount (customsref02), Cross and Convert (customsref04), at the mode HalfUp. No statement of the seat is proved here. Conditions: the numbers are in range.
-/
import Derived.Test.YtknbbamlpadfdaaRCur17b
import Derived.Test.YtknbbamlpadfdaaRefDiv
import Derived.Test.YtknbbamlpadfdaaMath17
namespace Go.Proofs.Ytknbbamlpadfdaa
open Go.RowKit
set_option linter.unusedVariables false

set_option maxHeartbeats 1000000 in
theorem ramount_any (x : Int) (w : World) (h0 : 0 ≤ x) : Calls Try.prog 47 #[.int .i64 x] w fun e w' => e = .returned (.bool (decide (x ≤ 1000000000000))) ∧ w = w' := by
  have d0 : decide (-1000000000000 ≤ x) = true := by simp; omega
  go_enter Try.func47, Try.ntmps47
  go_wp2
  go_ret
  exact ⟨rfl, rfl⟩

theorem divOut_small (N c : Int) (h0 : 0 ≤ N) (hc : 0 < c) (hN : N < c * 4611686018427387904) : divOut N c 2 = (if c - N % c ≤ N % c then N / c + 1 else N / c, 0) := by
  have hq : N / c < 4611686018427387904 := Int.ediv_lt_of_lt_mul hc (by rw [Int.mul_comm]; exact hN)
  unfold divOut raisedB
  rw [if_neg (by omega), if_neg]
  · simp
    by_cases h : c - N % c ≤ N % c
    · rw [if_pos h, if_pos h, if_neg (by omega)]
    · rw [if_neg h, if_neg h]
  · intro h
    have h1 : N / 18446744073709551616 < c := Int.ediv_lt_of_lt_mul (by omega) (by omega)
    omega

set_option maxRecDepth 100000 in
set_option maxHeartbeats 4000000 in
theorem rdiv_any (N c : Int) (w : World) (h0 : 0 ≤ N) (hc : 0 < c) (hc1 : c ≤ 1000000000000) (hN : N < c * 4611686018427387904) :
    Calls Try.prog 72 #[.agg #[.int .u64 (N / 18446744073709551616), .int .u64 (N % 18446744073709551616)], .int .u64 c, .int .i64 2] w fun e w' => e = .returned (.tuple #[.int .u64 (divOut N c 2).1, .int .i64 (divOut N c 2).2]) ∧ RowKit.Below w.heap.size w w' := by
  rw [divOut_small N c h0 hc hN]
  have hq : N / c < 4611686018427387904 := Int.ediv_lt_of_lt_mul hc (by rw [Int.mul_comm]; exact hN)
  have hq0 : 0 ≤ N / c := Int.ediv_nonneg h0 (by omega)
  have hr0 : 0 ≤ N % c := Int.emod_nonneg _ (by omega)
  have hr1 : N % c < c := Int.emod_lt_of_pos _ hc
  have a1 : 0 ≤ N / 18446744073709551616 := Int.ediv_nonneg h0 (by omega)
  have a2 : N / 18446744073709551616 ≤ 18446744073709551615 := by omega
  have a3 : 0 ≤ N % 18446744073709551616 := by omega
  have a4 : N % 18446744073709551616 ≤ 18446744073709551615 := by omega
  have e1 : N / 18446744073709551616 * 18446744073709551616 + N % 18446744073709551616 = N := by omega
  have HD := Lib.hid (fun w => rdivmod_any (N / 18446744073709551616) (N % 18446744073709551616) c w a1 a2 a3 a4 hc (by omega))
  have e2 : N / c / 18446744073709551616 = 0 := by omega
  have e3 : N / c % 18446744073709551616 = N / c := by omega
  simp only [e1, e2, e3] at HD
  have HA : Hid (∀ w : World, Calls Try.prog 61 #[.agg #[.int .u64 0, .int .u64 (N / c)], .agg #[.int .u64 0, .int .u64 1]] w (AddRes w 0 (N / c + 1))) := fun w => by
    have := radd_val (N / c) 1 w hq0 (by omega) (by omega)
    rw [e2, e3, show (1 : Int) / 18446744073709551616 = 0 by omega, show (1 : Int) % 18446744073709551616 = 1 by omega, show (N / c + 1) / 18446744073709551616 = 0 by omega, show (N / c + 1) % 18446744073709551616 = N / c + 1 by omega] at this
    exact this
  clear e1 e2 e3
  generalize N / 18446744073709551616 = hi at *
  generalize N % 18446744073709551616 = lo at *
  generalize N / c = q at *
  generalize N % c = r at *
  have bc : (c == 0) = false := by simp; omega
  by_cases g : c - r ≤ r
  · rw [if_pos g]
    have d : decide (c - r ≤ r) = true := by simpa using g
    go_enter Try.func72, Try.ntmps72
    go_wp2_with fail
    refine (HD.out _).mono ?_
    rintro e w1 ⟨rfl, hb1⟩
    go_wp2_with fail
    refine (HA.out _).mono ?_
    rintro e w2 ⟨ov, rfl, hb2⟩
    have HBl := (Bl.new w1 85 #[.int .u64 0, .int .u64 q]).keep hb2
    have c0 : w2.cell? ⟨w1.heap.size, 0, none⟩ = some (.int .u64 0) := HBl.cell 0
    have c1 : w2.cell? ⟨w1.heap.size, 1, none⟩ = some (.int .u64 q) := HBl.cell 1
    have f0 : w2.frozen? ⟨w1.heap.size, 0, none⟩ = false := HBl.free 0
    have f1 : w2.frozen? ⟨w1.heap.size, 1, none⟩ = false := HBl.free 1
    have hz1 : w.heap.size + 1 ≤ w1.heap.size := by have := hb1.size; simp at this; omega
    have HB := Lib.hid ((((((Below.refl _ _).alloc (Nat.le_refl _) _).trans (hb1.mono (by simp))).alloc (by omega) _).trans (hb2.mono (by simp; omega))) : RowKit.Below w.heap.size w w2)
    have hz2 : w.heap.size ≤ w1.heap.size := by omega
    go_wp2
    go_ret2
    exact ⟨rfl, ((HB.out.setCell (p := ⟨w1.heap.size, 0, none⟩) hz2 _).setCell (p := ⟨w1.heap.size, 1, none⟩) hz2 _)⟩
  · rw [if_neg g]
    have d : decide (c - r ≤ r) = false := by simpa using g
    go_enter Try.func72, Try.ntmps72
    go_wp2_with fail
    refine (HD.out _).mono ?_
    rintro e w1 ⟨rfl, hb1⟩
    go_wp2
    go_ret2
    exact ⟨rfl, (((Below.refl _ _).alloc (Nat.le_refl _) _).trans (hb1.mono (by simp))).alloc (by have := hb1.size; simp at this; omega) _⟩

theorem rmuldiv17_any (a b c : Int) (w : World) (ha : 0 ≤ a) (ha' : a ≤ 1000000000000) (hb : 0 ≤ b) (hb' : b ≤ 1000000000) (hc : 1000000 ≤ c) (hc' : c ≤ 1000000000000) :
    Calls Try.prog 60 #[.int .u64 a, .int .u64 b, .int .u64 c, .int .i64 2] w fun e w' => e = .returned (.tuple #[.int .u64 (divOut (a * b) c 2).1, .int .i64 (divOut (a * b) c 2).2]) ∧ RowKit.Below w.heap.size w w' := by
  have h0 : 0 ≤ a * b := Int.mul_nonneg ha hb
  have h1 : a * b ≤ 1000000000000 * 1000000000 := Int.le_trans (Int.mul_le_mul_of_nonneg_right ha' hb) (Int.mul_le_mul_of_nonneg_left hb' (by omega))
  have HM := Lib.hid (fun w => rmul_any a b w ha (by omega) hb (by omega))
  have HD := Lib.hid (fun w => rdiv_any (a * b) c w h0 (by omega) hc' (by omega))
  generalize a * b = N at *
  generalize N / 18446744073709551616 = hi at *
  generalize N % 18446744073709551616 = lo at *
  generalize (divOut N c 2).1 = q at *
  generalize (divOut N c 2).2 = er at *
  go_enter Try.func60, Try.ntmps60
  go_wp2_with fail
  refine (HM.out _).mono ?_
  rintro e w1 ⟨rfl, hb1⟩
  go_wp2_with fail
  refine (HD.out _).mono ?_
  rintro e w2 ⟨rfl, hb2⟩
  go_wp2
  go_ret2
  exact ⟨rfl, hb1.trans (hb2.mono hb1.size)⟩

set_option maxRecDepth 100000 in
set_option maxHeartbeats 4000000 in
theorem rcross_any (A : Option Addr) (n c : Nat) (xs : List Exch) (amt : Int) (cu : ByteArray) (day : Int) (w : World) (h : Recs encX 3 w A n xs) (hm : n ≤ 9223372036854775807) (hz : ExSz xs) (h0 : 0 ≤ amt) (h1 : amt ≤ 1000000000000000000) :
    Calls Try.prog 44 #[.slice A n c, .int .i64 amt, .string cu, .string ⟨#[69, 85, 82]⟩, .int .i64 day, .int .i64 2] w (NRes w (convOut xs amt cu.toList day) (convErr xs amt cu.toList day)) := by
  have HA := Lib.hid (rat_any A n c xs cu day w h hm hz)
  by_cases ha : atErr xs cu.toList day = 0
  · have hr : 0 ≤ rateOf xs cu.toList day ∧ rateOf xs cu.toList day ≤ 1000000000 := by
      refine rateOf_bounds ?_ _ _
      unfold atErr at ha
      split at ha
      · omega
      · omega
    have hae := at_eur ha
    have HE := Lib.hid (fun w' hw => rat_any A n c xs ⟨#[69, 85, 82]⟩ day w' (h.below hw) hm hz)
    have ee : (⟨#[69, 85, 82]⟩ : ByteArray).toList = eur := by rw [ByteArray.toList_eq]; rfl
    rw [ee, hae, rate_eur, if_pos rfl] at HE
    have e1 : convErr xs amt cu.toList day = scaleErr amt (rateOf xs cu.toList day) := by unfold convErr; rw [if_neg (by omega)]
    have e2 : convOut xs amt cu.toList day = scaleV amt (rateOf xs cu.toList day) := by unfold convOut scaleV; rw [e1]
    rw [e1, e2]
    rw [ha, if_pos rfl] at HA
    generalize rateOf xs cu.toList day = rt at *
    clear e1 e2 ha hae ee
    have HAm := Lib.hid (fun w => ramount_any amt w h0)
    by_cases hb : 1000000000000 < amt
    · have e1 : scaleErr amt rt = 2 := by unfold scaleErr; rw [if_pos hb]
      have e2 : scaleV amt rt = 0 := by unfold scaleV; rw [e1, if_neg (by omega)]
      rw [e1, e2]
      rw [show decide (amt ≤ 1000000000000) = false by simp; omega] at HAm
      clear e1 e2
      go_enter Try.func44, Try.ntmps44
      go_wp2_with fail
      refine HA.out.mono ?_
      rintro e w1 ⟨rfl, hb1⟩
      go_wp2_with fail
      refine (HE.out _ hb1).mono ?_
      rintro e w2 ⟨rfl, hb2⟩
      go_wp2_with fail
      refine (HAm.out _).mono ?_
      rintro e w3 ⟨rfl, rfl⟩
      go_wp2
      go_ret2
      exact ⟨rfl, hb1.trans (hb2.mono hb1.size)⟩
    rw [show decide (amt ≤ 1000000000000) = true by simp; omega] at HAm
    have HM := Lib.hid (fun w => rmuldiv17_any amt rt 1000000 w h0 (by omega) hr.1 hr.2 (by omega) (by omega))
    have hp0 : 0 ≤ amt * rt := Int.mul_nonneg h0 hr.1
    have hd0 := divOut_nonneg (amt * rt) 1000000 2 hp0 (by omega)
    have e1 : scaleErr amt rt = if (divOut (amt * rt) 1000000 2).2 ≠ 0 ∨ 1000000000000 < (divOut (amt * rt) 1000000 2).1 then 3 else 0 := by unfold scaleErr; rw [if_neg hb]
    have e2 : scaleV amt rt = if scaleErr amt rt = 0 then (divOut (amt * rt) 1000000 2).1 else 0 := rfl
    have hmax : max amt (-amt) = amt := by omega
    obtain ⟨er, ee⟩ : ∃ er, (divOut (amt * rt) 1000000 2).2 = er := ⟨_, rfl⟩
    obtain ⟨q, eq⟩ : ∃ q, (divOut (amt * rt) 1000000 2).1 = q := ⟨_, rfl⟩
    rw [ee, eq] at e1 HM
    rw [eq] at e2 hd0
    rw [e2, e1]
    clear e1 e2 ee eq hp0
    have dn : decide (amt < 0) = false := by simp; omega
    by_cases g1 : er = 0
    · subst g1
      by_cases g2 : 1000000000000 < q
      · rw [if_pos (show (0 : Int) ≠ 0 ∨ 1000000000000 < q by omega), if_neg (by omega)]
        have d2 : decide (1000000000000 < q) = true := by simpa using g2
        go_enter Try.func44, Try.ntmps44
        go_wp2_with fail
        refine HA.out.mono ?_
        rintro e w1 ⟨rfl, hb1⟩
        go_wp2_with fail
        refine (HE.out _ hb1).mono ?_
        rintro e w2 ⟨rfl, hb2⟩
        go_wp2_with fail
        refine (HAm.out _).mono ?_
        rintro e w3 ⟨rfl, rfl⟩
        have hb12 := hb1.trans (hb2.mono hb1.size)
        go_wp2_with fail
        refine (HM.out _).mono ?_
        rintro e w4 ⟨rfl, hb4⟩
        go_wp2
        go_ret2
        exact ⟨rfl, hb12.trans (hb4.mono hb12.size)⟩
      · rw [if_neg (show ¬ ((0 : Int) ≠ 0 ∨ 1000000000000 < q) by omega), if_pos rfl]
        have d2 : decide (1000000000000 < q) = false := by simpa using g2
        go_enter Try.func44, Try.ntmps44
        go_wp2_with fail
        refine HA.out.mono ?_
        rintro e w1 ⟨rfl, hb1⟩
        go_wp2_with fail
        refine (HE.out _ hb1).mono ?_
        rintro e w2 ⟨rfl, hb2⟩
        go_wp2_with fail
        refine (HAm.out _).mono ?_
        rintro e w3 ⟨rfl, rfl⟩
        have hb12 := hb1.trans (hb2.mono hb1.size)
        go_wp2_with fail
        refine (HM.out _).mono ?_
        rintro e w4 ⟨rfl, hb4⟩
        go_wp2
        go_ret2
        exact ⟨rfl, hb12.trans (hb4.mono hb12.size)⟩
    · rw [if_pos (show er ≠ 0 ∨ 1000000000000 < q from .inl g1), if_neg (by omega)]
      have b1 : (er != 0) = true := by simpa using g1
      go_enter Try.func44, Try.ntmps44
      go_wp2_with fail
      refine HA.out.mono ?_
      rintro e w1 ⟨rfl, hb1⟩
      go_wp2_with fail
      refine (HE.out _ hb1).mono ?_
      rintro e w2 ⟨rfl, hb2⟩
      go_wp2_with fail
      refine (HAm.out _).mono ?_
      rintro e w3 ⟨rfl, rfl⟩
      have hb12 := hb1.trans (hb2.mono hb1.size)
      go_wp2_with fail
      refine (HM.out _).mono ?_
      rintro e w4 ⟨rfl, hb4⟩
      go_wp2
      go_ret2
      exact ⟨rfl, hb12.trans (hb4.mono hb12.size)⟩
  · have e1 : convErr xs amt cu.toList day = atErr xs cu.toList day := by unfold convErr; rw [if_pos ha]
    have e2 : convOut xs amt cu.toList day = 0 := by unfold convOut; rw [e1, if_neg ha]
    rw [e1, e2]
    rw [if_neg ha] at HA
    have b1 : (atErr xs cu.toList day != 0) = true := by simpa using ha
    clear e1 e2 ha
    generalize atErr xs cu.toList day = er at *
    go_enter Try.func44, Try.ntmps44
    go_wp2_with fail
    refine HA.out.mono ?_
    rintro e w1 ⟨rfl, hb1⟩
    go_wp2
    go_ret2
    exact ⟨rfl, hb1⟩

theorem rconvert_any (A : Option Addr) (n c : Nat) (xs : List Exch) (amt : Int) (cu : ByteArray) (day : Int) (w : World) (h : Recs encX 3 w A n xs) (hm : n ≤ 9223372036854775807) (hz : ExSz xs) (h0 : 0 ≤ amt) (h1 : amt ≤ 1000000000000000000) :
    Calls Try.prog 33 #[.slice A n c, .int .i64 amt, .string cu, .int .i64 day, .int .i64 2] w (NRes w (convOut xs amt cu.toList day) (convErr xs amt cu.toList day)) := by
  have HC := Lib.hid (rcross_any A n c xs amt cu day w h hm hz h0 h1)
  generalize convOut xs amt cu.toList day = v at *
  generalize convErr xs amt cu.toList day = er at *
  go_enter Try.func33, Try.ntmps33
  go_wp2_with fail
  refine HC.out.mono ?_
  rintro e w1 ⟨rfl, hb1⟩
  go_wp2
  go_ret2
  exact ⟨rfl, hb1⟩
end Go.Proofs.Ytknbbamlpadfdaa

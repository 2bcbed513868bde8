/-
  Contracts of math/bits.Div64 and math/bits.Rem64 in plain numbers. No statement of the seat is proved here. Conditions: the divisor is above the head (Div64), the divisor is above 0 (Rem64).
  Contracts of math/bits.Rem64 and of package exact's Mul, Div, MulDiv, MulMod. No statement of the seat is proved here. Conditions: the numbers fit 64 bits without a sign.
  Contracts of apportion.byRest and of the method sort of apportion.ranking: portions sorted by descending remainders, then by their indexes. No statement of the seat is proved here. Conditions: fewer than 2^62 portions.
  Contracts of apportion.check and apportion.sumOf. No statement of the seat is proved here. Conditions: the list holds integers of 64 bits.
  Plain arithmetic of the method of the largest remainder: ranks, shares, their sum. No statement of the seat is proved here. No conditions beyond those typed.
  The shares of the largest remainder as a plain function, and its laws: the sum, the bounds, the order, scaling. No statement of the seat is proved here. No conditions beyond those typed.
  The sorted portions: at place p stands the portion whose rank is p. No statement of the seat is proved here. No conditions beyond those typed.
  Contract of apportion.Share: the shares of the largest remainder, or the error of check. No statement of the seat is proved here. Conditions: the list's length fits.
  Contract of apportion.Share, all cases in one. No statement of the seat is proved here. Conditions: the list's length fits an int.
-/
import Derived.Test.YthnhgjhnkncmiaaGreatMAC
import Derived.Test.YthnhgjhnkncmiaaGreatShelf
import Derived.Lib.ItoaNum
import Derived.RegionTactic
import Derived.Test.YthnhgjhnkncmiaaGreatMAA
import Derived.Test.YthnhgjhnkncmiaaGreatProg
import Derived.BigQuiet
import Derived.Deep.QuietTactic
import Derived.WalkLawsBesides
import Derived.Lib.Hide
import Derived.StillTailTactics
namespace Go.Proofs.YthnhgjhnkncmiaaGreat
open Go.RowKit
set_option linter.unusedVariables false

namespace DivMath

theorem mask (a : Int) (h0 : 0 ≤ a) (h : a ≤ 18446744073709551615) : bits .and .u64 a 4294967295 = a % 4294967296 := by
  obtain ⟨n, rfl⟩ := Int.eq_ofNat_of_zero_le h0
  have h1 := bits_and_u64_nat n 4294967295 (by omega) (by omega)
  have e : n &&& 4294967295 = n % 4294967296 := Nat.and_two_pow_sub_one_eq_mod n 32
  rw [e] at h1
  exact h1.trans (by omega)

theorem orAdd (h t b : Int) (s : Nat) (h0 : 0 ≤ h) (hb0 : 0 ≤ b) (hb : b < 2 ^ s) (hs : s ≤ 63) (ha : h * 2 ^ s ≤ 18446744073709551615) : bits .or .u64 (h * 2 ^ s) b = h * 2 ^ s + b := by
  obtain ⟨n, rfl⟩ := Int.eq_ofNat_of_zero_le h0
  obtain ⟨m, rfl⟩ := Int.eq_ofNat_of_zero_le hb0
  have hp : (2 : Nat) ^ s ≤ 2 ^ 63 := Nat.pow_le_pow_right (by omega) hs
  have hc : ((n : Int) * 2 ^ s) = ((n * 2 ^ s : Nat) : Int) := by rw [Int.natCast_mul, Int.natCast_pow]; rfl
  have hc2 : ((2 : Int) ^ s) = ((2 ^ s : Nat) : Int) := by rw [Int.natCast_pow]; rfl
  rw [hc2] at hb
  rw [hc] at ha ⊢
  have h1 := bits_or_u64_nat (n * 2 ^ s) m (by omega) (by omega)
  rw [h1]
  have : n * 2 ^ s ||| m = n * 2 ^ s + m := by
    rw [Nat.mul_comm, ← Nat.two_pow_add_eq_or_of_lt (by omega)]
  rw [this, Int.natCast_add]

/-- What the shift by the leading zeros gives. -/
theorem norm (y : Int) (h0 : 0 < y) (h1 : y ≤ 18446744073709551615) : ∃ s : Nat, s ≤ 63 ∧ (64 - (Lib.bitLen y.toNat : Int)) = s ∧ 9223372036854775808 ≤ y * 2 ^ s ∧ y * 2 ^ s ≤ 18446744073709551615 := by
  obtain ⟨n, rfl⟩ := Int.eq_ofNat_of_zero_le (Int.le_of_lt h0)
  rw [Int.toNat_natCast]
  obtain ⟨b1, b2, b3⟩ := Lib.bitLenAux_bounds 64 n (by omega) (by omega)
  have b4 : Lib.bitLen n ≤ 64 := Lib.bitLen_le n 64 (by omega) (by omega)
  change 1 ≤ Lib.bitLen n at b1
  change 2 ^ (Lib.bitLen n - 1) ≤ n at b2
  change n < 2 ^ Lib.bitLen n at b3
  generalize Lib.bitLen n = b at *
  refine ⟨64 - b, by omega, by omega, ?_⟩
  have hc : ((n : Int) * 2 ^ (64 - b)) = ((n * 2 ^ (64 - b) : Nat) : Int) := by rw [Int.natCast_mul, Int.natCast_pow]; rfl
  rw [hc]
  have e1 : 2 ^ (b - 1) * 2 ^ (64 - b) = 9223372036854775808 := by rw [← Nat.pow_add, show b - 1 + (64 - b) = 63 by omega]
  have e2 : 2 ^ b * 2 ^ (64 - b) = 18446744073709551616 := by rw [← Nat.pow_add, show b + (64 - b) = 64 by omega]
  have l1 : 2 ^ (b - 1) * 2 ^ (64 - b) ≤ n * 2 ^ (64 - b) := Nat.mul_le_mul_right _ b2
  have l2 : n * 2 ^ (64 - b) < 2 ^ b * 2 ^ (64 - b) := Nat.mul_lt_mul_of_pos_right b3 (Nat.pow_pos (by omega))
  omega

theorem wrap_u64_mod (a : Int) : IntKind.u64.wrap a = a % 18446744073709551616 := IntKind.wrap_u64 a

/-- The head and the tail of the shifted dividend. -/
theorem shifted (hi lo y P Q : Int) (hPQ : P * Q = 18446744073709551616) (hP : 0 < P) (hQ : 0 < Q) (h0 : 0 ≤ hi) (h1 : hi < y) (hl0 : 0 ≤ lo) (hl1 : lo ≤ 18446744073709551615) :
    0 ≤ lo / Q ∧ lo / Q < P ∧ hi * P + lo / Q < y * P ∧ (lo * P) % 18446744073709551616 = lo % Q * P ∧ (hi * 18446744073709551616 + lo) * P = (hi * P + lo / Q) * 18446744073709551616 + lo % Q * P := by
  have hd := Int.mul_ediv_add_emod lo Q
  have hm := Int.emod_nonneg lo (show Q ≠ 0 by omega)
  have hm2 := Int.emod_lt_of_pos lo hQ
  have hb : lo / Q < P := (Int.ediv_lt_iff_lt_mul hQ).2 (by rw [hPQ]; omega)
  have hb0 : 0 ≤ lo / Q := Int.ediv_nonneg hl0 (by omega)
  refine ⟨hb0, hb, ?_, ?_, ?_⟩
  · have : (hi + 1) * P ≤ y * P := Int.mul_le_mul_of_nonneg_right h1 (by omega)
    rw [Int.add_mul, Int.one_mul] at this
    omega
  · have e : lo * P = lo % Q * P + 18446744073709551616 * (lo / Q) := by
      conv => lhs; rw [← hd]
      rw [← hPQ]; grind
    rw [e, Int.add_mul_emod_self_left]
    refine Int.emod_eq_of_lt (Int.mul_nonneg hm (by omega)) ?_
    rw [← hPQ, Int.mul_comm P Q]
    exact Int.mul_lt_mul_of_pos_right hm2 hP
  · conv => lhs; rw [← hd]
    rw [← hPQ]; grind

theorem sub_mod_word (N q Y : Int) (hY0 : 0 < Y) (hY : Y ≤ 18446744073709551615) (hq : q = N / Y) : (N % 18446744073709551616 - q * Y % 18446744073709551616) % 18446744073709551616 = N % Y := by
  have h1 := Int.mul_ediv_add_emod N Y
  have h2 := Int.emod_nonneg N (show Y ≠ 0 by omega)
  have h3 := Int.emod_lt_of_pos N hY0
  rw [← hq] at h1
  have h4 : Y * q = q * Y := Int.mul_comm _ _
  generalize N % Y = r at *
  generalize q * Y = m at *
  omega

/-- All that the walk of Div64 asks, out of a shift that normalizes the divisor. -/
theorem head_digit (u n1 n0 un1 Y : Int) (hY : Y = n1 * 4294967296 + n0) (D : Dom u n1 n0 un1) (hYh : Y ≤ 18446744073709551615) (qd : Int) (hqd : qd = (u * 4294967296 + un1) / (n1 * 4294967296 + n0)) :
    IntKind.u64.wrap (IntKind.u64.wrap (IntKind.u64.wrap (u * 4294967296) + un1) - IntKind.u64.wrap (qd * Y)) = (u * 4294967296 + un1) % Y := by
  rw [← hY] at hqd
  have h := sub_mod_word (u * 4294967296 + un1) qd Y (by have := D.n1l; have := D.n0l; omega) hYh hqd
  rw [← h]
  simp only [wrap_u64_mod]
  generalize u * 4294967296 = x
  generalize qd * Y = z
  omega

theorem guess (u n1 n0 l : Int) (d : Dom u n1 n0 l) (hu : u ≤ 18446744073709551615) : IntKind.u64.wrap (u / n1 * n1) = u / n1 * n1 ∧ 0 ≤ u / n1 * n1 ∧ u / n1 * n1 ≤ u ∧ u / n1 ≤ 4294967297 ∧ 0 ≤ u / n1 := by
  have h := start d
  have h1 := h.split
  have h2 := h.pos
  have h3 := h.qpos
  have h5 : 0 ≤ u / n1 * n1 := Int.mul_nonneg h3 (by have := d.n1l; omega)
  refine ⟨?_, h5, by omega, le_top h d, h3⟩
  rw [wrap_u64_mod]
  generalize u / n1 * n1 = x at *
  omega

end DivMath

set_option maxHeartbeats 1000000 in
/-- math/bits.Div64, the head being 0. -/
theorem div64_low (lo y : Int) (w : World) (h1 : 0 < y) (h2 : y ≤ 18446744073709551615) (hl0 : 0 ≤ lo) (hl1 : lo ≤ 18446744073709551615) :
    Calls Tryz.prog 117 #[.int .u64 0, .int .u64 lo, .int .u64 y] w fun e w' => e = .returned (.tuple #[.int .u64 (lo / y), .int .u64 (lo % y)]) ∧ ∃ n, w' = w.drewN n := by
  have b1 : (y == 0) = false := by simp; omega
  have q0 : ¬ y ≤ 0 := by omega
  have b2 : y ≠ 0 := by omega
  have w1 : IntKind.u64.wrap (lo.tdiv y) = lo / y := IntWalk.u64_quo lo y ⟨hl0, hl1, h1⟩
  have w2 : lo.tmod y = lo % y := IntWalk.rem_in lo y hl0
  go_enter Tryz.func117, Tryz.ntmps117
  go_wp2
  go_quiet (fail)
  go_wp2
  go_ret2
  exact ⟨rfl, _, rfl⟩

set_option maxHeartbeats 1000000 in
/-- math/bits.Div64: quotient and remainder. -/
theorem div64_any (hi lo y : Int) (w : World) (h0 : 0 ≤ hi) (h1 : hi < y) (h2 : y ≤ 18446744073709551615) (hl0 : 0 ≤ lo) (hl1 : lo ≤ 18446744073709551615) :
    Calls Tryz.prog 117 #[.int .u64 hi, .int .u64 lo, .int .u64 y] w fun e w' => e = .returned (.tuple #[.int .u64 ((hi * 18446744073709551616 + lo) / y), .int .u64 ((hi * 18446744073709551616 + lo) % y)]) ∧ ∃ n, w' = w.drewN n := by
  by_cases hz : hi = 0
  · subst hz
    simpa using div64_low lo y w h1 h2 hl0 hl1
  obtain ⟨s, hs, hsl, hY0, hY1⟩ := DivMath.norm y (by omega) h2
  have hPQ : (2 : Int) ^ s * 2 ^ (64 - s) = 18446744073709551616 := by
    rw [← Int.pow_add, show s + (64 - s) = 64 by omega]; rfl
  have hP : (0 : Int) < 2 ^ s := Int.pow_pos (by omega)
  have hQ : (0 : Int) < 2 ^ (64 - s) := Int.pow_pos (by omega)
  obtain ⟨k1, k2, k3, k4, k5⟩ := DivMath.shifted hi lo y (2 ^ s) (2 ^ (64 - s)) hPQ hP hQ h0 h1 hl0 hl1
  have k6 : 0 ≤ hi * 2 ^ s := Int.mul_nonneg h0 (by omega)
  have hor := DivMath.orAdd hi 0 (lo / 2 ^ (64 - s)) s h0 k1 k2 hs (by omega)
  have hdY := Int.mul_ediv_add_emod (y * 2 ^ s) 4294967296
  have hn0 := Int.emod_nonneg (y * 2 ^ s) (show (4294967296 : Int) ≠ 0 by omega)
  have hn0' := Int.emod_lt_of_pos (y * 2 ^ s) (show (0 : Int) < 4294967296 by omega)
  have hYe : y * 2 ^ s = y * 2 ^ s / 4294967296 * 4294967296 + y * 2 ^ s % 4294967296 := by omega
  have k7 : 0 ≤ lo % 2 ^ (64 - s) * 2 ^ s := by rw [← k4]; omega
  have k8 : lo % 2 ^ (64 - s) * 2 ^ s ≤ 18446744073709551615 := by rw [← k4]; omega
  have D1 : DivMath.Dom (hi * 2 ^ s + lo / 2 ^ (64 - s)) (y * 2 ^ s / 4294967296) (y * 2 ^ s % 4294967296) (lo % 2 ^ (64 - s) * 2 ^ s / 4294967296) := ⟨by omega, by omega, by omega, by omega, by omega, by omega, by omega, by omega⟩
  obtain ⟨g1, g2, g3, g4, g5⟩ := DivMath.guess _ _ _ _ D1 (by omega)
  have hh := DivMath.head_digit _ _ _ _ (y * 2 ^ s) hYe D1 hY1 _ rfl
  have hm0 := Int.emod_nonneg ((hi * 2 ^ s + lo / 2 ^ (64 - s)) * 4294967296 + lo % 2 ^ (64 - s) * 2 ^ s / 4294967296) (show y * 2 ^ s ≠ 0 by omega)
  have hm1 := Int.emod_lt_of_pos ((hi * 2 ^ s + lo / 2 ^ (64 - s)) * 4294967296 + lo % 2 ^ (64 - s) * 2 ^ s / 4294967296) (show 0 < y * 2 ^ s by omega)
  have D2 : DivMath.Dom (((hi * 2 ^ s + lo / 2 ^ (64 - s)) * 4294967296 + lo % 2 ^ (64 - s) * 2 ^ s / 4294967296) % (y * 2 ^ s)) (y * 2 ^ s / 4294967296) (y * 2 ^ s % 4294967296) (lo % 2 ^ (64 - s) * 2 ^ s % 4294967296) := ⟨by omega, by omega, by omega, by omega, by omega, by omega, hm0, by omega⟩
  obtain ⟨g1', g2', g3', g4', g5'⟩ := DivMath.guess _ _ _ _ D2 (by omega)
  have hh' := DivMath.head_digit _ _ _ _ (y * 2 ^ s) hYe D2 hY1 _ rfl
  have hj := DivMath.join (U := (hi * 18446744073709551616 + lo) * 2 ^ s) (Y := y * 2 ^ s) (u := hi * 2 ^ s + lo / 2 ^ (64 - s)) (un1 := lo % 2 ^ (64 - s) * 2 ^ s / 4294967296) (un0 := lo % 2 ^ (64 - s) * 2 ^ s % 4294967296) (by omega) (by rw [k5]; omega) rfl rfl rfl
  obtain ⟨hj1, hj2⟩ := hj
  rw [Int.mul_ediv_mul_of_pos_left _ _ hP] at hj1
  rw [Int.mul_comm _ (2 ^ s), Int.mul_comm y (2 ^ s), Int.mul_emod_mul_of_pos _ _ hP, Int.mul_comm (2 ^ s) y] at hj2
  have hlz : ∀ w : World, Calls Tryz.prog 120 #[.int .u64 y] w fun e w' => e = .returned (.int .i64 s) ∧ w = w' := fun w =>
    (Tryz.bits_LeadingZeros64 y w (by omega) h2).mono fun e w' ⟨he, hw⟩ => ⟨by rw [he, hsl], hw.symm⟩
  have q1 := DivMath.digit_lt D1
  have q2 := DivMath.digit_nonneg D1
  have q3 := DivMath.digit_lt D2
  have q4 := DivMath.digit_nonneg D2
  refine (div64_core hi lo y (y * 2 ^ s) (y * 2 ^ s / 4294967296) (y * 2 ^ s % 4294967296) (hi * 2 ^ s) (lo / 2 ^ (64 - s)) (hi * 2 ^ s + lo / 2 ^ (64 - s)) (lo % 2 ^ (64 - s) * 2 ^ s) (lo % 2 ^ (64 - s) * 2 ^ s / 4294967296) (lo % 2 ^ (64 - s) * 2 ^ s % 4294967296)
    _ _ _ _ _ _ _ _ _ _ _ _ _ _ _ _ _ s w h1 h2 hl1 hl0 (by omega) hs hlz (by rw [DivMath.wrap_u64_mod]; omega) rfl (DivMath.mask _ (by omega) hY1) (by rw [DivMath.wrap_u64_mod]; omega) rfl hor (by rw [DivMath.wrap_u64_mod, k4]) rfl (DivMath.mask _ k7 k8) rfl g1 rfl ⟨g2, g3⟩ g4 g5 (by omega) D1 (DivMath.start D1) (by omega) hY1 k7 k8 rfl q2 q1 rfl rfl rfl hh rfl g1' rfl (by omega) hm0 ⟨g2', g3'⟩ g4' g5' D2 (DivMath.start D2) rfl q4 q3 rfl rfl rfl hh' rfl).mono ?_
  rintro e w' ⟨rfl, rfl⟩
  refine ⟨?_, 0, rfl⟩
  rw [← hYe, ← hj2, Int.mul_ediv_cancel_left _ (by omega), hj1]
end Go.Proofs.YthnhgjhnkncmiaaGreat

namespace Go.Proofs.YthnhgjhnkncmiaaGreat
open Go.RowKit
set_option linter.unusedVariables false

/-- Whether a quotient is raised, as a function of the mode. -/
def raisedB (q r c m : Int) : Bool :=
  if m = 1 then decide (0 < r) else if m = 2 then decide (c - r ≤ r) else if m = 3 then (decide (c - r < r) || (decide (r = c - r) && decide (q % 2 = 1))) else false

theorem ret_int' {k : IntKind} {a b : Int} (h : a = b) : Ending.returned (.int k a) = .returned (.int k b) := by rw [h]

theorem ret_bool {a b : Bool} (h : a = b) : Ending.returned (.bool a) = .returned (.bool b) := by rw [h]

set_option maxHeartbeats 1000000 in
theorem raised_any (q r c m : Int) (w : World) (hq : 0 ≤ q) (hr : 0 ≤ r) (hc : r ≤ c) (hc' : c ≤ 18446744073709551615) :
    Calls Tryz.prog 118 #[.int .u64 q, .int .u64 r, .int .u64 c, .int .i64 m] w fun e w' => e = .returned (.bool (raisedB q r c m)) ∧ w = w' := by
  by_cases h1 : m = 1
  · subst h1
    go_enter Tryz.func118, Tryz.ntmps118
    go_wp2
    go_ret
    exact ⟨ret_bool (by simp [raisedB]), rfl⟩
  by_cases h2 : m = 2
  · subst h2
    go_enter Tryz.func118, Tryz.ntmps118
    go_wp2
    go_ret
    exact ⟨ret_bool (by simp [raisedB]), rfl⟩
  have b1 : (m == 1) = false := by simpa using h1
  have b2 : (m == 2) = false := by simpa using h2
  by_cases h3 : m = 3
  · subst h3
    by_cases t1 : c - r < r
    · have d1 : decide (c - r < r) = true := by simpa using t1
      have E := Lib.hid (show raisedB q r c 3 = true by simp [raisedB, t1])
      go_enter Tryz.func118, Tryz.ntmps118
      go_wp2
      go_ret
      exact ⟨ret_bool E.out.symm, rfl⟩
    · have d1 : decide (c - r < r) = false := by simpa using t1
      by_cases t2 : r = c - r
      · have d2 : (r == c - r) = true := by simpa using t2
        by_cases t3 : q % 2 = 1
        · have d3 : (q % 2 == 1) = true := by simpa using t3
          have E := Lib.hid (show raisedB q r c 3 = true by simp [raisedB, t3, ← t2])
          have T2 := Lib.hid t2
          clear t2 t3
          go_enter Tryz.func118, Tryz.ntmps118
          go_wp2
          go_ret
          exact ⟨ret_bool E.out.symm, rfl⟩
        · have d3 : (q % 2 == 1) = false := by simpa using t3
          have E := Lib.hid (show raisedB q r c 3 = false by simp [raisedB, t3, ← t2])
          have T2 := Lib.hid t2
          clear t2 t3
          go_enter Tryz.func118, Tryz.ntmps118
          go_wp2
          go_ret
          exact ⟨ret_bool E.out.symm, rfl⟩
      · have d2 : (r == c - r) = false := by simpa using t2
        have E := Lib.hid (show raisedB q r c 3 = false by simp [raisedB, t2]; omega)
        go_enter Tryz.func118, Tryz.ntmps118
        go_wp2
        go_ret
        exact ⟨ret_bool E.out.symm, rfl⟩
  · have b3 : (m == 3) = false := by simpa using h3
    have E := Lib.hid (show raisedB q r c m = false by simp [raisedB, h1, h2, h3])
    go_enter Tryz.func118, Tryz.ntmps118
    go_wp2
    go_ret
    exact ⟨ret_bool E.out.symm, rfl⟩

set_option maxHeartbeats 1000000 in
theorem mul_any (a b : Int) (w : World) (ha : 0 ≤ a) (ha' : a ≤ 18446744073709551615) (hb : 0 ≤ b) (hb' : b ≤ 18446744073709551615) :
    Calls Tryz.prog 115 #[.int .u64 a, .int .u64 b] w fun e w' => e = .returned (.agg #[.int .u64 (a * b / 18446744073709551616), .int .u64 (a * b % 18446744073709551616)]) ∧ Below w.heap.size w w' := by
  have hm : ∀ w : World, Calls Tryz.prog 119 #[.int .u64 a, .int .u64 b] w fun e w' => e = .returned (.tuple #[.int .u64 (a * b / 18446744073709551616), .int .u64 (a * b % 18446744073709551616)]) ∧ w = w' := by
    intro w
    obtain ⟨x, rfl⟩ := Int.eq_ofNat_of_zero_le ha
    obtain ⟨y, rfl⟩ := Int.eq_ofNat_of_zero_le hb
    refine (Tryz.bits_Mul64 x y (by omega) (by omega) w).mono fun e w' ⟨he, hw⟩ => ⟨?_, hw.symm⟩
    rw [he]
    rfl
  have HM := Lib.hid hm
  clear hm
  generalize a * b / 18446744073709551616 = h at *
  generalize a * b % 18446744073709551616 = l at *
  go_enter Tryz.func115, Tryz.ntmps115
  go_wp2_with (go_at_call 119; refine (HM.out _).mono ?_; rintro e w' ⟨rfl, rfl⟩)
  refine bodyPost_ret (v := .agg #[.int .u64 h, .int .u64 l]) (by simp [results, Tryz.results115, go_sem]) rfl ⟨rfl, ?_⟩
  exact (Below.refl _ _).alloc (Nat.le_refl _) _

/-- The number and the error of exact.Div at the dividend n. -/
def divOut (n c m : Int) : Int × Int :=
  if c = 0 ∨ m < 0 ∨ 3 < m then (0, 2)
  else if c ≤ n / 18446744073709551616 then (0, 3)
  else if raisedB (n / c) (n % c) c m = true then (if n / c = 18446744073709551615 then (0, 3) else (n / c + 1, 0))
  else (n / c, 0)

theorem ret_div {n c m q e : Int} (h : divOut n c m = (q, e)) : Ending.returned (.tuple #[.int .u64 q, .int .i64 e]) = .returned (.tuple #[.int .u64 (divOut n c m).1, .int .i64 (divOut n c m).2]) := by rw [h]

set_option maxHeartbeats 1000000 in
theorem div_any (h l c m : Int) (w : World) (hh : 0 ≤ h) (hh' : h ≤ 18446744073709551615) (hl : 0 ≤ l) (hl' : l ≤ 18446744073709551615) (hc : 0 ≤ c) (hc' : c ≤ 18446744073709551615) :
    Calls Tryz.prog 114 #[.agg #[.int .u64 h, .int .u64 l], .int .u64 c, .int .i64 m] w fun e w' => e = .returned (.tuple #[.int .u64 (divOut (h * 18446744073709551616 + l) c m).1, .int .i64 (divOut (h * 18446744073709551616 + l) c m).2]) ∧ Below w.heap.size w w' := by
  by_cases c0 : c = 0
  · have E := Lib.hid (show divOut (h * 18446744073709551616 + l) c m = (0, 2) by simp [divOut, c0])
    have b0 : (c == 0) = true := by simpa using c0
    clear c0
    go_enter Tryz.func114, Tryz.ntmps114
    go_wp2
    go_ret2
    exact ⟨ret_div E.out, (Below.refl _ _).alloc (Nat.le_refl _) _⟩
  have b0 : (c == 0) = false := by simpa using c0
  by_cases m0 : m < 0
  · have E := Lib.hid (show divOut (h * 18446744073709551616 + l) c m = (0, 2) by simp [divOut, m0])
    have d0 : decide (m < 0) = true := by simpa using m0
    go_enter Tryz.func114, Tryz.ntmps114
    go_wp2
    go_ret2
    exact ⟨ret_div E.out, (Below.refl _ _).alloc (Nat.le_refl _) _⟩
  have d0 : decide (m < 0) = false := by simpa using m0
  by_cases m3 : 3 < m
  · have E := Lib.hid (show divOut (h * 18446744073709551616 + l) c m = (0, 2) by simp [divOut, m3])
    have d3 : decide (3 < m) = true := by simpa using m3
    go_enter Tryz.func114, Tryz.ntmps114
    go_wp2
    go_ret2
    exact ⟨ret_div E.out, (Below.refl _ _).alloc (Nat.le_refl _) _⟩
  have d3 : decide (3 < m) = false := by simpa using m3
  have en : (h * 18446744073709551616 + l) / 18446744073709551616 = h := by omega
  by_cases t1 : c ≤ h
  · have E := Lib.hid (show divOut (h * 18446744073709551616 + l) c m = (0, 3) by simp [divOut, c0, m0, m3, en, t1])
    clear en
    go_enter Tryz.func114, Tryz.ntmps114
    go_wp2
    go_ret2
    exact ⟨ret_div E.out, (Below.refl _ _).alloc (Nat.le_refl _) _⟩
  have HD := Lib.hid (fun w : World => div64_any h l c w hh (by omega) hc' hl hl')
  have HE := Lib.hid (show divOut (h * 18446744073709551616 + l) c m = if raisedB ((h * 18446744073709551616 + l) / c) ((h * 18446744073709551616 + l) % c) c m = true then (if (h * 18446744073709551616 + l) / c = 18446744073709551615 then (0, 3) else ((h * 18446744073709551616 + l) / c + 1, 0)) else ((h * 18446744073709551616 + l) / c, 0) by simp [divOut, c0, m0, m3, en, t1])
  have hN : 0 ≤ h * 18446744073709551616 + l := by omega
  have q0 : 0 ≤ (h * 18446744073709551616 + l) / c := Int.ediv_nonneg hN hc
  have q1 : (h * 18446744073709551616 + l) / c < 18446744073709551616 := (Int.ediv_lt_iff_lt_mul (by omega)).2 (by omega)
  have r0 := Int.emod_nonneg (h * 18446744073709551616 + l) c0
  have r1 := Int.emod_lt_of_pos (h * 18446744073709551616 + l) (show 0 < c by omega)
  clear en hN
  generalize h * 18446744073709551616 + l = N at *
  generalize N / c = q at *
  generalize N % c = r at *
  have HR := Lib.hid (fun w : World => raised_any q r c m w q0 r0 (by omega) hc')
  cases hb : raisedB q r c m with
  | false =>
    have E := Lib.hid (show divOut N c m = (q, 0) by rw [HE.out, if_neg (by simp [hb])])
    have HR' := Lib.hid (fun w => by have := HR.out w; rw [hb] at this; exact this)
    clear hb HE
    go_enter Tryz.func114, Tryz.ntmps114
    go_wp2_with (first | (go_at_call 117; refine (HD.out _).mono ?_; rintro e w' ⟨rfl, n, rfl⟩) | (go_at_call 118; refine (HR'.out _).mono ?_; rintro e w' ⟨rfl, rfl⟩))
    go_ret2
    exact ⟨ret_div E.out, below_drewN ((Below.refl _ _).alloc (Nat.le_refl _) _) _⟩
  | true =>
    have HR' := Lib.hid (fun w => by have := HR.out w; rw [hb] at this; exact this)
    by_cases t2 : q = 18446744073709551615
    · have E := Lib.hid (show divOut N c m = (0, 3) by rw [HE.out, if_pos hb, if_pos t2])
      have b2 : (q == 18446744073709551615) = true := by simpa using t2
      clear hb HE t2
      go_enter Tryz.func114, Tryz.ntmps114
      go_wp2_with (first | (go_at_call 117; refine (HD.out _).mono ?_; rintro e w' ⟨rfl, n, rfl⟩) | (go_at_call 118; refine (HR'.out _).mono ?_; rintro e w' ⟨rfl, rfl⟩))
      go_ret2
      exact ⟨ret_div E.out, below_drewN ((Below.refl _ _).alloc (Nat.le_refl _) _) _⟩
    · have E := Lib.hid (show divOut N c m = (q + 1, 0) by rw [HE.out, if_pos hb, if_neg t2])
      have b2 : (q == 18446744073709551615) = false := by simpa using t2
      clear hb HE
      go_enter Tryz.func114, Tryz.ntmps114
      go_wp2_with (first | (go_at_call 117; refine (HD.out _).mono ?_; rintro e w' ⟨rfl, n, rfl⟩) | (go_at_call 118; refine (HR'.out _).mono ?_; rintro e w' ⟨rfl, rfl⟩))
      go_ret2
      exact ⟨ret_div E.out, below_drewN ((Below.refl _ _).alloc (Nat.le_refl _) _) _⟩

theorem prod_parts (a b : Int) (ha : 0 ≤ a) (ha' : a ≤ 18446744073709551615) (hb : 0 ≤ b) (hb' : b ≤ 18446744073709551615) :
    0 ≤ a * b / 18446744073709551616 ∧ a * b / 18446744073709551616 ≤ 18446744073709551615 ∧ 0 ≤ a * b % 18446744073709551616 ∧ a * b % 18446744073709551616 ≤ 18446744073709551615 ∧ a * b / 18446744073709551616 * 18446744073709551616 + a * b % 18446744073709551616 = a * b := by
  have h0 : 0 ≤ a * b := Int.mul_nonneg ha hb
  have h1 : a * b ≤ 18446744073709551615 * 18446744073709551615 := Int.mul_le_mul ha' hb' hb (by omega)
  omega

set_option maxHeartbeats 1000000 in
/-- exact.MulDiv: a * b / c, rounded. -/
theorem mulDiv_any (a b c m : Int) (w : World) (ha : 0 ≤ a) (ha' : a ≤ 18446744073709551615) (hb : 0 ≤ b) (hb' : b ≤ 18446744073709551615) (hc : 0 ≤ c) (hc' : c ≤ 18446744073709551615) :
    Calls Tryz.prog 107 #[.int .u64 a, .int .u64 b, .int .u64 c, .int .i64 m] w fun e w' => e = .returned (.tuple #[.int .u64 (divOut (a * b) c m).1, .int .i64 (divOut (a * b) c m).2]) ∧ Below w.heap.size w w' := by
  obtain ⟨p1, p2, p3, p4, p5⟩ := prod_parts a b ha ha' hb hb'
  have HM := Lib.hid (fun w : World => mul_any a b w ha ha' hb hb')
  have HD := Lib.hid (fun w : World => div_any (a * b / 18446744073709551616) (a * b % 18446744073709551616) c m w p1 p2 p3 p4 hc hc')
  rw [p5] at HD
  clear p1 p2 p3 p4 p5
  generalize a * b / 18446744073709551616 = h at *
  generalize a * b % 18446744073709551616 = l at *
  generalize divOut (a * b) c m = o at *
  go_enter Tryz.func107, Tryz.ntmps107
  go_wp2_with (first | (go_at_call 115; refine (HM.out _).mono ?_; rintro e w1 ⟨rfl, hb1⟩) | (go_at_call 114; refine (HD.out _).mono ?_; rintro e w2 ⟨rfl, hb2⟩))
  go_ret2
  exact ⟨rfl, hb1.trans (hb2.mono hb1.size)⟩

end Go.Proofs.YthnhgjhnkncmiaaGreat

namespace Go.Proofs.YthnhgjhnkncmiaaGreat
open Go.RowKit Go.Shelf Go.Lib Go.Sort
set_option linter.unusedVariables false

/-- A portion: index, share, remainder. -/
structure Por where
  index : Int
  share : Int
  rest : Int
instance : Inhabited Por := ⟨⟨0, 0, 0⟩⟩
def encP (p : Por) : List Value := [.int .i64 p.index, .int .u64 p.share, .int .u64 p.rest]
def cmpP (x y : Por) : Int := if Lib.compareInt y.rest x.rest != 0 then Lib.compareInt y.rest x.rest else Lib.compareInt x.index y.index

theorem ltP (x y : Por) : ltOf cmpP x y = decide (y.rest < x.rest ∨ (x.rest = y.rest ∧ x.index < y.index)) := by
  unfold ltOf cmpP Lib.compareInt
  by_cases h1 : y.rest < x.rest
  · simp [h1]
  · by_cases h2 : x.rest < y.rest
    · have : ¬ x.rest = y.rest := by omega
      simp [h1, h2, this]
    · have : x.rest = y.rest := by omega
      simp [this]
      by_cases h3 : x.index < y.index
      · simp [h3]
      · by_cases h4 : y.index < x.index <;> simp [h3, h4]

theorem swoP : SWO (ltOf cmpP) where
  irrefl x := by rw [ltP]; simp
  trans x y z h1 h2 := by rw [ltP] at *; simp at *; omega
  ntrans x y z h1 h2 := by rw [ltP] at *; simp at *; omega

end Go.Proofs.YthnhgjhnkncmiaaGreat

namespace Go.Proofs.YthnhgjhnkncmiaaGreat
open Go.RowKit

theorem ret_int {k : IntKind} {a b : Int} (h : a = b) : Ending.returned (.int k a) = .returned (.int k b) := by rw [h]

theorem sum_take_succ (xs : List Int) (k : Nat) (h : k < xs.length) : (xs.take (k + 1)).sum = (xs.take k).sum + xs.getD k 0 := by
  rw [List.take_succ_eq_append_getElem h, List.sum_append]
  simp [List.getD, List.getElem?_eq_getElem h]

theorem sum_take_bound (xs : List Int) (m : Int) (hr : ∀ i : Nat, 0 ≤ xs.getD i 0 ∧ xs.getD i 0 ≤ m) (k : Nat) (hk : k ≤ xs.length) : 0 ≤ (xs.take k).sum ∧ (xs.take k).sum ≤ k * m := by
  induction k with
  | zero => simp
  | succ k ih =>
    have h1 := ih (by omega)
    rw [sum_take_succ xs k (by omega)]
    have h2 := hr k
    rw [Int.natCast_succ, Int.add_mul]
    omega

/-- Every weight is an amount from 0 on. -/
def AllIn (ws : List Int) : Prop := ∀ i : Nat, 0 ≤ ws.getD i 0 ∧ ws.getD i 0 ≤ 1000000000000
instance (ws : List Int) : Decidable (AllIn ws) := decidable_of_iff (∀ x ∈ ws, 0 ≤ x ∧ x ≤ 1000000000000) (by
  constructor
  · intro h i
    by_cases hi : i < ws.length
    · have := h ws[i] (List.getElem_mem hi)
      simpa [List.getD, List.getElem?_eq_getElem hi] using this
    · simp [List.getD, List.getElem?_eq_none (Nat.le_of_not_lt hi)]
  · intro h x hx
    obtain ⟨i, hi, rfl⟩ := List.mem_iff_getElem.1 hx
    have := h i
    simpa [List.getD, List.getElem?_eq_getElem hi] using this)

/-- The error of Share, as a function. -/
def chkErr (total : Int) (ws : List Int) : Int :=
  if 1000 < ws.length then 8 else if total < 0 ∨ 1000000000000 < total then 2
  else if AllIn ws then (if ws.length = 0 ∧ 0 < total then 7 else 0) else 2

theorem allIn_step (ws : List Int) (k : Nat) (h : ∀ i : Nat, i < k → 0 ≤ ws.getD i 0 ∧ ws.getD i 0 ≤ 1000000000000) (h0 : 0 ≤ ws.getD k 0) (h1 : ws.getD k 0 ≤ 1000000000000) : ∀ i : Nat, i < k + 1 → 0 ≤ ws.getD i 0 ∧ ws.getD i 0 ≤ 1000000000000 := by
  intro i hi
  by_cases e : i = k
  · subst e; exact ⟨h0, h1⟩
  · exact h i (by omega)

theorem allIn_end (ws : List Int) (h : ∀ i : Nat, i < ws.length → 0 ≤ ws.getD i 0 ∧ ws.getD i 0 ≤ 1000000000000) : AllIn ws := by
  intro i
  by_cases hi : i < ws.length
  · exact h i hi
  · simp [List.getD, List.getElem?_eq_none (Nat.le_of_not_lt hi)]

end Go.Proofs.YthnhgjhnkncmiaaGreat

namespace Go.Proofs.YthnhgjhnkncmiaaGreat
set_option linter.unusedVariables false

/-- The sum of f over 0 .. n-1. -/
def sumN (n : Nat) (f : Nat → Int) : Int := ((List.range n).map f).sum
theorem sumN_zero (f : Nat → Int) : sumN 0 f = 0 := rfl
theorem sumN_succ (n : Nat) (f : Nat → Int) : sumN (n + 1) f = sumN n f + f n := by
  simp [sumN, List.range_succ]
theorem sumN_congr {n : Nat} {f g : Nat → Int} (h : ∀ i, i < n → f i = g i) : sumN n f = sumN n g := by
  unfold sumN
  rw [List.map_congr_left (fun i hi => h i (List.mem_range.1 hi))]
theorem sumN_add (n : Nat) (f g : Nat → Int) : sumN n (fun i => f i + g i) = sumN n f + sumN n g := by
  induction n with
  | zero => rfl
  | succ n ih => simp only [sumN_succ, ih]; omega
theorem sumN_mul (n : Nat) (c : Int) (f : Nat → Int) : sumN n (fun i => c * f i) = c * sumN n f := by
  induction n with
  | zero => simp [sumN_zero]
  | succ n ih => simp only [sumN_succ, ih, Int.mul_add]
theorem sumN_const (n : Nat) (c : Int) : sumN n (fun _ => c) = n * c := by
  induction n with
  | zero => simp [sumN_zero]
  | succ n ih => rw [sumN_succ, ih, Int.natCast_succ, Int.add_mul]; omega
theorem sumN_le {n : Nat} {f g : Nat → Int} (h : ∀ i, i < n → f i ≤ g i) : sumN n f ≤ sumN n g := by
  induction n with
  | zero => simp [sumN_zero]
  | succ n ih => rw [sumN_succ, sumN_succ]; have := ih (fun i hi => h i (by omega)); have := h n (by omega); omega
theorem sumN_nonneg {n : Nat} {f : Nat → Int} (h : ∀ i, i < n → 0 ≤ f i) : 0 ≤ sumN n f := by
  have := sumN_le (n := n) (f := fun _ => 0) (g := f) h
  rw [sumN_const] at this
  omega
theorem sumN_list (ws : List Int) : sumN ws.length (fun i => ws.getD i 0) = ws.sum := by
  unfold sumN
  congr 1
  apply List.ext_getElem
  · simp
  · intro i h1 h2
    simp [List.getD, List.getElem?_eq_getElem h2]

theorem perm_sum {l l' : List Int} (h : l.Perm l') : l.sum = l'.sum := by
  induction h with
  | nil => rfl
  | cons x _ ih => simp [ih]
  | swap x y l => simp; omega
  | trans _ _ ih1 ih2 => exact ih1.trans ih2

/-! ### Ranks -/
/-- j comes before i: a greater remainder, or the same one and a smaller index. -/
def bef (r : Nat → Int) (j i : Nat) : Bool := decide (r i < r j ∨ (r j = r i ∧ j < i))
/-- How many of 0 .. n-1 come before i. -/
def rank (r : Nat → Int) (n i : Nat) : Nat := (List.range n).countP (fun j => bef r j i)

theorem countP_pos_eq {α : Type} (f : α → Bool) (l : List α) (p : Nat) (hp : p ≤ l.length) (h1 : ∀ k (h : k < l.length), k < p → f l[k] = true) (h2 : ∀ k (h : k < l.length), p ≤ k → f l[k] = false) : l.countP f = p := by
  rw [← List.take_append_drop p l, List.countP_append]
  have e1 : (l.take p).countP f = p := by
    rw [List.countP_eq_length.2]
    · rw [List.length_take]; omega
    · intro a ha
      obtain ⟨k, hk, rfl⟩ := List.mem_iff_getElem.1 ha
      rw [List.length_take] at hk
      rw [List.getElem_take]
      exact h1 k (by omega) (by omega)
  have e2 : (l.drop p).countP f = 0 := by
    rw [List.countP_eq_zero]
    intro a ha
    obtain ⟨k, hk, rfl⟩ := List.mem_iff_getElem.1 ha
    rw [List.length_drop] at hk
    rw [List.getElem_drop, h2 (p + k) (by omega) (by omega)]
    simp
  omega

/-- In an ordered arrangement of 0 .. n-1 each stands at its rank. -/
theorem rank_of_sorted (r : Nat → Int) (n : Nat) (l : List Nat) (hp : l.Perm (List.range n)) (hs : ∀ i j (hi : i < l.length) (hj : j < l.length), i < j → bef r l[j] l[i] = false) (p : Nat) (h : p < l.length) : rank r n l[p] = p := by
  unfold rank
  rw [← hp.countP_eq]
  have hnd : l.Nodup := hp.nodup_iff.2 List.nodup_range
  refine countP_pos_eq _ l p (by omega) ?_ ?_
  · intro k hk hkp
    have h1 := hs k p hk h hkp
    have h2 : l[k] ≠ l[p] := List.pairwise_iff_getElem.1 hnd k p hk h hkp
    simp [bef] at h1 ⊢
    omega
  · intro k hk hkp
    rcases Nat.lt_or_ge p k with h3 | h3
    · exact hs p k h hk h3
    · obtain rfl : k = p := by omega
      simp [bef]

theorem exists_sorted (r : Nat → Int) (n : Nat) : ∃ l : List Nat, l.Perm (List.range n) ∧ ∀ i j (hi : i < l.length) (hj : j < l.length), i < j → bef r l[j] l[i] = false := by
  refine ⟨(List.range n).mergeSort (fun a b => !bef r b a), List.mergeSort_perm _ _, ?_⟩
  have hpw := List.pairwise_mergeSort (le := fun a b => !bef r b a) (fun a b c h1 h2 => by simp [bef] at *; omega) (fun a b => by simp [bef]; omega) (List.range n)
  intro i j hi hj hij
  have := List.pairwise_iff_getElem.1 hpw i j hi hj hij
  simpa using this

theorem perm_rank (r : Nat → Int) (n : Nat) : ((List.range n).map (rank r n)).Perm (List.range n) := by
  obtain ⟨l, hp, hs⟩ := exists_sorted r n
  have h1 : (l.map (rank r n)).Perm ((List.range n).map (rank r n)) := hp.map _
  have h2 : l.map (rank r n) = List.range n := by
    have hl : l.length = n := by rw [hp.length_eq, List.length_range]
    apply List.ext_getElem
    · simp [hl]
    · intro i h3 h4
      rw [List.getElem_map, rank_of_sorted r n l hp hs, List.getElem_range]
  rw [h2] at h1
  exact h1.symm

theorem rank_lt (r : Nat → Int) (n i : Nat) (hi : i < n) : rank r n i < n := by
  have : rank r n i ∈ List.range n := (perm_rank r n).mem_iff.1 (List.mem_map.2 ⟨i, List.mem_range.2 hi, rfl⟩)
  exact List.mem_range.1 this

theorem rank_surj (r : Nat → Int) (n p : Nat) (hp : p < n) : ∃ i, i < n ∧ rank r n i = p := by
  have := (perm_rank r n).mem_iff.2 (List.mem_range.2 hp)
  obtain ⟨i, hi, e⟩ := List.mem_map.1 this
  exact ⟨i, List.mem_range.1 hi, e⟩

theorem rank_inj (r : Nat → Int) (n i j : Nat) (hi : i < n) (hj : j < n) (h : rank r n i = rank r n j) : i = j := by
  have hnd : ((List.range n).map (rank r n)).Nodup := (perm_rank r n).nodup_iff.2 List.nodup_range
  have hl : ((List.range n).map (rank r n)).length = n := by simp
  rcases Nat.lt_trichotomy i j with h1 | h1 | h1
  · have := List.pairwise_iff_getElem.1 hnd i j (by omega) (by omega) h1
    simp at this
    exact absurd h this
  · exact h1
  · have := List.pairwise_iff_getElem.1 hnd j i (by omega) (by omega) h1
    simp at this
    exact absurd h.symm this

theorem bef_trans {r : Nat → Int} {a b c : Nat} (h1 : bef r a b = true) (h2 : bef r b c = true) : bef r a c = true := by simp [bef] at *; omega

/-- Who comes before has the smaller rank. -/
theorem rank_lt_of_bef (r : Nat → Int) (n j i : Nat) (hj : j < n) (h : bef r j i = true) : rank r n j < rank r n i := by
  unfold rank
  have key : ∀ l : List Nat, (∃ a ∈ l, a = j) → l.countP (fun k => bef r k j) < l.countP (fun k => bef r k i) := by
    intro l
    induction l with
    | nil => rintro ⟨a, ha, _⟩; cases ha
    | cons x l ih =>
      rintro ⟨a, ha, rfl⟩
      have hmono : l.countP (fun k => bef r k a) ≤ l.countP (fun k => bef r k i) := List.countP_mono_left fun k _ hk => bef_trans hk h
      rcases List.mem_cons.1 ha with e | e
      · subst e
        have hx : bef r a a = false := by simp [bef]
        rw [List.countP_cons, List.countP_cons, hx, h]
        simp
        omega
      · have := ih ⟨a, e, rfl⟩
        rw [List.countP_cons, List.countP_cons]
        by_cases hx : bef r x a = true
        · rw [hx, bef_trans hx h]
          simp
          omega
        · rw [Bool.eq_false_iff.2 hx]
          simp
          split <;> omega
  exact key _ ⟨j, List.mem_range.2 hj, rfl⟩

theorem bef_total {r : Nat → Int} {a b : Nat} (h : a ≠ b) (h2 : bef r a b = false) : bef r b a = true := by simp [bef] at *; omega

/-- How many ranks lie below L. -/
theorem sum_below (r : Nat → Int) (n : Nat) (L : Int) (h0 : 0 ≤ L) (hL : L ≤ n) : sumN n (fun i => if (rank r n i : Int) < L then 1 else 0) = L := by
  have h1 : sumN n (fun i => if (rank r n i : Int) < L then 1 else 0) = sumN n (fun p : Nat => if (p : Int) < L then 1 else 0) := by
    unfold sumN
    have : (List.range n).map (fun i => if (rank r n i : Int) < L then (1 : Int) else 0) = ((List.range n).map (rank r n)).map (fun p : Nat => if (p : Int) < L then (1 : Int) else 0) := by simp
    rw [this]
    exact perm_sum ((perm_rank r n).map _)
  rw [h1]
  have h2 : ∀ m : Nat, sumN m (fun p => if (p : Int) < L then 1 else 0) = min (m : Int) L := by
    intro m
    induction m with
    | zero => simp [sumN_zero]; omega
    | succ m ih => rw [sumN_succ, ih]; split <;> omega
  rw [h2]
  omega

end Go.Proofs.YthnhgjhnkncmiaaGreat

namespace Go.Proofs.YthnhgjhnkncmiaaGreat
set_option linter.unusedVariables false

/-- The divisor: the sum of the weights, or their number if all are 0. -/
def wsum (ws : List Int) : Int := if ws.sum = 0 then ws.length else ws.sum
/-- What a weight counts. -/
def wt (ws : List Int) (i : Nat) : Int := if ws.sum = 0 then 1 else ws.getD i 0
def quoI (t : Int) (ws : List Int) (i : Nat) : Int := t * wt ws i / wsum ws
def rstI (t : Int) (ws : List Int) (i : Nat) : Int := t * wt ws i % wsum ws
/-- The units that the floors leave. -/
def leftI (t : Int) (ws : List Int) : Int := t - sumN ws.length (quoI t ws)
def shareI (t : Int) (ws : List Int) (i : Nat) : Int := quoI t ws i + if (rank (rstI t ws) ws.length i : Int) < leftI t ws then 1 else 0
/-- The shares of the largest remainder. -/
def shareL (t : Int) (ws : List Int) : List Int := (List.range ws.length).map (shareI t ws)

theorem shareL_length (t : Int) (ws : List Int) : (shareL t ws).length = ws.length := by simp [shareL]
theorem shareL_get (t : Int) (ws : List Int) (i : Nat) (h : i < ws.length) : (shareL t ws).getD i 0 = shareI t ws i := by
  simp [shareL, List.getD, h]

/-- Weights from 0 on. -/
def NonNeg (ws : List Int) : Prop := ∀ i : Nat, 0 ≤ ws.getD i 0

variable {t : Int} {ws : List Int}

theorem sum_nonneg (h : NonNeg ws) : 0 ≤ ws.sum := by
  rw [← sumN_list]
  exact sumN_nonneg fun i _ => h i

theorem wsum_pos (h : NonNeg ws) (hn : 0 < ws.length) : 0 < wsum ws := by
  have := sum_nonneg h
  unfold wsum
  split <;> omega

theorem wt_nonneg (h : NonNeg ws) (i : Nat) : 0 ≤ wt ws i := by
  unfold wt
  split
  · omega
  · exact h i

theorem sum_wt (ws : List Int) : sumN ws.length (wt ws) = wsum ws := by
  unfold wsum
  by_cases h : ws.sum = 0
  · rw [if_pos h]
    have : sumN ws.length (wt ws) = sumN ws.length (fun _ => 1) := sumN_congr fun i _ => by simp [wt, h]
    rw [this, sumN_const]
    omega
  · rw [if_neg h, ← sumN_list ws]
    exact sumN_congr fun i _ => by simp [wt, h]

theorem rst_nonneg (h : NonNeg ws) (hn : 0 < ws.length) (i : Nat) : 0 ≤ rstI t ws i := Int.emod_nonneg _ (by have := wsum_pos h hn; omega)
theorem rst_lt (h : NonNeg ws) (hn : 0 < ws.length) (i : Nat) : rstI t ws i < wsum ws := Int.emod_lt_of_pos _ (wsum_pos h hn)
theorem quo_nonneg (h : NonNeg ws) (ht : 0 ≤ t) (hn : 0 < ws.length) (i : Nat) : 0 ≤ quoI t ws i := Int.ediv_nonneg (Int.mul_nonneg ht (wt_nonneg h i)) (by have := wsum_pos h hn; omega)
theorem quo_rst (t : Int) (ws : List Int) (i : Nat) : wsum ws * quoI t ws i + rstI t ws i = t * wt ws i := Int.mul_ediv_add_emod _ _

/-- The remainders add up to the units that are left, times the divisor. -/
theorem sum_rst (t : Int) (ws : List Int) : sumN ws.length (rstI t ws) = leftI t ws * wsum ws := by
  have h1 : sumN ws.length (fun i => wsum ws * quoI t ws i + rstI t ws i) = t * wsum ws := by
    rw [sumN_congr (fun i _ => quo_rst t ws i), sumN_mul, sum_wt]
  rw [sumN_add, sumN_mul] at h1
  unfold leftI
  rw [Int.sub_mul, Int.mul_comm (sumN _ _)]
  omega

theorem left_nonneg (h : NonNeg ws) (hn : 0 < ws.length) : 0 ≤ leftI t ws := by
  have h1 := sum_rst t ws
  have h2 := sumN_nonneg (n := ws.length) (f := rstI t ws) fun i _ => rst_nonneg h hn i
  have h3 := wsum_pos h hn
  rcases Int.lt_or_le (leftI t ws) 0 with h4 | h4
  · have := Int.mul_neg_of_neg_of_pos h4 h3
    omega
  · exact h4

theorem left_lt (h : NonNeg ws) (hn : 0 < ws.length) : leftI t ws < ws.length := by
  have h1 := sum_rst t ws
  have h2 := sumN_le (n := ws.length) (f := rstI t ws) (g := fun _ => wsum ws - 1) fun i _ => by have := rst_lt (t := t) h hn i; omega
  rw [sumN_const, h1] at h2
  have h3 := wsum_pos h hn
  rcases Int.lt_or_le (leftI t ws) ws.length with h4 | h4
  · exact h4
  · have h5 : (ws.length : Int) * wsum ws ≤ leftI t ws * wsum ws := Int.mul_le_mul_of_nonneg_right h4 (by omega)
    rw [Int.mul_sub] at h2
    omega

/-- The shares add up to the total. -/
theorem sum_share (h : NonNeg ws) (hn : 0 < ws.length) : sumN ws.length (shareI t ws) = t := by
  have h1 := left_nonneg (t := t) h hn
  have h2 := left_lt (t := t) h hn
  have h3 := sum_below (rstI t ws) ws.length (leftI t ws) h1 (by omega)
  have h4 : sumN ws.length (shareI t ws) = sumN ws.length (quoI t ws) + sumN ws.length (fun i => if (rank (rstI t ws) ws.length i : Int) < leftI t ws then 1 else 0) := sumN_add _ _ _
  rw [h4, h3]
  unfold leftI
  omega

theorem share_ge (t : Int) (ws : List Int) (i : Nat) : quoI t ws i ≤ shareI t ws i := by unfold shareI; split <;> omega
theorem share_le (t : Int) (ws : List Int) (i : Nat) : shareI t ws i ≤ quoI t ws i + 1 := by unfold shareI; split <;> omega
theorem share_nonneg (h : NonNeg ws) (ht : 0 ≤ t) (hn : 0 < ws.length) (i : Nat) : 0 ≤ shareI t ws i := by have := share_ge t ws i; have := quo_nonneg h ht hn i; omega

theorem sumN_le_all {n : Nat} {f : Nat → Int} (h : ∀ i, i < n → 0 ≤ f i) (i : Nat) (hi : i < n) : f i ≤ sumN n f := by
  induction n with
  | zero => omega
  | succ n ih =>
    rw [sumN_succ]
    have h1 := sumN_nonneg (n := n) (f := f) fun i hi => h i (by omega)
    have h2 := h n (by omega)
    by_cases e : i = n
    · subst e; omega
    · have := ih (fun i hi => h i (by omega)) (by omega); omega

theorem share_le_total (h : NonNeg ws) (ht : 0 ≤ t) (hn : 0 < ws.length) (i : Nat) (hi : i < ws.length) : shareI t ws i ≤ t := by
  have := sumN_le_all (n := ws.length) (f := shareI t ws) (fun i _ => share_nonneg h ht hn i) i hi
  rw [sum_share h hn] at this
  exact this

/-- Who has no remainder is not raised. -/
theorem not_raised (h : NonNeg ws) (hn : 0 < ws.length) (i : Nat) (hi : i < ws.length) (hr : rstI t ws i = 0) : leftI t ws ≤ rank (rstI t ws) ws.length i := by
  rcases Int.lt_or_le (rank (rstI t ws) ws.length i) (leftI t ws) with h1 | h1
  · exfalso
    -- all that have a remainder come before i, so fewer than left of them: the sum of remainders is too small
    have h2 : sumN ws.length (rstI t ws) ≤ sumN ws.length (fun j => (wsum ws - 1) * (if (rank (rstI t ws) ws.length j : Int) < rank (rstI t ws) ws.length i then 1 else 0)) := by
      refine sumN_le fun j hj => ?_
      by_cases hb : bef (rstI t ws) j i = true
      · have := rank_lt_of_bef (rstI t ws) ws.length j i hj hb
        rw [if_pos (by omega)]
        have := rst_lt (t := t) h hn j
        omega
      · have h0 := rst_nonneg (t := t) h hn j
        have hz : rstI t ws j = 0 := by simp [bef] at hb; omega
        rw [hz]
        have h3 := wsum_pos h hn
        exact Int.mul_nonneg (by omega) (by split <;> omega)
    rw [sumN_mul, sum_below _ _ _ (by omega) (by have := rank_lt (rstI t ws) ws.length i hi; omega), sum_rst] at h2
    have h3 := wsum_pos h hn
    have h4 : (wsum ws - 1) * (rank (rstI t ws) ws.length i : Int) ≤ (rank (rstI t ws) ws.length i : Int) * wsum ws := by
      rw [Int.sub_mul, Int.mul_comm]
      omega
    have h5 : ((rank (rstI t ws) ws.length i : Int) + 1) * wsum ws ≤ leftI t ws * wsum ws := Int.mul_le_mul_of_nonneg_right (by omega) (by omega)
    rw [Int.add_mul] at h5
    omega
  · exact h1

/-- Each share is the rounded quotient. -/
theorem share_ceil (h : NonNeg ws) (hn : 0 < ws.length) (i : Nat) (hi : i < ws.length) : shareI t ws i ≤ (t * wt ws i + wsum ws - 1) / wsum ws := by
  have h3 := wsum_pos h hn
  have h1 := quo_rst t ws i
  have h2 := rst_nonneg (t := t) h hn i
  rw [Int.le_ediv_iff_mul_le h3]
  by_cases hr : rstI t ws i = 0
  · have h4 := not_raised (t := t) h hn i hi hr
    have h5 : shareI t ws i = quoI t ws i := by unfold shareI; rw [if_neg (by omega)]; omega
    rw [h5, Int.mul_comm]
    omega
  · have h4 := share_le t ws i
    have h5 : shareI t ws i * wsum ws ≤ (quoI t ws i + 1) * wsum ws := Int.mul_le_mul_of_nonneg_right h4 (by omega)
    rw [Int.add_mul, Int.mul_comm (quoI t ws i)] at h5
    omega

/-- No share of a total below the sum is above its weight. -/
theorem share_le_weight (h : NonNeg ws) (hn : 0 < ws.length) (ht : 0 ≤ t) (hs : t < ws.sum) (i : Nat) (hi : i < ws.length) : shareI t ws i ≤ ws.getD i 0 := by
  have hsum : ¬ ws.sum = 0 := by omega
  have hw : wsum ws = ws.sum := by simp [wsum, hsum]
  have hwt : wt ws i = ws.getD i 0 := by simp [wt, hsum]
  have h1 := share_ceil (t := t) h hn i hi
  rw [hw, hwt] at h1
  refine Int.le_trans h1 ?_
  have h0 := h i
  have h2 : (t * ws.getD i 0 + ws.sum - 1) / ws.sum < ws.getD i 0 + 1 := by
    rw [Int.ediv_lt_iff_lt_mul (by omega), Int.add_mul, Int.mul_comm t]
    have : ws.getD i 0 * t ≤ ws.getD i 0 * ws.sum := Int.mul_le_mul_of_nonneg_left (by omega) h0
    omega
  omega

/-- The order of the shares. -/
theorem share_mono (h : NonNeg ws) (hn : 0 < ws.length) (ht : 0 ≤ t) (i k : Nat) (hi : i < ws.length) (hk : k < ws.length) (hw : wt ws k ≤ wt ws i) (hik : wt ws k < wt ws i ∨ i < k) : shareI t ws k ≤ shareI t ws i := by
  have h3 := wsum_pos h hn
  have hm : t * wt ws k ≤ t * wt ws i := Int.mul_le_mul_of_nonneg_left hw ht
  have hq : quoI t ws k ≤ quoI t ws i := Int.ediv_le_ediv h3 hm
  have e1 := quo_rst t ws i
  have e2 := quo_rst t ws k
  rcases Int.lt_or_le (quoI t ws k) (quoI t ws i) with h4 | h4
  · have := share_le t ws k
    have := share_ge t ws i
    omega
  · have hqe : quoI t ws k = quoI t ws i := by omega
    rw [hqe] at e2
    by_cases hb : bef (rstI t ws) i k = true
    · have := rank_lt_of_bef (rstI t ws) ws.length i k hi hb
      unfold shareI
      rw [hqe]
      split <;> split <;> omega
    · -- the same remainder: the total is 0, or the weights are equal and i comes first
      have hr : rstI t ws i = rstI t ws k := by simp [bef] at hb; omega
      have hwlt : wt ws k < wt ws i := by
        rcases hik with h5 | h5
        · exact h5
        · exfalso; apply hb; simp [bef]; omega
      have ht0 : t = 0 := by
        have h6 : t * (wt ws i - wt ws k) = 0 := by rw [Int.mul_sub]; omega
        rcases Int.mul_eq_zero.1 h6 with h7 | h7
        · exact h7
        · omega
      have hl : leftI t ws = 0 := by
        have hs : sumN ws.length (quoI t ws) = sumN ws.length (fun _ => 0) := sumN_congr fun i _ => by simp [quoI, ht0]
        unfold leftI
        rw [hs, sumN_const, ht0]
        omega
      unfold shareI
      rw [hl, hqe, if_neg (by omega), if_neg (by omega)]
      omega

end Go.Proofs.YthnhgjhnkncmiaaGreat

namespace Go.Proofs.YthnhgjhnkncmiaaGreat
open Go.RowKit Go.Shelf Go.Lib Go.Sort
set_option linter.unusedVariables false

def porOf (t : Int) (ws : List Int) (j : Nat) : Por := ⟨j, quoI t ws j, rstI t ws j⟩
def porArr (t : Int) (ws : List Int) : Array Por := ((List.range ws.length).map (porOf t ws)).toArray
theorem porArr_size (t : Int) (ws : List Int) : (porArr t ws).size = ws.length := by simp [porArr]
theorem porArr_get (t : Int) (ws : List Int) (j : Nat) (h : j < ws.length) : (porArr t ws)[j]! = porOf t ws j := by
  simp [porArr, h]

theorem sorted_at (t : Int) (ws : List Int) (d' : Array Por) (hp : PermIn 0 ws.length (porArr t ws) d') (hs : SortedIn (ltOf cmpP) 0 ws.length d') (p : Nat) (h : p < ws.length) :
    ∃ j, j < ws.length ∧ d'[p]! = porOf t ws j ∧ rank (rstI t ws) ws.length j = p := by
  obtain ⟨h1, _, h3⟩ := hp
  rw [porArr_size] at h1
  have hperm : d'.toList.Perm ((List.range ws.length).map (porOf t ws)) := by
    have e1 : (d'.extract 0 ws.length).toList = d'.toList := by rw [← h1]; simp
    have e2 : ((porArr t ws).extract 0 ws.length).toList = (List.range ws.length).map (porOf t ws) := by
      rw [show ws.length = (porArr t ws).size from (porArr_size t ws).symm, Array.extract_size]
      simp [porArr]
    rw [e1, e2] at h3
    exact h3
  have hmem : ∀ i (hi : i < d'.size), ∃ j, j < ws.length ∧ d'[i] = porOf t ws j := by
    intro i hi
    have : d'[i] ∈ d'.toList := by simp
    obtain ⟨j, hj, e⟩ := List.mem_map.1 (hperm.mem_iff.1 this)
    exact ⟨j, List.mem_range.1 hj, e.symm⟩
  have hl : (d'.toList.map fun x => x.index.toNat).Perm (List.range ws.length) := by
    have := hperm.map fun x => x.index.toNat
    rwa [List.map_map, show (List.range ws.length).map ((fun x : Por => x.index.toNat) ∘ porOf t ws) = List.range ws.length from by
      conv => rhs; rw [← List.map_id (List.range ws.length)]
      apply List.map_congr_left; intro j _; simp [porOf]] at this
  have hlen : (d'.toList.map fun x => x.index.toNat).length = ws.length := by simp [h1]
  have hr := rank_of_sorted (rstI t ws) ws.length _ hl (by
    intro i j hi hj hij
    rw [hlen] at hi hj
    have h4 := hs i j (Nat.zero_le _) hij hj
    obtain ⟨a, ha, ea⟩ := hmem i (by omega)
    obtain ⟨b, hb, eb⟩ := hmem j (by omega)
    rw [getElem!_pos d' i (by omega), getElem!_pos d' j (by omega), ltP, ea, eb] at h4
    simp only [List.getElem_map, Array.getElem_toList, ea, eb]
    rw [← h4]
    rw [Bool.eq_iff_iff]
    simp [bef, porOf]
    exact decide_eq_true_iff) p (by omega)
  obtain ⟨j, hj, e⟩ := hmem p (by omega)
  refine ⟨j, hj, by rw [getElem!_pos d' p (by omega), e], ?_⟩
  simp only [List.getElem_map, Array.getElem_toList, e] at hr
  simpa [porOf] using hr

/-- The list that the first loop fills, as the sort asks for it. -/
theorem holds_porArr (t : Int) (ws : List Int) (w : World) (g : Nat) (hc : ∀ j, j < ws.length → w.cell? ⟨g, j * 3, none⟩ = some (.int .i64 j) ∧ w.cell? ⟨g, j * 3 + 1, none⟩ = some (.int .u64 (quoI t ws j)) ∧ w.cell? ⟨g, j * 3 + 2, none⟩ = some (.int .u64 (rstI t ws j)))
    (hf : ∀ o, w.frozen? ⟨g, o, none⟩ = false) : HoldsK encP 3 w g 0 (porArr t ws) := by
  intro i hi
  rw [size_flatK, porArr_size] at hi
  rw [get_flatK _ _ _ _ (by rw [porArr_size]; exact hi), porArr_get t ws (i / 3) (by omega)]
  refine ⟨?_, hf _⟩
  obtain ⟨c0, c1, c2⟩ := hc (i / 3) (by omega)
  have hm : i % 3 = 0 ∨ i % 3 = 1 ∨ i % 3 = 2 := by omega
  rcases hm with e | e | e
  · rw [e, show 0 + i = i / 3 * 3 by omega, c0]; rfl
  · rw [e, show 0 + i = i / 3 * 3 + 1 by omega, c1]; rfl
  · rw [e, show 0 + i = i / 3 * 3 + 2 by omega, c2]; rfl

theorem holdsK_cells (w : World) (g : Nat) (d : Array Por) (h : HoldsK encP 3 w g 0 d) (i : Nat) (hi : i < d.size) :
    w.cell? ⟨g, i * 3, none⟩ = some (.int .i64 d[i]!.index) ∧ w.cell? ⟨g, i * 3 + 1, none⟩ = some (.int .u64 d[i]!.share) ∧ w.cell? ⟨g, i * 3 + 2, none⟩ = some (.int .u64 d[i]!.rest) := by
  have h1 : ∀ c, c < 3 → w.cell? ⟨g, 0 + (i * 3 + c), none⟩ = some ((encP d[i]!)[c]!) := by
    intro c hc
    have := (h (i * 3 + c) (by rw [size_flatK]; omega)).1
    rw [this, get_flatK _ _ _ _ (by omega), show (i * 3 + c) / 3 = i by omega, show (i * 3 + c) % 3 = c by omega]
    rfl
  have a := h1 0 (by omega)
  have b := h1 1 (by omega)
  have c := h1 2 (by omega)
  rw [Nat.zero_add] at a b c
  exact ⟨a, b, c⟩

/-- What the world behind the sort is: nothing below the row has turned, and the row holds the sorted portions. -/
theorem sorted_world (w0 w : World) (g n m : Nat) (d d' : Array Por) (os : Array Obj) (hb : RowKit.Below w0.heap.size w0 w) (hg : w0.heap.size ≤ g) (hg' : g < w.heap.size) (hH : HoldsK encP 3 w g 0 d) (hs : d'.size = d.size) :
    RowKit.Below w0.heap.size w0 (sortWorldK encP 3 w g 0 m d' os) ∧ HoldsK encP 3 (sortWorldK encP 3 w g 0 m d' os) g 0 d' ∧ g < (sortWorldK encP 3 w g 0 m d' os).heap.size := by
  have hsz : (putRowK encP 3 (Sort.ahead w m) g 0 d').heap.size = w.heap.size := by simp [putRowK]
  refine ⟨⟨hb.os, hb.tape, hb.output, ?_, fun k hk => ?_⟩, ?_, ?_⟩
  · have := hb.size
    simp [sortWorldK, hsz]
    omega
  · have h1 : (sortWorldK encP 3 w g 0 m d' os).heap[k]? = (putRowK encP 3 (Sort.ahead w m) g 0 d').heap[k]? := heap_grow_old _ _ (by rw [hsz]; omega)
    rw [h1, ← hb.block k hk]
    simp only [putRowK, putRow, mapBlock, heap_ahead]
    rw [Array.getElem?_modify, if_neg (by omega)]
  · unfold sortWorldK
    exact holdsK_grow encP 3 _ _ _ _ _ (by rw [hsz]; exact hg') (holdsK_putRowK encP 3 _ _ _ _ _ (holdsK_ahead encP 3 w m g 0 d hH) hs)
  · simp [sortWorldK, hsz]
    omega

end Go.Proofs.YthnhgjhnkncmiaaGreat

namespace Go.Proofs.YthnhgjhnkncmiaaGreat
open Go.RowKit Go.Shelf Go.Lib Go.Sort
set_option linter.unusedVariables false

theorem infoI : (Tryz.prog.info? 3).map (fun i => (i.zero, i.size, i.bytes)) = some (some (.int .i64 0), 1, 8) := by kernel_rfl

theorem ret_share {A B : Value} {a b : Int} (h : a = b) (h2 : A = B) : Ending.returned (.tuple #[A, .int .i64 a]) = .returned (.tuple #[B, .int .i64 b]) := by rw [h, h2]

/-- The portions 0 .. k-1 lie in the list. -/
def PorRow (cs : Array Value) (t : Int) (ws : List Int) (k : Nat) : Prop :=
  cs.size = ws.length * 3 ∧ ∀ j, j < k → cs[j * 3]? = some (.int .i64 j) ∧ cs[j * 3 + 1]? = some (.int .u64 (quoI t ws j)) ∧ cs[j * 3 + 2]? = some (.int .u64 (rstI t ws j))

theorem divOut_down (N c : Int) (hN : 0 ≤ N) (hc : 0 < c) (h : N / c ≤ 18446744073709551615) : divOut N c 0 = (N / c, 0) := by
  have h1 : ¬ c ≤ N / 18446744073709551616 := by
    intro h2
    have h3 : N < (N / c + 1) * c := by
      have := Int.mul_ediv_add_emod N c
      have := Int.emod_lt_of_pos N hc
      rw [Int.add_mul, Int.mul_comm (N / c)]
      omega
    have h4 : (N / c + 1) * c ≤ 18446744073709551616 * c := Int.mul_le_mul_of_nonneg_right (by omega) (by omega)
    omega
  have h2 : ¬ c = 0 := by omega
  simp [divOut, h1, h2, raisedB]

theorem getD_le_sum (ws : List Int) (h : NonNeg ws) (i : Nat) (hi : i < ws.length) : ws.getD i 0 ≤ ws.sum := by
  rw [← sumN_list]
  exact sumN_le_all (f := fun i => ws.getD i 0) (fun i _ => h i) i hi

theorem wt_le_wsum (ws : List Int) (h : NonNeg ws) (i : Nat) (hi : i < ws.length) : wt ws i ≤ wsum ws := by
  unfold wt wsum
  by_cases h0 : ws.sum = 0
  · simp [h0]; omega
  · simp only [h0, if_false]; exact getD_le_sum ws h i hi

theorem quo_le (t : Int) (ws : List Int) (ht : 0 ≤ t) (h : NonNeg ws) (i : Nat) (hi : i < ws.length) : quoI t ws i ≤ t := by
  have h1 := wt_le_wsum ws h i hi
  have h2 := wsum_pos h (by omega)
  unfold quoI
  have h3 : t * wt ws i / wsum ws < t + 1 := by
    rw [Int.ediv_lt_iff_lt_mul h2, Int.add_mul]
    have : t * wt ws i ≤ t * wsum ws := Int.mul_le_mul_of_nonneg_left h1 ht
    omega
  omega

theorem sum_quo_bounds (t : Int) (ws : List Int) (ht : 0 ≤ t) (h : NonNeg ws) (k : Nat) (hk : k ≤ ws.length) (hn : 0 < ws.length) : 0 ≤ sumN k (quoI t ws) ∧ sumN k (quoI t ws) ≤ t := by
  refine ⟨sumN_nonneg fun i _ => quo_nonneg h ht hn i, ?_⟩
  have h1 : ∀ m, sumN k (quoI t ws) ≤ sumN (k + m) (quoI t ws) := by
    intro m
    induction m with
    | zero => exact Int.le_refl _
    | succ m ih => rw [← Nat.add_assoc, sumN_succ]; have := quo_nonneg h ht hn (k + m); omega
  have h2 := h1 (ws.length - k)
  rw [show k + (ws.length - k) = ws.length by omega] at h2
  have h3 := left_nonneg (t := t) h hn
  unfold leftI at h3
  omega

theorem PorRow.put {cs : Array Value} {t : Int} {ws : List Int} {k : Nat} (h : PorRow cs t ws k) (hk : k < ws.length) :
    PorRow (((cs.setIfInBounds (k * 3) (.int .i64 k)).setIfInBounds (k * 3 + 1) (.int .u64 (quoI t ws k))).setIfInBounds (k * 3 + 2) (.int .u64 (rstI t ws k))) t ws (k + 1) := by
  have hs := h.1
  refine ⟨by simpa using hs, fun j hj => ?_⟩
  by_cases e : j = k
  · subst e
    simp [Array.getElem?_setIfInBounds]
    omega
  · have := h.2 j (by omega)
    simp only [Array.getElem?_setIfInBounds, Array.size_setIfInBounds]
    refine ⟨?_, ?_, ?_⟩
    · rw [if_neg (by omega), if_neg (by omega), if_neg (by omega)]; exact this.1
    · rw [if_neg (by omega), if_neg (by omega), if_neg (by omega)]; exact this.2.1
    · rw [if_neg (by omega), if_neg (by omega), if_neg (by omega)]; exact this.2.2

theorem Bl.three {w : World} {g : Nat} {T : TypeId} {cs : Array Value} (h : Bl w g T cs) (o : Nat) (ho : o + 2 < cs.size) :
    (∃ v, w.cell? ⟨g, o, none⟩ = some v) ∧ (∃ v, w.cell? ⟨g, o + 1, none⟩ = some v) ∧ (∃ v, w.cell? ⟨g, o + 2, none⟩ = some v) ∧ w.frozen? ⟨g, o, none⟩ = false ∧ w.frozen? ⟨g, o + 1, none⟩ = false ∧ w.frozen? ⟨g, o + 2, none⟩ = false :=
  ⟨⟨_, (h.cell o).trans (Array.getElem?_eq_getElem (by omega))⟩, ⟨_, (h.cell (o + 1)).trans (Array.getElem?_eq_getElem (by omega))⟩, ⟨_, (h.cell (o + 2)).trans (Array.getElem?_eq_getElem (by omega))⟩, h.free _, h.free _, h.free _⟩

/-- The result after p rounds: whoever's rank is below p has its share. -/
def ResRow (rs : Array Value) (t : Int) (ws : List Int) (p : Nat) : Prop :=
  rs.size = ws.length ∧ ∀ j, j < ws.length → rs[j]? = some (.int .i64 (if rank (rstI t ws) ws.length j < p then shareI t ws j else 0))

theorem ResRow.put {rs : Array Value} {t : Int} {ws : List Int} {p j : Nat} {q : Int} (h : ResRow rs t ws p) (hj : j < ws.length) (hr : rank (rstI t ws) ws.length j = p) (hq : shareI t ws j = q) :
    ResRow (rs.setIfInBounds j (.int .i64 q)) t ws (p + 1) := by
  refine ⟨by simpa using h.1, fun i hi => ?_⟩
  rw [Array.getElem?_setIfInBounds]
  by_cases e : j = i
  · subst e
    rw [if_pos rfl, if_pos (by rw [h.1]; exact hj), if_pos (by omega), hq]
  · rw [if_neg e, h.2 i hi]
    have : rank (rstI t ws) ws.length i ≠ p := fun e2 => e (rank_inj (rstI t ws) ws.length j i hj hi (by omega))
    by_cases h2 : rank (rstI t ws) ws.length i < p
    · rw [if_pos h2, if_pos (by omega)]
    · rw [if_neg h2, if_neg (by omega)]

end Go.Proofs.YthnhgjhnkncmiaaGreat

namespace Go.Proofs.YthnhgjhnkncmiaaGreat
open Go.RowKit
set_option linter.unusedVariables false

/-- What a function returns that gives a list of its own and an error. -/
def SlRes (w : World) (er : Int) (out : List Int) (e : Ending) (w' : World) : Prop :=
  ∃ A n c, e = .returned (.tuple #[.slice A n c, .int .i64 er]) ∧ w'.ownsRow w.heap.size 3 1 (.slice A n c) n (out.map (Value.int .i64)) ∧ RowKit.Below w.heap.size w w'

/-- The list of Share: nothing where there is an error. -/
def shareOut (t : Int) (ws : List Int) : List Int := if chkErr t ws = 0 then shareL t ws else []

theorem own_nil (w : World) (b : Nat) (T : TypeId) : w.ownsRow b T 1 (.slice none 0 0) 0 ([].map (Value.int .i64)) := ⟨by simp, .inl ⟨rfl, rfl⟩⟩

theorem chk_zero {t : Int} {ws : List Int} (h : chkErr t ws = 0) : ws.length ≤ 1000 ∧ 0 ≤ t ∧ t ≤ 1000000000000 ∧ AllIn ws ∧ (ws.length = 0 → t = 0) := by
  unfold chkErr at h
  split at h
  · omega
  · split at h
    · omega
    · split at h
      · rename_i h3
        split at h
        · omega
        · exact ⟨by omega, by omega, by omega, h3, by omega⟩
      · omega

end Go.Proofs.YthnhgjhnkncmiaaGreat

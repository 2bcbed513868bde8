/-
  Contracts of math/bits.Div64 and math/bits.Rem64 in plain numbers. No statement of the seat is proved here. Conditions: the divisor is above the head (Div64), the divisor is above 0 (Rem64).
-/
import Derived.Test.YtknbbamlpadfdaaDiv64
import Derived.Test.YtknbbamlpadfdaaShelf
import Derived.Lib.ItoaNum
import Derived.RegionTactic
namespace Go.Proofs.Ytknbbamlpadfdaa
open Go.RowKit
set_option linter.unusedVariables false

namespace DivMath

theorem mask (a : Int) (h0 : 0 ≤ a) (h : a ≤ 18446744073709551615) : bits .and .u64 a 4294967295 = a % 4294967296 := by
  obtain ⟨n, rfl⟩ := Int.eq_ofNat_of_zero_le h0
  have h1 := bits_and_u64_nat n 4294967295 (by omega) (by omega)
  have e : n &&& 4294967295 = n % 4294967296 := Nat.and_two_pow_sub_one_eq_mod n 32
  rw [e] at h1
  exact h1.trans (by omega)

theorem orAdd (h t b : Int) (s : Nat) (h0 : 0 ≤ h) (hb0 : 0 ≤ b) (hb : b < 2 ^ s) (hs : s ≤ 63) (ha : h * 2 ^ s ≤ 18446744073709551615) : bits .or .u64 (h * 2 ^ s) b = h * 2 ^ s + b := by
  obtain ⟨n, rfl⟩ := Int.eq_ofNat_of_zero_le h0
  obtain ⟨m, rfl⟩ := Int.eq_ofNat_of_zero_le hb0
  have hp : (2 : Nat) ^ s ≤ 2 ^ 63 := Nat.pow_le_pow_right (by omega) hs
  have hc : ((n : Int) * 2 ^ s) = ((n * 2 ^ s : Nat) : Int) := by rw [Int.natCast_mul, Int.natCast_pow]; rfl
  have hc2 : ((2 : Int) ^ s) = ((2 ^ s : Nat) : Int) := by rw [Int.natCast_pow]; rfl
  rw [hc2] at hb
  rw [hc] at ha ⊢
  have h1 := bits_or_u64_nat (n * 2 ^ s) m (by omega) (by omega)
  rw [h1]
  have : n * 2 ^ s ||| m = n * 2 ^ s + m := by
    rw [Nat.mul_comm, ← Nat.two_pow_add_eq_or_of_lt (by omega)]
  rw [this, Int.natCast_add]

/-- What the shift by the leading zeros gives. -/
theorem norm (y : Int) (h0 : 0 < y) (h1 : y ≤ 18446744073709551615) : ∃ s : Nat, s ≤ 63 ∧ (64 - (Lib.bitLen y.toNat : Int)) = s ∧ 9223372036854775808 ≤ y * 2 ^ s ∧ y * 2 ^ s ≤ 18446744073709551615 := by
  obtain ⟨n, rfl⟩ := Int.eq_ofNat_of_zero_le (Int.le_of_lt h0)
  rw [Int.toNat_natCast]
  obtain ⟨b1, b2, b3⟩ := Lib.bitLenAux_bounds 64 n (by omega) (by omega)
  have b4 : Lib.bitLen n ≤ 64 := Lib.bitLen_le n 64 (by omega) (by omega)
  change 1 ≤ Lib.bitLen n at b1
  change 2 ^ (Lib.bitLen n - 1) ≤ n at b2
  change n < 2 ^ Lib.bitLen n at b3
  generalize Lib.bitLen n = b at *
  refine ⟨64 - b, by omega, by omega, ?_⟩
  have hc : ((n : Int) * 2 ^ (64 - b)) = ((n * 2 ^ (64 - b) : Nat) : Int) := by rw [Int.natCast_mul, Int.natCast_pow]; rfl
  rw [hc]
  have e1 : 2 ^ (b - 1) * 2 ^ (64 - b) = 9223372036854775808 := by rw [← Nat.pow_add, show b - 1 + (64 - b) = 63 by omega]
  have e2 : 2 ^ b * 2 ^ (64 - b) = 18446744073709551616 := by rw [← Nat.pow_add, show b + (64 - b) = 64 by omega]
  have l1 : 2 ^ (b - 1) * 2 ^ (64 - b) ≤ n * 2 ^ (64 - b) := Nat.mul_le_mul_right _ b2
  have l2 : n * 2 ^ (64 - b) < 2 ^ b * 2 ^ (64 - b) := Nat.mul_lt_mul_of_pos_right b3 (Nat.pow_pos (by omega))
  omega

theorem wrap_u64_mod (a : Int) : IntKind.u64.wrap a = a % 18446744073709551616 := IntKind.wrap_u64 a

/-- The head and the tail of the shifted dividend. -/
theorem shifted (hi lo y P Q : Int) (hPQ : P * Q = 18446744073709551616) (hP : 0 < P) (hQ : 0 < Q) (h0 : 0 ≤ hi) (h1 : hi < y) (hl0 : 0 ≤ lo) (hl1 : lo ≤ 18446744073709551615) :
    0 ≤ lo / Q ∧ lo / Q < P ∧ hi * P + lo / Q < y * P ∧ (lo * P) % 18446744073709551616 = lo % Q * P ∧ (hi * 18446744073709551616 + lo) * P = (hi * P + lo / Q) * 18446744073709551616 + lo % Q * P := by
  have hd := Int.mul_ediv_add_emod lo Q
  have hm := Int.emod_nonneg lo (show Q ≠ 0 by omega)
  have hm2 := Int.emod_lt_of_pos lo hQ
  have hb : lo / Q < P := (Int.ediv_lt_iff_lt_mul hQ).2 (by rw [hPQ]; omega)
  have hb0 : 0 ≤ lo / Q := Int.ediv_nonneg hl0 (by omega)
  refine ⟨hb0, hb, ?_, ?_, ?_⟩
  · have : (hi + 1) * P ≤ y * P := Int.mul_le_mul_of_nonneg_right h1 (by omega)
    rw [Int.add_mul, Int.one_mul] at this
    omega
  · have e : lo * P = lo % Q * P + 18446744073709551616 * (lo / Q) := by
      conv => lhs; rw [← hd]
      rw [← hPQ]; grind
    rw [e, Int.add_mul_emod_self_left]
    refine Int.emod_eq_of_lt (Int.mul_nonneg hm (by omega)) ?_
    rw [← hPQ, Int.mul_comm P Q]
    exact Int.mul_lt_mul_of_pos_right hm2 hP
  · conv => lhs; rw [← hd]
    rw [← hPQ]; grind

theorem sub_mod_word (N q Y : Int) (hY0 : 0 < Y) (hY : Y ≤ 18446744073709551615) (hq : q = N / Y) : (N % 18446744073709551616 - q * Y % 18446744073709551616) % 18446744073709551616 = N % Y := by
  have h1 := Int.mul_ediv_add_emod N Y
  have h2 := Int.emod_nonneg N (show Y ≠ 0 by omega)
  have h3 := Int.emod_lt_of_pos N hY0
  rw [← hq] at h1
  have h4 : Y * q = q * Y := Int.mul_comm _ _
  generalize N % Y = r at *
  generalize q * Y = m at *
  omega

/-- All that the walk of Div64 asks, out of a shift that normalizes the divisor. -/
theorem head_digit (u n1 n0 un1 Y : Int) (hY : Y = n1 * 4294967296 + n0) (D : Dom u n1 n0 un1) (hYh : Y ≤ 18446744073709551615) (qd : Int) (hqd : qd = (u * 4294967296 + un1) / (n1 * 4294967296 + n0)) :
    IntKind.u64.wrap (IntKind.u64.wrap (IntKind.u64.wrap (u * 4294967296) + un1) - IntKind.u64.wrap (qd * Y)) = (u * 4294967296 + un1) % Y := by
  rw [← hY] at hqd
  have h := sub_mod_word (u * 4294967296 + un1) qd Y (by have := D.n1l; have := D.n0l; omega) hYh hqd
  rw [← h]
  simp only [wrap_u64_mod]
  generalize u * 4294967296 = x
  generalize qd * Y = z
  omega

theorem guess (u n1 n0 l : Int) (d : Dom u n1 n0 l) (hu : u ≤ 18446744073709551615) : IntKind.u64.wrap (u / n1 * n1) = u / n1 * n1 ∧ 0 ≤ u / n1 * n1 ∧ u / n1 * n1 ≤ u ∧ u / n1 ≤ 4294967297 ∧ 0 ≤ u / n1 := by
  have h := start d
  have h1 := h.split
  have h2 := h.pos
  have h3 := h.qpos
  have h5 : 0 ≤ u / n1 * n1 := Int.mul_nonneg h3 (by have := d.n1l; omega)
  refine ⟨?_, h5, by omega, le_top h d, h3⟩
  rw [wrap_u64_mod]
  generalize u / n1 * n1 = x at *
  omega

end DivMath

set_option maxHeartbeats 1000000 in
/-- math/bits.Div64, the head being 0. -/
theorem div64_low (lo y : Int) (w : World) (h1 : 0 < y) (h2 : y ≤ 18446744073709551615) (hl0 : 0 ≤ lo) (hl1 : lo ≤ 18446744073709551615) :
    Calls Try.prog 64 #[.int .u64 0, .int .u64 lo, .int .u64 y] w fun e w' => e = .returned (.tuple #[.int .u64 (lo / y), .int .u64 (lo % y)]) ∧ ∃ n, w' = w.drewN n := by
  have b1 : (y == 0) = false := by simp; omega
  have q0 : ¬ y ≤ 0 := by omega
  have b2 : y ≠ 0 := by omega
  have w1 : IntKind.u64.wrap (lo.tdiv y) = lo / y := IntWalk.u64_quo lo y ⟨hl0, hl1, h1⟩
  have w2 : lo.tmod y = lo % y := IntWalk.rem_in lo y hl0
  go_enter Try.func64, Try.ntmps64
  go_wp2
  go_quiet (fail)
  go_wp2
  go_ret2
  exact ⟨rfl, _, rfl⟩

set_option maxHeartbeats 1000000 in
/-- math/bits.Div64: quotient and remainder. -/
theorem div64_any (hi lo y : Int) (w : World) (h0 : 0 ≤ hi) (h1 : hi < y) (h2 : y ≤ 18446744073709551615) (hl0 : 0 ≤ lo) (hl1 : lo ≤ 18446744073709551615) :
    Calls Try.prog 64 #[.int .u64 hi, .int .u64 lo, .int .u64 y] w fun e w' => e = .returned (.tuple #[.int .u64 ((hi * 18446744073709551616 + lo) / y), .int .u64 ((hi * 18446744073709551616 + lo) % y)]) ∧ ∃ n, w' = w.drewN n := by
  by_cases hz : hi = 0
  · subst hz
    simpa using div64_low lo y w h1 h2 hl0 hl1
  obtain ⟨s, hs, hsl, hY0, hY1⟩ := DivMath.norm y (by omega) h2
  have hPQ : (2 : Int) ^ s * 2 ^ (64 - s) = 18446744073709551616 := by
    rw [← Int.pow_add, show s + (64 - s) = 64 by omega]; rfl
  have hP : (0 : Int) < 2 ^ s := Int.pow_pos (by omega)
  have hQ : (0 : Int) < 2 ^ (64 - s) := Int.pow_pos (by omega)
  obtain ⟨k1, k2, k3, k4, k5⟩ := DivMath.shifted hi lo y (2 ^ s) (2 ^ (64 - s)) hPQ hP hQ h0 h1 hl0 hl1
  have k6 : 0 ≤ hi * 2 ^ s := Int.mul_nonneg h0 (by omega)
  have hor := DivMath.orAdd hi 0 (lo / 2 ^ (64 - s)) s h0 k1 k2 hs (by omega)
  have hdY := Int.mul_ediv_add_emod (y * 2 ^ s) 4294967296
  have hn0 := Int.emod_nonneg (y * 2 ^ s) (show (4294967296 : Int) ≠ 0 by omega)
  have hn0' := Int.emod_lt_of_pos (y * 2 ^ s) (show (0 : Int) < 4294967296 by omega)
  have hYe : y * 2 ^ s = y * 2 ^ s / 4294967296 * 4294967296 + y * 2 ^ s % 4294967296 := by omega
  have k7 : 0 ≤ lo % 2 ^ (64 - s) * 2 ^ s := by rw [← k4]; omega
  have k8 : lo % 2 ^ (64 - s) * 2 ^ s ≤ 18446744073709551615 := by rw [← k4]; omega
  have D1 : DivMath.Dom (hi * 2 ^ s + lo / 2 ^ (64 - s)) (y * 2 ^ s / 4294967296) (y * 2 ^ s % 4294967296) (lo % 2 ^ (64 - s) * 2 ^ s / 4294967296) := ⟨by omega, by omega, by omega, by omega, by omega, by omega, by omega, by omega⟩
  obtain ⟨g1, g2, g3, g4, g5⟩ := DivMath.guess _ _ _ _ D1 (by omega)
  have hh := DivMath.head_digit _ _ _ _ (y * 2 ^ s) hYe D1 hY1 _ rfl
  have hm0 := Int.emod_nonneg ((hi * 2 ^ s + lo / 2 ^ (64 - s)) * 4294967296 + lo % 2 ^ (64 - s) * 2 ^ s / 4294967296) (show y * 2 ^ s ≠ 0 by omega)
  have hm1 := Int.emod_lt_of_pos ((hi * 2 ^ s + lo / 2 ^ (64 - s)) * 4294967296 + lo % 2 ^ (64 - s) * 2 ^ s / 4294967296) (show 0 < y * 2 ^ s by omega)
  have D2 : DivMath.Dom (((hi * 2 ^ s + lo / 2 ^ (64 - s)) * 4294967296 + lo % 2 ^ (64 - s) * 2 ^ s / 4294967296) % (y * 2 ^ s)) (y * 2 ^ s / 4294967296) (y * 2 ^ s % 4294967296) (lo % 2 ^ (64 - s) * 2 ^ s % 4294967296) := ⟨by omega, by omega, by omega, by omega, by omega, by omega, hm0, by omega⟩
  obtain ⟨g1', g2', g3', g4', g5'⟩ := DivMath.guess _ _ _ _ D2 (by omega)
  have hh' := DivMath.head_digit _ _ _ _ (y * 2 ^ s) hYe D2 hY1 _ rfl
  have hj := DivMath.join (U := (hi * 18446744073709551616 + lo) * 2 ^ s) (Y := y * 2 ^ s) (u := hi * 2 ^ s + lo / 2 ^ (64 - s)) (un1 := lo % 2 ^ (64 - s) * 2 ^ s / 4294967296) (un0 := lo % 2 ^ (64 - s) * 2 ^ s % 4294967296) (by omega) (by rw [k5]; omega) rfl rfl rfl
  obtain ⟨hj1, hj2⟩ := hj
  rw [Int.mul_ediv_mul_of_pos_left _ _ hP] at hj1
  rw [Int.mul_comm _ (2 ^ s), Int.mul_comm y (2 ^ s), Int.mul_emod_mul_of_pos _ _ hP, Int.mul_comm (2 ^ s) y] at hj2
  have hlz : ∀ w : World, Calls Try.prog 73 #[.int .u64 y] w fun e w' => e = .returned (.int .i64 s) ∧ w = w' := fun w =>
    (Try.bits_LeadingZeros64 y w (by omega) h2).mono fun e w' ⟨he, hw⟩ => ⟨by rw [he, hsl], hw.symm⟩
  have q1 := DivMath.digit_lt D1
  have q2 := DivMath.digit_nonneg D1
  have q3 := DivMath.digit_lt D2
  have q4 := DivMath.digit_nonneg D2
  refine (div64_core hi lo y (y * 2 ^ s) (y * 2 ^ s / 4294967296) (y * 2 ^ s % 4294967296) (hi * 2 ^ s) (lo / 2 ^ (64 - s)) (hi * 2 ^ s + lo / 2 ^ (64 - s)) (lo % 2 ^ (64 - s) * 2 ^ s) (lo % 2 ^ (64 - s) * 2 ^ s / 4294967296) (lo % 2 ^ (64 - s) * 2 ^ s % 4294967296)
    _ _ _ _ _ _ _ _ _ _ _ _ _ _ _ _ _ s w h1 h2 hl1 hl0 (by omega) hs hlz (by rw [DivMath.wrap_u64_mod]; omega) rfl (DivMath.mask _ (by omega) hY1) (by rw [DivMath.wrap_u64_mod]; omega) rfl hor (by rw [DivMath.wrap_u64_mod, k4]) rfl (DivMath.mask _ k7 k8) rfl g1 rfl ⟨g2, g3⟩ g4 g5 (by omega) D1 (DivMath.start D1) (by omega) hY1 k7 k8 rfl q2 q1 rfl rfl rfl hh rfl g1' rfl (by omega) hm0 ⟨g2', g3'⟩ g4' g5' D2 (DivMath.start D2) rfl q4 q3 rfl rfl rfl hh' rfl).mono ?_
  rintro e w' ⟨rfl, rfl⟩
  refine ⟨?_, 0, rfl⟩
  rw [← hYe, ← hj2, Int.mul_ediv_cancel_left _ (by omega), hj1]
end Go.Proofs.Ytknbbamlpadfdaa

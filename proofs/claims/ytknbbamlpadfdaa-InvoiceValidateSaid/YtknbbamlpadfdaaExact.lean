/-
  Contracts of math/bits.Rem64 and of package exact's Mul, Div, MulDiv, MulMod. No statement of the seat is proved here. Conditions: the numbers fit 64 bits without a sign.
-/
import Derived.Test.YtknbbamlpadfdaaDivAny
namespace Go.Proofs.Ytknbbamlpadfdaa
open Go.RowKit
set_option linter.unusedVariables false

/-- Whether a quotient is raised, as a function of the mode. -/
def raisedB (q r c m : Int) : Bool :=
  if m = 1 then decide (0 < r) else if m = 2 then decide (c - r ≤ r) else if m = 3 then (decide (c - r < r) || (decide (r = c - r) && decide (q % 2 = 1))) else false

theorem ret_int' {k : IntKind} {a b : Int} (h : a = b) : Ending.returned (.int k a) = .returned (.int k b) := by rw [h]

theorem ret_bool {a b : Bool} (h : a = b) : Ending.returned (.bool a) = .returned (.bool b) := by rw [h]

set_option maxHeartbeats 1000000 in
theorem raised_any (q r c m : Int) (w : World) (hq : 0 ≤ q) (hr : 0 ≤ r) (hc : r ≤ c) (hc' : c ≤ 18446744073709551615) :
    Calls Try.prog 65 #[.int .u64 q, .int .u64 r, .int .u64 c, .int .i64 m] w fun e w' => e = .returned (.bool (raisedB q r c m)) ∧ w = w' := by
  by_cases h1 : m = 1
  · subst h1
    go_enter Try.func65, Try.ntmps65
    go_wp2
    go_ret
    exact ⟨ret_bool (by simp [raisedB]), rfl⟩
  by_cases h2 : m = 2
  · subst h2
    go_enter Try.func65, Try.ntmps65
    go_wp2
    go_ret
    exact ⟨ret_bool (by simp [raisedB]), rfl⟩
  have b1 : (m == 1) = false := by simpa using h1
  have b2 : (m == 2) = false := by simpa using h2
  by_cases h3 : m = 3
  · subst h3
    by_cases t1 : c - r < r
    · have d1 : decide (c - r < r) = true := by simpa using t1
      have E := Lib.hid (show raisedB q r c 3 = true by simp [raisedB, t1])
      go_enter Try.func65, Try.ntmps65
      go_wp2
      go_ret
      exact ⟨ret_bool E.out.symm, rfl⟩
    · have d1 : decide (c - r < r) = false := by simpa using t1
      by_cases t2 : r = c - r
      · have d2 : (r == c - r) = true := by simpa using t2
        by_cases t3 : q % 2 = 1
        · have d3 : (q % 2 == 1) = true := by simpa using t3
          have E := Lib.hid (show raisedB q r c 3 = true by simp [raisedB, t3, ← t2])
          have T2 := Lib.hid t2
          clear t2 t3
          go_enter Try.func65, Try.ntmps65
          go_wp2
          go_ret
          exact ⟨ret_bool E.out.symm, rfl⟩
        · have d3 : (q % 2 == 1) = false := by simpa using t3
          have E := Lib.hid (show raisedB q r c 3 = false by simp [raisedB, t3, ← t2])
          have T2 := Lib.hid t2
          clear t2 t3
          go_enter Try.func65, Try.ntmps65
          go_wp2
          go_ret
          exact ⟨ret_bool E.out.symm, rfl⟩
      · have d2 : (r == c - r) = false := by simpa using t2
        have E := Lib.hid (show raisedB q r c 3 = false by simp [raisedB, t2]; omega)
        go_enter Try.func65, Try.ntmps65
        go_wp2
        go_ret
        exact ⟨ret_bool E.out.symm, rfl⟩
  · have b3 : (m == 3) = false := by simpa using h3
    have E := Lib.hid (show raisedB q r c m = false by simp [raisedB, h1, h2, h3])
    go_enter Try.func65, Try.ntmps65
    go_wp2
    go_ret
    exact ⟨ret_bool E.out.symm, rfl⟩

set_option maxHeartbeats 1000000 in
theorem rem64_any (hi lo y : Int) (w : World) (h0 : 0 ≤ hi) (h1 : hi ≤ 18446744073709551615) (hy : 0 < y) (h2 : y ≤ 18446744073709551615) (hl0 : 0 ≤ lo) (hl1 : lo ≤ 18446744073709551615) :
    Calls Try.prog 54 #[.int .u64 hi, .int .u64 lo, .int .u64 y] w fun e w' => e = .returned (.int .u64 ((hi * 18446744073709551616 + lo) % y)) ∧ ∃ n, w' = w.drewN n := by
  have b1 : (y == 0) = false := by simp; omega
  have k1 := Int.emod_nonneg hi (show y ≠ 0 by omega)
  have k2 := Int.emod_lt_of_pos hi hy
  have hd := div64_any (hi % y) lo y w k1 k2 h2 hl0 hl1
  have e : (hi % y * 18446744073709551616 + lo) % y = (hi * 18446744073709551616 + lo) % y := by
    rw [Int.add_emod, Int.mul_emod, Int.emod_emod_of_dvd _ (Int.dvd_refl y), ← Int.mul_emod, ← Int.add_emod]
  rw [e] at hd
  have HD := Lib.hid hd
  clear hd e k1 k2
  go_enter Try.func54, Try.ntmps54
  go_wp2_with (go_at_call 64; refine HD.out.mono ?_; rintro e w' ⟨rfl, n, rfl⟩)
  go_ret
  exact ⟨rfl, _, rfl⟩

set_option maxHeartbeats 1000000 in
theorem mul_any (a b : Int) (w : World) (ha : 0 ≤ a) (ha' : a ≤ 18446744073709551615) (hb : 0 ≤ b) (hb' : b ≤ 18446744073709551615) :
    Calls Try.prog 53 #[.int .u64 a, .int .u64 b] w fun e w' => e = .returned (.agg #[.int .u64 (a * b / 18446744073709551616), .int .u64 (a * b % 18446744073709551616)]) ∧ Below w.heap.size w w' := by
  have hm : ∀ w : World, Calls Try.prog 66 #[.int .u64 a, .int .u64 b] w fun e w' => e = .returned (.tuple #[.int .u64 (a * b / 18446744073709551616), .int .u64 (a * b % 18446744073709551616)]) ∧ w = w' := by
    intro w
    obtain ⟨x, rfl⟩ := Int.eq_ofNat_of_zero_le ha
    obtain ⟨y, rfl⟩ := Int.eq_ofNat_of_zero_le hb
    refine (Try.bits_Mul64 x y (by omega) (by omega) w).mono fun e w' ⟨he, hw⟩ => ⟨?_, hw.symm⟩
    rw [he]
    rfl
  have HM := Lib.hid hm
  clear hm
  generalize a * b / 18446744073709551616 = h at *
  generalize a * b % 18446744073709551616 = l at *
  go_enter Try.func53, Try.ntmps53
  go_wp2_with (go_at_call 66; refine (HM.out _).mono ?_; rintro e w' ⟨rfl, rfl⟩)
  refine bodyPost_ret (v := .agg #[.int .u64 h, .int .u64 l]) (by simp [results, Try.results53, go_sem]) rfl ⟨rfl, ?_⟩
  exact (Below.refl _ _).alloc (Nat.le_refl _) _

/-- The number and the error of exact.Div at the dividend n. -/
def divOut (n c m : Int) : Int × Int :=
  if c = 0 ∨ m < 0 ∨ 3 < m then (0, 2)
  else if c ≤ n / 18446744073709551616 then (0, 3)
  else if raisedB (n / c) (n % c) c m = true then (if n / c = 18446744073709551615 then (0, 3) else (n / c + 1, 0))
  else (n / c, 0)

theorem ret_div {n c m q e : Int} (h : divOut n c m = (q, e)) : Ending.returned (.tuple #[.int .u64 q, .int .i64 e]) = .returned (.tuple #[.int .u64 (divOut n c m).1, .int .i64 (divOut n c m).2]) := by rw [h]

set_option maxHeartbeats 1000000 in
theorem div_any (h l c m : Int) (w : World) (hh : 0 ≤ h) (hh' : h ≤ 18446744073709551615) (hl : 0 ≤ l) (hl' : l ≤ 18446744073709551615) (hc : 0 ≤ c) (hc' : c ≤ 18446744073709551615) :
    Calls Try.prog 52 #[.agg #[.int .u64 h, .int .u64 l], .int .u64 c, .int .i64 m] w fun e w' => e = .returned (.tuple #[.int .u64 (divOut (h * 18446744073709551616 + l) c m).1, .int .i64 (divOut (h * 18446744073709551616 + l) c m).2]) ∧ Below w.heap.size w w' := by
  by_cases c0 : c = 0
  · have E := Lib.hid (show divOut (h * 18446744073709551616 + l) c m = (0, 2) by simp [divOut, c0])
    have b0 : (c == 0) = true := by simpa using c0
    clear c0
    go_enter Try.func52, Try.ntmps52
    go_wp2
    go_ret2
    exact ⟨ret_div E.out, (Below.refl _ _).alloc (Nat.le_refl _) _⟩
  have b0 : (c == 0) = false := by simpa using c0
  by_cases m0 : m < 0
  · have E := Lib.hid (show divOut (h * 18446744073709551616 + l) c m = (0, 2) by simp [divOut, m0])
    have d0 : decide (m < 0) = true := by simpa using m0
    go_enter Try.func52, Try.ntmps52
    go_wp2
    go_ret2
    exact ⟨ret_div E.out, (Below.refl _ _).alloc (Nat.le_refl _) _⟩
  have d0 : decide (m < 0) = false := by simpa using m0
  by_cases m3 : 3 < m
  · have E := Lib.hid (show divOut (h * 18446744073709551616 + l) c m = (0, 2) by simp [divOut, m3])
    have d3 : decide (3 < m) = true := by simpa using m3
    go_enter Try.func52, Try.ntmps52
    go_wp2
    go_ret2
    exact ⟨ret_div E.out, (Below.refl _ _).alloc (Nat.le_refl _) _⟩
  have d3 : decide (3 < m) = false := by simpa using m3
  have en : (h * 18446744073709551616 + l) / 18446744073709551616 = h := by omega
  by_cases t1 : c ≤ h
  · have E := Lib.hid (show divOut (h * 18446744073709551616 + l) c m = (0, 3) by simp [divOut, c0, m0, m3, en, t1])
    clear en
    go_enter Try.func52, Try.ntmps52
    go_wp2
    go_ret2
    exact ⟨ret_div E.out, (Below.refl _ _).alloc (Nat.le_refl _) _⟩
  have HD := Lib.hid (fun w : World => div64_any h l c w hh (by omega) hc' hl hl')
  have HE := Lib.hid (show divOut (h * 18446744073709551616 + l) c m = if raisedB ((h * 18446744073709551616 + l) / c) ((h * 18446744073709551616 + l) % c) c m = true then (if (h * 18446744073709551616 + l) / c = 18446744073709551615 then (0, 3) else ((h * 18446744073709551616 + l) / c + 1, 0)) else ((h * 18446744073709551616 + l) / c, 0) by simp [divOut, c0, m0, m3, en, t1])
  have hN : 0 ≤ h * 18446744073709551616 + l := by omega
  have q0 : 0 ≤ (h * 18446744073709551616 + l) / c := Int.ediv_nonneg hN hc
  have q1 : (h * 18446744073709551616 + l) / c < 18446744073709551616 := (Int.ediv_lt_iff_lt_mul (by omega)).2 (by omega)
  have r0 := Int.emod_nonneg (h * 18446744073709551616 + l) c0
  have r1 := Int.emod_lt_of_pos (h * 18446744073709551616 + l) (show 0 < c by omega)
  clear en hN
  generalize h * 18446744073709551616 + l = N at *
  generalize N / c = q at *
  generalize N % c = r at *
  have HR := Lib.hid (fun w : World => raised_any q r c m w q0 r0 (by omega) hc')
  cases hb : raisedB q r c m with
  | false =>
    have E := Lib.hid (show divOut N c m = (q, 0) by rw [HE.out, if_neg (by simp [hb])])
    have HR' := Lib.hid (fun w => by have := HR.out w; rw [hb] at this; exact this)
    clear hb HE
    go_enter Try.func52, Try.ntmps52
    go_wp2_with (first | (go_at_call 64; refine (HD.out _).mono ?_; rintro e w' ⟨rfl, n, rfl⟩) | (go_at_call 65; refine (HR'.out _).mono ?_; rintro e w' ⟨rfl, rfl⟩))
    go_ret2
    exact ⟨ret_div E.out, below_drewN ((Below.refl _ _).alloc (Nat.le_refl _) _) _⟩
  | true =>
    have HR' := Lib.hid (fun w => by have := HR.out w; rw [hb] at this; exact this)
    by_cases t2 : q = 18446744073709551615
    · have E := Lib.hid (show divOut N c m = (0, 3) by rw [HE.out, if_pos hb, if_pos t2])
      have b2 : (q == 18446744073709551615) = true := by simpa using t2
      clear hb HE t2
      go_enter Try.func52, Try.ntmps52
      go_wp2_with (first | (go_at_call 64; refine (HD.out _).mono ?_; rintro e w' ⟨rfl, n, rfl⟩) | (go_at_call 65; refine (HR'.out _).mono ?_; rintro e w' ⟨rfl, rfl⟩))
      go_ret2
      exact ⟨ret_div E.out, below_drewN ((Below.refl _ _).alloc (Nat.le_refl _) _) _⟩
    · have E := Lib.hid (show divOut N c m = (q + 1, 0) by rw [HE.out, if_pos hb, if_neg t2])
      have b2 : (q == 18446744073709551615) = false := by simpa using t2
      clear hb HE
      go_enter Try.func52, Try.ntmps52
      go_wp2_with (first | (go_at_call 64; refine (HD.out _).mono ?_; rintro e w' ⟨rfl, n, rfl⟩) | (go_at_call 65; refine (HR'.out _).mono ?_; rintro e w' ⟨rfl, rfl⟩))
      go_ret2
      exact ⟨ret_div E.out, below_drewN ((Below.refl _ _).alloc (Nat.le_refl _) _) _⟩

theorem prod_parts (a b : Int) (ha : 0 ≤ a) (ha' : a ≤ 18446744073709551615) (hb : 0 ≤ b) (hb' : b ≤ 18446744073709551615) :
    0 ≤ a * b / 18446744073709551616 ∧ a * b / 18446744073709551616 ≤ 18446744073709551615 ∧ 0 ≤ a * b % 18446744073709551616 ∧ a * b % 18446744073709551616 ≤ 18446744073709551615 ∧ a * b / 18446744073709551616 * 18446744073709551616 + a * b % 18446744073709551616 = a * b := by
  have h0 : 0 ≤ a * b := Int.mul_nonneg ha hb
  have h1 : a * b ≤ 18446744073709551615 * 18446744073709551615 := Int.mul_le_mul ha' hb' hb (by omega)
  omega

set_option maxHeartbeats 1000000 in
/-- exact.MulDiv: a * b / c, rounded. -/
theorem mulDiv_any (a b c m : Int) (w : World) (ha : 0 ≤ a) (ha' : a ≤ 18446744073709551615) (hb : 0 ≤ b) (hb' : b ≤ 18446744073709551615) (hc : 0 ≤ c) (hc' : c ≤ 18446744073709551615) :
    Calls Try.prog 40 #[.int .u64 a, .int .u64 b, .int .u64 c, .int .i64 m] w fun e w' => e = .returned (.tuple #[.int .u64 (divOut (a * b) c m).1, .int .i64 (divOut (a * b) c m).2]) ∧ Below w.heap.size w w' := by
  obtain ⟨p1, p2, p3, p4, p5⟩ := prod_parts a b ha ha' hb hb'
  have HM := Lib.hid (fun w : World => mul_any a b w ha ha' hb hb')
  have HD := Lib.hid (fun w : World => div_any (a * b / 18446744073709551616) (a * b % 18446744073709551616) c m w p1 p2 p3 p4 hc hc')
  rw [p5] at HD
  clear p1 p2 p3 p4 p5
  generalize a * b / 18446744073709551616 = h at *
  generalize a * b % 18446744073709551616 = l at *
  generalize divOut (a * b) c m = o at *
  go_enter Try.func40, Try.ntmps40
  go_wp2_with (first | (go_at_call 53; refine (HM.out _).mono ?_; rintro e w1 ⟨rfl, hb1⟩) | (go_at_call 52; refine (HD.out _).mono ?_; rintro e w2 ⟨rfl, hb2⟩))
  go_ret2
  exact ⟨rfl, hb1.trans (hb2.mono hb1.size)⟩

set_option maxHeartbeats 1000000 in
/-- exact.MulMod: the remainder of a * b by c, c above 0. -/
theorem mulMod_any (a b c : Int) (w : World) (ha : 0 ≤ a) (ha' : a ≤ 18446744073709551615) (hb : 0 ≤ b) (hb' : b ≤ 18446744073709551615) (hc : 0 < c) (hc' : c ≤ 18446744073709551615) :
    Calls Try.prog 41 #[.int .u64 a, .int .u64 b, .int .u64 c] w fun e w' => e = .returned (.int .u64 (a * b % c)) ∧ Below w.heap.size w w' := by
  obtain ⟨p1, p2, p3, p4, p5⟩ := prod_parts a b ha ha' hb hb'
  have HM := Lib.hid (fun w : World => mul_any a b w ha ha' hb hb')
  have HD := Lib.hid (fun w : World => rem64_any (a * b / 18446744073709551616) (a * b % 18446744073709551616) c w p1 p2 hc hc' p3 p4)
  rw [p5] at HD
  clear p1 p2 p3 p4 p5
  generalize a * b / 18446744073709551616 = h at *
  generalize a * b % 18446744073709551616 = l at *
  generalize a * b % c = o at *
  have b0 : (c == 0) = false := by simp; omega
  go_enter Try.func41, Try.ntmps41
  go_wp2_with (first | (go_at_call 53; refine (HM.out _).mono ?_; rintro e w1 ⟨rfl, hb1⟩) | (go_at_call 54; refine (HD.out _).mono ?_; rintro e w2 ⟨rfl, n, rfl⟩))
  go_ret
  exact ⟨rfl, below_drewN (hb1.alloc hb1.size _) n⟩
end Go.Proofs.Ytknbbamlpadfdaa

/-
  Contracts of math/bits.Rem64 and of package exact's Mul, Div, MulDiv, MulMod. No statement of the seat is proved here. Conditions: the numbers fit 64 bits without a sign.
  Contracts of apportion.byRest and of the method sort of apportion.ranking: portions sorted by descending remainders, then by their indexes. No statement of the seat is proved here. Conditions: fewer than 2^62 portions.
  Contracts of apportion.check and apportion.sumOf. No statement of the seat is proved here. Conditions: the list holds integers of 64 bits.
  Plain arithmetic of the method of the largest remainder: ranks, shares, their sum. No statement of the seat is proved here. No conditions beyond those typed.
  The shares of the largest remainder as a plain function, and its laws: the sum, the bounds, the order, scaling. No statement of the seat is proved here. No conditions beyond those typed.
  The sorted portions: at place p stands the portion whose rank is p. No statement of the seat is proved here. No conditions beyond those typed.
-/
import Derived.Test.YtdbcbbiplkikcaaGreatNAC
import Derived.Test.YtdbcbbiplkikcaaGreatNAA
import Derived.Test.YtdbcbbiplkikcaaGreatProg
import Derived.BigQuiet
import Derived.Deep.QuietTactic
import Derived.WalkLawsBesides
import Derived.Lib.Hide
namespace Go.Proofs.YtdbcbbiplkikcaaGreat
open Go.RowKit
set_option linter.unusedVariables false

def raisedB (q r c m : Int) : Bool :=
  if m = 1 then decide (0 < r) else if m = 2 then decide (c - r ≤ r) else if m = 3 then (decide (c - r < r) || (decide (r = c - r) && decide (q % 2 = 1))) else false

theorem ret_int' {k : IntKind} {a b : Int} (h : a = b) : Ending.returned (.int k a) = .returned (.int k b) := by rw [h]

theorem ret_bool {a b : Bool} (h : a = b) : Ending.returned (.bool a) = .returned (.bool b) := by rw [h]

set_option maxHeartbeats 1000000 in
theorem raised_any (q r c m : Int) (w : World) (hq : 0 ≤ q) (hr : 0 ≤ r) (hc : r ≤ c) (hc' : c ≤ 18446744073709551615) :
    Calls Tryz.prog 194 #[.int .u64 q, .int .u64 r, .int .u64 c, .int .i64 m] w fun e w' => e = .returned (.bool (raisedB q r c m)) ∧ w = w' := by
  by_cases h1 : m = 1
  · subst h1
    go_enter Tryz.func194, Tryz.ntmps194
    go_wp2
    go_ret
    exact ⟨ret_bool (by simp [raisedB]), rfl⟩
  by_cases h2 : m = 2
  · subst h2
    go_enter Tryz.func194, Tryz.ntmps194
    go_wp2
    go_ret
    exact ⟨ret_bool (by simp [raisedB]), rfl⟩
  have b1 : (m == 1) = false := by simpa using h1
  have b2 : (m == 2) = false := by simpa using h2
  by_cases h3 : m = 3
  · subst h3
    by_cases t1 : c - r < r
    · have d1 : decide (c - r < r) = true := by simpa using t1
      have E := Lib.hid (show raisedB q r c 3 = true by simp [raisedB, t1])
      go_enter Tryz.func194, Tryz.ntmps194
      go_wp2
      go_ret
      exact ⟨ret_bool E.out.symm, rfl⟩
    · have d1 : decide (c - r < r) = false := by simpa using t1
      by_cases t2 : r = c - r
      · have d2 : (r == c - r) = true := by simpa using t2
        by_cases t3 : q % 2 = 1
        · have d3 : (q % 2 == 1) = true := by simpa using t3
          have E := Lib.hid (show raisedB q r c 3 = true by simp [raisedB, t3, ← t2])
          have T2 := Lib.hid t2
          clear t2 t3
          go_enter Tryz.func194, Tryz.ntmps194
          go_wp2
          go_ret
          exact ⟨ret_bool E.out.symm, rfl⟩
        · have d3 : (q % 2 == 1) = false := by simpa using t3
          have E := Lib.hid (show raisedB q r c 3 = false by simp [raisedB, t3, ← t2])
          have T2 := Lib.hid t2
          clear t2 t3
          go_enter Tryz.func194, Tryz.ntmps194
          go_wp2
          go_ret
          exact ⟨ret_bool E.out.symm, rfl⟩
      · have d2 : (r == c - r) = false := by simpa using t2
        have E := Lib.hid (show raisedB q r c 3 = false by simp [raisedB, t2]; omega)
        go_enter Tryz.func194, Tryz.ntmps194
        go_wp2
        go_ret
        exact ⟨ret_bool E.out.symm, rfl⟩
  · have b3 : (m == 3) = false := by simpa using h3
    have E := Lib.hid (show raisedB q r c m = false by simp [raisedB, h1, h2, h3])
    go_enter Tryz.func194, Tryz.ntmps194
    go_wp2
    go_ret
    exact ⟨ret_bool E.out.symm, rfl⟩

set_option maxHeartbeats 1000000 in
theorem rem64_any (hi lo y : Int) (w : World) (h0 : 0 ≤ hi) (h1 : hi ≤ 18446744073709551615) (hy : 0 < y) (h2 : y ≤ 18446744073709551615) (hl0 : 0 ≤ lo) (hl1 : lo ≤ 18446744073709551615) :
    Calls Tryz.prog 353 #[.int .u64 hi, .int .u64 lo, .int .u64 y] w fun e w' => e = .returned (.int .u64 ((hi * 18446744073709551616 + lo) % y)) ∧ ∃ n, w' = w.drewN n := by
  have b1 : (y == 0) = false := by simp; omega
  have k1 := Int.emod_nonneg hi (show y ≠ 0 by omega)
  have k2 := Int.emod_lt_of_pos hi hy
  have hd := div64_any (hi % y) lo y w k1 k2 h2 hl0 hl1
  have e : (hi % y * 18446744073709551616 + lo) % y = (hi * 18446744073709551616 + lo) % y := by
    rw [Int.add_emod, Int.mul_emod, Int.emod_emod_of_dvd _ (Int.dvd_refl y), ← Int.mul_emod, ← Int.add_emod]
  rw [e] at hd
  have HD := Lib.hid hd
  clear hd e k1 k2
  go_enter Tryz.func353, Tryz.ntmps353
  go_wp2_with (go_at_call 193; refine HD.out.mono ?_; rintro e w' ⟨rfl, n, rfl⟩)
  go_ret
  exact ⟨rfl, _, rfl⟩

set_option maxHeartbeats 1000000 in
theorem mul_any (a b : Int) (w : World) (ha : 0 ≤ a) (ha' : a ≤ 18446744073709551615) (hb : 0 ≤ b) (hb' : b ≤ 18446744073709551615) :
    Calls Tryz.prog 179 #[.int .u64 a, .int .u64 b] w fun e w' => e = .returned (.agg #[.int .u64 (a * b / 18446744073709551616), .int .u64 (a * b % 18446744073709551616)]) ∧ Below w.heap.size w w' := by
  have hm : ∀ w : World, Calls Tryz.prog 195 #[.int .u64 a, .int .u64 b] w fun e w' => e = .returned (.tuple #[.int .u64 (a * b / 18446744073709551616), .int .u64 (a * b % 18446744073709551616)]) ∧ w = w' := by
    intro w
    obtain ⟨x, rfl⟩ := Int.eq_ofNat_of_zero_le ha
    obtain ⟨y, rfl⟩ := Int.eq_ofNat_of_zero_le hb
    refine (Tryz.bits_Mul64 x y (by omega) (by omega) w).mono fun e w' ⟨he, hw⟩ => ⟨?_, hw.symm⟩
    rw [he]
    rfl
  have HM := Lib.hid hm
  clear hm
  generalize a * b / 18446744073709551616 = h at *
  generalize a * b % 18446744073709551616 = l at *
  go_enter Tryz.func179, Tryz.ntmps179
  go_wp2_with (go_at_call 195; refine (HM.out _).mono ?_; rintro e w' ⟨rfl, rfl⟩)
  refine bodyPost_ret (v := .agg #[.int .u64 h, .int .u64 l]) (by simp [results, Tryz.results179, go_sem]) rfl ⟨rfl, ?_⟩
  exact (Below.refl _ _).alloc (Nat.le_refl _) _

def divOut (n c m : Int) : Int × Int :=
  if c = 0 ∨ m < 0 ∨ 3 < m then (0, 2)
  else if c ≤ n / 18446744073709551616 then (0, 3)
  else if raisedB (n / c) (n % c) c m = true then (if n / c = 18446744073709551615 then (0, 3) else (n / c + 1, 0))
  else (n / c, 0)

theorem ret_div {n c m q e : Int} (h : divOut n c m = (q, e)) : Ending.returned (.tuple #[.int .u64 q, .int .i64 e]) = .returned (.tuple #[.int .u64 (divOut n c m).1, .int .i64 (divOut n c m).2]) := by rw [h]

set_option maxHeartbeats 1000000 in
theorem div_any (h l c m : Int) (w : World) (hh : 0 ≤ h) (hh' : h ≤ 18446744073709551615) (hl : 0 ≤ l) (hl' : l ≤ 18446744073709551615) (hc : 0 ≤ c) (hc' : c ≤ 18446744073709551615) :
    Calls Tryz.prog 178 #[.agg #[.int .u64 h, .int .u64 l], .int .u64 c, .int .i64 m] w fun e w' => e = .returned (.tuple #[.int .u64 (divOut (h * 18446744073709551616 + l) c m).1, .int .i64 (divOut (h * 18446744073709551616 + l) c m).2]) ∧ Below w.heap.size w w' := by
  by_cases c0 : c = 0
  · have E := Lib.hid (show divOut (h * 18446744073709551616 + l) c m = (0, 2) by simp [divOut, c0])
    have b0 : (c == 0) = true := by simpa using c0
    clear c0
    go_enter Tryz.func178, Tryz.ntmps178
    go_wp2
    go_ret2
    exact ⟨ret_div E.out, (Below.refl _ _).alloc (Nat.le_refl _) _⟩
  have b0 : (c == 0) = false := by simpa using c0
  by_cases m0 : m < 0
  · have E := Lib.hid (show divOut (h * 18446744073709551616 + l) c m = (0, 2) by simp [divOut, m0])
    have d0 : decide (m < 0) = true := by simpa using m0
    go_enter Tryz.func178, Tryz.ntmps178
    go_wp2
    go_ret2
    exact ⟨ret_div E.out, (Below.refl _ _).alloc (Nat.le_refl _) _⟩
  have d0 : decide (m < 0) = false := by simpa using m0
  by_cases m3 : 3 < m
  · have E := Lib.hid (show divOut (h * 18446744073709551616 + l) c m = (0, 2) by simp [divOut, m3])
    have d3 : decide (3 < m) = true := by simpa using m3
    go_enter Tryz.func178, Tryz.ntmps178
    go_wp2
    go_ret2
    exact ⟨ret_div E.out, (Below.refl _ _).alloc (Nat.le_refl _) _⟩
  have d3 : decide (3 < m) = false := by simpa using m3
  have en : (h * 18446744073709551616 + l) / 18446744073709551616 = h := by omega
  by_cases t1 : c ≤ h
  · have E := Lib.hid (show divOut (h * 18446744073709551616 + l) c m = (0, 3) by simp [divOut, c0, m0, m3, en, t1])
    clear en
    go_enter Tryz.func178, Tryz.ntmps178
    go_wp2
    go_ret2
    exact ⟨ret_div E.out, (Below.refl _ _).alloc (Nat.le_refl _) _⟩
  have HD := Lib.hid (fun w : World => div64_any h l c w hh (by omega) hc' hl hl')
  have HE := Lib.hid (show divOut (h * 18446744073709551616 + l) c m = if raisedB ((h * 18446744073709551616 + l) / c) ((h * 18446744073709551616 + l) % c) c m = true then (if (h * 18446744073709551616 + l) / c = 18446744073709551615 then (0, 3) else ((h * 18446744073709551616 + l) / c + 1, 0)) else ((h * 18446744073709551616 + l) / c, 0) by simp [divOut, c0, m0, m3, en, t1])
  have hN : 0 ≤ h * 18446744073709551616 + l := by omega
  have q0 : 0 ≤ (h * 18446744073709551616 + l) / c := Int.ediv_nonneg hN hc
  have q1 : (h * 18446744073709551616 + l) / c < 18446744073709551616 := (Int.ediv_lt_iff_lt_mul (by omega)).2 (by omega)
  have r0 := Int.emod_nonneg (h * 18446744073709551616 + l) c0
  have r1 := Int.emod_lt_of_pos (h * 18446744073709551616 + l) (show 0 < c by omega)
  clear en hN
  generalize h * 18446744073709551616 + l = N at *
  generalize N / c = q at *
  generalize N % c = r at *
  have HR := Lib.hid (fun w : World => raised_any q r c m w q0 r0 (by omega) hc')
  cases hb : raisedB q r c m with
  | false =>
    have E := Lib.hid (show divOut N c m = (q, 0) by rw [HE.out, if_neg (by simp [hb])])
    have HR' := Lib.hid (fun w => by have := HR.out w; rw [hb] at this; exact this)
    clear hb HE
    go_enter Tryz.func178, Tryz.ntmps178
    go_wp2_with (first | (go_at_call 193; refine (HD.out _).mono ?_; rintro e w' ⟨rfl, n, rfl⟩) | (go_at_call 194; refine (HR'.out _).mono ?_; rintro e w' ⟨rfl, rfl⟩))
    go_ret2
    exact ⟨ret_div E.out, below_drewN ((Below.refl _ _).alloc (Nat.le_refl _) _) _⟩
  | true =>
    have HR' := Lib.hid (fun w => by have := HR.out w; rw [hb] at this; exact this)
    by_cases t2 : q = 18446744073709551615
    · have E := Lib.hid (show divOut N c m = (0, 3) by rw [HE.out, if_pos hb, if_pos t2])
      have b2 : (q == 18446744073709551615) = true := by simpa using t2
      clear hb HE t2
      go_enter Tryz.func178, Tryz.ntmps178
      go_wp2_with (first | (go_at_call 193; refine (HD.out _).mono ?_; rintro e w' ⟨rfl, n, rfl⟩) | (go_at_call 194; refine (HR'.out _).mono ?_; rintro e w' ⟨rfl, rfl⟩))
      go_ret2
      exact ⟨ret_div E.out, below_drewN ((Below.refl _ _).alloc (Nat.le_refl _) _) _⟩
    · have E := Lib.hid (show divOut N c m = (q + 1, 0) by rw [HE.out, if_pos hb, if_neg t2])
      have b2 : (q == 18446744073709551615) = false := by simpa using t2
      clear hb HE
      go_enter Tryz.func178, Tryz.ntmps178
      go_wp2_with (first | (go_at_call 193; refine (HD.out _).mono ?_; rintro e w' ⟨rfl, n, rfl⟩) | (go_at_call 194; refine (HR'.out _).mono ?_; rintro e w' ⟨rfl, rfl⟩))
      go_ret2
      exact ⟨ret_div E.out, below_drewN ((Below.refl _ _).alloc (Nat.le_refl _) _) _⟩

theorem prod_parts (a b : Int) (ha : 0 ≤ a) (ha' : a ≤ 18446744073709551615) (hb : 0 ≤ b) (hb' : b ≤ 18446744073709551615) :
    0 ≤ a * b / 18446744073709551616 ∧ a * b / 18446744073709551616 ≤ 18446744073709551615 ∧ 0 ≤ a * b % 18446744073709551616 ∧ a * b % 18446744073709551616 ≤ 18446744073709551615 ∧ a * b / 18446744073709551616 * 18446744073709551616 + a * b % 18446744073709551616 = a * b := by
  have h0 : 0 ≤ a * b := Int.mul_nonneg ha hb
  have h1 : a * b ≤ 18446744073709551615 * 18446744073709551615 := Int.mul_le_mul ha' hb' hb (by omega)
  omega

set_option maxHeartbeats 1000000 in
theorem mulDiv_any (a b c m : Int) (w : World) (ha : 0 ≤ a) (ha' : a ≤ 18446744073709551615) (hb : 0 ≤ b) (hb' : b ≤ 18446744073709551615) (hc : 0 ≤ c) (hc' : c ≤ 18446744073709551615) :
    Calls Tryz.prog 158 #[.int .u64 a, .int .u64 b, .int .u64 c, .int .i64 m] w fun e w' => e = .returned (.tuple #[.int .u64 (divOut (a * b) c m).1, .int .i64 (divOut (a * b) c m).2]) ∧ Below w.heap.size w w' := by
  obtain ⟨p1, p2, p3, p4, p5⟩ := prod_parts a b ha ha' hb hb'
  have HM := Lib.hid (fun w : World => mul_any a b w ha ha' hb hb')
  have HD := Lib.hid (fun w : World => div_any (a * b / 18446744073709551616) (a * b % 18446744073709551616) c m w p1 p2 p3 p4 hc hc')
  rw [p5] at HD
  clear p1 p2 p3 p4 p5
  generalize a * b / 18446744073709551616 = h at *
  generalize a * b % 18446744073709551616 = l at *
  generalize divOut (a * b) c m = o at *
  go_enter Tryz.func158, Tryz.ntmps158
  go_wp2_with (first | (go_at_call 179; refine (HM.out _).mono ?_; rintro e w1 ⟨rfl, hb1⟩) | (go_at_call 178; refine (HD.out _).mono ?_; rintro e w2 ⟨rfl, hb2⟩))
  go_ret2
  exact ⟨rfl, hb1.trans (hb2.mono hb1.size)⟩

set_option maxHeartbeats 1000000 in
theorem mulMod_any (a b c : Int) (w : World) (ha : 0 ≤ a) (ha' : a ≤ 18446744073709551615) (hb : 0 ≤ b) (hb' : b ≤ 18446744073709551615) (hc : 0 < c) (hc' : c ≤ 18446744073709551615) :
    Calls Tryz.prog 325 #[.int .u64 a, .int .u64 b, .int .u64 c] w fun e w' => e = .returned (.int .u64 (a * b % c)) ∧ Below w.heap.size w w' := by
  obtain ⟨p1, p2, p3, p4, p5⟩ := prod_parts a b ha ha' hb hb'
  have HM := Lib.hid (fun w : World => mul_any a b w ha ha' hb hb')
  have HD := Lib.hid (fun w : World => rem64_any (a * b / 18446744073709551616) (a * b % 18446744073709551616) c w p1 p2 hc hc' p3 p4)
  rw [p5] at HD
  clear p1 p2 p3 p4 p5
  generalize a * b / 18446744073709551616 = h at *
  generalize a * b % 18446744073709551616 = l at *
  generalize a * b % c = o at *
  have b0 : (c == 0) = false := by simp; omega
  go_enter Tryz.func325, Tryz.ntmps325
  go_wp2_with (first | (go_at_call 179; refine (HM.out _).mono ?_; rintro e w1 ⟨rfl, hb1⟩) | (go_at_call 353; refine (HD.out _).mono ?_; rintro e w2 ⟨rfl, n, rfl⟩))
  go_ret
  exact ⟨rfl, below_drewN (hb1.alloc hb1.size _) n⟩
end Go.Proofs.YtdbcbbiplkikcaaGreat

namespace Go.Proofs.YtdbcbbiplkikcaaGreat
open Go.RowKit Go.Shelf Go.Lib Go.Sort
set_option linter.unusedVariables false

structure Por where
  index : Int
  share : Int
  rest : Int
instance : Inhabited Por := ⟨⟨0, 0, 0⟩⟩
def encP (p : Por) : List Value := [.int .i64 p.index, .int .u64 p.share, .int .u64 p.rest]
def cmpP (x y : Por) : Int := if Lib.compareInt y.rest x.rest != 0 then Lib.compareInt y.rest x.rest else Lib.compareInt x.index y.index

set_option maxHeartbeats 1000000 in
theorem cmpU_any (x y : Int) (w : World) : Calls Tryz.prog 354 #[.int .u64 x, .int .u64 y] w fun e w' => e = .returned (.int .i64 (Lib.compareInt x y)) ∧ w = w' := by
  by_cases h1 : x < y
  · have E := Lib.hid (show Lib.compareInt x y = -1 by simp [Lib.compareInt, h1])
    go_enter Tryz.func354, Tryz.ntmps354
    go_wp2
    go_ret
    exact ⟨ret_int' E.out.symm, rfl⟩
  by_cases h2 : y < x
  · have E := Lib.hid (show Lib.compareInt x y = 1 by simp [Lib.compareInt, h1, h2])
    go_enter Tryz.func354, Tryz.ntmps354
    go_wp2
    go_ret
    exact ⟨ret_int' E.out.symm, rfl⟩
  · have E := Lib.hid (show Lib.compareInt x y = 0 by simp [Lib.compareInt, h1, h2])
    go_enter Tryz.func354, Tryz.ntmps354
    go_wp2
    go_ret
    exact ⟨ret_int' E.out.symm, rfl⟩

set_option maxHeartbeats 1000000 in
theorem byRest_any (x y : Por) (w : World) : Calls Tryz.prog 326 #[.agg #[.int .i64 x.index, .int .u64 x.share, .int .u64 x.rest], .agg #[.int .i64 y.index, .int .u64 y.share, .int .u64 y.rest]] w
    fun e w' => e = .returned (.int .i64 (cmpP x y)) ∧ ∃ os', w' = grow w os' := by
  have H1 := Lib.hid (fun w => cmpU_any y.rest x.rest w)
  have H2 := Lib.hid (fun w => Tryz.cmp_Compare_int x.index y.index w)
  have HE := Lib.hid (show cmpP x y = if Lib.compareInt y.rest x.rest != 0 then Lib.compareInt y.rest x.rest else Lib.compareInt x.index y.index from rfl)
  generalize cmpP x y = r at *
  generalize Lib.compareInt y.rest x.rest = a at *
  generalize Lib.compareInt x.index y.index = b at *
  cases h : (a != 0) with
  | true =>
    go_enter Tryz.func326, Tryz.ntmps326
    go_wp2_with (first | (go_at_call 354; refine (H1.out _).mono ?_; rintro e w' ⟨rfl, rfl⟩) | (go_at_call 71; refine (H2.out _).mono ?_; rintro e w' ⟨rfl, rfl⟩))
    go_ret
    exact ⟨ret_int' (by rw [HE.out, h]; rfl), _, by rw [alloc_eq_grow, alloc_eq_grow, grow_grow]⟩
  | false =>
    go_enter Tryz.func326, Tryz.ntmps326
    go_wp2_with (first | (go_at_call 354; refine (H1.out _).mono ?_; rintro e w' ⟨rfl, rfl⟩) | (go_at_call 71; refine (H2.out _).mono ?_; rintro e w' ⟨rfl, rfl⟩))
    go_ret
    exact ⟨ret_int' (by rw [HE.out, h]; rfl), _, by rw [alloc_eq_grow, alloc_eq_grow, grow_grow]⟩


set_option maxHeartbeats 1000000 in
theorem rankCmp_any (x y : Por) (bk : Nat) (W : World) (hc : W.cell? ⟨bk, 0, none⟩ = some (.func (.func 326) #[] #[])) (hb : bk < W.heap.size) :
    Calls Tryz.prog 356 #[.agg #[.int .i64 x.index, .int .u64 x.share, .int .u64 x.rest], .agg #[.int .i64 y.index, .int .u64 y.share, .int .u64 y.rest], .pointer (some ⟨bk, 0, none⟩)] W
    fun e w' => e = .returned (.int .i64 (cmpP x y)) ∧ ∃ q os', w' = grow (W.drewN q) os' := by
  have H1 := Lib.hid (fun w => byRest_any x y w)
  have hc' : ∀ o1 o2, ((W.alloc o1).alloc o2).cell? ⟨bk, 0, none⟩ = some (.func (.func 326) #[] #[]) := fun o1 o2 => by
    rw [World.cell?_alloc_lt _ _ _ (by simp; omega), World.cell?_alloc_lt _ _ _ hb, hc]
  generalize cmpP x y = r at *
  go_enter Tryz.func356, Tryz.ntmps356
  go_wp2_with (go_at_call 326; refine (H1.out _).mono ?_; rintro e w' ⟨rfl, os, rfl⟩)
  go_ret
  exact ⟨rfl, 0, _, by rw [alloc_eq_grow, alloc_eq_grow, grow_grow, grow_grow]; rfl⟩

theorem rankLays (blk off size : Nat) (w : World) (T : TypeId) (hblk : blk < w.heap.size) :
    CmpLays Tryz.prog 356 #[.pointer (some ⟨w.heap.size, 0, none⟩)] encP 3 cmpP blk off size (w.alloc (.cells #[.func (.func 326) #[] #[]] T)) := by
  intro m os dk _ x y
  refine rankCmp_any x y w.heap.size _ ?_ ?_
  · unfold sortWorldK
    rw [cell?_grow _ _ _ (by simp [putRowK]), cell?_putRowK_other encP 3 _ _ _ _ _ (by show w.heap.size ≠ blk; omega), cell?_ahead]
    simp only [World.cell?, heap_alloc_new]
    rfl
  · simp [sortWorldK, putRowK]
    omega

theorem ltP (x y : Por) : ltOf cmpP x y = decide (y.rest < x.rest ∨ (x.rest = y.rest ∧ x.index < y.index)) := by
  unfold ltOf cmpP Lib.compareInt
  by_cases h1 : y.rest < x.rest
  · simp [h1]
  · by_cases h2 : x.rest < y.rest
    · have : ¬ x.rest = y.rest := by omega
      simp [h1, h2, this]
    · have : x.rest = y.rest := by omega
      simp [this]
      by_cases h3 : x.index < y.index
      · simp [h3]
      · by_cases h4 : y.index < x.index <;> simp [h3, h4]

theorem swoP : SWO (ltOf cmpP) where
  irrefl x := by rw [ltP]; simp
  trans x y z h1 h2 := by rw [ltP] at *; simp at *; omega
  ntrans x y z h1 h2 := by rw [ltP] at *; simp at *; omega

set_option maxHeartbeats 1000000 in
theorem rankSort_any (blk off cap : Nat) (d : Array Por) (w : World) (hH : HoldsK encP 3 w blk off d) (hblk : blk < w.heap.size) (hsz : d.size < 4611686018427387904) :
    Calls Tryz.prog 327 #[.agg #[.func (.func 326) #[] #[]], .slice (some ⟨blk, off, none⟩) d.size cap] w fun e w' => e = .returned (.tuple #[]) ∧
      ∃ d' n os, PermIn 0 d.size d d' ∧ SortedIn (ltOf cmpP) 0 d.size d' ∧ w' = sortWorldK encP 3 w blk off n d' os := by
  have eg : ∀ args w, (callFunc 356 args).run Tryz.prog w = .ok (.enter 356 args) w := enters_of Tryz.func356 (by kernel_rfl) rfl
  have hcon := fun T => AnyQ.slices_SortFunc Tryz.sortP 3 Tryz.isAgg473 Tryz.sizeOf473 encP (fun _ => rfl) (fun x v hv => by simp [encP] at hv; rcases hv with rfl | rfl | rfl <;> rfl) cmpP swoP 356 #[.pointer (some ⟨w.heap.size, 0, none⟩)] blk off cap d (w.alloc (.cells #[.func (.func 326) #[] #[]] T)) eg (rankLays blk off d.size w T hblk)
    (by rw [alloc_eq_grow]; exact holdsK_grow encP 3 w _ blk off d hblk hH) (by simp; omega) hsz
  change ∀ T, Calls Tryz.prog 355 _ _ _ at hcon
  have HC := Lib.hid hcon
  clear hH hcon eg
  go_enter Tryz.func327, Tryz.ntmps327
  go_wp2_with (go_at_call 355; refine (HC.out _).mono ?_; rintro e w' ⟨rfl, d', n, os, hp, hs, rfl⟩)
  go_end0
  refine ⟨rfl, d', n, #[.cells #[.func (.func 326) #[] #[]] 476] ++ os, hp, hs, ?_⟩
  unfold sortWorldK
  rw [alloc_eq_grow, ahead_grow, putRowK_grow encP 3 _ _ _ _ _ (by simpa using hblk), grow_grow]
end Go.Proofs.YtdbcbbiplkikcaaGreat

namespace Go.Proofs.YtdbcbbiplkikcaaGreat
open Go.RowKit

theorem ret_int {k : IntKind} {a b : Int} (h : a = b) : Ending.returned (.int k a) = .returned (.int k b) := by rw [h]

theorem sum_take_succ (xs : List Int) (k : Nat) (h : k < xs.length) : (xs.take (k + 1)).sum = (xs.take k).sum + xs.getD k 0 := by
  rw [List.take_succ_eq_append_getElem h, List.sum_append]
  simp [List.getD, List.getElem?_eq_getElem h]

theorem sum_take_bound (xs : List Int) (m : Int) (hr : ∀ i : Nat, 0 ≤ xs.getD i 0 ∧ xs.getD i 0 ≤ m) (k : Nat) (hk : k ≤ xs.length) : 0 ≤ (xs.take k).sum ∧ (xs.take k).sum ≤ k * m := by
  induction k with
  | zero => simp
  | succ k ih =>
    have h1 := ih (by omega)
    rw [sum_take_succ xs k (by omega)]
    have h2 := hr k
    rw [Int.natCast_succ, Int.add_mul]
    omega

set_option maxHeartbeats 400000 in
theorem sumOf_any (A : Option Addr) (n c : Nat) (xs : List Int) (w : World) (h : Ints w A n xs) (hn : n ≤ 1000) (hr : ∀ i : Nat, 0 ≤ xs.getD i 0 ∧ xs.getD i 0 ≤ 1000000000000) :
    Calls Tryz.prog 269 #[.slice A n c] w fun e w' => e = .returned (.int .i64 xs.sum) ∧ w = w' := by
  have HR := Lib.hid hr
  clear hr
  have hl := Lib.hid h.1
  go_enter Tryz.func269, Tryz.ntmps269
  go_wp2
  go_loop [3, 8] (fun s i => ∃ k : Nat, k ≤ n ∧ i = .int .i64 k ∧ s = .int .i64 (xs.take k).sum) (fun _ i => n - (intOf i).toNat)
  case atStart => exact ⟨0, Nat.zero_le _, rfl, by simp⟩
  case round =>
    obtain ⟨k, hk, rfl, rfl⟩ := hrel
    by_cases hlt : k < n
    · obtain ⟨b, off, rfl, _, hc⟩ := h.at_ hlt
      have hb := sum_take_bound xs 1000000000000 HR.out k (by have := hl.out; omega)
      have hb0 := HR.out k
      have HS := Lib.hid (sum_take_succ xs k (by have := hl.out; omega))
      generalize xs.getD k 0 = x at *
      generalize (xs.take k).sum = s at *
      go_wp2
      go_round
      case rel => exact ⟨k + 1, by omega, by go_num, by rw [HS.out]⟩
      case measure => simp [intOf]; omega
    · go_wp2
      go_ret
      exact ⟨ret_int (by rw [List.take_of_length_le (by have := hl.out; omega)]), rfl⟩

def AllIn (ws : List Int) : Prop := ∀ i : Nat, 0 ≤ ws.getD i 0 ∧ ws.getD i 0 ≤ 1000000000000
instance (ws : List Int) : Decidable (AllIn ws) := decidable_of_iff (∀ x ∈ ws, 0 ≤ x ∧ x ≤ 1000000000000) (by
  constructor
  · intro h i
    by_cases hi : i < ws.length
    · have := h ws[i] (List.getElem_mem hi)
      simpa [List.getD, List.getElem?_eq_getElem hi] using this
    · simp [List.getD, List.getElem?_eq_none (Nat.le_of_not_lt hi)]
  · intro h x hx
    obtain ⟨i, hi, rfl⟩ := List.mem_iff_getElem.1 hx
    have := h i
    simpa [List.getD, List.getElem?_eq_getElem hi] using this)

def chkErr (total : Int) (ws : List Int) : Int :=
  if 1000 < ws.length then 8 else if total < 0 ∨ 1000000000000 < total then 2
  else if AllIn ws then (if ws.length = 0 ∧ 0 < total then 7 else 0) else 2

theorem allIn_step (ws : List Int) (k : Nat) (h : ∀ i : Nat, i < k → 0 ≤ ws.getD i 0 ∧ ws.getD i 0 ≤ 1000000000000) (h0 : 0 ≤ ws.getD k 0) (h1 : ws.getD k 0 ≤ 1000000000000) : ∀ i : Nat, i < k + 1 → 0 ≤ ws.getD i 0 ∧ ws.getD i 0 ≤ 1000000000000 := by
  intro i hi
  by_cases e : i = k
  · subst e; exact ⟨h0, h1⟩
  · exact h i (by omega)

theorem allIn_end (ws : List Int) (h : ∀ i : Nat, i < ws.length → 0 ≤ ws.getD i 0 ∧ ws.getD i 0 ≤ 1000000000000) : AllIn ws := by
  intro i
  by_cases hi : i < ws.length
  · exact h i hi
  · simp [List.getD, List.getElem?_eq_none (Nat.le_of_not_lt hi)]

set_option maxHeartbeats 400000 in
theorem check_any (t : Int) (A : Option Addr) (n c : Nat) (xs : List Int) (w : World) (h : Ints w A n xs) (hm : n ≤ 9223372036854775807) :
    Calls Tryz.prog 268 #[.int .i64 t, .slice A n c] w fun e w' => e = .returned (.int .i64 (chkErr t xs)) ∧ w = w' := by
  have hl := h.1
  by_cases h1 : 1000 < n
  · have E := Lib.hid (show chkErr t xs = 8 by unfold chkErr; rw [if_pos (by omega)])
    clear hl
    go_enter Tryz.func268, Tryz.ntmps268
    go_wp2
    go_ret
    exact ⟨ret_int E.out.symm, rfl⟩
  by_cases h2 : t < 0
  · have E := Lib.hid (show chkErr t xs = 2 by unfold chkErr; rw [if_neg (by omega), if_pos (by omega)])
    clear hl
    go_enter Tryz.func268, Tryz.ntmps268
    go_wp2
    go_ret
    exact ⟨ret_int E.out.symm, rfl⟩
  by_cases h3 : 1000000000000 < t
  · have E := Lib.hid (show chkErr t xs = 2 by unfold chkErr; rw [if_neg (by omega), if_pos (by omega)])
    clear hl
    go_enter Tryz.func268, Tryz.ntmps268
    go_wp2
    go_ret
    exact ⟨ret_int E.out.symm, rfl⟩
  have E : chkErr t xs = if AllIn xs then (if xs.length = 0 ∧ 0 < t then 7 else 0) else 2 := by unfold chkErr; rw [if_neg (by omega), if_neg (by omega)]
  have HE := Lib.hid E
  have HL := Lib.hid hl
  clear hl E
  have hd1 : decide (t < 0) = false := by simpa using h2
  have hd2 : decide (1000000000000 < t) = false := by simpa using h3
  go_enter Tryz.func268, Tryz.ntmps268
  go_wp2
  go_loop [6, 18] (fun _ i => ∃ k : Nat, k ≤ n ∧ i = .int .i64 k ∧ Hid (∀ i : Nat, i < k → 0 ≤ xs.getD i 0 ∧ xs.getD i 0 ≤ 1000000000000)) (fun _ i => n - (intOf i).toNat)
  case atStart => exact ⟨0, Nat.zero_le _, rfl, fun i hi => absurd hi (by omega)⟩
  case round =>
    obtain ⟨k, hk, rfl, HA⟩ := hrel
    by_cases hlt : k < n
    · obtain ⟨b, off, x, rfl, _, hc, HX⟩ := h.get hlt
      by_cases g1 : x < 0
      · have g1' : decide (x < 0) = true := by simpa using g1
        go_wp2
        go_ret
        exact ⟨ret_int (by rw [HE.out, if_neg (fun ha => by have := ha k; rw [HX.out] at this; omega)]), rfl⟩
      by_cases g2 : 1000000000000 < x
      · go_wp2
        go_ret
        exact ⟨ret_int (by rw [HE.out, if_neg (fun ha => by have := ha k; rw [HX.out] at this; omega)]), rfl⟩
      have HB := Lib.hid (allIn_step xs k HA.out (by rw [HX.out]; omega) (by rw [HX.out]; omega))
      go_wp2
      go_round
      case rel => exact ⟨k + 1, by omega, by go_num, HB.out⟩
      case measure => simp [intOf]; omega
    · have HB := Lib.hid (allIn_end xs (fun i hi => HA.out i (by have := HL.out; omega)))
      by_cases g1 : n = 0
      · subst g1
        by_cases g2 : 0 < t
        · go_wp2
          go_ret
          exact ⟨ret_int (by rw [HE.out, if_pos HB.out, if_pos ⟨HL.out, g2⟩]), rfl⟩
        · go_wp2
          go_ret
          exact ⟨ret_int (by rw [HE.out, if_pos HB.out, if_neg (fun ha => by omega)]), rfl⟩
      · have g1' : ((n : Int) == 0) = false := by simpa using g1
        go_wp2
        go_ret
        exact ⟨ret_int (by rw [HE.out, if_pos HB.out, if_neg (fun ha => g1 (HL.out.symm.trans ha.1))]), rfl⟩

end Go.Proofs.YtdbcbbiplkikcaaGreat

namespace Go.Proofs.YtdbcbbiplkikcaaGreat
set_option linter.unusedVariables false

def sumN (n : Nat) (f : Nat → Int) : Int := ((List.range n).map f).sum
theorem sumN_zero (f : Nat → Int) : sumN 0 f = 0 := rfl
theorem sumN_succ (n : Nat) (f : Nat → Int) : sumN (n + 1) f = sumN n f + f n := by
  simp [sumN, List.range_succ]
theorem sumN_congr {n : Nat} {f g : Nat → Int} (h : ∀ i, i < n → f i = g i) : sumN n f = sumN n g := by
  unfold sumN
  rw [List.map_congr_left (fun i hi => h i (List.mem_range.1 hi))]
theorem sumN_add (n : Nat) (f g : Nat → Int) : sumN n (fun i => f i + g i) = sumN n f + sumN n g := by
  induction n with
  | zero => rfl
  | succ n ih => simp only [sumN_succ, ih]; omega
theorem sumN_mul (n : Nat) (c : Int) (f : Nat → Int) : sumN n (fun i => c * f i) = c * sumN n f := by
  induction n with
  | zero => simp [sumN_zero]
  | succ n ih => simp only [sumN_succ, ih, Int.mul_add]
theorem sumN_const (n : Nat) (c : Int) : sumN n (fun _ => c) = n * c := by
  induction n with
  | zero => simp [sumN_zero]
  | succ n ih => rw [sumN_succ, ih, Int.natCast_succ, Int.add_mul]; omega
theorem sumN_le {n : Nat} {f g : Nat → Int} (h : ∀ i, i < n → f i ≤ g i) : sumN n f ≤ sumN n g := by
  induction n with
  | zero => simp [sumN_zero]
  | succ n ih => rw [sumN_succ, sumN_succ]; have := ih (fun i hi => h i (by omega)); have := h n (by omega); omega
theorem sumN_nonneg {n : Nat} {f : Nat → Int} (h : ∀ i, i < n → 0 ≤ f i) : 0 ≤ sumN n f := by
  have := sumN_le (n := n) (f := fun _ => 0) (g := f) h
  rw [sumN_const] at this
  omega
theorem sumN_list (ws : List Int) : sumN ws.length (fun i => ws.getD i 0) = ws.sum := by
  unfold sumN
  congr 1
  apply List.ext_getElem
  · simp
  · intro i h1 h2
    simp [List.getD, List.getElem?_eq_getElem h2]

theorem perm_sum {l l' : List Int} (h : l.Perm l') : l.sum = l'.sum := by
  induction h with
  | nil => rfl
  | cons x _ ih => simp [ih]
  | swap x y l => simp; omega
  | trans _ _ ih1 ih2 => exact ih1.trans ih2

/-! ### Ranks -/
def bef (r : Nat → Int) (j i : Nat) : Bool := decide (r i < r j ∨ (r j = r i ∧ j < i))
def rank (r : Nat → Int) (n i : Nat) : Nat := (List.range n).countP (fun j => bef r j i)

theorem countP_pos_eq {α : Type} (f : α → Bool) (l : List α) (p : Nat) (hp : p ≤ l.length) (h1 : ∀ k (h : k < l.length), k < p → f l[k] = true) (h2 : ∀ k (h : k < l.length), p ≤ k → f l[k] = false) : l.countP f = p := by
  rw [← List.take_append_drop p l, List.countP_append]
  have e1 : (l.take p).countP f = p := by
    rw [List.countP_eq_length.2]
    · rw [List.length_take]; omega
    · intro a ha
      obtain ⟨k, hk, rfl⟩ := List.mem_iff_getElem.1 ha
      rw [List.length_take] at hk
      rw [List.getElem_take]
      exact h1 k (by omega) (by omega)
  have e2 : (l.drop p).countP f = 0 := by
    rw [List.countP_eq_zero]
    intro a ha
    obtain ⟨k, hk, rfl⟩ := List.mem_iff_getElem.1 ha
    rw [List.length_drop] at hk
    rw [List.getElem_drop, h2 (p + k) (by omega) (by omega)]
    simp
  omega

theorem rank_of_sorted (r : Nat → Int) (n : Nat) (l : List Nat) (hp : l.Perm (List.range n)) (hs : ∀ i j (hi : i < l.length) (hj : j < l.length), i < j → bef r l[j] l[i] = false) (p : Nat) (h : p < l.length) : rank r n l[p] = p := by
  unfold rank
  rw [← hp.countP_eq]
  have hnd : l.Nodup := hp.nodup_iff.2 List.nodup_range
  refine countP_pos_eq _ l p (by omega) ?_ ?_
  · intro k hk hkp
    have h1 := hs k p hk h hkp
    have h2 : l[k] ≠ l[p] := List.pairwise_iff_getElem.1 hnd k p hk h hkp
    simp [bef] at h1 ⊢
    omega
  · intro k hk hkp
    rcases Nat.lt_or_ge p k with h3 | h3
    · exact hs p k h hk h3
    · obtain rfl : k = p := by omega
      simp [bef]

theorem exists_sorted (r : Nat → Int) (n : Nat) : ∃ l : List Nat, l.Perm (List.range n) ∧ ∀ i j (hi : i < l.length) (hj : j < l.length), i < j → bef r l[j] l[i] = false := by
  refine ⟨(List.range n).mergeSort (fun a b => !bef r b a), List.mergeSort_perm _ _, ?_⟩
  have hpw := List.pairwise_mergeSort (le := fun a b => !bef r b a) (fun a b c h1 h2 => by simp [bef] at *; omega) (fun a b => by simp [bef]; omega) (List.range n)
  intro i j hi hj hij
  have := List.pairwise_iff_getElem.1 hpw i j hi hj hij
  simpa using this

theorem perm_rank (r : Nat → Int) (n : Nat) : ((List.range n).map (rank r n)).Perm (List.range n) := by
  obtain ⟨l, hp, hs⟩ := exists_sorted r n
  have h1 : (l.map (rank r n)).Perm ((List.range n).map (rank r n)) := hp.map _
  have h2 : l.map (rank r n) = List.range n := by
    have hl : l.length = n := by rw [hp.length_eq, List.length_range]
    apply List.ext_getElem
    · simp [hl]
    · intro i h3 h4
      rw [List.getElem_map, rank_of_sorted r n l hp hs, List.getElem_range]
  rw [h2] at h1
  exact h1.symm

theorem rank_lt (r : Nat → Int) (n i : Nat) (hi : i < n) : rank r n i < n := by
  have : rank r n i ∈ List.range n := (perm_rank r n).mem_iff.1 (List.mem_map.2 ⟨i, List.mem_range.2 hi, rfl⟩)
  exact List.mem_range.1 this

theorem rank_inj (r : Nat → Int) (n i j : Nat) (hi : i < n) (hj : j < n) (h : rank r n i = rank r n j) : i = j := by
  have hnd : ((List.range n).map (rank r n)).Nodup := (perm_rank r n).nodup_iff.2 List.nodup_range
  have hl : ((List.range n).map (rank r n)).length = n := by simp
  rcases Nat.lt_trichotomy i j with h1 | h1 | h1
  · have := List.pairwise_iff_getElem.1 hnd i j (by omega) (by omega) h1
    simp at this
    exact absurd h this
  · exact h1
  · have := List.pairwise_iff_getElem.1 hnd j i (by omega) (by omega) h1
    simp at this
    exact absurd h.symm this

theorem bef_trans {r : Nat → Int} {a b c : Nat} (h1 : bef r a b = true) (h2 : bef r b c = true) : bef r a c = true := by simp [bef] at *; omega

theorem rank_lt_of_bef (r : Nat → Int) (n j i : Nat) (hj : j < n) (h : bef r j i = true) : rank r n j < rank r n i := by
  unfold rank
  have key : ∀ l : List Nat, (∃ a ∈ l, a = j) → l.countP (fun k => bef r k j) < l.countP (fun k => bef r k i) := by
    intro l
    induction l with
    | nil => rintro ⟨a, ha, _⟩; cases ha
    | cons x l ih =>
      rintro ⟨a, ha, rfl⟩
      have hmono : l.countP (fun k => bef r k a) ≤ l.countP (fun k => bef r k i) := List.countP_mono_left fun k _ hk => bef_trans hk h
      rcases List.mem_cons.1 ha with e | e
      · subst e
        have hx : bef r a a = false := by simp [bef]
        rw [List.countP_cons, List.countP_cons, hx, h]
        simp
        omega
      · have := ih ⟨a, e, rfl⟩
        rw [List.countP_cons, List.countP_cons]
        by_cases hx : bef r x a = true
        · rw [hx, bef_trans hx h]
          simp
          omega
        · rw [Bool.eq_false_iff.2 hx]
          simp
          split <;> omega
  exact key _ ⟨j, List.mem_range.2 hj, rfl⟩

theorem sum_below (r : Nat → Int) (n : Nat) (L : Int) (h0 : 0 ≤ L) (hL : L ≤ n) : sumN n (fun i => if (rank r n i : Int) < L then 1 else 0) = L := by
  have h1 : sumN n (fun i => if (rank r n i : Int) < L then 1 else 0) = sumN n (fun p : Nat => if (p : Int) < L then 1 else 0) := by
    unfold sumN
    have : (List.range n).map (fun i => if (rank r n i : Int) < L then (1 : Int) else 0) = ((List.range n).map (rank r n)).map (fun p : Nat => if (p : Int) < L then (1 : Int) else 0) := by simp
    rw [this]
    exact perm_sum ((perm_rank r n).map _)
  rw [h1]
  have h2 : ∀ m : Nat, sumN m (fun p => if (p : Int) < L then 1 else 0) = min (m : Int) L := by
    intro m
    induction m with
    | zero => simp [sumN_zero]; omega
    | succ m ih => rw [sumN_succ, ih]; split <;> omega
  rw [h2]
  omega

end Go.Proofs.YtdbcbbiplkikcaaGreat

namespace Go.Proofs.YtdbcbbiplkikcaaGreat
set_option linter.unusedVariables false

def wsum (ws : List Int) : Int := if ws.sum = 0 then ws.length else ws.sum
def wt (ws : List Int) (i : Nat) : Int := if ws.sum = 0 then 1 else ws.getD i 0
def quoI (t : Int) (ws : List Int) (i : Nat) : Int := t * wt ws i / wsum ws
def rstI (t : Int) (ws : List Int) (i : Nat) : Int := t * wt ws i % wsum ws
def leftI (t : Int) (ws : List Int) : Int := t - sumN ws.length (quoI t ws)
def shareI (t : Int) (ws : List Int) (i : Nat) : Int := quoI t ws i + if (rank (rstI t ws) ws.length i : Int) < leftI t ws then 1 else 0
def shareL (t : Int) (ws : List Int) : List Int := (List.range ws.length).map (shareI t ws)

theorem shareL_length (t : Int) (ws : List Int) : (shareL t ws).length = ws.length := by simp [shareL]
theorem shareL_get (t : Int) (ws : List Int) (i : Nat) (h : i < ws.length) : (shareL t ws).getD i 0 = shareI t ws i := by
  simp [shareL, List.getD, h]

def NonNeg (ws : List Int) : Prop := ∀ i : Nat, 0 ≤ ws.getD i 0

variable {t : Int} {ws : List Int}

theorem sum_nonneg (h : NonNeg ws) : 0 ≤ ws.sum := by
  rw [← sumN_list]
  exact sumN_nonneg fun i _ => h i

theorem wsum_pos (h : NonNeg ws) (hn : 0 < ws.length) : 0 < wsum ws := by
  have := sum_nonneg h
  unfold wsum
  split <;> omega

theorem wt_nonneg (h : NonNeg ws) (i : Nat) : 0 ≤ wt ws i := by
  unfold wt
  split
  · omega
  · exact h i

theorem sum_wt (ws : List Int) : sumN ws.length (wt ws) = wsum ws := by
  unfold wsum
  by_cases h : ws.sum = 0
  · rw [if_pos h]
    have : sumN ws.length (wt ws) = sumN ws.length (fun _ => 1) := sumN_congr fun i _ => by simp [wt, h]
    rw [this, sumN_const]
    omega
  · rw [if_neg h, ← sumN_list ws]
    exact sumN_congr fun i _ => by simp [wt, h]

theorem rst_nonneg (h : NonNeg ws) (hn : 0 < ws.length) (i : Nat) : 0 ≤ rstI t ws i := Int.emod_nonneg _ (by have := wsum_pos h hn; omega)
theorem rst_lt (h : NonNeg ws) (hn : 0 < ws.length) (i : Nat) : rstI t ws i < wsum ws := Int.emod_lt_of_pos _ (wsum_pos h hn)
theorem quo_nonneg (h : NonNeg ws) (ht : 0 ≤ t) (hn : 0 < ws.length) (i : Nat) : 0 ≤ quoI t ws i := Int.ediv_nonneg (Int.mul_nonneg ht (wt_nonneg h i)) (by have := wsum_pos h hn; omega)
theorem quo_rst (t : Int) (ws : List Int) (i : Nat) : wsum ws * quoI t ws i + rstI t ws i = t * wt ws i := Int.mul_ediv_add_emod _ _

theorem sum_rst (t : Int) (ws : List Int) : sumN ws.length (rstI t ws) = leftI t ws * wsum ws := by
  have h1 : sumN ws.length (fun i => wsum ws * quoI t ws i + rstI t ws i) = t * wsum ws := by
    rw [sumN_congr (fun i _ => quo_rst t ws i), sumN_mul, sum_wt]
  rw [sumN_add, sumN_mul] at h1
  unfold leftI
  rw [Int.sub_mul, Int.mul_comm (sumN _ _)]
  omega

theorem left_nonneg (h : NonNeg ws) (hn : 0 < ws.length) : 0 ≤ leftI t ws := by
  have h1 := sum_rst t ws
  have h2 := sumN_nonneg (n := ws.length) (f := rstI t ws) fun i _ => rst_nonneg h hn i
  have h3 := wsum_pos h hn
  rcases Int.lt_or_le (leftI t ws) 0 with h4 | h4
  · have := Int.mul_neg_of_neg_of_pos h4 h3
    omega
  · exact h4

theorem left_lt (h : NonNeg ws) (hn : 0 < ws.length) : leftI t ws < ws.length := by
  have h1 := sum_rst t ws
  have h2 := sumN_le (n := ws.length) (f := rstI t ws) (g := fun _ => wsum ws - 1) fun i _ => by have := rst_lt (t := t) h hn i; omega
  rw [sumN_const, h1] at h2
  have h3 := wsum_pos h hn
  rcases Int.lt_or_le (leftI t ws) ws.length with h4 | h4
  · exact h4
  · have h5 : (ws.length : Int) * wsum ws ≤ leftI t ws * wsum ws := Int.mul_le_mul_of_nonneg_right h4 (by omega)
    rw [Int.mul_sub] at h2
    omega

theorem sum_share (h : NonNeg ws) (hn : 0 < ws.length) : sumN ws.length (shareI t ws) = t := by
  have h1 := left_nonneg (t := t) h hn
  have h2 := left_lt (t := t) h hn
  have h3 := sum_below (rstI t ws) ws.length (leftI t ws) h1 (by omega)
  have h4 : sumN ws.length (shareI t ws) = sumN ws.length (quoI t ws) + sumN ws.length (fun i => if (rank (rstI t ws) ws.length i : Int) < leftI t ws then 1 else 0) := sumN_add _ _ _
  rw [h4, h3]
  unfold leftI
  omega

theorem share_ge (t : Int) (ws : List Int) (i : Nat) : quoI t ws i ≤ shareI t ws i := by unfold shareI; split <;> omega
theorem share_le (t : Int) (ws : List Int) (i : Nat) : shareI t ws i ≤ quoI t ws i + 1 := by unfold shareI; split <;> omega
theorem share_nonneg (h : NonNeg ws) (ht : 0 ≤ t) (hn : 0 < ws.length) (i : Nat) : 0 ≤ shareI t ws i := by have := share_ge t ws i; have := quo_nonneg h ht hn i; omega

theorem sumN_le_all {n : Nat} {f : Nat → Int} (h : ∀ i, i < n → 0 ≤ f i) (i : Nat) (hi : i < n) : f i ≤ sumN n f := by
  induction n with
  | zero => omega
  | succ n ih =>
    rw [sumN_succ]
    have h1 := sumN_nonneg (n := n) (f := f) fun i hi => h i (by omega)
    have h2 := h n (by omega)
    by_cases e : i = n
    · subst e; omega
    · have := ih (fun i hi => h i (by omega)) (by omega); omega

theorem not_raised (h : NonNeg ws) (hn : 0 < ws.length) (i : Nat) (hi : i < ws.length) (hr : rstI t ws i = 0) : leftI t ws ≤ rank (rstI t ws) ws.length i := by
  rcases Int.lt_or_le (rank (rstI t ws) ws.length i) (leftI t ws) with h1 | h1
  · exfalso
    -- all that have a remainder come before i, so fewer than left of them: the sum of remainders is too small
    have h2 : sumN ws.length (rstI t ws) ≤ sumN ws.length (fun j => (wsum ws - 1) * (if (rank (rstI t ws) ws.length j : Int) < rank (rstI t ws) ws.length i then 1 else 0)) := by
      refine sumN_le fun j hj => ?_
      by_cases hb : bef (rstI t ws) j i = true
      · have := rank_lt_of_bef (rstI t ws) ws.length j i hj hb
        rw [if_pos (by omega)]
        have := rst_lt (t := t) h hn j
        omega
      · have h0 := rst_nonneg (t := t) h hn j
        have hz : rstI t ws j = 0 := by simp [bef] at hb; omega
        rw [hz]
        have h3 := wsum_pos h hn
        exact Int.mul_nonneg (by omega) (by split <;> omega)
    rw [sumN_mul, sum_below _ _ _ (by omega) (by have := rank_lt (rstI t ws) ws.length i hi; omega), sum_rst] at h2
    have h3 := wsum_pos h hn
    have h4 : (wsum ws - 1) * (rank (rstI t ws) ws.length i : Int) ≤ (rank (rstI t ws) ws.length i : Int) * wsum ws := by
      rw [Int.sub_mul, Int.mul_comm]
      omega
    have h5 : ((rank (rstI t ws) ws.length i : Int) + 1) * wsum ws ≤ leftI t ws * wsum ws := Int.mul_le_mul_of_nonneg_right (by omega) (by omega)
    rw [Int.add_mul] at h5
    omega
  · exact h1

theorem share_ceil (h : NonNeg ws) (hn : 0 < ws.length) (i : Nat) (hi : i < ws.length) : shareI t ws i ≤ (t * wt ws i + wsum ws - 1) / wsum ws := by
  have h3 := wsum_pos h hn
  have h1 := quo_rst t ws i
  have h2 := rst_nonneg (t := t) h hn i
  rw [Int.le_ediv_iff_mul_le h3]
  by_cases hr : rstI t ws i = 0
  · have h4 := not_raised (t := t) h hn i hi hr
    have h5 : shareI t ws i = quoI t ws i := by unfold shareI; rw [if_neg (by omega)]; omega
    rw [h5, Int.mul_comm]
    omega
  · have h4 := share_le t ws i
    have h5 : shareI t ws i * wsum ws ≤ (quoI t ws i + 1) * wsum ws := Int.mul_le_mul_of_nonneg_right h4 (by omega)
    rw [Int.add_mul, Int.mul_comm (quoI t ws i)] at h5
    omega

theorem share_le_weight (h : NonNeg ws) (hn : 0 < ws.length) (ht : 0 ≤ t) (hs : t < ws.sum) (i : Nat) (hi : i < ws.length) : shareI t ws i ≤ ws.getD i 0 := by
  have hsum : ¬ ws.sum = 0 := by omega
  have hw : wsum ws = ws.sum := by simp [wsum, hsum]
  have hwt : wt ws i = ws.getD i 0 := by simp [wt, hsum]
  have h1 := share_ceil (t := t) h hn i hi
  rw [hw, hwt] at h1
  refine Int.le_trans h1 ?_
  have h0 := h i
  have h2 : (t * ws.getD i 0 + ws.sum - 1) / ws.sum < ws.getD i 0 + 1 := by
    rw [Int.ediv_lt_iff_lt_mul (by omega), Int.add_mul, Int.mul_comm t]
    have : ws.getD i 0 * t ≤ ws.getD i 0 * ws.sum := Int.mul_le_mul_of_nonneg_left (by omega) h0
    omega
  omega

end Go.Proofs.YtdbcbbiplkikcaaGreat

namespace Go.Proofs.YtdbcbbiplkikcaaGreat
open Go.RowKit Go.Shelf Go.Lib Go.Sort
set_option linter.unusedVariables false

def porOf (t : Int) (ws : List Int) (j : Nat) : Por := ⟨j, quoI t ws j, rstI t ws j⟩
def porArr (t : Int) (ws : List Int) : Array Por := ((List.range ws.length).map (porOf t ws)).toArray
theorem porArr_size (t : Int) (ws : List Int) : (porArr t ws).size = ws.length := by simp [porArr]
theorem porArr_get (t : Int) (ws : List Int) (j : Nat) (h : j < ws.length) : (porArr t ws)[j]! = porOf t ws j := by
  simp [porArr, h]

theorem sorted_at (t : Int) (ws : List Int) (d' : Array Por) (hp : PermIn 0 ws.length (porArr t ws) d') (hs : SortedIn (ltOf cmpP) 0 ws.length d') (p : Nat) (h : p < ws.length) :
    ∃ j, j < ws.length ∧ d'[p]! = porOf t ws j ∧ rank (rstI t ws) ws.length j = p := by
  obtain ⟨h1, _, h3⟩ := hp
  rw [porArr_size] at h1
  have hperm : d'.toList.Perm ((List.range ws.length).map (porOf t ws)) := by
    have e1 : (d'.extract 0 ws.length).toList = d'.toList := by rw [← h1]; simp
    have e2 : ((porArr t ws).extract 0 ws.length).toList = (List.range ws.length).map (porOf t ws) := by
      rw [show ws.length = (porArr t ws).size from (porArr_size t ws).symm, Array.extract_size]
      simp [porArr]
    rw [e1, e2] at h3
    exact h3
  have hmem : ∀ i (hi : i < d'.size), ∃ j, j < ws.length ∧ d'[i] = porOf t ws j := by
    intro i hi
    have : d'[i] ∈ d'.toList := by simp
    obtain ⟨j, hj, e⟩ := List.mem_map.1 (hperm.mem_iff.1 this)
    exact ⟨j, List.mem_range.1 hj, e.symm⟩
  have hl : (d'.toList.map fun x => x.index.toNat).Perm (List.range ws.length) := by
    have := hperm.map fun x => x.index.toNat
    rwa [List.map_map, show (List.range ws.length).map ((fun x : Por => x.index.toNat) ∘ porOf t ws) = List.range ws.length from by
      conv => rhs; rw [← List.map_id (List.range ws.length)]
      apply List.map_congr_left; intro j _; simp [porOf]] at this
  have hlen : (d'.toList.map fun x => x.index.toNat).length = ws.length := by simp [h1]
  have hr := rank_of_sorted (rstI t ws) ws.length _ hl (by
    intro i j hi hj hij
    rw [hlen] at hi hj
    have h4 := hs i j (Nat.zero_le _) hij hj
    obtain ⟨a, ha, ea⟩ := hmem i (by omega)
    obtain ⟨b, hb, eb⟩ := hmem j (by omega)
    rw [getElem!_pos d' i (by omega), getElem!_pos d' j (by omega), ltP, ea, eb] at h4
    simp only [List.getElem_map, Array.getElem_toList, ea, eb]
    rw [← h4]
    rw [Bool.eq_iff_iff]
    simp [bef, porOf]
    exact decide_eq_true_iff) p (by omega)
  obtain ⟨j, hj, e⟩ := hmem p (by omega)
  refine ⟨j, hj, by rw [getElem!_pos d' p (by omega), e], ?_⟩
  simp only [List.getElem_map, Array.getElem_toList, e] at hr
  simpa [porOf] using hr

theorem holds_porArr (t : Int) (ws : List Int) (w : World) (g : Nat) (hc : ∀ j, j < ws.length → w.cell? ⟨g, j * 3, none⟩ = some (.int .i64 j) ∧ w.cell? ⟨g, j * 3 + 1, none⟩ = some (.int .u64 (quoI t ws j)) ∧ w.cell? ⟨g, j * 3 + 2, none⟩ = some (.int .u64 (rstI t ws j)))
    (hf : ∀ o, w.frozen? ⟨g, o, none⟩ = false) : HoldsK encP 3 w g 0 (porArr t ws) := by
  intro i hi
  rw [size_flatK, porArr_size] at hi
  rw [get_flatK _ _ _ _ (by rw [porArr_size]; exact hi), porArr_get t ws (i / 3) (by omega)]
  refine ⟨?_, hf _⟩
  obtain ⟨c0, c1, c2⟩ := hc (i / 3) (by omega)
  have hm : i % 3 = 0 ∨ i % 3 = 1 ∨ i % 3 = 2 := by omega
  rcases hm with e | e | e
  · rw [e, show 0 + i = i / 3 * 3 by omega, c0]; rfl
  · rw [e, show 0 + i = i / 3 * 3 + 1 by omega, c1]; rfl
  · rw [e, show 0 + i = i / 3 * 3 + 2 by omega, c2]; rfl

theorem holdsK_cells (w : World) (g : Nat) (d : Array Por) (h : HoldsK encP 3 w g 0 d) (i : Nat) (hi : i < d.size) :
    w.cell? ⟨g, i * 3, none⟩ = some (.int .i64 d[i]!.index) ∧ w.cell? ⟨g, i * 3 + 1, none⟩ = some (.int .u64 d[i]!.share) ∧ w.cell? ⟨g, i * 3 + 2, none⟩ = some (.int .u64 d[i]!.rest) := by
  have h1 : ∀ c, c < 3 → w.cell? ⟨g, 0 + (i * 3 + c), none⟩ = some ((encP d[i]!)[c]!) := by
    intro c hc
    have := (h (i * 3 + c) (by rw [size_flatK]; omega)).1
    rw [this, get_flatK _ _ _ _ (by omega), show (i * 3 + c) / 3 = i by omega, show (i * 3 + c) % 3 = c by omega]
    rfl
  have a := h1 0 (by omega)
  have b := h1 1 (by omega)
  have c := h1 2 (by omega)
  rw [Nat.zero_add] at a b c
  exact ⟨a, b, c⟩

theorem sorted_world (w0 w : World) (g n m : Nat) (d d' : Array Por) (os : Array Obj) (hb : RowKit.Below w0.heap.size w0 w) (hg : w0.heap.size ≤ g) (hg' : g < w.heap.size) (hH : HoldsK encP 3 w g 0 d) (hs : d'.size = d.size) :
    RowKit.Below w0.heap.size w0 (sortWorldK encP 3 w g 0 m d' os) ∧ HoldsK encP 3 (sortWorldK encP 3 w g 0 m d' os) g 0 d' ∧ g < (sortWorldK encP 3 w g 0 m d' os).heap.size := by
  have hsz : (putRowK encP 3 (Sort.ahead w m) g 0 d').heap.size = w.heap.size := by simp [putRowK]
  refine ⟨⟨hb.os, hb.tape, hb.output, ?_, fun k hk => ?_⟩, ?_, ?_⟩
  · have := hb.size
    simp [sortWorldK, hsz]
    omega
  · have h1 : (sortWorldK encP 3 w g 0 m d' os).heap[k]? = (putRowK encP 3 (Sort.ahead w m) g 0 d').heap[k]? := heap_grow_old _ _ (by rw [hsz]; omega)
    rw [h1, ← hb.block k hk]
    simp only [putRowK, putRow, mapBlock, heap_ahead]
    rw [Array.getElem?_modify, if_neg (by omega)]
  · unfold sortWorldK
    exact holdsK_grow encP 3 _ _ _ _ _ (by rw [hsz]; exact hg') (holdsK_putRowK encP 3 _ _ _ _ _ (holdsK_ahead encP 3 w m g 0 d hH) hs)
  · simp [sortWorldK, hsz]
    omega

end Go.Proofs.YtdbcbbiplkikcaaGreat

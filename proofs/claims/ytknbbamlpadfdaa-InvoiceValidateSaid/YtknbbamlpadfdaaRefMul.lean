/-
  Contract of the reference's Mul (customsref01): the product of 128 bits, bit by bit. No statement of the seat is proved here. Conditions: the numbers fit 64 bits without a sign.
-/
import Derived.Test.YtknbbamlpadfdaaRefExact
namespace Go.Proofs.Ytknbbamlpadfdaa
open Go.RowKit
set_option linter.unusedVariables false

/-- The sum of two wide numbers below 2^128. -/
theorem radd_val (A B : Int) (w : World) (hA : 0 ≤ A) (hB : 0 ≤ B) (h : A + B < 340282366920938463463374607431768211456) :
    Calls Try.prog 61 #[.agg #[.int .u64 (A / 18446744073709551616), .int .u64 (A % 18446744073709551616)], .agg #[.int .u64 (B / 18446744073709551616), .int .u64 (B % 18446744073709551616)]] w
      (AddRes w ((A + B) / 18446744073709551616) ((A + B) % 18446744073709551616)) := by
  have := radd_any (A / 18446744073709551616) (A % 18446744073709551616) (B / 18446744073709551616) (B % 18446744073709551616) w (by omega) (by omega) (by omega) (by omega) (by omega) (by omega) (by omega) (by omega)
  rw [show A / 18446744073709551616 * 18446744073709551616 + A % 18446744073709551616 + (B / 18446744073709551616 * 18446744073709551616 + B % 18446744073709551616) = A + B by omega] at this
  rwa [show (A + B) / 18446744073709551616 % 18446744073709551616 = (A + B) / 18446744073709551616 by omega] at this

/-- The last bit of what is left of b. -/
theorem and_one (x : Int) (h0 : 0 ≤ x) (h : x ≤ 18446744073709551615) : bits .and .u64 x 1 = x % 2 := by
  obtain ⟨n, rfl⟩ := Int.eq_ofNat_of_zero_le h0
  have h1 := bits_and_u64_nat n 1 (by omega) (by omega)
  rw [Nat.and_one_is_mod] at h1
  exact h1.trans (by omega)

theorem halves (b : Int) (j : Nat) (hb : 0 ≤ b) : b / 2 ^ j = 2 * (b / 2 ^ (j + 1)) + b / 2 ^ j % 2 := by
  rw [Int.pow_succ, ← Int.ediv_ediv_of_nonneg (Int.pow_nonneg (by omega))]
  omega

theorem shr_bounds (b : Int) (j : Nat) (hb : 0 ≤ b) (hb' : b ≤ 18446744073709551615) : 0 ≤ b / 2 ^ j ∧ b / 2 ^ j ≤ b := by
  have hp : (0 : Int) < 2 ^ j := Int.pow_pos (by omega)
  exact ⟨Int.ediv_nonneg hb (by omega), Int.ediv_le_self _ hb⟩

/-- One round of the multiplication. -/
theorem mul_round (a b : Int) (j : Nat) (ha : 0 ≤ a) (ha' : a ≤ 18446744073709551615) (hb : 0 ≤ b) (hb' : b ≤ 18446744073709551615) :
    0 ≤ a * (b / 2 ^ (j + 1)) ∧ a * (b / 2 ^ (j + 1)) + a * (b / 2 ^ (j + 1)) < 340282366920938463463374607431768211456 ∧
    (b / 2 ^ j % 2 = 0 → a * (b / 2 ^ (j + 1)) + a * (b / 2 ^ (j + 1)) = a * (b / 2 ^ j)) ∧
    (b / 2 ^ j % 2 = 1 → a * (b / 2 ^ (j + 1)) + a * (b / 2 ^ (j + 1)) + a = a * (b / 2 ^ j) ∧ a * (b / 2 ^ (j + 1)) + a * (b / 2 ^ (j + 1)) + a < 340282366920938463463374607431768211456) := by
  have h1 := halves b j hb
  have h2 := shr_bounds b j hb hb'
  have h3 := shr_bounds b (j + 1) hb hb'
  have h4 : a * (b / 2 ^ j) ≤ 18446744073709551615 * 18446744073709551615 := Int.mul_le_mul ha' (by omega) h2.1 (by omega)
  have h5 : 0 ≤ a * (b / 2 ^ (j + 1)) := Int.mul_nonneg ha h3.1
  generalize b / 2 ^ (j + 1) = y at *
  generalize b / 2 ^ j = x at *
  have e : a * x = a * y + a * y + a * (x % 2) := by
    conv => lhs; rw [h1]
    grind
  refine ⟨h5, ?_, ?_, ?_⟩
  · have : 0 ≤ a * (x % 2) := Int.mul_nonneg ha (by omega)
    omega
  · intro hz; rw [hz] at e; omega
  · intro hz; rw [hz] at e; omega

theorem Bl.new1 (w : World) (o : Obj) (t : TypeId) (cs : Array Value) : Bl ((w.alloc o).alloc (.cells cs t)) (w.heap.size + 1) t cs := by
  have := Bl.new (w.alloc o) t cs
  simpa using this
/-- A block of two cells after two stores. -/
theorem Bl.two {w : World} {g : Nat} {t : TypeId} {a b : Value} (h : Bl w g t #[a, b]) (x y : Value) : Bl ((w.setCell ⟨g, 0, none⟩ x).setCell ⟨g, 1, none⟩ y) g t #[x, y] := by
  simpa using (h.put 0 x).put 1 y

set_option maxHeartbeats 2000000 in
theorem rmul_any (a b : Int) (w : World) (ha : 0 ≤ a) (ha' : a ≤ 18446744073709551615) (hb : 0 ≤ b) (hb' : b ≤ 18446744073709551615) :
    Calls Try.prog 46 #[.int .u64 a, .int .u64 b] w fun e w' => e = .returned (.agg #[.int .u64 (a * b / 18446744073709551616), .int .u64 (a * b % 18446744073709551616)]) ∧ RowKit.Below w.heap.size w w' := by
  have b0 : b / 2 ^ (63 + 1) = 0 := Int.ediv_eq_zero_of_lt hb (by omega)
  have B0 := Lib.hid b0
  clear b0
  go_enter Try.func46, Try.ntmps46
  go_wp2
  go_loopw [6] (fun i wr => ∃ (j vh vl : Int), -1 ≤ j ∧ j ≤ 63 ∧ i = .int .i64 j ∧ Bl wr w.heap.size 85 #[.int .u64 0, .int .u64 0] ∧ Bl wr (w.heap.size + 1) 85 #[.int .u64 vh, .int .u64 vl] ∧ Hid (vh = a * (b / 2 ^ (j + 1).toNat) / 18446744073709551616 ∧ vl = a * (b / 2 ^ (j + 1).toNat) % 18446744073709551616) ∧ RowKit.Below w.heap.size w wr) (fun i _ => (intOf i + 1).toNat)
  case atStart => exact ⟨63, 0, 0, by omega, by omega, rfl, (Bl.new _ _ _).alloc _, Bl.new1 _ _ _ _, (by rw [show ((63 : Int) + 1).toNat = 63 + 1 from rfl, B0.out]; exact ⟨by simp, by simp⟩), ((Below.refl _ _).alloc (Nat.le_refl _) _).alloc (by simp) _⟩
  case round =>
    obtain ⟨j, vh, vl, hj0, hj1, rfl, HB1, HB2, HV, hbel⟩ := hrel
    by_cases hlt : 0 ≤ j
    · obtain ⟨jn, rfl⟩ := Int.eq_ofNat_of_zero_le hlt
      rw [show ((jn : Int) + 1).toNat = jn + 1 by omega] at HV
      obtain ⟨m1, m2, m3, m4⟩ := mul_round a b jn ha ha' hb hb'
      have HA1 := Lib.hid (fun w => radd_val (a * (b / 2 ^ (jn + 1))) (a * (b / 2 ^ (jn + 1))) w m1 m1 m2)
      rw [← HV.out.1, ← HV.out.2] at HA1
      obtain ⟨s1, s2⟩ := shr_bounds b jn hb hb'
      have hbit := and_one (b / 2 ^ jn) s1 (by omega)
      have c0 : wr.cell? ⟨w.heap.size + 1, 0, none⟩ = some (.int .u64 vh) := HB2.cell 0
      have c1 : wr.cell? ⟨w.heap.size + 1, 1, none⟩ = some (.int .u64 vl) := HB2.cell 1
      have hne : w.heap.size ≠ w.heap.size + 1 := by omega
      have hsm := Nat.mod_two_eq_zero_or_one 0
      by_cases hz : b / 2 ^ jn % 2 = 1
      · rw [hz] at hbit
        obtain ⟨m5, m6⟩ := m4 hz
        have HA2 := Lib.hid (fun w => radd_val (a * (b / 2 ^ (jn + 1)) + a * (b / 2 ^ (jn + 1))) a w (by omega) ha m6)
        rw [m5, Int.ediv_eq_zero_of_lt ha (by omega), Int.emod_eq_of_lt ha (by omega)] at HA2
        clear m1 m2 m3 m4 m5 m6 hz s1 s2
        generalize (a * (b / 2 ^ (jn + 1)) + a * (b / 2 ^ (jn + 1))) / 18446744073709551616 = h1 at *
        generalize (a * (b / 2 ^ (jn + 1)) + a * (b / 2 ^ (jn + 1))) % 18446744073709551616 = l1 at *
        go_wp2_with fail
        refine (HA1.out _).mono ?_
        rintro e w1 ⟨ov, rfl, hb1⟩
        have HC1 := HB1.keep hb1
        have HC2 := HB2.keep hb1
        have d0 : w1.cell? ⟨w.heap.size + 1, 0, none⟩ = some (.int .u64 vh) := HC2.cell 0
        have d1 : w1.cell? ⟨w.heap.size + 1, 1, none⟩ = some (.int .u64 vl) := HC2.cell 1
        have f0 : w1.frozen? ⟨w.heap.size + 1, 0, none⟩ = false := HC2.free 0
        have f1 : w1.frozen? ⟨w.heap.size + 1, 1, none⟩ = false := HC2.free 1
        have HE1 := HC1.far (p := ⟨w.heap.size + 1, 0, none⟩) hne (.int .u64 h1)
        have HE1 := HE1.far (p := ⟨w.heap.size + 1, 1, none⟩) hne (.int .u64 l1)
        have HE2 := HC2.two (.int .u64 h1) (.int .u64 l1)
        have hbel2 := ((hbel.trans (hb1.mono hbel.size)).setCell (p := ⟨w.heap.size + 1, 0, none⟩) (Nat.le_succ _) (.int .u64 h1)).setCell (p := ⟨w.heap.size + 1, 1, none⟩) (Nat.le_succ _) (.int .u64 l1)
        clear c0 c1
        go_wp2_with fail
        refine (HA2.out _).mono ?_
        rintro e w2 ⟨ov2, rfl, hb2⟩
        have HF1 := HE1.keep hb2
        have HF2 := HE2.keep hb2
        clear d0 d1 f0 f1
        have d0 : w2.cell? ⟨w.heap.size + 1, 0, none⟩ = some (.int .u64 h1) := HF2.cell 0
        have d1 : w2.cell? ⟨w.heap.size + 1, 1, none⟩ = some (.int .u64 l1) := HF2.cell 1
        have f0 : w2.frozen? ⟨w.heap.size + 1, 0, none⟩ = false := HF2.free 0
        have f1 : w2.frozen? ⟨w.heap.size + 1, 1, none⟩ = false := HF2.free 1
        go_wp2
        go_roundw
        case rel => exact ⟨(jn : Int) - 1, _, _, by omega, by omega, rfl, (HF1.far (p := ⟨w.heap.size + 1, 0, none⟩) hne _).far (p := ⟨w.heap.size + 1, 1, none⟩) hne _, HF2.two _ _, (by rw [show ((jn : Int) - 1 + 1).toNat = jn by omega]; exact ⟨rfl, rfl⟩), ((hbel2.trans (hb2.mono hbel2.size)).setCell (p := ⟨w.heap.size + 1, 0, none⟩) (Nat.le_succ _) _).setCell (p := ⟨w.heap.size + 1, 1, none⟩) (Nat.le_succ _) _⟩
        case measure => simp [intOf]
      · have hz0 : b / 2 ^ jn % 2 = 0 := by omega
        rw [hz0] at hbit
        have m5 := m3 hz0
        rw [m5] at HA1
        clear m1 m2 m3 m4 m5 hz hz0 s1 s2
        go_wp2_with fail
        refine (HA1.out _).mono ?_
        rintro e w1 ⟨ov, rfl, hb1⟩
        have HC1 := HB1.keep hb1
        have HC2 := HB2.keep hb1
        have d0 : w1.cell? ⟨w.heap.size + 1, 0, none⟩ = some (.int .u64 vh) := HC2.cell 0
        have d1 : w1.cell? ⟨w.heap.size + 1, 1, none⟩ = some (.int .u64 vl) := HC2.cell 1
        have f0 : w1.frozen? ⟨w.heap.size + 1, 0, none⟩ = false := HC2.free 0
        have f1 : w1.frozen? ⟨w.heap.size + 1, 1, none⟩ = false := HC2.free 1
        clear c0 c1
        go_wp2
        go_roundw
        case rel => exact ⟨(jn : Int) - 1, _, _, by omega, by omega, rfl, (HC1.far (p := ⟨w.heap.size + 1, 0, none⟩) hne _).far (p := ⟨w.heap.size + 1, 1, none⟩) hne _, HC2.two _ _, (by rw [show ((jn : Int) - 1 + 1).toNat = jn by omega]; exact ⟨rfl, rfl⟩), ((hbel.trans (hb1.mono hbel.size)).setCell (p := ⟨w.heap.size + 1, 0, none⟩) (Nat.le_succ _) _).setCell (p := ⟨w.heap.size + 1, 1, none⟩) (Nat.le_succ _) _⟩
        case measure => simp [intOf]
    · obtain rfl : j = -1 := by omega
      rw [show ((-1 : Int) + 1).toNat = 0 from rfl, Int.pow_zero, Int.ediv_one] at HV
      have c0 : wr.cell? ⟨w.heap.size + 1, 0, none⟩ = some (.int .u64 vh) := HB2.cell 0
      have c1 : wr.cell? ⟨w.heap.size + 1, 1, none⟩ = some (.int .u64 vl) := HB2.cell 1
      have d0 : wr.cell? ⟨w.heap.size, 0, none⟩ = some (.int .u64 0) := HB1.cell 0
      have d1 : wr.cell? ⟨w.heap.size, 1, none⟩ = some (.int .u64 0) := HB1.cell 1
      have f0 : wr.frozen? ⟨w.heap.size, 0, none⟩ = false := HB1.free 0
      have f1 : wr.frozen? ⟨w.heap.size, 1, none⟩ = false := HB1.free 1
      go_wp2
      have HX := HB1.two (.int .u64 vh) (.int .u64 vl)
      refine bodyPost_ret (v := .agg #[.int .u64 vh, .int .u64 vl]) (by have x0 := HX.cell 0; have x1 := HX.cell 1; simp at x0 x1; simp [results, Try.results46, go_sem, x0, x1]) rfl ⟨by rw [HV.out.1, HV.out.2], (hbel.setCell (p := ⟨w.heap.size, 0, none⟩) (Nat.le_refl _) _).setCell (p := ⟨w.heap.size, 1, none⟩) (Nat.le_refl _) _⟩
end Go.Proofs.Ytknbbamlpadfdaa

/-
  The arithmetic of math/bits.Div64 (division of 128 bits by 64, digit by digit), in plain numbers. No statement of the seat is proved here. No conditions beyond those typed.
-/
import Derived.Lib.Hide
namespace Go.Proofs.Ytknbbamlpadfdaa
namespace DivMath

/-- The correction loop's invariant: q is not below the true digit, and q and rhat split the head. -/
structure Inv (u n1 n0 l q r : Int) : Prop where
  split : q * n1 + r = u
  above : (u * 4294967296 + l) / (n1 * 4294967296 + n0) ≤ q
  small : r < 4294967296
  pos : 0 ≤ r
  qpos : 0 ≤ q

/-- What is known of the divisor's halves and of the dividend's. -/
structure Dom (u n1 n0 l : Int) : Prop where
  n1l : 2147483648 ≤ n1
  n1h : n1 < 4294967296
  n0l : 0 ≤ n0
  n0h : n0 < 4294967296
  ll : 0 ≤ l
  lh : l < 4294967296
  ul : 0 ≤ u
  uh : u < n1 * 4294967296 + n0

variable {u n1 n0 l q r : Int}

theorem start (d : Dom u n1 n0 l) : Inv u n1 n0 l (u / n1) (u - u / n1 * n1) := by
  obtain ⟨d1, d2, d3, d4, d5, d6, d7, d8⟩ := d
  have h1 := Int.mul_ediv_add_emod u n1
  have h2 := Int.emod_lt_of_pos u (show 0 < n1 by omega)
  have h2' := Int.emod_nonneg u (show n1 ≠ 0 by omega)
  have h3 : u / n1 * n1 = n1 * (u / n1) := Int.mul_comm _ _
  have hq0 : 0 ≤ u / n1 := Int.ediv_nonneg d7 (by omega)
  refine ⟨by omega, ?_, by omega, by omega, hq0⟩
  have hlt : u * 4294967296 + l < (u / n1 + 1) * (n1 * 4294967296 + n0) := by
    have h4 : (u / n1 + 1) * (n1 * 4294967296 + n0) = (n1 * (u / n1) + n1) * 4294967296 + (u / n1 + 1) * n0 := by grind
    have h7 : 0 ≤ (u / n1 + 1) * n0 := Int.mul_nonneg (by omega) d3
    rw [h4]
    omega
  have := (Int.ediv_lt_iff_lt_mul (show 0 < n1 * 4294967296 + n0 by omega)).2 hlt
  omega

theorem le_top (h : Inv u n1 n0 l q r) (d : Dom u n1 n0 l) : q ≤ 4294967297 := by
  obtain ⟨d1, d2, d3, d4, d5, d6, d7, d8⟩ := d
  have hs := h.split
  have hp := h.pos
  rcases Int.lt_or_le 4294967297 q with hq | hq
  · exfalso
    have : 4294967298 * n1 ≤ q * n1 := Int.mul_le_mul_of_nonneg_right hq (by omega)
    omega
  · exact hq

theorem prod (h : Inv u n1 n0 l q r) : q * (n1 * 4294967296 + n0) + r * 4294967296 = u * 4294967296 + q * n0 := by
  have hs := h.split
  rw [← hs]
  grind

theorem digit_lt (d : Dom u n1 n0 l) : (u * 4294967296 + l) / (n1 * 4294967296 + n0) < 4294967296 := by
  obtain ⟨d1, d2, d3, d4, d5, d6, d7, d8⟩ := d
  exact (Int.ediv_lt_iff_lt_mul (by omega)).2 (by omega)

theorem digit_nonneg (d : Dom u n1 n0 l) : 0 ≤ (u * 4294967296 + l) / (n1 * 4294967296 + n0) := by
  obtain ⟨d1, d2, d3, d4, d5, d6, d7, d8⟩ := d
  exact Int.ediv_nonneg (by omega) (by omega)

/-- The loop's test holds: the digit is too great by at least one. -/
theorem down (h : Inv u n1 n0 l q r) (d : Dom u n1 n0 l) (ht : 4294967296 ≤ q ∨ 4294967296 * r + l < q * n0) :
    (u * 4294967296 + l) / (n1 * 4294967296 + n0) + 1 ≤ q := by
  rcases ht with ht | ht
  · have := digit_lt d; omega
  · have hp := prod h
    obtain ⟨d1, d2, d3, d4, d5, d6, d7, d8⟩ := d
    exact (Int.ediv_lt_iff_lt_mul (by omega)).2 (by omega)

theorem one_le (h : Inv u n1 n0 l q r) (d : Dom u n1 n0 l) (ht : 4294967296 ≤ q ∨ 4294967296 * r + l < q * n0) : 1 ≤ q := by
  have := down h d ht
  have := digit_nonneg d
  omega

theorem step (h : Inv u n1 n0 l q r) (d : Dom u n1 n0 l) (ht : 4294967296 ≤ q ∨ 4294967296 * r + l < q * n0) (hr : r + n1 < 4294967296) : Inv u n1 n0 l (q - 1) (r + n1) := by
  have hd := down h d ht
  have h1 := one_le h d ht
  have hs := h.split
  have hp := h.pos
  have hn := d.n1l
  refine ⟨?_, by omega, hr, by omega, by omega⟩
  rw [Int.sub_mul]
  omega

/-- It ends because the test fails. -/
theorem ends (h : Inv u n1 n0 l q r) (d : Dom u n1 n0 l) (h2 : q * n0 ≤ 4294967296 * r + l) : q = (u * 4294967296 + l) / (n1 * 4294967296 + n0) := by
  have hp := prod h
  obtain ⟨d1, d2, d3, d4, d5, d6, d7, d8⟩ := d
  have hle : q ≤ (u * 4294967296 + l) / (n1 * 4294967296 + n0) := (Int.le_ediv_iff_mul_le (by omega)).2 (by omega)
  have := h.above
  omega

/-- It ends by the break. -/
theorem breaks (h : Inv u n1 n0 l q r) (d : Dom u n1 n0 l) (ht : 4294967296 ≤ q ∨ 4294967296 * r + l < q * n0) (hr : 4294967296 ≤ r + n1) :
    q - 1 = (u * 4294967296 + l) / (n1 * 4294967296 + n0) := by
  have hd := down h d ht
  have htop := le_top h d
  have hp := prod h
  obtain ⟨d1, d2, d3, d4, d5, d6, d7, d8⟩ := d
  have h1 : (q - 1) * n0 ≤ 4294967296 * n0 := Int.mul_le_mul_of_nonneg_right (by omega) d3
  have e1 : (q - 1) * (n1 * 4294967296 + n0) = q * (n1 * 4294967296 + n0) - (n1 * 4294967296 + n0) := by grind
  have e2 : (q - 1) * n0 = q * n0 - n0 := by grind
  have hle : q - 1 ≤ (u * 4294967296 + l) / (n1 * 4294967296 + n0) := (Int.le_ediv_iff_mul_le (by omega)).2 (by omega)
  omega

/-- Two digits make the quotient. -/
theorem join {U Y u un1 un0 q1 u21 q0 : Int} (hY : 0 < Y) (hU : U = u * 18446744073709551616 + un1 * 4294967296 + un0) (hq1 : q1 = (u * 4294967296 + un1) / Y) (hu21 : u21 = (u * 4294967296 + un1) % Y)
    (hq0 : q0 = (u21 * 4294967296 + un0) / Y) : U / Y = q1 * 4294967296 + q0 ∧ U % Y = (u21 * 4294967296 + un0) % Y := by
  have h1 := Int.mul_ediv_add_emod (u * 4294967296 + un1) Y
  rw [← hq1, ← hu21] at h1
  have h2 : U = (u21 * 4294967296 + un0) + Y * (q1 * 4294967296) := by grind
  rw [h2, Int.add_mul_ediv_left _ _ (by omega), Int.add_mul_emod_self_left, ← hq0]
  exact ⟨by omega, rfl⟩

end DivMath
end Go.Proofs.Ytknbbamlpadfdaa

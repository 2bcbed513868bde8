/-
  Contract of math/bits.Div64: quotient and remainder of 128 bits by 64. No statement of the seat is proved here. Conditions: the divisor is above the head.
-/
import Derived.Test.YtknbbamlpadfdaaDivMath
import Derived.Test.YtknbbamlpadfdaaWords
import Derived.Test.YtknbbamlpadfdaaProg
import Derived.BigQuiet
import Derived.Deep.QuietTactic
import Derived.WalkLawsBesides
import Derived.Laws.Bits64b
namespace Go.Proofs.Ytknbbamlpadfdaa
open Go.RowKit
set_option linter.unusedVariables false

set_option maxRecDepth 10000 in
set_option maxHeartbeats 4000000 in
/-- The walk, every number under a name of its own. -/
theorem div64_core (hi lo y Y n1 n0 a b u un10 un1 un0 q p r qd c1 c2 c3 u21 qq pp rr qe d1 d2 d3 d4 rem : Int) (s : Nat) (w : World) (h1 : hi < y) (h2 : y ≤ 18446744073709551615) (h3 : lo ≤ 18446744073709551615) (h30 : 0 ≤ lo) (h0 : 0 < hi) (hs : s ≤ 63)
   (hlz : ∀ w : World, Calls Try.prog 73 #[.int .u64 y] w fun e w' => e = .returned (.int .i64 s) ∧ w = w')
   (e1 : IntKind.u64.wrap (y * 2 ^ s) = Y) (e2 : Y / 4294967296 = n1) (e3 : bits .and .u64 Y 4294967295 = n0) (e4 : IntKind.u64.wrap (hi * 2 ^ s) = a) (e5 : lo / 2 ^ (64 - s) = b)
   (e6 : bits .or .u64 a b = u) (e7 : IntKind.u64.wrap (lo * 2 ^ s) = un10) (e8 : un10 / 4294967296 = un1) (e9 : bits .and .u64 un10 4294967295 = un0)
   (e10 : u / n1 = q) (e11 : IntKind.u64.wrap (q * n1) = p) (e12 : u - p = r)
   (hpu : 0 ≤ p ∧ p ≤ u) (hq : q ≤ 4294967297) (hq00 : 0 ≤ q) (hu : u ≤ 18446744073709551615) (D : DivMath.Dom u n1 n0 un1) (HI : DivMath.Inv u n1 n0 un1 q r) (hY0 : 0 ≤ Y) (hY : Y ≤ 18446744073709551615) (h10 : 0 ≤ un10) (h10' : un10 ≤ 18446744073709551615)
   (hqd : Hid (qd = (u * 4294967296 + un1) / (n1 * 4294967296 + n0))) (hqd0 : 0 ≤ qd) (hqd' : qd < 4294967296)
   (f1 : IntKind.u64.wrap (u * 4294967296) = c1) (f2 : IntKind.u64.wrap (c1 + un1) = c2) (f3 : IntKind.u64.wrap (qd * Y) = c3) (f4 : IntKind.u64.wrap (c2 - c3) = u21)
   (e10' : u21 / n1 = qq) (e11' : IntKind.u64.wrap (qq * n1) = pp) (e12' : u21 - pp = rr) (hu' : u21 ≤ 18446744073709551615) (hu0' : 0 ≤ u21) (hpu' : 0 ≤ pp ∧ pp ≤ u21) (hq' : qq ≤ 4294967297) (hq00' : 0 ≤ qq) (DD : DivMath.Dom u21 n1 n0 un0) (HI' : DivMath.Inv u21 n1 n0 un0 qq rr)
   (hqe : Hid (qe = (u21 * 4294967296 + un0) / (n1 * 4294967296 + n0))) (hqe0 : 0 ≤ qe) (hqe' : qe < 4294967296)
   (g1 : IntKind.u64.wrap (u21 * 4294967296) = d1) (g2 : IntKind.u64.wrap (d1 + un0) = d2) (g3 : IntKind.u64.wrap (qe * Y) = d3) (g4 : IntKind.u64.wrap (d2 - d3) = d4) (g5 : d4 / 2 ^ s = rem) :
    Calls Try.prog 64 #[.int .u64 hi, .int .u64 lo, .int .u64 y] w fun e w' => e = .returned (.tuple #[.int .u64 (qd * 4294967296 + qe), .int .u64 rem]) ∧ w = w' := by
  have b1 : (y == 0) = false := by simp; omega
  have b2 : (hi == 0) = false := by simp; omega
  have z1 := D.n1l
  have z2 := D.n1h
  have z30 := D.n0l
  have z3 := D.n0h
  have z40 := D.ll
  have z4 := D.lh
  have z50 := DD.ll
  have z5 := DD.lh
  have zu := D.ul
  have b3 : (n1 == 0) = false := by simp; omega
  go_enter Try.func64, Try.ntmps64
  go_wp2_with (go_at_call 73; refine (hlz _).mono ?_; rintro e w' ⟨rfl, rfl⟩)
  clear e1 e2 e3 e4 e5 e6 e7 e8 e9 b1 b2 hlz h1 h2 h3 h0 h30
  go_loop [15, 16] (fun x z => ∃ q r : Int, DivMath.Inv u n1 n0 un1 q r ∧ q ≤ 4294967297 ∧ x = .int .u64 q ∧ z = .int .u64 r) (fun x _ => (intOf x).toNat)
  case atStart => exact ⟨q, r, HI, hq, (by first | rfl | simp only [e10]), (by first | rfl | simp only [e12])⟩
  case round =>
    clear HI hq hpu e10 e11 e12
    obtain ⟨q, r, HI, hq, rfl, rfl⟩ := hrel
    have hr := HI.small
    have hr0 := HI.pos
    have hq0 := HI.qpos
    by_cases t1 : 4294967296 ≤ q
    · have HT := Lib.hid (show 4294967296 ≤ q ∨ 4294967296 * r + un1 < q * n0 from Or.inl t1)
      have hq1 := DivMath.one_le HI D HT.out
      by_cases t2 : r + n1 < 4294967296
      · have HS := DivMath.step HI D HT.out t2
        go_wp2
        go_round
        case rel => exact ⟨q - 1, r + n1, HS, by omega, rfl, rfl⟩
        case measure => simp [intOf]; omega
      · have E : q - 1 = qd := (DivMath.breaks HI D HT.out (by omega)).trans hqd.out.symm
        go_wp2
        clear f1 f2 f3 f4
        go_loop [18, 16] (fun x z => ∃ q r : Int, DivMath.Inv u21 n1 n0 un0 q r ∧ q ≤ 4294967297 ∧ x = .int .u64 q ∧ z = .int .u64 r) (fun x _ => (intOf x).toNat)
        case atStart => exact ⟨qq, rr, HI', hq', (by first | rfl | simp only [e10']), (by first | rfl | simp only [e12'])⟩
        case round =>
          clear HI hq HI' hr hr0 hq0 e10' e11' e12'
          obtain ⟨q, r, HI, hq, rfl, rfl⟩ := hrel
          have hr := HI.small
          have hr0 := HI.pos
          have hq0 := HI.qpos
          by_cases t1 : 4294967296 ≤ q
          · have HT := Lib.hid (show 4294967296 ≤ q ∨ 4294967296 * r + un0 < q * n0 from Or.inl t1)
            have hq1 := DivMath.one_le HI DD HT.out
            by_cases t2 : r + n1 < 4294967296
            · have HS := DivMath.step HI DD HT.out t2
              go_wp2
              go_round
              case rel => exact ⟨q - 1, r + n1, HS, by omega, rfl, rfl⟩
              case measure => simp [intOf]; omega
            · have E : q - 1 = qe := (DivMath.breaks HI DD HT.out (by omega)).trans hqe.out.symm
              go_wp2
              go_ret2
              exact ⟨rfl, rfl⟩

          · obtain ⟨x, hx⟩ : ∃ x, q * n0 = x := ⟨_, rfl⟩
            have hx0 : 0 ≤ x := by rw [← hx]; exact Int.mul_nonneg hq0 z30
            have hx1 : x ≤ 18446744073709551615 := by
              have h1 : q * n0 ≤ 4294967295 * n0 := Int.mul_le_mul_of_nonneg_right (by omega) z30
              omega
            have HX := Lib.hid hx
            by_cases t3 : 4294967296 * r + un0 < x
            · have HT := Lib.hid (show 4294967296 ≤ q ∨ 4294967296 * r + un0 < q * n0 from Or.inr (by rw [hx]; exact t3))
              have hq1 := DivMath.one_le HI DD HT.out
              by_cases t2 : r + n1 < 4294967296
              · have HS := DivMath.step HI DD HT.out t2
                go_wp2
                go_round
                case rel => exact ⟨q - 1, r + n1, HS, by omega, rfl, rfl⟩
                case measure => simp [intOf]; omega
              · have E : q - 1 = qe := (DivMath.breaks HI DD HT.out (by omega)).trans hqe.out.symm
                go_wp2
                go_ret2
                exact ⟨rfl, rfl⟩

            · obtain rfl : q = qe := (DivMath.ends HI DD (by rw [hx]; omega)).trans hqe.out.symm
              go_wp2
              go_ret2
              exact ⟨rfl, rfl⟩


    · obtain ⟨x, hx⟩ : ∃ x, q * n0 = x := ⟨_, rfl⟩
      have hx0 : 0 ≤ x := by rw [← hx]; exact Int.mul_nonneg hq0 z30
      have hx1 : x ≤ 18446744073709551615 := by
        have h1 : q * n0 ≤ 4294967295 * n0 := Int.mul_le_mul_of_nonneg_right (by omega) z30
        omega
      have HX := Lib.hid hx
      by_cases t3 : 4294967296 * r + un1 < x
      · have HT := Lib.hid (show 4294967296 ≤ q ∨ 4294967296 * r + un1 < q * n0 from Or.inr (by rw [hx]; exact t3))
        have hq1 := DivMath.one_le HI D HT.out
        by_cases t2 : r + n1 < 4294967296
        · have HS := DivMath.step HI D HT.out t2
          go_wp2
          go_round
          case rel => exact ⟨q - 1, r + n1, HS, by omega, rfl, rfl⟩
          case measure => simp [intOf]; omega
        · have E : q - 1 = qd := (DivMath.breaks HI D HT.out (by omega)).trans hqd.out.symm
          go_wp2
          clear f1 f2 f3 f4
          go_loop [18, 16] (fun x z => ∃ q r : Int, DivMath.Inv u21 n1 n0 un0 q r ∧ q ≤ 4294967297 ∧ x = .int .u64 q ∧ z = .int .u64 r) (fun x _ => (intOf x).toNat)
          case atStart => exact ⟨qq, rr, HI', hq', (by first | rfl | simp only [e10']), (by first | rfl | simp only [e12'])⟩
          case round =>
            clear HI hq HI' hr hr0 hq0 e10' e11' e12'
            obtain ⟨q, r, HI, hq, rfl, rfl⟩ := hrel
            have hr := HI.small
            have hr0 := HI.pos
            have hq0 := HI.qpos
            by_cases t1 : 4294967296 ≤ q
            · have HT := Lib.hid (show 4294967296 ≤ q ∨ 4294967296 * r + un0 < q * n0 from Or.inl t1)
              have hq1 := DivMath.one_le HI DD HT.out
              by_cases t2 : r + n1 < 4294967296
              · have HS := DivMath.step HI DD HT.out t2
                go_wp2
                go_round
                case rel => exact ⟨q - 1, r + n1, HS, by omega, rfl, rfl⟩
                case measure => simp [intOf]; omega
              · have E : q - 1 = qe := (DivMath.breaks HI DD HT.out (by omega)).trans hqe.out.symm
                go_wp2
                go_ret2
                exact ⟨rfl, rfl⟩

            · obtain ⟨x, hx⟩ : ∃ x, q * n0 = x := ⟨_, rfl⟩
              have hx0 : 0 ≤ x := by rw [← hx]; exact Int.mul_nonneg hq0 z30
              have hx1 : x ≤ 18446744073709551615 := by
                have h1 : q * n0 ≤ 4294967295 * n0 := Int.mul_le_mul_of_nonneg_right (by omega) z30
                omega
              have HX := Lib.hid hx
              by_cases t3 : 4294967296 * r + un0 < x
              · have HT := Lib.hid (show 4294967296 ≤ q ∨ 4294967296 * r + un0 < q * n0 from Or.inr (by rw [hx]; exact t3))
                have hq1 := DivMath.one_le HI DD HT.out
                by_cases t2 : r + n1 < 4294967296
                · have HS := DivMath.step HI DD HT.out t2
                  go_wp2
                  go_round
                  case rel => exact ⟨q - 1, r + n1, HS, by omega, rfl, rfl⟩
                  case measure => simp [intOf]; omega
                · have E : q - 1 = qe := (DivMath.breaks HI DD HT.out (by omega)).trans hqe.out.symm
                  go_wp2
                  go_ret2
                  exact ⟨rfl, rfl⟩

              · obtain rfl : q = qe := (DivMath.ends HI DD (by rw [hx]; omega)).trans hqe.out.symm
                go_wp2
                go_ret2
                exact ⟨rfl, rfl⟩


      · obtain rfl : q = qd := (DivMath.ends HI D (by rw [hx]; omega)).trans hqd.out.symm
        go_wp2
        clear f1 f2 f3 f4
        go_loop [18, 16] (fun x z => ∃ q r : Int, DivMath.Inv u21 n1 n0 un0 q r ∧ q ≤ 4294967297 ∧ x = .int .u64 q ∧ z = .int .u64 r) (fun x _ => (intOf x).toNat)
        case atStart => exact ⟨qq, rr, HI', hq', (by first | rfl | simp only [e10']), (by first | rfl | simp only [e12'])⟩
        case round =>
          clear HI hq HI' hr hr0 hq0 e10' e11' e12'
          obtain ⟨q, r, HI, hq, rfl, rfl⟩ := hrel
          have hr := HI.small
          have hr0 := HI.pos
          have hq0 := HI.qpos
          by_cases t1 : 4294967296 ≤ q
          · have HT := Lib.hid (show 4294967296 ≤ q ∨ 4294967296 * r + un0 < q * n0 from Or.inl t1)
            have hq1 := DivMath.one_le HI DD HT.out
            by_cases t2 : r + n1 < 4294967296
            · have HS := DivMath.step HI DD HT.out t2
              go_wp2
              go_round
              case rel => exact ⟨q - 1, r + n1, HS, by omega, rfl, rfl⟩
              case measure => simp [intOf]; omega
            · have E : q - 1 = qe := (DivMath.breaks HI DD HT.out (by omega)).trans hqe.out.symm
              go_wp2
              go_ret2
              exact ⟨rfl, rfl⟩

          · obtain ⟨x, hx⟩ : ∃ x, q * n0 = x := ⟨_, rfl⟩
            have hx0 : 0 ≤ x := by rw [← hx]; exact Int.mul_nonneg hq0 z30
            have hx1 : x ≤ 18446744073709551615 := by
              have h1 : q * n0 ≤ 4294967295 * n0 := Int.mul_le_mul_of_nonneg_right (by omega) z30
              omega
            have HX := Lib.hid hx
            by_cases t3 : 4294967296 * r + un0 < x
            · have HT := Lib.hid (show 4294967296 ≤ q ∨ 4294967296 * r + un0 < q * n0 from Or.inr (by rw [hx]; exact t3))
              have hq1 := DivMath.one_le HI DD HT.out
              by_cases t2 : r + n1 < 4294967296
              · have HS := DivMath.step HI DD HT.out t2
                go_wp2
                go_round
                case rel => exact ⟨q - 1, r + n1, HS, by omega, rfl, rfl⟩
                case measure => simp [intOf]; omega
              · have E : q - 1 = qe := (DivMath.breaks HI DD HT.out (by omega)).trans hqe.out.symm
                go_wp2
                go_ret2
                exact ⟨rfl, rfl⟩

            · obtain rfl : q = qe := (DivMath.ends HI DD (by rw [hx]; omega)).trans hqe.out.symm
              go_wp2
              go_ret2
              exact ⟨rfl, rfl⟩


end Go.Proofs.Ytknbbamlpadfdaa

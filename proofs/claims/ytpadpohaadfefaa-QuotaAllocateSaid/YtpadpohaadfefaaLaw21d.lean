/-
  The walk of the law QuotaAllocate. No statement of the seat is proved here. Conditions: the slices read as integers and as requests.
-/
import Derived.Test.YtpadpohaadfefaaRef21d
namespace Go.Proofs.Ytpadpohaadfefaa
open Go.RowKit
set_option linter.unusedVariables false

set_option maxRecDepth 100000 in
set_option maxHeartbeats 4000000 in
/-- What stands behind the choice of the requests. -/
theorem walkQuotaAllocate (A : Option Addr) (len cap : Nat) (xs : List Int) (B : Option Addr) (n c : Nat) (ys : List (Int × Int)) (av : Int) (wild : Bool) (w : World)
    (h : Ints w A len xs) (hlc : len ≤ cap) (hcm : cap ≤ 9223372036854775807) (h2 : Recs enc2 2 w B n ys) (hm : n ≤ 9223372036854775807) :
    Calls Try.prog 11 #[.slice A len cap, .slice B n c, .int .i64 av, .bool wild] w fun e w' => e = .returned (.bool true) ∧ RowKit.Below w.heap.size w w' := by
  go_enter Try.func11, Try.ntmps11
  go_upto_if 18 with (fail)
  go_cut [2, 9] (fun a r wx => ∃ (R : Option Addr) (m d : Nat) (rs : List (Int × Int)) (t : Int), a = .int .i64 t ∧ r = .slice R m d ∧ Recs enc2 2 wx R m rs ∧ m ≤ 9223372036854775807 ∧ RowKit.Below w.heap.size w wx)
  case first =>
    cases wild
    · go_wp2_with fail
      refine (requests_any A len cap xs w h hlc hcm).mono ?_
      rintro e w1 ⟨A1, n1, c1, rs, rfl, hln, hn, ⟨b, HRT⟩, ho1, hb1⟩
      have hI1 := Recs.of_own enc2_len ho1 hln
      clear ho1 HRT hln
      go_wp2_with fail
      refine (within_any av 1000 _ (by omega) (by omega)).mono ?_
      rintro e w2 ⟨rfl, rfl⟩
      go_wp2_with fail
      go_meet
      exact ⟨_, _, _, rs, _, rfl, rfl, hI1, by omega, hb1⟩
    · go_wp2_with fail
      go_meet
      exact ⟨_, _, _, ys, _, rfl, rfl, h2, hm, Below.refl _ _⟩
  case rest =>
    obtain ⟨R, m, d, rs, t, rfl, rfl, hI, hm2, hB⟩ := hcut
    by_cases hg : 260 < m
    · go_wp2_with fail
      refine (awake21_any _).mono ?_
      rintro e wd ⟨rfl, hbd⟩
      go_wp2
      go_ret
      exact ⟨rfl, hB.trans (hbd.mono hB.size)⟩
    · go_wp2_with fail
      refine (alloc_any t R m d rs _ hI hm2).mono ?_
      rintro e w3 ⟨A3, n3, c3, rfl, hl3, ho3, hb3⟩
      have hI3 := Recs.of_own enc2_len ho3 hl3
      clear ho3
      go_wp2_with fail
      refine (ralloc_any t R m d rs _ (hI.below hb3) hm2).mono ?_
      rintro e w4 ⟨A4, n4, c4, rfl, hl4, ho4, hb4⟩
      have hI4 := Recs.of_own enc2_len ho4 hl4
      obtain rfl : n3 = n4 := hl3.symm.trans hl4
      have hI3' := hI3.below hb4
      have hlen : n3 ≤ 9223372036854775807 := by
        have h1 : (allocOut t rs).length ≤ rs.length := by unfold allocOut; split <;> simp [grantsOf_len]
        have h2 := hI.1
        omega
      have hB4 := (hB.trans (hb3.mono hB.size)).trans (hb4.mono (hB.trans (hb3.mono hB.size)).size)
      generalize allocOut t rs = G at *
      generalize allocErr t rs = er at *
      generalize allocLeft t rs = lf at *
      clear ho4 hl3 hl4 hI3
      go_wp2_with fail
      refine (sameG_true A3 A4 n3 c3 c4 G _ hI3' hI4 hlen).mono ?_
      rintro e w5 ⟨rfl, q, rfl⟩
      go_wp2_with fail
      refine (awake21_any _).mono ?_
      rintro e wd ⟨rfl, hbd⟩
      go_wp2
      go_ret
      exact ⟨rfl, (below_drewN hB4 q).trans (hbd.mono (below_drewN hB4 q).size)⟩
end Go.Proofs.Ytpadpohaadfefaa

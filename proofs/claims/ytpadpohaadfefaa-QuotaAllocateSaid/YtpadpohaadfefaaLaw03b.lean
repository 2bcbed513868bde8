/-
  The walks of the laws ShareExact, CapExact and SpreadSign: the law returns true. No statement of the seat is proved here. Conditions: the slice reads as integers.
-/
import Derived.Test.YtpadpohaadfefaaAwake03
namespace Go.Proofs.Ytpadpohaadfefaa
open Go.RowKit
set_option linter.unusedVariables false

theorem own_le {w : World} {base : Nat} {t : TypeId} {v : Value} {n : Nat} {xs : List Value} (h : w.ownsRow base t 1 v n xs) : n ≤ 9223372036854775807 := by
  rcases h.2 with ⟨_, h0⟩ | ⟨g, cap, cur, hv, hb, hh, h1, h2, h3⟩
  · omega
  · unfold maxLen at h2
    omega

set_option maxRecDepth 100000 in
set_option maxHeartbeats 4000000 in
theorem walkShareExact (n : Int) (A : Option Addr) (len cap : Nat) (xs : List Int) (small raw : Bool) (w : World) (h : Ints w A len xs) (hlc : len ≤ cap) (hcm : cap ≤ 9223372036854775807) :
    Calls Try.prog 3 #[.int .i64 n, .slice A len cap, .bool small, .bool raw] w fun e w' => e = .returned (.bool true) ∧ RowKit.Below w.heap.size w w' := by
  have HT := Lib.hid (fun w => total_any n small w)
  by_cases hl : 1100 < len
  · obtain ⟨b, off, hA, _⟩ := h.2 (by omega)
    subst hA
    have h11 := h.take (m := 1100) (by omega)
    have HW := Lib.hid (fun w h => weights_any 1100 cap (some ⟨b, off, none⟩) small (xs.take 1100) w h (by omega) hcm)
    cases raw
    · go_enter Try.func3, Try.ntmps3
      go_wp2_with fail
      refine (HT.out _).mono ?_
      rintro e w1 ⟨t, ht0, ht1, rfl, rfl⟩
      go_wp2_with fail
      refine (HW.out _ h11).mono ?_
      rintro e w2 ⟨A', c', ys, rfl, hys, how, hbw⟩
      have hI := IntsK.of_own how
      have hmm := own_le how
      obtain ⟨m, hm⟩ : ∃ m, m = min 1100 60 := ⟨_, rfl⟩
      rw [← hm] at hI hmm ⊢
      clear hm how
      go_wp2_with fail
      refine (share_any t A' m c' ys _ hI (by omega)).mono ?_
      rintro e wa ⟨A1, n1, k1, rfl, ho1, hb1⟩
      go_wp2_with fail
      refine (rshare_any t A' m c' ys _ (hI.below hb1) (by omega)).mono ?_
      rintro e wb ⟨A2, n2, k2, rfl, ho2, hb2⟩
      obtain rfl : n1 = n2 := (own_len ho1).symm.trans (own_len ho2)
      have hI1 := (IntsK.of_own ho1).below hb2
      have hI2 := IntsK.of_own ho2
      have hn1 := own_le ho2
      have hB := hbw
      have hB := hB.trans (hb1.mono hB.size)
      have hB := hB.trans (hb2.mono hB.size)
      clear ho1 ho2 hb1 hb2
      generalize chkErr t ys = er at *
      generalize shareOut t ys = out at *
      go_wp2_with fail
      refine (same_true A1 A2 n1 k1 k2 out _ hI1 hI2 hn1).mono ?_
      rintro e wc ⟨rfl, q3, rfl⟩
      go_wp2_with fail
      refine (awake03_any _).mono ?_
      rintro e wd ⟨rfl, hbd⟩
      go_wp2
      go_ret
      exact ⟨rfl, (below_drewN hB q3).trans (hbd.mono (below_drewN hB q3).size)⟩

    · have hI := h11
      go_enter Try.func3, Try.ntmps3
      go_wp2_with fail
      refine (share_any n (some ⟨b, off, none⟩) 1100 cap (xs.take 1100) _ hI (by omega)).mono ?_
      rintro e wa ⟨A1, n1, k1, rfl, ho1, hb1⟩
      go_wp2_with fail
      refine (rshare_any n (some ⟨b, off, none⟩) 1100 cap (xs.take 1100) _ (hI.below hb1) (by omega)).mono ?_
      rintro e wb ⟨A2, n2, k2, rfl, ho2, hb2⟩
      obtain rfl : n1 = n2 := (own_len ho1).symm.trans (own_len ho2)
      have hI1 := (IntsK.of_own ho1).below hb2
      have hI2 := IntsK.of_own ho2
      have hn1 := own_le ho2
      have hB := (Below.refl w.heap.size w)
      have hB := hB.trans (hb1.mono hB.size)
      have hB := hB.trans (hb2.mono hB.size)
      clear ho1 ho2 hb1 hb2
      generalize chkErr n (xs.take 1100) = er at *
      generalize shareOut n (xs.take 1100) = out at *
      go_wp2_with fail
      refine (same_true A1 A2 n1 k1 k2 out _ hI1 hI2 hn1).mono ?_
      rintro e wc ⟨rfl, q3, rfl⟩
      go_wp2_with fail
      refine (awake03_any _).mono ?_
      rintro e wd ⟨rfl, hbd⟩
      go_wp2
      go_ret
      exact ⟨rfl, (below_drewN hB q3).trans (hbd.mono (below_drewN hB q3).size)⟩

  · have HW := Lib.hid (fun w h => weights_any len cap A small xs w h hlc hcm)
    cases raw
    · go_enter Try.func3, Try.ntmps3
      go_wp2_with fail
      refine (HT.out _).mono ?_
      rintro e w1 ⟨t, ht0, ht1, rfl, rfl⟩
      go_wp2_with fail
      refine (HW.out _ h).mono ?_
      rintro e w2 ⟨A', c', ys, rfl, hys, how, hbw⟩
      have hI := IntsK.of_own how
      have hmm := own_le how
      obtain ⟨m, hm⟩ : ∃ m, m = min len 60 := ⟨_, rfl⟩
      rw [← hm] at hI hmm ⊢
      clear hm how
      go_wp2_with fail
      refine (share_any t A' m c' ys _ hI (by omega)).mono ?_
      rintro e wa ⟨A1, n1, k1, rfl, ho1, hb1⟩
      go_wp2_with fail
      refine (rshare_any t A' m c' ys _ (hI.below hb1) (by omega)).mono ?_
      rintro e wb ⟨A2, n2, k2, rfl, ho2, hb2⟩
      obtain rfl : n1 = n2 := (own_len ho1).symm.trans (own_len ho2)
      have hI1 := (IntsK.of_own ho1).below hb2
      have hI2 := IntsK.of_own ho2
      have hn1 := own_le ho2
      have hB := hbw
      have hB := hB.trans (hb1.mono hB.size)
      have hB := hB.trans (hb2.mono hB.size)
      clear ho1 ho2 hb1 hb2
      generalize chkErr t ys = er at *
      generalize shareOut t ys = out at *
      go_wp2_with fail
      refine (same_true A1 A2 n1 k1 k2 out _ hI1 hI2 hn1).mono ?_
      rintro e wc ⟨rfl, q3, rfl⟩
      go_wp2_with fail
      refine (awake03_any _).mono ?_
      rintro e wd ⟨rfl, hbd⟩
      go_wp2
      go_ret
      exact ⟨rfl, (below_drewN hB q3).trans (hbd.mono (below_drewN hB q3).size)⟩

    · have hI := h
      go_enter Try.func3, Try.ntmps3
      go_wp2_with fail
      refine (share_any n A len cap xs _ hI (by omega)).mono ?_
      rintro e wa ⟨A1, n1, k1, rfl, ho1, hb1⟩
      go_wp2_with fail
      refine (rshare_any n A len cap xs _ (hI.below hb1) (by omega)).mono ?_
      rintro e wb ⟨A2, n2, k2, rfl, ho2, hb2⟩
      obtain rfl : n1 = n2 := (own_len ho1).symm.trans (own_len ho2)
      have hI1 := (IntsK.of_own ho1).below hb2
      have hI2 := IntsK.of_own ho2
      have hn1 := own_le ho2
      have hB := (Below.refl w.heap.size w)
      have hB := hB.trans (hb1.mono hB.size)
      have hB := hB.trans (hb2.mono hB.size)
      clear ho1 ho2 hb1 hb2
      generalize chkErr n xs = er at *
      generalize shareOut n xs = out at *
      go_wp2_with fail
      refine (same_true A1 A2 n1 k1 k2 out _ hI1 hI2 hn1).mono ?_
      rintro e wc ⟨rfl, q3, rfl⟩
      go_wp2_with fail
      refine (awake03_any _).mono ?_
      rintro e wd ⟨rfl, hbd⟩
      go_wp2
      go_ret
      exact ⟨rfl, (below_drewN hB q3).trans (hbd.mono (below_drewN hB q3).size)⟩


set_option maxRecDepth 100000 in
set_option maxHeartbeats 4000000 in
theorem walkCapExact (n : Int) (A : Option Addr) (len cap : Nat) (xs : List Int) (small raw : Bool) (w : World) (h : Ints w A len xs) (hlc : len ≤ cap) (hcm : cap ≤ 9223372036854775807) :
    Calls Try.prog 7 #[.int .i64 n, .slice A len cap, .bool small, .bool raw] w fun e w' => e = .returned (.bool true) ∧ RowKit.Below w.heap.size w w' := by
  have HT := Lib.hid (fun w => total_any n small w)
  by_cases hl : 1100 < len
  · obtain ⟨b, off, hA, _⟩ := h.2 (by omega)
    subst hA
    have h11 := h.take (m := 1100) (by omega)
    have HW := Lib.hid (fun w h => weights_any 1100 cap (some ⟨b, off, none⟩) small (xs.take 1100) w h (by omega) hcm)
    cases raw
    · go_enter Try.func7, Try.ntmps7
      go_wp2_with fail
      refine (HT.out _).mono ?_
      rintro e w1 ⟨t, ht0, ht1, rfl, rfl⟩
      go_wp2_with fail
      refine (HW.out _ h11).mono ?_
      rintro e w2 ⟨A', c', ys, rfl, hys, how, hbw⟩
      have hI := IntsK.of_own how
      have hmm := own_le how
      obtain ⟨m, hm⟩ : ∃ m, m = min 1100 60 := ⟨_, rfl⟩
      rw [← hm] at hI hmm ⊢
      clear hm how
      go_wp2_with fail
      refine (cap_any t A' m c' ys _ hI (by omega)).mono ?_
      rintro e wa ⟨A1, n1, k1, rfl, ho1, hb1⟩
      go_wp2_with fail
      refine (rcap_any t A' m c' ys _ (hI.below hb1) (by omega)).mono ?_
      rintro e wb ⟨A2, n2, k2, rfl, ho2, hb2⟩
      obtain rfl : n1 = n2 := (own_len ho1).symm.trans (own_len ho2)
      have hI1 := (IntsK.of_own ho1).below hb2
      have hI2 := IntsK.of_own ho2
      have hn1 := own_le ho2
      have hB := hbw
      have hB := hB.trans (hb1.mono hB.size)
      have hB := hB.trans (hb2.mono hB.size)
      clear ho1 ho2 hb1 hb2
      generalize capErr t ys = er at *
      generalize capOut t ys = out at *
      go_wp2_with fail
      refine (same_true A1 A2 n1 k1 k2 out _ hI1 hI2 hn1).mono ?_
      rintro e wc ⟨rfl, q3, rfl⟩
      go_wp2_with fail
      refine (awake03_any _).mono ?_
      rintro e wd ⟨rfl, hbd⟩
      go_wp2
      go_ret
      exact ⟨rfl, (below_drewN hB q3).trans (hbd.mono (below_drewN hB q3).size)⟩

    · have hI := h11
      go_enter Try.func7, Try.ntmps7
      go_wp2_with fail
      refine (cap_any n (some ⟨b, off, none⟩) 1100 cap (xs.take 1100) _ hI (by omega)).mono ?_
      rintro e wa ⟨A1, n1, k1, rfl, ho1, hb1⟩
      go_wp2_with fail
      refine (rcap_any n (some ⟨b, off, none⟩) 1100 cap (xs.take 1100) _ (hI.below hb1) (by omega)).mono ?_
      rintro e wb ⟨A2, n2, k2, rfl, ho2, hb2⟩
      obtain rfl : n1 = n2 := (own_len ho1).symm.trans (own_len ho2)
      have hI1 := (IntsK.of_own ho1).below hb2
      have hI2 := IntsK.of_own ho2
      have hn1 := own_le ho2
      have hB := (Below.refl w.heap.size w)
      have hB := hB.trans (hb1.mono hB.size)
      have hB := hB.trans (hb2.mono hB.size)
      clear ho1 ho2 hb1 hb2
      generalize capErr n (xs.take 1100) = er at *
      generalize capOut n (xs.take 1100) = out at *
      go_wp2_with fail
      refine (same_true A1 A2 n1 k1 k2 out _ hI1 hI2 hn1).mono ?_
      rintro e wc ⟨rfl, q3, rfl⟩
      go_wp2_with fail
      refine (awake03_any _).mono ?_
      rintro e wd ⟨rfl, hbd⟩
      go_wp2
      go_ret
      exact ⟨rfl, (below_drewN hB q3).trans (hbd.mono (below_drewN hB q3).size)⟩

  · have HW := Lib.hid (fun w h => weights_any len cap A small xs w h hlc hcm)
    cases raw
    · go_enter Try.func7, Try.ntmps7
      go_wp2_with fail
      refine (HT.out _).mono ?_
      rintro e w1 ⟨t, ht0, ht1, rfl, rfl⟩
      go_wp2_with fail
      refine (HW.out _ h).mono ?_
      rintro e w2 ⟨A', c', ys, rfl, hys, how, hbw⟩
      have hI := IntsK.of_own how
      have hmm := own_le how
      obtain ⟨m, hm⟩ : ∃ m, m = min len 60 := ⟨_, rfl⟩
      rw [← hm] at hI hmm ⊢
      clear hm how
      go_wp2_with fail
      refine (cap_any t A' m c' ys _ hI (by omega)).mono ?_
      rintro e wa ⟨A1, n1, k1, rfl, ho1, hb1⟩
      go_wp2_with fail
      refine (rcap_any t A' m c' ys _ (hI.below hb1) (by omega)).mono ?_
      rintro e wb ⟨A2, n2, k2, rfl, ho2, hb2⟩
      obtain rfl : n1 = n2 := (own_len ho1).symm.trans (own_len ho2)
      have hI1 := (IntsK.of_own ho1).below hb2
      have hI2 := IntsK.of_own ho2
      have hn1 := own_le ho2
      have hB := hbw
      have hB := hB.trans (hb1.mono hB.size)
      have hB := hB.trans (hb2.mono hB.size)
      clear ho1 ho2 hb1 hb2
      generalize capErr t ys = er at *
      generalize capOut t ys = out at *
      go_wp2_with fail
      refine (same_true A1 A2 n1 k1 k2 out _ hI1 hI2 hn1).mono ?_
      rintro e wc ⟨rfl, q3, rfl⟩
      go_wp2_with fail
      refine (awake03_any _).mono ?_
      rintro e wd ⟨rfl, hbd⟩
      go_wp2
      go_ret
      exact ⟨rfl, (below_drewN hB q3).trans (hbd.mono (below_drewN hB q3).size)⟩

    · have hI := h
      go_enter Try.func7, Try.ntmps7
      go_wp2_with fail
      refine (cap_any n A len cap xs _ hI (by omega)).mono ?_
      rintro e wa ⟨A1, n1, k1, rfl, ho1, hb1⟩
      go_wp2_with fail
      refine (rcap_any n A len cap xs _ (hI.below hb1) (by omega)).mono ?_
      rintro e wb ⟨A2, n2, k2, rfl, ho2, hb2⟩
      obtain rfl : n1 = n2 := (own_len ho1).symm.trans (own_len ho2)
      have hI1 := (IntsK.of_own ho1).below hb2
      have hI2 := IntsK.of_own ho2
      have hn1 := own_le ho2
      have hB := (Below.refl w.heap.size w)
      have hB := hB.trans (hb1.mono hB.size)
      have hB := hB.trans (hb2.mono hB.size)
      clear ho1 ho2 hb1 hb2
      generalize capErr n xs = er at *
      generalize capOut n xs = out at *
      go_wp2_with fail
      refine (same_true A1 A2 n1 k1 k2 out _ hI1 hI2 hn1).mono ?_
      rintro e wc ⟨rfl, q3, rfl⟩
      go_wp2_with fail
      refine (awake03_any _).mono ?_
      rintro e wd ⟨rfl, hbd⟩
      go_wp2
      go_ret
      exact ⟨rfl, (below_drewN hB q3).trans (hbd.mono (below_drewN hB q3).size)⟩


set_option maxRecDepth 100000 in
set_option maxHeartbeats 4000000 in
theorem walkSpreadSign (n : Int) (A : Option Addr) (len cap : Nat) (xs : List Int) (small raw : Bool) (w : World) (h : Ints w A len xs) (hlc : len ≤ cap) (hcm : cap ≤ 9223372036854775807) (hn0 : -9223372036854775808 ≤ n) :
    Calls Try.prog 9 #[.int .i64 n, .slice A len cap, .bool small, .bool raw] w fun e w' => e = .returned (.bool true) ∧ RowKit.Below w.heap.size w w' := by
  cases raw
  · have HW := Lib.hid (fun w h => weights_any len cap A small xs w h hlc hcm)
    have htb := tmod_bounds n 1000000000001 (by omega)
    obtain ⟨t, ht⟩ : ∃ t, n.tmod 1000000000001 = t := ⟨_, rfl⟩
    rw [ht] at htb
    go_enter Try.func9, Try.ntmps9
    go_wp2_with fail
    refine (HW.out _ h).mono ?_
    rintro e w2 ⟨A', c', ys, rfl, hys, how, hbw⟩
    have hI := IntsK.of_own how
    have hmm : min len 60 ≤ 60 := Nat.min_le_right _ _
    obtain ⟨m, hm⟩ : ∃ m, m = min len 60 := ⟨_, rfl⟩
    rw [← hm] at hI hmm ⊢
    have htl : -9223372036854775808 ≤ t := by omega
    clear hm how htb ht
    go_wp2_with fail
    refine (spread_any t A' m c' ys _ hI (by omega)).mono ?_
    rintro e wa ⟨A1, n1, k1, rfl, ho1, hb1⟩
    go_wp2_with fail
    refine (rspread_any t A' m c' ys _ (hI.below hb1) (by omega) htl).mono ?_
    rintro e wb ⟨A2, n2, k2, rfl, ho2, hb2⟩
    obtain rfl : n1 = n2 := (own_len ho1).symm.trans (own_len ho2)
    have hI1 := (IntsK.of_own ho1).below hb2
    have hI2 := IntsK.of_own ho2
    have hn1 := own_le ho2
    have hB := hbw
    have hB := hB.trans (hb1.mono hB.size)
    have hB := hB.trans (hb2.mono hB.size)
    clear ho1 ho2 hb1 hb2
    generalize spErr t ys = er at *
    generalize spOut t ys = out at *
    go_wp2_with fail
    refine (same_true A1 A2 n1 k1 k2 out _ hI1 hI2 hn1).mono ?_
    rintro e wc ⟨rfl, q3, rfl⟩
    go_wp2_with fail
    refine (awake03_any _).mono ?_
    rintro e wd ⟨rfl, hbd⟩
    go_wp2
    go_ret
    exact ⟨rfl, (below_drewN hB q3).trans (hbd.mono (below_drewN hB q3).size)⟩

  · by_cases hl : 1100 < len
    · obtain ⟨b, off, hA, _⟩ := h.2 (by omega)
      subst hA
      have hI := h.take (m := 1100) (by omega)
      go_enter Try.func9, Try.ntmps9
      go_wp2_with fail
      refine (spread_any n (some ⟨b, off, none⟩) 1100 cap (xs.take 1100) _ hI (by omega)).mono ?_
      rintro e wa ⟨A1, n1, k1, rfl, ho1, hb1⟩
      go_wp2_with fail
      refine (rspread_any n (some ⟨b, off, none⟩) 1100 cap (xs.take 1100) _ (hI.below hb1) (by omega) hn0).mono ?_
      rintro e wb ⟨A2, n2, k2, rfl, ho2, hb2⟩
      obtain rfl : n1 = n2 := (own_len ho1).symm.trans (own_len ho2)
      have hI1 := (IntsK.of_own ho1).below hb2
      have hI2 := IntsK.of_own ho2
      have hn1 := own_le ho2
      have hB := (Below.refl w.heap.size w)
      have hB := hB.trans (hb1.mono hB.size)
      have hB := hB.trans (hb2.mono hB.size)
      clear ho1 ho2 hb1 hb2
      generalize spErr n (xs.take 1100) = er at *
      generalize spOut n (xs.take 1100) = out at *
      go_wp2_with fail
      refine (same_true A1 A2 n1 k1 k2 out _ hI1 hI2 hn1).mono ?_
      rintro e wc ⟨rfl, q3, rfl⟩
      go_wp2_with fail
      refine (awake03_any _).mono ?_
      rintro e wd ⟨rfl, hbd⟩
      go_wp2
      go_ret
      exact ⟨rfl, (below_drewN hB q3).trans (hbd.mono (below_drewN hB q3).size)⟩

    · have hI := h
      go_enter Try.func9, Try.ntmps9
      go_wp2_with fail
      refine (spread_any n A len cap xs _ hI (by omega)).mono ?_
      rintro e wa ⟨A1, n1, k1, rfl, ho1, hb1⟩
      go_wp2_with fail
      refine (rspread_any n A len cap xs _ (hI.below hb1) (by omega) hn0).mono ?_
      rintro e wb ⟨A2, n2, k2, rfl, ho2, hb2⟩
      obtain rfl : n1 = n2 := (own_len ho1).symm.trans (own_len ho2)
      have hI1 := (IntsK.of_own ho1).below hb2
      have hI2 := IntsK.of_own ho2
      have hn1 := own_le ho2
      have hB := (Below.refl w.heap.size w)
      have hB := hB.trans (hb1.mono hB.size)
      have hB := hB.trans (hb2.mono hB.size)
      clear ho1 ho2 hb1 hb2
      generalize spErr n xs = er at *
      generalize spOut n xs = out at *
      go_wp2_with fail
      refine (same_true A1 A2 n1 k1 k2 out _ hI1 hI2 hn1).mono ?_
      rintro e wc ⟨rfl, q3, rfl⟩
      go_wp2_with fail
      refine (awake03_any _).mono ?_
      rintro e wd ⟨rfl, hbd⟩
      go_wp2
      go_ret
      exact ⟨rfl, (below_drewN hB q3).trans (hbd.mono (below_drewN hB q3).size)⟩

end Go.Proofs.Ytpadpohaadfefaa

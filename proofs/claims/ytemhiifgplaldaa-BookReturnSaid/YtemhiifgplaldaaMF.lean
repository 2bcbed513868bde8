/-
  The contract of slices.symMergeCmpFunc at facts. No statement of the seat is proved here. Conditions: two sorted ranges that lie in the row, one behind the other.
-/
import Derived.Test.YtemhiifgplaldaaME
namespace Go.Proofs.Ytemhiifgplaldaa
open Go.RowKit
set_option linter.unusedVariables false

theorem mvR_swaps (f : Nat → Fct) (a e lo hi : Nat) (hl : lo ≤ a) (h : a ≤ e) (hh : e < hi) : Swaps lo hi f (mvR f a e) := by
  induction e with
  | zero => obtain rfl : a = 0 := by omega
            rw [mvR_zero]; exact .refl
  | succ e ih =>
    by_cases x : a ≤ e
    · rw [← mvR_succ f a e x]; exact .step _ _ (ih x (by omega)) (by omega) (by omega) (by omega) (by omega)
    · obtain rfl : a = e + 1 := by omega
      rw [mvR_zero]; exact .refl
theorem mvL_swaps (f : Nat → Fct) (m k lo hi : Nat) (hk : k ≤ m) (hl : lo ≤ m - k) (hh : m < hi) : Swaps lo hi f (mvL f m (m - k)) := by
  induction k with
  | zero => rw [Nat.sub_zero, mvL_zero]; exact .refl
  | succ k ih =>
    have e : m - (k + 1) = m - k - 1 := by omega
    rw [e, ← mvL_succ f m (m - k) (by omega) (by omega)]
    exact .step _ _ (ih (by omega) (by omega)) (by omega) (by omega) (by omega) (by omega)
set_option maxRecDepth 100000 in
set_option maxHeartbeats 8000000 in
theorem symMerge_one (g n c sz : Nat) (f : Nat → Fct) (a m b : Nat) (w : World) (h : FRow w g n sz f) (ham : a + 1 = m) (hmb : m < b) (hb : b ≤ n) (hn : n ≤ 1000000) (hs : Srt m b f) :
    Calls Try.prog 72 #[.slice (some ⟨g, 0, none⟩) n c, .int .i64 a, .int .i64 m, .int .i64 b, .func (.func 53) #[] #[]] w (Sorts w g n sz a b f) := by
  have HSR := Lib.hid hs
  have ham1 : a + 1 ≤ m := by omega
  have ham2 : m ≤ a + 1 := by omega
  have b1 : ((m : Int) - (a : Int) == 1) = true := by simp; omega
  clear hs ham
  go_enter Try.func72, Try.ntmps72
  go_wp2
  go_loopw [10, 11] (fun i j wx => ∃ I J : Nat, i = .int .i64 I ∧ j = .int .i64 J ∧ m ≤ I ∧ I ≤ J ∧ J ≤ b ∧ Hid (∀ q, a + 1 ≤ q → q < I → (f q).day < (f a).day) ∧ Hid (∀ q, J ≤ q → q < b → (f a).day ≤ (f q).day) ∧ FRow wx g n sz f ∧ Kp g w wx) (fun i j _ => (intOf j).toNat - (intOf i).toNat)
  case atStart => exact ⟨m, b, rfl, rfl, Nat.le_refl _, by omega, Nat.le_refl _, fun q h1 h2 => by omega, fun q h1 h2 => by omega, h, Kp.refl _ _⟩
  case round =>
    clear h
    obtain ⟨I, J, rfl, rfl, hI, hIJ, hJ, HA, HB, hR, hK⟩ := hrel
    by_cases hlt : I < J
    · go_upto_region 5 with (fail)
      obtain ⟨H, hH⟩ : ∃ q : Nat, ((I : Int) + (J : Int)) / 2 = (q : Int) := ⟨(I + J) / 2, by omega⟩
      have hH1 : I ≤ H := by omega
      have hH2 : H < J := by omega
      rw [hH]
      clear hH
      have hPn : H < n := by omega
      have hQn : a < n := by omega
      have hPi : (H : Int) < n := by omega
      have hQi : (a : Int) < n := by omega
      obtain ⟨xP, hxP⟩ : ∃ x, f H = x := ⟨_, rfl⟩
      obtain ⟨xQ, hxQ⟩ : ∃ x, f a = x := ⟨_, rfl⟩
      have HCJ := Lib.hid (fun w' hb => cells_over (w' := w') hR hb hPn)
      have HCP := Lib.hid (fun w' hb => cells_over (w' := w') hR hb hQn)
      rw [hxP] at HCJ
      rw [hxQ] at HCP
      obtain ⟨a0, a1, a2, a3, a4⟩ := hR.cells hPn
      obtain ⟨b0, b1, b2, b3, b4⟩ := hR.cells hQn
      rw [hxP] at a0 a1 a2 a3 a4
      rw [hxQ] at b0 b1 b2 b3 b4
      have HCM : Hid (∀ wx, RowKit.Below wr.heap.size wr wx → Calls Try.prog 53 #[.agg #[.int .i64 xP.num, .int .i64 xP.kind, .int .i64 xP.day, .int .i64 xP.id, .int .i64 xP.qty], .agg #[.int .i64 xQ.num, .int .i64 xQ.kind, .int .i64 xQ.day, .int .i64 xQ.id, .int .i64 xQ.qty]] wx (fun e w' => (∃ r : Int, e = .returned (.int .i64 r) ∧ (xP.day < xQ.day → r = -1) ∧ (xQ.day ≤ xP.day → 0 ≤ r)) ∧ RowKit.Below wr.heap.size wr w')) := fun wx hb => cmpDay_over xP xQ wr wx hb
      have HB0 : Hid (RowKit.Below wr.heap.size wr wr.drew) := (Below.refl _ _).drew
      have HRR := Lib.hid hR
      have HKK := Lib.hid hK
      obtain ⟨bb, hbb⟩ : ∃ b, decide ((f H).day < (f a).day) = b := ⟨_, rfl⟩
      have HBD := Lib.hid hbb
      rw [hxP, hxQ] at hbb
      have HBB := Lib.hid (fun r h => (cmp_test (r := r) h).trans hbb)
      clear hbb hxP hxQ hR hK
      go_cut [50] (fun v wx => v = .bool bb ∧ RowKit.Below wr.heap.size wr wx)
      case first =>
        go_region_held3 (fun w' => w'.cell? ⟨g, H * 5, none⟩ = some (.int .i64 xP.num) ∧ w'.cell? ⟨g, H * 5 + 1, none⟩ = some (.int .i64 xP.kind) ∧ w'.cell? ⟨g, H * 5 + 2, none⟩ = some (.int .i64 xP.day) ∧ w'.cell? ⟨g, H * 5 + 3, none⟩ = some (.int .i64 xP.id) ∧ w'.cell? ⟨g, H * 5 + 4, none⟩ = some (.int .i64 xP.qty) ∧ w'.cell? ⟨g, a * 5, none⟩ = some (.int .i64 xQ.num) ∧ w'.cell? ⟨g, a * 5 + 1, none⟩ = some (.int .i64 xQ.kind) ∧ w'.cell? ⟨g, a * 5 + 2, none⟩ = some (.int .i64 xQ.day) ∧ w'.cell? ⟨g, a * 5 + 3, none⟩ = some (.int .i64 xQ.id) ∧ w'.cell? ⟨g, a * 5 + 4, none⟩ = some (.int .i64 xQ.qty))
          (first
            | go_keep
            | exact ⟨(HCJ.out _ hb5.out).1, (HCJ.out _ hb5.out).2.1, (HCJ.out _ hb5.out).2.2.1, (HCJ.out _ hb5.out).2.2.2.1, (HCJ.out _ hb5.out).2.2.2.2, (HCP.out _ hb5.out).1, (HCP.out _ hb5.out).2.1, (HCP.out _ hb5.out).2.2.1, (HCP.out _ hb5.out).2.2.2.1, (HCP.out _ hb5.out).2.2.2.2⟩)
          (first
            | (go_at_call 53; with_reducible (refine (HCM.out _ ?_).mono ?_); with_reducible (first | exact HB0.out | exact hb5.out); rintro e w5 ⟨⟨r, rfl, hr'⟩, hb5'⟩; have hb5 := Lib.hid hb5'; have hr := Lib.hid hr'; clear hb5' hr'))
        all_goals (go_wp2_with fail; go_meet; exact ⟨by rw [HBB.out r hr.out], hb5.out⟩)
      case rest =>
        obtain ⟨rfl, hb5⟩ := hcut
        have hR5 := HRR.out.keep hb5
        have hK5 := HKK.out.below hb5
        clear a0 a1 a2 a3 a4 b0 b1 b2 b3 b4 HCJ HCP HCM HB0 HRR HKK hb5 HBB
        cases bb
        case true =>
          have HA2 : Hid (∀ q, a + 1 ≤ q → q < H + 1 → (f q).day < (f a).day) := fun q h1 h2 => by
            have k1 := of_decide_eq_true HBD.out
            have k2 := HSR.out.le (i := q) (j := H) (by omega) (by omega) (by omega)
            omega
          clear HBD HA
          go_wp2_with fail
          go_roundw
          case rel => exact ⟨H + 1, J, by go_num, rfl, by omega, by omega, hJ, HA2, HB, hR5, hK5⟩
          case measure => simp [intOf]; omega
        case false =>
          have HB2 : Hid (∀ q, H ≤ q → q < b → (f a).day ≤ (f q).day) := fun q h1 h2 => by
            have k1 := of_decide_eq_false HBD.out
            have k2 := HSR.out.le (i := H) (j := q) (by omega) (by omega) (by omega)
            omega
          clear HBD HB
          go_wp2_with fail
          go_roundw
          case rel => exact ⟨I, H, rfl, rfl, by omega, by omega, by omega, HA, HB2, hR5, hK5⟩
          case measure => simp [intOf]; omega
    · obtain rfl : I = J := by omega
      have HSS := Lib.hid (mvR_srt (a := a) (b := b) (i := I) (HSR.out.mono (by omega) (Nat.le_refl _)) (by omega) (by omega) HA.out HB.out)
      have HWW := Lib.hid (mvR_swaps f a (I - 1) a b (Nat.le_refl _) (by omega) (by omega))
      clear HA HB
      go_wp2_with fail
      go_loopw [13] (fun k wx => ∃ K : Nat, k = .int .i64 K ∧ a ≤ K ∧ K ≤ I - 1 ∧ FRow wx g n sz (mvR f a K) ∧ Kp g w wx) (fun k _ => I - (intOf k).toNat)
      case atStart => exact ⟨a, rfl, Nat.le_refl _, by omega, by rw [mvR_zero]; exact hR, hK⟩
      case round =>
        clear hR hK
        obtain ⟨K, rfl, hK1, hK2, hR, hK⟩ := hrel
        by_cases hlt2 : K < I - 1
        · obtain ⟨p, hp⟩ : ∃ p, K + 1 = p := ⟨_, rfl⟩
          have u1 : IntKind.i64.wrap ((K : Int) + 1) = (p : Int) := (IntWalk.i64_in _ (by omega)).trans (by omega)
          have HE := Lib.hid (mvR_succ f a K hK1)
          rw [hp] at HE
          have hp1 : K + 1 ≤ p := by omega
          have hp2 : p ≤ K + 1 := by omega
          clear hp
          have n1 : K ≠ p := by omega
          have n2 : p ≠ K := by omega
          have n3 : K * 5 ≠ p * 5 := by omega
          have n4 : p * 5 ≠ K * 5 := by omega
          have hPn : K < n := by omega
          have hQn : p < n := by omega
          have hPi : (K : Int) < n := by omega
          have hQi : (p : Int) < n := by omega
          obtain ⟨xP, hxP⟩ : ∃ x, (mvR f a K) K = x := ⟨_, rfl⟩
          obtain ⟨xQ, hxQ⟩ : ∃ x, (mvR f a K) p = x := ⟨_, rfl⟩
          obtain ⟨a0, a1, a2, a3, a4⟩ := hR.cells hPn
          obtain ⟨b0, b1, b2, b3, b4⟩ := hR.cells hQn
          rw [hxP] at a0 a1 a2 a3 a4
          rw [hxQ] at b0 b1 b2 b3 b4
          have ez0 : wr.frozen? ⟨g, K * 5, none⟩ = false := hR.free _
          have ez1 : wr.frozen? ⟨g, K * 5 + 1, none⟩ = false := hR.free _
          have ez2 : wr.frozen? ⟨g, K * 5 + 2, none⟩ = false := hR.free _
          have ez3 : wr.frozen? ⟨g, K * 5 + 3, none⟩ = false := hR.free _
          have ez4 : wr.frozen? ⟨g, K * 5 + 4, none⟩ = false := hR.free _
          have fz0 : wr.frozen? ⟨g, p * 5, none⟩ = false := hR.free _
          have fz1 : wr.frozen? ⟨g, p * 5 + 1, none⟩ = false := hR.free _
          have fz2 : wr.frozen? ⟨g, p * 5 + 2, none⟩ = false := hR.free _
          have fz3 : wr.frozen? ⟨g, p * 5 + 3, none⟩ = false := hR.free _
          have fz4 : wr.frozen? ⟨g, p * 5 + 4, none⟩ = false := hR.free _
          have HR2 : Hid (FRow ((((((((((wr.setCell ⟨g, K * 5, none⟩ (.int .i64 xQ.num)).setCell ⟨g, K * 5 + 1, none⟩ (.int .i64 xQ.kind)).setCell ⟨g, K * 5 + 2, none⟩ (.int .i64 xQ.day)).setCell ⟨g, K * 5 + 3, none⟩ (.int .i64 xQ.id)).setCell ⟨g, K * 5 + 4, none⟩ (.int .i64 xQ.qty)).setCell ⟨g, p * 5, none⟩ (.int .i64 xP.num)).setCell ⟨g, p * 5 + 1, none⟩ (.int .i64 xP.kind)).setCell ⟨g, p * 5 + 2, none⟩ (.int .i64 xP.day)).setCell ⟨g, p * 5 + 3, none⟩ (.int .i64 xP.id)).setCell ⟨g, p * 5 + 4, none⟩ (.int .i64 xP.qty)).drew g n sz (swapF (mvR f a K) K p)) := hR.swap K p hPn hQn xP xQ hxP hxQ
          have HK2 : Hid (Kp g w ((((((((((wr.setCell ⟨g, K * 5, none⟩ (.int .i64 xQ.num)).setCell ⟨g, K * 5 + 1, none⟩ (.int .i64 xQ.kind)).setCell ⟨g, K * 5 + 2, none⟩ (.int .i64 xQ.day)).setCell ⟨g, K * 5 + 3, none⟩ (.int .i64 xQ.id)).setCell ⟨g, K * 5 + 4, none⟩ (.int .i64 xQ.qty)).setCell ⟨g, p * 5, none⟩ (.int .i64 xP.num)).setCell ⟨g, p * 5 + 1, none⟩ (.int .i64 xP.kind)).setCell ⟨g, p * 5 + 2, none⟩ (.int .i64 xP.day)).setCell ⟨g, p * 5 + 3, none⟩ (.int .i64 xP.id)).setCell ⟨g, p * 5 + 4, none⟩ (.int .i64 xP.qty)).drew) := ((hK.setF K xQ).setF p xP).drew
          clear hR hK hxP hxQ 
          go_upto_region 11 with (fail)
          go_region
          generalize ((((((((((wr.setCell ⟨g, K * 5, none⟩ (.int .i64 xQ.num)).setCell ⟨g, K * 5 + 1, none⟩ (.int .i64 xQ.kind)).setCell ⟨g, K * 5 + 2, none⟩ (.int .i64 xQ.day)).setCell ⟨g, K * 5 + 3, none⟩ (.int .i64 xQ.id)).setCell ⟨g, K * 5 + 4, none⟩ (.int .i64 xQ.qty)).setCell ⟨g, p * 5, none⟩ (.int .i64 xP.num)).setCell ⟨g, p * 5 + 1, none⟩ (.int .i64 xP.kind)).setCell ⟨g, p * 5 + 2, none⟩ (.int .i64 xP.day)).setCell ⟨g, p * 5 + 3, none⟩ (.int .i64 xP.id)).setCell ⟨g, p * 5 + 4, none⟩ (.int .i64 xP.qty)).drew = W11 at *
          clear a0 a1 a2 a3 a4 b0 b1 b2 b3 b4 ez0 ez1 ez2 ez3 ez4 fz0 fz1 fz2 fz3 fz4
          clear u1
          go_wp2_with fail
          go_roundw
          case rel => exact ⟨p, by congr 1; omega, by omega, by omega, by rw [← HE.out]; exact HR2.out, HK2.out⟩
          case measure => simp [intOf]; omega
        · obtain rfl : K = I - 1 := by omega
          go_wp2
          go_end0
          exact ⟨rfl, _, HSS.out, HWW.out, hR, hK⟩

set_option maxRecDepth 100000 in
set_option maxHeartbeats 8000000 in
theorem symMerge_two (g n c sz : Nat) (f : Nat → Fct) (a m b : Nat) (w : World) (h : FRow w g n sz f) (ham : a + 1 < m) (hmb : m + 1 = b) (hb : b ≤ n) (hn : n ≤ 1000000) (hs : Srt a m f) :
    Calls Try.prog 72 #[.slice (some ⟨g, 0, none⟩) n c, .int .i64 a, .int .i64 m, .int .i64 b, .func (.func 53) #[] #[]] w (Sorts w g n sz a b f) := by
  have HSR := Lib.hid hs
  have hb1 : m + 1 ≤ b := by omega
  have hb2 : b ≤ m + 1 := by omega
  have b1 : ((m : Int) - (a : Int) == 1) = false := by simp; omega
  have b2 : ((b : Int) - (m : Int) == 1) = true := by simp; omega
  have HBM := Lib.hid hmb
  clear hs hmb
  go_enter Try.func72, Try.ntmps72
  go_wp2
  go_loopw [14, 15] (fun i j wx => ∃ I J : Nat, i = .int .i64 I ∧ j = .int .i64 J ∧ a ≤ I ∧ I ≤ J ∧ J ≤ m ∧ Hid (∀ q, a ≤ q → q < I → (f q).day ≤ (f m).day) ∧ Hid (∀ q, J ≤ q → q < m → (f m).day < (f q).day) ∧ FRow wx g n sz f ∧ Kp g w wx) (fun i j _ => (intOf j).toNat - (intOf i).toNat)
  case atStart => exact ⟨a, m, rfl, rfl, Nat.le_refl _, by omega, Nat.le_refl _, fun q h1 h2 => by omega, fun q h1 h2 => by omega, h, Kp.refl _ _⟩
  case round =>
    clear h
    obtain ⟨I, J, rfl, rfl, hI, hIJ, hJ, HA, HB, hR, hK⟩ := hrel
    by_cases hlt : I < J
    · go_upto_region 17 with (fail)
      obtain ⟨H, hH⟩ : ∃ q : Nat, ((I : Int) + (J : Int)) / 2 = (q : Int) := ⟨(I + J) / 2, by omega⟩
      have hH1 : I ≤ H := by omega
      have hH2 : H < J := by omega
      rw [hH]
      clear hH
      have hPn : m < n := by omega
      have hQn : H < n := by omega
      have hPi : (m : Int) < n := by omega
      have hQi : (H : Int) < n := by omega
      obtain ⟨xP, hxP⟩ : ∃ x, f m = x := ⟨_, rfl⟩
      obtain ⟨xQ, hxQ⟩ : ∃ x, f H = x := ⟨_, rfl⟩
      have HCJ := Lib.hid (fun w' hb => cells_over (w' := w') hR hb hPn)
      have HCP := Lib.hid (fun w' hb => cells_over (w' := w') hR hb hQn)
      rw [hxP] at HCJ
      rw [hxQ] at HCP
      obtain ⟨a0, a1, a2, a3, a4⟩ := hR.cells hPn
      obtain ⟨b0, b1, b2, b3, b4⟩ := hR.cells hQn
      rw [hxP] at a0 a1 a2 a3 a4
      rw [hxQ] at b0 b1 b2 b3 b4
      have HCM : Hid (∀ wx, RowKit.Below wr.heap.size wr wx → Calls Try.prog 53 #[.agg #[.int .i64 xP.num, .int .i64 xP.kind, .int .i64 xP.day, .int .i64 xP.id, .int .i64 xP.qty], .agg #[.int .i64 xQ.num, .int .i64 xQ.kind, .int .i64 xQ.day, .int .i64 xQ.id, .int .i64 xQ.qty]] wx (fun e w' => (∃ r : Int, e = .returned (.int .i64 r) ∧ (xP.day < xQ.day → r = -1) ∧ (xQ.day ≤ xP.day → 0 ≤ r)) ∧ RowKit.Below wr.heap.size wr w')) := fun wx hb => cmpDay_over xP xQ wr wx hb
      have HB0 : Hid (RowKit.Below wr.heap.size wr wr.drew) := (Below.refl _ _).drew
      have HRR := Lib.hid hR
      have HKK := Lib.hid hK
      obtain ⟨bb, hbb⟩ : ∃ b, decide ((f m).day < (f H).day) = b := ⟨_, rfl⟩
      have HBD := Lib.hid hbb
      rw [hxP, hxQ] at hbb
      have HBB := Lib.hid (fun r h => (cmp_test (r := r) h).trans hbb)
      clear hbb hxP hxQ hR hK
      go_cut [103] (fun v wx => v = .bool (!bb) ∧ RowKit.Below wr.heap.size wr wx)
      case first =>
        go_region_held3 (fun w' => w'.cell? ⟨g, m * 5, none⟩ = some (.int .i64 xP.num) ∧ w'.cell? ⟨g, m * 5 + 1, none⟩ = some (.int .i64 xP.kind) ∧ w'.cell? ⟨g, m * 5 + 2, none⟩ = some (.int .i64 xP.day) ∧ w'.cell? ⟨g, m * 5 + 3, none⟩ = some (.int .i64 xP.id) ∧ w'.cell? ⟨g, m * 5 + 4, none⟩ = some (.int .i64 xP.qty) ∧ w'.cell? ⟨g, H * 5, none⟩ = some (.int .i64 xQ.num) ∧ w'.cell? ⟨g, H * 5 + 1, none⟩ = some (.int .i64 xQ.kind) ∧ w'.cell? ⟨g, H * 5 + 2, none⟩ = some (.int .i64 xQ.day) ∧ w'.cell? ⟨g, H * 5 + 3, none⟩ = some (.int .i64 xQ.id) ∧ w'.cell? ⟨g, H * 5 + 4, none⟩ = some (.int .i64 xQ.qty))
          (first
            | go_keep
            | exact ⟨(HCJ.out _ hb5.out).1, (HCJ.out _ hb5.out).2.1, (HCJ.out _ hb5.out).2.2.1, (HCJ.out _ hb5.out).2.2.2.1, (HCJ.out _ hb5.out).2.2.2.2, (HCP.out _ hb5.out).1, (HCP.out _ hb5.out).2.1, (HCP.out _ hb5.out).2.2.1, (HCP.out _ hb5.out).2.2.2.1, (HCP.out _ hb5.out).2.2.2.2⟩)
          (first
            | (go_at_call 53; with_reducible (refine (HCM.out _ ?_).mono ?_); with_reducible (first | exact HB0.out | exact hb5.out); rintro e w5 ⟨⟨r, rfl, hr'⟩, hb5'⟩; have hb5 := Lib.hid hb5'; have hr := Lib.hid hr'; clear hb5' hr'))
        all_goals (go_wp2_with fail; go_meet; exact ⟨by rw [HBB.out r hr.out], hb5.out⟩)
      case rest =>
        obtain ⟨rfl, hb5⟩ := hcut
        have hR5 := HRR.out.keep hb5
        have hK5 := HKK.out.below hb5
        clear a0 a1 a2 a3 a4 b0 b1 b2 b3 b4 HCJ HCP HCM HB0 HRR HKK hb5 HBB
        cases bb
        case true =>
          have HB2 : Hid (∀ q, H ≤ q → q < m → (f m).day < (f q).day) := fun q h1 h2 => by
            have k1 := of_decide_eq_true HBD.out
            have k2 := HSR.out.le (i := H) (j := q) (by omega) (by omega) (by omega)
            omega
          clear HBD HB
          go_wp2_with fail
          go_roundw
          case rel => exact ⟨I, H, rfl, rfl, by omega, by omega, by omega, HA, HB2, hR5, hK5⟩
          case measure => simp [intOf]; omega
        case false =>
          have HA2 : Hid (∀ q, a ≤ q → q < H + 1 → (f q).day ≤ (f m).day) := fun q h1 h2 => by
            have k1 := of_decide_eq_false HBD.out
            have k2 := HSR.out.le (i := q) (j := H) (by omega) (by omega) (by omega)
            omega
          clear HBD HA
          go_wp2_with fail
          go_roundw
          case rel => exact ⟨H + 1, J, by go_num, rfl, by omega, by omega, hJ, HA2, HB, hR5, hK5⟩
          case measure => simp [intOf]; omega
    · obtain rfl : I = J := by omega
      have HSS := Lib.hid (mvL_srt (a := a) (m := m) (i := I) HSR.out (by omega) (by omega) HA.out HB.out)
      have HWW := Lib.hid (mvL_swaps f m (m - I) a b (by omega) (by omega) (by omega))
      rw [show m - (m - I) = I by omega] at HWW
      rw [HBM.out] at HSS
      clear HA HB
      go_wp2_with fail
      go_loopw [17] (fun k wx => ∃ K : Nat, k = .int .i64 K ∧ I ≤ K ∧ K ≤ m ∧ FRow wx g n sz (mvL f m K) ∧ Kp g w wx) (fun k _ => (intOf k).toNat)
      case atStart => exact ⟨m, rfl, by omega, by omega, by rw [mvL_zero]; exact hR, hK⟩
      case round =>
        clear hR hK
        obtain ⟨K, rfl, hK1, hK2, hR, hK⟩ := hrel
        by_cases hlt2 : I < K
        · obtain ⟨p, hp⟩ : ∃ p, K - 1 = p := ⟨_, rfl⟩
          have u1 : IntKind.i64.wrap ((K : Int) - 1) = (p : Int) := (IntWalk.i64_in _ (by omega)).trans (by omega)
          have HE := Lib.hid (mvL_succ f m K hK2 (by omega))
          rw [hp] at HE
          have hp1 : p + 1 ≤ K := by omega
          have hp2 : K ≤ p + 1 := by omega
          clear hp
          have n1 : K ≠ p := by omega
          have n2 : p ≠ K := by omega
          have n3 : K * 5 ≠ p * 5 := by omega
          have n4 : p * 5 ≠ K * 5 := by omega
          have hPn : K < n := by omega
          have hQn : p < n := by omega
          have hPi : (K : Int) < n := by omega
          have hQi : (p : Int) < n := by omega
          obtain ⟨xP, hxP⟩ : ∃ x, (mvL f m K) K = x := ⟨_, rfl⟩
          obtain ⟨xQ, hxQ⟩ : ∃ x, (mvL f m K) p = x := ⟨_, rfl⟩
          obtain ⟨a0, a1, a2, a3, a4⟩ := hR.cells hPn
          obtain ⟨b0, b1, b2, b3, b4⟩ := hR.cells hQn
          rw [hxP] at a0 a1 a2 a3 a4
          rw [hxQ] at b0 b1 b2 b3 b4
          have ez0 : wr.frozen? ⟨g, K * 5, none⟩ = false := hR.free _
          have ez1 : wr.frozen? ⟨g, K * 5 + 1, none⟩ = false := hR.free _
          have ez2 : wr.frozen? ⟨g, K * 5 + 2, none⟩ = false := hR.free _
          have ez3 : wr.frozen? ⟨g, K * 5 + 3, none⟩ = false := hR.free _
          have ez4 : wr.frozen? ⟨g, K * 5 + 4, none⟩ = false := hR.free _
          have fz0 : wr.frozen? ⟨g, p * 5, none⟩ = false := hR.free _
          have fz1 : wr.frozen? ⟨g, p * 5 + 1, none⟩ = false := hR.free _
          have fz2 : wr.frozen? ⟨g, p * 5 + 2, none⟩ = false := hR.free _
          have fz3 : wr.frozen? ⟨g, p * 5 + 3, none⟩ = false := hR.free _
          have fz4 : wr.frozen? ⟨g, p * 5 + 4, none⟩ = false := hR.free _
          have HR2 : Hid (FRow ((((((((((wr.setCell ⟨g, K * 5, none⟩ (.int .i64 xQ.num)).setCell ⟨g, K * 5 + 1, none⟩ (.int .i64 xQ.kind)).setCell ⟨g, K * 5 + 2, none⟩ (.int .i64 xQ.day)).setCell ⟨g, K * 5 + 3, none⟩ (.int .i64 xQ.id)).setCell ⟨g, K * 5 + 4, none⟩ (.int .i64 xQ.qty)).setCell ⟨g, p * 5, none⟩ (.int .i64 xP.num)).setCell ⟨g, p * 5 + 1, none⟩ (.int .i64 xP.kind)).setCell ⟨g, p * 5 + 2, none⟩ (.int .i64 xP.day)).setCell ⟨g, p * 5 + 3, none⟩ (.int .i64 xP.id)).setCell ⟨g, p * 5 + 4, none⟩ (.int .i64 xP.qty)).drew g n sz (swapF (mvL f m K) K p)) := hR.swap K p hPn hQn xP xQ hxP hxQ
          have HK2 : Hid (Kp g w ((((((((((wr.setCell ⟨g, K * 5, none⟩ (.int .i64 xQ.num)).setCell ⟨g, K * 5 + 1, none⟩ (.int .i64 xQ.kind)).setCell ⟨g, K * 5 + 2, none⟩ (.int .i64 xQ.day)).setCell ⟨g, K * 5 + 3, none⟩ (.int .i64 xQ.id)).setCell ⟨g, K * 5 + 4, none⟩ (.int .i64 xQ.qty)).setCell ⟨g, p * 5, none⟩ (.int .i64 xP.num)).setCell ⟨g, p * 5 + 1, none⟩ (.int .i64 xP.kind)).setCell ⟨g, p * 5 + 2, none⟩ (.int .i64 xP.day)).setCell ⟨g, p * 5 + 3, none⟩ (.int .i64 xP.id)).setCell ⟨g, p * 5 + 4, none⟩ (.int .i64 xP.qty)).drew) := ((hK.setF K xQ).setF p xP).drew
          clear hR hK hxP hxQ 
          go_upto_region 23 with (fail)
          go_region
          generalize ((((((((((wr.setCell ⟨g, K * 5, none⟩ (.int .i64 xQ.num)).setCell ⟨g, K * 5 + 1, none⟩ (.int .i64 xQ.kind)).setCell ⟨g, K * 5 + 2, none⟩ (.int .i64 xQ.day)).setCell ⟨g, K * 5 + 3, none⟩ (.int .i64 xQ.id)).setCell ⟨g, K * 5 + 4, none⟩ (.int .i64 xQ.qty)).setCell ⟨g, p * 5, none⟩ (.int .i64 xP.num)).setCell ⟨g, p * 5 + 1, none⟩ (.int .i64 xP.kind)).setCell ⟨g, p * 5 + 2, none⟩ (.int .i64 xP.day)).setCell ⟨g, p * 5 + 3, none⟩ (.int .i64 xP.id)).setCell ⟨g, p * 5 + 4, none⟩ (.int .i64 xP.qty)).drew = W11 at *
          clear a0 a1 a2 a3 a4 b0 b1 b2 b3 b4 ez0 ez1 ez2 ez3 ez4 fz0 fz1 fz2 fz3 fz4
          clear u1
          go_wp2_with fail
          go_roundw
          case rel => exact ⟨p, by congr 1; omega, by omega, by omega, by rw [← HE.out]; exact HR2.out, HK2.out⟩
          case measure => simp [intOf]; omega
        · obtain rfl : I = K := by omega
          go_wp2
          go_end0
          exact ⟨rfl, _, HSS.out, HWW.out, hR, hK⟩

end Go.Proofs.Ytemhiifgplaldaa

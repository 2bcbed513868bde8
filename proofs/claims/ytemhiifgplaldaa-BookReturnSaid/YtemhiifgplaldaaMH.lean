/-
  The contract of slices.stableCmpFunc and slices.SortStableFunc at facts: the row is sorted by the day and holds the same facts. No statement of the seat is proved here. Conditions: at most 1000 facts.
  The contracts of slices.SortStableFunc at facts and of quotabook.tranchesOf. No statement of the seat is proved here. Conditions: at most 1000 facts.
  The contract of quotabook.tranchesOf: the tranches in order of their days. No statement of the seat is proved here. Conditions: at most 1000 facts.
-/
import Derived.Test.YtemhiifgplaldaaMG
import Derived.Test.YtemhiifgplaldaaMD
namespace Go.Proofs.Ytemhiifgplaldaa
open Go.RowKit
set_option linter.unusedVariables false

theorem insSort_int (g n c sz : Nat) (f : Nat → Fct) (a b : Nat) (ai bi : Int) (ea : ai = a) (eb : bi = b) (w : World) (h : FRow w g n sz f) (hab : a ≤ b) (hb : b ≤ n) (hn : n ≤ 1000000) :
    Calls Try.prog 71 #[.slice (some ⟨g, 0, none⟩) n c, .int .i64 ai, .int .i64 bi, .func (.func 53) #[] #[]] w (Sorts w g n sz a b f) := by
  subst ea eb
  exact insSort_any g n c sz f a b w h hab hb hn
theorem symMerge_int (g n c sz : Nat) (f : Nat → Fct) (a m b : Nat) (ai mi bi : Int) (ea : ai = a) (em : mi = m) (eb : bi = b) (w : World) (h : FRow w g n sz f) (ham : a < m) (hmb : m < b) (hb : b ≤ n) (hn : n ≤ 1000000) (h1 : Srt a m f) (h2 : Srt m b f) :
    Calls Try.prog 72 #[.slice (some ⟨g, 0, none⟩) n c, .int .i64 ai, .int .i64 mi, .int .i64 bi, .func (.func 53) #[] #[]] w (Sorts w g n sz a b f) := by
  subst ea em eb
  exact symMerge_any g n c sz hn _ a m b f w (Nat.le_refl _) h ham hmb hb h1 h2
theorem bef_step {t n : Nat} {f f' : Nat → Fct} {bs A B : Nat} (h : Bef bs t n f) (hA : A = t * bs) (hB : B = A + bs) (hn : B ≤ n) (hs : Srt A B f') (hw : Swaps A B f f') : Bef bs (t + 1) n f' := by
  subst hA
  refine h.succ ?_ (fun k hk => hw.out k (.inl hk))
  rw [Nat.min_eq_left (by omega), ← hB]
  exact hs

set_option maxRecDepth 100000 in
set_option maxHeartbeats 8000000 in
theorem stable_any (g n c sz : Nat) (f : Nat → Fct) (w : World) (h : FRow w g n sz f) (hn : n ≤ 1000) :
    Calls Try.prog 58 #[.slice (some ⟨g, 0, none⟩) n c, .int .i64 n, .func (.func 53) #[] #[]] w (Sorts w g n sz 0 n f) := by
  go_enter Try.func58, Try.ntmps58
  go_wp2
  go_loopw [7, 8] (fun a b wx => ∃ (T A B : Nat) (f' : Nat → Fct), a = .int .i64 A ∧ b = .int .i64 B ∧ A ≤ n ∧ B ≤ A + 20 ∧ A + 20 ≤ B ∧ Hid (A = T * 20) ∧ Hid (Bef 20 T n f') ∧ Hid (Swaps 0 n f f') ∧ FRow wx g n sz f' ∧ Kp g w wx) (fun _ b _ => n + 20 - (intOf b).toNat)
  case atStart => exact ⟨0, 0, 20, f, rfl, rfl, Nat.zero_le _, by omega, by omega, rfl, Bef.zero _ _ _, .refl, h, Kp.refl _ _⟩
  case round =>
    clear h
    obtain ⟨T, A, B, f1, rfl, rfl, hA, hB1, hB2, HT, HBF, HSW, hR, hK⟩ := hrel
    by_cases hlt : B ≤ n
    · have HI := Lib.hid (insSort_int g n c sz f1 A B A B rfl rfl wr hR (by omega) hlt (by omega))
      clear hR
      go_wp2_with fail
      refine HI.out.mono ?_
      rintro e w1 ⟨rfl, f2, hs2, hw2, hR2, hK2⟩
      have HT2 : Hid (B = (T + 1) * 20) := by show _ = _; rw [Nat.succ_mul, ← HT.out]; omega
      have HB2 : Hid (Bef 20 (T + 1) n f2) := bef_step HBF.out HT.out (by omega) hlt hs2 hw2
      have HW2 : Hid (Swaps 0 n f f2) := HSW.out.trans (hw2.mono (Nat.zero_le _) hlt)
      clear hs2 hw2 HI HT HBF HSW
      go_wp2_with fail
      go_roundw
      case rel => exact ⟨T + 1, B, B + 20, f2, rfl, by go_num, hlt, by omega, by omega, HT2, HB2, HW2, hR2, hK.trans hK2⟩
      case measure => simp [intOf]; omega
    · have HI := Lib.hid (insSort_int g n c sz f1 A n A n rfl rfl wr hR hA (Nat.le_refl _) (by omega))
      clear hR
      go_wp2_with fail
      refine HI.out.mono ?_
      rintro e w1 ⟨rfl, f2, hs2, hw2, hR2, hK2⟩
      have HB2 : Hid (Blks 20 0 n f2) := by
        have h1 : Bef 20 (T + 1) n f2 := by
          refine HBF.out.succ ?_ (fun k hk => hw2.out k (.inl (by rw [HT.out]; exact hk)))
          rw [← HT.out, Nat.min_eq_right (by omega)]
          exact hs2
        exact h1.all (by rw [Nat.succ_mul, ← HT.out]; omega)
      have HW2 : Hid (Swaps 0 n f f2) := HSW.out.trans (hw2.mono (Nat.zero_le _) (Nat.le_refl _))
      have hK2 := hK.trans hK2
      clear hs2 hw2 HI HT HBF HSW hK
      go_wp2_with fail
      go_loopw [6] (fun bs wx => ∃ (K : Nat) (f' : Nat → Fct), bs = .int .i64 K ∧ 20 ≤ K ∧ K ≤ 2000 ∧ Hid (Blks K 0 n f') ∧ Hid (Swaps 0 n f f') ∧ FRow wx g n sz f' ∧ Kp g w wx) (fun bs _ => n - (intOf bs).toNat)
      case atStart => exact ⟨20, f2, rfl, by omega, by omega, HB2, HW2, hR2, hK2⟩
      case round =>
        clear HB2 HW2 hR2 hK2
        obtain ⟨K, f3, rfl, hK20, hK2k, HBL, HSW3, hR3, hK3⟩ := hrel
        by_cases hKn : K < n
        · obtain ⟨D, hD⟩ : ∃ d, 2 * K = d := ⟨_, rfl⟩
          have hDi : 2 * (K : Int) = (D : Int) := by omega
          have hD1 : 2 * K ≤ D := by omega
          have hD2 : D ≤ 2 * K := by omega
          have HDD := Lib.hid hD
          clear hD
          go_wp2_with fail
          (try rw [hDi])
          go_loopw [7, 8] (fun a b wx => ∃ (T A B : Nat) (f' : Nat → Fct), a = .int .i64 A ∧ b = .int .i64 B ∧ A ≤ n ∧ B ≤ A + D ∧ A + D ≤ B ∧ Hid (A = T * D) ∧ Hid (Bef D T n f') ∧ Hid (Blks K A n f') ∧ Hid (Swaps 0 n f f') ∧ FRow wx g n sz f' ∧ Kp g w wx) (fun _ b _ => n + 4000 - (intOf b).toNat)
          case atStart => exact ⟨0, 0, D, f3, rfl, rfl, Nat.zero_le _, by omega, by omega, by show _ = _; omega, Bef.zero _ _ _, HBL, HSW3, hR3, hK3⟩
          case round =>
            clear HBL HSW3 hR3 hK3
            obtain ⟨T, A, B, f4, rfl, rfl, hA, hB1, hB2, HT, HBF, HBK, HSW, hR, hK⟩ := hrel
            have HPR : Hid (Srt A (min (A + K) n) f4 ∧ Srt (A + K) (min (A + D) n) f4) := by
              have := HBK.out.pair (t := T) (by rw [HDD.out, ← HT.out]; exact Nat.le_refl _)
              rw [HDD.out, ← HT.out] at this
              exact this
            by_cases hlt : B ≤ n
            · have HI := Lib.hid (fun x ex => symMerge_int g n c sz f4 A (A + K) B A x B rfl ex rfl wr hR (by omega) (by omega) hlt (by omega) (by have := HPR.out.1; rwa [Nat.min_eq_left (by omega)] at this) (by have := HPR.out.2; rwa [Nat.min_eq_left (by omega), show A + D = B by omega] at this))
              clear hR
              go_wp2_with fail
              refine (HI.out _ (by omega)).mono ?_
              rintro e w1 ⟨rfl, f5, hs5, hw5, hR5, hK5⟩
              have HT2 : Hid (B = (T + 1) * D) := by show _ = _; rw [Nat.succ_mul, ← HT.out]; omega
              have HB2 : Hid (Bef D (T + 1) n f5) := bef_step HBF.out HT.out (by omega) hlt hs5 hw5
              have HK2 : Hid (Blks K B n f5) := HBK.out.keep (by omega) (fun k hk => hw5.out k (.inr hk))
              have HW2 : Hid (Swaps 0 n f f5) := HSW.out.trans (hw5.mono (Nat.zero_le _) hlt)
              clear hs5 hw5 HI HT HBF HSW HBK HPR
              go_wp2_with fail
              (try rw [hDi])
              go_roundw
              case rel => exact ⟨T + 1, B, B + D, f5, rfl, (by first | go_num | (congr 1; omega)), hlt, by omega, by omega, HT2, HB2, HK2, HW2, hR5, hK.trans hK5⟩
              case measure => simp [intOf]; omega
            · have HI := Lib.hid (fun x ex h1 => symMerge_int g n c sz f4 A (A + K) n A x n rfl ex rfl wr hR (by omega) h1 (Nat.le_refl _) (by omega) (by have := HPR.out.1; rwa [Nat.min_eq_left (by omega)] at this) (by have := HPR.out.2; rwa [Nat.min_eq_right (by omega)] at this))
              have HEND : Hid (∀ f', Srt A n f' → (∀ k, k < A → f' k = f4 k) → Blks (2 * K) 0 n f') := fun f' hs hk => by
                have h1 : Bef D (T + 1) n f' := by
                  refine HBF.out.succ ?_ (fun k hk' => hk k (by rw [HT.out]; exact hk'))
                  rw [← HT.out, Nat.min_eq_right (by omega)]
                  exact hs
                rw [HDD.out]
                exact h1.all (by rw [Nat.succ_mul, ← HT.out]; omega)
              by_cases hm : A + K < n
              · clear hR
                go_wp2_with fail
                refine (HI.out _ (by omega) hm).mono ?_
                rintro e w1 ⟨rfl, f5, hs5, hw5, hR5, hK5⟩
                have HB2 := Lib.hid (HEND.out f5 hs5 (fun k hk => hw5.out k (.inl hk)))
                have HW2 : Hid (Swaps 0 n f f5) := HSW.out.trans (hw5.mono (Nat.zero_le _) (Nat.le_refl _))
                clear hs5 hw5 HI HT HBF HSW HBK HPR HEND
                go_wp2_with fail
                go_roundw
                case rel => exact ⟨2 * K, f5, (by first | go_num | (congr 1; omega)), by omega, by omega, HB2, HW2, hR5, hK.trans hK5⟩
                case measure => simp [intOf]; omega
              · have HB2 := Lib.hid (HEND.out f4 (by have := HPR.out.1; rwa [Nat.min_eq_right (by omega)] at this) (fun k hk => rfl))
                clear HI HT HBF HBK HPR HEND
                go_wp2_with fail
                go_roundw
                case rel => exact ⟨2 * K, f4, (by first | go_num | (congr 1; omega)), by omega, by omega, HB2, HSW, hR, hK⟩
                case measure => simp [intOf]; omega
        · have HFIN := Lib.hid (HBL.out.whole (by omega))
          go_wp2
          go_end0
          exact ⟨rfl, f3, HFIN.out, HSW3.out, hR3, hK3⟩
end Go.Proofs.Ytemhiifgplaldaa

namespace Go.Proofs.Ytemhiifgplaldaa
open Go.RowKit
set_option linter.unusedVariables false

theorem infoF : (Try.prog.info? 39).map (fun i => (i.zero, i.size, i.bytes)) = some (some (.agg #[.int .i64 0, .int .i64 0, .int .i64 0, .int .i64 0, .int .i64 0]), 5, 40) := by kernel_rfl
/-- A row of the call's own as a row of facts. -/
theorem own_frow {w : World} {base n c : Nat} {A : Option Addr} {xs : List Fct} (h : w.ownsRow base 39 5 (.slice A n c) n (flat encF xs)) (hl : xs.length = n) (hn : 0 < n) :
    ∃ g, A = some ⟨g, 0, none⟩ ∧ base ≤ g ∧ FRow w g n (c * 5) (fun i => xs[i]!) ∧ n ≤ c ∧ c ≤ maxLen := by
  rcases h.2 with ⟨_, h0⟩ | ⟨g, cap, cur, hv, hb, hh, h1, h2, h3, h4⟩
  · omega
  · injection hv with e1 e2 e3
    subst e3
    refine ⟨g, e1, hb, ⟨cur, hh, h3, fun j hj k hk => ?_⟩, h1, h2⟩
    have := flat_get encF_len xs j k (by omega) hk
    rw [← h4, List.getElem?_take, if_pos (by omega), Array.getElem?_toList] at this
    exact this
theorem frow_own {w : World} {base g n c : Nat} {f : Nat → Fct} (h : FRow w g n (c * 5) f) (hb : base ≤ g) (hn : n ≤ c) (hc : c ≤ maxLen) : w.ownsRow base 39 5 (.slice (some ⟨g, 0, none⟩) n c) n (flat encF ((List.range n).map f)) := by
  obtain ⟨arr, h1, h2, h3⟩ := h
  have hfl := flat_length encF_len ((List.range n).map f)
  rw [List.length_map, List.length_range] at hfl
  refine ⟨hfl, .inr ⟨g, c, arr, rfl, hb, h1, hn, hc, h2, ?_⟩⟩
  apply List.ext_getElem?
  intro i
  rw [List.getElem?_take]
  by_cases hi : i < n * 5
  · have e1 : i / 5 * 5 + i % 5 = i := by omega
    have hj : i / 5 < n := by omega
    have hc : i % 5 < 5 := by omega
    have h1 := h3 (i / 5) hj (i % 5) hc
    have h2 := flat_get encF_len ((List.range n).map f) (i / 5) (i % 5) (by simpa using hj) hc
    rw [e1] at h1 h2
    rw [if_pos hi, Array.getElem?_toList, h1, h2]
    congr 2
    simp [hj]
  · rw [if_neg hi, List.getElem?_eq_none (by omega)]
theorem range_get (xs : List Fct) (n : Nat) (h : xs.length = n) : (List.range n).map (fun i => xs[i]!) = xs := by
  apply List.ext_getElem
  · simp [h]
  · intro i h1 h2
    rw [List.getElem_map, List.getElem_range, getElem!_pos xs i h2]
theorem get_range (f : Nat → Fct) (n i : Nat) (h : i < n) : ((List.range n).map f)[i]! = f i := by
  rw [getElem!_pos _ i (by simpa using h), List.getElem_map, List.getElem_range]

/-! ### No element -/
set_option maxHeartbeats 1000000 in
theorem insSort_none (A : Option Addr) (c : Nat) (fv : Value) (w : World) : Calls Try.prog 71 #[.slice A 0 c, .int .i64 0, .int .i64 0, fv] w fun e w' => e = .returned (.tuple #[]) ∧ w = w' := by
  go_enter Try.func71, Try.ntmps71
  go_wp2
  refine wp_loop_rounds 1 ?_
  rw [rounds_succ]
  go_wp2
  go_end0
  exact ⟨rfl, rfl⟩
set_option maxHeartbeats 1000000 in
theorem stable_none (A : Option Addr) (c : Nat) (fv : Value) (w : World) : Calls Try.prog 58 #[.slice A 0 c, .int .i64 0, fv] w fun e w' => e = .returned (.tuple #[]) ∧ w = w' := by
  go_enter Try.func58, Try.ntmps58
  go_wp2
  refine wp_loop_rounds 1 ?_
  rw [rounds_succ]
  go_wp2_with fail
  refine (insSort_none A c fv w).mono ?_
  rintro e w1 ⟨rfl, rfl⟩
  go_wp2
  refine wp_loop_rounds 1 ?_
  rw [rounds_succ]
  go_wp2
  go_end0
  exact ⟨rfl, rfl⟩

/-- Facts in order of their days. -/
def ByDay (ys : List Fct) : Prop := ∀ i j, i < j → j < ys.length → ys[i]!.day ≤ ys[j]!.day
/-- What the stable sort of a row of the call's own leaves. -/
def StabRes (w : World) (base : Nat) (v : Value) (n : Nat) (xs : List Fct) (e : Ending) (w' : World) : Prop := e = .returned (.tuple #[]) ∧ ∃ ys, ys.Perm xs ∧ ByDay ys ∧ w'.ownsRow base 39 5 v n (flat encF ys) ∧ RowKit.Below base w w'

set_option maxHeartbeats 1000000 in
theorem sortStable_any (A : Option Addr) (n c base : Nat) (xs : List Fct) (w : World) (h : w.ownsRow base 39 5 (.slice A n c) n (flat encF xs)) (hl : xs.length = n) (hn : n ≤ 1000) (hb : base ≤ w.heap.size) :
    Calls Try.prog 52 #[.slice A n c, .func (.func 53) #[] #[]] w (StabRes w base (.slice A n c) n xs) := by
  have HL := Lib.hid hl
  by_cases h0 : n = 0
  · subst h0
    obtain rfl : xs = [] := List.eq_nil_of_length_eq_zero hl
    have HO := Lib.hid h
    clear h hl
    go_enter Try.func52, Try.ntmps52
    go_wp2_with fail
    refine (stable_none A c _ w).mono ?_
    rintro e w1 ⟨rfl, rfl⟩
    go_wp2
    go_end0
    exact ⟨rfl, [], List.Perm.refl _, fun i j h1 h2 => absurd h2 (by simp), HO.out, Below.refl _ _⟩
  · obtain ⟨g, rfl, hg, hF, hc1, hc2⟩ := own_frow h hl (by omega)
    have HM := Lib.hid hc2
    have HS := Lib.hid (stable_any g n c (c * 5) _ w hF hn)
    clear h hl hF hc2
    go_enter Try.func52, Try.ntmps52
    go_wp2_with fail
    refine HS.out.mono ?_
    rintro e w1 ⟨rfl, f', hs, hw, hR, hK⟩
    have HO := Lib.hid (frow_own (base := base) hR hg hc1 HM.out)
    have HP : Hid (((List.range n).map f').Perm xs) := by
      have := hw.perm
      rw [range_get xs n HL.out] at this
      exact this
    have HD : Hid (ByDay ((List.range n).map f')) := fun i j h1 h2 => by
      rw [List.length_map, List.length_range] at h2
      rw [get_range _ _ _ (by omega), get_range _ _ _ h2]
      exact hs i j (Nat.zero_le _) h1 h2
    have HB : Hid (RowKit.Below base w w1) := hK.under (Below.refl _ _) hb hg
    clear hs hw hR hK HS
    go_wp2
    go_end0
    exact ⟨rfl, _, HP.out, HD.out, HO.out, HB.out⟩
end Go.Proofs.Ytemhiifgplaldaa

namespace Go.Proofs.Ytemhiifgplaldaa
open Go.RowKit
set_option linter.unusedVariables false

theorem Recs.getF {w : World} {A : Option Addr} {n : Nat} {xs : List Fct} (h : Recs encF 5 w A n xs) {i : Nat} (hi : i < n) :
    ∃ b off x, A = some ⟨b, off, none⟩ ∧ b < w.heap.size ∧ w.cell? ⟨b, off + i * 5, none⟩ = some (.int .i64 x.num) ∧ w.cell? ⟨b, off + i * 5 + 1, none⟩ = some (.int .i64 x.kind) ∧ w.cell? ⟨b, off + i * 5 + 2, none⟩ = some (.int .i64 x.day) ∧ w.cell? ⟨b, off + i * 5 + 3, none⟩ = some (.int .i64 x.id) ∧ w.cell? ⟨b, off + i * 5 + 4, none⟩ = some (.int .i64 x.qty) ∧ Hid (xs[i]! = x) := by
  obtain ⟨b, off, e, hlt, hc⟩ := h.at_ hi
  exact ⟨b, off, xs[i]!, e, hlt, hc 0 (by omega), hc 1 (by omega), hc 2 (by omega), hc 3 (by omega), hc 4 (by omega), rfl⟩
def trOf (fs : List Fct) : List Fct := fs.filter (fun f => f.kind == 4)
theorem take_succ_get (fs : List Fct) (k : Nat) (hk : k < fs.length) : fs.take (k + 1) = fs.take k ++ [fs[k]!] := by
  rw [List.take_succ_eq_append_getElem hk, getElem!_pos fs k hk]
theorem trOf_step (fs : List Fct) (k : Nat) (hk : k < fs.length) {x : Fct} (e : fs[k]! = x) : trOf (fs.take (k + 1)) = if x.kind == 4 then trOf (fs.take k) ++ [x] else trOf (fs.take k) := by
  rw [take_succ_get fs k hk, e]
  unfold trOf
  rw [List.filter_append]
  by_cases h : (x.kind == 4) = true
  · rw [if_pos h]; simp [h]
  · rw [if_neg h]; simp [h]
theorem trOf_len (fs : List Fct) : (trOf fs).length ≤ fs.length := List.length_filter_le _ _
theorem own_nilF (w : World) (b : Nat) : w.ownsRow b 39 5 (.slice none 0 0) 0 (flat encF []) := ⟨by simp [flat], .inl ⟨rfl, rfl⟩⟩
/-- What tranchesOf returns. -/
def TrRes (w : World) (fs : List Fct) (e : Ending) (w' : World) : Prop := ∃ (B : Option Addr) (m d : Nat) (ys : List Fct), e = .returned (.slice B m d) ∧ ys.Perm (trOf fs) ∧ ByDay ys ∧ ys.length = m ∧ m ≤ fs.length ∧ w'.ownsRow w.heap.size 39 5 (.slice B m d) m (flat encF ys) ∧ RowKit.Below w.heap.size w w'

set_option maxRecDepth 100000 in
set_option maxHeartbeats 4000000 in
theorem tranchesOf_any (A : Option Addr) (n c : Nat) (fs : List Fct) (w : World) (h : Recs encF 5 w A n fs) (hn : n ≤ 1000) :
    Calls Try.prog 45 #[.slice A n c] w (TrRes w fs) := by
  have HL := Lib.hid h.1
  go_enter Try.func45, Try.ntmps45
  go_wp2
  go_loopw [3, 8] (fun t i wx => ∃ (k : Nat) (B : Option Addr) (m d : Nat), k ≤ n ∧ i = .int .i64 k ∧ t = .slice B m d ∧ Hid ((trOf (fs.take k)).length = m) ∧ m ≤ k ∧ wx.ownsRow w.heap.size 39 5 (.slice B m d) m (flat encF (trOf (fs.take k))) ∧ RowKit.Below w.heap.size w wx) (fun _ i _ => n - (intOf i).toNat)
  case atStart => exact ⟨0, none, 0, 0, Nat.zero_le _, rfl, rfl, rfl, Nat.le_refl _, own_nilF _ _, Below.refl _ _⟩
  case round =>
    obtain ⟨k, B, m, d, hk, rfl, rfl, HM, hmk, ho, hb⟩ := hrel
    by_cases hlt : k < n
    · obtain ⟨b, off, x, hA, hbl, c0, c1, c2, c3, c4, HX⟩ := (h.below hb).getF hlt
      subst hA
      have HST := Lib.hid (trOf_step fs k (by have := HL.out; omega) HX.out)
      have HO4 := Lib.hid (own_alloc ho (.cells #[.int .i64 x.num, .int .i64 x.kind, .int .i64 x.day, .int .i64 x.id, .int .i64 x.qty] 39))
      have hb4 : RowKit.Below w.heap.size w (wr.alloc (.cells #[.int .i64 x.num, .int .i64 x.kind, .int .i64 x.day, .int .i64 x.id, .int .i64 x.qty] 39)) := hb.alloc hb.size _
      have hx4 := Bl.new wr 39 #[.int .i64 x.num, .int .i64 x.kind, .int .i64 x.day, .int .i64 x.id, .int .i64 x.qty]
      clear ho
      go_upto_region 5 with (fail)
      clear c0 c1 c2 c3 c4
      have hgw := hb.size
      generalize wr.alloc (.cells #[.int .i64 x.num, .int .i64 x.kind, .int .i64 x.day, .int .i64 x.id, .int .i64 x.qty] 39) = W4 at *
      generalize wr.heap.size = g4 at *
      have q0 : W4.cell? ⟨g4, 0, none⟩ = some (.int .i64 x.num) := hx4.cell 0
      have q1 : W4.cell? ⟨g4, 1, none⟩ = some (.int .i64 x.kind) := hx4.cell 1
      have q2 : W4.cell? ⟨g4, 2, none⟩ = some (.int .i64 x.day) := hx4.cell 2
      have q3 : W4.cell? ⟨g4, 3, none⟩ = some (.int .i64 x.id) := hx4.cell 3
      have q4 : W4.cell? ⟨g4, 4, none⟩ = some (.int .i64 x.qty) := hx4.cell 4
      by_cases g : x.kind = 4
      · have b1 : (x.kind == 4) = true := by simpa using g
        rw [b1, if_pos rfl] at HST
        clear g hb
        have HOE := Lib.hid (own_alloc HO4.out (.cells #[.int .i64 x.num, .int .i64 x.kind, .int .i64 x.day, .int .i64 x.id, .int .i64 x.qty] 39))
        have HRD : Hid (Rd (W4.alloc (.cells #[.int .i64 x.num, .int .i64 x.kind, .int .i64 x.day, .int .i64 x.id, .int .i64 x.qty] 39)) 5 (some ⟨W4.heap.size, 0, none⟩) 1 (encF x)) := rd_new W4 39 (encF x)
        have HON : Hid (∀ u ∈ encF x, u.oneCell' = true) := encF_one x
        have HM1 : Hid (m + 1 ≤ maxLen ∧ (m + 1) * 40 ≤ 140737488355328) := ⟨by unfold maxLen; omega, by omega⟩
        have HBA : Hid (RowKit.Below w.heap.size w (W4.alloc (.cells #[.int .i64 x.num, .int .i64 x.kind, .int .i64 x.day, .int .i64 x.id, .int .i64 x.qty] 39))) := hb4.alloc hb4.size _
        have HOB := Lib.hid (fun j hj => own_base HO4.out j hj)
        go_wp2_with (at_builtin; refine wpList_append_rd _ rfl (.tmp 15) (.tmp 17) 24 rfl w.heap.size 39 _ 5 40 Try.underlying24 infoF rfl (by decide) (.slice B m d) m (flat encF (trOf (fs.take k))) rfl HOE.out (some ⟨W4.heap.size, 0, none⟩) 1 _ (encF x) rfl HRD.out HON.out HM1.out.1 HM1.out.2 HBA.out.size ?_; intro v6 w6 ho6 hg6 _; obtain ⟨B6, d6, rfl⟩ := own_slice ho6)
        have HB6 : Hid (RowKit.Below w.heap.size w w6) := HBA.out.grown hg6 HBA.out.size (fun j hj => HOB.out j hj)
        have HO6 : Hid (w6.ownsRow w.heap.size 39 5 (.slice B6 (m + 1) d6) (m + 1) (flat encF (trOf (fs.take (k + 1))))) := by
          show World.ownsRow _ _ _ _ _ _ _
          rw [HST.out, flat_append, flat_one]
          exact ho6
        have HM6 : Hid ((trOf (fs.take (k + 1))).length = m + 1) := by
          show _ = _
          rw [HST.out, List.length_append, HM.out]
          rfl
        clear ho6 hg6
        go_roundw
        case rel => exact ⟨k + 1, B6, m + 1, d6, by omega, by go_num, rfl, HM6, by omega, HO6.out, HB6.out⟩
        case measure => simp [intOf]; omega
      · have b1 : (x.kind == 4) = false := by simpa using g
        rw [b1, if_neg (by simp)] at HST
        clear g hb
        go_wp2_with fail
        go_roundw
        case rel => exact ⟨k + 1, B, m, d, by omega, by go_num, rfl, by show _ = _; rw [HST.out, HM.out], by omega, by rw [HST.out]; exact HO4.out, hb4⟩
        case measure => simp [intOf]; omega
    · obtain rfl : n = k := by omega
      rw [List.take_of_length_le (by have := HL.out; omega)] at ho HM
      have HS := Lib.hid (sortStable_any B m d w.heap.size _ wr ho HM.out (by omega) hb.size)
      have HTL := Lib.hid (trOf_len fs)
      clear ho
      go_wp2_with fail
      refine HS.out.mono ?_
      rintro e w1 ⟨rfl, ys, hp, hd, ho1, hb1⟩
      have HP := Lib.hid hp
      have HD := Lib.hid hd
      have HB1 := Lib.hid (hb.trans hb1)
      have HO1 := Lib.hid ho1
      clear hp hd ho1 hb1 HS
      go_wp2
      go_ret
      exact ⟨B, m, d, ys, rfl, HP.out, HD.out, by rw [HP.out.length_eq, HM.out], by rw [← HM.out]; exact HTL.out, HO1.out, HB1.out⟩
end Go.Proofs.Ytemhiifgplaldaa

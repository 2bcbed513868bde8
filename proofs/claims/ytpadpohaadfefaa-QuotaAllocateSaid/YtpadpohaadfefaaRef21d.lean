/-
  Contract of the reference's Allocate (customsref21): a grant for each request and what is left, or an error. No statement of the seat is proved here. Conditions: the list's length fits an int.
-/
import Derived.Test.YtpadpohaadfefaaRef21c
import Derived.Test.YtpadpohaadfefaaLaw21b
import Derived.Deep.RegionHeld3
import Derived.Deep.AppendLies
namespace Go.Proofs.Ytpadpohaadfefaa
open Go.RowKit
set_option linter.unusedVariables false

theorem take_snoc_get (xs : List Int) (k : Nat) (h : k < xs.length) : (xs.take (k + 1)).map (Value.int .i64) = (xs.take k).map (Value.int .i64) ++ [Value.int .i64 (xs.getD k 0)] := by
  rw [List.take_succ_eq_append_getElem h, List.map_append]
  simp [List.getD, List.getElem?_eq_getElem h]

theorem grants_take_succ (t : Int) (xs : List (Int × Int)) (k : Nat) (h : k < xs.length) : flat enc2 ((grantsOf t xs).take (k + 1)) = flat enc2 ((grantsOf t xs).take k) ++ enc2 (xs[k]!.1, grantV t xs k) := by
  have hg := grant_get t xs k h
  rw [getElem!_pos _ k (by rw [grantsOf_len]; exact h)] at hg
  rw [List.take_succ_eq_append_getElem (by rw [grantsOf_len]; exact h), flat_append, flat_one, hg]

set_option maxRecDepth 100000 in
set_option maxHeartbeats 4000000 in
theorem ralloc_any (t : Int) (A : Option Addr) (n c : Nat) (xs : List (Int × Int)) (w : World) (h : Recs enc2 2 w A n xs) (hm : n ≤ 9223372036854775807) :
    Calls Try.prog 31 #[.int .i64 t, .slice A n c] w (AllocRes w 47 (allocOut t xs) (allocLeft t xs) (allocErr t xs)) := by
  by_cases h1 : t < 0
  · have E : allocErr t xs = 2 := by unfold allocErr; rw [if_pos (by omega)]
    unfold allocOut allocLeft
    rw [E, if_neg (by omega), if_neg (by omega)]
    clear E
    have d1 : decide (t < 0) = true := by simpa using h1
    go_enter Try.func31, Try.ntmps31
    go_wp2
    go_ret3
    exact ⟨_, _, _, rfl, rfl, own_nil2 _ _ _, Below.refl _ _⟩
  have d1 : decide (t < 0) = false := by simpa using h1
  by_cases h2 : 1000000000000 < t
  · have E : allocErr t xs = 2 := by unfold allocErr; rw [if_pos (by omega)]
    unfold allocOut allocLeft
    rw [E, if_neg (by omega), if_neg (by omega)]
    clear E
    have d2 : decide (1000000000000 < t) = true := by simpa using h2
    go_enter Try.func31, Try.ntmps31
    go_wp2
    go_ret3
    exact ⟨_, _, _, rfl, rfl, own_nil2 _ _ _, Below.refl _ _⟩
  have d2 : decide (1000000000000 < t) = false := by simpa using h2
  have E : allocErr t xs = vErr xs := by unfold allocErr; rw [if_neg (by omega)]
  have HV := Lib.hid (rvalid_any A n c xs w h hm)
  by_cases h3 : vErr xs = 0
  · obtain ⟨v1, v2, v3⟩ := vErr_zero h3
    unfold allocOut allocLeft
    rw [E, h3, if_pos rfl, if_pos rfl]
    rw [h3] at HV
    have hl := h.1
    have hq : ∀ i : Nat, 0 ≤ (qsOf xs).getD i 0 ∧ (qsOf xs).getD i 0 ≤ 1000000000 := qs_in v2
    have HQ := Lib.hid hq
    have HL := Lib.hid hl
    have hn : n ≤ 200 := by omega
    clear E h3 v1 v2 v3 hq hl
    go_enter Try.func31, Try.ntmps31
    go_wp2_with fail
    refine HV.out.mono ?_
    rintro e w1 ⟨rfl, hb1⟩
    have h' := h.below hb1
    go_wp2
    go_loopw [8, 9, 10] (fun s v i wr => ∃ k : Nat, k ≤ n ∧ i = .int .i64 k ∧ s = .int .i64 ((qsOf xs).take k).sum ∧ wr.ownsRow w1.heap.size 3 1 v k (((qsOf xs).take k).map (Value.int .i64)) ∧ RowKit.Below w1.heap.size w1 wr) (fun _ _ i _ => n - (intOf i).toNat)
    case atStart => exact ⟨0, Nat.zero_le _, rfl, by simp, ⟨rfl, .inl ⟨rfl, rfl⟩⟩, Below.refl _ _⟩
    case round =>
      obtain ⟨k, hk, rfl, rfl, hown, hbel⟩ := hrel
      by_cases hlt : k < n
      · obtain ⟨b, off, x, y, hA, hbl, hc1, hc2, HX⟩ := h'.get2 hlt
        subst hA
        have hc3 : wr.cell? ⟨b, off + k * 2 + 1, none⟩ = some (.int .i64 y) := (hbel.cell (p := ⟨b, off + k * 2 + 1, none⟩) hbl).trans hc2
        have hy : (qsOf xs).getD k 0 = y := by rw [qsOf_get xs k (by have := HL.out; omega), HX.out]
        have hbs := sum_take_bound (qsOf xs) 1000000000 HQ.out k (by rw [qsOf_len]; have := HL.out; omega)
        have hb0 := HQ.out k
        have HSS := Lib.hid (sum_take_succ (qsOf xs) k (by rw [qsOf_len]; have := HL.out; omega))
        have HTS := Lib.hid (take_snoc_get (qsOf xs) k (by rw [qsOf_len]; have := HL.out; omega))
        rw [hy] at hb0 HSS HTS
        have hsz := hbel.size
        have HOW := Lib.hid (own_alloc hown (.cells #[.int .i64 y] 3))
        have HRD : Hid (Rd (wr.alloc (.cells #[.int .i64 y] 3)) 1 (some ⟨wr.heap.size, 0, none⟩) 1 [.int .i64 y]) := rd_new wr _ _
        have HSZ : Hid (w1.heap.size ≤ (wr.alloc (.cells #[.int .i64 y] 3)).heap.size) := by show _ ≤ _; simp; omega
        generalize ((qsOf xs).take k).sum = s at *
        clear hy hc1 hc2 hown
        go_wp2_with (at_builtin; refine wpList_append_rd _ rfl (.tmp 38) (.tmp 44) 22 rfl w1.heap.size 3 _ 1 8 Try.underlying22 infoI rfl (by decide) u9 k (((qsOf xs).take k).map (Value.int .i64)) rfl HOW.out (some ⟨wr.heap.size, 0, none⟩) 1 1 [.int .i64 y] rfl HRD.out (one_ints _ [y]) (by unfold maxLen; omega) (by omega) HSZ.out ?_; intro v4 w4 ho4 hg4 hat4)
        go_roundw
        case rel => exact ⟨k + 1, by omega, by go_num, by rw [HSS.out], by rw [HTS.out]; exact ho4, (hbel.alloc hsz _).grown hg4 HSZ.out (fun g hg => own_base HOW.out g hg)⟩
        case measure => simp [intOf]; omega
      · obtain rfl : k = n := by omega
        rw [List.take_of_length_le (by rw [qsOf_len]; have := HL.out; omega)] at hown ⊢
        have hS := sum_take_bound (qsOf xs) 1000000000 HQ.out (qsOf xs).length (Nat.le_refl _)
        rw [List.take_length, qsOf_len, HL.out] at hS
        obtain ⟨A2, c2, hv⟩ := own_slice hown
        rw [hv] at hown ⊢
        clear hv
        have hIq : Ints wr A2 k (qsOf xs) := IntsK.of_own hown
        have hb := hb1.trans (hbel.mono hb1.size)
        have hx := h'.below hbel
        clear hown
        obtain ⟨S, hSe⟩ : ∃ S, (qsOf xs).sum = S := ⟨_, rfl⟩
        rw [hSe] at hS ⊢
        have HSE := Lib.hid hSe
        clear hSe
        go_upto_if 50 with (fail)
        go_cut [9, 11] (fun g l wx => ∃ (A2 : Option Addr) (c2 : Nat) (G : List Int) (lv : Int), g = .slice A2 k c2 ∧ l = .int .i64 lv ∧ Ints wx A2 k G ∧ Hid (lv = max (t - S) 0 ∧ ∀ i, i < k → G.getD i 0 = grantV t xs i) ∧ RowKit.Below w.heap.size w wx ∧ Recs enc2 2 wx A k xs)
        case first =>
          by_cases hle : S ≤ t
          · go_wp2_with fail
            go_meet
            exact ⟨_, _, qsOf xs, _, rfl, rfl, hIq, ⟨by omega, fun i hi => by unfold grantV; rw [HSE.out, if_pos hle, qsOf_get xs i (by have := HL.out; omega)]⟩, hb, hx⟩
          · go_wp2_with fail
            refine (r21share_any t A2 k c2 (qsOf xs) _ hIq (by omega) (by omega) (by rw [HSE.out]; omega) (by omega) (fun i => by have := HQ.out i; omega)).mono ?_
            rintro e w3 ⟨A3, c3, rfl, ho3, hb3⟩
            have hI3 := IntsK.of_own ho3
            clear ho3
            go_wp2_with fail
            go_meet
            exact ⟨_, _, shareL t (qsOf xs), _, rfl, rfl, hI3, ⟨by omega, fun i hi => by unfold grantV; rw [HSE.out, if_neg (by omega), shareL_get t (qsOf xs) i (by rw [qsOf_len]; have := HL.out; omega)]⟩, hb.trans (hb3.mono hb.size), hx.below hb3⟩
        case rest =>
          clear hIq hb hx
          obtain ⟨A2, c2, G, lv, rfl, rfl, hIG, HG, hbx, hx⟩ := hcut
          go_wp2
          go_loopw [12, 13] (fun v i wr => ∃ p : Nat, p ≤ k ∧ i = .int .i64 p ∧ wr.ownsRow wc.heap.size 47 2 v p (flat enc2 ((grantsOf t xs).take p)) ∧ RowKit.Below wc.heap.size wc wr) (fun _ i _ => k - (intOf i).toNat)
          case atStart => exact ⟨0, Nat.zero_le _, rfl, ⟨rfl, .inl ⟨rfl, rfl⟩⟩, Below.refl _ _⟩
          case round =>
            obtain ⟨p, hp, rfl, hown, hbel2⟩ := hrel
            by_cases hlt2 : p < k
            · obtain ⟨b, off, x, y, hA, hbl, hc1, hc2, HX⟩ := hx.get2 hlt2
              subst hA
              obtain ⟨b2, off2, gv, hA2, hbl2, hc3, HX2⟩ := hIG.get hlt2
              subst hA2
              have e1 : wr.cell? ⟨b, off + p * 2, none⟩ = some (.int .i64 x) := (hbel2.cell (p := ⟨b, off + p * 2, none⟩) hbl).trans hc1
              have e2 : wr.cell? ⟨b2, off2 + p, none⟩ = some (.int .i64 gv) := (hbel2.cell (p := ⟨b2, off2 + p, none⟩) hbl2).trans hc3
              have hgv : grantV t xs p = gv := by rw [← HG.out.2 p hlt2, HX2.out]
              have HTS := Lib.hid (grants_take_succ t xs p (by have := HL.out; omega))
              rw [HX.out, hgv] at HTS
              have hsz := hbel2.size
              have i1 : (0 : Int) ≤ (p : Int) := by omega
              have i2 : (p : Int) < (k : Int) := by omega
              clear hc1 hc2 hc3 hgv
              go_wp2
              have ne1 : u12.ownBlock ≠ some b := fun e => by have := own_base hown b e; omega
              have ne2 : u12.ownBlock ≠ some b2 := fun e => by have := own_base hown b2 e; omega
              have hpl : p + 1 ≤ 200 := by omega
              obtain ⟨i0, hi0, hz0, hz1, hz2⟩ := info_parts infoG
              have HBA := Lib.hid (own_base hown)
              have HOW := Lib.hid ((own_alloc hown (.cells #[.int .i64 x, .int .i64 gv] 47)))
              go_region_held3 (fun w' => w'.cell? ⟨b, off + p * 2, none⟩ = some (.int .i64 x) ∧ w'.cell? ⟨b2, off2 + p, none⟩ = some (.int .i64 gv))
                (first
                  | go_keep
                  | (go_split_ands
                     refine ⟨?_, ?_⟩
                     · (rw [hg4.cell_far _ (by simp; omega) (Ne.symm ne1)]; assumption)
                     · (rw [hg4.cell_far _ (by simp; omega) (Ne.symm ne2)]; assumption)))
                ((refine step_append_lies _ (by rfl) _ _ _ (by rfl) wc.heap.size 47 i0 _ 2 16 Try.underlying39 hi0 hz0 hz1 hz2 rfl (by omega) u12 p (flat enc2 ((grantsOf t xs).take p)) (by rfl) HOW.out
                    ⟨wr.heap.size, 0, none⟩ 1 1 [.int .i64 x, .int .i64 gv] (by rfl) (by rfl) (World.news_of_block (cs := #[.int .i64 x, .int .i64 gv]) (t := 47) (fr := (0, 0)) (heap_alloc_new wr _)) (by simp [Value.oneCell'])
                    (by omega) (by unfold maxLen; omega) (by omega) (by simp; omega) (wr.heap.size + 1) (by simp) ?_; intro g4 cap4 w4 ho4 hg4 hat4 hlt4))
              clear HOW
              go_wp2
              go_roundw
              case rel => exact ⟨p + 1, by omega, by go_num, by rw [HTS.out]; exact ho4, ((hbel2.alloc hsz _).drew).grown hg4 (by simp; omega) (fun g hg => HBA.out g hg)⟩
              case measure => simp [intOf]; omega
            · obtain rfl : p = k := by omega
              obtain ⟨A4, c4, hv⟩ := own_slice hown
              rw [hv] at hown ⊢
              clear hv
              rw [List.take_of_length_le (by rw [grantsOf_len]; have := HL.out; omega)] at hown
              have how := own_mono hown hbx.size
              go_wp2
              go_ret3
              rw [HSE.out, ← HG.out.1]
              exact ⟨_, _, _, rfl, by rw [grantsOf_len]; exact HL.out, how, hbx.trans (hbel2.mono hbx.size)⟩
  · unfold allocOut allocLeft
    rw [E, if_neg h3, if_neg h3]
    have b1 : (vErr xs != 0) = true := by simpa using h3
    clear E h3
    generalize vErr xs = er at *
    go_enter Try.func31, Try.ntmps31
    go_wp2_with fail
    refine HV.out.mono ?_
    rintro e w1 ⟨rfl, hb1⟩
    go_wp2
    go_ret3
    exact ⟨_, _, _, rfl, rfl, own_nil2 _ _ _, hb1⟩
end Go.Proofs.Ytpadpohaadfefaa

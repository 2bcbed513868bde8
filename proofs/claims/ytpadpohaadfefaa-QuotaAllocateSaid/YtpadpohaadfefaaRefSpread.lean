/-
  Contracts of the reference's Spread and Cap (customsref02). No statement of the seat is proved here. Conditions: lengths fit an int, the total is an int.
-/
import Derived.Test.YtpadpohaadfefaaSpread
namespace Go.Proofs.Ytpadpohaadfefaa
open Go.RowKit
set_option linter.unusedVariables false

theorem chk_out (u v : Int) (xs : List Int) (hu : u < 0 ∨ 1000000000000 < u) (hv : v < 0 ∨ 1000000000000 < v) : chkErr u xs = chkErr v xs ∧ chkErr u xs ≠ 0 := by
  unfold chkErr
  by_cases h : 1000 < xs.length
  · rw [if_pos h, if_pos h]; omega
  · rw [if_neg h, if_neg h, if_pos hu, if_pos hv]; omega

theorem wrap_neg (t : Int) (h0 : -9223372036854775808 ≤ t) (h : t < -1000000000000) : wrap64 (-t) < 0 ∨ 1000000000000 < wrap64 (-t) := by
  by_cases e : t = -9223372036854775808
  · subst e; left; simp only [wrap64]; omega
  · right; rw [IntWalk.wrap64_in (-t) ⟨by omega, by omega⟩]; omega

set_option maxHeartbeats 1000000 in
theorem rspread_any (t : Int) (A : Option Addr) (n c : Nat) (xs : List Int) (w : World) (h : Ints w A n xs) (hm : n ≤ 9223372036854775807) (ht : -9223372036854775808 ≤ t) :
    Calls Try.prog 24 #[.int .i64 t, .slice A n c] w (SlRes w (spErr t xs) (spOut t xs)) := by
  by_cases h0 : 0 ≤ t
  · have HS := Lib.hid (fun w h => rshare_any t A n c xs w h hm)
    unfold spErr spOut
    rw [if_pos h0, if_pos h0]
    generalize chkErr t xs = er at *
    generalize shareOut t xs = out at *
    have d1 : decide (0 ≤ t) = true := by simpa using h0
    have d2 : decide (t < 0) = false := by simp; omega
    go_enter Try.func24, Try.ntmps24
    go_wp2_with (go_at_call 18; refine (HS.out _ h).mono ?_; rintro e w' ⟨A', n', c', rfl, ho, hb⟩)
    go_ret2
    exact ⟨_, _, _, rfl, ho, hb⟩
  have d1 : decide (0 ≤ t) = false := by simpa using h0
  by_cases h1 : t < -1000000000000
  · have HS := Lib.hid (fun w h => rshare_any 1000000000001 A n c xs w h hm)
    unfold spErr spOut
    rw [if_neg h0, if_neg h0]
    obtain ⟨e1, e2⟩ := chk_out (wrap64 (-t)) 1000000000001 xs (wrap_neg t ht h1) (by omega)
    have e3 : shareOut (wrap64 (-t)) xs = shareOut 1000000000001 xs := by unfold shareOut; rw [if_neg e2, if_neg (by rw [← e1]; exact e2)]
    have e4 : negL (shareOut 1000000000001 xs) = shareOut 1000000000001 xs := by unfold shareOut; rw [if_neg (by rw [← e1]; exact e2)]; rfl
    rw [e1, e3, e4]
    clear e1 e2 e3 e4
    generalize chkErr 1000000000001 xs = er at *
    generalize shareOut 1000000000001 xs = out at *
    have d2 : decide (t < -1000000000000) = true := by simpa using h1
    have d3 : t < 0 := by omega
    go_enter Try.func24, Try.ntmps24
    go_wp2_with (go_at_call 18; refine (HS.out _ h).mono ?_; rintro e w' ⟨A', n', c', rfl, ho, hb⟩)
    go_ret2
    exact ⟨_, _, _, rfl, ho, hb⟩
  · unfold spErr spOut
    rw [if_neg h0, if_neg h0, IntWalk.wrap64_in (-t) ⟨by omega, by omega⟩]
    have HS := Lib.hid (fun w h => rshare_any (-t) A n c xs w h hm)
    have HBD := Lib.hid (shareOut_bounds (-t) xs)
    generalize chkErr (-t) xs = er at *
    generalize shareOut (-t) xs = out at *
    have d2 : decide (t < -1000000000000) = false := by simpa using h1
    go_enter Try.func24, Try.ntmps24
    go_wp2_with (go_at_call 18; refine (HS.out _ h).mono ?_; rintro e w1 ⟨A', n', c', rfl, ho, hb⟩)
    have HLN := Lib.hid (own_len ho)
    by_cases hn0 : n' = 0
    · subst hn0
      go_loop [8] (fun i => i = .int .i64 0) (fun _ => 0)
      case atStart => exact rfl
      case round =>
        obtain rfl := hrel
        go_wp2
        go_ret2
        have e1 : out = [] := List.eq_nil_of_length_eq_zero HLN.out
        rw [e1] at ho ⊢
        exact ⟨_, _, _, rfl, ho, hb⟩
    · obtain ⟨g, cs, hA, hg, HB, hcs, hcm, HR⟩ := own_prow ho (by omega)
      subst hA
      have hle := HR.1
      rw [hcs] at hle
      go_loopw [8] (fun i wr => ∃ (k : Nat) (cs : Array Value), k ≤ n' ∧ i = .int .i64 k ∧ Bl wr g 3 cs ∧ cs.size = c' ∧ PRow cs n' (fun j => if j < k then -out.getD j 0 else out.getD j 0) ∧ RowKit.Below w.heap.size w wr) (fun i _ => n' - (intOf i).toNat)
      case atStart => exact ⟨0, cs, Nat.zero_le _, rfl, HB, hcs, HR.congr (fun j hj => by simp), hb⟩
      case round =>
        clear HB hcs HR hb
        obtain ⟨k, cs, hk, rfl, HB, hcs, HR, hbel⟩ := hrel
        by_cases hlt : k < n'
        · have c1 := HR.cell HB hlt
          rw [if_neg (by omega)] at c1
          have f1 : wr.frozen? ⟨g, k, none⟩ = false := HB.free k
          have hbd := HBD.out k
          have HS : Hid (∀ v, -out.getD k 0 = v → PRow (cs.setIfInBounds k (.int .i64 v)) n' (fun j => if j < k + 1 then -out.getD j 0 else out.getD j 0)) := fun v hv => HR.set k v hlt (fun j hj => by
            by_cases e : j = k
            · subst e; rw [if_pos (by omega), if_pos rfl, hv]
            · rw [if_neg e]; by_cases e2 : j < k
              · rw [if_pos e2, if_pos (by omega)]
              · rw [if_neg e2, if_neg (by omega)])
          generalize out.getD k 0 = x at *
          have HCS := Lib.hid hcs
          clear hcs
          go_wp2
          go_roundw
          case rel => exact ⟨k + 1, _, by omega, by go_num, HB.put _ _, by rw [Array.size_setIfInBounds]; exact HCS.out, HS.out _ rfl, hbel.setCell hg _⟩
          case measure => simp [intOf]; omega
        · obtain rfl : k = n' := by omega
          have hO := HR.congr (g := fun j => -out.getD j 0) (fun j hj => by simp [hj])
          have HCS := Lib.hid hcs
          clear hcs
          go_wp2
          go_ret2
          have how := hO.own HB hg HCS.out hcm
          rw [negL_range out k HLN.out] at how
          exact ⟨_, _, _, rfl, how, hbel⟩

theorem one_ints (k : IntKind) (xs : List Int) : ∀ u ∈ xs.map (Value.int k), u.oneCell' = true := fun u hu => by
  obtain ⟨x, _, rfl⟩ := List.mem_map.1 hu
  rfl

theorem own_mono {w : World} {base base' : Nat} {e : TypeId} {size : Nat} {v : Value} {n : Nat} {xs : List Value} (h : w.ownsRow base e size v n xs) (hb : base' ≤ base) : w.ownsRow base' e size v n xs := by
  refine ⟨h.1, ?_⟩
  rcases h.2 with h1 | ⟨g, cap, cur, h1, h2, h3⟩
  · exact .inl h1
  · exact .inr ⟨g, cap, cur, h1, by omega, h3⟩

theorem chk_seven {t : Int} {ws : List Int} (h : chkErr t ws = 7) : ws.length = 0 ∧ 0 < t := by
  unfold chkErr at h
  split at h
  · omega
  · split at h
    · omega
    · split at h
      · split at h
        · assumption
        · omega
      · omega

set_option maxRecDepth 100000 in
set_option maxHeartbeats 1000000 in
theorem rcap_any (t : Int) (A : Option Addr) (n c : Nat) (xs : List Int) (w : World) (h : Ints w A n xs) (hm : n ≤ 9223372036854775807) :
    Calls Try.prog 22 #[.int .i64 t, .slice A n c] w (SlRes w (capErr t xs) (capOut t xs)) := by
  have HS := Lib.hid (fun w h => rshare_any t A n c xs w h hm)
  by_cases h0 : chkErr t xs = 0 ∨ chkErr t xs = 7
  · have hn : n ≤ 1000 ∧ AllIn xs := by
      have hl := h.1
      rcases h0 with e | e
      · obtain ⟨h1, h2, h3, h4, h5⟩ := chk_zero e
        exact ⟨by omega, h4⟩
      · have := chk_seven e
        have h2 : xs = [] := List.eq_nil_of_length_eq_zero this.1
        subst h2
        exact ⟨by simp at hl; omega, fun i => by simp⟩
    obtain ⟨hn, ha⟩ := hn
    have HA := Lib.hid ha
    have HL := Lib.hid h.1
    clear ha
    have E1 : capErr t xs = 0 := by unfold capErr; rcases h0 with e | e <;> simp [e]
    rw [E1]
    clear E1
    have b1 : (chkErr t xs != 0) = false ∨ ((chkErr t xs != 0) = true ∧ (chkErr t xs != 7) = false) := by
      rcases h0 with e | e <;> simp [e]
    have HZ := Lib.hid h0
    clear h0
    have HSH := Lib.hid (show chkErr t xs = 0 → shareOut t xs = shareL t xs from fun e => by unfold shareOut; rw [if_pos e])
    generalize hEr : chkErr t xs = er at *
    have HER := Lib.hid hEr
    clear hEr
    rcases b1 with b1 | ⟨b1, b2⟩
    all_goals
      go_enter Try.func22, Try.ntmps22
      go_wp2_with (go_at_call 18; refine (HS.out _ h).mono ?_; rintro e w1 ⟨A', n', c', rfl, ho, hb⟩)
      have h' := h.below hb
      go_loop [8, 9] (fun s i => ∃ k : Nat, k ≤ n ∧ i = .int .i64 k ∧ s = .int .i64 (xs.take k).sum) (fun _ i => n - (intOf i).toNat)
      case atStart => exact ⟨0, Nat.zero_le _, rfl, by simp⟩
      case round =>
        obtain ⟨k, hk, rfl, rfl⟩ := hrel
        by_cases hlt : k < n
        · obtain ⟨b, off, x, rfl, _, hc, HX⟩ := h'.get hlt
          have hbs := sum_take_bound xs 1000000000000 HA.out k (by have := HL.out; omega)
          have hb0 := HA.out k
          have HSS := Lib.hid (sum_take_succ xs k (by have := HL.out; omega))
          rw [HX.out] at hb0 HSS
          generalize (xs.take k).sum = s at *
          go_wp2
          go_round
          case rel => exact ⟨k + 1, by omega, by go_num, by rw [HSS.out]⟩
          case measure => simp [intOf]; omega
        · obtain rfl : k = n := by omega
          rw [List.take_of_length_le (by have := HL.out; omega)]
          obtain ⟨S, hS⟩ : ∃ S, xs.sum = S := ⟨_, rfl⟩
          rw [hS]
          have HSum := Lib.hid hS
          clear hS
          by_cases hle : S ≤ t
          · have hCO : capOut t xs = xs := by
              unfold capOut
              rw [HER.out, HSum.out]
              rcases HZ.out with e | e
              · rw [if_pos e, if_pos hle]
              · rw [if_neg (by omega)]
                have := chk_seven (HER.out.trans e)
                exact (List.eq_nil_of_length_eq_zero this.1).symm
            have HCO := Lib.hid hCO
            clear hCO
            have hown0 : ∀ o, o = Obj.cells #[] 3 → (w1.alloc o).ownsRow w.heap.size 3 1 (.slice (some ⟨w1.heap.size, 0, none⟩) 0 0) 0 [] := fun o ho => by
              subst ho
              exact ⟨rfl, .inr ⟨w1.heap.size, 0, #[], rfl, hb.size, heap_alloc_new w1 _, Nat.le_refl _, Nat.zero_le _, rfl, rfl⟩⟩
            have HOW := Lib.hid (hown0 _ rfl)
            clear hown0
            have HRD := Lib.hid ((Rd.of_ints h').alloc (.cells #[] 3))
            have hsz1 : w.heap.size ≤ (w1.alloc (Obj.cells #[] 3)).heap.size := by have := hb.size; simp; omega
            have HSZ := Lib.hid hsz1
            clear hsz1
            go_wp2_with (at_builtin; refine wpList_append_rd _ rfl (.tmp 38) (.tmp 39) 22 rfl w.heap.size 3 _ 1 8 Try.underlying22 infoI rfl (by decide) (.slice (some ⟨w1.heap.size, 0, none⟩) 0 0) 0 [] rfl HOW.out A k c (xs.map (Value.int .i64)) rfl HRD.out (one_ints _ _) (by unfold maxLen; omega) (by omega) HSZ.out ?_; intro v2 w2 ho2 hg2 hat2; obtain ⟨A2, c2, hv2⟩ := own_slice ho2; rw [hv2] at ho2 ⊢)
            have ho3 : w2.ownsRow w.heap.size 3 1 (.slice A2 k c2) k (xs.map (Value.int .i64)) := by simpa using ho2
            have hbel2 : RowKit.Below w.heap.size w w2 := (hb.alloc hb.size _).grown hg2 HSZ.out (by intro g hg; simp [Value.ownBlock] at hg; have := hb.size; omega)
            go_ret2
            rw [HCO.out]
            exact ⟨_, _, _, by simp, ho3, hbel2⟩
          · have hCO : capOut t xs = shareOut t xs := by
              unfold capOut shareOut
              rw [HER.out, HSum.out, if_neg hle]
            have HCO := Lib.hid hCO
            clear hCO
            have hE0 : er = 0 := by
              rcases HZ.out with e | e
              · exact e
              · exfalso
                have h7 := chk_seven (HER.out.trans e)
                have h8 : xs = [] := List.eq_nil_of_length_eq_zero h7.1
                have h9 := HSum.out
                rw [h8] at h9
                simp at h9
                omega
            have HE0 := Lib.hid hE0
            clear hE0
            go_wp2_with fail
            refine (HS.out _ h').mono ?_
            rintro e w2 ⟨A2, n2, c2, rfl, ho2, hb2⟩
            go_wp2
            go_ret2
            rw [HCO.out]
            have hE0 := HE0.out
            subst hE0
            exact ⟨_, _, _, rfl, own_mono ho2 hb.size, hb.trans (hb2.mono hb.size)⟩
  · have E1 : capErr t xs = chkErr t xs := by unfold capErr; rw [if_neg (by omega)]
    have E2 : capOut t xs = [] := by unfold capOut; rw [if_neg (by omega)]
    rw [E1, E2]
    have b1 : (chkErr t xs != 0) = true := by simp; omega
    have b2 : (chkErr t xs != 7) = true := by simp; omega
    clear E1 E2 h0
    generalize chkErr t xs = er at *
    go_enter Try.func22, Try.ntmps22
    go_wp2_with (go_at_call 18; refine (HS.out _ h).mono ?_; rintro e w1 ⟨A', n', c', rfl, ho, hb⟩)
    go_ret2
    exact ⟨_, _, _, rfl, own_nil _ _ _, hb⟩
end Go.Proofs.Ytpadpohaadfefaa

/-
  Contracts of the reference's Table and At (customsref04). No statement of the seat is proved here. Conditions: lengths fit an int.
-/
import Derived.Test.YtknbbamlpadfdaaRCur17
namespace Go.Proofs.Ytknbbamlpadfdaa
open Go.RowKit
set_option linter.unusedVariables false

theorem tcurB_parts {s : List UInt8} (h : tcurB s = true) : curB s = true ∧ (s == eur) = false := by
  unfold tcurB at h
  simp at h
  exact ⟨h.1, by simpa using h.2⟩
theorem tcurB_not {s : List UInt8} (h : tcurB s = false) : curB s = false ∨ (s == eur) = true := by
  unfold tcurB at h
  cases hc : curB s with
  | false => exact .inl rfl
  | true => rw [hc] at h; simp at h; exact .inr (by simpa using h)

set_option maxRecDepth 100000 in
set_option maxHeartbeats 4000000 in
theorem rtable_any (A : Option Addr) (n c : Nat) (xs : List Exch) (w : World) (h : Recs encX 3 w A n xs) (hm : n ≤ 9223372036854775807) (hz : ExSz xs) :
    Calls Try.prog 71 #[.slice A n c] w (VRes w (tabErr xs)) := by
  have HL := Lib.hid h.1
  have HZ := Lib.hid hz
  clear hz
  by_cases hl : 1000 < n
  · have E := Lib.hid (tabErr_long (xs := xs) (by have := HL.out; omega))
    go_enter Try.func71, Try.ntmps71
    go_wp2
    go_ret
    exact ⟨ret_int' E.out.symm, Below.refl _ _⟩
  go_enter Try.func71, Try.ntmps71
  go_wp2
  go_loopw [3] (fun i wr => ∃ k : Nat, k ≤ n ∧ i = .int .i64 k ∧ Hid (∀ i, i < k → rowErr xs i = 0) ∧ RowKit.Below w.heap.size w wr) (fun i _ => n - (intOf i).toNat)
  case atStart => exact ⟨0, Nat.zero_le _, rfl, fun i hi => absurd hi (by omega), Below.refl _ _⟩
  case round =>
    obtain ⟨k, hk, rfl, HA, hbel⟩ := hrel
    by_cases hlt : k < n
    · obtain ⟨b, off, cu, dy, pe, rfl, hbl, hc1, hc2, hc3, HX⟩ := (h.below hbel).getX hlt
      have hsz : cu.size ≤ 9223372036854775807 := by have := HZ.out k (by have := HL.out; omega); rw [HX.out] at this; exact this
      have hws := hbel.size
      have HB1 := Lib.hid (hbel.alloc hbel.size (.cells #[.string cu, .int .i64 dy, .int .i64 pe] 61))
      have HI := Lib.hid (fun w => rcurrency_any cu w hsz)
      have HD := Lib.hid (fun w => rday_any dy w)
      have HT : Hid (∀ er : Int, rowErr xs k = er → er ≠ 0 → tabErr xs = er) := fun er he hn => tabErr_at (by have := HL.out; omega) k (by have := HL.out; omega) HA.out he hn
      have HR1 := Lib.hid (rowErr_1 (i := k) HX.out)
      have HR2 := Lib.hid (rowErr_2 (i := k) HX.out)
      have HR9 := Lib.hid (rowErr_9 (i := k) HX.out)
      have HR0 := Lib.hid (rowErr_0 (i := k) HX.out)
      cases hq : tcurB cu.toList with
      | false =>
        have E := Lib.hid (HT.out 1 (HR1.out (tcurB_not hq)) (by omega))
        go_wp2_with fail
        refine (HI.out _).mono ?_
        rintro e w1 ⟨rfl, rfl⟩
        rw [hq]
        clear hq
        go_wp2
        go_ret
        exact ⟨ret_int' E.out.symm, HB1.out⟩
      | true =>
      have HP := Lib.hid (tcurB_parts hq)
      have HQ := Lib.hid hq
      clear hq
      by_cases g0 : ¬ (0 ≤ dy ∧ dy ≤ 36524)
      · have E := Lib.hid (HT.out 2 (HR2.out HP.out.1 HP.out.2 (by show dy < 0 ∨ 36524 < dy ∨ pe < 1 ∨ 1000000000 < pe; omega)) (by omega))
        have e2 : dayB dy = false := by unfold dayB; simp; omega
        rw [e2] at HD
        clear e2
        go_wp2_with fail
        refine (HI.out _).mono ?_
        rintro e w1 ⟨rfl, rfl⟩
        rw [HQ.out]
        go_wp2_with fail
        refine (HD.out _).mono ?_
        rintro e w1 ⟨rfl, rfl⟩
        go_wp2
        go_ret
        exact ⟨ret_int' E.out.symm, HB1.out⟩
      have e2 : dayB dy = true := by unfold dayB; simp; omega
      rw [e2] at HD
      clear e2
      by_cases g3 : pe < 1
      · have d3 : decide (pe < 1) = true := by simpa using g3
        have E := Lib.hid (HT.out 2 (HR2.out HP.out.1 HP.out.2 (by show dy < 0 ∨ 36524 < dy ∨ pe < 1 ∨ 1000000000 < pe; omega)) (by omega))
        go_wp2_with fail
        refine (HI.out _).mono ?_
        rintro e w1 ⟨rfl, rfl⟩
        rw [HQ.out]
        go_wp2_with fail
        refine (HD.out _).mono ?_
        rintro e w1 ⟨rfl, rfl⟩
        go_wp2
        go_ret
        exact ⟨ret_int' E.out.symm, HB1.out⟩
      have d3 : decide (pe < 1) = false := by simpa using g3
      by_cases g4 : 1000000000 < pe
      · have d4 : decide (1000000000 < pe) = true := by simpa using g4
        have E := Lib.hid (HT.out 2 (HR2.out HP.out.1 HP.out.2 (by show dy < 0 ∨ 36524 < dy ∨ pe < 1 ∨ 1000000000 < pe; omega)) (by omega))
        go_wp2_with fail
        refine (HI.out _).mono ?_
        rintro e w1 ⟨rfl, rfl⟩
        rw [HQ.out]
        go_wp2_with fail
        refine (HD.out _).mono ?_
        rintro e w1 ⟨rfl, rfl⟩
        go_wp2
        go_ret
        exact ⟨ret_int' E.out.symm, HB1.out⟩
      have d4 : decide (1000000000 < pe) = false := by simpa using g4
      have HG : Hid (¬ (dy < 0 ∨ 36524 < dy ∨ pe < 1 ∨ 1000000000 < pe)) := by show ¬ _; omega
      have HA' : Hid (rowErr xs k = 0 → ∀ i, i < k + 1 → rowErr xs i = 0) := fun h0 i hi => by
        by_cases e : i = k
        · subst e; exact h0
        · exact HA.out i (by omega)
      by_cases hk0 : 0 < k
      · obtain ⟨b', off', cu0, dy0, pe0, hA, _, k1, k2, k3, HX0⟩ := (h.below hbel).getX (show k - 1 < n by omega)
        obtain ⟨rfl, rfl⟩ : b = b' ∧ off = off' := by simpa using hA
        clear hA
        obtain ⟨r, hr⟩ : ∃ r : Nat, k = r + 1 := ⟨k - 1, by omega⟩
        subst hr
        simp only [Nat.add_sub_cancel] at k1 k2 k3 HX0
        have HBt : Hid (befB ⟨cu0, dy0, pe0⟩ ⟨cu, dy, pe⟩ = true → ∀ i, i < r + 1 + 1 → rowErr xs i = 0) := fun hbb => HA'.out (HR0.out HP.out.1 HP.out.2 HG.out (fun _ => by rw [Nat.add_sub_cancel, HX0.out]; exact hbb))
        have HBf : Hid (befB ⟨cu0, dy0, pe0⟩ ⟨cu, dy, pe⟩ = false → tabErr xs = 9) := fun hbb => HT.out 9 (HR9.out HP.out.1 HP.out.2 HG.out hk0 (by rw [Nat.add_sub_cancel, HX0.out]; exact hbb)) (by omega)
        have i1 : (0 : Int) ≤ (r : Int) := by omega
        have i2 : (r : Int) < (n : Int) := by omega
        have d5 : decide (0 < (r : Int) + 1) = true := by simp
        have u1 : IntKind.i64.wrap ((r : Int) + 1 - 1) = (r : Int) := (IntWalk.i64_in _ (by omega)).trans (by omega)
        have u2 : IntKind.i64.wrap (r : Int) = (r : Int) := IntWalk.i64_in _ (by omega)
        have HB2 : Hid (∀ q, RowKit.Below w.heap.size w ((wr.alloc (.cells #[.string cu, .int .i64 dy, .int .i64 pe] 61)).drewN q)) := fun q => below_drewN HB1.out q
        have hne : b ≠ wr.heap.size := by omega
        cases hc : (cu.toList == cu0.toList) with
        | true =>
          have hcc : cu.toList = cu0.toList := eq_of_beq hc
          have hl0 : Op.bytesLess cu.toList cu0.toList = false := by rw [hcc]; exact bytesLess_irrefl _
          have hbf : befB ⟨cu0, dy0, pe0⟩ ⟨cu, dy, pe⟩ = decide (dy0 < dy) := by unfold befB; rw [if_pos (by show (cu0.toList == cu.toList) = true; rw [hcc]; simp)]
          rw [hbf] at HBt HBf
          clear hcc hbf
          by_cases g5 : dy ≤ dy0
          · have d6 : decide (dy ≤ dy0) = true := by simpa using g5
            have E := Lib.hid (HBf.out (by simp; omega))
            go_wp2_with fail
            refine (HI.out _).mono ?_
            rintro e w1 ⟨rfl, rfl⟩
            rw [HQ.out]
            go_wp2_with fail
            refine (HD.out _).mono ?_
            rintro e w1 ⟨rfl, rfl⟩
            go_wp2
            go_quiet (fail)
            go_wp2
            go_ret
            exact ⟨ret_int' E.out.symm, HB2.out _⟩
          · have d6 : decide (dy ≤ dy0) = false := by simpa using g5
            have HA2 := Lib.hid (HBt.out (by simp; omega))
            go_wp2_with fail
            refine (HI.out _).mono ?_
            rintro e w1 ⟨rfl, rfl⟩
            rw [HQ.out]
            go_wp2_with fail
            refine (HD.out _).mono ?_
            rintro e w1 ⟨rfl, rfl⟩
            go_wp2
            go_quiet (fail)
            go_wp2
            go_roundw
            case rel => exact ⟨r + 1 + 1, by omega, by go_num, HA2.out, HB2.out _⟩
            case measure => simp [intOf]; omega
        | false =>
          have hcc : cu.toList ≠ cu0.toList := by simpa using hc
          have hbf : befB ⟨cu0, dy0, pe0⟩ ⟨cu, dy, pe⟩ = Op.bytesLess cu0.toList cu.toList := by unfold befB; rw [if_neg (by show ¬ (cu0.toList == cu.toList) = true; simp; exact fun x => hcc x.symm)]
          rw [hbf, bytesLess_flip _ _ (fun x => hcc x.symm)] at HBt HBf
          clear hbf hcc
          cases hl0 : Op.bytesLess cu.toList cu0.toList with
          | true =>
            have E := Lib.hid (HBf.out (by rw [hl0]; rfl))
            go_wp2_with fail
            refine (HI.out _).mono ?_
            rintro e w1 ⟨rfl, rfl⟩
            rw [HQ.out]
            go_wp2_with fail
            refine (HD.out _).mono ?_
            rintro e w1 ⟨rfl, rfl⟩
            go_wp2
            go_quiet (fail)
            go_wp2
            go_ret
            exact ⟨ret_int' E.out.symm, HB2.out _⟩
          | false =>
            have HA2 := Lib.hid (HBt.out (by rw [hl0]; rfl))
            go_wp2_with fail
            refine (HI.out _).mono ?_
            rintro e w1 ⟨rfl, rfl⟩
            rw [HQ.out]
            go_wp2_with fail
            refine (HD.out _).mono ?_
            rintro e w1 ⟨rfl, rfl⟩
            go_wp2
            go_quiet (fail)
            go_wp2
            go_roundw
            case rel => exact ⟨r + 1 + 1, by omega, by go_num, HA2.out, HB2.out _⟩
            case measure => simp [intOf]; omega
      · have d5 : decide ((0 : Int) < (k : Int)) = false := by simp; omega
        have HA2 := Lib.hid (HA'.out (HR0.out HP.out.1 HP.out.2 HG.out (fun h => absurd h (by omega))))
        go_wp2_with fail
        refine (HI.out _).mono ?_
        rintro e w1 ⟨rfl, rfl⟩
        rw [HQ.out]
        go_wp2_with fail
        refine (HD.out _).mono ?_
        rintro e w1 ⟨rfl, rfl⟩
        go_wp2
        go_quiet (fail)
        go_wp2
        go_roundw
        case rel => exact ⟨k + 1, by omega, by go_num, HA2.out, below_drewN HB1.out _⟩
        case measure => simp [intOf]; omega
    · have E := Lib.hid (tabErr_ok (xs := xs) (by have := HL.out; omega) (fun i hi => HA.out i (by have := HL.out; omega)))
      go_wp2
      go_ret
      exact ⟨ret_int' E.out.symm, hbel⟩

theorem ret_two {k l : IntKind} {a a' b b' : Int} (h1 : a = a') (h2 : b = b') : Ending.returned (.tuple #[.int k a, .int l b]) = .returned (.tuple #[.int k a', .int l b']) := by rw [h1, h2]
def sixIf (v : Int) : Int := if v = 0 then 6 else 0
set_option maxRecDepth 100000 in
set_option maxHeartbeats 4000000 in
theorem rat_any (A : Option Addr) (n c : Nat) (xs : List Exch) (cu : ByteArray) (day : Int) (w : World) (h : Recs encX 3 w A n xs) (hm : n ≤ 9223372036854775807) (hz : ExSz xs) :
    Calls Try.prog 59 #[.slice A n c, .string cu, .int .i64 day] w (NRes w (if atErr xs cu.toList day = 0 then rateOf xs cu.toList day else 0) (atErr xs cu.toList day)) := by
  have HV := Lib.hid (rtable_any A n c xs w h hm hz)
  have HD := Lib.hid (fun w => rday_any day w)
  by_cases ht : tabErr xs = 0
  · rw [ht] at HV
    have HL := Lib.hid h.1
    obtain ⟨t1, t2⟩ := tabErr_zero ht
    have hn : n ≤ 1000 := by have := HL.out; omega
    have HB := Lib.hid (fun k hk => rateTo_bounds t2 cu.toList day k hk)
    have e0 : atErr xs cu.toList day = if day < 0 ∨ 36524 < day then 2 else if rateOf xs cu.toList day = 0 then 6 else 0 := by unfold atErr; rw [if_neg (by omega)]
    clear t1 t2 ht hz
    by_cases g1 : ¬ (0 ≤ day ∧ day ≤ 36524)
    · rw [if_pos (by omega)] at e0
      rw [e0, if_neg (by omega)]
      have e2 : dayB day = false := by unfold dayB; simp; omega
      rw [e2] at HD
      clear e0 e2
      go_enter Try.func59, Try.ntmps59
      go_wp2_with fail
      refine HV.out.mono ?_
      rintro e w1 ⟨rfl, hb1⟩
      go_wp2_with fail
      refine (HD.out _).mono ?_
      rintro e w2 ⟨rfl, rfl⟩
      go_wp2
      go_ret2
      exact ⟨rfl, hb1⟩
    rw [if_neg (by omega)] at e0
    have e2 : dayB day = true := by unfold dayB; simp; omega
    rw [e2] at HD
    clear e2
    cases hq : (cu.toList == eur) with
    | true =>
      have e1 : rateOf xs cu.toList day = 1000000 := by unfold rateOf; rw [if_pos (eq_of_beq hq)]
      rw [e1] at e0 ⊢
      rw [if_neg (by omega)] at e0
      rw [e0, if_pos rfl]
      have he2 : (cu.toList == [69, 85, 82]) = true := hq
      clear e0 e1 hq
      go_enter Try.func59, Try.ntmps59
      go_wp2_with fail
      refine HV.out.mono ?_
      rintro e w1 ⟨rfl, hb1⟩
      go_wp2_with fail
      refine (HD.out _).mono ?_
      rintro e w2 ⟨rfl, rfl⟩
      go_wp2
      go_ret2
      exact ⟨rfl, hb1⟩
    | false =>
      have e1 : rateOf xs cu.toList day = rateTo xs cu.toList day n := by unfold rateOf; rw [if_neg (by simpa using hq), HL.out]
      rw [e1] at e0 ⊢
      have E0 := Lib.hid e0
      rw [e0]
      have he2 : (cu.toList == [69, 85, 82]) = false := hq
      clear e0 e1 hq
      have HF : Hid (∀ v : Int, rateTo xs cu.toList day n = v → NRes w (if (if rateTo xs cu.toList day n = 0 then (6 : Int) else 0) = 0 then rateTo xs cu.toList day n else 0) (if rateTo xs cu.toList day n = 0 then 6 else 0) = NRes w v (sixIf v)) := fun v hv => by
        rw [hv]
        unfold sixIf
        by_cases x : v = 0
        · rw [if_pos x]; simp [x]
        · rw [if_neg x]; simp
      rw [HF.out _ rfl]
      clear HF E0
      go_enter Try.func59, Try.ntmps59
      go_wp2_with fail
      refine HV.out.mono ?_
      rintro e w1 ⟨rfl, hb1⟩
      have h' := h.below hb1
      go_wp2_with fail
      refine (HD.out _).mono ?_
      rintro e w2 ⟨rfl, rfl⟩
      go_wp2
      go_loop [9, 10] (fun v i => ∃ k : Nat, k ≤ n ∧ i = .int .i64 k ∧ v = .int .i64 (rateTo xs cu.toList day k)) (fun _ i => n - (intOf i).toNat)
      case atStart => exact ⟨0, Nat.zero_le _, rfl, rfl⟩
      case round =>
        obtain ⟨k, hk, rfl, rfl⟩ := hrel
        by_cases hlt : k < n
        · obtain ⟨b, off, cx, dy, pe, rfl, hbl, hc1, hc2, hc3, HX⟩ := h'.getX hlt
          have HS : Hid (rateTo xs cu.toList day (k + 1) = if (cx.toList == cu.toList) = true ∧ dy ≤ day then pe else rateTo xs cu.toList day k) := by
            show _ = _
            rw [rateTo, HX.out]
          cases hq : (cx.toList == cu.toList) with
          | true =>
            by_cases g2 : dy ≤ day
            · have d2 : decide (dy ≤ day) = true := by simpa using g2
              have E : Hid (rateTo xs cu.toList day (k + 1) = pe) := by show _ = _; rw [HS.out, if_pos ⟨hq, g2⟩]
              go_wp2
              go_round
              case rel => exact ⟨k + 1, by omega, by go_num, by rw [E.out]⟩
              case measure => simp [intOf]; omega
            · have d2 : decide (dy ≤ day) = false := by simpa using g2
              have E : Hid (rateTo xs cu.toList day (k + 1) = rateTo xs cu.toList day k) := by show _ = _; rw [HS.out, if_neg (fun x => g2 x.2)]
              go_wp2
              go_round
              case rel => exact ⟨k + 1, by omega, by go_num, by rw [E.out]⟩
              case measure => simp [intOf]; omega
          | false =>
            have E : Hid (rateTo xs cu.toList day (k + 1) = rateTo xs cu.toList day k) := by show _ = _; rw [HS.out, if_neg (fun x => by have := x.1; rw [hq] at this; cases this)]
            go_wp2
            go_round
            case rel => exact ⟨k + 1, by omega, by go_num, by rw [E.out]⟩
            case measure => simp [intOf]; omega
        · obtain rfl : k = n := by omega
          generalize rateTo xs cu.toList day k = v at *
          by_cases g3 : v = 0
          · have b3 : (v == 0) = true := by simpa using g3
            have S3 : Hid (sixIf v = 6) := by show _ = _; unfold sixIf; rw [if_pos g3]
            have G3 := Lib.hid g3
            clear g3
            go_wp2
            go_ret2
            exact ⟨ret_two G3.out.symm S3.out.symm, hb1⟩
          · have b3 : (v == 0) = false := by simpa using g3
            have S3 : Hid (sixIf v = 0) := by show _ = _; unfold sixIf; rw [if_neg g3]
            clear g3
            go_wp2
            go_ret2
            exact ⟨ret_two rfl S3.out.symm, hb1⟩
  · have e0 : atErr xs cu.toList day = tabErr xs := by unfold atErr; rw [if_pos ht]
    rw [e0, if_neg ht]
    have b1 : (tabErr xs != 0) = true := by simpa using ht
    clear e0 ht
    generalize tabErr xs = er at *
    go_enter Try.func59, Try.ntmps59
    go_wp2_with fail
    refine HV.out.mono ?_
    rintro e w1 ⟨rfl, hb1⟩
    go_wp2
    go_ret2
    exact ⟨rfl, hb1⟩
end Go.Proofs.Ytknbbamlpadfdaa

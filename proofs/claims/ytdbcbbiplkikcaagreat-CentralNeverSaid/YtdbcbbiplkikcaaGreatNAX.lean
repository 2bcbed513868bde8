/-
  The contract of customsref36.NewCentral (P37.1). No statement of the seat is proved here. Conditions: the lists read as quotas and guarantees.
  Words for central.reserve and central.free: what stands behind a region that draws its order. No statement of the seat is proved here. No conditions.
-/
import Derived.Test.YtdbcbbiplkikcaaGreatNAN
import Derived.Test.YtdbcbbiplkikcaaGreatNAW
import Derived.Deep.RegionLaw
import Derived.Test.YtdbcbbiplkikcaaGreatNAV
import Derived.Deep.RegionHeld3
namespace Go.Proofs.YtdbcbbiplkikcaaGreat
open Go.RowKit
set_option linter.unusedVariables false

def RNewRes (w : World) (qs : List Qt) (gs : List Gb) (e : Ending) (w' : World) : Prop :=
  ∃ (H : Hds) (er : Int), e = .returned (.tuple #[.agg #[.slice H.s.A H.s.n H.s.c, .slice H.q.A H.q.n H.q.c, .slice H.g.A H.g.n H.g.c, .slice H.k.A H.k.n H.k.c, .slice H.m.A H.m.n H.m.c], .int .i64 er]) ∧ er = newErr qs gs ∧
    (er = 0 → H.s = ⟨none, 0, 0⟩ ∧ H.k = ⟨none, 0, 0⟩ ∧ H.m = ⟨none, 0, 0⟩ ∧ Recs encB 5 w' H.q.A H.q.n (qs.map bk0) ∧ Recs encGu 4 w' H.g.A H.g.n gs ∧ ∀ g ∈ gs, g.us = []) ∧ (er ≠ 0 → H = hds0) ∧ RowKit.Below w.heap.size w w'
theorem RNewRes.bad {w w' : World} {qs : List Qt} {gs : List Gb} {er : Int} (h : er = newErr qs gs) (hne : er ≠ 0) (hb : RowKit.Below w.heap.size w w') : RNewRes w qs gs (.returned (.tuple #[.agg #[.slice none 0 0, .slice none 0 0, .slice none 0 0, .slice none 0 0, .slice none 0 0], .int .i64 er])) w' :=
  ⟨hds0, er, rfl, h, fun h0 => absurd h0 hne, fun _ => rfl, hb⟩

theorem newG_nil {gs : List Gb} {j : Nat} (h : newG gs j = 0) : gs[j]!.us = [] := by
  unfold newG at h
  split at h
  · split at h
    · assumption
    · cases h
  · exact absurd h (by assumption)
theorem rd_of_recs {α : Type} [Inhabited α] {enc : α → List Value} {k : Nat} (hk : ∀ x, (enc x).length = k) (hk0 : 0 < k) {w : World} {A : Option Addr} {n : Nat} {xs : List α} (h : Recs enc k w A n xs) : Rd w k A n (flat enc xs) := by
  refine ⟨by rw [flat_length hk, h.1], fun hn => ?_⟩
  obtain ⟨b, off, e, hb, _⟩ := h.2 hn
  subst e
  exact ⟨b, off, rfl, hb, Recs.cells hk hk0 h⟩

set_option maxRecDepth 100000 in
set_option maxHeartbeats 8000000 in
theorem rnew37_any (A : Option Addr) (n c : Nat) (B : Option Addr) (m d : Nat) (qs : List Qt) (gs : List Gb) (w : World) (h : Recs encQ 4 w A n qs) (hg : Recs encGu 4 w B m gs) (hu : ∀ g ∈ gs, Recs enc2 2 w g.A g.n g.us) :
    Calls Tryz.prog 7 #[.slice A n c, .slice B m d] w (RNewRes w qs gs) := by
  have HL := Lib.hid h.1
  have HM := Lib.hid hg.1
  have HU := Lib.hid hu
  clear hu
  have HVQ := Lib.hid (fun q w => rvalidQuota_any q w)
  have HVG := Lib.hid (fun g A n c us w h => rgvalid_any g A n c us w h)
  obtain ⟨W0, hW0⟩ : ∃ W, W = (w.alloc (.cells #[.slice none 0 0, .slice none 0 0, .slice none 0 0, .slice none 0 0, .slice none 0 0] 37)).alloc (.cells #[.slice none 0 0, .slice none 0 0, .slice none 0 0, .slice none 0 0, .slice none 0 0] 37) := ⟨_, rfl⟩
  have hz0 : Bl W0 w.heap.size 37 #[.slice none 0 0, .slice none 0 0, .slice none 0 0, .slice none 0 0, .slice none 0 0] := by rw [hW0]; exact (Bl.new w _ _).alloc _
  have hc0 : Bl W0 (w.heap.size + 1) 37 #[.slice none 0 0, .slice none 0 0, .slice none 0 0, .slice none 0 0, .slice none 0 0] := by rw [hW0]; have := Bl.new (w.alloc (.cells #[.slice none 0 0, .slice none 0 0, .slice none 0 0, .slice none 0 0, .slice none 0 0] 37)) 37 #[.slice none 0 0, .slice none 0 0, .slice none 0 0, .slice none 0 0, .slice none 0 0]; simpa using this
  have hb0 : RowKit.Below w.heap.size w W0 := by rw [hW0]; exact ((Below.refl _ _).alloc (Nat.le_refl _) _).alloc (by simp) _
  have HR := Lib.hid h
  have HG := Lib.hid hg
  clear h hg
  go_enter Tryz.func7, Tryz.ntmps7
  go_upto_region 2 with (fail)
  rw [← hW0]
  clear hW0
  have r0 : W0.cell? ⟨w.heap.size, 0, none⟩ = some (.slice none 0 0) := hz0.cell 0
  have rf0 : W0.frozen? ⟨w.heap.size, 0, none⟩ = false := hz0.free 0
  have r1 : W0.cell? ⟨w.heap.size, 1, none⟩ = some (.slice none 0 0) := hz0.cell 1
  have rf1 : W0.frozen? ⟨w.heap.size, 1, none⟩ = false := hz0.free 1
  have r2 : W0.cell? ⟨w.heap.size, 2, none⟩ = some (.slice none 0 0) := hz0.cell 2
  have rf2 : W0.frozen? ⟨w.heap.size, 2, none⟩ = false := hz0.free 2
  have r3 : W0.cell? ⟨w.heap.size, 3, none⟩ = some (.slice none 0 0) := hz0.cell 3
  have rf3 : W0.frozen? ⟨w.heap.size, 3, none⟩ = false := hz0.free 3
  have r4 : W0.cell? ⟨w.heap.size, 4, none⟩ = some (.slice none 0 0) := hz0.cell 4
  have rf4 : W0.frozen? ⟨w.heap.size, 4, none⟩ = false := hz0.free 4
  have s0 : W0.cell? ⟨w.heap.size + 1, 0, none⟩ = some (.slice none 0 0) := hc0.cell 0
  have s1 : W0.cell? ⟨w.heap.size + 1, 1, none⟩ = some (.slice none 0 0) := hc0.cell 1
  have s2 : W0.cell? ⟨w.heap.size + 1, 2, none⟩ = some (.slice none 0 0) := hc0.cell 2
  have s3 : W0.cell? ⟨w.heap.size + 1, 3, none⟩ = some (.slice none 0 0) := hc0.cell 3
  have s4 : W0.cell? ⟨w.heap.size + 1, 4, none⟩ = some (.slice none 0 0) := hc0.cell 4
  by_cases hl : 16 < n
  · have E : Hid (8 = newErr qs gs) := (newErr_q16 (by have := HL.out; omega)).symm
    have d1 : decide ((16 : Int) < (n : Int)) = true := by simp; omega
    go_wp2
    refine bodyPost_ret (v := .tuple #[.agg #[.slice none 0 0, .slice none 0 0, .slice none 0 0, .slice none 0 0, .slice none 0 0], .int .i64 8]) (by simp [results, Tryz.results7, go_sem, r0, r1, r2, r3, r4]) rfl ?_
    exact RNewRes.bad E.out (by decide) (put5 hb0 (Nat.le_refl _) _ _ _ _ _)
  have d1 : decide ((16 : Int) < (n : Int)) = false := by simp; omega
  by_cases hl2 : 16 < m
  · have E : Hid (8 = newErr qs gs) := (newErr_g16 (by have := HM.out; omega)).symm
    have d2 : decide ((16 : Int) < (m : Int)) = true := by simp; omega
    go_wp2
    refine bodyPost_ret (v := .tuple #[.agg #[.slice none 0 0, .slice none 0 0, .slice none 0 0, .slice none 0 0, .slice none 0 0], .int .i64 8]) (by simp [results, Tryz.results7, go_sem, r0, r1, r2, r3, r4]) rfl ?_
    exact RNewRes.bad E.out (by decide) (put5 hb0 (Nat.le_refl _) _ _ _ _ _)
  have d2 : decide ((16 : Int) < (m : Int)) = false := by simp; omega
  have hn16 : n ≤ 16 := by omega
  have hm16 : m ≤ 16 := by omega
  clear hl hl2
  have hs0 := hb0.size
  clear r0 r1 r2 r3 r4 rf0 rf1 rf2 rf3 rf4 s0 s1 s2 s3 s4
  go_upto_region 5 with (fail)
  clear d1 d2
  go_loopw [7] (fun i wx => ∃ (k : Nat) (Bq : Option Addr) (dq : Nat), k ≤ n ∧ i = .int .i64 k ∧ Hid (∀ j, j < k → newQ qs j = 0) ∧ Hid (Bl wx (w.heap.size + 1) 37 #[.slice none 0 0, .slice Bq k dq, .slice none 0 0, .slice none 0 0, .slice none 0 0]) ∧ Hid (Bl wx w.heap.size 37 #[.slice none 0 0, .slice none 0 0, .slice none 0 0, .slice none 0 0, .slice none 0 0]) ∧ Hid (wx.ownsRow w.heap.size 54 5 (.slice Bq k dq) k (flat encB ((qs.take k).map bk0))) ∧ Hid (RowKit.Below w.heap.size w wx)) (fun i _ => n - (intOf i).toNat)
  case atStart => exact ⟨0, none, 0, Nat.zero_le _, rfl, fun j hj => by omega, hc0, hz0, own0B _ _, hb0⟩
  case round =>
    clear hc0 hz0 hb0
    obtain ⟨k, Bq, dq, hk, rfl, HA, HC, HZ, HO, HB⟩ := hrel
    have hgc := HC.out.lt
    by_cases hlt : k < n
    · obtain ⟨b, off, q, hA, hbl, c0, c1, c2, c3, HX⟩ := (HR.out.below HB.out).getQ hlt
      subst hA
      have hki : (k : Int) < n := by omega
      have HCL := Lib.hid (HVQ.out q wr)
      obtain ⟨bq, hbq⟩ : ∃ x, qOk q = x := ⟨_, rfl⟩
      have HQ := Lib.hid hbq
      rw [hbq] at HCL
      clear hbq
      go_wp2_with fail
      refine HCL.out.mono ?_
      rintro e w5 ⟨rfl, hb5⟩
      have HB5 := Lib.hid (HB.out.trans (hb5.mono HB.out.size))
      have hz5 := HZ.out.keep hb5
      have hc5 := HC.out.keep hb5
      have HO5 := Lib.hid (own_below HO.out hb5)
      clear c0 c1 c2 c3 hbl hb5 HB HZ HC HO HCL
      cases bq
      case false =>
        have E : Hid (2 = newErr qs gs) := (newErr_q (by have := HL.out; omega) (by have := HM.out; omega) (k := k) (by have := HL.out; omega) HA.out (by unfold newQ; rw [HX.out, HQ.out, if_neg (by simp)]) (by decide)).symm
        have r0 : w5.cell? ⟨w.heap.size, 0, none⟩ = some (.slice none 0 0) := hz5.cell 0
        have rf0 : w5.frozen? ⟨w.heap.size, 0, none⟩ = false := hz5.free 0
        have r1 : w5.cell? ⟨w.heap.size, 1, none⟩ = some (.slice none 0 0) := hz5.cell 1
        have rf1 : w5.frozen? ⟨w.heap.size, 1, none⟩ = false := hz5.free 1
        have r2 : w5.cell? ⟨w.heap.size, 2, none⟩ = some (.slice none 0 0) := hz5.cell 2
        have rf2 : w5.frozen? ⟨w.heap.size, 2, none⟩ = false := hz5.free 2
        have r3 : w5.cell? ⟨w.heap.size, 3, none⟩ = some (.slice none 0 0) := hz5.cell 3
        have rf3 : w5.frozen? ⟨w.heap.size, 3, none⟩ = false := hz5.free 3
        have r4 : w5.cell? ⟨w.heap.size, 4, none⟩ = some (.slice none 0 0) := hz5.cell 4
        have rf4 : w5.frozen? ⟨w.heap.size, 4, none⟩ = false := hz5.free 4
        go_wp2
        refine bodyPost_ret (v := .tuple #[.agg #[.slice none 0 0, .slice none 0 0, .slice none 0 0, .slice none 0 0, .slice none 0 0], .int .i64 2]) (by simp [results, Tryz.results7, go_sem, r0, r1, r2, r3, r4]) rfl ?_
        exact RNewRes.bad E.out (by decide) (put5 HB5.out (Nat.le_refl _) _ _ _ _ _)
      case true =>
        obtain ⟨b', off', q', hA, hbl, c0, c1, c2, c3, HX'⟩ := (HR.out.below HB5.out).getQ hlt
        injection hA with hA
        injection hA with hA1 hA2
        subst hA1 hA2
        obtain rfl : q' = q := HX'.out.symm.trans HX.out
        have HAS : Hid (newQ qs k = if 0 < k ∧ q'.id ≤ qs[k - 1]!.id then 9 else 0) := by show _ = _; unfold newQ; rw [HX.out, if_pos HQ.out]
        go_upto_region 9 with (fail)
        by_cases hk0 : 0 < k
        · obtain ⟨pk, hp⟩ : ∃ pk, k - 1 = pk := ⟨_, rfl⟩
          obtain ⟨b', off', q2, hA, _, e0, _, _, _, HY⟩ := (HR.out.below HB5.out).getQ (i := pk) (by omega)
          injection hA with hA
          injection hA with hA1 hA2
          subst hA1 hA2
          have u1 : IntKind.i64.wrap ((k : Int) - 1) = (pk : Int) := (IntWalk.i64_in _ (by omega)).trans (by omega)
          have hpi : (pk : Int) < n := by omega
          have d0 : decide (0 < k) = true := by simpa using hk0
          by_cases g : q'.id ≤ q2.id
          · have d1 : decide (q'.id ≤ q2.id) = true := by simpa using g
            have E : Hid (9 = newErr qs gs) := (newErr_q (by have := HL.out; omega) (by have := HM.out; omega) (k := k) (by have := HL.out; omega) HA.out (by rw [HAS.out, hp, HY.out, if_pos ⟨hk0, g⟩]) (by decide)).symm
            clear hk0 hp g
            go_quiet (fail)
            have r0 : w5.cell? ⟨w.heap.size, 0, none⟩ = some (.slice none 0 0) := hz5.cell 0
            have rf0 : w5.frozen? ⟨w.heap.size, 0, none⟩ = false := hz5.free 0
            have r1 : w5.cell? ⟨w.heap.size, 1, none⟩ = some (.slice none 0 0) := hz5.cell 1
            have rf1 : w5.frozen? ⟨w.heap.size, 1, none⟩ = false := hz5.free 1
            have r2 : w5.cell? ⟨w.heap.size, 2, none⟩ = some (.slice none 0 0) := hz5.cell 2
            have rf2 : w5.frozen? ⟨w.heap.size, 2, none⟩ = false := hz5.free 2
            have r3 : w5.cell? ⟨w.heap.size, 3, none⟩ = some (.slice none 0 0) := hz5.cell 3
            have rf3 : w5.frozen? ⟨w.heap.size, 3, none⟩ = false := hz5.free 3
            have r4 : w5.cell? ⟨w.heap.size, 4, none⟩ = some (.slice none 0 0) := hz5.cell 4
            have rf4 : w5.frozen? ⟨w.heap.size, 4, none⟩ = false := hz5.free 4
            go_wp2
            refine bodyPost_ret (v := .tuple #[.agg #[.slice none 0 0, .slice none 0 0, .slice none 0 0, .slice none 0 0, .slice none 0 0], .int .i64 9]) (by simp [results, Tryz.results7, go_sem, r0, r1, r2, r3, r4]) rfl ?_
            exact RNewRes.bad E.out (by decide) (put5 (below_drewN HB5.out nq) (Nat.le_refl _) _ _ _ _ _)
          · have d1 : decide (q'.id ≤ q2.id) = false := by simpa using g
            have HA2 : Hid (∀ j, j < k + 1 → newQ qs j = 0) := fun j hj => by
              by_cases e : j = k
              · subst e; rw [HAS.out, hp, HY.out, if_neg (by omega)]
              · exact HA.out j (by omega)
            clear hk0 hp g
            go_quiet (fail)
            clear u1 e0
            have hz7 : Bl (w5.drewN nq) w.heap.size 37 #[.slice none 0 0, .slice none 0 0, .slice none 0 0, .slice none 0 0, .slice none 0 0] := hz5
            have hc7 : Bl (w5.drewN nq) (w.heap.size + 1) 37 #[.slice none 0 0, .slice Bq k dq, .slice none 0 0, .slice none 0 0, .slice none 0 0] := hc5
            have HO7 : Hid ((w5.drewN nq).ownsRow w.heap.size 54 5 (.slice Bq k dq) k (flat encB ((qs.take k).map bk0))) := HO5.out
            have HB7 : Hid (RowKit.Below w.heap.size w (w5.drewN nq)) := below_drewN HB5.out nq
            have c0' : (w5.drewN nq).cell? ⟨b, off + k * 4, none⟩ = some (.int .i64 q'.id) := c0
            have c1' : (w5.drewN nq).cell? ⟨b, off + k * 4 + 1, none⟩ = some (.int .i64 q'.vol) := c1
            have c2' : (w5.drewN nq).cell? ⟨b, off + k * 4 + 2, none⟩ = some (.int .i64 q'.fr) := c2
            have c3' : (w5.drewN nq).cell? ⟨b, off + k * 4 + 3, none⟩ = some (.int .i64 q'.tod) := c3
            have hbl' : b < (w5.drewN nq).heap.size := hbl
            clear c0 c1 c2 c3 hz5 hc5 HO5 HB5 hbl
            generalize w5.drewN nq = W7 at *
            have c0 := c0'
            have c1 := c1'
            have c2 := c2'
            have c3 := c3'
            clear c0' c1' c2' c3'
            have t1 : W7.cell? ⟨w.heap.size + 1, 1, none⟩ = some (.slice Bq k dq) := hc7.c1
            have HOE : Hid ((W7.drew.alloc (.cells #[.int .i64 q'.id, .int .i64 q'.vol, .int .i64 q'.fr, .int .i64 q'.tod, .slice none 0 0] 54)).ownsRow w.heap.size 54 5 (.slice Bq k dq) k (flat encB ((qs.take k).map bk0))) := own_alloc (own_drewN HO7.out 1) _
            have HRD : Hid (Rd (W7.drew.alloc (.cells #[.int .i64 q'.id, .int .i64 q'.vol, .int .i64 q'.fr, .int .i64 q'.tod, .slice none 0 0] 54)) 5 (some ⟨W7.heap.size, 0, none⟩) 1 (encB (bk0 q'))) := rd_new W7.drew 54 (encB (bk0 q'))
            have HON : Hid (∀ u ∈ encB (bk0 q'), u.oneCell' = true) := encB_one _
            have HM1 : Hid (k + 1 ≤ maxLen ∧ (k + 1) * 56 ≤ 140737488355328) := ⟨by unfold maxLen; omega, by omega⟩
            have HBA : Hid (RowKit.Below w.heap.size w (W7.drew.alloc (.cells #[.int .i64 q'.id, .int .i64 q'.vol, .int .i64 q'.fr, .int .i64 q'.tod, .slice none 0 0] 54))) := HB7.out.drew.alloc HB7.out.size _
            have HSZ := Lib.hid HBA.out.size
            have HOB := Lib.hid (fun j hj => own_base HOE.out j hj)
            have HCA : Hid (Bl (W7.drew.alloc (.cells #[.int .i64 q'.id, .int .i64 q'.vol, .int .i64 q'.fr, .int .i64 q'.tod, .slice none 0 0] 54)) (w.heap.size + 1) 37 #[.slice none 0 0, .slice Bq k dq, .slice none 0 0, .slice none 0 0, .slice none 0 0]) := (hc7.drewN 1).alloc _
            have HZA : Hid (Bl (W7.drew.alloc (.cells #[.int .i64 q'.id, .int .i64 q'.vol, .int .i64 q'.fr, .int .i64 q'.tod, .slice none 0 0] 54)) w.heap.size 37 #[.slice none 0 0, .slice none 0 0, .slice none 0 0, .slice none 0 0, .slice none 0 0]) := (hz7.drewN 1).alloc _
            have HQC : Hid (flat encB ((qs.take (k + 1)).map bk0) = flat encB ((qs.take k).map bk0) ++ encB (bk0 q')) := by show _ = _; rw [map_take_snoc bk0 qs k (by have := HL.out; omega) HX.out, flat_append, flat_one]
            have lc := hc7.lt
            have lz := hz7.lt
            have HKP : Hid (∀ w7 : World, (W7.drew.alloc (.cells #[.int .i64 q'.id, .int .i64 q'.vol, .int .i64 q'.fr, .int .i64 q'.tod, .slice none 0 0] 54)).grownBy w7 (Value.slice Bq k dq).ownBlock → w7.cell? ⟨w.heap.size + 1, 1, none⟩ = some (.slice Bq k dq) ∧ w7.frozen? ⟨w.heap.size + 1, 1, none⟩ = false) := fun w7 hg => by
              have h1 : Bl w7 (w.heap.size + 1) 37 #[.slice none 0 0, .slice Bq k dq, .slice none 0 0, .slice none 0 0, .slice none 0 0] := (hg.block _ HCA.out.lt (fun e => own_apart HOE.out HCA.out (by decide) e)).trans HCA.out
              exact ⟨h1.c1, h1.free 1⟩
            clear hz7 hc7 HO7 HB7
            go_upto_region 11 with (fail)
            have nn1 := World.new_ne W7 ⟨w.heap.size + 1, 1, none⟩ t1
            have nn2 := World.new_ne W7 ⟨b, off + k * 4, none⟩ c0
            have nn3 := World.new_ne W7 ⟨b, off + k * 4 + 1, none⟩ c1
            have nn4 := World.new_ne W7 ⟨b, off + k * 4 + 2, none⟩ c2
            have nn5 := World.new_ne W7 ⟨b, off + k * 4 + 3, none⟩ c3
            have al1 : (W7.drew.alloc (.cells #[.int .i64 q'.id, .int .i64 q'.vol, .int .i64 q'.fr, .int .i64 q'.tod, .slice none 0 0] 54)).cell? ⟨w.heap.size + 1, 1, none⟩ = some (.slice Bq k dq) := HCA.out.c1
            go_region_law (refine step_append_rd _ (by rfl) (.tmp 50) (.tmp 56) 34 (by rfl) w.heap.size 54 _ 5 56 Tryz.underlying34 info37B rfl (by decide) (.slice Bq k dq) k _ (by rfl) HOE.out (some ⟨W7.heap.size, 0, none⟩) 1 1 (encB (bk0 q')) (by rfl) HRD.out HON.out HM1.out.1 HM1.out.2 HSZ.out ?_; intro v6 w6 ho6 hg6; obtain ⟨B6, d6, rfl⟩ := own_slice ho6; have hk6 := (HKP.out _ hg6).1; have hf6 := (HKP.out _ hg6).2)
            all_goals (
              have HB8 : Hid (RowKit.Below w.heap.size w w6) := HBA.out.grown hg6 HBA.out.size (fun j hj => HOB.out j hj)
              have HC8 : Hid (Bl w6 (w.heap.size + 1) 37 #[.slice none 0 0, .slice Bq k dq, .slice none 0 0, .slice none 0 0, .slice none 0 0]) := (hg6.block _ HCA.out.lt (fun e => own_apart HOE.out HCA.out (by decide) e)).trans HCA.out
              have HZ8 : Hid (Bl w6 w.heap.size 37 #[.slice none 0 0, .slice none 0 0, .slice none 0 0, .slice none 0 0, .slice none 0 0]) := (hg6.block _ HZA.out.lt (fun e => own_apart HOE.out HZA.out (by decide) e)).trans HZA.out
              have HC9 : Hid (Bl (w6.setCell ⟨w.heap.size + 1, 1, none⟩ (.slice B6 (k + 1) d6)) (w.heap.size + 1) 37 #[.slice none 0 0, .slice B6 (k + 1) d6, .slice none 0 0, .slice none 0 0, .slice none 0 0]) := by show Bl _ _ _ _; have := HC8.out.put 1 (.slice B6 (k + 1) d6); simpa using this
              have HZ9 : Hid (Bl (w6.setCell ⟨w.heap.size + 1, 1, none⟩ (.slice B6 (k + 1) d6)) w.heap.size 37 #[.slice none 0 0, .slice none 0 0, .slice none 0 0, .slice none 0 0, .slice none 0 0]) := HZ8.out.far (p := ⟨w.heap.size + 1, 1, none⟩) (by simp) _
              have HO9 : Hid ((w6.setCell ⟨w.heap.size + 1, 1, none⟩ (.slice B6 (k + 1) d6)).ownsRow w.heap.size 54 5 (.slice B6 (k + 1) d6) (k + 1) (flat encB ((qs.take (k + 1)).map bk0))) := by
                show World.ownsRow _ _ _ _ _ _ _
                rw [HQC.out]
                exact own_of_block ho6 fun j hj => Below.heap_setCell _ _ _ j (fun e => own_apart ho6 HC8.out (by decide) (by rw [hj, e]))
              have HB9 : Hid (RowKit.Below w.heap.size w (w6.setCell ⟨w.heap.size + 1, 1, none⟩ (.slice B6 (k + 1) d6))) := HB8.out.setCell (p := ⟨w.heap.size + 1, 1, none⟩) (by simp) _
              clear ho6 hg6 hk6 hf6 al1 nn1 nn2 nn3 nn4 nn5 c0 c1 c2 c3 t1
              go_wp2_with fail
              go_roundw
              case rel => exact ⟨k + 1, B6, d6, by omega, by go_num, HA2, HC9, HZ9, HO9, HB9⟩
              case measure => simp [intOf]; omega)
        · have d0 : decide (0 < k) = false := by simpa using hk0
          have HA2 : Hid (∀ j, j < k + 1 → newQ qs j = 0) := fun j hj => by
            by_cases e : j = k
            · subst e; rw [HAS.out, if_neg (by omega)]
            · exact HA.out j (by omega)
          clear hk0
          go_quiet (fail)
          have hz7 : Bl (w5.drewN nq) w.heap.size 37 #[.slice none 0 0, .slice none 0 0, .slice none 0 0, .slice none 0 0, .slice none 0 0] := hz5
          have hc7 : Bl (w5.drewN nq) (w.heap.size + 1) 37 #[.slice none 0 0, .slice Bq k dq, .slice none 0 0, .slice none 0 0, .slice none 0 0] := hc5
          have HO7 : Hid ((w5.drewN nq).ownsRow w.heap.size 54 5 (.slice Bq k dq) k (flat encB ((qs.take k).map bk0))) := HO5.out
          have HB7 : Hid (RowKit.Below w.heap.size w (w5.drewN nq)) := below_drewN HB5.out nq
          have c0' : (w5.drewN nq).cell? ⟨b, off + k * 4, none⟩ = some (.int .i64 q'.id) := c0
          have c1' : (w5.drewN nq).cell? ⟨b, off + k * 4 + 1, none⟩ = some (.int .i64 q'.vol) := c1
          have c2' : (w5.drewN nq).cell? ⟨b, off + k * 4 + 2, none⟩ = some (.int .i64 q'.fr) := c2
          have c3' : (w5.drewN nq).cell? ⟨b, off + k * 4 + 3, none⟩ = some (.int .i64 q'.tod) := c3
          have hbl' : b < (w5.drewN nq).heap.size := hbl
          clear c0 c1 c2 c3 hz5 hc5 HO5 HB5 hbl
          generalize w5.drewN nq = W7 at *
          have c0 := c0'
          have c1 := c1'
          have c2 := c2'
          have c3 := c3'
          clear c0' c1' c2' c3'
          have t1 : W7.cell? ⟨w.heap.size + 1, 1, none⟩ = some (.slice Bq k dq) := hc7.c1
          have HOE : Hid ((W7.drew.alloc (.cells #[.int .i64 q'.id, .int .i64 q'.vol, .int .i64 q'.fr, .int .i64 q'.tod, .slice none 0 0] 54)).ownsRow w.heap.size 54 5 (.slice Bq k dq) k (flat encB ((qs.take k).map bk0))) := own_alloc (own_drewN HO7.out 1) _
          have HRD : Hid (Rd (W7.drew.alloc (.cells #[.int .i64 q'.id, .int .i64 q'.vol, .int .i64 q'.fr, .int .i64 q'.tod, .slice none 0 0] 54)) 5 (some ⟨W7.heap.size, 0, none⟩) 1 (encB (bk0 q'))) := rd_new W7.drew 54 (encB (bk0 q'))
          have HON : Hid (∀ u ∈ encB (bk0 q'), u.oneCell' = true) := encB_one _
          have HM1 : Hid (k + 1 ≤ maxLen ∧ (k + 1) * 56 ≤ 140737488355328) := ⟨by unfold maxLen; omega, by omega⟩
          have HBA : Hid (RowKit.Below w.heap.size w (W7.drew.alloc (.cells #[.int .i64 q'.id, .int .i64 q'.vol, .int .i64 q'.fr, .int .i64 q'.tod, .slice none 0 0] 54))) := HB7.out.drew.alloc HB7.out.size _
          have HSZ := Lib.hid HBA.out.size
          have HOB := Lib.hid (fun j hj => own_base HOE.out j hj)
          have HCA : Hid (Bl (W7.drew.alloc (.cells #[.int .i64 q'.id, .int .i64 q'.vol, .int .i64 q'.fr, .int .i64 q'.tod, .slice none 0 0] 54)) (w.heap.size + 1) 37 #[.slice none 0 0, .slice Bq k dq, .slice none 0 0, .slice none 0 0, .slice none 0 0]) := (hc7.drewN 1).alloc _
          have HZA : Hid (Bl (W7.drew.alloc (.cells #[.int .i64 q'.id, .int .i64 q'.vol, .int .i64 q'.fr, .int .i64 q'.tod, .slice none 0 0] 54)) w.heap.size 37 #[.slice none 0 0, .slice none 0 0, .slice none 0 0, .slice none 0 0, .slice none 0 0]) := (hz7.drewN 1).alloc _
          have HQC : Hid (flat encB ((qs.take (k + 1)).map bk0) = flat encB ((qs.take k).map bk0) ++ encB (bk0 q')) := by show _ = _; rw [map_take_snoc bk0 qs k (by have := HL.out; omega) HX.out, flat_append, flat_one]
          have lc := hc7.lt
          have lz := hz7.lt
          have HKP : Hid (∀ w7 : World, (W7.drew.alloc (.cells #[.int .i64 q'.id, .int .i64 q'.vol, .int .i64 q'.fr, .int .i64 q'.tod, .slice none 0 0] 54)).grownBy w7 (Value.slice Bq k dq).ownBlock → w7.cell? ⟨w.heap.size + 1, 1, none⟩ = some (.slice Bq k dq) ∧ w7.frozen? ⟨w.heap.size + 1, 1, none⟩ = false) := fun w7 hg => by
            have h1 : Bl w7 (w.heap.size + 1) 37 #[.slice none 0 0, .slice Bq k dq, .slice none 0 0, .slice none 0 0, .slice none 0 0] := (hg.block _ HCA.out.lt (fun e => own_apart HOE.out HCA.out (by decide) e)).trans HCA.out
            exact ⟨h1.c1, h1.free 1⟩
          clear hz7 hc7 HO7 HB7
          go_upto_region 11 with (fail)
          have nn1 := World.new_ne W7 ⟨w.heap.size + 1, 1, none⟩ t1
          have nn2 := World.new_ne W7 ⟨b, off + k * 4, none⟩ c0
          have nn3 := World.new_ne W7 ⟨b, off + k * 4 + 1, none⟩ c1
          have nn4 := World.new_ne W7 ⟨b, off + k * 4 + 2, none⟩ c2
          have nn5 := World.new_ne W7 ⟨b, off + k * 4 + 3, none⟩ c3
          have al1 : (W7.drew.alloc (.cells #[.int .i64 q'.id, .int .i64 q'.vol, .int .i64 q'.fr, .int .i64 q'.tod, .slice none 0 0] 54)).cell? ⟨w.heap.size + 1, 1, none⟩ = some (.slice Bq k dq) := HCA.out.c1
          go_region_law (refine step_append_rd _ (by rfl) (.tmp 50) (.tmp 56) 34 (by rfl) w.heap.size 54 _ 5 56 Tryz.underlying34 info37B rfl (by decide) (.slice Bq k dq) k _ (by rfl) HOE.out (some ⟨W7.heap.size, 0, none⟩) 1 1 (encB (bk0 q')) (by rfl) HRD.out HON.out HM1.out.1 HM1.out.2 HSZ.out ?_; intro v6 w6 ho6 hg6; obtain ⟨B6, d6, rfl⟩ := own_slice ho6; have hk6 := (HKP.out _ hg6).1; have hf6 := (HKP.out _ hg6).2)
          all_goals (
            have HB8 : Hid (RowKit.Below w.heap.size w w6) := HBA.out.grown hg6 HBA.out.size (fun j hj => HOB.out j hj)
            have HC8 : Hid (Bl w6 (w.heap.size + 1) 37 #[.slice none 0 0, .slice Bq k dq, .slice none 0 0, .slice none 0 0, .slice none 0 0]) := (hg6.block _ HCA.out.lt (fun e => own_apart HOE.out HCA.out (by decide) e)).trans HCA.out
            have HZ8 : Hid (Bl w6 w.heap.size 37 #[.slice none 0 0, .slice none 0 0, .slice none 0 0, .slice none 0 0, .slice none 0 0]) := (hg6.block _ HZA.out.lt (fun e => own_apart HOE.out HZA.out (by decide) e)).trans HZA.out
            have HC9 : Hid (Bl (w6.setCell ⟨w.heap.size + 1, 1, none⟩ (.slice B6 (k + 1) d6)) (w.heap.size + 1) 37 #[.slice none 0 0, .slice B6 (k + 1) d6, .slice none 0 0, .slice none 0 0, .slice none 0 0]) := by show Bl _ _ _ _; have := HC8.out.put 1 (.slice B6 (k + 1) d6); simpa using this
            have HZ9 : Hid (Bl (w6.setCell ⟨w.heap.size + 1, 1, none⟩ (.slice B6 (k + 1) d6)) w.heap.size 37 #[.slice none 0 0, .slice none 0 0, .slice none 0 0, .slice none 0 0, .slice none 0 0]) := HZ8.out.far (p := ⟨w.heap.size + 1, 1, none⟩) (by simp) _
            have HO9 : Hid ((w6.setCell ⟨w.heap.size + 1, 1, none⟩ (.slice B6 (k + 1) d6)).ownsRow w.heap.size 54 5 (.slice B6 (k + 1) d6) (k + 1) (flat encB ((qs.take (k + 1)).map bk0))) := by
              show World.ownsRow _ _ _ _ _ _ _
              rw [HQC.out]
              exact own_of_block ho6 fun j hj => Below.heap_setCell _ _ _ j (fun e => own_apart ho6 HC8.out (by decide) (by rw [hj, e]))
            have HB9 : Hid (RowKit.Below w.heap.size w (w6.setCell ⟨w.heap.size + 1, 1, none⟩ (.slice B6 (k + 1) d6))) := HB8.out.setCell (p := ⟨w.heap.size + 1, 1, none⟩) (by simp) _
            clear ho6 hg6 hk6 hf6 al1 nn1 nn2 nn3 nn4 nn5 c0 c1 c2 c3 t1
            go_wp2_with fail
            go_roundw
            case rel => exact ⟨k + 1, B6, d6, by omega, by go_num, HA2, HC9, HZ9, HO9, HB9⟩
            case measure => simp [intOf]; omega)
    · obtain rfl : n = k := by omega
      have HQS : Hid (∀ j, j < qs.length → newQ qs j = 0) := fun j hj => HA.out j (by have := HL.out; omega)
      have HOQ : Hid (wr.ownsRow w.heap.size 54 5 (.slice Bq n dq) n (flat encB (qs.map bk0))) := by
        have := HO.out
        rwa [List.take_of_length_le (by have := HL.out; omega)] at this
      clear HA HO
      go_wp2_with fail
      go_loopw [8] (fun i wx => ∃ (k : Nat), k ≤ m ∧ i = .int .i64 k ∧ Hid (∀ j, j < k → newG gs j = 0) ∧ Hid (Bl wx (w.heap.size + 1) 37 #[.slice none 0 0, .slice Bq n dq, .slice none 0 0, .slice none 0 0, .slice none 0 0]) ∧ Hid (Bl wx w.heap.size 37 #[.slice none 0 0, .slice none 0 0, .slice none 0 0, .slice none 0 0, .slice none 0 0]) ∧ Hid (wx.ownsRow w.heap.size 54 5 (.slice Bq n dq) n (flat encB (qs.map bk0))) ∧ Hid (RowKit.Below w.heap.size w wx)) (fun i _ => m - (intOf i).toNat)
      case atStart => exact ⟨0, Nat.zero_le _, rfl, fun j hj => by omega, HC, HZ, HOQ, HB⟩
      case round =>
        clear HC HZ HOQ HB hgc
        obtain ⟨k, hk, rfl, HA, HC, HZ, HOQ, HB⟩ := hrel
        have hgc := HC.out.lt
        by_cases hlt2 : k < m
        · obtain ⟨b, off, g, hA, hbl, c0, c1, c2, c3, HX⟩ := (HG.out.below HB.out).getG hlt2
          subst hA
          have hki : (k : Int) < m := by omega
          have HUS : Hid (Recs enc2 2 w g.A g.n g.us) := HU.out g (by rw [← HX.out, getElem!_pos gs k (by have := HM.out; omega)]; exact List.getElem_mem _)
          obtain ⟨er, her⟩ : ∃ er, gErr g.h g.us = er := ⟨_, rfl⟩
          have HER := Lib.hid her
          have HCL : Hid (Calls Tryz.prog 17 #[.agg #[.int .i64 g.h.id, .int .i64 g.h.ref, .int .i64 g.h.lev, .slice g.A g.n g.c]] wr fun e w' => e = .returned (.int .i64 er) ∧ RowKit.Below wr.heap.size wr w') := by
            show Calls _ _ _ _ _
            rw [← her]
            exact HVG.out g.h g.A g.n g.c g.us wr (HUS.out.below HB.out)
          clear her
          go_wp2_with fail
          refine HCL.out.mono ?_
          rintro e w5 ⟨rfl, hb5⟩
          have HB5 := Lib.hid (HB.out.trans (hb5.mono HB.out.size))
          have hz5 := HZ.out.keep hb5
          have hc5 := HC.out.keep hb5
          have HQ5 := Lib.hid (own_below HOQ.out hb5)
          clear c0 c1 c2 c3 hbl hb5 HB HZ HC HOQ HCL
          have HLU := Lib.hid HUS.out.1
          by_cases ge : er = 0
          case neg =>
            have b1 : (er == 0) = false := by simpa using ge
            have b2 : (er != 0) = true := by simpa using ge
            have E : Hid (er = newErr qs gs) := (newErr_g (by have := HL.out; omega) (by have := HM.out; omega) HQS.out (k := k) (by have := HM.out; omega) HA.out (by unfold newG; rw [HX.out, HER.out, if_neg ge]) ge).symm
            have GE := Lib.hid ge
            clear ge
            go_upto_region 18 with (fail)
            go_quiet (fail)
            have r0 : w5.cell? ⟨w.heap.size, 0, none⟩ = some (.slice none 0 0) := hz5.cell 0
            have rf0 : w5.frozen? ⟨w.heap.size, 0, none⟩ = false := hz5.free 0
            have r1 : w5.cell? ⟨w.heap.size, 1, none⟩ = some (.slice none 0 0) := hz5.cell 1
            have rf1 : w5.frozen? ⟨w.heap.size, 1, none⟩ = false := hz5.free 1
            have r2 : w5.cell? ⟨w.heap.size, 2, none⟩ = some (.slice none 0 0) := hz5.cell 2
            have rf2 : w5.frozen? ⟨w.heap.size, 2, none⟩ = false := hz5.free 2
            have r3 : w5.cell? ⟨w.heap.size, 3, none⟩ = some (.slice none 0 0) := hz5.cell 3
            have rf3 : w5.frozen? ⟨w.heap.size, 3, none⟩ = false := hz5.free 3
            have r4 : w5.cell? ⟨w.heap.size, 4, none⟩ = some (.slice none 0 0) := hz5.cell 4
            have rf4 : w5.frozen? ⟨w.heap.size, 4, none⟩ = false := hz5.free 4
            go_wp2
            refine bodyPost_ret (v := .tuple #[.agg #[.slice none 0 0, .slice none 0 0, .slice none 0 0, .slice none 0 0, .slice none 0 0], .int .i64 er]) (by simp [results, Tryz.results7, go_sem, r0, r1, r2, r3, r4]) rfl ?_
            exact RNewRes.bad E.out GE.out (put5 (below_drewN HB5.out nq) (Nat.le_refl _) _ _ _ _ _)
          subst ge
          obtain ⟨b', off', g', hA, hbl, c0, c1, c2, c3, HX'⟩ := (HG.out.below HB5.out).getG hlt2
          injection hA with hA
          injection hA with hA1 hA2
          subst hA1 hA2
          obtain rfl : g' = g := HX'.out.symm.trans HX.out
          by_cases gn : 0 < g'.n
          · have d8 : decide (0 < g'.n) = true := by simpa using gn
            have E : Hid (1 = newErr qs gs) := (newErr_g (by have := HL.out; omega) (by have := HM.out; omega) HQS.out (k := k) (by have := HM.out; omega) HA.out (by unfold newG; rw [HX.out, HER.out, if_pos rfl, if_neg (fun e => by have := HLU.out; rw [e] at this; simp at this; omega)]) (by decide)).symm
            go_upto_region 18 with (fail)
            go_quiet (fail)
            have r0 : w5.cell? ⟨w.heap.size, 0, none⟩ = some (.slice none 0 0) := hz5.cell 0
            have rf0 : w5.frozen? ⟨w.heap.size, 0, none⟩ = false := hz5.free 0
            have r1 : w5.cell? ⟨w.heap.size, 1, none⟩ = some (.slice none 0 0) := hz5.cell 1
            have rf1 : w5.frozen? ⟨w.heap.size, 1, none⟩ = false := hz5.free 1
            have r2 : w5.cell? ⟨w.heap.size, 2, none⟩ = some (.slice none 0 0) := hz5.cell 2
            have rf2 : w5.frozen? ⟨w.heap.size, 2, none⟩ = false := hz5.free 2
            have r3 : w5.cell? ⟨w.heap.size, 3, none⟩ = some (.slice none 0 0) := hz5.cell 3
            have rf3 : w5.frozen? ⟨w.heap.size, 3, none⟩ = false := hz5.free 3
            have r4 : w5.cell? ⟨w.heap.size, 4, none⟩ = some (.slice none 0 0) := hz5.cell 4
            have rf4 : w5.frozen? ⟨w.heap.size, 4, none⟩ = false := hz5.free 4
            go_wp2
            refine bodyPost_ret (v := .tuple #[.agg #[.slice none 0 0, .slice none 0 0, .slice none 0 0, .slice none 0 0, .slice none 0 0], .int .i64 1]) (by simp [results, Tryz.results7, go_sem, r0, r1, r2, r3, r4]) rfl ?_
            exact RNewRes.bad E.out (by decide) (put5 (below_drewN HB5.out nq) (Nat.le_refl _) _ _ _ _ _)
          have d9 : decide (0 < g'.n) = false := by simpa using gn
          have HNIL : Hid (g'.us = []) := List.eq_nil_of_length_eq_zero (by have := HLU.out; omega)
          clear gn
          have HAS : Hid (newG gs k = if 0 < k ∧ g'.h.id ≤ gs[k - 1]!.h.id then 9 else 0) := by show _ = _; unfold newG; rw [HX.out, HER.out, if_pos rfl, if_pos HNIL.out]
          go_upto_region 18 with (fail)
          by_cases hk0 : 0 < k
          · obtain ⟨pk, hp⟩ : ∃ pk, k - 1 = pk := ⟨_, rfl⟩
            obtain ⟨b', off', g2, hA, _, e0, _, _, _, HY⟩ := (HG.out.below HB5.out).getG (i := pk) (by omega)
            injection hA with hA
            injection hA with hA1 hA2
            subst hA1 hA2
            have u1 : IntKind.i64.wrap ((k : Int) - 1) = (pk : Int) := (IntWalk.i64_in _ (by omega)).trans (by omega)
            have hpi : (pk : Int) < m := by omega
            have d0 : decide (0 < k) = true := by simpa using hk0
            by_cases gg : g'.h.id ≤ g2.h.id
            · have d1 : decide (g'.h.id ≤ g2.h.id) = true := by simpa using gg
              have E : Hid (9 = newErr qs gs) := (newErr_g (by have := HL.out; omega) (by have := HM.out; omega) HQS.out (k := k) (by have := HM.out; omega) HA.out (by rw [HAS.out, hp, HY.out, if_pos ⟨hk0, gg⟩]) (by decide)).symm
              clear hk0 hp gg
              go_quiet (fail)
              have r0 : w5.cell? ⟨w.heap.size, 0, none⟩ = some (.slice none 0 0) := hz5.cell 0
              have rf0 : w5.frozen? ⟨w.heap.size, 0, none⟩ = false := hz5.free 0
              have r1 : w5.cell? ⟨w.heap.size, 1, none⟩ = some (.slice none 0 0) := hz5.cell 1
              have rf1 : w5.frozen? ⟨w.heap.size, 1, none⟩ = false := hz5.free 1
              have r2 : w5.cell? ⟨w.heap.size, 2, none⟩ = some (.slice none 0 0) := hz5.cell 2
              have rf2 : w5.frozen? ⟨w.heap.size, 2, none⟩ = false := hz5.free 2
              have r3 : w5.cell? ⟨w.heap.size, 3, none⟩ = some (.slice none 0 0) := hz5.cell 3
              have rf3 : w5.frozen? ⟨w.heap.size, 3, none⟩ = false := hz5.free 3
              have r4 : w5.cell? ⟨w.heap.size, 4, none⟩ = some (.slice none 0 0) := hz5.cell 4
              have rf4 : w5.frozen? ⟨w.heap.size, 4, none⟩ = false := hz5.free 4
              go_wp2
              refine bodyPost_ret (v := .tuple #[.agg #[.slice none 0 0, .slice none 0 0, .slice none 0 0, .slice none 0 0, .slice none 0 0], .int .i64 9]) (by simp [results, Tryz.results7, go_sem, r0, r1, r2, r3, r4]) rfl ?_
              exact RNewRes.bad E.out (by decide) (put5 (below_drewN HB5.out nq) (Nat.le_refl _) _ _ _ _ _)
            · have d1 : decide (g'.h.id ≤ g2.h.id) = false := by simpa using gg
              have HA2 : Hid (∀ j, j < k + 1 → newG gs j = 0) := fun j hj => by
                by_cases e : j = k
                · subst e; rw [HAS.out, hp, HY.out, if_neg (by omega)]
                · exact HA.out j (by omega)
              clear hk0 hp gg
              go_quiet (fail)
              clear u1 e0
              go_wp2_with fail
              go_roundw
              case rel => exact ⟨k + 1, by omega, by go_num, HA2, hc5, hz5, HQ5, below_drewN HB5.out nq⟩
              case measure => simp [intOf]; omega
          · have d0 : decide (0 < k) = false := by simpa using hk0
            have HA2 : Hid (∀ j, j < k + 1 → newG gs j = 0) := fun j hj => by
              by_cases e : j = k
              · subst e; rw [HAS.out, if_neg (by omega)]
              · exact HA.out j (by omega)
            clear hk0
            go_quiet (fail)
            go_wp2_with fail
            go_roundw
            case rel => exact ⟨k + 1, by omega, by go_num, HA2, hc5, hz5, HQ5, below_drewN HB5.out nq⟩
            case measure => simp [intOf]; omega
        · obtain rfl : m = k := by omega
          have HGS : Hid (∀ j, j < gs.length → newG gs j = 0) := fun j hj => HA.out j (by have := HM.out; omega)
          have E : Hid (0 = newErr qs gs) := (newErr_ok (by have := HL.out; omega) (by have := HM.out; omega) HQS.out HGS.out).symm
          have HGN : Hid (∀ g ∈ gs, g.us = []) := fun g hg => by
            obtain ⟨j, hj, rfl⟩ := List.getElem_of_mem hg
            have := newG_nil (HGS.out j hj)
            rwa [getElem!_pos gs j hj] at this
          clear HA
          have HOE : Hid ((wr.alloc (.cells #[] 30)).ownsRow w.heap.size 30 4 (.slice (some ⟨wr.heap.size, 0, none⟩) 0 0) 0 []) := own_empty (Bl.new _ _ _) HB.out.size
          have HRD : Hid (Rd (wr.alloc (.cells #[] 30)) 4 B m (flat encGu gs)) := rd_of_recs encGu_len (by omega) ((HG.out.below HB.out).alloc _)
          have HON : Hid (∀ u ∈ flat encGu gs, u.oneCell' = true) := fun u hu => by
            obtain ⟨x, _, hx⟩ := List.mem_flatMap.1 hu
            exact encGu_one x u hx
          have HM1 : Hid (0 + m ≤ maxLen ∧ (0 + m) * 48 ≤ 140737488355328) := ⟨by unfold maxLen; omega, by omega⟩
          have HBA : Hid (RowKit.Below w.heap.size w (wr.alloc (.cells #[] 30))) := HB.out.alloc HB.out.size _
          have HOB := Lib.hid (fun j hj => own_base HOE.out j hj)
          have HCA := Lib.hid (HC.out.alloc (.cells #[] 30))
          have HZA := Lib.hid (HZ.out.alloc (.cells #[] 30))
          have HQA := Lib.hid (own_alloc HOQ.out (.cells #[] 30))
          clear HC HZ HB HOQ
          go_wp2_with (at_builtin; refine wpList_append_rd _ rfl (.tmp 105) (.tmp 106) 23 rfl w.heap.size 30 _ 4 48 Tryz.underlying23 info37G rfl (by decide) (.slice (some ⟨wr.heap.size, 0, none⟩) 0 0) 0 [] rfl HOE.out B m d (flat encGu gs) rfl HRD.out HON.out HM1.out.1 HM1.out.2 HBA.out.size ?_; intro v8 w8 ho8 hg8 hv8; rw [Nat.zero_add, List.nil_append] at ho8; obtain ⟨B8, d8, rfl⟩ := own_slice ho8; have HO8 := Lib.hid ho8; have HB8 : Hid (RowKit.Below w.heap.size w w8) := HBA.out.grown hg8 HBA.out.size (fun j hj => HOB.out j hj); have HC8 : Hid (Bl w8 (w.heap.size + 1) 37 #[.slice none 0 0, .slice Bq n dq, .slice none 0 0, .slice none 0 0, .slice none 0 0]) := (hg8.block _ HCA.out.lt (fun e => own_apart HOE.out HCA.out (by decide) e)).trans HCA.out; have HZ8 : Hid (Bl w8 w.heap.size 37 #[.slice none 0 0, .slice none 0 0, .slice none 0 0, .slice none 0 0, .slice none 0 0]) := (hg8.block _ HZA.out.lt (fun e => own_apart HOE.out HZA.out (by decide) e)).trans HZA.out; have HQ8 : Hid (w8.ownsRow w.heap.size 54 5 (.slice Bq n dq) n (flat encB (qs.map bk0))) := own_of_block HQA.out fun j hj => hg8.block j (own_lt HQA.out j hj) (own_diff HQA.out HOE.out (by decide) j hj); have c0 : w8.cell? ⟨w.heap.size + 1, 0, none⟩ = some (.slice none 0 0) := HC8.out.c0; have c1 : w8.cell? ⟨w.heap.size + 1, 1, none⟩ = some (.slice Bq n dq) := HC8.out.c1; have c2 : w8.cell? ⟨w.heap.size + 1, 2, none⟩ = some (.slice none 0 0) := HC8.out.c2; have c3 : w8.cell? ⟨w.heap.size + 1, 3, none⟩ = some (.slice none 0 0) := HC8.out.c3; have c4 : w8.cell? ⟨w.heap.size + 1, 4, none⟩ = some (.slice none 0 0) := HC8.out.c4; have f2 : w8.frozen? ⟨w.heap.size + 1, 2, none⟩ = false := HC8.out.free 2; have r0 : w8.cell? ⟨w.heap.size, 0, none⟩ = some (.slice none 0 0) := HZ8.out.c0; have r1 : w8.cell? ⟨w.heap.size, 1, none⟩ = some (.slice none 0 0) := HZ8.out.c1; have r2 : w8.cell? ⟨w.heap.size, 2, none⟩ = some (.slice none 0 0) := HZ8.out.c2; have r3 : w8.cell? ⟨w.heap.size, 3, none⟩ = some (.slice none 0 0) := HZ8.out.c3; have r4 : w8.cell? ⟨w.heap.size, 4, none⟩ = some (.slice none 0 0) := HZ8.out.c4; have rf0 : w8.frozen? ⟨w.heap.size, 0, none⟩ = false := HZ8.out.free 0; have rf1 : w8.frozen? ⟨w.heap.size, 1, none⟩ = false := HZ8.out.free 1; have rf2 : w8.frozen? ⟨w.heap.size, 2, none⟩ = false := HZ8.out.free 2; have rf3 : w8.frozen? ⟨w.heap.size, 3, none⟩ = false := HZ8.out.free 3; have rf4 : w8.frozen? ⟨w.heap.size, 4, none⟩ = false := HZ8.out.free 4)
          all_goals (
            have HB9 : Hid (RowKit.Below w.heap.size w (w8.setCell ⟨w.heap.size + 1, 2, none⟩ (.slice B8 m d8))) := HB8.out.setCell (p := ⟨w.heap.size + 1, 2, none⟩) (by simp) _
            have HZ9 : Hid (Bl (w8.setCell ⟨w.heap.size + 1, 2, none⟩ (.slice B8 m d8)) w.heap.size 37 #[.slice none 0 0, .slice none 0 0, .slice none 0 0, .slice none 0 0, .slice none 0 0]) := HZ8.out.far (p := ⟨w.heap.size + 1, 2, none⟩) (by simp) _
            have HO9 : Hid ((w8.setCell ⟨w.heap.size + 1, 2, none⟩ (.slice B8 m d8)).ownsRow w.heap.size 30 4 (.slice B8 m d8) m (flat encGu gs)) := own_of_block HO8.out fun j hj => Below.heap_setCell _ _ _ j (fun e => own_apart HO8.out HC8.out (by decide) (by rw [hj, e]))
            have HQ9 : Hid ((w8.setCell ⟨w.heap.size + 1, 2, none⟩ (.slice B8 m d8)).ownsRow w.heap.size 54 5 (.slice Bq n dq) n (flat encB (qs.map bk0))) := own_of_block HQ8.out fun j hj => Below.heap_setCell _ _ _ j (fun e => own_apart HQ8.out HC8.out (by decide) (by rw [hj, e]))
            refine bodyPost_ret (v := .tuple #[.agg #[.slice none 0 0, .slice Bq n dq, .slice B8 m d8, .slice none 0 0, .slice none 0 0], .int .i64 0]) (by simp [results, Tryz.results7, go_sem, r0, r1, r2, r3, r4]) rfl ?_
            refine ⟨⟨⟨none, 0, 0⟩, ⟨Bq, n, dq⟩, ⟨B8, m, d8⟩, ⟨none, 0, 0⟩, ⟨none, 0, 0⟩⟩, 0, rfl, E.out, fun _ => ?_, fun h => absurd rfl h, put5 HB9.out (Nat.le_refl _) _ _ _ _ _⟩
            exact ⟨rfl, rfl, rfl, Recs.of_own encB_len (own5 HQ9.out (fun j hj e => own_apart HQ9.out HZ9.out (by decide) (by rw [hj, e])) _ _ _ _ _) (by rw [List.length_map, HL.out]), Recs.of_own encGu_len (own5 HO9.out (fun j hj e => own_apart HO9.out HZ9.out (by decide) (by rw [hj, e])) _ _ _ _ _) HM.out, HGN.out⟩)
end Go.Proofs.YtdbcbbiplkikcaaGreat

namespace Go.Proofs.YtdbcbbiplkikcaaGreat
open Go.RowKit
set_option linter.unusedVariables false
theorem set13_bl {w : World} {g : Nat} {T : TypeId} {z0 z1 z2 z3 z4 z5 z6 z7 z8 z9 z10 z11 z12 : Value} (h : Bl w g T #[z0, z1, z2, z3, z4, z5, z6, z7, z8, z9, z10, z11, z12]) (a0 a1 a2 a3 a4 a5 a6 a7 a8 a9 a10 a11 a12 : Value) : Bl (((((((((((((w.setCell ⟨g, 0, none⟩ a0).setCell ⟨g, 1, none⟩ a1).setCell ⟨g, 2, none⟩ a2).setCell ⟨g, 3, none⟩ a3).setCell ⟨g, 4, none⟩ a4).setCell ⟨g, 5, none⟩ a5).setCell ⟨g, 6, none⟩ a6).setCell ⟨g, 7, none⟩ a7).setCell ⟨g, 8, none⟩ a8).setCell ⟨g, 9, none⟩ a9).setCell ⟨g, 10, none⟩ a10).setCell ⟨g, 11, none⟩ a11).setCell ⟨g, 12, none⟩ a12) g T #[a0, a1, a2, a3, a4, a5, a6, a7, a8, a9, a10, a11, a12] := by
  have := (((((((((((((h.put 0 a0).put 1 a1).put 2 a2).put 3 a3).put 4 a4).put 5 a5).put 6 a6).put 7 a7).put 8 a8).put 9 a9).put 10 a10).put 11 a11).put 12 a12)
  simpa using this
theorem put13 {w : World} {N g : Nat} {w' : World} (h : RowKit.Below N w w') (hg : N ≤ g) (a0 a1 a2 a3 a4 a5 a6 a7 a8 a9 a10 a11 a12 : Value) : RowKit.Below N w (((((((((((((w'.setCell ⟨g, 0, none⟩ a0).setCell ⟨g, 1, none⟩ a1).setCell ⟨g, 2, none⟩ a2).setCell ⟨g, 3, none⟩ a3).setCell ⟨g, 4, none⟩ a4).setCell ⟨g, 5, none⟩ a5).setCell ⟨g, 6, none⟩ a6).setCell ⟨g, 7, none⟩ a7).setCell ⟨g, 8, none⟩ a8).setCell ⟨g, 9, none⟩ a9).setCell ⟨g, 10, none⟩ a10).setCell ⟨g, 11, none⟩ a11).setCell ⟨g, 12, none⟩ a12) := (((((((((((((h.setCell (p := ⟨g, 0, none⟩) hg _).setCell (p := ⟨g, 1, none⟩) hg _).setCell (p := ⟨g, 2, none⟩) hg _).setCell (p := ⟨g, 3, none⟩) hg _).setCell (p := ⟨g, 4, none⟩) hg _).setCell (p := ⟨g, 5, none⟩) hg _).setCell (p := ⟨g, 6, none⟩) hg _).setCell (p := ⟨g, 7, none⟩) hg _).setCell (p := ⟨g, 8, none⟩) hg _).setCell (p := ⟨g, 9, none⟩) hg _).setCell (p := ⟨g, 10, none⟩) hg _).setCell (p := ⟨g, 11, none⟩) hg _).setCell (p := ⟨g, 12, none⟩) hg _)
theorem set4_bl {w : World} {g : Nat} {T : TypeId} {z0 z1 z2 z3 : Value} (h : Bl w g T #[z0, z1, z2, z3]) (a b c d : Value) : Bl ((((w.setCell ⟨g, 0, none⟩ a).setCell ⟨g, 1, none⟩ b).setCell ⟨g, 2, none⟩ c).setCell ⟨g, 3, none⟩ d) g T #[a, b, c, d] := by
  have := (((h.put 0 a).put 1 b).put 2 c).put 3 d
  simpa using this
def Mid4 (m : Mg) (W : World) (v7 : Value) (wx : World) : Prop :=
  ∃ (g7 : Nat) (a : Int), v7 = .pointer (some ⟨g7, 0, none⟩) ∧ Bl wx g7 48 #[.int .i64 31, .int .i64 0, .int .i64 m.frm, .int .i64 0, .int .i64 m.day, .int .i64 m.lot, .int .i64 2, .string ⟨#[]⟩, .string ⟨#[]⟩, .int .i64 m.qty, .int .i64 a, .slice none 0 0, .string ⟨#[]⟩] ∧ W.heap.size ≤ g7 ∧ RowKit.Below W.heap.size W wx
theorem Mid4.a {m : Mg} {W w5 : World} {a : Int} (hv5 : RowKit.Below W.heap.size W w5) : Mid4 m W (.pointer (some ⟨w5.heap.size, 0, none⟩)) (w5.alloc (.cells #[.int .i64 31, .int .i64 0, .int .i64 m.frm, .int .i64 0, .int .i64 m.day, .int .i64 m.lot, .int .i64 2, .string ⟨#[]⟩, .string ⟨#[]⟩, .int .i64 m.qty, .int .i64 a, .slice none 0 0, .string ⟨#[]⟩] 48)) :=
  ⟨w5.heap.size, a, rfl, Bl.new _ _ _, hv5.size, hv5.alloc hv5.size _⟩
theorem Mid4.b {m : Mg} {W w5 : World} {g : Nat} {a : Int} {z0 z1 z2 z3 z4 z5 z6 z7 z8 z9 z10 z11 z12 : Value} (hv5 : RowKit.Below W.heap.size W w5) (hz : Bl w5 g 48 #[z0, z1, z2, z3, z4, z5, z6, z7, z8, z9, z10, z11, z12]) (hg : W.heap.size ≤ g) : Mid4 m W (.pointer (some ⟨g, 0, none⟩)) (((((((((((((w5.setCell ⟨g, 0, none⟩ (.int .i64 31)).setCell ⟨g, 1, none⟩ (.int .i64 0)).setCell ⟨g, 2, none⟩ (.int .i64 m.frm)).setCell ⟨g, 3, none⟩ (.int .i64 0)).setCell ⟨g, 4, none⟩ (.int .i64 m.day)).setCell ⟨g, 5, none⟩ (.int .i64 m.lot)).setCell ⟨g, 6, none⟩ (.int .i64 2)).setCell ⟨g, 7, none⟩ (.string ⟨#[]⟩)).setCell ⟨g, 8, none⟩ (.string ⟨#[]⟩)).setCell ⟨g, 9, none⟩ (.int .i64 m.qty)).setCell ⟨g, 10, none⟩ (.int .i64 a)).setCell ⟨g, 11, none⟩ (.slice none 0 0)).setCell ⟨g, 12, none⟩ (.string ⟨#[]⟩)) :=
  ⟨g, a, rfl, set13_bl hz _ _ _ _ _ _ _ _ _ _ _ _ _, hg, put13 hv5 hg _ _ _ _ _ _ _ _ _ _ _ _ _⟩
theorem cenO_msgBox {N : Nat} {w w' : World} {H : Hds} {C : Cen} {g : Nat} {cs : Array Value} (h : CenO N w H C) (hg : Bl w g 48 cs) (hm : ∀ j, (Value.slice H.m.A H.m.n H.m.c).ownBlock = some j → j ≠ g) (hk : ∀ j, j ≠ g → w'.heap[j]? = w.heap[j]?) : CenO N w' H C :=
  ⟨own_of_block h.seen fun b e => hk b (fun e2 => own_apart h.seen hg (by decide) (by rw [e, e2])), own_of_block h.qs fun b e => hk b (fun e2 => own_apart h.qs hg (by decide) (by rw [e, e2])), own_of_block h.gs fun b e => hk b (fun e2 => own_apart h.gs hg (by decide) (by rw [e, e2])), own_of_block h.cov fun b e => hk b (fun e2 => own_apart h.cov hg (by decide) (by rw [e, e2])), own_of_block h.sent fun b e => hk b (hm b e),
    fun x hx => own_of_block (h.facts x hx) fun b e => hk b (fun e2 => own_apart (h.facts x hx) hg (by decide) (by rw [e, e2])), fun x hx => own_of_block (h.uses x hx) fun b e => hk b (fun e2 => own_apart (h.uses x hx) hg (by decide) (by rw [e, e2]))⟩
def GRel (h : Gh) (N : Nat) (w : World) (a : Gh) (B : Option Addr) (n' d : Nat) (er : Int) : Prop := er = 0 → a = h ∧ ∃ us' : List (Int × Int), GOk h us' ∧ us'.length = n' ∧ w.ownsRow N 32 2 (.slice B n' d) n' (flat enc2 us')
theorem GRel.alloc {h : Gh} {N : Nat} {w : World} {a : Gh} {B : Option Addr} {n' d : Nat} {er : Int} (k : GRel h N w a B n' d er) (o : Obj) : GRel h N (w.alloc o) a B n' d er := fun h0 => by
  obtain ⟨h1, us', h2, h3, h4⟩ := k h0
  exact ⟨h1, us', h2, h3, own_alloc h4 o⟩
theorem GRel.mono {h : Gh} {N M : Nat} {w : World} {a : Gh} {B : Option Addr} {n' d : Nat} {er : Int} (k : GRel h N w a B n' d er) (hM : M ≤ N) : GRel h M w a B n' d er := fun h0 => by
  obtain ⟨h1, us', h2, h3, h4⟩ := k h0
  exact ⟨h1, us', h2, h3, h4.mono hM⟩
theorem GRel.set4 {h : Gh} {N : Nat} {w : World} {a : Gh} {B : Option Addr} {n' d : Nat} {er : Int} {g : Nat} {cs0 : Array Value} (k : GRel h N w a B n' d er) (hg : Bl w g 30 cs0) (v0 v1 v2 v3 : Value) : GRel h N ((((w.setCell ⟨g, 0, none⟩ v0).setCell ⟨g, 1, none⟩ v1).setCell ⟨g, 2, none⟩ v2).setCell ⟨g, 3, none⟩ v3) a B n' d er := fun h0 => by
  obtain ⟨h1, us', h2, h3, h4⟩ := k h0
  exact ⟨h1, us', h2, h3, own4 h4 (fun j hj e => own_apart h4 hg (by decide) (by rw [hj, e])) _ _ _ _⟩
def Mid7 (W : World) (h : Gh) (v9 v10 : Value) (wx : World) : Prop :=
  ∃ (g9 : Nat) (a : Gh) (B : Option Addr) (n' d : Nat) (er : Int), v9 = .pointer (some ⟨g9, 0, none⟩) ∧ v10 = .int .i64 er ∧ Bl wx g9 30 #[.int .i64 a.id, .int .i64 a.ref, .int .i64 a.lev, .slice B n' d] ∧ W.heap.size ≤ g9 ∧ RowKit.Below W.heap.size W wx ∧ GRel h W.heap.size wx a B n' d er
theorem Mid7.a {W w5 : World} {h : Gh} {a : Gh} {B : Option Addr} {n' d : Nat} {er : Int} (hv5 : RowKit.Below W.heap.size W w5) (hr : GRel h W.heap.size w5 a B n' d er) : Mid7 W h (.pointer (some ⟨w5.heap.size, 0, none⟩)) (.int .i64 er) (w5.alloc (.cells #[.int .i64 a.id, .int .i64 a.ref, .int .i64 a.lev, .slice B n' d] 30)) :=
  ⟨w5.heap.size, a, B, n', d, er, rfl, rfl, Bl.new _ _ _, hv5.size, hv5.alloc hv5.size _, hr.alloc _⟩
theorem Mid7.b {W w5 : World} {g : Nat} {h : Gh} {a : Gh} {B : Option Addr} {n' d : Nat} {er : Int} {z0 z1 z2 z3 : Value} (hv5 : RowKit.Below W.heap.size W w5) (hz : Bl w5 g 30 #[z0, z1, z2, z3]) (hg : W.heap.size ≤ g) (hr : GRel h W.heap.size w5 a B n' d er) : Mid7 W h (.pointer (some ⟨g, 0, none⟩)) (.int .i64 er) ((((w5.setCell ⟨g, 0, none⟩ (.int .i64 a.id)).setCell ⟨g, 1, none⟩ (.int .i64 a.ref)).setCell ⟨g, 2, none⟩ (.int .i64 a.lev)).setCell ⟨g, 3, none⟩ (.slice B n' d)) :=
  ⟨g, a, B, n', d, er, rfl, rfl, set4_bl hz _ _ _ _, hg, put4 hv5 hg _ _ _ _, hr.set4 hz _ _ _ _⟩
end Go.Proofs.YtdbcbbiplkikcaaGreat

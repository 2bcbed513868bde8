/-
  The walk of the law InvoiceValues. No statement of the seat is proved here. Conditions: the slices read as integers.
-/
import Derived.Test.YtknbbamlpadfdaaAwake17
namespace Go.Proofs.Ytknbbamlpadfdaa
open Go.RowKit
set_option linter.unusedVariables false

theorem exsz_of {ts : List Exch} (h : ∀ x ∈ ts, x.cur.size = 3) : ExSz ts := fun i hi => by
  rw [getElem!_pos ts i hi]
  rw [h _ (List.getElem_mem hi)]
  omega
theorem chsz_of {cs : List Chg} (h : ∀ x ∈ cs, x.cur.size = 3) : ChSz cs := fun i hi => by
  rw [getElem!_pos cs i hi]
  rw [h _ (List.getElem_mem hi)]
  omega

set_option maxRecDepth 100000 in
set_option maxHeartbeats 8000000 in
theorem walkInvoiceValues (A0 : Option Addr) (n0 c0 : Nat) (xs : List Int) (A1 : Option Addr) (n1 c1 : Nat) (ys : List Int) (w : World)
    (h0 : Ints w A0 n0 xs) (hl0 : n0 ≤ c0) (hc0 : c0 ≤ 9223372036854775807) (h1 : Ints w A1 n1 ys) (hl1 : n1 ≤ c1) (hc1 : c1 ≤ 9223372036854775807) :
    Calls Try.prog 4 #[.slice A0 n0 c0, .slice A1 n1 c1] w fun e w' => e = .returned (.bool true) ∧ RowKit.Below w.heap.size w w' := by
  go_enter Try.func4, Try.ntmps4
  go_wp2_with fail
  refine (invoice_any A1 n1 c1 ys w h1 hl1 hc1).mono ?_
  rintro e w1 ⟨cu, day, A, n, c, B, m, d, ls, cs, rfl, hcu, hie, hn, hm, hcs, hln, hcm, hol, hoc, hb1⟩
  have HCU : Hid (cu.size ≤ 9223372036854775807) := by show _ ≤ _; omega
  have HCS := Lib.hid (chsz_of hcs)
  have hl := Recs.of_own enc2_len hol hln
  have hc := Recs.of_own encC_len hoc hcm
  clear hcu hie hcs hln hcm hol hoc
  go_wp2_with fail
  refine (table_any A0 n0 c0 xs w1 (h0.below hb1) hl0 hc0).mono ?_
  rintro e w2 ⟨T, tn, tc, ts, rfl, htl, htn, hts, hot, hb2⟩
  have HTS := Lib.hid (exsz_of hts)
  have hT := Recs.of_own encX_len hot htl
  have hl2 := hl.below hb2
  have hc2 := hc.below hb2
  have hB2 := hb1.trans (hb2.mono hb1.size)
  clear hts htl hot hb1 hb2 hl hc h0 h1
  have hal : RowKit.Below w2.heap.size w2 (w2.alloc (.cells #[.string cu, .int .i64 day, .slice A n c, .slice B m d] 25)) := (Below.refl _ _).alloc (Nat.le_refl _) _
  have hx := Bl.new w2 25 #[.string cu, .int .i64 day, .slice A n c, .slice B m d]
  have hl3 := hl2.below hal
  have hc3 := hc2.below hal
  have hT3 := hT.below hal
  have hB3 := hB2.trans (hal.mono hB2.size)
  go_wp2_with fail
  generalize w2.alloc (.cells #[.string cu, .int .i64 day, .slice A n c, .slice B m d] 25) = W at *
  generalize w2.heap.size = gx at *
  clear hal hl2 hc2 hT hB2
  refine (values_any T tn tc ts cu day A B n c m d ls cs W hT3 (by omega) HTS.out HCU.out hl3 (by omega) hc3 (by omega) HCS.out).mono ?_
  rintro e w4 ⟨Av, nv, cv, rfl, hov, hb4⟩
  have hx4 := hx.keep hb4
  have p0 : w4.cell? ⟨gx, 0, none⟩ = some (.string cu) := hx4.cell 0
  have p1 : w4.cell? ⟨gx, 1, none⟩ = some (.int .i64 day) := hx4.cell 1
  have p2 : w4.cell? ⟨gx, 2, none⟩ = some (.slice A n c) := hx4.cell 2
  have p3 : w4.cell? ⟨gx, 3, none⟩ = some (.slice B m d) := hx4.cell 3
  have hl4 := hl3.below hb4
  have hc4 := hc3.below hb4
  have hT4 := hT3.below hb4
  have hB4 := hB3.trans (hb4.mono hB3.size)
  have hIv := IntsK.of_own hov
  have HLv := Lib.hid (own_len hov)
  have HMv := Lib.hid (own_le hov)
  clear hx hl3 hc3 hT3 hB3 hb4 hov
  go_wp2_with fail
  refine (rvalues_any T tn tc ts cu day A B n c m d ls cs w4 hT4 (by omega) HTS.out hl4 (by omega) hc4 (by omega)).mono ?_
  rintro e w5 ⟨Au, nu, cu2, rfl, hou, hb5⟩
  have hx5 := hx4.keep hb5
  have q0 : w5.cell? ⟨gx, 0, none⟩ = some (.string cu) := hx5.cell 0
  have q1 : w5.cell? ⟨gx, 1, none⟩ = some (.int .i64 day) := hx5.cell 1
  have q2 : w5.cell? ⟨gx, 2, none⟩ = some (.slice A n c) := hx5.cell 2
  have q3 : w5.cell? ⟨gx, 3, none⟩ = some (.slice B m d) := hx5.cell 3
  have hl5 := hl4.below hb5
  have hc5 := hc4.below hb5
  have hT5 := hT4.below hb5
  have hB5 := hB4.trans (hb5.mono hB4.size)
  have hIu := IntsK.of_own hou
  have hnn : nv = nu := by rw [← HLv.out, ← own_len hou]
  subst hnn
  have hIv5 := hIv.below hb5
  clear hx4 hl4 hc4 hT4 hB4 hb5 hou hIv p0 p1 p2 p3
  go_wp2_with fail
  refine (total_any T tn tc ts cu day A B n c m d ls cs w5 hT5 (by omega) HTS.out HCU.out hl5 (by omega) hc5 (by omega) HCS.out).mono ?_
  rintro e w6 ⟨rfl, hb6⟩
  have hx6 := hx5.keep hb6
  have r0 : w6.cell? ⟨gx, 0, none⟩ = some (.string cu) := hx6.cell 0
  have r1 : w6.cell? ⟨gx, 1, none⟩ = some (.int .i64 day) := hx6.cell 1
  have r2 : w6.cell? ⟨gx, 2, none⟩ = some (.slice A n c) := hx6.cell 2
  have r3 : w6.cell? ⟨gx, 3, none⟩ = some (.slice B m d) := hx6.cell 3
  have hl6 := hl5.below hb6
  have hc6 := hc5.below hb6
  have hT6 := hT5.below hb6
  have hB6 := hB5.trans (hb6.mono hB5.size)
  have hIv6 := hIv5.below hb6
  have hIu6 := hIu.below hb6
  clear hx5 hl5 hc5 hT5 hB5 hb6 hIv5 hIu q0 q1 q2 q3
  go_wp2_with fail
  refine (rtotal_any T tn tc ts cu day A B n c m d ls cs w6 hT6 (by omega) HTS.out hl6 (by omega) hc6 (by omega)).mono ?_
  rintro e w7 ⟨rfl, hb7⟩
  have hB7 := hB6.trans (hb7.mono hB6.size)
  have hIv7 := hIv6.below hb7
  have hIu7 := hIu6.below hb7
  clear hx6 hl6 hc6 hT6 hB6 hb7 hIv6 hIu6 r0 r1 r2 r3
  generalize valErr ts cu.toList day ls cs = e1 at *
  generalize totErr ts cu.toList day ls cs = e2 at *
  generalize totOut ts cu.toList day ls cs = v2 at *
  generalize valOut ts cu.toList day ls cs = vs at *
  go_wp2_with fail
  refine (same_true Av Au nv cv cu2 vs w7 hIv7 hIu7 HMv.out).mono ?_
  rintro e w8 ⟨rfl, q, rfl⟩
  have hB8 := below_drewN hB7 q
  go_wp2_with fail
  refine (awake17_any _).mono ?_
  rintro e w9 ⟨rfl, hb9⟩
  go_wp2
  go_ret
  exact ⟨rfl, hB8.trans (hb9.mono hB8.size)⟩
end Go.Proofs.Ytknbbamlpadfdaa

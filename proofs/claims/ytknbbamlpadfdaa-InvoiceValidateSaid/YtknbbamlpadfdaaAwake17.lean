/-
  Contract of customslaw17.awake. No statement of the seat is proved here. No conditions.
-/
import Derived.Test.YtknbbamlpadfdaaMade17b
namespace Go.Proofs.Ytknbbamlpadfdaa
open Go.RowKit
set_option linter.unusedVariables false

theorem eur_list : (⟨#[69, 85, 82]⟩ : ByteArray).toList = eur := by rw [ByteArray.toList_eq]; rfl
def exL : List (Int × Int) := [(100, 0), (200, 0)]
def exC : List Chg := [⟨1, 10, (⟨#[69, 85, 82]⟩ : ByteArray), 1, 0⟩]
theorem ex_at : atErr [] eur 0 = 0 := by decide +kernel
theorem ex_inv : invErr 0 exL exC = 0 := by
  refine invErr_ok (by decide) (by decide) (by decide) (by decide) (by decide) (fun i hi => ?_) (fun i hi => ?_)
  · have : i = 0 ∨ i = 1 := by simp [exL] at hi; omega
    rcases this with rfl | rfl <;> (unfold lineOk; simp [exL])
  · have : i = 0 := by simpa [exC] using hi
    subst this
    unfold chgOk
    simp [exC, exL]
theorem ex_val (j : Nat) (hj : j < 2) : valTo [] eur 0 exL exC 1 j = shareI 300 [100, 200] j + shareI 10 [100, 200] j := by
  have h1 := (conv_eur (t := []) (day := 0) (a := 300) (by omega) (by omega) ex_at).2
  have h2 := (conv_eur (t := []) (day := 0) (a := 10) (by omega) (by omega) ex_at).2
  have e1 : pricesOf exL = [100, 200] := rfl
  have e2 : exC[0]! = ⟨1, 10, (⟨#[69, 85, 82]⟩ : ByteArray), 1, 0⟩ := rfl
  unfold valTo
  rw [sumN_succ, sumN_zero, e2]
  unfold contrib partV
  dsimp only
  rw [e1, eur_list, show ([100, 200] : List Int).sum = 300 from rfl, h1, h2]
  simp
theorem ex_out : valErr [] eur 0 exL exC = 0 ∧ valOut [] eur 0 exL exC = [103, 207] ∧ totErr [] eur 0 exL exC = 0 ∧ totOut [] eur 0 exL exC = 310 := by
  have s0 : shareI 300 [100, 200] 0 + shareI 10 [100, 200] 0 = 103 := by decide +kernel
  have s1 : shareI 300 [100, 200] 1 + shareI 10 [100, 200] 1 = 207 := by decide +kernel
  have v0 := (ex_val 0 (by omega)).trans s0
  have v1 := (ex_val 1 (by omega)).trans s1
  have c1 := (conv_eur (t := []) (day := 0) (a := 300) (by omega) (by omega) ex_at).1
  have c2 := (conv_eur (t := []) (day := 0) (a := 10) (by omega) (by omega) ex_at).1
  have e : valErr [] eur 0 exL exC = 0 := by
    rw [val_end ex_inv (by decide) c1 (fun i hi => by
      have : i = 0 := by simpa [exC] using hi
      subst this
      unfold chgErr
      rw [show exC[0]! = ⟨1, 10, (⟨#[69, 85, 82]⟩ : ByteArray), 1, 0⟩ from rfl, if_neg (by decide)]
      rw [eur_list]; exact c2)]
    exact endErr_ok (fun j hj => by
      have : j = 0 ∨ j = 1 := by simp [exL] at hj; omega
      rcases this with rfl | rfl
      · show 0 ≤ valTo [] eur 0 exL exC 1 0 ∧ valTo [] eur 0 exL exC 1 0 ≤ _; rw [v0]; omega
      · show 0 ≤ valTo [] eur 0 exL exC 1 1 ∧ valTo [] eur 0 exL exC 1 1 ≤ _; rw [v1]; omega)
  have o : valOut [] eur 0 exL exC = [103, 207] := by
    unfold valOut
    rw [if_pos e]
    show [valTo [] eur 0 exL exC 1 0, valTo [] eur 0 exL exC 1 1] = _
    rw [v0, v1]
  have t := tot_ok e (by rw [o]; decide)
  rw [o] at t
  exact ⟨e, o, t.1, t.2⟩
theorem ex_none : invErr 0 [] [] = 8 := by decide +kernel

theorem lit_recs (w : World) (T : TypeId) (xs : List (Int × Int)) : Recs enc2 2 (w.alloc (.cells (flat enc2 xs).toArray T)) (some ⟨w.heap.size, 0, none⟩) xs.length xs :=
  ⟨rfl, fun _ => ⟨w.heap.size, 0, rfl, by simp, fun i hi c hc => by
    rw [Nat.zero_add, (Bl.new w T _).cell]
    simpa using flat_get enc2_len xs i c hi hc⟩⟩
theorem lit_chgs (w : World) (o : Obj) (T : TypeId) (xs : List Chg) : Recs encC 5 ((w.alloc o).alloc (.cells (flat encC xs).toArray T)) (some ⟨w.heap.size + 1, 0, none⟩) xs.length xs :=
  ⟨rfl, fun _ => ⟨w.heap.size + 1, 0, rfl, by simp, fun i hi c hc => by
    rw [Nat.zero_add, (Bl.new1 w o T _).cell]
    simpa using flat_get encC_len xs i c hi hc⟩⟩

set_option maxRecDepth 100000 in
set_option maxHeartbeats 4000000 in
theorem awake17_any (w : World) : Calls Try.prog 14 #[] w fun e w' => e = .returned (.bool true) ∧ RowKit.Below w.heap.size w w' := by
  have HL : Hid (Recs enc2 2 (w.alloc (.cells #[.int .i64 100, .int .i64 0, .int .i64 200, .int .i64 0] 35)) (some ⟨w.heap.size, 0, none⟩) 2 exL) := lit_recs w 35 exL
  have HC : Hid (Recs encC 5 ((w.alloc (.cells #[.int .i64 100, .int .i64 0, .int .i64 200, .int .i64 0] 35)).alloc (.cells #[.int .i64 1, .int .i64 10, .string ⟨#[69, 85, 82]⟩, .int .i64 1, .int .i64 0] 33)) (some ⟨w.heap.size + 1, 0, none⟩) 1 exC) := lit_chgs w _ 33 exC
  have hB : RowKit.Below w.heap.size w (((w.alloc (.cells #[.int .i64 100, .int .i64 0, .int .i64 200, .int .i64 0] 35)).alloc (.cells #[.int .i64 1, .int .i64 10, .string ⟨#[69, 85, 82]⟩, .int .i64 1, .int .i64 0] 33)).alloc (.cells #[.string ⟨#[69, 85, 82]⟩, .int .i64 0, .slice (some ⟨w.heap.size, 0, none⟩) 2 2, .slice (some ⟨w.heap.size + 1, 0, none⟩) 1 1] 25)) := (((Below.refl _ _).alloc (Nat.le_refl _) _).alloc (by simp) _).alloc (by simp; omega) _
  have hl := (HL.out.alloc (.cells #[.int .i64 1, .int .i64 10, .string ⟨#[69, 85, 82]⟩, .int .i64 1, .int .i64 0] 33)).alloc (.cells #[.string ⟨#[69, 85, 82]⟩, .int .i64 0, .slice (some ⟨w.heap.size, 0, none⟩) 2 2, .slice (some ⟨w.heap.size + 1, 0, none⟩) 1 1] 25)
  have hc := HC.out.alloc (.cells #[.string ⟨#[69, 85, 82]⟩, .int .i64 0, .slice (some ⟨w.heap.size, 0, none⟩) 2 2, .slice (some ⟨w.heap.size + 1, 0, none⟩) 1 1] 25)
  have hx := Bl.new ((w.alloc (.cells #[.int .i64 100, .int .i64 0, .int .i64 200, .int .i64 0] 35)).alloc (.cells #[.int .i64 1, .int .i64 10, .string ⟨#[69, 85, 82]⟩, .int .i64 1, .int .i64 0] 33)) 25 #[.string ⟨#[69, 85, 82]⟩, .int .i64 0, .slice (some ⟨w.heap.size, 0, none⟩) 2 2, .slice (some ⟨w.heap.size + 1, 0, none⟩) 1 1]
  have hz : ((w.alloc (.cells #[.int .i64 100, .int .i64 0, .int .i64 200, .int .i64 0] 35)).alloc (.cells #[.int .i64 1, .int .i64 10, .string ⟨#[69, 85, 82]⟩, .int .i64 1, .int .i64 0] 33)).heap.size = w.heap.size + 1 + 1 := by simp
  rw [hz] at hx
  have HCZ : Hid (ChSz exC) := fun i hi => by
    have : i = 0 := by simpa [exC] using hi
    subst this
    decide
  clear HL HC hz
  go_enter Try.func14, Try.ntmps14
  go_wp2_with fail
  generalize ((w.alloc (.cells #[.int .i64 100, .int .i64 0, .int .i64 200, .int .i64 0] 35)).alloc (.cells #[.int .i64 1, .int .i64 10, .string ⟨#[69, 85, 82]⟩, .int .i64 1, .int .i64 0] 33)).alloc (.cells #[.string ⟨#[69, 85, 82]⟩, .int .i64 0, .slice (some ⟨w.heap.size, 0, none⟩) 2 2, .slice (some ⟨w.heap.size + 1, 0, none⟩) 1 1] 25) = W at *
  have hxl := hx.lt
  have HV := Lib.hid (values_any none 0 0 [] (⟨#[69, 85, 82]⟩ : ByteArray) 0 (some ⟨w.heap.size, 0, none⟩) (some ⟨w.heap.size + 1, 0, none⟩) 2 2 1 1 exL exC W Recs.nil (by omega) (fun i hi => absurd hi (by simp)) (by decide) hl (by omega) hc (by omega) HCZ.out)
  rw [eur_list, ex_out.1, ex_out.2.1] at HV
  refine HV.out.mono ?_
  rintro e w1 ⟨A1, n1, c1, rfl, ho1, hb1⟩
  have hn1 := own_len ho1
  have hn2 : n1 = 2 := by simpa using hn1.symm
  subst hn2
  have hI1 := IntsK.of_own ho1
  have hx1 := hx.keep hb1
  have y0 : w1.cell? ⟨w.heap.size + 1 + 1, 0, none⟩ = some (.string ⟨#[69, 85, 82]⟩) := hx1.cell 0
  have y1 : w1.cell? ⟨w.heap.size + 1 + 1, 1, none⟩ = some (.int .i64 0) := hx1.cell 1
  have y2 : w1.cell? ⟨w.heap.size + 1 + 1, 2, none⟩ = some (.slice (some ⟨w.heap.size, 0, none⟩) 2 2) := hx1.cell 2
  have y3 : w1.cell? ⟨w.heap.size + 1 + 1, 3, none⟩ = some (.slice (some ⟨w.heap.size + 1, 0, none⟩) 1 1) := hx1.cell 3
  have hB1 := hB.trans (hb1.mono hB.size)
  have HT := Lib.hid (total_any none 0 0 [] (⟨#[69, 85, 82]⟩ : ByteArray) 0 (some ⟨w.heap.size, 0, none⟩) (some ⟨w.heap.size + 1, 0, none⟩) 2 2 1 1 exL exC w1 Recs.nil (by omega) (fun i hi => absurd hi (by simp)) (by decide) (hl.below hb1) (by omega) (hc.below hb1) (by omega) HCZ.out)
  rw [eur_list, ex_out.2.2.1, ex_out.2.2.2] at HT
  clear HV ho1 hb1 hx1 hx
  go_wp2_with fail
  refine HT.out.mono ?_
  rintro e w2 ⟨rfl, hb2⟩
  have hB2 := hB1.trans (hb2.mono hB1.size)
  have HS := Lib.hid (same_true A1 (some ⟨w2.heap.size, 0, none⟩) 2 c1 2 [103, 207] _ ((hI1.below hb2).alloc (.cells #[.int .i64 103, .int .i64 207] 3)) (lit_ints w2 3 [103, 207]) (by omega))
  have hB3 := hB2.alloc hB2.size (.cells #[.int .i64 103, .int .i64 207] 3)
  clear HT hb2 y0 y1 y2 y3 hI1
  go_wp2_with fail
  refine HS.out.mono ?_
  rintro e w3 ⟨rfl, q, rfl⟩
  have hB4 := below_drewN hB3 q
  have HV2 := Lib.hid (fun w => validate17_any ⟨#[]⟩ 0 none none 0 0 0 0 [] [] w Recs.nil (by omega) Recs.nil (by omega))
  rw [ex_none] at HV2
  go_wp2_with fail
  refine (HV2.out _).mono ?_
  rintro e w4 ⟨rfl, hb4⟩
  go_wp2
  go_ret
  exact ⟨rfl, hB4.trans (hb4.mono hB4.size)⟩
end Go.Proofs.Ytknbbamlpadfdaa

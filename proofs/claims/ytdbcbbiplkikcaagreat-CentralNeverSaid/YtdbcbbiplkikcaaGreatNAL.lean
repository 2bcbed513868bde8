/-
  Contracts of message.isCountry, message.Validate and central.refuse. No statement of the seat is proved here. Conditions: the list reads as integers, the strings' lengths fit an int.
  The contract of central.refuse. No statement of the seat is proved here. Conditions: as message.Validate's.
  How messages that came in are opened. No statement of the seat is proved here. No conditions.
  Rows of the call's own: one cell of one element is written. No statement of the seat is proved here. No conditions.
  The contract of central.send. No statement of the seat is proved here. Conditions: rows of the call's own; at most 100000 messages.
-/
import Derived.Test.YtdbcbbiplkikcaaGreatNAK
import Derived.Test.YtdbcbbiplkikcaaGreatNAI
import Derived.Deep.AppendLies
import Derived.Test.YtdbcbbiplkikcaaGreatNAE
namespace Go.Proofs.YtdbcbbiplkikcaaGreat
open Go.RowKit
set_option linter.unusedVariables false

structure Mg where
  kind : Int
  frm : Int
  dst : Int
  num : Int
  day : Int
  lot : Int
  oth : Int
  code : ByteArray
  ctry : ByteArray
  qty : Int
  amt : Int
  LA : Option Addr
  ln : Nat
  lc : Nat
  text : ByteArray
def mB (m : Mg) : Bool := outB m.kind 1 60 || outB m.frm 0 999 || outB m.dst 0 999 || outB m.num 0 1000000000 || outB m.day 0 36524 || outB m.lot 0 1000000000 || outB m.oth 0 1000000000 || outB m.qty 0 1000000000 || outB m.amt (-1000000000000) 1000000000000
set_option maxHeartbeats 2000000 in
theorem isCountry_any (s : ByteArray) (w : World) (hs : s.size ≤ 9223372036854775807) : Calls Tryz.prog 105 #[.string s] w (StrRes s w) := by
  have HC := Lib.hid (fun w => consists_any s 65 90 w hs)
  cases h0 : s.toList.isEmpty
  case true =>
    go_enter Tryz.func105, Tryz.ntmps105
    go_wp2
    go_ret
    exact ⟨⟨_, rfl, fun _ => rfl⟩, rfl⟩
  case false =>
    have HN : Hid (s.size ≠ 0) := fun e => by
      have h1 : s.toList.length = 0 := by rw [ByteArray.toList_eq]; simpa using e
      rw [List.eq_nil_of_length_eq_zero h1] at h0
      cases h0
    by_cases h2 : s.size = 2
    · have d2 : ((s.size : Int) == 2) = true := by simp; omega
      go_enter Tryz.func105, Tryz.ntmps105
      go_wp2_with fail
      refine (HC.out _).mono ?_
      rintro e w1 ⟨⟨b, rfl, hb⟩, rfl⟩
      go_wp2
      go_ret
      exact ⟨⟨b, rfl, hb⟩, rfl⟩
    · have d2 : ((s.size : Int) == 2) = false := by simp; omega
      go_enter Tryz.func105, Tryz.ntmps105
      go_wp2
      go_ret
      exact ⟨⟨_, rfl, fun h => absurd h HN.out⟩, rfl⟩
def MvRes (m : Mg) (w : World) (e : Ending) (w' : World) : Prop := ∃ er : Int, e = .returned (.int .i64 er) ∧ (er = 0 → mB m = false) ∧ (mB m = false → m.code.size = 0 → m.ctry.size = 0 → m.ln = 0 → m.text.size = 0 → er = 0) ∧ RowKit.Below w.heap.size w w'
theorem MvRes.bad {m : Mg} {w w' : World} {er : Int} (h : mB m = true) (hne : er ≠ 0) (hb : RowKit.Below w.heap.size w w') : MvRes m w (.returned (.int .i64 er)) w' := ⟨er, rfl, fun h0 => absurd h0 hne, fun h1 => by (rw [h] at h1; cases h1), hb⟩

set_option maxRecDepth 100000 in
set_option maxHeartbeats 8000000 in
theorem mvalidate_any (m : Mg) (ls : List Int) (w : World) (h : Ints w m.LA m.ln ls) (hc : m.code.size ≤ 9223372036854775807) (hy : m.ctry.size ≤ 9223372036854775807) (hln : m.ln ≤ 9223372036854775807) (htx : m.text.size ≤ 9223372036854775807) :
    Calls Tryz.prog 69 #[.agg #[.int .i64 m.kind, .int .i64 m.frm, .int .i64 m.dst, .int .i64 m.num, .int .i64 m.day, .int .i64 m.lot, .int .i64 m.oth, .string m.code, .string m.ctry, .int .i64 m.qty, .int .i64 m.amt, .slice m.LA m.ln m.lc, .string m.text]] w (MvRes m w) := by
  obtain ⟨LA, hLA⟩ : ∃ x, m.LA = x := ⟨_, rfl⟩
  rw [hLA] at h ⊢
  clear hLA
  have HOUT := Lib.hid (fun n lo hi w => outside_any n lo hi w)
  have HCO := Lib.hid (fun w => isCode_any m.code w hc)
  have HCY := Lib.hid (fun w => isCountry_any m.ctry w hy)
  have hx := Bl.new w 48 #[.int .i64 m.kind, .int .i64 m.frm, .int .i64 m.dst, .int .i64 m.num, .int .i64 m.day, .int .i64 m.lot, .int .i64 m.oth, .string m.code, .string m.ctry, .int .i64 m.qty, .int .i64 m.amt, .slice LA m.ln m.lc, .string m.text]
  have hb0 : RowKit.Below w.heap.size w (w.alloc (.cells #[.int .i64 m.kind, .int .i64 m.frm, .int .i64 m.dst, .int .i64 m.num, .int .i64 m.day, .int .i64 m.lot, .int .i64 m.oth, .string m.code, .string m.ctry, .int .i64 m.qty, .int .i64 m.amt, .slice LA m.ln m.lc, .string m.text] 48)) := (Below.refl _ _).alloc (Nat.le_refl _) _
  have HIW := Lib.hid h
  clear h
  go_enter Tryz.func69, Tryz.ntmps69
  go_upto_region 1 with (fail)
  generalize w.alloc (.cells #[.int .i64 m.kind, .int .i64 m.frm, .int .i64 m.dst, .int .i64 m.num, .int .i64 m.day, .int .i64 m.lot, .int .i64 m.oth, .string m.code, .string m.ctry, .int .i64 m.qty, .int .i64 m.amt, .slice LA m.ln m.lc, .string m.text] 48) = W0 at *
  have c0 : W0.cell? ⟨w.heap.size, 0, none⟩ = some (.int .i64 m.kind) := hx.cell 0
  have c1 : W0.cell? ⟨w.heap.size, 1, none⟩ = some (.int .i64 m.frm) := hx.cell 1
  have c2 : W0.cell? ⟨w.heap.size, 2, none⟩ = some (.int .i64 m.dst) := hx.cell 2
  have c3 : W0.cell? ⟨w.heap.size, 3, none⟩ = some (.int .i64 m.num) := hx.cell 3
  have c4 : W0.cell? ⟨w.heap.size, 4, none⟩ = some (.int .i64 m.day) := hx.cell 4
  have c5 : W0.cell? ⟨w.heap.size, 5, none⟩ = some (.int .i64 m.lot) := hx.cell 5
  have c6 : W0.cell? ⟨w.heap.size, 6, none⟩ = some (.int .i64 m.oth) := hx.cell 6
  have c7 : W0.cell? ⟨w.heap.size, 7, none⟩ = some (.string m.code) := hx.cell 7
  have c8 : W0.cell? ⟨w.heap.size, 8, none⟩ = some (.string m.ctry) := hx.cell 8
  have c9 : W0.cell? ⟨w.heap.size, 9, none⟩ = some (.int .i64 m.qty) := hx.cell 9
  have c10 : W0.cell? ⟨w.heap.size, 10, none⟩ = some (.int .i64 m.amt) := hx.cell 10
  have c11 : W0.cell? ⟨w.heap.size, 11, none⟩ = some (.slice LA m.ln m.lc) := hx.cell 11
  have c12 : W0.cell? ⟨w.heap.size, 12, none⟩ = some (.string m.text) := hx.cell 12
  obtain ⟨b0, hb0⟩ : ∃ b, outB m.kind 1 60 = b := ⟨_, rfl⟩
  have HO0 : Hid (Calls Tryz.prog 103 #[.int .i64 m.kind, .int .i64 1, .int .i64 60] W0 fun e w' => e = .returned (.bool b0) ∧ w' = W0) := by show Calls _ _ _ _ _; rw [← hb0]; exact HOUT.out _ _ _ _
  have HE0 := Lib.hid hb0
  clear hb0
  go_wp2_with fail
  refine HO0.out.mono ?_
  rintro e w1 ⟨rfl, hw⟩
  obtain rfl : W0 = w1 := hw.symm
  clear hw
  cases b0
  case true =>
    have E : Hid (mB m = true) := by show _ = _; simp [mB, HE0.out]
    go_wp2
    go_ret
    exact MvRes.bad E.out (by decide) hb0

  obtain ⟨b1, hb1⟩ : ∃ b, outB m.frm 0 999 = b := ⟨_, rfl⟩
  have HO1 : Hid (Calls Tryz.prog 103 #[.int .i64 m.frm, .int .i64 0, .int .i64 999] W0 fun e w' => e = .returned (.bool b1) ∧ w' = W0) := by show Calls _ _ _ _ _; rw [← hb1]; exact HOUT.out _ _ _ _
  have HE1 := Lib.hid hb1
  clear hb1
  go_wp2_with fail
  refine HO1.out.mono ?_
  rintro e w1 ⟨rfl, hw⟩
  obtain rfl : W0 = w1 := hw.symm
  clear hw
  cases b1
  case true =>
    have E : Hid (mB m = true) := by show _ = _; simp [mB, HE1.out]
    go_wp2
    go_ret
    exact MvRes.bad E.out (by decide) hb0

  obtain ⟨b2, hb2⟩ : ∃ b, outB m.dst 0 999 = b := ⟨_, rfl⟩
  have HO2 : Hid (Calls Tryz.prog 103 #[.int .i64 m.dst, .int .i64 0, .int .i64 999] W0 fun e w' => e = .returned (.bool b2) ∧ w' = W0) := by show Calls _ _ _ _ _; rw [← hb2]; exact HOUT.out _ _ _ _
  have HE2 := Lib.hid hb2
  clear hb2
  go_wp2_with fail
  refine HO2.out.mono ?_
  rintro e w1 ⟨rfl, hw⟩
  obtain rfl : W0 = w1 := hw.symm
  clear hw
  cases b2
  case true =>
    have E : Hid (mB m = true) := by show _ = _; simp [mB, HE2.out]
    go_wp2
    go_ret
    exact MvRes.bad E.out (by decide) hb0

  obtain ⟨b3, hb3⟩ : ∃ b, outB m.num 0 1000000000 = b := ⟨_, rfl⟩
  have HO3 : Hid (Calls Tryz.prog 103 #[.int .i64 m.num, .int .i64 0, .int .i64 1000000000] W0 fun e w' => e = .returned (.bool b3) ∧ w' = W0) := by show Calls _ _ _ _ _; rw [← hb3]; exact HOUT.out _ _ _ _
  have HE3 := Lib.hid hb3
  clear hb3
  go_wp2_with fail
  refine HO3.out.mono ?_
  rintro e w1 ⟨rfl, hw⟩
  obtain rfl : W0 = w1 := hw.symm
  clear hw
  cases b3
  case true =>
    have E : Hid (mB m = true) := by show _ = _; simp [mB, HE3.out]
    go_wp2
    go_ret
    exact MvRes.bad E.out (by decide) hb0

  obtain ⟨b4, hb4⟩ : ∃ b, outB m.day 0 36524 = b := ⟨_, rfl⟩
  have HO4 : Hid (Calls Tryz.prog 103 #[.int .i64 m.day, .int .i64 0, .int .i64 36524] W0 fun e w' => e = .returned (.bool b4) ∧ w' = W0) := by show Calls _ _ _ _ _; rw [← hb4]; exact HOUT.out _ _ _ _
  have HE4 := Lib.hid hb4
  clear hb4
  go_wp2_with fail
  refine HO4.out.mono ?_
  rintro e w1 ⟨rfl, hw⟩
  obtain rfl : W0 = w1 := hw.symm
  clear hw
  cases b4
  case true =>
    have E : Hid (mB m = true) := by show _ = _; simp [mB, HE4.out]
    go_wp2
    go_ret
    exact MvRes.bad E.out (by decide) hb0

  obtain ⟨b5, hb5⟩ : ∃ b, outB m.lot 0 1000000000 = b := ⟨_, rfl⟩
  have HO5 : Hid (Calls Tryz.prog 103 #[.int .i64 m.lot, .int .i64 0, .int .i64 1000000000] W0 fun e w' => e = .returned (.bool b5) ∧ w' = W0) := by show Calls _ _ _ _ _; rw [← hb5]; exact HOUT.out _ _ _ _
  have HE5 := Lib.hid hb5
  clear hb5
  go_wp2_with fail
  refine HO5.out.mono ?_
  rintro e w1 ⟨rfl, hw⟩
  obtain rfl : W0 = w1 := hw.symm
  clear hw
  cases b5
  case true =>
    have E : Hid (mB m = true) := by show _ = _; simp [mB, HE5.out]
    go_wp2
    go_ret
    exact MvRes.bad E.out (by decide) hb0

  obtain ⟨b6, hb6⟩ : ∃ b, outB m.oth 0 1000000000 = b := ⟨_, rfl⟩
  have HO6 : Hid (Calls Tryz.prog 103 #[.int .i64 m.oth, .int .i64 0, .int .i64 1000000000] W0 fun e w' => e = .returned (.bool b6) ∧ w' = W0) := by show Calls _ _ _ _ _; rw [← hb6]; exact HOUT.out _ _ _ _
  have HE6 := Lib.hid hb6
  clear hb6
  go_wp2_with fail
  refine HO6.out.mono ?_
  rintro e w1 ⟨rfl, hw⟩
  obtain rfl : W0 = w1 := hw.symm
  clear hw
  cases b6
  case true =>
    have E : Hid (mB m = true) := by show _ = _; simp [mB, HE6.out]
    go_wp2
    go_ret
    exact MvRes.bad E.out (by decide) hb0

  obtain ⟨b7, hb7⟩ : ∃ b, outB m.qty 0 1000000000 = b := ⟨_, rfl⟩
  have HO7 : Hid (Calls Tryz.prog 103 #[.int .i64 m.qty, .int .i64 0, .int .i64 1000000000] W0 fun e w' => e = .returned (.bool b7) ∧ w' = W0) := by show Calls _ _ _ _ _; rw [← hb7]; exact HOUT.out _ _ _ _
  have HE7 := Lib.hid hb7
  clear hb7
  go_wp2_with fail
  refine HO7.out.mono ?_
  rintro e w1 ⟨rfl, hw⟩
  obtain rfl : W0 = w1 := hw.symm
  clear hw
  cases b7
  case true =>
    have E : Hid (mB m = true) := by show _ = _; simp [mB, HE7.out]
    go_wp2
    go_ret
    exact MvRes.bad E.out (by decide) hb0

  obtain ⟨b8, hb8⟩ : ∃ b, outB m.amt (-1000000000000) 1000000000000 = b := ⟨_, rfl⟩
  have HO8 : Hid (Calls Tryz.prog 103 #[.int .i64 m.amt, .int .i64 (-1000000000000), .int .i64 1000000000000] W0 fun e w' => e = .returned (.bool b8) ∧ w' = W0) := by show Calls _ _ _ _ _; rw [← hb8]; exact HOUT.out _ _ _ _
  have HE8 := Lib.hid hb8
  clear hb8
  go_wp2_with fail
  refine HO8.out.mono ?_
  rintro e w1 ⟨rfl, hw⟩
  obtain rfl : W0 = w1 := hw.symm
  clear hw
  cases b8
  case true =>
    have E : Hid (mB m = true) := by show _ = _; simp [mB, HE8.out]
    go_wp2
    go_ret
    exact MvRes.bad E.out (by decide) hb0

  have HF : Hid (mB m = false) := by show _ = _; simp [mB, HE0.out, HE1.out, HE2.out, HE3.out, HE4.out, HE5.out, HE6.out, HE7.out, HE8.out]
  clear HO0 HO1 HO2 HO3 HO4 HO5 HO6 HO7 HO8
  go_wp2_with fail
  refine (HCO.out _).mono ?_
  rintro e w1 ⟨⟨b, rfl, hb⟩, hw⟩
  obtain rfl : W0 = w1 := hw.symm
  clear hw
  cases b
  case false =>
    have E := Lib.hid hb
    go_wp2
    go_ret
    exact ⟨1, rfl, fun h0 => by (cases h0), fun _ h1 => by (cases E.out h1), hb0⟩
  clear hb
  go_wp2_with fail
  refine (HCY.out _).mono ?_
  rintro e w1 ⟨⟨b, rfl, hb⟩, hw⟩
  obtain rfl : W0 = w1 := hw.symm
  clear hw
  cases b
  case false =>
    have E := Lib.hid hb
    go_wp2
    go_ret
    exact ⟨1, rfl, fun h0 => by (cases h0), fun _ _ h1 => by (cases E.out h1), hb0⟩
  clear hb
  by_cases h64 : 64 < m.ln
  · have d64 : (64 : Int) < (m.ln : Int) := by omega
    go_wp2
    go_ret
    exact ⟨8, rfl, fun h0 => by (cases h0), fun _ _ _ h1 => by omega, hb0⟩
  have d64 : ¬ (64 : Int) < (m.ln : Int) := by omega
  by_cases h200 : 200 < m.text.size
  · have d200 : (200 : Int) < (m.text.size : Int) := by omega
    go_wp2
    go_ret
    exact ⟨8, rfl, fun h0 => by (cases h0), fun _ _ _ _ h1 => by omega, hb0⟩
  have d200 : ¬ (200 : Int) < (m.text.size : Int) := by omega
  go_wp2_with fail
  go_loopw [57] (fun i wx => ∃ k : Nat, k ≤ m.ln ∧ i = .int .i64 k ∧ Hid (RowKit.Below w.heap.size w wx)) (fun i _ => m.ln - (intOf i).toNat)
  case atStart => exact ⟨0, Nat.zero_le _, rfl, hb0⟩
  case round =>
    clear hb0
    obtain ⟨k, hk, rfl, HB⟩ := hrel
    by_cases hlt : k < m.ln
    · obtain ⟨b, off, z, hA, hbl, hz, _⟩ := (HIW.out.below HB.out).get hlt
      subst hA
      have hki : (k : Int) < m.ln := by omega
      obtain ⟨bz, hbz⟩ : ∃ b, outB z (-1000000000000) 1000000000000 = b := ⟨_, rfl⟩
      have HO : Hid (Calls Tryz.prog 103 #[.int .i64 z, .int .i64 (-1000000000000), .int .i64 1000000000000] wr fun e w' => e = .returned (.bool bz) ∧ w' = wr) := by show Calls _ _ _ _ _; rw [← hbz]; exact HOUT.out _ _ _ _
      clear hbz
      go_wp2_with fail
      refine HO.out.mono ?_
      rintro e w1 ⟨rfl, hw⟩
      have HB1 : Hid (RowKit.Below w.heap.size w w1) := by rw [hw]; exact HB
      clear hw hz HB
      cases bz
      case true =>
        go_wp2
        go_ret
        exact ⟨2, rfl, fun h0 => by (cases h0), fun _ _ _ h1 _ => by omega, HB1.out⟩
      go_wp2_with fail
      go_roundw
      case rel => exact ⟨k + 1, by omega, by go_num, HB1⟩
      case measure => simp [intOf]; omega
    · obtain rfl : m.ln = k := by omega
      go_wp2
      go_ret
      exact ⟨0, rfl, fun _ => HF.out, fun _ _ _ _ _ => rfl, HB.out⟩
end Go.Proofs.YtdbcbbiplkikcaaGreat

namespace Go.Proofs.YtdbcbbiplkikcaaGreat
open Go.RowKit
set_option linter.unusedVariables false

structure MOk (m : Mg) : Prop where
  fields : mB m = false
  num : 1 ≤ m.num ∧ m.num ≤ 999999
  dst : m.dst = 0
  frm : 1 ≤ m.frm ∧ m.frm ≤ 9
  kind : m.kind = 50 ∨ m.kind = 51 ∨ m.kind = 52
def RfRes (m : Mg) (w : World) (e : Ending) (w' : World) : Prop := ∃ er : Int, e = .returned (.int .i64 er) ∧ (er = 0 → MOk m) ∧ (MOk m → m.code.size = 0 → m.ctry.size = 0 → m.ln = 0 → m.text.size = 0 → er = 0) ∧ RowKit.Below w.heap.size w w'
theorem RfRes.bad {m : Mg} {w w' : World} (h : ¬ MOk m) (hb : RowKit.Below w.heap.size w w') : RfRes m w (.returned (.int .i64 2)) w' := ⟨2, rfl, fun h0 => (by cases h0), fun h1 => absurd h1 h, hb⟩

set_option maxRecDepth 100000 in
set_option maxHeartbeats 8000000 in
theorem refuse_any (m : Mg) (ls : List Int) (w : World) (h : Ints w m.LA m.ln ls) (hc : m.code.size ≤ 9223372036854775807) (hy : m.ctry.size ≤ 9223372036854775807) (hln : m.ln ≤ 9223372036854775807) (htx : m.text.size ≤ 9223372036854775807) :
    Calls Tryz.prog 38 #[.agg #[.int .i64 m.kind, .int .i64 m.frm, .int .i64 m.dst, .int .i64 m.num, .int .i64 m.day, .int .i64 m.lot, .int .i64 m.oth, .string m.code, .string m.ctry, .int .i64 m.qty, .int .i64 m.amt, .slice m.LA m.ln m.lc, .string m.text]] w (RfRes m w) := by
  have hx := Bl.new w 48 #[.int .i64 m.kind, .int .i64 m.frm, .int .i64 m.dst, .int .i64 m.num, .int .i64 m.day, .int .i64 m.lot, .int .i64 m.oth, .string m.code, .string m.ctry, .int .i64 m.qty, .int .i64 m.amt, .slice m.LA m.ln m.lc, .string m.text]
  have hb0 : RowKit.Below w.heap.size w (w.alloc (.cells #[.int .i64 m.kind, .int .i64 m.frm, .int .i64 m.dst, .int .i64 m.num, .int .i64 m.day, .int .i64 m.lot, .int .i64 m.oth, .string m.code, .string m.ctry, .int .i64 m.qty, .int .i64 m.amt, .slice m.LA m.ln m.lc, .string m.text] 48)) := (Below.refl _ _).alloc (Nat.le_refl _) _
  have HV := Lib.hid (mvalidate_any m ls (w.alloc (.cells #[.int .i64 m.kind, .int .i64 m.frm, .int .i64 m.dst, .int .i64 m.num, .int .i64 m.day, .int .i64 m.lot, .int .i64 m.oth, .string m.code, .string m.ctry, .int .i64 m.qty, .int .i64 m.amt, .slice m.LA m.ln m.lc, .string m.text] 48)) (h.alloc _) hc hy hln htx)
  clear h
  go_enter Tryz.func38, Tryz.ntmps38
  go_upto_region 1 with (fail)
  generalize w.alloc (.cells #[.int .i64 m.kind, .int .i64 m.frm, .int .i64 m.dst, .int .i64 m.num, .int .i64 m.day, .int .i64 m.lot, .int .i64 m.oth, .string m.code, .string m.ctry, .int .i64 m.qty, .int .i64 m.amt, .slice m.LA m.ln m.lc, .string m.text] 48) = W0 at *
  have c0 : W0.cell? ⟨w.heap.size, 0, none⟩ = some (.int .i64 m.kind) := hx.cell 0
  have c1 : W0.cell? ⟨w.heap.size, 1, none⟩ = some (.int .i64 m.frm) := hx.cell 1
  have c2 : W0.cell? ⟨w.heap.size, 2, none⟩ = some (.int .i64 m.dst) := hx.cell 2
  have c3 : W0.cell? ⟨w.heap.size, 3, none⟩ = some (.int .i64 m.num) := hx.cell 3
  have c4 : W0.cell? ⟨w.heap.size, 4, none⟩ = some (.int .i64 m.day) := hx.cell 4
  have c5 : W0.cell? ⟨w.heap.size, 5, none⟩ = some (.int .i64 m.lot) := hx.cell 5
  have c6 : W0.cell? ⟨w.heap.size, 6, none⟩ = some (.int .i64 m.oth) := hx.cell 6
  have c7 : W0.cell? ⟨w.heap.size, 7, none⟩ = some (.string m.code) := hx.cell 7
  have c8 : W0.cell? ⟨w.heap.size, 8, none⟩ = some (.string m.ctry) := hx.cell 8
  have c9 : W0.cell? ⟨w.heap.size, 9, none⟩ = some (.int .i64 m.qty) := hx.cell 9
  have c10 : W0.cell? ⟨w.heap.size, 10, none⟩ = some (.int .i64 m.amt) := hx.cell 10
  have c11 : W0.cell? ⟨w.heap.size, 11, none⟩ = some (.slice m.LA m.ln m.lc) := hx.cell 11
  have c12 : W0.cell? ⟨w.heap.size, 12, none⟩ = some (.string m.text) := hx.cell 12
  go_wp2_with fail
  refine HV.out.mono ?_
  rintro e w1 ⟨er, rfl, hv1, hv2, hb1⟩
  have HB := Lib.hid (hb0.trans (hb1.mono hb0.size))
  have hx1 := hx.keep hb1
  clear c0 c1 c2 c3 c4 c5 c6 c7 c8 c9 c10 c11 c12 hx hb0 hb1 HV
  have c0 : w1.cell? ⟨w.heap.size, 0, none⟩ = some (.int .i64 m.kind) := hx1.cell 0
  have c1 : w1.cell? ⟨w.heap.size, 1, none⟩ = some (.int .i64 m.frm) := hx1.cell 1
  have c2 : w1.cell? ⟨w.heap.size, 2, none⟩ = some (.int .i64 m.dst) := hx1.cell 2
  have c3 : w1.cell? ⟨w.heap.size, 3, none⟩ = some (.int .i64 m.num) := hx1.cell 3
  by_cases ge : er = 0
  case neg =>
    have b1 : (er != 0) = true := by simpa using ge
    have V1 := Lib.hid hv1
    have V2 := Lib.hid hv2
    have GE := Lib.hid ge
    clear hv1 hv2 ge
    go_wp2
    go_ret
    exact ⟨er, rfl, fun h0 => absurd h0 GE.out, fun h1 => V2.out h1.fields, HB.out⟩
  subst ge
  have HF := Lib.hid (hv1 rfl)
  clear hv1 hv2
  by_cases g0 : m.num < 1
  case pos =>
    have d0 : decide (m.num < 1) = true := by simpa using g0
    have E : Hid (¬ MOk m) := fun h => by have := h.num.1; omega
    clear g0
    go_wp2
    go_ret
    exact RfRes.bad E.out HB.out
  have d0 : decide (m.num < 1) = false := by simpa using g0
  by_cases g1 : 999999 < m.num
  case pos =>
    have d1 : decide (999999 < m.num) = true := by simpa using g1
    have E : Hid (¬ MOk m) := fun h => by have := h.num.2; omega
    clear g1
    go_wp2
    go_ret
    exact RfRes.bad E.out HB.out
  have d1 : decide (999999 < m.num) = false := by simpa using g1
  by_cases g2 : m.dst = 0
  case neg =>
    have d2 : (m.dst != 0) = true := by simpa using g2
    have E : Hid (¬ MOk m) := fun h => g2 h.dst
    clear g2
    go_wp2
    go_ret
    exact RfRes.bad E.out HB.out
  have d2 : (m.dst != 0) = false := by simpa using g2
  by_cases g3 : m.frm < 1
  case pos =>
    have d3 : decide (m.frm < 1) = true := by simpa using g3
    have E : Hid (¬ MOk m) := fun h => by have := h.frm.1; omega
    clear g3
    go_wp2
    go_ret
    exact RfRes.bad E.out HB.out
  have d3 : decide (m.frm < 1) = false := by simpa using g3
  by_cases g4 : 9 < m.frm
  case pos =>
    have d4 : decide (9 < m.frm) = true := by simpa using g4
    have E : Hid (¬ MOk m) := fun h => by have := h.frm.2; omega
    clear g4
    go_wp2
    go_ret
    exact RfRes.bad E.out HB.out
  have d4 : decide (9 < m.frm) = false := by simpa using g4
  by_cases k50 : m.kind = 50
  case pos =>
    have b : (m.kind == 50) = true := by simpa using k50
    have E : Hid (MOk m) := ⟨HF.out, ⟨by omega, by omega⟩, g2, ⟨by omega, by omega⟩, by omega⟩
    clear g0 g1 g2 g3 g4
    go_wp2
    go_ret
    exact ⟨0, rfl, fun _ => E.out, fun _ _ _ _ _ => rfl, HB.out⟩
  have b50 : (m.kind == 50) = false := by simpa using k50
  by_cases k51 : m.kind = 51
  case pos =>
    have b : (m.kind == 51) = true := by simpa using k51
    have E : Hid (MOk m) := ⟨HF.out, ⟨by omega, by omega⟩, g2, ⟨by omega, by omega⟩, by omega⟩
    clear g0 g1 g2 g3 g4
    go_wp2
    go_ret
    exact ⟨0, rfl, fun _ => E.out, fun _ _ _ _ _ => rfl, HB.out⟩
  have b51 : (m.kind == 51) = false := by simpa using k51
  by_cases k52 : m.kind = 52
  case pos =>
    have b : (m.kind == 52) = true := by simpa using k52
    have E : Hid (MOk m) := ⟨HF.out, ⟨by omega, by omega⟩, g2, ⟨by omega, by omega⟩, by omega⟩
    clear g0 g1 g2 g3 g4
    go_wp2
    go_ret
    exact ⟨0, rfl, fun _ => E.out, fun _ _ _ _ _ => rfl, HB.out⟩
  have b52 : (m.kind == 52) = false := by simpa using k52
  have E : Hid (¬ MOk m) := fun h => by
    rcases h.kind with h | h | h <;> omega
  clear g0 g1 g2 g3 g4 k50 k51 k52
  go_wp2
  go_ret
  exact RfRes.bad E.out HB.out
end Go.Proofs.YtdbcbbiplkikcaaGreat

namespace Go.Proofs.YtdbcbbiplkikcaaGreat
open Go.RowKit Go.ChangeShapes Go.WideShapes Go.Deep
set_option linter.unusedVariables false

instance : Inhabited Mg := ⟨⟨0, 0, 0, 0, 0, 0, 0, ByteArray.empty, ByteArray.empty, 0, 0, none, 0, 0, ByteArray.empty⟩⟩
def encM (m : Mg) : List Value := [.int .i64 m.kind, .int .i64 m.frm, .int .i64 m.dst, .int .i64 m.num, .int .i64 m.day, .int .i64 m.lot, .int .i64 m.oth, .string m.code, .string m.ctry, .int .i64 m.qty, .int .i64 m.amt, .slice m.LA m.ln m.lc, .string m.text]
theorem encM_len (m : Mg) : (encM m).length = 13 := rfl
theorem encM_one (m : Mg) : ∀ v ∈ encM m, v.oneCell' = true := fun v hv => by
  simp [encM] at hv
  rcases hv with rfl | rfl | rfl | rfl | rfl | rfl | rfl | rfl | rfl | rfl | rfl | rfl | rfl <;> rfl
def MgIn (w : World) (m : Mg) : Prop := (∃ ls : List Int, Ints w m.LA m.ln ls) ∧ m.code.size ≤ 9223372036854775807 ∧ m.ctry.size ≤ 9223372036854775807 ∧ m.ln ≤ 9223372036854775807 ∧ m.text.size ≤ 9223372036854775807
theorem MgIn.below {w w' : World} {m : Mg} (h : MgIn w m) (hb : RowKit.Below w.heap.size w w') : MgIn w' m := by
  obtain ⟨⟨ls, h1⟩, h2⟩ := h
  exact ⟨⟨ls, h1.below hb⟩, h2⟩
theorem ints_of_recs {w : World} {A : Option Addr} {n : Nat} {zs : List Int} (h : Recs (fun z : Int => [Value.int .i64 z]) 1 w A n zs) : Ints w A n zs := by
  refine ⟨h.1, fun h0 => ?_⟩
  obtain ⟨b, off, e, hb, hc⟩ := h.2 h0
  refine ⟨b, off, e, hb, fun i hi => ?_⟩
  have := hc i hi 0 (by omega)
  rw [Nat.mul_one, Nat.add_zero] at this
  rw [this]
  have hl := h.1
  rw [getElem!_pos zs i (by omega)]
  simp [hl, hi]

section
variable {H : Type} {enc : TypeId × Value → H} {w : World} {base : Nat} {spare : Nat → Bool} {held : Bool}
set_option maxRecDepth 100000 in
theorem open_msgs {r : Reach} {b0 : Nat} {v : Value} {dd : DataW H} {p : List MemPlace} (hv : Value.okWide Tryz.prog w r b0 35 v) (h : DataW.Trod enc Tryz.prog w base spare held 35 v dd p) :
    ∃ (A : Option Addr) (n c : Nat) (ms : List Mg), v = .slice A n c ∧ Recs encM 13 w A n ms ∧ n ≤ c ∧ c ≤ 9223372036854775807 ∧ (A = none → n = 0 ∧ c = 0) ∧ ∀ m ∈ ms, MgIn w m := by
  obtain ⟨A, n, c, rfl⟩ := okWide_slice Tryz.underlying35 hv
  obtain ⟨fuel, hf⟩ := h
  obtain ⟨ms, h1, h2, h3, h4, h5⟩ := open_recs (en := encM) (Q := MgIn w) (k := 13) (by omega) Tryz.underlying35 (by kernel_rfl) (fun cs' n y hlen h2 => by
    obtain ⟨xs, m, _, _, _, hxl, hf⟩ := DataW.trod_struct Tryz.underlying48 h2
    match xs, hxl, cs', hlen with
    | [y0, y1, y2, y3, y4, y5, y6, y7, y8, y9, y10, y11, y12], _, [v0, v1, v2, v3, v4, v5, v6, v7, v8, v9, v10, v11, v12], _ =>
      have g0 := hf 0 _ rfl
      have g1 := hf 1 _ rfl
      have g2 := hf 2 _ rfl
      have g3 := hf 3 _ rfl
      have g4 := hf 4 _ rfl
      have g5 := hf 5 _ rfl
      have g6 := hf 6 _ rfl
      have g7 := hf 7 _ rfl
      have g8 := hf 8 _ rfl
      have g9 := hf 9 _ rfl
      have g10 := hf 10 _ rfl
      have g11 := hf 11 _ rfl
      have g12 := hf 12 _ rfl
      have ci : Tryz.prog.cellsOf 3 = 1 := by kernel_rfl
      have cs : Tryz.prog.cellsOf 9 = 1 := by kernel_rfl
      have cl : Tryz.prog.cellsOf 24 = 1 := by kernel_rfl
      simp [ci, cs, cl] at g0 g1 g2 g3 g4 g5 g6 g7 g8 g9 g10 g11 g12
      obtain ⟨z0, e0, _, _⟩ := DataW.trod_int Tryz.underlying3 g0
      obtain ⟨z1, e1, _, _⟩ := DataW.trod_int Tryz.underlying3 g1
      obtain ⟨z2, e2, _, _⟩ := DataW.trod_int Tryz.underlying3 g2
      obtain ⟨z3, e3, _, _⟩ := DataW.trod_int Tryz.underlying3 g3
      obtain ⟨z4, e4, _, _⟩ := DataW.trod_int Tryz.underlying3 g4
      obtain ⟨z5, e5, _, _⟩ := DataW.trod_int Tryz.underlying3 g5
      obtain ⟨z6, e6, _, _⟩ := DataW.trod_int Tryz.underlying3 g6
      obtain ⟨z7, e7, _, s7⟩ := DataW.trod_string Tryz.underlying9 g7
      obtain ⟨z8, e8, _, s8⟩ := DataW.trod_string Tryz.underlying9 g8
      obtain ⟨z9, e9, _, _⟩ := DataW.trod_int Tryz.underlying3 g9
      obtain ⟨z10, e10, _, _⟩ := DataW.trod_int Tryz.underlying3 g10
      obtain ⟨LA, ln, lc, e11⟩ := slice_cell Tryz.underlying24 g11
      obtain ⟨z12, e12, _, s12⟩ := DataW.trod_string Tryz.underlying9 g12
      simp at e0 e1 e2 e3 e4 e5 e6 e7 e8 e9 e10 e12
      subst e0 e1 e2 e3 e4 e5 e6 e7 e8 e9 e10 e11 e12
      obtain ⟨ls, k1, k2, k3, _⟩ := open_recs (en := fun z : Int => [Value.int .i64 z]) (Q := fun _ => True) (k := 1) (by omega) Tryz.underlying24 (by kernel_rfl) (fun cs' n y hlen h2 => by
        match cs', hlen with
        | [u], _ =>
          obtain ⟨z, e, _, _⟩ := DataW.trod_int Tryz.underlying3 h2
          simp at e
          subst e
          exact ⟨z, rfl, trivial⟩) g11
      exact ⟨⟨z0, z1, z2, z3, z4, z5, z6, z7, z8, z9, z10, LA, ln, lc, z12⟩, rfl, ⟨ls, ints_of_recs k1⟩, s7, s8, Nat.le_trans k2 k3, s12⟩) hf
  exact ⟨A, n, c, ms, rfl, h1, h2, h3, h4, h5⟩
end
end Go.Proofs.YtdbcbbiplkikcaaGreat

namespace Go.Proofs.YtdbcbbiplkikcaaGreat
open Go.RowKit
set_option linter.unusedVariables false

theorem flat_set {α : Type} [Inhabited α] {enc : α → List Value} {k : Nat} (hk : ∀ x, (enc x).length = k) {v : Value} {y : α} {c : Nat} (hc : c < k) : ∀ (xs : List α) (i : Nat), i < xs.length → enc y = (enc xs[i]!).set c v → flat enc (xs.set i y) = (flat enc xs).set (i * k + c) v := by
  intro xs
  induction xs with
  | nil => intro i h; cases h
  | cons x xs ih =>
    intro i h e
    cases i with
    | zero =>
      have e' : enc y = (enc x).set c v := e
      show enc y ++ flat enc xs = (enc x ++ flat enc xs).set (0 * k + c) v
      rw [Nat.zero_mul, Nat.zero_add, List.set_append_left _ _ (by rw [hk]; exact hc), e']
    | succ i =>
      have hi : i < xs.length := by simpa using h
      have e' : enc y = (enc xs[i]!).set c v := by simpa using e
      show enc x ++ flat enc (xs.set i y) = (enc x ++ flat enc xs).set ((i + 1) * k + c) v
      have h1 : (i + 1) * k + c = k + (i * k + c) := by rw [Nat.add_mul, Nat.one_mul]; omega
      rw [h1, List.set_append_right _ _ (by rw [hk]; omega), hk, Nat.add_sub_cancel_left, ih i hi e']
theorem own_setK {α : Type} [Inhabited α] {enc : α → List Value} {k : Nat} (hk : ∀ x, (enc x).length = k) {w : World} {N : Nat} {T : TypeId} {g n cap : Nat} {xs : List α} {v : Value} {y : α} {c i : Nat} (h : w.ownsRow N T k (.slice (some ⟨g, 0, none⟩) n cap) n (flat enc xs)) (hc : c < k) (hi : i < xs.length) (e : enc y = (enc xs[i]!).set c v) :
    (w.setCell ⟨g, i * k + c, none⟩ v).ownsRow N T k (.slice (some ⟨g, 0, none⟩) n cap) n (flat enc (xs.set i y)) := by
  rw [flat_set hk hc xs i hi e]
  exact (h.stored (i * k + c) v).1
theorem own_addr {w : World} {N : Nat} {T : TypeId} {k n cap : Nat} {A : Option Addr} {xs : List Value} (h : w.ownsRow N T k (.slice A n cap) n xs) (hn : 0 < n) : ∃ g, A = some ⟨g, 0, none⟩ := by
  rcases h.2 with ⟨_, h0⟩ | ⟨g, c', cur, hv, _⟩
  · omega
  · injection hv with h5; exact ⟨g, h5⟩
theorem own_cellK {α : Type} [Inhabited α] {enc : α → List Value} {k : Nat} (hk : ∀ x, (enc x).length = k) {w : World} {N : Nat} {T : TypeId} {g n cap : Nat} {xs : List α} (h : w.ownsRow N T k (.slice (some ⟨g, 0, none⟩) n cap) n (flat enc xs)) {i c : Nat} (hi : i < xs.length) (hc : c < k) (hn : xs.length = n) : w.cell? ⟨g, i * k + c, none⟩ = some ((enc xs[i]!)[c]!) := by
  rw [h.cellAt (i * k + c) (by rw [← hn]; have := Nat.mul_le_mul_right k hi; rw [Nat.succ_mul] at this; omega), flat_get hk xs i c hi hc]
theorem get_setK {α : Type} [Inhabited α] (xs : List α) (i j : Nat) (y : α) (hi : i < xs.length) : (xs.set i y)[j]! = if i = j then y else xs[j]! := by
  by_cases e : i = j
  · subst e; rw [if_pos rfl, getElem!_pos (xs.set i y) i (by simpa using hi)]; simp
  · rw [if_neg e]
    by_cases hj : j < xs.length
    · rw [getElem!_pos (xs.set i y) j (by simpa using hj), getElem!_pos xs j hj, List.getElem_set_ne e]
    · rw [getElem!_neg (xs.set i y) j (by simpa using hj), getElem!_neg xs j hj]
end Go.Proofs.YtdbcbbiplkikcaaGreat

namespace Go.Proofs.YtdbcbbiplkikcaaGreat
open Go.RowKit
set_option linter.unusedVariables false

theorem CenO.far {N : Nat} {w w' : World} {H : Hds} {C : Cen} {g : Nat} {cs : Array Value} (h : CenO N w H C) (hg : Bl w g 37 cs) (hk : ∀ b, b ≠ g → w'.heap[b]? = w.heap[b]?) : CenO N w' H C :=
  ⟨own_of_block h.seen fun b e => hk b (fun e2 => own_apart h.seen hg (by decide) (by rw [e, e2])), own_of_block h.qs fun b e => hk b (fun e2 => own_apart h.qs hg (by decide) (by rw [e, e2])), own_of_block h.gs fun b e => hk b (fun e2 => own_apart h.gs hg (by decide) (by rw [e, e2])), own_of_block h.cov fun b e => hk b (fun e2 => own_apart h.cov hg (by decide) (by rw [e, e2])), own_of_block h.sent fun b e => hk b (fun e2 => own_apart h.sent hg (by decide) (by rw [e, e2])),
    fun x hx => own_of_block (h.facts x hx) fun b e => hk b (fun e2 => own_apart (h.facts x hx) hg (by decide) (by rw [e, e2])), fun x hx => own_of_block (h.uses x hx) fun b e => hk b (fun e2 => own_apart (h.uses x hx) hg (by decide) (by rw [e, e2]))⟩
theorem CenO.setC {N : Nat} {w : World} {H : Hds} {C : Cen} {g : Nat} {cs : Array Value} (h : CenO N w H C) (hg : Bl w g 37 cs) (o : Nat) (v : Value) : CenO N (w.setCell ⟨g, o, none⟩ v) H C := h.far hg fun b hb => Below.heap_setCell _ _ _ b hb
def SendRes (N : Nat) (w : World) (H : Hds) (C : Cen) (kind dst day lot oth qty amt : Int) (e : Ending) (w' : World) : Prop :=
  ∃ (num : Int) (B : Option Addr) (d : Nat), e = .returned (.agg #[.slice H.s.A H.s.n H.s.c, .slice H.q.A H.q.n H.q.c, .slice H.g.A H.g.n H.g.c, .slice H.k.A H.k.n H.k.c, .slice B (H.m.n + 1) d]) ∧ CenO N w' { H with m := ⟨B, H.m.n + 1, d⟩ } { C with sent := C.sent ++ [⟨kind, dst, num, day, lot, oth, qty, amt⟩] } ∧ RowKit.Below N w w' ∧ ((Value.slice B (H.m.n + 1) d).ownBlock = (Value.slice H.m.A H.m.n H.m.c).ownBlock ∨ ∃ g, w.heap.size ≤ g ∧ (Value.slice B (H.m.n + 1) d).ownBlock = some g) ∧ ∀ b, b < w.heap.size → some b ≠ (Value.slice H.m.A H.m.n H.m.c).ownBlock → w'.heap[b]? = w.heap[b]?
theorem heap_set5 {w : World} {r b : Nat} (hb : b ≠ r) (v0 v1 v2 v3 v4 : Value) : (((((w.setCell ⟨r, 0, none⟩ v0).setCell ⟨r, 1, none⟩ v1).setCell ⟨r, 2, none⟩ v2).setCell ⟨r, 3, none⟩ v3).setCell ⟨r, 4, none⟩ v4).heap[b]? = w.heap[b]? := ((((Below.heap_setCell _ _ _ b hb).trans (Below.heap_setCell _ _ _ b hb)).trans (Below.heap_setCell _ _ _ b hb)).trans (Below.heap_setCell _ _ _ b hb)).trans (Below.heap_setCell _ _ _ b hb)

set_option maxRecDepth 100000 in
set_option maxHeartbeats 8000000 in
theorem send_any (N : Nat) (H : Hds) (C : Cen) (kind dst day lot oth qty amt : Int) (w : World) (hO : CenO N w H C) (hN : N ≤ w.heap.size) (hn : H.m.n ≤ 100000) :
    Calls Tryz.prog 77 #[.agg #[.slice H.s.A H.s.n H.s.c, .slice H.q.A H.q.n H.q.c, .slice H.g.A H.g.n H.g.c, .slice H.k.A H.k.n H.k.c, .slice H.m.A H.m.n H.m.c], .agg #[.int .i64 kind, .int .i64 0, .int .i64 dst, .int .i64 0, .int .i64 day, .int .i64 lot, .int .i64 oth, .string ByteArray.empty, .string ByteArray.empty, .int .i64 qty, .int .i64 amt, .slice none 0 0, .string ByteArray.empty]] w (SendRes N w H C kind dst day lot oth qty amt) := by
  obtain ⟨Hs, Hq, Hg, Hk, ⟨mA, mn, mc⟩⟩ := H
  have HO := Lib.hid hO
  have HN := Lib.hid hN
  have HSR := Lib.hid hO.at_.sent.recs
  simp only at hn
  clear hO hN
  obtain ⟨W0, hW0⟩ : ∃ W, W = ((w.alloc (.cells #[.slice Hs.A Hs.n Hs.c, .slice Hq.A Hq.n Hq.c, .slice Hg.A Hg.n Hg.c, .slice Hk.A Hk.n Hk.c, .slice mA mn mc] 37)).alloc (.cells #[.int .i64 kind, .int .i64 0, .int .i64 dst, .int .i64 0, .int .i64 day, .int .i64 lot, .int .i64 oth, .string ByteArray.empty, .string ByteArray.empty, .int .i64 qty, .int .i64 amt, .slice none 0 0, .string ByteArray.empty] 48)).alloc (.cells #[.slice none 0 0, .slice none 0 0, .slice none 0 0, .slice none 0 0, .slice none 0 0] 37) := ⟨_, rfl⟩
  have hx0 : Bl W0 w.heap.size 37 #[.slice Hs.A Hs.n Hs.c, .slice Hq.A Hq.n Hq.c, .slice Hg.A Hg.n Hg.c, .slice Hk.A Hk.n Hk.c, .slice mA mn mc] := by rw [hW0]; exact ((Bl.new w _ _).alloc _).alloc _
  have hm0 : Bl W0 (w.heap.size + 1) 48 #[.int .i64 kind, .int .i64 0, .int .i64 dst, .int .i64 0, .int .i64 day, .int .i64 lot, .int .i64 oth, .string ByteArray.empty, .string ByteArray.empty, .int .i64 qty, .int .i64 amt, .slice none 0 0, .string ByteArray.empty] := by rw [hW0]; have := (Bl.new (w.alloc (.cells #[.slice Hs.A Hs.n Hs.c, .slice Hq.A Hq.n Hq.c, .slice Hg.A Hg.n Hg.c, .slice Hk.A Hk.n Hk.c, .slice mA mn mc] 37)) 48 #[.int .i64 kind, .int .i64 0, .int .i64 dst, .int .i64 0, .int .i64 day, .int .i64 lot, .int .i64 oth, .string ByteArray.empty, .string ByteArray.empty, .int .i64 qty, .int .i64 amt, .slice none 0 0, .string ByteArray.empty]).alloc (.cells #[.slice none 0 0, .slice none 0 0, .slice none 0 0, .slice none 0 0, .slice none 0 0] 37); simpa using this
  have hr0 : Bl W0 (w.heap.size + 1 + 1) 37 #[.slice none 0 0, .slice none 0 0, .slice none 0 0, .slice none 0 0, .slice none 0 0] := by rw [hW0]; have := Bl.new ((w.alloc (.cells #[.slice Hs.A Hs.n Hs.c, .slice Hq.A Hq.n Hq.c, .slice Hg.A Hg.n Hg.c, .slice Hk.A Hk.n Hk.c, .slice mA mn mc] 37)).alloc (.cells #[.int .i64 kind, .int .i64 0, .int .i64 dst, .int .i64 0, .int .i64 day, .int .i64 lot, .int .i64 oth, .string ByteArray.empty, .string ByteArray.empty, .int .i64 qty, .int .i64 amt, .slice none 0 0, .string ByteArray.empty] 48)) 37 #[.slice none 0 0, .slice none 0 0, .slice none 0 0, .slice none 0 0, .slice none 0 0]; simpa using this
  have hb0 : RowKit.Below w.heap.size w W0 := by rw [hW0]; exact (((Below.refl _ _).alloc (Nat.le_refl _) _).alloc (by simp) _).alloc (by simp; omega) _
  go_enter Tryz.func77, Tryz.ntmps77
  go_upto_region 1 with (fail)
  rw [← hW0]
  clear hW0
  have n3 : W0.cell? ⟨w.heap.size + 1, 3, none⟩ = some (.int .i64 0) := hm0.cell 3
  have nf : W0.frozen? ⟨w.heap.size + 1, 3, none⟩ = false := hm0.free 3
  have hm1 : Bl (W0.setCell ⟨w.heap.size + 1, 3, none⟩ (.int .i64 1)) (w.heap.size + 1) 48 #[.int .i64 kind, .int .i64 0, .int .i64 dst, .int .i64 1, .int .i64 day, .int .i64 lot, .int .i64 oth, .string ByteArray.empty, .string ByteArray.empty, .int .i64 qty, .int .i64 amt, .slice none 0 0, .string ByteArray.empty] := by have := hm0.put 3 (.int .i64 1); simpa using this
  have hx1 := hx0.far (p := ⟨w.heap.size + 1, 3, none⟩) (by simp) (.int .i64 1)
  have hr1 := hr0.far (p := ⟨w.heap.size + 1, 3, none⟩) (by simp) (.int .i64 1)
  have hb1 : RowKit.Below w.heap.size w (W0.setCell ⟨w.heap.size + 1, 3, none⟩ (.int .i64 1)) := hb0.setCell (p := ⟨w.heap.size + 1, 3, none⟩) (by simp) _
  go_upto_region 2 with (fail)
  clear n3 nf hm0 hx0 hr0 hb0
  generalize W0.setCell ⟨w.heap.size + 1, 3, none⟩ (.int .i64 1) = W1 at *
  have x4 : W1.cell? ⟨w.heap.size, 4, none⟩ = some (.slice mA mn mc) := hx1.c4
  go_wp2_with fail
  go_loopw [11] (fun i wx => ∃ (k : Nat) (num : Int), k ≤ mn ∧ i = .int .i64 k ∧ 1 ≤ num ∧ num ≤ (k : Int) + 1 ∧ Hid (Bl wx w.heap.size 37 #[.slice Hs.A Hs.n Hs.c, .slice Hq.A Hq.n Hq.c, .slice Hg.A Hg.n Hg.c, .slice Hk.A Hk.n Hk.c, .slice mA mn mc]) ∧ Hid (Bl wx (w.heap.size + 1) 48 #[.int .i64 kind, .int .i64 0, .int .i64 dst, .int .i64 num, .int .i64 day, .int .i64 lot, .int .i64 oth, .string ByteArray.empty, .string ByteArray.empty, .int .i64 qty, .int .i64 amt, .slice none 0 0, .string ByteArray.empty]) ∧ Hid (Bl wx (w.heap.size + 1 + 1) 37 #[.slice none 0 0, .slice none 0 0, .slice none 0 0, .slice none 0 0, .slice none 0 0]) ∧ Hid (RowKit.Below w.heap.size w wx)) (fun i _ => mn - (intOf i).toNat)
  case atStart => exact ⟨0, 1, Nat.zero_le _, rfl, by omega, by omega, hx1, hm1, hr1, hb1⟩
  case round =>
    clear x4 hx1 hm1 hr1 hb1
    obtain ⟨k, num, hk, rfl, hn1, hn2, HX, HM, HR, HB⟩ := hrel
    by_cases hlt : k < mn
    · obtain ⟨b, off, hA, hbl, hc⟩ := (HSR.out.below HB.out).at_ hlt
      obtain ⟨x, hxx⟩ : ∃ x, C.sent[k]! = x := ⟨_, rfl⟩
      rw [hxx] at hc
      subst hA
      have hki : (k : Int) < mn := by omega
      have a0 : wr.cell? ⟨b, off + k * 13, none⟩ = some (.int .i64 x.kind) := hc 0 (by omega)
      have a1 : wr.cell? ⟨b, off + k * 13 + 1, none⟩ = some (.int .i64 0) := hc 1 (by omega)
      have a2 : wr.cell? ⟨b, off + k * 13 + 2, none⟩ = some (.int .i64 x.dst) := hc 2 (by omega)
      have a3 : wr.cell? ⟨b, off + k * 13 + 3, none⟩ = some (.int .i64 x.num) := hc 3 (by omega)
      have a4 : wr.cell? ⟨b, off + k * 13 + 4, none⟩ = some (.int .i64 x.day) := hc 4 (by omega)
      have a5 : wr.cell? ⟨b, off + k * 13 + 5, none⟩ = some (.int .i64 x.lot) := hc 5 (by omega)
      have a6 : wr.cell? ⟨b, off + k * 13 + 6, none⟩ = some (.int .i64 x.oth) := hc 6 (by omega)
      have a7 : wr.cell? ⟨b, off + k * 13 + 7, none⟩ = some (.string ByteArray.empty) := hc 7 (by omega)
      have a8 : wr.cell? ⟨b, off + k * 13 + 8, none⟩ = some (.string ByteArray.empty) := hc 8 (by omega)
      have a9 : wr.cell? ⟨b, off + k * 13 + 9, none⟩ = some (.int .i64 x.qty) := hc 9 (by omega)
      have a10 : wr.cell? ⟨b, off + k * 13 + 10, none⟩ = some (.int .i64 x.amt) := hc 10 (by omega)
      have a11 : wr.cell? ⟨b, off + k * 13 + 11, none⟩ = some (.slice none 0 0) := hc 11 (by omega)
      have a12 : wr.cell? ⟨b, off + k * 13 + 12, none⟩ = some (.string ByteArray.empty) := hc 12 (by omega)
      have hy4 := Bl.new wr 48 #[.int .i64 x.kind, .int .i64 0, .int .i64 x.dst, .int .i64 x.num, .int .i64 x.day, .int .i64 x.lot, .int .i64 x.oth, .string ByteArray.empty, .string ByteArray.empty, .int .i64 x.qty, .int .i64 x.amt, .slice none 0 0, .string ByteArray.empty]
      have HX4 := Lib.hid (HX.out.alloc (.cells #[.int .i64 x.kind, .int .i64 0, .int .i64 x.dst, .int .i64 x.num, .int .i64 x.day, .int .i64 x.lot, .int .i64 x.oth, .string ByteArray.empty, .string ByteArray.empty, .int .i64 x.qty, .int .i64 x.amt, .slice none 0 0, .string ByteArray.empty] 48))
      have HM4 := Lib.hid (HM.out.alloc (.cells #[.int .i64 x.kind, .int .i64 0, .int .i64 x.dst, .int .i64 x.num, .int .i64 x.day, .int .i64 x.lot, .int .i64 x.oth, .string ByteArray.empty, .string ByteArray.empty, .int .i64 x.qty, .int .i64 x.amt, .slice none 0 0, .string ByteArray.empty] 48))
      have HR4 := Lib.hid (HR.out.alloc (.cells #[.int .i64 x.kind, .int .i64 0, .int .i64 x.dst, .int .i64 x.num, .int .i64 x.day, .int .i64 x.lot, .int .i64 x.oth, .string ByteArray.empty, .string ByteArray.empty, .int .i64 x.qty, .int .i64 x.amt, .slice none 0 0, .string ByteArray.empty] 48))
      have HB4 : Hid (RowKit.Below w.heap.size w (wr.alloc (.cells #[.int .i64 x.kind, .int .i64 0, .int .i64 x.dst, .int .i64 x.num, .int .i64 x.day, .int .i64 x.lot, .int .i64 x.oth, .string ByteArray.empty, .string ByteArray.empty, .int .i64 x.qty, .int .i64 x.amt, .slice none 0 0, .string ByteArray.empty] 48))) := HB.out.alloc HB.out.size _
      clear hc hxx hbl HX HM HR HB
      go_upto_region 5 with (fail)
      clear a0 a1 a2 a3 a4 a5 a6 a7 a8 a9 a10 a11 a12
      generalize wr.alloc (.cells #[.int .i64 x.kind, .int .i64 0, .int .i64 x.dst, .int .i64 x.num, .int .i64 x.day, .int .i64 x.lot, .int .i64 x.oth, .string ByteArray.empty, .string ByteArray.empty, .int .i64 x.qty, .int .i64 x.amt, .slice none 0 0, .string ByteArray.empty] 48) = W4 at *
      generalize wr.heap.size = g4 at *
      have y2 : W4.cell? ⟨g4, 2, none⟩ = some (.int .i64 x.dst) := hy4.cell 2
      have m2 : W4.cell? ⟨w.heap.size + 1, 2, none⟩ = some (.int .i64 dst) := HM4.out.cell 2
      have m3 : W4.cell? ⟨w.heap.size + 1, 3, none⟩ = some (.int .i64 num) := HM4.out.cell 3
      have mf : W4.frozen? ⟨w.heap.size + 1, 3, none⟩ = false := HM4.out.free 3
      by_cases g : x.dst = dst
      · have b1 : (x.dst == dst) = true := by simpa using g
        have u1 : IntKind.i64.wrap (num + 1) = num + 1 := IntWalk.i64_in _ (by omega)
        have HM5 : Hid (Bl (W4.setCell ⟨w.heap.size + 1, 3, none⟩ (.int .i64 (num + 1))) (w.heap.size + 1) 48 #[.int .i64 kind, .int .i64 0, .int .i64 dst, .int .i64 (num + 1), .int .i64 day, .int .i64 lot, .int .i64 oth, .string ByteArray.empty, .string ByteArray.empty, .int .i64 qty, .int .i64 amt, .slice none 0 0, .string ByteArray.empty]) := by show Bl _ _ _ _; have := HM4.out.put 3 (.int .i64 (num + 1)); simpa using this
        have HX5 := Lib.hid (HX4.out.far (p := ⟨w.heap.size + 1, 3, none⟩) (by simp) (.int .i64 (num + 1)))
        have HR5 := Lib.hid (HR4.out.far (p := ⟨w.heap.size + 1, 3, none⟩) (by simp) (.int .i64 (num + 1)))
        have HB5 : Hid (RowKit.Below w.heap.size w (W4.setCell ⟨w.heap.size + 1, 3, none⟩ (.int .i64 (num + 1)))) := HB4.out.setCell (p := ⟨w.heap.size + 1, 3, none⟩) (by simp) _
        clear g
        go_wp2_with fail
        go_roundw
        case rel => exact ⟨k + 1, num + 1, by omega, by go_num, by omega, by omega, HX5, HM5, HR5, HB5⟩
        case measure => simp [intOf]; omega
      · have b1 : (x.dst == dst) = false := by simpa using g
        clear g
        go_wp2_with fail
        go_roundw
        case rel => exact ⟨k + 1, num, by omega, by go_num, by omega, by omega, HX4, HM4, HR4, HB4⟩
        case measure => simp [intOf]; omega
    · obtain rfl : mn = k := by omega
      have HOA := Lib.hid ((HO.out.below HB.out).below ((Below.refl _ _).alloc (Nat.le_refl _) (.cells #[.int .i64 kind, .int .i64 0, .int .i64 dst, .int .i64 num, .int .i64 day, .int .i64 lot, .int .i64 oth, .string ByteArray.empty, .string ByteArray.empty, .int .i64 qty, .int .i64 amt, .slice none 0 0, .string ByteArray.empty] 48)))
      have HRD : Hid (Rd (wr.alloc (.cells #[.int .i64 kind, .int .i64 0, .int .i64 dst, .int .i64 num, .int .i64 day, .int .i64 lot, .int .i64 oth, .string ByteArray.empty, .string ByteArray.empty, .int .i64 qty, .int .i64 amt, .slice none 0 0, .string ByteArray.empty] 48)) 13 (some ⟨wr.heap.size, 0, none⟩) 1 (encS ⟨kind, dst, num, day, lot, oth, qty, amt⟩)) := rd_new wr 48 (encS ⟨kind, dst, num, day, lot, oth, qty, amt⟩)
      have HON : Hid (∀ u ∈ encS ⟨kind, dst, num, day, lot, oth, qty, amt⟩, u.oneCell' = true) := encS_one _
      have HM1 : Hid (mn + 1 ≤ maxLen ∧ (mn + 1) * 144 ≤ 140737488355328) := ⟨by unfold maxLen; omega, by omega⟩
      have HBA : Hid (RowKit.Below N w (wr.alloc (.cells #[.int .i64 kind, .int .i64 0, .int .i64 dst, .int .i64 num, .int .i64 day, .int .i64 lot, .int .i64 oth, .string ByteArray.empty, .string ByteArray.empty, .int .i64 qty, .int .i64 amt, .slice none 0 0, .string ByteArray.empty] 48))) := (HB.out.mono HN.out).alloc (Nat.le_trans HN.out HB.out.size) _
      have HNS : Hid (N ≤ (wr.alloc (.cells #[.int .i64 kind, .int .i64 0, .int .i64 dst, .int .i64 num, .int .i64 day, .int .i64 lot, .int .i64 oth, .string ByteArray.empty, .string ByteArray.empty, .int .i64 qty, .int .i64 amt, .slice none 0 0, .string ByteArray.empty] 48)).heap.size) := Nat.le_trans HN.out HBA.out.size
      have HSO := Lib.hid HOA.out.sent
      have HXA := Lib.hid (HX.out.alloc (.cells #[.int .i64 kind, .int .i64 0, .int .i64 dst, .int .i64 num, .int .i64 day, .int .i64 lot, .int .i64 oth, .string ByteArray.empty, .string ByteArray.empty, .int .i64 qty, .int .i64 amt, .slice none 0 0, .string ByteArray.empty] 48))
      have HRA := Lib.hid (HR.out.alloc (.cells #[.int .i64 kind, .int .i64 0, .int .i64 dst, .int .i64 num, .int .i64 day, .int .i64 lot, .int .i64 oth, .string ByteArray.empty, .string ByteArray.empty, .int .i64 qty, .int .i64 amt, .slice none 0 0, .string ByteArray.empty] 48))
      have x4 : wr.cell? ⟨w.heap.size, 4, none⟩ = some (.slice mA mn mc) := HX.out.c4
      have m0 : wr.cell? ⟨w.heap.size + 1, 0, none⟩ = some (.int .i64 kind) := HM.out.cell 0
      have m1 : wr.cell? ⟨w.heap.size + 1, 1, none⟩ = some (.int .i64 0) := HM.out.cell 1
      have m2 : wr.cell? ⟨w.heap.size + 1, 2, none⟩ = some (.int .i64 dst) := HM.out.cell 2
      have m3 : wr.cell? ⟨w.heap.size + 1, 3, none⟩ = some (.int .i64 num) := HM.out.cell 3
      have m4 : wr.cell? ⟨w.heap.size + 1, 4, none⟩ = some (.int .i64 day) := HM.out.cell 4
      have m5 : wr.cell? ⟨w.heap.size + 1, 5, none⟩ = some (.int .i64 lot) := HM.out.cell 5
      have m6 : wr.cell? ⟨w.heap.size + 1, 6, none⟩ = some (.int .i64 oth) := HM.out.cell 6
      have m7 : wr.cell? ⟨w.heap.size + 1, 7, none⟩ = some (.string ByteArray.empty) := HM.out.cell 7
      have m8 : wr.cell? ⟨w.heap.size + 1, 8, none⟩ = some (.string ByteArray.empty) := HM.out.cell 8
      have m9 : wr.cell? ⟨w.heap.size + 1, 9, none⟩ = some (.int .i64 qty) := HM.out.cell 9
      have m10 : wr.cell? ⟨w.heap.size + 1, 10, none⟩ = some (.int .i64 amt) := HM.out.cell 10
      have m11 : wr.cell? ⟨w.heap.size + 1, 11, none⟩ = some (.slice none 0 0) := HM.out.cell 11
      have m12 : wr.cell? ⟨w.heap.size + 1, 12, none⟩ = some (.string ByteArray.empty) := HM.out.cell 12
      go_wp2_with (at_builtin; refine wpList_append_rd _ rfl (.tmp 26) (.tmp 28) 35 rfl N 48 _ 13 144 Tryz.underlying35 info37S rfl (by decide) (.slice mA mn mc) mn (flat encS C.sent) rfl HSO.out (some ⟨wr.heap.size, 0, none⟩) 1 _ (encS ⟨kind, dst, num, day, lot, oth, qty, amt⟩) rfl HRD.out HON.out HM1.out.1 HM1.out.2 HNS.out ?_; intro v8 w8 ho8 hg8 hv8; obtain ⟨B8, d8, rfl⟩ := own_slice ho8; have HO8 := Lib.hid (HOA.out.sent' (fun b hlt hne => hg8.block b hlt hne) (xs := C.sent ++ [⟨kind, dst, num, day, lot, oth, qty, amt⟩]) (by rw [flat_append, flat_one]; exact ho8)); have HB8 : Hid (RowKit.Below N w w8) := HBA.out.grown hg8 HNS.out (fun j hj => own_base HSO.out j hj); have HX8 : Hid (Bl w8 w.heap.size 37 #[.slice Hs.A Hs.n Hs.c, .slice Hq.A Hq.n Hq.c, .slice Hg.A Hg.n Hg.c, .slice Hk.A Hk.n Hk.c, .slice mA mn mc]) := (hg8.block _ HXA.out.lt (fun e => own_apart HSO.out HXA.out (by decide) e)).trans HXA.out; have HR8 : Hid (Bl w8 (w.heap.size + 1 + 1) 37 #[.slice none 0 0, .slice none 0 0, .slice none 0 0, .slice none 0 0, .slice none 0 0]) := (hg8.block _ HRA.out.lt (fun e => own_apart HSO.out HRA.out (by decide) e)).trans HRA.out; have HV8 := Lib.hid hv8; have HG8 := Lib.hid hg8; clear hv8; have q0 := HX8.out.c0; have q1 := HX8.out.c1; have q2 := HX8.out.c2; have q3 := HX8.out.c3; have q4 := HX8.out.c4; have qf := HX8.out.free 4; have r0 := HR8.out.c0; have r1 := HR8.out.c1; have r2 := HR8.out.c2; have r3 := HR8.out.c3; have r4 := HR8.out.c4; have rf0 := HR8.out.free 0; have rf1 := HR8.out.free 1; have rf2 := HR8.out.free 2; have rf3 := HR8.out.free 3; have rf4 := HR8.out.free 4)
      all_goals (
        have HX9 : Hid (Bl (w8.setCell ⟨w.heap.size, 4, none⟩ (.slice B8 (mn + 1) d8)) (w.heap.size + 1 + 1) 37 #[.slice none 0 0, .slice none 0 0, .slice none 0 0, .slice none 0 0, .slice none 0 0]) := HR8.out.far (p := ⟨w.heap.size, 4, none⟩) (by simp; omega) _
        have HO9 := Lib.hid (HO8.out.setC HX8.out 4 (.slice B8 (mn + 1) d8))
        have HB9 : Hid (RowKit.Below N w (w8.setCell ⟨w.heap.size, 4, none⟩ (.slice B8 (mn + 1) d8))) := HB8.out.setCell (p := ⟨w.heap.size, 4, none⟩) HN.out _
        refine bodyPost_ret (v := .agg #[.slice Hs.A Hs.n Hs.c, .slice Hq.A Hq.n Hq.c, .slice Hg.A Hg.n Hg.c, .slice Hk.A Hk.n Hk.c, .slice B8 (mn + 1) d8]) (by simp [results, Tryz.results77, go_sem, r0, r1, r2, r3, r4]) rfl ?_
        exact ⟨num, B8, d8, rfl, HO9.out.far HX9.out (fun b hb => ((((Below.heap_setCell _ _ _ b hb).trans (Below.heap_setCell _ _ _ b hb)).trans (Below.heap_setCell _ _ _ b hb)).trans (Below.heap_setCell _ _ _ b hb)).trans (Below.heap_setCell _ _ _ b hb)), put5 HB9.out (Nat.le_trans HN.out (by omega)) _ _ _ _ _, HV8.out.imp id (fun e => ⟨_, Nat.le_trans HB.out.size (by simp), e⟩), fun b hb hne => (heap_set5 (by omega) _ _ _ _ _).trans ((Below.heap_setCell _ _ _ b (by simp; omega)).trans ((HG8.out.block b (by have := HB.out.size; simp; omega) hne).trans ((Below.heap_alloc wr _ b (by have := HB.out.size; omega)).trans (HB.out.block b hb))))⟩)
end Go.Proofs.YtdbcbbiplkikcaaGreat

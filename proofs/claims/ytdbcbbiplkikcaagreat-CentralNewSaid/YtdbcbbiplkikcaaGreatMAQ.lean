/-
  Contracts of message.outside, message.consistsOf, message.isCode, message.isCountry. No statement of the seat is proved here. Conditions: the string's length fits an int.
  Contracts of message.isCountry, message.Validate and central.refuse. No statement of the seat is proved here. Conditions: the list reads as integers, the strings' lengths fit an int.
  The contract of central.refuse. No statement of the seat is proved here. Conditions: as message.Validate's.
  The settlement as a function of lists: day after day. No statement of the seat is proved here.
  The book of the sanity check of chapter 37: one request. No statement of the seat is proved here. No conditions.
  What is kept of the central authority from message to message. No statement of the seat is proved here. No conditions.
-/
import Derived.Test.YtdbcbbiplkikcaaGreatMAL
import Derived.Test.YtdbcbbiplkikcaaGreatMAE
import Derived.Test.YtdbcbbiplkikcaaGreatMAJ
import Derived.Test.YtdbcbbiplkikcaaGreatMAK
import Derived.Test.YtdbcbbiplkikcaaGreatMAO
import Derived.Test.YtdbcbbiplkikcaaGreatMAP
namespace Go.Proofs.YtdbcbbiplkikcaaGreat
open Go.RowKit
set_option linter.unusedVariables false

def outB (n lo hi : Int) : Bool := decide (n < lo) || decide (hi < n)
set_option maxHeartbeats 1000000 in
theorem outside_any (n lo hi : Int) (w : World) : Calls Tryz.prog 103 #[.int .i64 n, .int .i64 lo, .int .i64 hi] w fun e w' => e = .returned (.bool (outB n lo hi)) ∧ w' = w := by
  by_cases g1 : n < lo
  · have d1 : decide (n < lo) = true := by simpa using g1
    have E : Hid (true = outB n lo hi) := by show _ = _; unfold outB; rw [d1]; rfl
    clear g1
    go_enter Tryz.func103, Tryz.ntmps103
    go_wp2
    go_ret
    exact ⟨ret_bool' E.out, rfl⟩
  · have d1 : decide (n < lo) = false := by simpa using g1
    obtain ⟨b, hb⟩ : ∃ b, decide (hi < n) = b := ⟨_, rfl⟩
    have E : Hid (b = outB n lo hi) := by show _ = _; unfold outB; rw [d1, hb]; rfl
    clear g1
    go_enter Tryz.func103, Tryz.ntmps103
    go_wp2
    go_ret
    exact ⟨ret_bool' (by first | exact E.out | (rw [hb]; exact E.out)), rfl⟩

/-- A test of a string: true of the empty one. -/
def StrRes (s : ByteArray) (w : World) (e : Ending) (w' : World) : Prop := (∃ b : Bool, e = .returned (.bool b) ∧ (s.size = 0 → b = true)) ∧ w' = w

set_option maxHeartbeats 2000000 in
theorem consists_any (s : ByteArray) (lo hi : Int) (w : World) (hs : s.size ≤ 9223372036854775807) : Calls Tryz.prog 152 #[.string s, .int .u8 lo, .int .u8 hi] w (StrRes s w) := by
  go_enter Tryz.func152, Tryz.ntmps152
  go_wp2
  go_loop [10] (fun i => ∃ k : Nat, k ≤ s.size ∧ i = .int .i64 k) (fun i => s.size - (intOf i).toNat)
  case atStart => exact ⟨0, Nat.zero_le _, rfl⟩
  case round =>
    obtain ⟨k, hk, rfl⟩ := hrel
    by_cases hks : k < s.size
    · by_cases g1 : (s[k].toNat : Int) < lo
      · go_wp2
        go_ret
        exact ⟨⟨_, rfl, fun h => by omega⟩, rfl⟩
      by_cases g2 : hi < (s[k].toNat : Int)
      · go_wp2
        go_ret
        exact ⟨⟨_, rfl, fun h => by omega⟩, rfl⟩
      go_wp2
      go_round
      case rel => exact ⟨k + 1, by omega, by go_num⟩
      case measure => simp [intOf]; omega
    · have hd : decide (k < s.size) = false := by simpa using hks
      go_wp2
      go_ret
      exact ⟨⟨_, rfl, fun _ => rfl⟩, rfl⟩

set_option maxHeartbeats 2000000 in
theorem isCode_any (s : ByteArray) (w : World) (hs : s.size ≤ 9223372036854775807) : Calls Tryz.prog 104 #[.string s] w (StrRes s w) := by
  have HC := Lib.hid (fun w => consists_any s 48 57 w hs)
  by_cases h8 : s.size ≤ 8
  · have d1 : decide ((s.size : Int) ≤ 8) = true := by simp; omega
    obtain ⟨r, hr⟩ : ∃ r : Int, (s.size : Int).tmod 2 = r := ⟨_, rfl⟩
    have hr0 : s.size = 0 → r = 0 := fun h => by rw [← hr, h]; rfl
    have hrb : -2 < r ∧ r < 2 := by rw [← hr]; exact tmod_bounds _ 2 (by omega)
    have u1 : IntKind.i64.wrap r = r := IntWalk.i64_in _ (by omega)
    by_cases g : r = 0
    · have b1 : (r == 0) = true := by simpa using g
      subst g
      go_enter Tryz.func104, Tryz.ntmps104
      go_wp2_with fail
      refine (HC.out _).mono ?_
      rintro e w1 ⟨⟨b, rfl, hb⟩, rfl⟩
      go_wp2
      go_ret
      exact ⟨⟨b, rfl, hb⟩, rfl⟩
    · have b1 : (r == 0) = false := by simpa using g
      have HN : Hid (s.size ≠ 0) := fun h => g (hr0 h)
      clear hr0 g
      go_enter Tryz.func104, Tryz.ntmps104
      go_wp2
      go_ret
      exact ⟨⟨_, rfl, fun h => absurd h HN.out⟩, rfl⟩
  · have d1 : decide ((s.size : Int) ≤ 8) = false := by simp; omega
    go_enter Tryz.func104, Tryz.ntmps104
    go_wp2
    go_ret
    exact ⟨⟨_, rfl, fun h => by omega⟩, rfl⟩
end Go.Proofs.YtdbcbbiplkikcaaGreat

namespace Go.Proofs.YtdbcbbiplkikcaaGreat
open Go.RowKit
set_option linter.unusedVariables false

/-- A message that came in. -/
structure Mg where
  kind : Int
  frm : Int
  dst : Int
  num : Int
  day : Int
  lot : Int
  oth : Int
  code : ByteArray
  ctry : ByteArray
  qty : Int
  amt : Int
  LA : Option Addr
  ln : Nat
  lc : Nat
  text : ByteArray
/-- A number of the message is out of its bounds. -/
def mB (m : Mg) : Bool := outB m.kind 1 60 || outB m.frm 0 999 || outB m.dst 0 999 || outB m.num 0 1000000000 || outB m.day 0 36524 || outB m.lot 0 1000000000 || outB m.oth 0 1000000000 || outB m.qty 0 1000000000 || outB m.amt (-1000000000000) 1000000000000
set_option maxHeartbeats 2000000 in
theorem isCountry_any (s : ByteArray) (w : World) (hs : s.size ≤ 9223372036854775807) : Calls Tryz.prog 105 #[.string s] w (StrRes s w) := by
  have HC := Lib.hid (fun w => consists_any s 65 90 w hs)
  cases h0 : s.toList.isEmpty
  case true =>
    go_enter Tryz.func105, Tryz.ntmps105
    go_wp2
    go_ret
    exact ⟨⟨_, rfl, fun _ => rfl⟩, rfl⟩
  case false =>
    have HN : Hid (s.size ≠ 0) := fun e => by
      have h1 : s.toList.length = 0 := by rw [ByteArray.toList_eq]; simpa using e
      rw [List.eq_nil_of_length_eq_zero h1] at h0
      cases h0
    by_cases h2 : s.size = 2
    · have d2 : ((s.size : Int) == 2) = true := by simp; omega
      go_enter Tryz.func105, Tryz.ntmps105
      go_wp2_with fail
      refine (HC.out _).mono ?_
      rintro e w1 ⟨⟨b, rfl, hb⟩, rfl⟩
      go_wp2
      go_ret
      exact ⟨⟨b, rfl, hb⟩, rfl⟩
    · have d2 : ((s.size : Int) == 2) = false := by simp; omega
      go_enter Tryz.func105, Tryz.ntmps105
      go_wp2
      go_ret
      exact ⟨⟨_, rfl, fun h => absurd h HN.out⟩, rfl⟩
/-- What Validate says of a message. -/
def MvRes (m : Mg) (w : World) (e : Ending) (w' : World) : Prop := ∃ er : Int, e = .returned (.int .i64 er) ∧ (er = 0 → mB m = false) ∧ (mB m = false → m.code.size = 0 → m.ctry.size = 0 → m.ln = 0 → m.text.size = 0 → er = 0) ∧ RowKit.Below w.heap.size w w'
theorem MvRes.bad {m : Mg} {w w' : World} {er : Int} (h : mB m = true) (hne : er ≠ 0) (hb : RowKit.Below w.heap.size w w') : MvRes m w (.returned (.int .i64 er)) w' := ⟨er, rfl, fun h0 => absurd h0 hne, fun h1 => by (rw [h] at h1; cases h1), hb⟩

set_option maxRecDepth 100000 in
set_option maxHeartbeats 8000000 in
theorem mvalidate_any (m : Mg) (ls : List Int) (w : World) (h : Ints w m.LA m.ln ls) (hc : m.code.size ≤ 9223372036854775807) (hy : m.ctry.size ≤ 9223372036854775807) (hln : m.ln ≤ 9223372036854775807) (htx : m.text.size ≤ 9223372036854775807) :
    Calls Tryz.prog 69 #[.agg #[.int .i64 m.kind, .int .i64 m.frm, .int .i64 m.dst, .int .i64 m.num, .int .i64 m.day, .int .i64 m.lot, .int .i64 m.oth, .string m.code, .string m.ctry, .int .i64 m.qty, .int .i64 m.amt, .slice m.LA m.ln m.lc, .string m.text]] w (MvRes m w) := by
  obtain ⟨LA, hLA⟩ : ∃ x, m.LA = x := ⟨_, rfl⟩
  rw [hLA] at h ⊢
  clear hLA
  have HOUT := Lib.hid (fun n lo hi w => outside_any n lo hi w)
  have HCO := Lib.hid (fun w => isCode_any m.code w hc)
  have HCY := Lib.hid (fun w => isCountry_any m.ctry w hy)
  have hx := Bl.new w 48 #[.int .i64 m.kind, .int .i64 m.frm, .int .i64 m.dst, .int .i64 m.num, .int .i64 m.day, .int .i64 m.lot, .int .i64 m.oth, .string m.code, .string m.ctry, .int .i64 m.qty, .int .i64 m.amt, .slice LA m.ln m.lc, .string m.text]
  have hb0 : RowKit.Below w.heap.size w (w.alloc (.cells #[.int .i64 m.kind, .int .i64 m.frm, .int .i64 m.dst, .int .i64 m.num, .int .i64 m.day, .int .i64 m.lot, .int .i64 m.oth, .string m.code, .string m.ctry, .int .i64 m.qty, .int .i64 m.amt, .slice LA m.ln m.lc, .string m.text] 48)) := (Below.refl _ _).alloc (Nat.le_refl _) _
  have HIW := Lib.hid h
  clear h
  go_enter Tryz.func69, Tryz.ntmps69
  go_upto_region 1 with (fail)
  generalize w.alloc (.cells #[.int .i64 m.kind, .int .i64 m.frm, .int .i64 m.dst, .int .i64 m.num, .int .i64 m.day, .int .i64 m.lot, .int .i64 m.oth, .string m.code, .string m.ctry, .int .i64 m.qty, .int .i64 m.amt, .slice LA m.ln m.lc, .string m.text] 48) = W0 at *
  have c0 : W0.cell? ⟨w.heap.size, 0, none⟩ = some (.int .i64 m.kind) := hx.cell 0
  have c1 : W0.cell? ⟨w.heap.size, 1, none⟩ = some (.int .i64 m.frm) := hx.cell 1
  have c2 : W0.cell? ⟨w.heap.size, 2, none⟩ = some (.int .i64 m.dst) := hx.cell 2
  have c3 : W0.cell? ⟨w.heap.size, 3, none⟩ = some (.int .i64 m.num) := hx.cell 3
  have c4 : W0.cell? ⟨w.heap.size, 4, none⟩ = some (.int .i64 m.day) := hx.cell 4
  have c5 : W0.cell? ⟨w.heap.size, 5, none⟩ = some (.int .i64 m.lot) := hx.cell 5
  have c6 : W0.cell? ⟨w.heap.size, 6, none⟩ = some (.int .i64 m.oth) := hx.cell 6
  have c7 : W0.cell? ⟨w.heap.size, 7, none⟩ = some (.string m.code) := hx.cell 7
  have c8 : W0.cell? ⟨w.heap.size, 8, none⟩ = some (.string m.ctry) := hx.cell 8
  have c9 : W0.cell? ⟨w.heap.size, 9, none⟩ = some (.int .i64 m.qty) := hx.cell 9
  have c10 : W0.cell? ⟨w.heap.size, 10, none⟩ = some (.int .i64 m.amt) := hx.cell 10
  have c11 : W0.cell? ⟨w.heap.size, 11, none⟩ = some (.slice LA m.ln m.lc) := hx.cell 11
  have c12 : W0.cell? ⟨w.heap.size, 12, none⟩ = some (.string m.text) := hx.cell 12
  obtain ⟨b0, hb0⟩ : ∃ b, outB m.kind 1 60 = b := ⟨_, rfl⟩
  have HO0 : Hid (Calls Tryz.prog 103 #[.int .i64 m.kind, .int .i64 1, .int .i64 60] W0 fun e w' => e = .returned (.bool b0) ∧ w' = W0) := by show Calls _ _ _ _ _; rw [← hb0]; exact HOUT.out _ _ _ _
  have HE0 := Lib.hid hb0
  clear hb0
  go_wp2_with fail
  refine HO0.out.mono ?_
  rintro e w1 ⟨rfl, hw⟩
  obtain rfl : W0 = w1 := hw.symm
  clear hw
  cases b0
  case true =>
    have E : Hid (mB m = true) := by show _ = _; simp [mB, HE0.out]
    go_wp2
    go_ret
    exact MvRes.bad E.out (by decide) hb0

  obtain ⟨b1, hb1⟩ : ∃ b, outB m.frm 0 999 = b := ⟨_, rfl⟩
  have HO1 : Hid (Calls Tryz.prog 103 #[.int .i64 m.frm, .int .i64 0, .int .i64 999] W0 fun e w' => e = .returned (.bool b1) ∧ w' = W0) := by show Calls _ _ _ _ _; rw [← hb1]; exact HOUT.out _ _ _ _
  have HE1 := Lib.hid hb1
  clear hb1
  go_wp2_with fail
  refine HO1.out.mono ?_
  rintro e w1 ⟨rfl, hw⟩
  obtain rfl : W0 = w1 := hw.symm
  clear hw
  cases b1
  case true =>
    have E : Hid (mB m = true) := by show _ = _; simp [mB, HE1.out]
    go_wp2
    go_ret
    exact MvRes.bad E.out (by decide) hb0

  obtain ⟨b2, hb2⟩ : ∃ b, outB m.dst 0 999 = b := ⟨_, rfl⟩
  have HO2 : Hid (Calls Tryz.prog 103 #[.int .i64 m.dst, .int .i64 0, .int .i64 999] W0 fun e w' => e = .returned (.bool b2) ∧ w' = W0) := by show Calls _ _ _ _ _; rw [← hb2]; exact HOUT.out _ _ _ _
  have HE2 := Lib.hid hb2
  clear hb2
  go_wp2_with fail
  refine HO2.out.mono ?_
  rintro e w1 ⟨rfl, hw⟩
  obtain rfl : W0 = w1 := hw.symm
  clear hw
  cases b2
  case true =>
    have E : Hid (mB m = true) := by show _ = _; simp [mB, HE2.out]
    go_wp2
    go_ret
    exact MvRes.bad E.out (by decide) hb0

  obtain ⟨b3, hb3⟩ : ∃ b, outB m.num 0 1000000000 = b := ⟨_, rfl⟩
  have HO3 : Hid (Calls Tryz.prog 103 #[.int .i64 m.num, .int .i64 0, .int .i64 1000000000] W0 fun e w' => e = .returned (.bool b3) ∧ w' = W0) := by show Calls _ _ _ _ _; rw [← hb3]; exact HOUT.out _ _ _ _
  have HE3 := Lib.hid hb3
  clear hb3
  go_wp2_with fail
  refine HO3.out.mono ?_
  rintro e w1 ⟨rfl, hw⟩
  obtain rfl : W0 = w1 := hw.symm
  clear hw
  cases b3
  case true =>
    have E : Hid (mB m = true) := by show _ = _; simp [mB, HE3.out]
    go_wp2
    go_ret
    exact MvRes.bad E.out (by decide) hb0

  obtain ⟨b4, hb4⟩ : ∃ b, outB m.day 0 36524 = b := ⟨_, rfl⟩
  have HO4 : Hid (Calls Tryz.prog 103 #[.int .i64 m.day, .int .i64 0, .int .i64 36524] W0 fun e w' => e = .returned (.bool b4) ∧ w' = W0) := by show Calls _ _ _ _ _; rw [← hb4]; exact HOUT.out _ _ _ _
  have HE4 := Lib.hid hb4
  clear hb4
  go_wp2_with fail
  refine HO4.out.mono ?_
  rintro e w1 ⟨rfl, hw⟩
  obtain rfl : W0 = w1 := hw.symm
  clear hw
  cases b4
  case true =>
    have E : Hid (mB m = true) := by show _ = _; simp [mB, HE4.out]
    go_wp2
    go_ret
    exact MvRes.bad E.out (by decide) hb0

  obtain ⟨b5, hb5⟩ : ∃ b, outB m.lot 0 1000000000 = b := ⟨_, rfl⟩
  have HO5 : Hid (Calls Tryz.prog 103 #[.int .i64 m.lot, .int .i64 0, .int .i64 1000000000] W0 fun e w' => e = .returned (.bool b5) ∧ w' = W0) := by show Calls _ _ _ _ _; rw [← hb5]; exact HOUT.out _ _ _ _
  have HE5 := Lib.hid hb5
  clear hb5
  go_wp2_with fail
  refine HO5.out.mono ?_
  rintro e w1 ⟨rfl, hw⟩
  obtain rfl : W0 = w1 := hw.symm
  clear hw
  cases b5
  case true =>
    have E : Hid (mB m = true) := by show _ = _; simp [mB, HE5.out]
    go_wp2
    go_ret
    exact MvRes.bad E.out (by decide) hb0

  obtain ⟨b6, hb6⟩ : ∃ b, outB m.oth 0 1000000000 = b := ⟨_, rfl⟩
  have HO6 : Hid (Calls Tryz.prog 103 #[.int .i64 m.oth, .int .i64 0, .int .i64 1000000000] W0 fun e w' => e = .returned (.bool b6) ∧ w' = W0) := by show Calls _ _ _ _ _; rw [← hb6]; exact HOUT.out _ _ _ _
  have HE6 := Lib.hid hb6
  clear hb6
  go_wp2_with fail
  refine HO6.out.mono ?_
  rintro e w1 ⟨rfl, hw⟩
  obtain rfl : W0 = w1 := hw.symm
  clear hw
  cases b6
  case true =>
    have E : Hid (mB m = true) := by show _ = _; simp [mB, HE6.out]
    go_wp2
    go_ret
    exact MvRes.bad E.out (by decide) hb0

  obtain ⟨b7, hb7⟩ : ∃ b, outB m.qty 0 1000000000 = b := ⟨_, rfl⟩
  have HO7 : Hid (Calls Tryz.prog 103 #[.int .i64 m.qty, .int .i64 0, .int .i64 1000000000] W0 fun e w' => e = .returned (.bool b7) ∧ w' = W0) := by show Calls _ _ _ _ _; rw [← hb7]; exact HOUT.out _ _ _ _
  have HE7 := Lib.hid hb7
  clear hb7
  go_wp2_with fail
  refine HO7.out.mono ?_
  rintro e w1 ⟨rfl, hw⟩
  obtain rfl : W0 = w1 := hw.symm
  clear hw
  cases b7
  case true =>
    have E : Hid (mB m = true) := by show _ = _; simp [mB, HE7.out]
    go_wp2
    go_ret
    exact MvRes.bad E.out (by decide) hb0

  obtain ⟨b8, hb8⟩ : ∃ b, outB m.amt (-1000000000000) 1000000000000 = b := ⟨_, rfl⟩
  have HO8 : Hid (Calls Tryz.prog 103 #[.int .i64 m.amt, .int .i64 (-1000000000000), .int .i64 1000000000000] W0 fun e w' => e = .returned (.bool b8) ∧ w' = W0) := by show Calls _ _ _ _ _; rw [← hb8]; exact HOUT.out _ _ _ _
  have HE8 := Lib.hid hb8
  clear hb8
  go_wp2_with fail
  refine HO8.out.mono ?_
  rintro e w1 ⟨rfl, hw⟩
  obtain rfl : W0 = w1 := hw.symm
  clear hw
  cases b8
  case true =>
    have E : Hid (mB m = true) := by show _ = _; simp [mB, HE8.out]
    go_wp2
    go_ret
    exact MvRes.bad E.out (by decide) hb0

  have HF : Hid (mB m = false) := by show _ = _; simp [mB, HE0.out, HE1.out, HE2.out, HE3.out, HE4.out, HE5.out, HE6.out, HE7.out, HE8.out]
  clear HO0 HO1 HO2 HO3 HO4 HO5 HO6 HO7 HO8
  go_wp2_with fail
  refine (HCO.out _).mono ?_
  rintro e w1 ⟨⟨b, rfl, hb⟩, hw⟩
  obtain rfl : W0 = w1 := hw.symm
  clear hw
  cases b
  case false =>
    have E := Lib.hid hb
    go_wp2
    go_ret
    exact ⟨1, rfl, fun h0 => by (cases h0), fun _ h1 => by (cases E.out h1), hb0⟩
  clear hb
  go_wp2_with fail
  refine (HCY.out _).mono ?_
  rintro e w1 ⟨⟨b, rfl, hb⟩, hw⟩
  obtain rfl : W0 = w1 := hw.symm
  clear hw
  cases b
  case false =>
    have E := Lib.hid hb
    go_wp2
    go_ret
    exact ⟨1, rfl, fun h0 => by (cases h0), fun _ _ h1 => by (cases E.out h1), hb0⟩
  clear hb
  by_cases h64 : 64 < m.ln
  · have d64 : (64 : Int) < (m.ln : Int) := by omega
    go_wp2
    go_ret
    exact ⟨8, rfl, fun h0 => by (cases h0), fun _ _ _ h1 => by omega, hb0⟩
  have d64 : ¬ (64 : Int) < (m.ln : Int) := by omega
  by_cases h200 : 200 < m.text.size
  · have d200 : (200 : Int) < (m.text.size : Int) := by omega
    go_wp2
    go_ret
    exact ⟨8, rfl, fun h0 => by (cases h0), fun _ _ _ _ h1 => by omega, hb0⟩
  have d200 : ¬ (200 : Int) < (m.text.size : Int) := by omega
  go_wp2_with fail
  go_loopw [57] (fun i wx => ∃ k : Nat, k ≤ m.ln ∧ i = .int .i64 k ∧ Hid (RowKit.Below w.heap.size w wx)) (fun i _ => m.ln - (intOf i).toNat)
  case atStart => exact ⟨0, Nat.zero_le _, rfl, hb0⟩
  case round =>
    clear hb0
    obtain ⟨k, hk, rfl, HB⟩ := hrel
    by_cases hlt : k < m.ln
    · obtain ⟨b, off, z, hA, hbl, hz, _⟩ := (HIW.out.below HB.out).get hlt
      subst hA
      have hki : (k : Int) < m.ln := by omega
      obtain ⟨bz, hbz⟩ : ∃ b, outB z (-1000000000000) 1000000000000 = b := ⟨_, rfl⟩
      have HO : Hid (Calls Tryz.prog 103 #[.int .i64 z, .int .i64 (-1000000000000), .int .i64 1000000000000] wr fun e w' => e = .returned (.bool bz) ∧ w' = wr) := by show Calls _ _ _ _ _; rw [← hbz]; exact HOUT.out _ _ _ _
      clear hbz
      go_wp2_with fail
      refine HO.out.mono ?_
      rintro e w1 ⟨rfl, hw⟩
      have HB1 : Hid (RowKit.Below w.heap.size w w1) := by rw [hw]; exact HB
      clear hw hz HB
      cases bz
      case true =>
        go_wp2
        go_ret
        exact ⟨2, rfl, fun h0 => by (cases h0), fun _ _ _ h1 _ => by omega, HB1.out⟩
      go_wp2_with fail
      go_roundw
      case rel => exact ⟨k + 1, by omega, by go_num, HB1⟩
      case measure => simp [intOf]; omega
    · obtain rfl : m.ln = k := by omega
      go_wp2
      go_ret
      exact ⟨0, rfl, fun _ => HF.out, fun _ _ _ _ _ => rfl, HB.out⟩
end Go.Proofs.YtdbcbbiplkikcaaGreat

namespace Go.Proofs.YtdbcbbiplkikcaaGreat
open Go.RowKit
set_option linter.unusedVariables false

/-- A message to the centre that is carried out. -/
structure MOk (m : Mg) : Prop where
  fields : mB m = false
  num : 1 ≤ m.num ∧ m.num ≤ 999999
  dst : m.dst = 0
  frm : 1 ≤ m.frm ∧ m.frm ≤ 9
  kind : m.kind = 50 ∨ m.kind = 51 ∨ m.kind = 52
/-- What refuse says of a message. -/
def RfRes (m : Mg) (w : World) (e : Ending) (w' : World) : Prop := ∃ er : Int, e = .returned (.int .i64 er) ∧ (er = 0 → MOk m) ∧ (MOk m → m.code.size = 0 → m.ctry.size = 0 → m.ln = 0 → m.text.size = 0 → er = 0) ∧ RowKit.Below w.heap.size w w'
theorem RfRes.bad {m : Mg} {w w' : World} (h : ¬ MOk m) (hb : RowKit.Below w.heap.size w w') : RfRes m w (.returned (.int .i64 2)) w' := ⟨2, rfl, fun h0 => (by cases h0), fun h1 => absurd h1 h, hb⟩

set_option maxRecDepth 100000 in
set_option maxHeartbeats 8000000 in
theorem refuse_any (m : Mg) (ls : List Int) (w : World) (h : Ints w m.LA m.ln ls) (hc : m.code.size ≤ 9223372036854775807) (hy : m.ctry.size ≤ 9223372036854775807) (hln : m.ln ≤ 9223372036854775807) (htx : m.text.size ≤ 9223372036854775807) :
    Calls Tryz.prog 38 #[.agg #[.int .i64 m.kind, .int .i64 m.frm, .int .i64 m.dst, .int .i64 m.num, .int .i64 m.day, .int .i64 m.lot, .int .i64 m.oth, .string m.code, .string m.ctry, .int .i64 m.qty, .int .i64 m.amt, .slice m.LA m.ln m.lc, .string m.text]] w (RfRes m w) := by
  have hx := Bl.new w 48 #[.int .i64 m.kind, .int .i64 m.frm, .int .i64 m.dst, .int .i64 m.num, .int .i64 m.day, .int .i64 m.lot, .int .i64 m.oth, .string m.code, .string m.ctry, .int .i64 m.qty, .int .i64 m.amt, .slice m.LA m.ln m.lc, .string m.text]
  have hb0 : RowKit.Below w.heap.size w (w.alloc (.cells #[.int .i64 m.kind, .int .i64 m.frm, .int .i64 m.dst, .int .i64 m.num, .int .i64 m.day, .int .i64 m.lot, .int .i64 m.oth, .string m.code, .string m.ctry, .int .i64 m.qty, .int .i64 m.amt, .slice m.LA m.ln m.lc, .string m.text] 48)) := (Below.refl _ _).alloc (Nat.le_refl _) _
  have HV := Lib.hid (mvalidate_any m ls (w.alloc (.cells #[.int .i64 m.kind, .int .i64 m.frm, .int .i64 m.dst, .int .i64 m.num, .int .i64 m.day, .int .i64 m.lot, .int .i64 m.oth, .string m.code, .string m.ctry, .int .i64 m.qty, .int .i64 m.amt, .slice m.LA m.ln m.lc, .string m.text] 48)) (h.alloc _) hc hy hln htx)
  clear h
  go_enter Tryz.func38, Tryz.ntmps38
  go_upto_region 1 with (fail)
  generalize w.alloc (.cells #[.int .i64 m.kind, .int .i64 m.frm, .int .i64 m.dst, .int .i64 m.num, .int .i64 m.day, .int .i64 m.lot, .int .i64 m.oth, .string m.code, .string m.ctry, .int .i64 m.qty, .int .i64 m.amt, .slice m.LA m.ln m.lc, .string m.text] 48) = W0 at *
  have c0 : W0.cell? ⟨w.heap.size, 0, none⟩ = some (.int .i64 m.kind) := hx.cell 0
  have c1 : W0.cell? ⟨w.heap.size, 1, none⟩ = some (.int .i64 m.frm) := hx.cell 1
  have c2 : W0.cell? ⟨w.heap.size, 2, none⟩ = some (.int .i64 m.dst) := hx.cell 2
  have c3 : W0.cell? ⟨w.heap.size, 3, none⟩ = some (.int .i64 m.num) := hx.cell 3
  have c4 : W0.cell? ⟨w.heap.size, 4, none⟩ = some (.int .i64 m.day) := hx.cell 4
  have c5 : W0.cell? ⟨w.heap.size, 5, none⟩ = some (.int .i64 m.lot) := hx.cell 5
  have c6 : W0.cell? ⟨w.heap.size, 6, none⟩ = some (.int .i64 m.oth) := hx.cell 6
  have c7 : W0.cell? ⟨w.heap.size, 7, none⟩ = some (.string m.code) := hx.cell 7
  have c8 : W0.cell? ⟨w.heap.size, 8, none⟩ = some (.string m.ctry) := hx.cell 8
  have c9 : W0.cell? ⟨w.heap.size, 9, none⟩ = some (.int .i64 m.qty) := hx.cell 9
  have c10 : W0.cell? ⟨w.heap.size, 10, none⟩ = some (.int .i64 m.amt) := hx.cell 10
  have c11 : W0.cell? ⟨w.heap.size, 11, none⟩ = some (.slice m.LA m.ln m.lc) := hx.cell 11
  have c12 : W0.cell? ⟨w.heap.size, 12, none⟩ = some (.string m.text) := hx.cell 12
  go_wp2_with fail
  refine HV.out.mono ?_
  rintro e w1 ⟨er, rfl, hv1, hv2, hb1⟩
  have HB := Lib.hid (hb0.trans (hb1.mono hb0.size))
  have hx1 := hx.keep hb1
  clear c0 c1 c2 c3 c4 c5 c6 c7 c8 c9 c10 c11 c12 hx hb0 hb1 HV
  have c0 : w1.cell? ⟨w.heap.size, 0, none⟩ = some (.int .i64 m.kind) := hx1.cell 0
  have c1 : w1.cell? ⟨w.heap.size, 1, none⟩ = some (.int .i64 m.frm) := hx1.cell 1
  have c2 : w1.cell? ⟨w.heap.size, 2, none⟩ = some (.int .i64 m.dst) := hx1.cell 2
  have c3 : w1.cell? ⟨w.heap.size, 3, none⟩ = some (.int .i64 m.num) := hx1.cell 3
  by_cases ge : er = 0
  case neg =>
    have b1 : (er != 0) = true := by simpa using ge
    have V1 := Lib.hid hv1
    have V2 := Lib.hid hv2
    have GE := Lib.hid ge
    clear hv1 hv2 ge
    go_wp2
    go_ret
    exact ⟨er, rfl, fun h0 => absurd h0 GE.out, fun h1 => V2.out h1.fields, HB.out⟩
  subst ge
  have HF := Lib.hid (hv1 rfl)
  clear hv1 hv2
  by_cases g0 : m.num < 1
  case pos =>
    have d0 : decide (m.num < 1) = true := by simpa using g0
    have E : Hid (¬ MOk m) := fun h => by have := h.num.1; omega
    clear g0
    go_wp2
    go_ret
    exact RfRes.bad E.out HB.out
  have d0 : decide (m.num < 1) = false := by simpa using g0
  by_cases g1 : 999999 < m.num
  case pos =>
    have d1 : decide (999999 < m.num) = true := by simpa using g1
    have E : Hid (¬ MOk m) := fun h => by have := h.num.2; omega
    clear g1
    go_wp2
    go_ret
    exact RfRes.bad E.out HB.out
  have d1 : decide (999999 < m.num) = false := by simpa using g1
  by_cases g2 : m.dst = 0
  case neg =>
    have d2 : (m.dst != 0) = true := by simpa using g2
    have E : Hid (¬ MOk m) := fun h => g2 h.dst
    clear g2
    go_wp2
    go_ret
    exact RfRes.bad E.out HB.out
  have d2 : (m.dst != 0) = false := by simpa using g2
  by_cases g3 : m.frm < 1
  case pos =>
    have d3 : decide (m.frm < 1) = true := by simpa using g3
    have E : Hid (¬ MOk m) := fun h => by have := h.frm.1; omega
    clear g3
    go_wp2
    go_ret
    exact RfRes.bad E.out HB.out
  have d3 : decide (m.frm < 1) = false := by simpa using g3
  by_cases g4 : 9 < m.frm
  case pos =>
    have d4 : decide (9 < m.frm) = true := by simpa using g4
    have E : Hid (¬ MOk m) := fun h => by have := h.frm.2; omega
    clear g4
    go_wp2
    go_ret
    exact RfRes.bad E.out HB.out
  have d4 : decide (9 < m.frm) = false := by simpa using g4
  by_cases k50 : m.kind = 50
  case pos =>
    have b : (m.kind == 50) = true := by simpa using k50
    have E : Hid (MOk m) := ⟨HF.out, ⟨by omega, by omega⟩, g2, ⟨by omega, by omega⟩, by omega⟩
    clear g0 g1 g2 g3 g4
    go_wp2
    go_ret
    exact ⟨0, rfl, fun _ => E.out, fun _ _ _ _ _ => rfl, HB.out⟩
  have b50 : (m.kind == 50) = false := by simpa using k50
  by_cases k51 : m.kind = 51
  case pos =>
    have b : (m.kind == 51) = true := by simpa using k51
    have E : Hid (MOk m) := ⟨HF.out, ⟨by omega, by omega⟩, g2, ⟨by omega, by omega⟩, by omega⟩
    clear g0 g1 g2 g3 g4
    go_wp2
    go_ret
    exact ⟨0, rfl, fun _ => E.out, fun _ _ _ _ _ => rfl, HB.out⟩
  have b51 : (m.kind == 51) = false := by simpa using k51
  by_cases k52 : m.kind = 52
  case pos =>
    have b : (m.kind == 52) = true := by simpa using k52
    have E : Hid (MOk m) := ⟨HF.out, ⟨by omega, by omega⟩, g2, ⟨by omega, by omega⟩, by omega⟩
    clear g0 g1 g2 g3 g4
    go_wp2
    go_ret
    exact ⟨0, rfl, fun _ => E.out, fun _ _ _ _ _ => rfl, HB.out⟩
  have b52 : (m.kind == 52) = false := by simpa using k52
  have E : Hid (¬ MOk m) := fun h => by
    rcases h.kind with h | h | h <;> omega
  clear g0 g1 g2 g3 g4 k50 k51 k52
  go_wp2
  go_ret
  exact RfRes.bad E.out HB.out
end Go.Proofs.YtdbcbbiplkikcaaGreat

namespace Go.Proofs.YtdbcbbiplkikcaaGreat
set_option linter.unusedVariables false

/-- IDs and quantities of requests. -/
def prs (blk : List Rq) : List (Int × Int) := blk.map fun r => (r.id, r.req)
/-- The requests of one day with their grants. -/
def grantL (t : Int) (blk : List Rq) : List Rq := (List.range blk.length).map fun k => { blk[k]! with avail := t, asked := (qsOf (prs blk)).sum, grant := grantV t (prs blk) k }
/-- Day after day; b is what is available less the tranches that are in it. -/
def runD (T : Int → Int) : Nat → List Rq → Int → List Rq × Int
  | 0, _, b => ([], b)
  | _ + 1, [], b => ([], b)
  | m + 1, r :: rs, b =>
    let R := runD T m ((r :: rs).dropWhile fun x => x.day == r.day) (max (b + T r.day - (qsOf (prs ((r :: rs).takeWhile fun x => x.day == r.day))).sum) 0 - T r.day)
    (grantL (b + T r.day) ((r :: rs).takeWhile fun x => x.day == r.day) ++ R.1, R.2)
theorem runD_nil (T : Int → Int) (m : Nat) (b : Int) : runD T m [] b = ([], b) := by cases m <;> rfl
/-- One step, its block and its rest being known. -/
theorem runD_step (T : Int → Int) (m : Nat) {rs blk rest : List Rq} {D b : Int} (hb : blk ≠ []) (e : rs = blk ++ rest) (h1 : ∀ x ∈ blk, x.day = D) (h2 : ∀ r ∈ rest.head?, r.day ≠ D) : runD T (m + 1) rs b = (grantL (b + T D) blk ++ (runD T m rest (max (b + T D - (qsOf (prs blk)).sum) 0 - T D)).1, (runD T m rest (max (b + T D - (qsOf (prs blk)).sum) 0 - T D)).2) := by
  cases blk with
  | nil => exact absurd rfl hb
  | cons r bs =>
    have hr : r.day = D := h1 r (List.mem_cons_self ..)
    have ha : ∀ x ∈ r :: bs, (x.day == D) = true := fun x hx => by simpa using h1 x hx
    have ht : rs.takeWhile (fun x => x.day == D) = r :: bs := by
      rw [e, List.takeWhile_append_of_pos ha]
      cases rest with
      | nil => simp
      | cons s ss =>
        have : (s.day == D) = false := by simpa using h2 s rfl
        rw [List.takeWhile_cons_of_neg (by simp [this])]; simp
    have hd : rs.dropWhile (fun x => x.day == D) = rest := by
      rw [e, List.dropWhile_append_of_pos ha]
      cases rest with
      | nil => simp
      | cons s ss =>
        have : (s.day == D) = false := by simpa using h2 s rfl
        rw [List.dropWhile_cons_of_neg (by simp [this])]
    have e2 : rs = r :: (bs ++ rest) := by rw [e]; rfl
    rw [e2, runD, hr, ← e2, ht, hd]
/-- The fuel does not matter. -/
theorem runD_fuel (T : Int → Int) : ∀ (m k : Nat) (rs : List Rq) (b : Int), rs.length ≤ m → rs.length ≤ k → runD T m rs b = runD T k rs b := by
  intro m
  induction m with
  | zero =>
    intro k rs b h1 h2
    obtain rfl : rs = [] := List.eq_nil_of_length_eq_zero (by omega)
    rw [runD_nil, runD_nil]
  | succ m ih =>
    intro k rs b h1 h2
    cases rs with
    | nil => rw [runD_nil, runD_nil]
    | cons r rs =>
      cases k with
      | zero => simp at h2
      | succ k =>
        have hl : ((r :: rs).dropWhile fun x => x.day == r.day).length ≤ rs.length := by
          rw [List.dropWhile_cons_of_pos (by simp)]
          exact (List.dropWhile_sublist _).length_le
        simp only [List.length_cons] at h1 h2
        rw [runD, runD, ih k _ _ (by omega) (by omega)]
/-- The places from i to n of a row. -/
def rowL (f : Nat → Rq) (i n : Nat) : List Rq := (List.range (n - i)).map fun k => f (i + k)
theorem rowL_len (f : Nat → Rq) (i n : Nat) : (rowL f i n).length = n - i := by simp [rowL]
theorem rowL_get (f : Nat → Rq) (i n k : Nat) (h : k < n - i) : (rowL f i n)[k]! = f (i + k) := by
  rw [getElem!_pos _ k (by rw [rowL_len]; exact h)]
  simp [rowL]
theorem rowL_split (f : Nat → Rq) {i e n : Nat} (h1 : i ≤ e) (h2 : e ≤ n) : rowL f i n = rowL f i e ++ rowL f e n := by
  unfold rowL
  rw [show n - i = (e - i) + (n - e) by omega, List.range_add, List.map_append, List.map_map]
  congr 1
  refine List.map_congr_left fun k _ => ?_
  show f (i + (e - i + k)) = f (e + k)
  rw [show i + (e - i + k) = e + k by omega]
theorem rowL_congr {f g : Nat → Rq} {i n : Nat} (h : ∀ k, i ≤ k → k < n → f k = g k) : rowL f i n = rowL g i n :=
  List.map_congr_left fun k hk => h _ (by omega) (by have := List.mem_range.1 hk; omega)
theorem prs_row (f : Nat → Rq) (i e : Nat) : prs (rowL f i e) = dayReqs f i (e - i) := by simp [prs, rowL, dayReqs]
theorem runS_before (T : Int → Int) (n : Nat) : ∀ (m i : Nat) (tp a : Int) (f : Nat → Rq), i ≤ n → ∀ j, j < i → (runS T n m i tp a f).1 j = f j := by
  intro m
  induction m with
  | zero => intro i tp a f _ j _; rfl
  | succ m ih =>
    intro i tp a f hn j hj
    by_cases hi : i < n
    · rw [runS_step hi rfl rfl]
      have h1 := endAt_ge f (f i).day n n i
      have h2 := endAt_le f (f i).day n n i hn
      rw [ih _ _ _ _ h2 j (by omega)]
      unfold grantedF
      rw [if_neg (by omega)]
    · rw [runS_end hi]
theorem runS_runD (T : Int → Int) (n : Nat) : ∀ (m i : Nat) (tp a : Int) (f : Nat → Rq), n ≤ i + m → i ≤ n → runD T m (rowL f i n) (a - tp) = (rowL (runS T n m i tp a f).1 i n, (runS T n m i tp a f).2.2 - (runS T n m i tp a f).2.1) := by
  intro m
  induction m with
  | zero =>
    intro i tp a f h1 h2
    obtain rfl : i = n := by omega
    simp [runD, runS, rowL]
  | succ m ih =>
    intro i tp a f h1 h2
    by_cases hi : i < n
    · obtain ⟨D, hD⟩ : ∃ D, (f i).day = D := ⟨_, rfl⟩
      obtain ⟨e, he⟩ : ∃ e, endAt f D n n i = e := ⟨_, rfl⟩
      have hei : i + 1 ≤ e := by
        rw [← he]
        cases n with
        | zero => omega
        | succ n' => rw [endAt_step hi hD]; exact endAt_ge _ _ _ _ _
      have hen : e ≤ n := by rw [← he]; exact endAt_le _ _ _ _ _ h2
      rw [runS_step hi hD he]
      obtain ⟨f1, hf1⟩ : ∃ f1, grantedF f i (e - i) (a + (T D - tp)) (e - i) = f1 := ⟨_, rfl⟩
      have hrest : rowL f e n = rowL f1 e n := rowL_congr fun k k1 k2 => by rw [← hf1]; unfold grantedF; rw [if_neg (by omega)]
      rw [hf1]
      have hst := runD_step T m (rs := rowL f i n) (blk := rowL f i e) (rest := rowL f e n) (D := D) (b := a - tp) (fun h => by have := congrArg List.length h; rw [rowL_len] at this; simp at this; omega) (rowL_split f (by omega) hen)
        (fun x hx => by
          obtain ⟨k, hk, rfl⟩ := List.mem_map.1 hx
          have := List.mem_range.1 hk
          exact endAt_in f D n n i _ (by omega) (by rw [he]; omega))
        (fun r hr => by
          by_cases hlt : e < n
          · rw [rowL_split f (show e ≤ e + 1 by omega) (show e + 1 ≤ n by omega)] at hr
            simp [rowL] at hr
            have := endAt_stop f D n n i (by omega) h2 (by rw [he]; exact hlt)
            rw [he] at this
            rw [← hr]; exact this
          · unfold rowL at hr
            rw [show n - e = 0 by omega] at hr
            simp at hr)
      rw [show a - tp + T D = a + (T D - tp) by omega] at hst
      rw [hst, hrest, prs_row, ih e _ _ f1 (by omega) hen]
      refine Prod.ext ?_ rfl
      show _ ++ _ = _
      rw [rowL_split _ (show i ≤ e by omega) hen]
      congr 1
      unfold grantL
      rw [rowL_len, prs_row]
      show _ = List.map _ _
      refine List.map_congr_left fun k hk => ?_
      have hk' := List.mem_range.1 hk
      rw [runS_before T n m e _ _ f1 hen (i + k) (by omega), rowL_get f i e k hk', ← hf1]
      unfold grantedF
      rw [if_pos (by omega), Nat.add_sub_cancel_left]
    · obtain rfl : i = n := by omega
      rw [runS_end (by omega)]
      simp [rowL, runD_nil]
/-- What settle computes, by lists. -/
theorem settled_list {fs : List Fct} {vol : Int} {gs : List Rq} {bal : Int} : Settled fs vol gs bal ↔ ∃ rs, ReqList fs rs ∧ gs.Perm (runD (trSum (trOf fs)) rs.length rs vol).1 ∧ (∀ i j, i < j → j < gs.length → gs[i]!.id < gs[j]!.id) ∧ bal = (runD (trSum (trOf fs)) rs.length rs vol).2 + trAll (trOf fs) := by
  have key : ∀ rs : List Rq, runD (trSum (trOf fs)) rs.length rs vol = ((List.range rs.length).map (runS (trSum (trOf fs)) rs.length rs.length 0 0 vol (fun i => rs[i]!)).1, (runS (trSum (trOf fs)) rs.length rs.length 0 0 vol (fun i => rs[i]!)).2.2 - (runS (trSum (trOf fs)) rs.length rs.length 0 0 vol (fun i => rs[i]!)).2.1) := fun rs => by
    have h := runS_runD (trSum (trOf fs)) rs.length rs.length 0 0 vol (fun i => rs[i]!) (by omega) (by omega)
    have e : rowL (fun i => rs[i]!) 0 rs.length = rs := by
      apply List.ext_getElem
      · simp [rowL]
      · intro i h1 h2
        have := getElem!_pos rs i h2
        simp only [rowL, List.getElem_map, List.getElem_range, Nat.zero_add]
        exact this
    rw [e, Int.sub_zero] at h
    rw [h]
    simp [rowL]
  constructor
  · rintro ⟨rs, F, h1, rfl, h3, h4, h5⟩
    exact ⟨rs, h1, by rw [key]; exact h3, h4, by rw [key, h5]; show _ = _ - _ + _; omega⟩
  · rintro ⟨rs, h1, h3, h4, h5⟩
    rw [key] at h3 h5
    exact ⟨rs, _, h1, rfl, h3, h4, by rw [h5]; show _ - _ + _ = _; omega⟩
end Go.Proofs.YtdbcbbiplkikcaaGreat

namespace Go.Proofs.YtdbcbbiplkikcaaGreat
open Go.RowKit
set_option linter.unusedVariables false

def qAw : Qt := ⟨1, 10, 0, 9⟩
def fAw : Fct := ⟨1000001, 1, 2, 10001, 6⟩
theorem reqList_mkA {fs : List Fct} {rs : List Rq} (h1 : (rs.map (·.id)).Nodup) (h2 : ∀ id : Int, (∃ r ∈ rs, r.id = id) ↔ (askOf fs id).isSome = true) (h3 : ∀ r ∈ rs, r = rqOf fs r.id) (h4 : rs.Pairwise (fun a b => a.day < b.day ∨ (a.day = b.day ∧ a.id < b.id))) : ReqList fs rs := ⟨h1, h2, h3, fun i j hij hj => by
  have := List.pairwise_iff_getElem.1 h4 i j (by omega) hj hij
  rwa [getElem!_pos rs i (by omega), getElem!_pos rs j hj]⟩
theorem ids_of_pairA {gs : List Rq} (h : gs.Pairwise (fun a b => a.id < b.id)) : ∀ i j, i < j → j < gs.length → gs[i]!.id < gs[j]!.id := fun i j hij hj => by
  have := List.pairwise_iff_getElem.1 h i j (by omega) hj hij
  rwa [getElem!_pos gs i (by omega), getElem!_pos gs j hj]
theorem settledA0 : Settled [] 10 [] 10 := by
  rw [settled_list]
  refine ⟨[], reqList_mkA (by decide) (fun id => ?_) (by decide) (by decide), ?_, ids_of_pairA (by decide), by decide⟩
  · simp [askOf]
  · rw [show (runD (trSum (trOf [])) ([] : List Rq).length [] 10).1 = [] by decide]
theorem settledA1 : Settled [fAw] 10 [⟨10001, 2, 10, 6, 6, 6⟩] 4 := by
  rw [settled_list]
  refine ⟨[⟨10001, 2, 0, 0, 6, 0⟩], reqList_mkA (by decide) (fun id => ?_) (by decide) (by decide), ?_, ids_of_pairA (by decide), by decide⟩
  · simp [askOf, fAw]
  · rw [show (runD (trSum (trOf [fAw])) [(⟨10001, 2, 0, 0, 6, 0⟩ : Rq)].length [⟨10001, 2, 0, 0, 6, 0⟩] 10).1 = [⟨10001, 2, 10, 6, 6, 6⟩] by decide]
theorem chgsA : chgs [] [⟨10001, 2, 10, 6, 6, 6⟩] = [⟨10001, 0, 6⟩] := by decide
/-- The changes of the first request. -/
theorem chgsAw {ga gb : List Rq} {ba bb : Int} (h : Settled [] 10 ga ba) (h' : Settled [fAw] 10 gb bb) : chgs ga gb = [⟨10001, 0, 6⟩] := by
  obtain ⟨rfl, _⟩ := h.unique settledA0
  obtain ⟨rfl, _⟩ := h'.unique settledA1
  exact chgsA
end Go.Proofs.YtdbcbbiplkikcaaGreat

namespace Go.Proofs.YtdbcbbiplkikcaaGreat
open Go.RowKit
set_option linter.unusedVariables false

/-- What holds of the centre after k messages. -/
structure CInv (k : Nat) (C : Cen) : Prop where
  seen : C.seen.length ≤ k
  sent : C.sent.length ≤ 201 * k
  cov : C.cov.length ≤ k
  asc : uAsc C.cov
  nq : C.qs.length ≤ 16
  ng : C.gs.length ≤ 16
  books : ∀ b ∈ C.qs, BOk b.q b.fs ∧ b.fs.length ≤ k
  guars : ∀ g ∈ C.gs, GOk g.h g.us
theorem CInv.same {k : Nat} {C C' : Cen} (h : CInv k C) (hs : SameC C C') : CInv k C' := by
  refine ⟨by rw [hs.seen]; exact h.seen, by rw [hs.sent]; exact h.sent, by rw [hs.cov]; exact h.cov, by rw [hs.cov]; exact h.asc, ?_, ?_, fun b hb => ?_, fun g hg => ?_⟩
  · have := congrArg List.length hs.qs; simp at this; rw [this]; exact h.nq
  · have := congrArg List.length hs.gs; simp at this; rw [this]; exact h.ng
  · have h1 : (b.q, b.fs) ∈ C'.qs.map (fun b => (b.q, b.fs)) := List.mem_map.2 ⟨b, hb, rfl⟩
    rw [hs.qs] at h1
    obtain ⟨x, hx, e⟩ := List.mem_map.1 h1
    injection e with e1 e2
    rw [← e1, ← e2]
    exact h.books x hx
  · have h1 : (g.h, g.us) ∈ C'.gs.map (fun b => (b.h, b.us)) := List.mem_map.2 ⟨g, hg, rfl⟩
    rw [hs.gs] at h1
    obtain ⟨x, hx, e⟩ := List.mem_map.1 h1
    injection e with e1 e2
    rw [← e1, ← e2]
    exact h.guars x hx
theorem CInv.mono {k l : Nat} {C : Cen} (h : CInv k C) (hl : k ≤ l) : CInv l C :=
  ⟨Nat.le_trans h.seen hl, by have := h.sent; omega, Nat.le_trans h.cov hl, h.asc, h.nq, h.ng, fun b hb => ⟨(h.books b hb).1, Nat.le_trans (h.books b hb).2 hl⟩, h.guars⟩
theorem mem_set_or {α : Type} {xs : List α} {i : Nat} {y z : α} (h : z ∈ xs.set i y) : z = y ∨ z ∈ xs := by
  rcases List.mem_or_eq_of_mem_set h with h | h
  · exact .inr h
  · exact .inl h
theorem CInv.fact {k : Nat} {C : Cen} (h : CInv k C) (hk : k ≤ 100) {I : Nat} {b : Qb} {ss : List Snt} (hb : BOk b.q b.fs) (hl : b.fs.length ≤ k + 1) (hs : ss.length ≤ k + 1) : CInv (k + 1) { C with qs := C.qs.set I b, sent := C.sent ++ ss } :=
  ⟨Nat.le_succ_of_le h.seen, by have := h.sent; simp; omega, Nat.le_succ_of_le h.cov, h.asc, by simpa using h.nq, h.ng, fun x hx => by
    rcases mem_set_or hx with rfl | hx
    · exact ⟨hb, hl⟩
    · exact ⟨(h.books x hx).1, Nat.le_succ_of_le (h.books x hx).2⟩, h.guars⟩
/-- The block of the row. -/
def Hd.own (h : Hd) : Option Nat := (Value.slice h.A h.n h.c).ownBlock
/-- Nothing has changed but the rows of the centre. -/
def RowsFix (w w' : World) (H : Hds) : Prop := ∀ b, b < w.heap.size → some b ≠ H.q.own → some b ≠ H.g.own → some b ≠ H.k.own → some b ≠ H.m.own → w'.heap[b]? = w.heap[b]?
theorem RowsFix.of_below {w w' : World} {H : Hds} (h : RowKit.Below w.heap.size w w') : RowsFix w w' H := fun b hb _ _ _ _ => h.block b hb
/-- The message of the sanity check. -/
def AwEx (C : Cen) (m : Mg) (er : Int) (C' : Cen) : Prop := ∀ b, C.qs = [b] → b.q = qAw → b.fs = [] → C.sent = [] → m.kind = 50 → m.frm = 1 → m.num = 1 → m.day = 2 → m.lot = 10001 → m.oth = 1 → m.qty = 6 → m.amt = 1 → er = 0 ∧ ∃ s, C'.sent = [s] ∧ s.kind = 30 ∧ s.dst = 1 ∧ s.lot = 10001 ∧ s.qty = 6
/-- What the three actions return. -/
def ActRes (N : Nat) (w : World) (H : Hds) (C : Cen) (m : Mg) (k : Nat) (e : Ending) (w' : World) : Prop :=
  ∃ (H' : Hds) (C' : Cen) (er : Int), e = .returned (.tuple #[.agg #[.slice H'.s.A H'.s.n H'.s.c, .slice H'.q.A H'.q.n H'.q.c, .slice H'.g.A H'.g.n H'.g.c, .slice H'.k.A H'.k.n H'.k.c, .slice H'.m.A H'.m.n H'.m.c], .int .i64 er]) ∧ CenO N w' H' C' ∧ CovApart H' C' ∧ CInv (k + 1) C' ∧ H'.s = H.s ∧ C'.seen = C.seen ∧ RowsFix w w' H ∧ RowKit.Below N w w' ∧ AwEx C m er C'
theorem ActRes.same {N : Nat} {w w' : World} {H : Hds} {C : Cen} {m : Mg} {k : Nat} {er : Int} (hO : CenO N w' H C) (ha : CovApart H C) (hI : CInv k C) (hf : RowsFix w w' H) (hb : RowKit.Below N w w') (hx : AwEx C m er C) : ActRes N w H C m k (.returned (.tuple #[.agg #[.slice H.s.A H.s.n H.s.c, .slice H.q.A H.q.n H.q.c, .slice H.g.A H.g.n H.g.c, .slice H.k.A H.k.n H.k.c, .slice H.m.A H.m.n H.m.c], .int .i64 er])) w' :=
  ⟨H, C, er, rfl, hO, ha, hI.mono (Nat.le_succ k), rfl, rfl, hf, hb, hx⟩
theorem AwEx.noId {C C' : Cen} {m : Mg} {er : Int} {n : Nat} (hl : C.qs.length = n) (h : ∀ j, j < n → C.qs[j]!.q.id ≠ m.oth) : AwEx C m er C' := by
  intro b hq hb _ _ _ _ _ _ _ ho _ _
  exfalso
  rw [hq] at hl h
  exact h 0 (by rw [← hl]; exact Nat.one_pos) (by rw [ho]; show b.q.id = 1; rw [hb]; rfl)
theorem AwEx.amt {C C' : Cen} {m : Mg} {er : Int} (h : m.amt < 1 ∨ 3 < m.amt) : AwEx C m er C' := by
  intro b hq hb _ _ _ _ _ _ _ ho _ ha
  omega
theorem AwEx.per {C C' : Cen} {m : Mg} {er : Int} (h : m.lot / 10000 ≠ m.frm) : AwEx C m er C' := by
  intro b hq hb _ _ _ hf _ _ hl ho _ ha
  rw [hl, hf] at h
  exact absurd rfl h
theorem AwEx.kind {C C' : Cen} {m : Mg} {er : Int} (h : m.kind ≠ 50) : AwEx C m er C' := fun _ _ _ _ _ hk => absurd hk h
theorem fAw_ok : fErr qAw fAw = 0 := by decide
theorem AwEx.bad {C C' : Cen} {m : Mg} {er : Int} {I : Nat} {b : Qb} (hI : I < C.qs.length) (hb : C.qs[I]! = b) (h : fErr b.q ⟨1000000 * m.frm + m.num, m.amt, m.day, m.lot, m.qty⟩ = 0 → b.fs ≠ []) : AwEx C m er C' := by
  intro b' hq hb' hf _ _ h1 h2 h3 h4 _ h6 h7
  exfalso
  rw [hq] at hI hb
  obtain rfl : I = 0 := by simpa using hI
  obtain rfl : b' = b := hb
  rw [hb', h1, h2, h3, h4, h6, h7] at h
  exact h fAw_ok hf
def sKey (s : Snt) : Int × Int × Int × Int := (s.kind, s.dst, s.lot, s.qty)
def cKey (x : Cg) : Int × Int × Int × Int := (30, x.id / 10000, x.id, x.after)
theorem AwEx.good {C C' : Cen} {m : Mg} {I : Nat} {b : Qb} {fs' : List Fct} {cs : List Cg} {ss : List Snt} (hI : I < C.qs.length) (hb : C.qs[I]! = b) (h : ApOk b.q b.fs ⟨1000000 * m.frm + m.num, m.amt, m.day, m.lot, m.qty⟩ fs' cs) (hs : C'.sent = C.sent ++ ss) (hk : ss.map sKey = cs.map cKey) : AwEx C m 0 C' := by
  intro b' hq hb' hf hse _ h1 h2 h3 h4 _ h6 h7
  rw [hq] at hI hb
  obtain rfl : I = 0 := by simpa using hI
  obtain rfl : b' = b := hb
  obtain ⟨_, ga, gb, ba, bb, s0, s1, e⟩ := h.first hf
  rw [h1, h2, h3, h4, h6, h7, hb'] at s1
  rw [hb'] at s0
  rw [chgsAw s0 s1] at e
  rw [e] at hk
  refine ⟨rfl, ?_⟩
  cases ss with
  | nil => cases hk
  | cons s t =>
    cases t with
    | cons y t => simp at hk
    | nil =>
    simp only [List.map_cons, List.map_nil, List.cons.injEq, and_true, sKey, cKey, Prod.mk.injEq] at hk
    exact ⟨s, by rw [hs, hse]; rfl, hk.1, hk.2.1, hk.2.2.1, hk.2.2.2⟩
/-- An element of the row of books has been written. -/
theorem own_setK2 {α : Type} [Inhabited α] {enc : α → List Value} {k : Nat} (hk : ∀ x, (enc x).length = k) {w : World} {N : Nat} {T : TypeId} {g n cap : Nat} {xs : List α} {v : Value} {y y0 : α} {c i : Nat} (h : w.ownsRow N T k (.slice (some ⟨g, 0, none⟩) n cap) n (flat enc (xs.set i y0))) (hc : c < k) (hi : i < xs.length) (e : enc y = (enc y0).set c v) :
    (w.setCell ⟨g, i * k + c, none⟩ v).ownsRow N T k (.slice (some ⟨g, 0, none⟩) n cap) n (flat enc (xs.set i y)) := by
  have h1 := own_setK (y := y) hk h hc (by simpa using hi) (by rw [get_setK xs i i y0 hi, if_pos rfl]; exact e)
  rwa [List.set_set] at h1
theorem set_selfK {α : Type} [Inhabited α] {xs : List α} {i : Nat} (hi : i < xs.length) : xs.set i xs[i]! = xs := by rw [getElem!_pos xs i hi]; exact List.set_getElem_self hi
theorem heap_set5o {w : World} {r b o : Nat} (hb : b ≠ r) (v0 v1 v2 v3 v4 : Value) : (((((w.setCell ⟨r, o, none⟩ v0).setCell ⟨r, o + 1, none⟩ v1).setCell ⟨r, o + 2, none⟩ v2).setCell ⟨r, o + 3, none⟩ v3).setCell ⟨r, o + 4, none⟩ v4).heap[b]? = w.heap[b]? := ((((Below.heap_setCell _ _ _ b hb).trans (Below.heap_setCell _ _ _ b hb)).trans (Below.heap_setCell _ _ _ b hb)).trans (Below.heap_setCell _ _ _ b hb)).trans (Below.heap_setCell _ _ _ b hb)
theorem heap_set4o {w : World} {r b o : Nat} (hb : b ≠ r) (v0 v1 v2 v3 : Value) : ((((w.setCell ⟨r, o, none⟩ v0).setCell ⟨r, o + 1, none⟩ v1).setCell ⟨r, o + 2, none⟩ v2).setCell ⟨r, o + 3, none⟩ v3).heap[b]? = w.heap[b]? := (((Below.heap_setCell _ _ _ b hb).trans (Below.heap_setCell _ _ _ b hb)).trans (Below.heap_setCell _ _ _ b hb)).trans (Below.heap_setCell _ _ _ b hb)
theorem cenO_book {N : Nat} {w : World} {H : Hds} {C : Cen} {gq I : Nat} {q : Qt} {B : Option Addr} {n' d : Nat} {fs' : List Fct} (h : CenO N w H C) (hA : H.q.A = some ⟨gq, 0, none⟩) (hI : I < C.qs.length) (ho : w.ownsRow N 122 5 (.slice B n' d) n' (flat encF fs')) :
    CenO N (((((w.setCell ⟨gq, I * 5, none⟩ (.int .i64 q.id)).setCell ⟨gq, I * 5 + 1, none⟩ (.int .i64 q.vol)).setCell ⟨gq, I * 5 + 2, none⟩ (.int .i64 q.fr)).setCell ⟨gq, I * 5 + 3, none⟩ (.int .i64 q.tod)).setCell ⟨gq, I * 5 + 4, none⟩ (.slice B n' d)) H { C with qs := C.qs.set I ⟨q, B, n', d, fs'⟩ } := by
  obtain ⟨Hs, ⟨qA, qn, qc⟩, Hg, Hk, Hm⟩ := H
  obtain rfl : qA = some ⟨gq, 0, none⟩ := hA
  have hr := h.qs
  have h0 : w.ownsRow N 54 5 (.slice (some ⟨gq, 0, none⟩) qn qc) qn (flat encB (C.qs.set I C.qs[I]!)) := by rw [set_selfK hI]; exact hr
  generalize C.qs[I]! = b at h0
  have h1 := own_setK2 (c := 0) (y := ⟨⟨q.id, b.q.vol, b.q.fr, b.q.tod⟩, b.A, b.n, b.c, b.fs⟩) (v := .int .i64 q.id) encB_len h0 (by omega) hI rfl
  have h2 := own_setK2 (c := 1) (y := ⟨⟨q.id, q.vol, b.q.fr, b.q.tod⟩, b.A, b.n, b.c, b.fs⟩) (v := .int .i64 q.vol) encB_len h1 (by omega) hI rfl
  have h3 := own_setK2 (c := 2) (y := ⟨⟨q.id, q.vol, q.fr, b.q.tod⟩, b.A, b.n, b.c, b.fs⟩) (v := .int .i64 q.fr) encB_len h2 (by omega) hI rfl
  have h4 := own_setK2 (c := 3) (y := ⟨q, b.A, b.n, b.c, b.fs⟩) (v := .int .i64 q.tod) encB_len h3 (by omega) hI rfl
  have h5 := own_setK2 (c := 4) (y := ⟨q, B, n', d, fs'⟩) (v := .slice B n' d) encB_len h4 (by omega) hI rfl
  refine h.qs' (fun b _ hb => heap_set5o (fun e => hb (by rw [e]; rfl)) _ _ _ _ _) h5 (fun x hx => ?_)
  have hf : ∀ (A : Option Addr) (m e : Nat) (ys : List Value), w.ownsRow N 122 5 (.slice A m e) m ys → (((((w.setCell ⟨gq, I * 5, none⟩ (.int .i64 q.id)).setCell ⟨gq, I * 5 + 1, none⟩ (.int .i64 q.vol)).setCell ⟨gq, I * 5 + 2, none⟩ (.int .i64 q.fr)).setCell ⟨gq, I * 5 + 3, none⟩ (.int .i64 q.tod)).setCell ⟨gq, I * 5 + 4, none⟩ (.slice B n' d)).ownsRow N 122 5 (.slice A m e) m ys := fun A m e ys hh => own_of_block hh fun j hj => heap_set5o (fun e' => own_diff hh hr (by decide) j hj (by rw [e']; rfl)) _ _ _ _ _
  rcases mem_set_or hx with rfl | hx
  · exact hf _ _ _ _ ho
  · exact hf _ _ _ _ (h.facts x hx)
theorem MOk.bounds {m : Mg} (h : MOk m) : (m.kind = 50 ∨ m.kind = 51 ∨ m.kind = 52) ∧ 1 ≤ m.frm ∧ m.frm ≤ 9 ∧ 1 ≤ m.num ∧ m.num ≤ 999999 ∧ 0 ≤ m.day ∧ m.day ≤ 36524 ∧ 0 ≤ m.lot ∧ m.lot ≤ 1000000000 ∧ 0 ≤ m.oth ∧ m.oth ≤ 1000000000 ∧ 0 ≤ m.qty ∧ m.qty ≤ 1000000000 ∧ -1000000000000 ≤ m.amt ∧ m.amt ≤ 1000000000000 := by
  obtain ⟨h1, h2, h3, h4, h5⟩ := h
  unfold mB outB at h1
  simp only [Bool.or_eq_false_iff, decide_eq_false_iff_not] at h1
  omega
end Go.Proofs.YtdbcbbiplkikcaaGreat

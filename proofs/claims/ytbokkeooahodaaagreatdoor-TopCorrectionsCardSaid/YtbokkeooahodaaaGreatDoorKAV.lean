/-
  classify.Reduce and Classify at the fixed book. No statement of the seat is proved here. Conditions: the book, the words and the lengths lie in memory. Printed by gen/clsf20.py.
  Contracts of the reference's Day, currency and Table (customsref04). No statement of the seat is proved here. Conditions: lengths fit an int.
  Contracts of the reference's Table and At (customsref04). No statement of the seat is proved here. Conditions: lengths fit an int.
  Contract of the reference's DivMod (customsref01): quotient and remainder of 128 bits, bit by bit. No statement of the seat is proved here. Conditions: the numbers fit 64 bits without a sign, the divisor is above 0.
-/
import Derived.Test.YtbokkeooahodaaaGreatDoorKAU
import Derived.Test.YtbokkeooahodaaaGreatDoorKAD
namespace Go.Proofs.YtbokkeooahodaaaGreatDoor
open Go.RowKit
set_option linter.unusedVariables false

def ReRes (w : World) (e : Ending) (w' : World) : Prop := ∃ A c, e = .returned (.tuple #[.int .i64 1, .agg #[.string s9401, .int .i64 0, .int .i64 100, .slice A 1 c, .bool false]]) ∧ RowKit.Below w.heap.size w w'
set_option maxRecDepth 100000 in
set_option maxHeartbeats 8000000 in
theorem reduce20 (g : Nat) (D : Option Addr) (d : Nat) (E : Option Addr) (x : Nat) (P : Option Addr) (p : Nat) (w : World) (hr : Recs encE 5 w E 1 [en1 P p]) (h : TermR w P) : Calls Tryz.prog 67 #[.agg #[.slice (some ⟨g, 0, none⟩) 2 2, .slice none 0 0], .agg #[.slice D 2 d, .slice none 0 0, .slice none 0 0, .bool false], .int .i64 1, .slice E 1 x] w (ReRes w) := by
  have HH := Lib.hid h
  have HR := Lib.hid hr
  have hs1 : ((w.alloc (.cells #[.slice (some ⟨g, 0, none⟩) 2 2, .slice none 0 0] 99)).alloc (.cells #[.slice D 2 d, .slice none 0 0, .slice none 0 0, .bool false] 90)).heap.size = w.heap.size + 1 + 1 := by simp
  have HB0 : Hid (RowKit.Below w.heap.size w (((w.alloc (.cells #[.slice (some ⟨g, 0, none⟩) 2 2, .slice none 0 0] 99)).alloc (.cells #[.slice D 2 d, .slice none 0 0, .slice none 0 0, .bool false] 90)).alloc (.cells #[.string ⟨#[]⟩, .int .i64 0, .int .i64 0, .slice none 0 0, .bool false] 95))) := (((Below.refl _ w).alloc (Nat.le_refl _) _).alloc (by simp) _).alloc (by simp; omega) _
  have HY0 : Hid (Bl (((w.alloc (.cells #[.slice (some ⟨g, 0, none⟩) 2 2, .slice none 0 0] 99)).alloc (.cells #[.slice D 2 d, .slice none 0 0, .slice none 0 0, .bool false] 90)).alloc (.cells #[.string ⟨#[]⟩, .int .i64 0, .int .i64 0, .slice none 0 0, .bool false] 95)) (w.heap.size + 1 + 1) 95 #[.string ⟨#[]⟩, .int .i64 0, .int .i64 0, .slice none 0 0, .bool false]) := by
    rw [← hs1]
    exact Bl.new _ _ _
  clear h hr
  obtain ⟨b, o, hA, hlt, hc⟩ := (HR.out.below HB0.out).at_ (i := 0) (by decide)
  subst hA
  have HC0 : Hid ((((w.alloc (.cells #[.slice (some ⟨g, 0, none⟩) 2 2, .slice none 0 0] 99)).alloc (.cells #[.slice D 2 d, .slice none 0 0, .slice none 0 0, .bool false] 90)).alloc (.cells #[.string ⟨#[]⟩, .int .i64 0, .int .i64 0, .slice none 0 0, .bool false] 95)).cell? ⟨b, o, none⟩ = some (.string s9401)) := hc 0 (by decide)
  have HC1 : Hid ((((w.alloc (.cells #[.slice (some ⟨g, 0, none⟩) 2 2, .slice none 0 0] 99)).alloc (.cells #[.slice D 2 d, .slice none 0 0, .slice none 0 0, .bool false] 90)).alloc (.cells #[.string ⟨#[]⟩, .int .i64 0, .int .i64 0, .slice none 0 0, .bool false] 95)).cell? ⟨b, o + 1, none⟩ = some (.int .i64 0)) := hc 1 (by decide)
  have HC2 : Hid ((((w.alloc (.cells #[.slice (some ⟨g, 0, none⟩) 2 2, .slice none 0 0] 99)).alloc (.cells #[.slice D 2 d, .slice none 0 0, .slice none 0 0, .bool false] 90)).alloc (.cells #[.string ⟨#[]⟩, .int .i64 0, .int .i64 0, .slice none 0 0, .bool false] 95)).cell? ⟨b, o + 2, none⟩ = some (.int .i64 100)) := hc 2 (by decide)
  have HC3 : Hid ((((w.alloc (.cells #[.slice (some ⟨g, 0, none⟩) 2 2, .slice none 0 0] 99)).alloc (.cells #[.slice D 2 d, .slice none 0 0, .slice none 0 0, .bool false] 90)).alloc (.cells #[.string ⟨#[]⟩, .int .i64 0, .int .i64 0, .slice none 0 0, .bool false] 95)).cell? ⟨b, o + 3, none⟩ = some (.slice P 1 p)) := hc 3 (by decide)
  have HC4 : Hid ((((w.alloc (.cells #[.slice (some ⟨g, 0, none⟩) 2 2, .slice none 0 0] 99)).alloc (.cells #[.slice D 2 d, .slice none 0 0, .slice none 0 0, .bool false] 90)).alloc (.cells #[.string ⟨#[]⟩, .int .i64 0, .int .i64 0, .slice none 0 0, .bool false] 95)).cell? ⟨b, o + 4, none⟩ = some (.bool false)) := hc 4 (by decide)
  clear hc hlt HR
  have u0 : IntKind.i64.wrap (1 - 1) = 0 := IntWalk.i64_in 0 (by omega)
  go_enter Tryz.func67, Tryz.ntmps67
  go_upto_region 1 with (fail)
  generalize ((w.alloc (.cells #[.slice (some ⟨g, 0, none⟩) 2 2, .slice none 0 0] 99)).alloc (.cells #[.slice D 2 d, .slice none 0 0, .slice none 0 0, .bool false] 90)).alloc (.cells #[.string ⟨#[]⟩, .int .i64 0, .int .i64 0, .slice none 0 0, .bool false] 95) = W0 at *
  try rw [hs1]
  have q0 := HC0.out
  have q1 := HC1.out
  have q2 := HC2.out
  have q3 := HC3.out
  have q4 := HC4.out
  go_wp2_with fail
  refine (cloneE20 P p W0 (HH.out.below HB0.out)).mono ?_
  rintro e w1 ⟨A', c', rfl, hT, hb⟩
  have HB1 := Lib.hid (HB0.out.trans (hb.mono HB0.out.size))
  have HY1 := Lib.hid (HY0.out.keep hb)
  clear q0 q1 q2 q3 q4 HC0 HC1 HC2 HC3 HC4 hT hb HB0 HY0 HH hs1
  have q1 : w1.cell? ⟨(w.heap.size + 1 + 1), 0, none⟩ = some (.string ⟨#[]⟩) := HY1.out.cell 0
  have q2 : w1.frozen? ⟨(w.heap.size + 1 + 1), 0, none⟩ = false := HY1.out.free 0
  have q3 : w1.cell? ⟨(w.heap.size + 1 + 1), 1, none⟩ = some (.int .i64 0) := HY1.out.cell 1
  have q4 : w1.frozen? ⟨(w.heap.size + 1 + 1), 1, none⟩ = false := HY1.out.free 1
  have q5 : w1.cell? ⟨(w.heap.size + 1 + 1), 2, none⟩ = some (.int .i64 0) := HY1.out.cell 2
  have q6 : w1.frozen? ⟨(w.heap.size + 1 + 1), 2, none⟩ = false := HY1.out.free 2
  have q7 : w1.cell? ⟨(w.heap.size + 1 + 1), 3, none⟩ = some (.slice none 0 0) := HY1.out.cell 3
  have q8 : w1.frozen? ⟨(w.heap.size + 1 + 1), 3, none⟩ = false := HY1.out.free 3
  have q9 : w1.cell? ⟨(w.heap.size + 1 + 1), 4, none⟩ = some (.bool false) := HY1.out.cell 4
  have q10 : w1.frozen? ⟨(w.heap.size + 1 + 1), 4, none⟩ = false := HY1.out.free 4
  go_wp2_with fail
  have HZ := Lib.hid (set5c_bl HY1.out (.string s9401) (.int .i64 0) (.int .i64 100) (.slice A' 1 c') (.bool false))
  have hle : w.heap.size ≤ w.heap.size + 1 + 1 := by omega
  have HBZ := Lib.hid (((((HB1.out.setCell (p := ⟨w.heap.size + 1 + 1, 0, none⟩) hle (.string s9401)).setCell (p := ⟨w.heap.size + 1 + 1, 1, none⟩) hle (.int .i64 0)).setCell (p := ⟨w.heap.size + 1 + 1, 2, none⟩) hle (.int .i64 100)).setCell (p := ⟨w.heap.size + 1 + 1, 3, none⟩) hle (.slice A' 1 c')).setCell (p := ⟨w.heap.size + 1 + 1, 4, none⟩) hle (.bool false))
  generalize ((((w1.setCell ⟨w.heap.size + 1 + 1, 0, none⟩ (.string s9401)).setCell ⟨w.heap.size + 1 + 1, 1, none⟩ (.int .i64 0)).setCell ⟨w.heap.size + 1 + 1, 2, none⟩ (.int .i64 100)).setCell ⟨w.heap.size + 1 + 1, 3, none⟩ (.slice A' 1 c')).setCell ⟨w.heap.size + 1 + 1, 4, none⟩ (.bool false) = W6 at *
  have u0 : W6.cell? ⟨w.heap.size + 1 + 1, 0, none⟩ = some (.string s9401) := HZ.out.cell 0
  have u1 : W6.cell? ⟨w.heap.size + 1 + 1, 1, none⟩ = some (.int .i64 0) := HZ.out.cell 1
  have u2 : W6.cell? ⟨w.heap.size + 1 + 1, 2, none⟩ = some (.int .i64 100) := HZ.out.cell 2
  have u3 : W6.cell? ⟨w.heap.size + 1 + 1, 3, none⟩ = some (.slice A' 1 c') := HZ.out.cell 3
  have u4 : W6.cell? ⟨w.heap.size + 1 + 1, 4, none⟩ = some (.bool false) := HZ.out.cell 4
  refine bodyPost_ret (v := .tuple #[.int .i64 1, .agg #[.string s9401, .int .i64 0, .int .i64 100, .slice A' 1 c', .bool false]]) (by simp [results, Tryz.results67, go_sem, u0, u1, u2, u3, u4]) rfl ?_
  exact ⟨A', c', rfl, HBZ.out⟩
theorem infoStr20 : (Tryz.prog.info? 9).map (fun i => (i.zero, i.size, i.bytes)) = some (some (.string ⟨#[]⟩), 1, 16) := by kernel_rfl
theorem infoCst20 : (Tryz.prog.info? 154).map (fun i => (i.zero, i.size, i.bytes)) = some (some (.agg #[.string ⟨#[]⟩, .int .i64 0, .slice none 0 0, .int .i64 0, .string ⟨#[]⟩]), 5, 72) := by kernel_rfl
def ClaRes (w : World) (e : Ending) (w' : World) : Prop := ∃ S n c, e = .returned (.tuple #[.string s9401, .slice S n c, .int .i64 0]) ∧ RowKit.Below w.heap.size w w'
set_option maxRecDepth 100000 in
set_option maxHeartbeats 16000000 in
theorem classify20 (g : Nat) (A : Option Addr) (c : Nat) (D : Option Addr) (d : Nat) (w : World) (h : BkR w g A c) (k : Sr w D 2 [sChair, sOffice]) (hG : LenG w) : Calls Tryz.prog 33 #[.agg #[.slice (some ⟨g, 0, none⟩) 2 2, .slice none 0 0], .int .i64 5, .agg #[.slice D 2 d, .slice none 0 0, .slice none 0 0, .bool false]] w (ClaRes w) := by
  have HH := Lib.hid h
  have HK := Lib.hid k
  have HG := Lib.hid hG
  clear h k hG
  have hs1 : (w.alloc (.cells #[.slice (some ⟨g, 0, none⟩) 2 2, .slice none 0 0] 99)).heap.size = w.heap.size + 1 := by simp
  have HB0 : Hid (RowKit.Below w.heap.size w ((w.alloc (.cells #[.slice (some ⟨g, 0, none⟩) 2 2, .slice none 0 0] 99)).alloc (.cells #[.slice D 2 d, .slice none 0 0, .slice none 0 0, .bool false] 90))) := ((Below.refl _ w).alloc (Nat.le_refl _) _).alloc (by simp) _
  have HX0 : Hid (Bl ((w.alloc (.cells #[.slice (some ⟨g, 0, none⟩) 2 2, .slice none 0 0] 99)).alloc (.cells #[.slice D 2 d, .slice none 0 0, .slice none 0 0, .bool false] 90)) w.heap.size 99 #[.slice (some ⟨g, 0, none⟩) 2 2, .slice none 0 0]) := (Bl.new _ _ _).alloc _
  have HY0 : Hid (Bl ((w.alloc (.cells #[.slice (some ⟨g, 0, none⟩) 2 2, .slice none 0 0] 99)).alloc (.cells #[.slice D 2 d, .slice none 0 0, .slice none 0 0, .bool false] 90)) (w.heap.size + 1) 90 #[.slice D 2 d, .slice none 0 0, .slice none 0 0, .bool false]) := by
    rw [← hs1]
    exact Bl.new _ _ _
  go_enter Tryz.func33, Tryz.ntmps33
  go_upto_region 1 with (fail)
  generalize (w.alloc (.cells #[.slice (some ⟨g, 0, none⟩) 2 2, .slice none 0 0] 99)).alloc (.cells #[.slice D 2 d, .slice none 0 0, .slice none 0 0, .bool false] 90) = W0 at *
  try rw [hs1]
  have q1 : W0.cell? ⟨w.heap.size, 0, none⟩ = some (.slice (some ⟨g, 0, none⟩) 2 2) := HX0.out.cell 0
  have q2 : W0.cell? ⟨w.heap.size, 1, none⟩ = some (.slice none 0 0) := HX0.out.cell 1
  have q3 : W0.cell? ⟨(w.heap.size + 1), 0, none⟩ = some (.slice D 2 d) := HY0.out.cell 0
  have q4 : W0.cell? ⟨(w.heap.size + 1), 1, none⟩ = some (.slice none 0 0) := HY0.out.cell 1
  have q5 : W0.cell? ⟨(w.heap.size + 1), 2, none⟩ = some (.slice none 0 0) := HY0.out.cell 2
  have q6 : W0.cell? ⟨(w.heap.size + 1), 3, none⟩ = some (.bool false) := HY0.out.cell 3
  go_wp2_with fail
  refine (nvalid20 g A c _ (HH.out.below HB0.out) (HG.out.below HB0.out)).mono ?_
  rintro e w1 ⟨rfl, hb⟩
  have HX1 := Lib.hid (HX0.out.keep hb)
  have HY1 := Lib.hid (HY0.out.keep hb)
  have HB1 := Lib.hid (HB0.out.trans (hb.mono HB0.out.size))
  clear q1 q2 q3 q4 q5 q6 hb HX0 HY0 HB0 
  have q7 : w1.cell? ⟨w.heap.size, 0, none⟩ = some (.slice (some ⟨g, 0, none⟩) 2 2) := HX1.out.cell 0
  have q8 : w1.cell? ⟨w.heap.size, 1, none⟩ = some (.slice none 0 0) := HX1.out.cell 1
  have q9 : w1.cell? ⟨(w.heap.size + 1), 0, none⟩ = some (.slice D 2 d) := HY1.out.cell 0
  have q10 : w1.cell? ⟨(w.heap.size + 1), 1, none⟩ = some (.slice none 0 0) := HY1.out.cell 1
  have q11 : w1.cell? ⟨(w.heap.size + 1), 2, none⟩ = some (.slice none 0 0) := HY1.out.cell 2
  have q12 : w1.cell? ⟨(w.heap.size + 1), 3, none⟩ = some (.bool false) := HY1.out.cell 3
  go_wp2_with fail
  refine (gvalid20 D 2 d [sChair, sOffice] _ (HK.out.below HB1.out) wordsL2 (by decide)).mono ?_
  rintro e w2 ⟨rfl, hb⟩
  have HX2 := Lib.hid (HX1.out.keep hb)
  have HY2 := Lib.hid (HY1.out.keep hb)
  have HB2 := Lib.hid (HB1.out.trans (hb.mono HB1.out.size))
  clear q7 q8 q9 q10 q11 q12 hb HX1 HY1 HB1 
  have q13 : w2.cell? ⟨w.heap.size, 0, none⟩ = some (.slice (some ⟨g, 0, none⟩) 2 2) := HX2.out.cell 0
  have q14 : w2.cell? ⟨w.heap.size, 1, none⟩ = some (.slice none 0 0) := HX2.out.cell 1
  have q15 : w2.cell? ⟨(w.heap.size + 1), 0, none⟩ = some (.slice D 2 d) := HY2.out.cell 0
  have q16 : w2.cell? ⟨(w.heap.size + 1), 1, none⟩ = some (.slice none 0 0) := HY2.out.cell 1
  have q17 : w2.cell? ⟨(w.heap.size + 1), 2, none⟩ = some (.slice none 0 0) := HY2.out.cell 2
  have q18 : w2.cell? ⟨(w.heap.size + 1), 3, none⟩ = some (.bool false) := HY2.out.cell 3
  go_wp2_with fail
  refine wp_loop_rounds 2 ?_
  rw [rounds_succ]
  go_wp2_with fail
  refine (basis_1 g A c D d _ (HH.out.below HB2.out) (HK.out.below HB2.out)).mono ?_
  rintro e w3 ⟨E, x, P, p, rfl, hE, hP, hb⟩
  have HE3 := Lib.hid hE
  have HP3 := Lib.hid hP
  have HX3 := Lib.hid (HX2.out.keep hb)
  have HY3 := Lib.hid (HY2.out.keep hb)
  have HB3 := Lib.hid (HB2.out.trans (hb.mono HB2.out.size))
  clear q13 q14 q15 q16 q17 q18 hb HX2 HY2 HB2 hE hP
  have q19 : w3.cell? ⟨w.heap.size, 0, none⟩ = some (.slice (some ⟨g, 0, none⟩) 2 2) := HX3.out.cell 0
  have q20 : w3.cell? ⟨w.heap.size, 1, none⟩ = some (.slice none 0 0) := HX3.out.cell 1
  have q21 : w3.cell? ⟨(w.heap.size + 1), 0, none⟩ = some (.slice D 2 d) := HY3.out.cell 0
  have q22 : w3.cell? ⟨(w.heap.size + 1), 1, none⟩ = some (.slice none 0 0) := HY3.out.cell 1
  have q23 : w3.cell? ⟨(w.heap.size + 1), 2, none⟩ = some (.slice none 0 0) := HY3.out.cell 2
  have q24 : w3.cell? ⟨(w.heap.size + 1), 3, none⟩ = some (.bool false) := HY3.out.cell 3
  go_wp2_with fail
  refine (reduce20 g D d E x P p _ HE3.out HP3.out).mono ?_
  rintro e w4 ⟨A', c', rfl, hb⟩
  have HE4 := Lib.hid (HE3.out.below hb)
  have HX4 := Lib.hid (HX3.out.keep hb)
  have HY4 := Lib.hid (HY3.out.keep hb)
  have HB4 := Lib.hid (HB3.out.trans (hb.mono HB3.out.size))
  clear q19 q20 q21 q22 q23 q24 hb HX3 HY3 HB3 HE3 HP3
  have HC5 : Hid (Bl (w4.alloc (.cells #[.string s9401, .int .i64 0, .int .i64 100, .slice A' 1 c', .bool false] 95)) w4.heap.size 95 #[.string s9401, .int .i64 0, .int .i64 100, .slice A' 1 c', .bool false]) := Bl.new _ _ _
  have hb5 : RowKit.Below w4.heap.size w4 (w4.alloc (.cells #[.string s9401, .int .i64 0, .int .i64 100, .slice A' 1 c', .bool false] 95)) := (Below.refl _ _).alloc (Nat.le_refl _) _
  have HX5 := Lib.hid (HX4.out.keep hb5)
  have HY5 := Lib.hid (HY4.out.keep hb5)
  have HB5 := Lib.hid (HB4.out.trans (hb5.mono HB4.out.size))
  have HE5 := Lib.hid (HE4.out.below hb5)
  clear hb5 HX4 HY4 HE4
  go_upto_region 14 with (fail)
  generalize w4.alloc (.cells #[.string s9401, .int .i64 0, .int .i64 100, .slice A' 1 c', .bool false] 95) = w5 at *
  generalize w4.heap.size = gc at *
  clear HB4
  have q25 : w5.cell? ⟨gc, 0, none⟩ = some (.string s9401) := HC5.out.cell 0
  have HS6 : Hid (Bl (w5.alloc (.cells #[.string ⟨#[]⟩, .int .i64 1, .slice none 0 0, .int .i64 1, .string s9401] 154)) w5.heap.size 154 #[.string ⟨#[]⟩, .int .i64 1, .slice none 0 0, .int .i64 1, .string s9401]) := Bl.new _ _ _
  have hb6 : RowKit.Below w5.heap.size w5 (w5.alloc (.cells #[.string ⟨#[]⟩, .int .i64 1, .slice none 0 0, .int .i64 1, .string s9401] 154)) := (Below.refl _ _).alloc (Nat.le_refl _) _
  have HX6 := Lib.hid (HX5.out.keep hb6)
  have HY6 := Lib.hid (HY5.out.keep hb6)
  have HB6 := Lib.hid (HB5.out.trans (hb6.mono HB5.out.size))
  have HE6 := Lib.hid (HE5.out.below hb6)
  have HC6 := Lib.hid (HC5.out.keep hb6)
  have HN6 : Hid (w.heap.size ≤ w5.heap.size) := HB5.out.size
  clear hb6 HX5 HY5 HE5
  go_upto_region 15 with (fail)
  clear q25 HC5
  generalize w5.alloc (.cells #[.string ⟨#[]⟩, .int .i64 1, .slice none 0 0, .int .i64 1, .string s9401] 154) = w6 at *
  generalize w5.heap.size = gs at *
  clear HB5
  go_wp2_with fail
  refine wp_loop_rounds 2 ?_
  obtain ⟨eb, eo, hA, hlt, hc⟩ := HE6.out.at_ (i := 0) (by decide)
  subst hA
  have q26 : w6.cell? ⟨eb, eo, none⟩ = some (.string s9401) := hc 0 (by decide)
  have q27 : w6.cell? ⟨eb, eo + 1, none⟩ = some (.int .i64 0) := hc 1 (by decide)
  have q28 : w6.cell? ⟨eb, eo + 2, none⟩ = some (.int .i64 100) := hc 2 (by decide)
  have q29 : w6.cell? ⟨eb, eo + 3, none⟩ = some (.slice P 1 p) := hc 3 (by decide)
  have q30 : w6.cell? ⟨eb, eo + 4, none⟩ = some (.bool false) := hc 4 (by decide)
  clear hc hlt HE6
  have HQ7 : Hid (Bl (w6.alloc (.cells #[.string s9401, .int .i64 0, .int .i64 100, .slice P 1 p, .bool false] 95)) w6.heap.size 95 #[.string s9401, .int .i64 0, .int .i64 100, .slice P 1 p, .bool false]) := Bl.new _ _ _
  have hb7 : RowKit.Below w6.heap.size w6 (w6.alloc (.cells #[.string s9401, .int .i64 0, .int .i64 100, .slice P 1 p, .bool false] 95)) := (Below.refl _ _).alloc (Nat.le_refl _) _
  have HX7 := Lib.hid (HX6.out.keep hb7)
  have HY7 := Lib.hid (HY6.out.keep hb7)
  have HB7 := Lib.hid (HB6.out.trans (hb7.mono HB6.out.size))
  have HC7 := Lib.hid (HC6.out.keep hb7)
  have HS7 := Lib.hid (HS6.out.keep hb7)
  clear hb7 HX6 HY6 HC6 HS6
  rw [rounds_succ]
  go_upto_region 18 with (fail)
  clear q26 q27 q28 q29 q30
  generalize w6.alloc (.cells #[.string s9401, .int .i64 0, .int .i64 100, .slice P 1 p, .bool false] 95) = w7 at *
  generalize w6.heap.size = gq at *
  clear HB6
  have q31 : w7.cell? ⟨gq, 0, none⟩ = some (.string s9401) := HQ7.out.cell 0
  have q32 : w7.cell? ⟨gs, 2, none⟩ = some (.slice none 0 0) := HS7.out.cell 2
  have HOA1 : Hid ((w7.alloc (.cells #[.string s9401] 9)).ownsRow w.heap.size 9 1 (.slice none 0 0) 0 []) := ⟨by simp, .inl ⟨rfl, rfl⟩⟩
  have HRD1 : Hid (Rd (w7.alloc (.cells #[.string s9401] 9)) 1 (some ⟨w7.heap.size, 0, none⟩) 1 [.string s9401]) := rd_bl (xs := [.string s9401]) (Bl.new _ _ _) rfl
  have HON1 : Hid (∀ u ∈ ([.string s9401] : List Value), u.oneCell' = true) := fun u hu => by
    simp only [List.mem_cons, List.not_mem_nil, or_false] at hu
    subst hu; rfl
  have HM1 : Hid (0 + 1 ≤ maxLen ∧ (0 + 1) * 16 ≤ 140737488355328) := ⟨by unfold maxLen; omega, by omega⟩
  have HBA1 := Lib.hid (HB7.out.alloc HB7.out.size (.cells #[.string s9401] 9))
  have HSA := Lib.hid (HS7.out.alloc (.cells #[.string s9401] 9))
  have HXA := Lib.hid (HX7.out.alloc (.cells #[.string s9401] 9))
  have HYA := Lib.hid (HY7.out.alloc (.cells #[.string s9401] 9))
  have HCA := Lib.hid (HC7.out.alloc (.cells #[.string s9401] 9))
  go_wp2_with (at_builtin; go_loud (refine wpList_append_rd _ rfl (.tmp 68) (.tmp 71) 60 rfl w.heap.size 9 _ 1 16 Tryz.underlying60 infoStr20 rfl (by decide) (.slice none 0 0) 0 [] rfl HOA1.out (some ⟨w7.heap.size, 0, none⟩) 1 _ [.string s9401] rfl HRD1.out HON1.out HM1.out.1 HM1.out.2 HBA1.out.size ?_; intro v1a v1 ho1 hg1 hv1; obtain ⟨R1, d1, rfl⟩ := own_slice ho1; have hk1 : Bl v1 gs 154 #[.string ⟨#[]⟩, .int .i64 1, .slice none 0 0, .int .i64 1, .string s9401] := (hg1.block gs (HSA.out.lt) (fun e => by cases e)).trans HSA.out; have ck1 : v1.cell? ⟨gs, 2, none⟩ = some (.slice none 0 0) := hk1.cell 2; have fk1 : v1.frozen? ⟨gs, 2, none⟩ = false := hk1.free 2))
  clear q31 q32 HQ7 HX7 HY7 HC7 HS7
  have nk : ∀ {k : Nat} {U : TypeId} {cs : Array Value}, Bl (w7.alloc (.cells #[.string s9401] 9)) k U cs → Bl v1 k U cs := fun {k U cs} h => (hg1.block k h.lt (fun e => by cases e)).trans h
  have HX8 := Lib.hid ((nk HXA.out).far (p := ⟨gs, 2, none⟩) (fun e => by have := bl_far HXA.out HSA.out (by decide); exact this e) (.slice R1 1 d1))
  have HY8 := Lib.hid ((nk HYA.out).far (p := ⟨gs, 2, none⟩) (fun e => by have := bl_far HYA.out HSA.out (by decide); exact this e) (.slice R1 1 d1))
  have HC8 := Lib.hid ((nk HCA.out).far (p := ⟨gs, 2, none⟩) (fun e => by have := bl_far HCA.out HSA.out (by decide); exact this e) (.slice R1 1 d1))
  have HS8 : Hid (Bl (v1.setCell ⟨gs, 2, none⟩ (.slice R1 1 d1)) gs 154 #[.string ⟨#[]⟩, .int .i64 1, .slice R1 1 d1, .int .i64 1, .string s9401]) := by show Bl _ _ _ _; have h := hk1.put 2 (.slice R1 1 d1); simpa using h
  have HB8 : Hid (RowKit.Below w.heap.size w (v1.setCell ⟨gs, 2, none⟩ (.slice R1 1 d1))) := (HBA1.out.grown hg1 HBA1.out.size (fun g e => by cases e)).setCell (p := ⟨gs, 2, none⟩) HN6.out _
  clear nk hk1 ck1 fk1 ho1 hg1 hv1 HBA1 HM1 HON1 HRD1 HOA1 HSA HXA HYA HCA HB7
  generalize v1.setCell ⟨gs, 2, none⟩ (.slice R1 1 d1) = w8 at *
  rw [rounds_succ]
  have q33 : w8.cell? ⟨gs, 0, none⟩ = some (.string ⟨#[]⟩) := HS8.out.cell 0
  have q34 : w8.cell? ⟨gs, 1, none⟩ = some (.int .i64 1) := HS8.out.cell 1
  have q35 : w8.cell? ⟨gs, 2, none⟩ = some (.slice R1 1 d1) := HS8.out.cell 2
  have q36 : w8.cell? ⟨gs, 3, none⟩ = some (.int .i64 1) := HS8.out.cell 3
  have q37 : w8.cell? ⟨gs, 4, none⟩ = some (.string s9401) := HS8.out.cell 4
  go_upto_region 20 with (fail)
  have HOA2 : Hid ((w8.alloc (.cells #[.string ⟨#[]⟩, .int .i64 1, .slice R1 1 d1, .int .i64 1, .string s9401] 154)).ownsRow w.heap.size 154 5 (.slice none 0 0) 0 []) := ⟨by simp, .inl ⟨rfl, rfl⟩⟩
  have HRD2 : Hid (Rd (w8.alloc (.cells #[.string ⟨#[]⟩, .int .i64 1, .slice R1 1 d1, .int .i64 1, .string s9401] 154)) 5 (some ⟨w8.heap.size, 0, none⟩) 1 [.string ⟨#[]⟩, .int .i64 1, .slice R1 1 d1, .int .i64 1, .string s9401]) := rd_bl (xs := [.string ⟨#[]⟩, .int .i64 1, .slice R1 1 d1, .int .i64 1, .string s9401]) (Bl.new _ _ _) rfl
  have HON2 : Hid (∀ u ∈ ([.string ⟨#[]⟩, .int .i64 1, .slice R1 1 d1, .int .i64 1, .string s9401] : List Value), u.oneCell' = true) := fun u hu => by
    simp only [List.mem_cons, List.not_mem_nil, or_false] at hu
    rcases hu with rfl | rfl | rfl | rfl | rfl <;> rfl
  have HM2 : Hid (0 + 1 ≤ maxLen ∧ (0 + 1) * 72 ≤ 140737488355328) := ⟨by unfold maxLen; omega, by omega⟩
  have HBA2 := Lib.hid (HB8.out.alloc HB8.out.size (.cells #[.string ⟨#[]⟩, .int .i64 1, .slice R1 1 d1, .int .i64 1, .string s9401] 154))
  have HXA := Lib.hid (HX8.out.alloc (.cells #[.string ⟨#[]⟩, .int .i64 1, .slice R1 1 d1, .int .i64 1, .string s9401] 154))
  have HYA := Lib.hid (HY8.out.alloc (.cells #[.string ⟨#[]⟩, .int .i64 1, .slice R1 1 d1, .int .i64 1, .string s9401] 154))
  have HCA := Lib.hid (HC8.out.alloc (.cells #[.string ⟨#[]⟩, .int .i64 1, .slice R1 1 d1, .int .i64 1, .string s9401] 154))
  go_wp2_with (at_builtin; go_loud (refine wpList_append_rd _ rfl (.tmp 75) (.tmp 77) 100 rfl w.heap.size 154 _ 5 72 Tryz.underlying100 infoCst20 rfl (by decide) (.slice none 0 0) 0 [] rfl HOA2.out (some ⟨w8.heap.size, 0, none⟩) 1 _ [.string ⟨#[]⟩, .int .i64 1, .slice R1 1 d1, .int .i64 1, .string s9401] rfl HRD2.out HON2.out HM2.out.1 HM2.out.2 HBA2.out.size ?_; intro v2a v2 ho2 hg2 hv2; obtain ⟨R2, d2, rfl⟩ := own_slice ho2; have hk2 : Bl v2 gc 95 #[.string s9401, .int .i64 0, .int .i64 100, .slice A' 1 c', .bool false] := (hg2.block gc HCA.out.lt (fun e => by cases e)).trans HCA.out; have ck2 : v2.cell? ⟨gc, 0, none⟩ = some (.string s9401) := hk2.cell 0))
  clear q33 q34 q35 q36 q37 HS8 HX8 HY8 HC8
  have HX9 : Hid (Bl v2 w.heap.size 99 #[.slice (some ⟨g, 0, none⟩) 2 2, .slice none 0 0]) := (hg2.block _ HXA.out.lt (fun e => by cases e)).trans HXA.out
  have HY9 : Hid (Bl v2 (w.heap.size + 1) 90 #[.slice D 2 d, .slice none 0 0, .slice none 0 0, .bool false]) := (hg2.block _ HYA.out.lt (fun e => by cases e)).trans HYA.out
  have HB9 : Hid (RowKit.Below w.heap.size w v2) := HBA2.out.grown hg2 HBA2.out.size (fun g e => by cases e)
  clear hk2 ck2 ho2 hg2 hv2 HBA2 HM2 HON2 HRD2 HOA2 HXA HYA HCA HB8
  have q38 : v2.cell? ⟨w.heap.size, 0, none⟩ = some (.slice (some ⟨g, 0, none⟩) 2 2) := HX9.out.cell 0
  have q39 : v2.cell? ⟨w.heap.size, 1, none⟩ = some (.slice none 0 0) := HX9.out.cell 1
  have q40 : v2.cell? ⟨(w.heap.size + 1), 0, none⟩ = some (.slice D 2 d) := HY9.out.cell 0
  have q41 : v2.cell? ⟨(w.heap.size + 1), 1, none⟩ = some (.slice none 0 0) := HY9.out.cell 1
  have q42 : v2.cell? ⟨(w.heap.size + 1), 2, none⟩ = some (.slice none 0 0) := HY9.out.cell 2
  have q43 : v2.cell? ⟨(w.heap.size + 1), 3, none⟩ = some (.bool false) := HY9.out.cell 3
  rw [rounds_succ]
  go_wp2_with fail
  refine (basis_0 g A c D d _ (HH.out.below HB9.out) (HK.out.below HB9.out)).mono ?_
  rintro e w10 ⟨rfl, hb⟩
  have HB10 := Lib.hid (HB9.out.trans (hb.mono HB9.out.size))
  clear q38 q39 q40 q41 q42 q43 hb HX9 HY9 HB9
  go_wp2_with fail
  go_ret3
  exact ⟨R2, 1, d2, rfl, HB10.out⟩
end Go.Proofs.YtbokkeooahodaaaGreatDoor

namespace Go.Proofs.YtbokkeooahodaaaGreatDoor
open Go.RowKit
set_option linter.unusedVariables false

end Go.Proofs.YtbokkeooahodaaaGreatDoor

namespace Go.Proofs.YtbokkeooahodaaaGreatDoor
open Go.RowKit
set_option linter.unusedVariables false

end Go.Proofs.YtbokkeooahodaaaGreatDoor

namespace Go.Proofs.YtbokkeooahodaaaGreatDoor
open Go.RowKit
set_option linter.unusedVariables false

end Go.Proofs.YtbokkeooahodaaaGreatDoor

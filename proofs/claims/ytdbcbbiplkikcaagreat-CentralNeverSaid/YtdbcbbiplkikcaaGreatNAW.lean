/-
  The contracts of guarantee.Set and guarantee.Release. No statement of the seat is proved here. Conditions: a valid guarantee.
  The append onto a row of the call's own, in a region that draws its order. No statement of the seat is proved here.
-/
import Derived.Test.YtdbcbbiplkikcaaGreatNAU
import Derived.Test.YtdbcbbiplkikcaaGreatNAM
import Derived.Deep.RegionHeld3
import Derived.Deep.Onto
import Derived.Test.YtdbcbbiplkikcaaGreatNAK
namespace Go.Proofs.YtdbcbbiplkikcaaGreat
open Go.RowKit
set_option linter.unusedVariables false

def SetRes37 (w : World) (h : Gh) (e : Ending) (w' : World) : Prop :=
  ∃ (a : Gh) (B : Option Addr) (n' d : Nat) (er : Int), e = .returned (.tuple #[.agg #[.int .i64 a.id, .int .i64 a.ref, .int .i64 a.lev, .slice B n' d], .int .i64 er]) ∧ (er = 0 → a = h ∧ ∃ us' : List (Int × Int), GOk h us' ∧ us'.length = n' ∧ w'.ownsRow w.heap.size 32 2 (.slice B n' d) n' (flat enc2 us')) ∧ RowKit.Below w.heap.size w w'
theorem SetRes37.bad {w w' : World} {h : Gh} {er : Int} (hne : er ≠ 0) (hb : RowKit.Below w.heap.size w w') : SetRes37 w h (.returned (.tuple #[.agg #[.int .i64 0, .int .i64 0, .int .i64 0, .slice none 0 0], .int .i64 er])) w' :=
  ⟨⟨0, 0, 0⟩, none, 0, 0, er, rfl, fun h0 => absurd h0 hne, hb⟩
theorem put4 {w : World} {N r : Nat} {w' : World} (h : RowKit.Below N w w') (hr : N ≤ r) (a b c d : Value) : RowKit.Below N w ((((w'.setCell ⟨r, 0, none⟩ a).setCell ⟨r, 1, none⟩ b).setCell ⟨r, 2, none⟩ c).setCell ⟨r, 3, none⟩ d) := (((h.setCell (p := ⟨r, 0, none⟩) hr a).setCell (p := ⟨r, 1, none⟩) hr b).setCell (p := ⟨r, 2, none⟩) hr c).setCell (p := ⟨r, 3, none⟩) hr d
theorem own4 {w : World} {N r : Nat} {T : TypeId} {size n : Nat} {v : Value} {xs : List Value} (h : w.ownsRow N T size v n xs) (hr : ∀ g, v.ownBlock = some g → g ≠ r) (a b c d : Value) : ((((w.setCell ⟨r, 0, none⟩ a).setCell ⟨r, 1, none⟩ b).setCell ⟨r, 2, none⟩ c).setCell ⟨r, 3, none⟩ d).ownsRow N T size v n xs :=
  own_of_block h fun g hg => (((Below.heap_setCell _ _ _ g (hr g hg)).trans (Below.heap_setCell _ _ _ g (hr g hg))).trans (Below.heap_setCell _ _ _ g (hr g hg))).trans (Below.heap_setCell _ _ _ g (hr g hg))
theorem bs_lt {us : List (Int × Int)} {t : Int} {I : Nat} (ha : uAsc us) (h : ∀ q, I ≤ q → q < us.length → t ≤ us[q]!.1) (hf : ¬ (I < us.length ∧ us[I]!.1 = t)) : ∀ q, I ≤ q → q < us.length → t < us[q]!.1 := fun q h1 h2 => by
  have h3 := h q h1 h2
  rcases Nat.lt_or_ge I us.length with h4 | h4
  · have h5 := u_le ha h1 h2
    have h6 := h I (Nat.le_refl _) h4
    have : us[I]!.1 ≠ t := fun e => hf ⟨h4, e⟩
    omega
  · omega
theorem bs_gt {us : List (Int × Int)} {t : Int} {I : Nat} (ha : uAsc us) (hI : I < us.length) (he : us[I]!.1 = t) : ∀ q, I + 1 ≤ q → q < us.length → t < us[q]!.1 := fun q h1 h2 => by
  have h3 := ha I (by omega)
  have h4 := u_le ha h1 h2
  omega
theorem uOk_of {m r : Int} (h1 : 1 ≤ m) (h2 : m ≤ 1000000) (h3 : 0 ≤ r) (h4 : r ≤ 1000000000000) : uOk (m, r) = true := by
  unfold uOk
  simp
  omega
theorem mem_parts {us : List (Int × Int)} {x u : Int × Int} {I J : Nat} (h : u ∈ us.take I ++ [x] ++ us.drop J) : u = x ∨ u ∈ us := by
  rcases List.mem_append.1 h with h | h
  · rcases List.mem_append.1 h with h | h
    · exact .inr (List.mem_of_mem_take h)
    · exact .inl (by simpa using h)
  · exact .inr (List.mem_of_mem_drop h)
set_option maxRecDepth 100000 in
set_option maxHeartbeats 8000000 in
theorem set37_any (h : Gh) (A : Option Addr) (n c : Nat) (us : List (Int × Int)) (mov amt : Int) (w : World) (hr : Recs enc2 2 w A n us) (hR : Rd w 2 A n (flat enc2 us)) (hnc : n ≤ c) (hg : GOk h us) :
    Calls Tryz.prog 81 #[.agg #[.int .i64 h.id, .int .i64 h.ref, .int .i64 h.lev, .slice A n c], .int .i64 mov, .int .i64 amt] w (SetRes37 w h) := by
  have HG := Lib.hid hg
  have HL : Hid (us.length = n) := hr.1
  have hn64 : n ≤ 64 := by have := hg.len; have := hr.1; omega
  obtain ⟨W0, hW0⟩ : ∃ W, W = (w.alloc (.cells #[.int .i64 h.id, .int .i64 h.ref, .int .i64 h.lev, .slice A n c] 30)).alloc (.cells #[.int .i64 0, .int .i64 0, .int .i64 0, .slice none 0 0] 30) := ⟨_, rfl⟩
  have hx : Bl W0 w.heap.size 30 #[.int .i64 h.id, .int .i64 h.ref, .int .i64 h.lev, .slice A n c] := by rw [hW0]; exact (Bl.new w _ _).alloc _
  have hz : Bl W0 (w.heap.size + 1) 30 #[.int .i64 0, .int .i64 0, .int .i64 0, .slice none 0 0] := by rw [hW0]; have := Bl.new (w.alloc (.cells #[.int .i64 h.id, .int .i64 h.ref, .int .i64 h.lev, .slice A n c] 30)) 30 #[.int .i64 0, .int .i64 0, .int .i64 0, .slice none 0 0]; simpa using this
  have hb0 : RowKit.Below w.heap.size w W0 := by rw [hW0]; exact ((Below.refl _ _).alloc (Nat.le_refl _) _).alloc (by simp) _
  have HCV : Hid (Calls Tryz.prog 13 #[.agg #[.int .i64 h.id, .int .i64 h.ref, .int .i64 h.lev, .slice A n c]] W0 fun e w' => e = .returned (.int .i64 0) ∧ RowKit.Below W0.heap.size W0 w') := (gvalidate_any h A n c us W0 (hr.below hb0)).mono fun e w' ⟨h1, h2⟩ => ⟨by rw [h1, hg.err], h2⟩
  have HX0 := Lib.hid hx
  have HZ0 := Lib.hid hz
  have HB0 := Lib.hid hb0
  have HRS := Lib.hid hr
  have HRD := Lib.hid hR
  clear hr hR hg hx hz hb0
  go_enter Tryz.func81, Tryz.ntmps81
  go_upto_region 1 with (fail)
  rw [← hW0]
  clear hW0
  have x0 : W0.cell? ⟨w.heap.size, 0, none⟩ = some (.int .i64 h.id) := HX0.out.cell 0
  have x1 : W0.cell? ⟨w.heap.size, 1, none⟩ = some (.int .i64 h.ref) := HX0.out.cell 1
  have x2 : W0.cell? ⟨w.heap.size, 2, none⟩ = some (.int .i64 h.lev) := HX0.out.cell 2
  have x3 : W0.cell? ⟨w.heap.size, 3, none⟩ = some (.slice A n c) := HX0.out.cell 3
  go_wp2_with fail
  refine HCV.out.mono ?_
  rintro e w1 ⟨rfl, hb1⟩
  have HX1 := Lib.hid (HX0.out.keep hb1)
  have HZ1 := Lib.hid (HZ0.out.keep hb1)
  have HB1 : Hid (RowKit.Below w.heap.size w w1) := HB0.out.trans (hb1.mono HB0.out.size)
  have b0 : ((0 : Int) != 0) = false := rfl
  clear hb1 HX0 HZ0 HB0 HCV x0 x1 x2 x3
  by_cases g0 : mov < 1
  · have d1 : decide (mov < 1) = true := by simpa using g0
    have r0 : w1.cell? ⟨w.heap.size + 1, 0, none⟩ = some (.int .i64 0) := HZ1.out.cell 0
    have rf0 : w1.frozen? ⟨w.heap.size + 1, 0, none⟩ = false := HZ1.out.free 0
    have r1 : w1.cell? ⟨w.heap.size + 1, 1, none⟩ = some (.int .i64 0) := HZ1.out.cell 1
    have rf1 : w1.frozen? ⟨w.heap.size + 1, 1, none⟩ = false := HZ1.out.free 1
    have r2 : w1.cell? ⟨w.heap.size + 1, 2, none⟩ = some (.int .i64 0) := HZ1.out.cell 2
    have rf2 : w1.frozen? ⟨w.heap.size + 1, 2, none⟩ = false := HZ1.out.free 2
    have r3 : w1.cell? ⟨w.heap.size + 1, 3, none⟩ = some (.slice none 0 0) := HZ1.out.cell 3
    have rf3 : w1.frozen? ⟨w.heap.size + 1, 3, none⟩ = false := HZ1.out.free 3
    go_wp2
    refine bodyPost_ret (v := .tuple #[.agg #[.int .i64 0, .int .i64 0, .int .i64 0, .slice none 0 0], .int .i64 2]) (by simp [results, Tryz.results81, go_sem, r0, r1, r2, r3]) rfl ?_
    exact SetRes37.bad (by decide) (put4 HB1.out (by omega) _ _ _ _)
  have d1 : decide (mov < 1) = false := by simpa using g0
  by_cases g1 : 1000000 < mov
  · have d2 : decide (1000000 < mov) = true := by simpa using g1
    have r0 : w1.cell? ⟨w.heap.size + 1, 0, none⟩ = some (.int .i64 0) := HZ1.out.cell 0
    have rf0 : w1.frozen? ⟨w.heap.size + 1, 0, none⟩ = false := HZ1.out.free 0
    have r1 : w1.cell? ⟨w.heap.size + 1, 1, none⟩ = some (.int .i64 0) := HZ1.out.cell 1
    have rf1 : w1.frozen? ⟨w.heap.size + 1, 1, none⟩ = false := HZ1.out.free 1
    have r2 : w1.cell? ⟨w.heap.size + 1, 2, none⟩ = some (.int .i64 0) := HZ1.out.cell 2
    have rf2 : w1.frozen? ⟨w.heap.size + 1, 2, none⟩ = false := HZ1.out.free 2
    have r3 : w1.cell? ⟨w.heap.size + 1, 3, none⟩ = some (.slice none 0 0) := HZ1.out.cell 3
    have rf3 : w1.frozen? ⟨w.heap.size + 1, 3, none⟩ = false := HZ1.out.free 3
    go_wp2
    refine bodyPost_ret (v := .tuple #[.agg #[.int .i64 0, .int .i64 0, .int .i64 0, .slice none 0 0], .int .i64 2]) (by simp [results, Tryz.results81, go_sem, r0, r1, r2, r3]) rfl ?_
    exact SetRes37.bad (by decide) (put4 HB1.out (by omega) _ _ _ _)
  have d2 : decide (1000000 < mov) = false := by simpa using g1
  by_cases g2 : amt < 0
  · have d3 : decide (amt < 0) = true := by simpa using g2
    have r0 : w1.cell? ⟨w.heap.size + 1, 0, none⟩ = some (.int .i64 0) := HZ1.out.cell 0
    have rf0 : w1.frozen? ⟨w.heap.size + 1, 0, none⟩ = false := HZ1.out.free 0
    have r1 : w1.cell? ⟨w.heap.size + 1, 1, none⟩ = some (.int .i64 0) := HZ1.out.cell 1
    have rf1 : w1.frozen? ⟨w.heap.size + 1, 1, none⟩ = false := HZ1.out.free 1
    have r2 : w1.cell? ⟨w.heap.size + 1, 2, none⟩ = some (.int .i64 0) := HZ1.out.cell 2
    have rf2 : w1.frozen? ⟨w.heap.size + 1, 2, none⟩ = false := HZ1.out.free 2
    have r3 : w1.cell? ⟨w.heap.size + 1, 3, none⟩ = some (.slice none 0 0) := HZ1.out.cell 3
    have rf3 : w1.frozen? ⟨w.heap.size + 1, 3, none⟩ = false := HZ1.out.free 3
    go_wp2
    refine bodyPost_ret (v := .tuple #[.agg #[.int .i64 0, .int .i64 0, .int .i64 0, .slice none 0 0], .int .i64 2]) (by simp [results, Tryz.results81, go_sem, r0, r1, r2, r3]) rfl ?_
    exact SetRes37.bad (by decide) (put4 HB1.out (by omega) _ _ _ _)
  have d3 : decide (amt < 0) = false := by simpa using g2
  by_cases g3 : 1000000000000 < amt
  · have d4 : decide (1000000000000 < amt) = true := by simpa using g3
    have r0 : w1.cell? ⟨w.heap.size + 1, 0, none⟩ = some (.int .i64 0) := HZ1.out.cell 0
    have rf0 : w1.frozen? ⟨w.heap.size + 1, 0, none⟩ = false := HZ1.out.free 0
    have r1 : w1.cell? ⟨w.heap.size + 1, 1, none⟩ = some (.int .i64 0) := HZ1.out.cell 1
    have rf1 : w1.frozen? ⟨w.heap.size + 1, 1, none⟩ = false := HZ1.out.free 1
    have r2 : w1.cell? ⟨w.heap.size + 1, 2, none⟩ = some (.int .i64 0) := HZ1.out.cell 2
    have rf2 : w1.frozen? ⟨w.heap.size + 1, 2, none⟩ = false := HZ1.out.free 2
    have r3 : w1.cell? ⟨w.heap.size + 1, 3, none⟩ = some (.slice none 0 0) := HZ1.out.cell 3
    have rf3 : w1.frozen? ⟨w.heap.size + 1, 3, none⟩ = false := HZ1.out.free 3
    go_wp2
    refine bodyPost_ret (v := .tuple #[.agg #[.int .i64 0, .int .i64 0, .int .i64 0, .slice none 0 0], .int .i64 2]) (by simp [results, Tryz.results81, go_sem, r0, r1, r2, r3]) rfl ?_
    exact SetRes37.bad (by decide) (put4 HB1.out (by omega) _ _ _ _)
  have d4 : decide (1000000000000 < amt) = false := by simpa using g3
  have m1 : 1 ≤ mov := by omega
  have m2 : mov ≤ 1000000 := by omega
  have m3 : 0 ≤ amt := by omega
  have m4 : amt ≤ 1000000000000 := by omega
  clear g0 g1 g2 g3
  have x3 : w1.cell? ⟨w.heap.size, 3, none⟩ = some (.slice A n c) := HX1.out.cell 3
  have HCS := Lib.hid (search37_any A n c us mov w1 (HRS.out.below HB1.out) (by omega) HG.out.asc)
  go_wp2_with fail
  refine HCS.out.mono ?_
  rintro e w2 ⟨I, b, rfl, hI1, hI2, hI3, hI4, hb2⟩
  have HX2 := Lib.hid (HX1.out.keep hb2)
  have HZ2 := Lib.hid (HZ1.out.keep hb2)
  have HB2 : Hid (RowKit.Below w.heap.size w w2) := HB1.out.trans (hb2.mono HB1.out.size)
  have H2 := Lib.hid hI2
  have H3 := Lib.hid hI3
  have H4 := Lib.hid hI4
  have hIn : I ≤ n := by have := HL.out; omega
  clear hI1 hI2 hI3 hI4 hb2 HX1 HZ1 HB1 HCS x3 b0 d1 d2 d3 d4
  cases b
  case true =>
    obtain ⟨hIn2, hIe⟩ := H4.out.1 rfl
    have hIlt : I < n := by have := HL.out; omega
    have HGT : Hid (∀ q, I + 1 ≤ q → q < us.length → mov < us[q]!.1) := bs_gt HG.out.asc hIn2 hIe
    have HLN : Hid (∀ x, x ≤ n → x ≤ 64) := fun x hx => by omega
    have u1 : IntKind.i64.wrap ((I : Int) + 1) = ((I + 1 : Nat) : Int) := (IntWalk.i64_in _ (by omega)).trans (by omega)
    clear hIn2 hIe
    have x0 : w2.cell? ⟨w.heap.size, 0, none⟩ = some (.int .i64 h.id) := HX2.out.cell 0
    have x1 : w2.cell? ⟨w.heap.size, 1, none⟩ = some (.int .i64 h.ref) := HX2.out.cell 1
    have x2 : w2.cell? ⟨w.heap.size, 2, none⟩ = some (.int .i64 h.lev) := HX2.out.cell 2
    have x3 : w2.cell? ⟨w.heap.size, 3, none⟩ = some (.slice A n c) := HX2.out.cell 3
    have HCR := Lib.hid (required37_any h A n c amt w2 HG.out.head m3 m4)
    go_wp2_with fail
    refine HCR.out.mono ?_
    rintro e w3 ⟨r, rfl, HRQ, hb3⟩
    have HX3 := Lib.hid (HX2.out.keep hb3)
    have HZ3 := Lib.hid (HZ2.out.keep hb3)
    have HB3 : Hid (RowKit.Below w.heap.size w w3) := HB2.out.trans (hb3.mono HB2.out.size)
    have c0 : ((0 : Int) != 0) = false := rfl
    clear hb3 HX2 HZ2 HB2 HCR x0 x1 x2 x3
    have x3 : w3.cell? ⟨w.heap.size, 3, none⟩ = some (.slice A n c) := HX3.out.cell 3
    have hal : RowKit.Below w3.heap.size w3 (w3.alloc (.cells #[.int .i64 mov, .int .i64 r] 32)) := (Below.refl _ _).alloc (Nat.le_refl _) _
    have HX4 := Lib.hid (HX3.out.keep hal)
    have HZ4 := Lib.hid (HZ3.out.keep hal)
    have HB4 : Hid (RowKit.Below w.heap.size w (w3.alloc (.cells #[.int .i64 mov, .int .i64 r] 32))) := HB3.out.trans (hal.mono HB3.out.size)
    have HXR : Hid (Rd (w3.alloc (.cells #[.int .i64 mov, .int .i64 r] 32)) 2 (some ⟨w3.heap.size, 0, none⟩) 1 (flat enc2 [(mov, r)])) := by
      show Rd _ _ _ _ _
      rw [flat_one]
      exact rd_new w3 32 (enc2 (mov, r))
    have HCP := Lib.hid (splice37_any A n c I (I + 1) us (some ⟨w3.heap.size, 0, none⟩) 1 1 [(mov, r)] (w3.alloc (.cells #[.int .i64 mov, .int .i64 r] 32)) (HRD.out.keep HB4.out) HL.out HXR.out rfl (by omega) (by omega) hnc (by omega) (by omega))
    clear hal HX3 HZ3 HB3
    go_wp2_with fail
    refine HCP.out.mono ?_
    obtain ⟨us', hus⟩ : ∃ us', us.take I ++ [(mov, r)] ++ us.drop (I + 1) = us' := ⟨_, rfl⟩
    have HUS := Lib.hid hus
    rw [hus]
    clear hus
    obtain ⟨n', hn'⟩ : ∃ n', us'.length = n' := ⟨_, rfl⟩
    have HN' := Lib.hid hn'
    unfold SpRes
    rw [hn']
    clear hn'
    rintro e w5 ⟨B, d, rfl, ho5, hb5⟩
    have hn5 : n' ≤ 65 := by have h1 := HN'.out; rw [← HUS.out] at h1; simp at h1; have := HL.out; omega
    have HALL : Hid (∀ u ∈ us', uOk u = true) := fun u hu => by
      rw [← HUS.out] at hu
      rcases mem_parts hu with rfl | hu
      · exact uOk_of m1 m2 HRQ.out.1 HRQ.out.2
      · exact HG.out.ok u hu
    have HX5 := Lib.hid (HX4.out.keep hb5)
    have HZ5 := Lib.hid (HZ4.out.keep hb5)
    have HB5 : Hid (RowKit.Below w.heap.size w w5) := HB4.out.trans (hb5.mono HB4.out.size)
    have HO5 := Lib.hid (ho5.mono HB4.out.size)
    have y3 : w5.cell? ⟨w.heap.size, 3, none⟩ = some (.slice A n c) := HX5.out.cell 3
    have yf : w5.frozen? ⟨w.heap.size, 3, none⟩ = false := HX5.out.free 3
    have HX6 : Hid (Bl (w5.setCell ⟨w.heap.size, 3, none⟩ (.slice B n' d)) w.heap.size 30 #[.int .i64 h.id, .int .i64 h.ref, .int .i64 h.lev, .slice B n' d]) := by show Bl _ _ _ _; have := HX5.out.put 3 (.slice B n' d); simpa using this
    have HZ6 := Lib.hid (HZ5.out.far (p := ⟨w.heap.size, 3, none⟩) (by simp) (.slice B n' d))
    have HB6 : Hid (RowKit.Below w.heap.size w (w5.setCell ⟨w.heap.size, 3, none⟩ (.slice B n' d))) := HB5.out.setCell (p := ⟨w.heap.size, 3, none⟩) (by simp) _
    have HO6 : Hid ((w5.setCell ⟨w.heap.size, 3, none⟩ (.slice B n' d)).ownsRow w.heap.size 32 2 (.slice B n' d) n' (flat enc2 us')) := own_of_block HO5.out fun j hj => Below.heap_setCell _ _ _ j (fun e => own_apart HO5.out HX5.out (by decide) (by rw [hj, e]))
    clear ho5 hb5 HX4 HZ4 HB4 HX5 HZ5 HB5 HO5 HCP
    go_upto_region 16 with (fail)
    clear y3 yf x3 c0
    generalize w5.setCell ⟨w.heap.size, 3, none⟩ (.slice B n' d) = W6 at *
    have HCU : Hid (∀ wx, RowKit.Below W6.heap.size W6 wx → Calls Tryz.prog 30 #[.slice B n' d] wx fun e w' => e = .returned (.int .i64 (uSum us')) ∧ Hid (RowKit.Below W6.heap.size W6 w')) := fun wx hb => (reserved_any B n' d us' wx ((Recs.of_own enc2_len HO6.out HN'.out).below hb) (by omega) HALL.out).mono fun e w' ⟨h1, h2⟩ => ⟨h1, hb.trans (h2.mono hb.size)⟩
    have HKS : Hid (∀ wx, RowKit.Below W6.heap.size W6 wx → wx.cell? ⟨w.heap.size, 3, none⟩ = some (.slice B n' d) ∧ wx.cell? ⟨w.heap.size, 1, none⟩ = some (.int .i64 h.ref)) := fun wx hb => ⟨(HX6.out.keep hb).cell 3, (HX6.out.keep hb).cell 1⟩
    have hv1 : Hid (RowKit.Below W6.heap.size W6 W6.drew) := (Below.refl _ _).drew
    have y3 : W6.cell? ⟨w.heap.size, 3, none⟩ = some (.slice B n' d) := HX6.out.cell 3
    have y1 : W6.cell? ⟨w.heap.size, 1, none⟩ = some (.int .i64 h.ref) := HX6.out.cell 1
    obtain ⟨S, hS⟩ : ∃ S, uSum us' = S := ⟨_, rfl⟩
    have HSU := Lib.hid hS
    rw [hS] at HCU
    clear hS
    by_cases hle : S ≤ h.ref
    · have d5 : decide (h.ref < S) = false := by simpa using hle
      have HGO : Hid (GOk h us') := by
        have h2 : us.take I ++ (mov, r) :: us.drop (I + 1) = us' := by have := HUS.out; rw [List.append_assoc] at this; exact this
        have h3 := HG.out.set (x := (mov, r)) (I := I) (J := I + 1) (uOk_of m1 m2 HRQ.out.1 HRQ.out.2) (by omega) (fun q hq _ => H2.out q hq) HGT.out (by rw [h2, HN'.out]; exact HLN.out n' (by have h1 := HN'.out; rw [← HUS.out] at h1; simp at h1; have := HL.out; omega)) (by rw [h2, HSU.out]; exact hle)
        rw [h2] at h3
        exact h3
      clear hle
      go_region_held3 (fun w' => w'.cell? ⟨w.heap.size, 3, none⟩ = some (.slice B n' d) ∧ w'.cell? ⟨w.heap.size, 1, none⟩ = some (.int .i64 h.ref))
        (first
          | with_reducible exact HKS.out _ hv7.out
          | with_reducible exact HKS.out _ hv1.out
          | go_keep)
        (first
          | (go_at_call 30; (with_reducible refine (HCU.out _ hv1.out).mono ?_); rintro e w7 ⟨rfl, hv7⟩))
      have HX7 := Lib.hid (HX6.out.keep hv7.out)
      have HZ7 := Lib.hid (HZ6.out.keep hv7.out)
      have HB7 : Hid (RowKit.Below w.heap.size w w7) := HB6.out.trans (hv7.out.mono HB6.out.size)
      have HO7 := Lib.hid (own_below HO6.out hv7.out)
      have x0 : w7.cell? ⟨w.heap.size, 0, none⟩ = some (.int .i64 h.id) := HX7.out.cell 0
      have x1 : w7.cell? ⟨w.heap.size, 1, none⟩ = some (.int .i64 h.ref) := HX7.out.cell 1
      have x2 : w7.cell? ⟨w.heap.size, 2, none⟩ = some (.int .i64 h.lev) := HX7.out.cell 2
      have x3 : w7.cell? ⟨w.heap.size, 3, none⟩ = some (.slice B n' d) := HX7.out.cell 3
      have r0 : w7.cell? ⟨w.heap.size + 1, 0, none⟩ = some (.int .i64 0) := HZ7.out.cell 0
      have rf0 : w7.frozen? ⟨w.heap.size + 1, 0, none⟩ = false := HZ7.out.free 0
      have r1 : w7.cell? ⟨w.heap.size + 1, 1, none⟩ = some (.int .i64 0) := HZ7.out.cell 1
      have rf1 : w7.frozen? ⟨w.heap.size + 1, 1, none⟩ = false := HZ7.out.free 1
      have r2 : w7.cell? ⟨w.heap.size + 1, 2, none⟩ = some (.int .i64 0) := HZ7.out.cell 2
      have rf2 : w7.frozen? ⟨w.heap.size + 1, 2, none⟩ = false := HZ7.out.free 2
      have r3 : w7.cell? ⟨w.heap.size + 1, 3, none⟩ = some (.slice none 0 0) := HZ7.out.cell 3
      have rf3 : w7.frozen? ⟨w.heap.size + 1, 3, none⟩ = false := HZ7.out.free 3
      go_wp2
      refine bodyPost_ret (v := .tuple #[.agg #[.int .i64 h.id, .int .i64 h.ref, .int .i64 h.lev, .slice B n' d], .int .i64 0]) (by simp [results, Tryz.results81, go_sem, r0, r1, r2, r3]) rfl ?_
      exact ⟨h, B, n', d, 0, rfl, fun _ => ⟨rfl, us', HGO.out, HN'.out, own4 HO7.out (fun j hj e => own_apart HO7.out HZ7.out (by decide) (by rw [hj, e])) _ _ _ _⟩, put4 HB7.out (by omega) _ _ _ _⟩
    · have d5 : decide (h.ref < S) = true := by simp; omega
      clear hle
      go_region_held3 (fun w' => w'.cell? ⟨w.heap.size, 3, none⟩ = some (.slice B n' d) ∧ w'.cell? ⟨w.heap.size, 1, none⟩ = some (.int .i64 h.ref))
        (first
          | with_reducible exact HKS.out _ hv7.out
          | with_reducible exact HKS.out _ hv1.out
          | go_keep)
        (first
          | (go_at_call 30; (with_reducible refine (HCU.out _ hv1.out).mono ?_); rintro e w7 ⟨rfl, hv7⟩))
      have HZ7 := Lib.hid (HZ6.out.keep hv7.out)
      have HB7 : Hid (RowKit.Below w.heap.size w w7) := HB6.out.trans (hv7.out.mono HB6.out.size)
      have r0 : w7.cell? ⟨w.heap.size + 1, 0, none⟩ = some (.int .i64 0) := HZ7.out.cell 0
      have rf0 : w7.frozen? ⟨w.heap.size + 1, 0, none⟩ = false := HZ7.out.free 0
      have r1 : w7.cell? ⟨w.heap.size + 1, 1, none⟩ = some (.int .i64 0) := HZ7.out.cell 1
      have rf1 : w7.frozen? ⟨w.heap.size + 1, 1, none⟩ = false := HZ7.out.free 1
      have r2 : w7.cell? ⟨w.heap.size + 1, 2, none⟩ = some (.int .i64 0) := HZ7.out.cell 2
      have rf2 : w7.frozen? ⟨w.heap.size + 1, 2, none⟩ = false := HZ7.out.free 2
      have r3 : w7.cell? ⟨w.heap.size + 1, 3, none⟩ = some (.slice none 0 0) := HZ7.out.cell 3
      have rf3 : w7.frozen? ⟨w.heap.size + 1, 3, none⟩ = false := HZ7.out.free 3
      go_wp2
      refine bodyPost_ret (v := .tuple #[.agg #[.int .i64 0, .int .i64 0, .int .i64 0, .slice none 0 0], .int .i64 16]) (by simp [results, Tryz.results81, go_sem, r0, r1, r2, r3]) rfl ?_
      exact SetRes37.bad (by decide) (put4 HB7.out (by omega) _ _ _ _)
  case false =>
    have HGT : Hid (∀ q, I ≤ q → q < us.length → mov < us[q]!.1) := bs_lt HG.out.asc H3.out (fun e => by have := H4.out.2 e; cases this)
    by_cases h64 : 64 ≤ n
    · have d6 : decide ((64 : Int) ≤ (n : Int)) = true := by simp; omega
      have x3 : w2.cell? ⟨w.heap.size, 3, none⟩ = some (.slice A n c) := HX2.out.cell 3
      have r0 : w2.cell? ⟨w.heap.size + 1, 0, none⟩ = some (.int .i64 0) := HZ2.out.cell 0
      have rf0 : w2.frozen? ⟨w.heap.size + 1, 0, none⟩ = false := HZ2.out.free 0
      have r1 : w2.cell? ⟨w.heap.size + 1, 1, none⟩ = some (.int .i64 0) := HZ2.out.cell 1
      have rf1 : w2.frozen? ⟨w.heap.size + 1, 1, none⟩ = false := HZ2.out.free 1
      have r2 : w2.cell? ⟨w.heap.size + 1, 2, none⟩ = some (.int .i64 0) := HZ2.out.cell 2
      have rf2 : w2.frozen? ⟨w.heap.size + 1, 2, none⟩ = false := HZ2.out.free 2
      have r3 : w2.cell? ⟨w.heap.size + 1, 3, none⟩ = some (.slice none 0 0) := HZ2.out.cell 3
      have rf3 : w2.frozen? ⟨w.heap.size + 1, 3, none⟩ = false := HZ2.out.free 3
      go_wp2
      refine bodyPost_ret (v := .tuple #[.agg #[.int .i64 0, .int .i64 0, .int .i64 0, .slice none 0 0], .int .i64 8]) (by simp [results, Tryz.results81, go_sem, r0, r1, r2, r3]) rfl ?_
      exact SetRes37.bad (by decide) (put4 HB2.out (by omega) _ _ _ _)
    have d6 : decide ((64 : Int) ≤ (n : Int)) = false := by simp; omega
    have HLN : Hid (∀ x, x ≤ n + 1 → x ≤ 64) := fun x hx => by omega
    clear h64
    have x0 : w2.cell? ⟨w.heap.size, 0, none⟩ = some (.int .i64 h.id) := HX2.out.cell 0
    have x1 : w2.cell? ⟨w.heap.size, 1, none⟩ = some (.int .i64 h.ref) := HX2.out.cell 1
    have x2 : w2.cell? ⟨w.heap.size, 2, none⟩ = some (.int .i64 h.lev) := HX2.out.cell 2
    have x3 : w2.cell? ⟨w.heap.size, 3, none⟩ = some (.slice A n c) := HX2.out.cell 3
    have HCR := Lib.hid (required37_any h A n c amt w2 HG.out.head m3 m4)
    go_wp2_with fail
    refine HCR.out.mono ?_
    rintro e w3 ⟨r, rfl, HRQ, hb3⟩
    have HX3 := Lib.hid (HX2.out.keep hb3)
    have HZ3 := Lib.hid (HZ2.out.keep hb3)
    have HB3 : Hid (RowKit.Below w.heap.size w w3) := HB2.out.trans (hb3.mono HB2.out.size)
    have c0 : ((0 : Int) != 0) = false := rfl
    clear hb3 HX2 HZ2 HB2 HCR x0 x1 x2 x3
    have x3 : w3.cell? ⟨w.heap.size, 3, none⟩ = some (.slice A n c) := HX3.out.cell 3
    have hal : RowKit.Below w3.heap.size w3 (w3.alloc (.cells #[.int .i64 mov, .int .i64 r] 32)) := (Below.refl _ _).alloc (Nat.le_refl _) _
    have HX4 := Lib.hid (HX3.out.keep hal)
    have HZ4 := Lib.hid (HZ3.out.keep hal)
    have HB4 : Hid (RowKit.Below w.heap.size w (w3.alloc (.cells #[.int .i64 mov, .int .i64 r] 32))) := HB3.out.trans (hal.mono HB3.out.size)
    have HXR : Hid (Rd (w3.alloc (.cells #[.int .i64 mov, .int .i64 r] 32)) 2 (some ⟨w3.heap.size, 0, none⟩) 1 (flat enc2 [(mov, r)])) := by
      show Rd _ _ _ _ _
      rw [flat_one]
      exact rd_new w3 32 (enc2 (mov, r))
    have HCP := Lib.hid (splice37_any A n c I (I) us (some ⟨w3.heap.size, 0, none⟩) 1 1 [(mov, r)] (w3.alloc (.cells #[.int .i64 mov, .int .i64 r] 32)) (HRD.out.keep HB4.out) HL.out HXR.out rfl (by omega) (by omega) hnc (by omega) (by omega))
    clear hal HX3 HZ3 HB3
    go_wp2_with fail
    refine HCP.out.mono ?_
    obtain ⟨us', hus⟩ : ∃ us', us.take I ++ [(mov, r)] ++ us.drop (I) = us' := ⟨_, rfl⟩
    have HUS := Lib.hid hus
    rw [hus]
    clear hus
    obtain ⟨n', hn'⟩ : ∃ n', us'.length = n' := ⟨_, rfl⟩
    have HN' := Lib.hid hn'
    unfold SpRes
    rw [hn']
    clear hn'
    rintro e w5 ⟨B, d, rfl, ho5, hb5⟩
    have hn5 : n' ≤ 65 := by have h1 := HN'.out; rw [← HUS.out] at h1; simp at h1; have := HL.out; omega
    have HALL : Hid (∀ u ∈ us', uOk u = true) := fun u hu => by
      rw [← HUS.out] at hu
      rcases mem_parts hu with rfl | hu
      · exact uOk_of m1 m2 HRQ.out.1 HRQ.out.2
      · exact HG.out.ok u hu
    have HX5 := Lib.hid (HX4.out.keep hb5)
    have HZ5 := Lib.hid (HZ4.out.keep hb5)
    have HB5 : Hid (RowKit.Below w.heap.size w w5) := HB4.out.trans (hb5.mono HB4.out.size)
    have HO5 := Lib.hid (ho5.mono HB4.out.size)
    have y3 : w5.cell? ⟨w.heap.size, 3, none⟩ = some (.slice A n c) := HX5.out.cell 3
    have yf : w5.frozen? ⟨w.heap.size, 3, none⟩ = false := HX5.out.free 3
    have HX6 : Hid (Bl (w5.setCell ⟨w.heap.size, 3, none⟩ (.slice B n' d)) w.heap.size 30 #[.int .i64 h.id, .int .i64 h.ref, .int .i64 h.lev, .slice B n' d]) := by show Bl _ _ _ _; have := HX5.out.put 3 (.slice B n' d); simpa using this
    have HZ6 := Lib.hid (HZ5.out.far (p := ⟨w.heap.size, 3, none⟩) (by simp) (.slice B n' d))
    have HB6 : Hid (RowKit.Below w.heap.size w (w5.setCell ⟨w.heap.size, 3, none⟩ (.slice B n' d))) := HB5.out.setCell (p := ⟨w.heap.size, 3, none⟩) (by simp) _
    have HO6 : Hid ((w5.setCell ⟨w.heap.size, 3, none⟩ (.slice B n' d)).ownsRow w.heap.size 32 2 (.slice B n' d) n' (flat enc2 us')) := own_of_block HO5.out fun j hj => Below.heap_setCell _ _ _ j (fun e => own_apart HO5.out HX5.out (by decide) (by rw [hj, e]))
    clear ho5 hb5 HX4 HZ4 HB4 HX5 HZ5 HB5 HO5 HCP
    go_upto_region 16 with (fail)
    clear y3 yf x3 c0
    generalize w5.setCell ⟨w.heap.size, 3, none⟩ (.slice B n' d) = W6 at *
    have HCU : Hid (∀ wx, RowKit.Below W6.heap.size W6 wx → Calls Tryz.prog 30 #[.slice B n' d] wx fun e w' => e = .returned (.int .i64 (uSum us')) ∧ Hid (RowKit.Below W6.heap.size W6 w')) := fun wx hb => (reserved_any B n' d us' wx ((Recs.of_own enc2_len HO6.out HN'.out).below hb) (by omega) HALL.out).mono fun e w' ⟨h1, h2⟩ => ⟨h1, hb.trans (h2.mono hb.size)⟩
    have HKS : Hid (∀ wx, RowKit.Below W6.heap.size W6 wx → wx.cell? ⟨w.heap.size, 3, none⟩ = some (.slice B n' d) ∧ wx.cell? ⟨w.heap.size, 1, none⟩ = some (.int .i64 h.ref)) := fun wx hb => ⟨(HX6.out.keep hb).cell 3, (HX6.out.keep hb).cell 1⟩
    have hv1 : Hid (RowKit.Below W6.heap.size W6 W6.drew) := (Below.refl _ _).drew
    have y3 : W6.cell? ⟨w.heap.size, 3, none⟩ = some (.slice B n' d) := HX6.out.cell 3
    have y1 : W6.cell? ⟨w.heap.size, 1, none⟩ = some (.int .i64 h.ref) := HX6.out.cell 1
    obtain ⟨S, hS⟩ : ∃ S, uSum us' = S := ⟨_, rfl⟩
    have HSU := Lib.hid hS
    rw [hS] at HCU
    clear hS
    by_cases hle : S ≤ h.ref
    · have d5 : decide (h.ref < S) = false := by simpa using hle
      have HGO : Hid (GOk h us') := by
        have h2 : us.take I ++ (mov, r) :: us.drop (I) = us' := by have := HUS.out; rw [List.append_assoc] at this; exact this
        have h3 := HG.out.set (x := (mov, r)) (I := I) (J := I) (uOk_of m1 m2 HRQ.out.1 HRQ.out.2) (by omega) (fun q hq _ => H2.out q hq) HGT.out (by rw [h2, HN'.out]; exact HLN.out n' (by have h1 := HN'.out; rw [← HUS.out] at h1; simp at h1; have := HL.out; omega)) (by rw [h2, HSU.out]; exact hle)
        rw [h2] at h3
        exact h3
      clear hle
      go_region_held3 (fun w' => w'.cell? ⟨w.heap.size, 3, none⟩ = some (.slice B n' d) ∧ w'.cell? ⟨w.heap.size, 1, none⟩ = some (.int .i64 h.ref))
        (first
          | with_reducible exact HKS.out _ hv7.out
          | with_reducible exact HKS.out _ hv1.out
          | go_keep)
        (first
          | (go_at_call 30; (with_reducible refine (HCU.out _ hv1.out).mono ?_); rintro e w7 ⟨rfl, hv7⟩))
      have HX7 := Lib.hid (HX6.out.keep hv7.out)
      have HZ7 := Lib.hid (HZ6.out.keep hv7.out)
      have HB7 : Hid (RowKit.Below w.heap.size w w7) := HB6.out.trans (hv7.out.mono HB6.out.size)
      have HO7 := Lib.hid (own_below HO6.out hv7.out)
      have x0 : w7.cell? ⟨w.heap.size, 0, none⟩ = some (.int .i64 h.id) := HX7.out.cell 0
      have x1 : w7.cell? ⟨w.heap.size, 1, none⟩ = some (.int .i64 h.ref) := HX7.out.cell 1
      have x2 : w7.cell? ⟨w.heap.size, 2, none⟩ = some (.int .i64 h.lev) := HX7.out.cell 2
      have x3 : w7.cell? ⟨w.heap.size, 3, none⟩ = some (.slice B n' d) := HX7.out.cell 3
      have r0 : w7.cell? ⟨w.heap.size + 1, 0, none⟩ = some (.int .i64 0) := HZ7.out.cell 0
      have rf0 : w7.frozen? ⟨w.heap.size + 1, 0, none⟩ = false := HZ7.out.free 0
      have r1 : w7.cell? ⟨w.heap.size + 1, 1, none⟩ = some (.int .i64 0) := HZ7.out.cell 1
      have rf1 : w7.frozen? ⟨w.heap.size + 1, 1, none⟩ = false := HZ7.out.free 1
      have r2 : w7.cell? ⟨w.heap.size + 1, 2, none⟩ = some (.int .i64 0) := HZ7.out.cell 2
      have rf2 : w7.frozen? ⟨w.heap.size + 1, 2, none⟩ = false := HZ7.out.free 2
      have r3 : w7.cell? ⟨w.heap.size + 1, 3, none⟩ = some (.slice none 0 0) := HZ7.out.cell 3
      have rf3 : w7.frozen? ⟨w.heap.size + 1, 3, none⟩ = false := HZ7.out.free 3
      go_wp2
      refine bodyPost_ret (v := .tuple #[.agg #[.int .i64 h.id, .int .i64 h.ref, .int .i64 h.lev, .slice B n' d], .int .i64 0]) (by simp [results, Tryz.results81, go_sem, r0, r1, r2, r3]) rfl ?_
      exact ⟨h, B, n', d, 0, rfl, fun _ => ⟨rfl, us', HGO.out, HN'.out, own4 HO7.out (fun j hj e => own_apart HO7.out HZ7.out (by decide) (by rw [hj, e])) _ _ _ _⟩, put4 HB7.out (by omega) _ _ _ _⟩
    · have d5 : decide (h.ref < S) = true := by simp; omega
      clear hle
      go_region_held3 (fun w' => w'.cell? ⟨w.heap.size, 3, none⟩ = some (.slice B n' d) ∧ w'.cell? ⟨w.heap.size, 1, none⟩ = some (.int .i64 h.ref))
        (first
          | with_reducible exact HKS.out _ hv7.out
          | with_reducible exact HKS.out _ hv1.out
          | go_keep)
        (first
          | (go_at_call 30; (with_reducible refine (HCU.out _ hv1.out).mono ?_); rintro e w7 ⟨rfl, hv7⟩))
      have HZ7 := Lib.hid (HZ6.out.keep hv7.out)
      have HB7 : Hid (RowKit.Below w.heap.size w w7) := HB6.out.trans (hv7.out.mono HB6.out.size)
      have r0 : w7.cell? ⟨w.heap.size + 1, 0, none⟩ = some (.int .i64 0) := HZ7.out.cell 0
      have rf0 : w7.frozen? ⟨w.heap.size + 1, 0, none⟩ = false := HZ7.out.free 0
      have r1 : w7.cell? ⟨w.heap.size + 1, 1, none⟩ = some (.int .i64 0) := HZ7.out.cell 1
      have rf1 : w7.frozen? ⟨w.heap.size + 1, 1, none⟩ = false := HZ7.out.free 1
      have r2 : w7.cell? ⟨w.heap.size + 1, 2, none⟩ = some (.int .i64 0) := HZ7.out.cell 2
      have rf2 : w7.frozen? ⟨w.heap.size + 1, 2, none⟩ = false := HZ7.out.free 2
      have r3 : w7.cell? ⟨w.heap.size + 1, 3, none⟩ = some (.slice none 0 0) := HZ7.out.cell 3
      have rf3 : w7.frozen? ⟨w.heap.size + 1, 3, none⟩ = false := HZ7.out.free 3
      go_wp2
      refine bodyPost_ret (v := .tuple #[.agg #[.int .i64 0, .int .i64 0, .int .i64 0, .slice none 0 0], .int .i64 16]) (by simp [results, Tryz.results81, go_sem, r0, r1, r2, r3]) rfl ?_
      exact SetRes37.bad (by decide) (put4 HB7.out (by omega) _ _ _ _)
set_option maxRecDepth 100000 in
set_option maxHeartbeats 8000000 in
theorem release37_any (h : Gh) (A : Option Addr) (n c : Nat) (us : List (Int × Int)) (mov : Int) (w : World) (hr : Recs enc2 2 w A n us) (hR : Rd w 2 A n (flat enc2 us)) (hnc : n ≤ c) (hg : GOk h us) :
    Calls Tryz.prog 83 #[.agg #[.int .i64 h.id, .int .i64 h.ref, .int .i64 h.lev, .slice A n c], .int .i64 mov] w (SetRes37 w h) := by
  have HG := Lib.hid hg
  have HL : Hid (us.length = n) := hr.1
  have hn64 : n ≤ 64 := by have := hg.len; have := hr.1; omega
  obtain ⟨W0, hW0⟩ : ∃ W, W = (w.alloc (.cells #[.int .i64 h.id, .int .i64 h.ref, .int .i64 h.lev, .slice A n c] 30)).alloc (.cells #[.int .i64 0, .int .i64 0, .int .i64 0, .slice none 0 0] 30) := ⟨_, rfl⟩
  have hx : Bl W0 w.heap.size 30 #[.int .i64 h.id, .int .i64 h.ref, .int .i64 h.lev, .slice A n c] := by rw [hW0]; exact (Bl.new w _ _).alloc _
  have hz : Bl W0 (w.heap.size + 1) 30 #[.int .i64 0, .int .i64 0, .int .i64 0, .slice none 0 0] := by rw [hW0]; have := Bl.new (w.alloc (.cells #[.int .i64 h.id, .int .i64 h.ref, .int .i64 h.lev, .slice A n c] 30)) 30 #[.int .i64 0, .int .i64 0, .int .i64 0, .slice none 0 0]; simpa using this
  have hb0 : RowKit.Below w.heap.size w W0 := by rw [hW0]; exact ((Below.refl _ _).alloc (Nat.le_refl _) _).alloc (by simp) _
  have HCV : Hid (Calls Tryz.prog 13 #[.agg #[.int .i64 h.id, .int .i64 h.ref, .int .i64 h.lev, .slice A n c]] W0 fun e w' => e = .returned (.int .i64 0) ∧ RowKit.Below W0.heap.size W0 w') := (gvalidate_any h A n c us W0 (hr.below hb0)).mono fun e w' ⟨h1, h2⟩ => ⟨by rw [h1, hg.err], h2⟩
  have HX0 := Lib.hid hx
  have HZ0 := Lib.hid hz
  have HB0 := Lib.hid hb0
  have HRS := Lib.hid hr
  have HRD := Lib.hid hR
  clear hr hR hg hx hz hb0
  go_enter Tryz.func83, Tryz.ntmps83
  go_upto_region 1 with (fail)
  rw [← hW0]
  clear hW0
  have x0 : W0.cell? ⟨w.heap.size, 0, none⟩ = some (.int .i64 h.id) := HX0.out.cell 0
  have x1 : W0.cell? ⟨w.heap.size, 1, none⟩ = some (.int .i64 h.ref) := HX0.out.cell 1
  have x2 : W0.cell? ⟨w.heap.size, 2, none⟩ = some (.int .i64 h.lev) := HX0.out.cell 2
  have x3 : W0.cell? ⟨w.heap.size, 3, none⟩ = some (.slice A n c) := HX0.out.cell 3
  go_wp2_with fail
  refine HCV.out.mono ?_
  rintro e w1 ⟨rfl, hb1⟩
  have HX1 := Lib.hid (HX0.out.keep hb1)
  have HZ1 := Lib.hid (HZ0.out.keep hb1)
  have HB1 : Hid (RowKit.Below w.heap.size w w1) := HB0.out.trans (hb1.mono HB0.out.size)
  have b0 : ((0 : Int) != 0) = false := rfl
  clear hb1 HX0 HZ0 HB0 HCV x0 x1 x2 x3
  have x3 : w1.cell? ⟨w.heap.size, 3, none⟩ = some (.slice A n c) := HX1.out.cell 3
  have HCS := Lib.hid (search37_any A n c us mov w1 (HRS.out.below HB1.out) (by omega) HG.out.asc)
  go_wp2_with fail
  refine HCS.out.mono ?_
  rintro e w2 ⟨I, b, rfl, hI1, hI2, hI3, hI4, hb2⟩
  have HX2 := Lib.hid (HX1.out.keep hb2)
  have HZ2 := Lib.hid (HZ1.out.keep hb2)
  have HB2 : Hid (RowKit.Below w.heap.size w w2) := HB1.out.trans (hb2.mono HB1.out.size)
  have H4 := Lib.hid hI4
  clear hI1 hI2 hI3 hI4 hb2 HX1 HZ1 HB1 HCS x3 b0
  cases b
  case false =>
    have r0 : w2.cell? ⟨w.heap.size + 1, 0, none⟩ = some (.int .i64 0) := HZ2.out.cell 0
    have rf0 : w2.frozen? ⟨w.heap.size + 1, 0, none⟩ = false := HZ2.out.free 0
    have r1 : w2.cell? ⟨w.heap.size + 1, 1, none⟩ = some (.int .i64 0) := HZ2.out.cell 1
    have rf1 : w2.frozen? ⟨w.heap.size + 1, 1, none⟩ = false := HZ2.out.free 1
    have r2 : w2.cell? ⟨w.heap.size + 1, 2, none⟩ = some (.int .i64 0) := HZ2.out.cell 2
    have rf2 : w2.frozen? ⟨w.heap.size + 1, 2, none⟩ = false := HZ2.out.free 2
    have r3 : w2.cell? ⟨w.heap.size + 1, 3, none⟩ = some (.slice none 0 0) := HZ2.out.cell 3
    have rf3 : w2.frozen? ⟨w.heap.size + 1, 3, none⟩ = false := HZ2.out.free 3
    go_wp2
    refine bodyPost_ret (v := .tuple #[.agg #[.int .i64 0, .int .i64 0, .int .i64 0, .slice none 0 0], .int .i64 6]) (by simp [results, Tryz.results83, go_sem, r0, r1, r2, r3]) rfl ?_
    exact SetRes37.bad (by decide) (put4 HB2.out (by omega) _ _ _ _)
  case true =>
    have hIlt : I < n := by have := (H4.out.1 rfl).1; have := HL.out; omega
    have u1 : IntKind.i64.wrap ((I : Int) + 1) = ((I + 1 : Nat) : Int) := (IntWalk.i64_in _ (by omega)).trans (by omega)
    have x3 : w2.cell? ⟨w.heap.size, 3, none⟩ = some (.slice A n c) := HX2.out.cell 3
    have HCP := Lib.hid (splice37_any A n c I (I + 1) us none 0 0 [] w2 (HRD.out.keep HB2.out) HL.out ⟨rfl, fun h => by omega⟩ rfl (by omega) (by omega) hnc (by omega) (by omega))
    go_wp2_with fail
    refine HCP.out.mono ?_
    obtain ⟨us', hus⟩ : ∃ us', us.take I ++ [] ++ us.drop (I + 1) = us' := ⟨_, rfl⟩
    have HUS := Lib.hid hus
    rw [hus]
    clear hus
    obtain ⟨n', hn'⟩ : ∃ n', us'.length = n' := ⟨_, rfl⟩
    have HN' := Lib.hid hn'
    unfold SpRes
    rw [hn']
    clear hn'
    rintro e w5 ⟨B, d, rfl, ho5, hb5⟩
    have HGO : Hid (GOk h us') := by
      show GOk h us'
      rw [← HUS.out, List.append_nil]
      exact HG.out.release (by have := HL.out; omega)
    have HX5 := Lib.hid (HX2.out.keep hb5)
    have HZ5 := Lib.hid (HZ2.out.keep hb5)
    have HB5 : Hid (RowKit.Below w.heap.size w w5) := HB2.out.trans (hb5.mono HB2.out.size)
    have HO5 := Lib.hid (ho5.mono HB2.out.size)
    have y3 : w5.cell? ⟨w.heap.size, 3, none⟩ = some (.slice A n c) := HX5.out.cell 3
    have yf : w5.frozen? ⟨w.heap.size, 3, none⟩ = false := HX5.out.free 3
    have HX6 : Hid (Bl (w5.setCell ⟨w.heap.size, 3, none⟩ (.slice B n' d)) w.heap.size 30 #[.int .i64 h.id, .int .i64 h.ref, .int .i64 h.lev, .slice B n' d]) := by show Bl _ _ _ _; have := HX5.out.put 3 (.slice B n' d); simpa using this
    have HZ6 := Lib.hid (HZ5.out.far (p := ⟨w.heap.size, 3, none⟩) (by simp) (.slice B n' d))
    have HB6 : Hid (RowKit.Below w.heap.size w (w5.setCell ⟨w.heap.size, 3, none⟩ (.slice B n' d))) := HB5.out.setCell (p := ⟨w.heap.size, 3, none⟩) (by simp) _
    have HO6 : Hid ((w5.setCell ⟨w.heap.size, 3, none⟩ (.slice B n' d)).ownsRow w.heap.size 32 2 (.slice B n' d) n' (flat enc2 us')) := own_of_block HO5.out fun j hj => Below.heap_setCell _ _ _ j (fun e => own_apart HO5.out HX5.out (by decide) (by rw [hj, e]))
    clear ho5 hb5 HX5 HZ5 HB5 HO5 HCP
    go_upto_region 8 with (fail)
    clear y3 yf x3
    generalize w5.setCell ⟨w.heap.size, 3, none⟩ (.slice B n' d) = W6 at *
    have x0 : W6.cell? ⟨w.heap.size, 0, none⟩ = some (.int .i64 h.id) := HX6.out.cell 0
    have x1 : W6.cell? ⟨w.heap.size, 1, none⟩ = some (.int .i64 h.ref) := HX6.out.cell 1
    have x2 : W6.cell? ⟨w.heap.size, 2, none⟩ = some (.int .i64 h.lev) := HX6.out.cell 2
    have x3 : W6.cell? ⟨w.heap.size, 3, none⟩ = some (.slice B n' d) := HX6.out.cell 3
    have r0 : W6.cell? ⟨w.heap.size + 1, 0, none⟩ = some (.int .i64 0) := HZ6.out.cell 0
    have rf0 : W6.frozen? ⟨w.heap.size + 1, 0, none⟩ = false := HZ6.out.free 0
    have r1 : W6.cell? ⟨w.heap.size + 1, 1, none⟩ = some (.int .i64 0) := HZ6.out.cell 1
    have rf1 : W6.frozen? ⟨w.heap.size + 1, 1, none⟩ = false := HZ6.out.free 1
    have r2 : W6.cell? ⟨w.heap.size + 1, 2, none⟩ = some (.int .i64 0) := HZ6.out.cell 2
    have rf2 : W6.frozen? ⟨w.heap.size + 1, 2, none⟩ = false := HZ6.out.free 2
    have r3 : W6.cell? ⟨w.heap.size + 1, 3, none⟩ = some (.slice none 0 0) := HZ6.out.cell 3
    have rf3 : W6.frozen? ⟨w.heap.size + 1, 3, none⟩ = false := HZ6.out.free 3
    go_wp2
    refine bodyPost_ret (v := .tuple #[.agg #[.int .i64 h.id, .int .i64 h.ref, .int .i64 h.lev, .slice B n' d], .int .i64 0]) (by simp [results, Tryz.results83, go_sem, r0, r1, r2, r3]) rfl ?_
    exact ⟨h, B, n', d, 0, rfl, fun _ => ⟨rfl, us', HGO.out, HN'.out, own4 HO6.out (fun j hj e => own_apart HO6.out HZ6.out (by decide) (by rw [hj, e])) _ _ _ _⟩, put4 HB6.out (by omega) _ _ _ _⟩
end Go.Proofs.YtdbcbbiplkikcaaGreat

namespace Go.Proofs.YtdbcbbiplkikcaaGreat
open Go.RowKit
set_option linter.unusedVariables false

theorem own_empty {w : World} {g base : Nat} {t : TypeId} {size : Nat} (h : Bl w g t #[]) (hb : base ≤ g) : w.ownsRow base t size (.slice (some ⟨g, 0, none⟩) 0 0) 0 [] :=
  ⟨by simp, .inr ⟨g, 0, #[], rfl, hb, h, Nat.le_refl _, Nat.zero_le _, by simp, by simp⟩⟩

theorem step_append_rd {P : Program} (w : World) {ops : Array Oper} {o : Oper} {a : Act} {K : Act → World → Prop} {Q : Exit → Act → World → Prop} {E : Prop} (hgd : o.guard = none) (s x : Operand) (t : TypeId)
    (ho : o.op = .call { callee := .builtin .append, args := #[s, x], argTypes := #[t, t] })
    (base : Nat) (e : TypeId) (z : Value) (size bytes : Nat) (ht : P.underlying t = some (.slice e)) (hi : (P.info? e).map (fun i => (i.zero, i.size, i.bytes)) = some (some z, size, bytes)) (hzs : z.cells.size = size) (hsz : 0 < size)
    (v : Value) (n : Nat) (xs : List Value) (hs : a.eval s = v) (hown : w.ownsRow base e size v n xs)
    (A : Option Addr) (m c : Nat) (news : List Value) (hx : a.eval x = .slice A m c) (hr : Rd w size A m news) (h1 : ∀ u ∈ news, u.oneCell' = true)
    (h63 : n + m ≤ maxLen) (hbytes : (n + m) * bytes ≤ 140737488355328) (hbase : base ≤ w.heap.size)
    (h : ∀ v' w', w'.ownsRow base e size v' (n + m) (xs ++ news) → w.grownBy w' v.ownBlock → K (a.put o.dst v') w') :
    if Region.wanted o (yielded ops a.tmps) = true then Oper.wp P o a w K Q else E := by
  obtain ⟨i, hi0, hz, hsize, hby⟩ := info_parts hi
  have hw : Region.wanted o (yielded ops a.tmps) = true := by simp [Region.wanted, hgd]
  rw [if_pos hw]
  obtain ⟨v', w', hrun, h2, h3, _⟩ := run_append_rd (P := P) w base t o.type e i z size bytes ht hi0 hz hsize hby hzs hsz v n xs hown A m c news hr h1 h63 hbytes hbase
  unfold Oper.wp execOp
  simp only [ho, resolve, invoke, builtin, Sem.run_bind, Sem.run_pure, Result.andThen_ok, List.map_toArray, List.map_cons, List.map_nil, hs, hx, hrun]
  exact h v' w' h2 h3
theorem Rd.drew {w : World} {size n : Nat} {A : Option Addr} {xs : List Value} (h : Rd w size A n xs) : Rd w.drew size A n xs := h
end Go.Proofs.YtdbcbbiplkikcaaGreat

/-
  Contracts of customsmade's Left, Small and QuotaFacts. No statement of the seat is proved here. Conditions: the list reads as integers, its length is at most its capacity.
-/
import Derived.Test.YtemhiifgplaldaaGreatMAK
import Derived.Test.YtemhiifgplaldaaGreatMAE
import Derived.Deep.RegionHeld3
namespace Go.Proofs.YtemhiifgplaldaaGreat
open Go.RowKit
set_option linter.unusedVariables false

set_option maxHeartbeats 1000000 in
theorem left_any (g : Nat) (A : Option Addr) (n c I : Nat) (w : World) (hS : Src w g A n c I) (hn : n ≤ 9223372036854775807) :
    Calls Tryz.prog 19 #[.pointer (some ⟨g, 0, none⟩)] w fun e w' => e = .returned (.bool (decide (I < n))) ∧ ∃ q, w' = w.drewN q := by
  have c0 : w.cell? ⟨g, 0, none⟩ = some (.slice A n c) := hS.cell 0
  have c1 : w.cell? ⟨g, 1, none⟩ = some (.int .i64 I) := hS.cell 1
  cases hd : decide (I < n)
  · have hd' : decide ((I : Int) < (n : Int)) = false := by simp at hd ⊢; omega
    go_enter Tryz.func19, Tryz.ntmps19
    go_wp2
    go_quiet (fail)
    go_wp2
    go_ret
    exact ⟨rfl, _, rfl⟩
  · have hd' : decide ((I : Int) < (n : Int)) = true := by simp at hd ⊢; omega
    go_enter Tryz.func19, Tryz.ntmps19
    go_wp2
    go_quiet (fail)
    go_wp2
    go_ret
    exact ⟨rfl, _, rfl⟩


def SmallRes (w : World) (g : Nat) (A : Option Addr) (n c I : Nat) (m : Int) (e : Ending) (w' : World) : Prop :=
  ∃ (v : Int) (I' : Nat), e = .returned (.int .i64 v) ∧ 0 ≤ v ∧ v < m ∧ I ≤ I' ∧ (I ≤ n → I' ≤ n) ∧ Only g w w' ∧ Src w' g A n c I'

set_option maxHeartbeats 1000000 in
theorem small_any (g : Nat) (A : Option Addr) (n c I : Nat) (xs : List Int) (few m : Int) (w0 w : World) (hS : Src w g A n c I) (hI : Ints w0 A n xs) (hb : RowKit.Below w0.heap.size w0 w) (hg : w0.heap.size ≤ g) (hn : n ≤ 1000000) (hf : 0 < few) (hfm : few ≤ m) (hm' : m ≤ 4000000000000000000) :
    Calls Tryz.prog 18 #[.pointer (some ⟨g, 0, none⟩), .int .i64 few, .int .i64 m] w (SmallRes w g A n c I m) := by
  have b1 := nextV_bounds xs n I 5 (by omega)
  have hl1 := nextI_ge n I
  have hl2 := nextI_le n I
  by_cases h4 : nextV xs n I 5 = 4
  · have hb4 : (nextV xs n I 5 == 4) = true := by simpa using h4
    have b2 := nextV_bounds xs n (nextI n I) m (by omega)
    have hl3 := nextI_ge n (nextI n I)
    have hl4 := nextI_le n (nextI n I)
    clear h4
    go_enter Tryz.func18, Tryz.ntmps18
    go_wp2_with fail
    refine (next_any g A n c I xs 5 w0 w hS hI hb hg hn (by omega) (by omega)).mono ?_
    rintro e w1 ⟨rfl, hO1, hS1⟩
    have hB1 := hb.trans ((hO1.below hg))
    generalize nextV xs n I 5 = v1 at *
    go_wp2_with fail
    refine (next_any g A n c _ xs m w0 w1 hS1 hI hB1 hg hn (by omega) hm').mono ?_
    rintro e w2 ⟨rfl, hO2, hS2⟩
    go_wp2
    go_ret
    exact ⟨_, _, rfl, b2.1, b2.2, by omega, fun h => hl4 (hl2 h), hO1.trans hO2, hS2⟩
  · have hb4 : (nextV xs n I 5 == 4) = false := by simpa using h4
    have b2 := nextV_bounds xs n (nextI n I) few hf
    have hl3 := nextI_ge n (nextI n I)
    have hl4 := nextI_le n (nextI n I)
    clear h4
    go_enter Tryz.func18, Tryz.ntmps18
    go_wp2_with fail
    refine (next_any g A n c I xs 5 w0 w hS hI hb hg hn (by omega) (by omega)).mono ?_
    rintro e w1 ⟨rfl, hO1, hS1⟩
    have hB1 := hb.trans ((hO1.below hg))
    generalize nextV xs n I 5 = v1 at *
    go_wp2_with fail
    refine (next_any g A n c _ xs few w0 w1 hS1 hI hB1 hg hn hf (by omega)).mono ?_
    rintro e w2 ⟨rfl, hO2, hS2⟩
    go_wp2
    go_ret
    exact ⟨_, _, rfl, b2.1, by omega, by omega, fun h => hl4 (hl2 h), hO1.trans hO2, hS2⟩


/-- What QuotaFacts makes. -/
structure QF (q : Qt) (fs : List Fct) : Prop where
  qok : qOk q = true
  fr : q.fr ≤ 3
  tod : q.tod ≤ q.fr + 8
  len : fs.length ≤ 24
  num : ∀ k, k < fs.length → fs[k]!.num = ((k : Int) * 7 + 3) % 31 + 1
  each : ∀ x ∈ fs, fErr q x = 0 ∧ x.num ≤ 31 ∧ x.id ≤ 8 ∧ x.qty < 40
theorem QF.snoc {q : Qt} {fs : List Fct} (h : QF q fs) (hl : fs.length < 24) {x : Fct} (hn : x.num = ((fs.length : Int) * 7 + 3) % 31 + 1) (hx : fErr q x = 0) (h1 : x.num ≤ 31) (h2 : x.id ≤ 8) (h3 : x.qty < 40) : QF q (fs ++ [x]) := by
  refine ⟨h.qok, h.fr, h.tod, by simp; omega, fun k hk => ?_, fun y hy => ?_⟩
  · by_cases e : k = fs.length
    · subst e; rw [get_snoc_last]; exact hn
    · rw [get_snoc _ _ _ (by simp at hk; omega)]; exact h.num k (by simp at hk; omega)
  · rcases List.mem_append.1 hy with hy | hy
    · exact h.each y hy
    · rw [List.mem_singleton] at hy; subst hy; exact ⟨hx, h1, h2, h3⟩
/-- The numbers differ. -/
theorem QF.nodup {q : Qt} {fs : List Fct} (h : QF q fs) : (fs.map (·.num)).Nodup := by
  rw [List.Nodup, List.pairwise_map, List.pairwise_iff_getElem]
  intro i j hi hj hij e
  have h1 := h.num i hi
  have h2 := h.num j hj
  rw [getElem!_pos fs i hi] at h1
  rw [getElem!_pos fs j hj] at h2
  have := h.len
  omega
theorem fErr_made {q : Qt} (hq : qOk q = true) {x : Fct} (h1 : 1 ≤ x.num) (h2 : x.num ≤ 31) (h3 : 1 ≤ x.kind) (h4 : x.kind ≤ 4) (h5 : 0 ≤ x.day) (h6 : x.day ≤ 36524) (h7 : 0 ≤ x.qty) (h8 : x.qty ≤ 1000000000) (h9 : x.kind = 4 → x.id = 0) (h10 : x.kind ≠ 4 → 1 ≤ x.id ∧ x.id ≤ 1000000) (h11 : x.kind = 1 ∨ x.kind = 4 → q.fr ≤ x.day ∧ x.day < q.tod) : fErr q x = 0 := by
  unfold fErr
  rw [if_neg (by omega), if_neg (by omega), if_neg (by omega), if_neg (by omega)]
theorem Kp.cellN {g : Nat} {a b : World} (h : Kp g a b) (p : Addr) (hG : a.heap.size ≤ p.block) (v : Value) : Kp g a (b.setCell p v) :=
  ⟨h.os, h.tape, h.output, by simpa [World.setCell] using h.size, fun k hk hg => (Below.heap_setCell b p v k (by omega)).trans (h.block k hk hg)⟩
theorem Kp.set5 {g G : Nat} {a b : World} (h : Kp g a b) (hG : a.heap.size ≤ G) (v0 v1 v2 v3 v4 : Value) : Kp g a (((((b.setCell ⟨G, 0, none⟩ v0).setCell ⟨G, 1, none⟩ v1).setCell ⟨G, 2, none⟩ v2).setCell ⟨G, 3, none⟩ v3).setCell ⟨G, 4, none⟩ v4) :=
  ((((h.cellN ⟨G, 0, none⟩ hG v0).cellN ⟨G, 1, none⟩ hG v1).cellN ⟨G, 2, none⟩ hG v2).cellN ⟨G, 3, none⟩ hG v3).cellN ⟨G, 4, none⟩ hG v4
theorem Src.far5 {w : World} {g r : Nat} {A : Option Addr} {n c I : Nat} (h : Src w g A n c I) (hne : g ≠ r) (v0 v1 v2 v3 v4 : Value) : Src (((((w.setCell ⟨r, 0, none⟩ v0).setCell ⟨r, 1, none⟩ v1).setCell ⟨r, 2, none⟩ v2).setCell ⟨r, 3, none⟩ v3).setCell ⟨r, 4, none⟩ v4) g A n c I := Bl.far5 h hne _ _ _ _ _
theorem Kp.only {g : Nat} {a b c : World} (h : Kp g a b) (ho : Only g b c) : Kp g a c := ⟨ho.os.trans h.os, ho.tape.trans h.tape, ho.output.trans h.output, by rw [ho.size]; exact h.size, fun k hk hg => (ho.block k hg).trans (h.block k hk hg)⟩
theorem Src.alloc' {w : World} {g : Nat} {A : Option Addr} {n c I : Nat} (h : Src w g A n c I) (o : Obj) : Src (w.alloc o) g A n c I := Bl.alloc h o
theorem Src.drew' {w : World} {g : Nat} {A : Option Addr} {n c I : Nat} (h : Src w g A n c I) : Src w.drew g A n c I := h
theorem Src.lt' {w : World} {g : Nat} {A : Option Addr} {n c I : Nat} (h : Src w g A n c I) : g < w.heap.size := Bl.lt h
theorem Below.alloc' {B : Nat} {w w' : World} (h : RowKit.Below B w w') (hB : B ≤ w.heap.size) (o : Obj) : RowKit.Below B w (w'.alloc o) := h.alloc (Nat.le_trans hB h.size) o
theorem Bl.q3 {w : World} {g : Nat} {T : TypeId} {z0 z1 z2 z3 : Value} (h : Bl w g T #[z0, z1, z2, z3]) : w.cell? ⟨g, 3, none⟩ = some z3 := h.cell 3
theorem Bl.q2 {w : World} {g : Nat} {T : TypeId} {z0 z1 z2 z3 : Value} (h : Bl w g T #[z0, z1, z2, z3]) : w.cell? ⟨g, 2, none⟩ = some z2 := h.cell 2
theorem Bl.put3 {w : World} {g : Nat} {T : TypeId} {z0 z1 z2 z3 : Value} (h : Bl w g T #[z0, z1, z2, z3]) (v : Value) : Bl (w.setCell ⟨g, 3, none⟩ v) g T #[z0, z1, z2, v] := by have := h.put 3 v; simpa using this
/-- What QuotaFacts returns. -/
def QFRes (w : World) (e : Ending) (w' : World) : Prop := ∃ (q : Qt) (fs : List Fct) (B : Option Addr) (n d : Nat), e = .returned (.tuple #[.agg #[.int .i64 q.id, .int .i64 q.vol, .int .i64 q.fr, .int .i64 q.tod], .slice B n d]) ∧ QF q fs ∧ fs.length = n ∧ w'.ownsRow w.heap.size 47 5 (.slice B n d) n (flat encF fs) ∧ RowKit.Below w.heap.size w w'

set_option maxRecDepth 100000 in
set_option maxHeartbeats 8000000 in
theorem quotaFacts_any (A : Option Addr) (n c : Nat) (xs : List Int) (w : World) (h : Ints w A n xs) (hnc : n ≤ c) (hcm : c ≤ 9223372036854775807) :
    Calls Tryz.prog 5 #[.slice A n c] w (QFRes w) := by
  have hT := h.take (m := min n 120) (by omega)
  obtain ⟨m, hm⟩ : ∃ m, m = min n 120 := ⟨_, rfl⟩
  have HC := Lib.hid (fun w' (hb : RowKit.Below w.heap.size w w') => cut_any A n c 120 xs w' (h.below hb) hnc hcm (by omega) (by omega))
  unfold CutRes at HC
  rw [← hm] at hT HC
  have hm1 : m ≤ 120 := by omega
  clear hm
  have HN : Hid (∀ (k : Int) (I : Nat) (wx : World), 0 < k → k ≤ 1000 → Src wx (w.heap.size + 1) A m c I → RowKit.Below w.heap.size w wx → Calls Tryz.prog 17 #[.pointer (some ⟨w.heap.size + 1, 0, none⟩), .int .i64 k] wx fun e w' => ∃ v : Int, e = .returned (.int .i64 v) ∧ 0 ≤ v ∧ v < k ∧ Only (w.heap.size + 1) wx w' ∧ Src w' (w.heap.size + 1) A m c (nextI m I)) := fun k I wx k1 k2 hS hb =>
    (next_any (w.heap.size + 1) A m c I (xs.take m) k w wx hS hT hb (by omega) (by omega) k1 (by omega)).mono fun e w' ⟨h1, h2, h3⟩ => ⟨_, h1, (nextV_bounds (xs.take m) m I k k1).1, (nextV_bounds (xs.take m) m I k k1).2, h2, h3⟩
  have HSM : Hid (∀ (I : Nat) (wx : World), Src wx (w.heap.size + 1) A m c I → RowKit.Below w.heap.size w wx → Calls Tryz.prog 18 #[.pointer (some ⟨w.heap.size + 1, 0, none⟩), .int .i64 100, .int .i64 100000000001] wx (SmallRes wx (w.heap.size + 1) A m c I 100000000001)) := fun I wx hS hb =>
    small_any (w.heap.size + 1) A m c I (xs.take m) 100 100000000001 w wx hS hT hb (by omega) (by omega) (by omega) (by omega) (by omega)
  have HLF : Hid (∀ (I : Nat) (wx : World), Src wx (w.heap.size + 1) A m c I → Calls Tryz.prog 19 #[.pointer (some ⟨w.heap.size + 1, 0, none⟩)] wx fun e w' => e = .returned (.bool (decide (I < m))) ∧ ∃ q, w' = wx.drewN q) := fun I wx hS => left_any (w.heap.size + 1) A m c I wx hS (by omega)
  clear hT h
  obtain ⟨W0, hW0⟩ : ∃ W, W = w.alloc (.cells #[.int .i64 0, .int .i64 0, .int .i64 0, .int .i64 0] 24) := ⟨_, rfl⟩
  have hb0 : RowKit.Below w.heap.size w W0 := by rw [hW0]; exact (Below.refl _ _).alloc (Nat.le_refl _) _
  have hr0 : Bl W0 w.heap.size 24 #[.int .i64 0, .int .i64 0, .int .i64 0, .int .i64 0] := by rw [hW0]; exact Bl.new w _ _
  have hs0 : W0.heap.size = w.heap.size + 1 := by rw [hW0]; simp
  go_enter Tryz.func5, Tryz.ntmps5
  go_upto_region 1 with (fail)
  rw [← hW0]
  clear hW0
  go_wp2_with fail
  refine (HC.out _ hb0).mono ?_
  rintro e w' ⟨rfl, rfl⟩
  have hS1 : Src (W0.alloc (.cells #[.slice A m c, .int .i64 0] 51)) (w.heap.size + 1) A m c 0 := by have := Bl.new W0 51 #[.slice A m c, .int .i64 0]; rwa [hs0] at this
  have hb1 : RowKit.Below w.heap.size w (W0.alloc (.cells #[.slice A m c, .int .i64 0] 51)) := hb0.alloc hb0.size _
  have hr1 := hr0.alloc (.cells #[.slice A m c, .int .i64 0] 51)
  clear hb0 hr0
  go_upto_region 2 with (fail)
  clear hs0
  generalize W0.alloc (.cells #[.slice A m c, .int .i64 0] 51) = W1 at *
  go_wp2_with fail
  refine (HN.out 3 0 _ (by omega) (by omega) hS1 hb1).mono ?_
  rintro e w2 ⟨v1, rfl, hv1, hv1', hO2, hS2⟩
  have hb2 := hb1.trans (hO2.below (by omega))
  have hr2 := hO2.bl hr1 (by omega)
  clear hS1 hb1 hr1 hO2
  go_wp2_with fail
  refine (HSM.out _ _ hS2 hb2).mono ?_
  rintro e w3 ⟨v2, I3, rfl, hv2, hv2', _, hI3, hO3, hS3⟩
  have hI3' : I3 ≤ m := hI3 (nextI_le m 0 (by omega))
  have hb3 := hb2.trans (hO3.below (by omega))
  have hr3 := hO3.bl hr2 (by omega)
  clear hS2 hb2 hr2 hO3 hI3
  go_wp2_with fail
  refine (HN.out 4 _ _ (by omega) (by omega) hS3 hb3).mono ?_
  rintro e w4 ⟨v3, rfl, hv3, hv3', hO4, hS4⟩
  have hI4 := nextI_le m I3 hI3'
  have hb4 : RowKit.Below w.heap.size w (w4.alloc (.cells #[.int .i64 (1 + v1), .int .i64 v2, .int .i64 v3, .int .i64 0] 24)) := (hb3.trans (hO4.below (by omega))).alloc (by have := hb3.size; rw [hO4.size]; omega) _
  have hr4 := (hO4.bl hr3 (by omega)).alloc (.cells #[.int .i64 (1 + v1), .int .i64 v2, .int .i64 v3, .int .i64 0] 24)
  have hS5 : Src (w4.alloc (.cells #[.int .i64 (1 + v1), .int .i64 v2, .int .i64 v3, .int .i64 0] 24)) (w.heap.size + 1) A m c (nextI m I3) := hS4.alloc _
  have hq5 := Bl.new w4 24 #[.int .i64 (1 + v1), .int .i64 v2, .int .i64 v3, .int .i64 0]
  have hg5 : w.heap.size + 1 < w4.heap.size := hS4.lt
  clear hS3 hb3 hr3 hO4 hS4 hI3'
  generalize nextI m I3 = I4 at *
  go_upto_region 3 with (fail)
  generalize w4.alloc (.cells #[.int .i64 (1 + v1), .int .i64 v2, .int .i64 v3, .int .i64 0] 24) = W4 at *
  generalize w4.heap.size = g5 at *
  have c2 : W4.cell? ⟨g5, 2, none⟩ = some (.int .i64 v3) := hq5.cell 2
  have c3 : W4.cell? ⟨g5, 3, none⟩ = some (.int .i64 0) := hq5.cell 3
  have z3 : W4.frozen? ⟨g5, 3, none⟩ = false := hq5.free 3
  have HQ5 := Lib.hid hq5
  have HR4 := Lib.hid hr4
  have HB4 := Lib.hid hb4
  have HS5 := Lib.hid (show Src W4.drew (w.heap.size + 1) A m c I4 from hS5)
  have HBD : Hid (RowKit.Below w.heap.size w W4.drew) := hb4.drew
  have HU2 : Hid (∀ v4 : Int, 0 ≤ v4 → v4 < 8 → IntKind.i64.wrap (v3 + 1 + v4) = v3 + 1 + v4) := fun v4 h1 h2 => IntWalk.i64_in _ (by omega)
  have nb : g5 ≠ w.heap.size + 1 := by omega
  have nb0 : w.heap.size ≠ w.heap.size + 1 := by omega
  have nb1 : w.heap.size ≠ g5 := by omega
  have nb2 : w.heap.size + 1 ≠ g5 := by omega
  have u1 : IntKind.i64.wrap (v3 + 1) = v3 + 1 := IntWalk.i64_in _ (by omega)
  clear hq5 hr4 hb4 hS5
  go_cut [] (fun wx => ∃ (v4 : Int) (I5 : Nat), 0 ≤ v4 ∧ v4 < 8 ∧ I5 ≤ m ∧ Bl wx g5 24 #[.int .i64 (1 + v1), .int .i64 v2, .int .i64 v3, .int .i64 (v3 + 1 + v4)] ∧ Src wx (w.heap.size + 1) A m c I5 ∧ Bl wx w.heap.size 24 #[.int .i64 0, .int .i64 0, .int .i64 0, .int .i64 0] ∧ RowKit.Below w.heap.size w wx)
  case first =>
    go_region_held3 (fun w' => w'.cell? ⟨g5, 2, none⟩ = some (.int .i64 v3))
      (first
        | go_keep
        | exact HQ6.out.q2
        | exact (HQ6.out.put3 _).q2)
      (first
        | (go_at_call 17; with_reducible (refine (HN.out 8 I4 _ (by decide) (by decide) HS5.out HBD.out).mono ?_); rintro e w6 ⟨v4, rfl, hv4, hv4', hO6, hS6⟩; have HQ6 := Lib.hid (hO6.bl HQ5.out.drew nb); have HR6 := Lib.hid (hO6.bl HR4.out.drew nb0); have HS6 := Lib.hid hS6; have HB6 := Lib.hid (HBD.out.trans (hO6.below (Nat.le_succ _))); clear hS6 hO6; have u2 := HU2.out v4 hv4 hv4'; have k3 : w6.cell? ⟨g5, 3, none⟩ = some (.int .i64 0) := HQ6.out.q3; have kz3 : w6.frozen? ⟨g5, 3, none⟩ = false := HQ6.out.free 3))
    go_wp2_with fail
    go_meet
    exact ⟨v4, _, hv4, hv4', nextI_le m I4 hI4, HQ6.out.put3 _, HS6.out.far (p := ⟨g5, 3, none⟩) nb2 _, HR6.out.far (p := ⟨g5, 3, none⟩) nb1 _, HB6.out.setCell (p := ⟨g5, 3, none⟩) (by show w.heap.size ≤ g5; omega) _⟩
  case rest =>
    obtain ⟨v4, I5, hv4, hv4', hI5, hq, hS, hr, hb⟩ := hcut
    obtain ⟨q, e1, e2, e3, e4⟩ : ∃ q : Qt, q.id = 1 + v1 ∧ q.vol = v2 ∧ q.fr = v3 ∧ q.tod = v3 + 1 + v4 := ⟨⟨_, _, _, _⟩, rfl, rfl, rfl, rfl⟩
    rw [← e1, ← e2, ← e4, ← e3] at hq
    have HQK : Hid (qOk q = true) := decide_eq_true (by omega)
    have q1 : 0 ≤ q.fr := by omega
    have q2 : q.fr ≤ 3 := by omega
    have q3 : q.fr + 1 ≤ q.tod := by omega
    have q4 : q.tod ≤ q.fr + 8 := by omega
    clear e1 e2 e3 e4 hv1 hv1' hv2 hv2' hv3 hv3' hv4 hv4' c2 c3 z3 HQ5 HR4 HB4 HS5 HBD HU2 u1 hI4 HC HSM
    go_wp2_with fail
    go_loopw [6] (fun v wx => ∃ (I : Nat) (fs : List Fct) (B : Option Addr) (k d : Nat), v = .slice B k d ∧ I ≤ m ∧ Hid (QF q fs) ∧ Hid (fs.length = k) ∧ k ≤ 24 ∧ wx.ownsRow w.heap.size 47 5 (.slice B k d) k (flat encF fs) ∧ Src wx (w.heap.size + 1) A m c I ∧ Bl wx g5 24 #[.int .i64 q.id, .int .i64 q.vol, .int .i64 q.fr, .int .i64 q.tod] ∧ Bl wx w.heap.size 24 #[.int .i64 0, .int .i64 0, .int .i64 0, .int .i64 0] ∧ RowKit.Below w.heap.size w wx) (fun _ wx => m - srcI wx (w.heap.size + 1))
    case atStart => exact ⟨I5, [], none, 0, 0, rfl, hI5, ⟨HQK.out, q2, q4, Nat.zero_le _, fun k hk => (by simp at hk), fun x hx => (by cases hx)⟩, rfl, Nat.zero_le _, ⟨rfl, .inl ⟨rfl, rfl⟩⟩, hS, hq, hr, hb⟩
    case round =>
      clear hS hq hr hb hI5
      obtain ⟨I, fs, B, k, d, rfl, hI, HF, HL, hk, ho, hS, hq, hr, hb⟩ := hrel
      have HSI := Lib.hid hS.at_
      by_cases hlt : I < m
      · have d1 : decide (I < m) = true := by simpa using hlt
        by_cases hk2 : k < 24
        · have hki : (k : Int) < 24 := by omega
          go_wp2_with fail
          refine (HLF.out I _ hS).mono ?_
          rintro e w1 ⟨rfl, p1, rfl⟩
          rw [d1]
          have ho6 := own_drewN ho p1
          have HS6 : Hid (Src (wr.drewN p1) (w.heap.size + 1) A m c I) := hS
          have HQ6 : Hid (Bl (wr.drewN p1) g5 24 #[.int .i64 q.id, .int .i64 q.vol, .int .i64 q.fr, .int .i64 q.tod]) := hq
          have HR6 : Hid (Bl (wr.drewN p1) w.heap.size 24 #[.int .i64 0, .int .i64 0, .int .i64 0, .int .i64 0]) := hr
          have HB6 : Hid (RowKit.Below w.heap.size w (wr.drewN p1)) := below_drewN hb p1
          clear d1 ho hS hq hr hb
          go_upto_region 6 with (fail)
          generalize wr.drewN p1 = W6 at *
          have HO6 := Lib.hid ho6
          have HK6 := Lib.hid (Kp.refl (w.heap.size + 1) W6)
          have c2 : W6.cell? ⟨g5, 2, none⟩ = some (.int .i64 q.fr) := HQ6.out.q2
          have c3 : W6.cell? ⟨g5, 3, none⟩ = some (.int .i64 q.tod) := HQ6.out.q3
          have l6 : g5 < W6.heap.size := Bl.lt HQ6.out
          have HUA : Hid (∀ v : Int, 0 ≤ v → v < q.tod - q.fr → IntKind.i64.wrap (q.fr + v) = q.fr + v) := fun v h1 h2 => IntWalk.i64_in _ (by omega)
          have HUB : Hid (∀ v : Int, 0 ≤ v → v < 8 → IntKind.i64.wrap (1 + v) = 1 + v) := fun v h1 h2 => IntWalk.i64_in _ (by omega)
          have HEQ : Hid (0 < q.tod - q.fr ∧ q.tod - q.fr ≤ 1000) := ⟨by omega, by omega⟩
          have HE8 : Hid ((0 : Int) < 8 ∧ (8 : Int) ≤ 1000) := ⟨by omega, by omega⟩
          have HE40 : Hid ((0 : Int) < 40 ∧ (40 : Int) ≤ 1000) := ⟨by omega, by omega⟩
          have hne6 := own_apart ho6 HS6.out (by decide)
          have HNE := Lib.hid hne6
          obtain ⟨nm, hnm⟩ : ∃ nm : Int, nm = ((k : Int) * 7 + 3) % 31 := ⟨_, rfl⟩
          have hnm1 : 0 ≤ nm := by omega
          have hnm2 : nm < 31 := by omega
          have a3 : ((k : Int) * 7 + 3).tmod 31 = nm := by rw [Int.tmod_eq_emod_of_nonneg (by omega), hnm]
          have HNM := Lib.hid hnm
          have ng5 : g5 ≠ w.heap.size + 1 := nb
          have a4 : IntKind.i64.wrap (nm + 1) = nm + 1 := IntWalk.i64_in _ (by omega)
          have a1 : IntKind.i64.wrap ((k : Int) * 7) = (k : Int) * 7 := IntWalk.i64_in _ (by omega)
          have a2 : IntKind.i64.wrap ((k : Int) * 7 + 3) = (k : Int) * 7 + 3 := IntWalk.i64_in _ (by omega)
          have a5 : IntKind.i64.wrap (q.tod - q.fr) = q.tod - q.fr := IntWalk.i64_in _ (by omega)
          have a6 : IntKind.i64.wrap nm = nm := IntWalk.i64_in _ (by omega)
          clear hnm ho6 hne6
          have HNP : Hid (∀ (k : Int) (I : Nat) (wx : World), 0 < k → k ≤ 1000 → Src wx (w.heap.size + 1) A m c I → RowKit.Below w.heap.size w wx → Kp (w.heap.size + 1) W6 wx → Calls Tryz.prog 17 #[.pointer (some ⟨w.heap.size + 1, 0, none⟩), .int .i64 k] wx fun e w' => ∃ v : Int, e = .returned (.int .i64 v) ∧ 0 ≤ v ∧ v < k ∧ Hid (Src w' (w.heap.size + 1) A m c (nextI m I)) ∧ Hid (RowKit.Below w.heap.size w w') ∧ Hid (Kp (w.heap.size + 1) W6 w') ∧ Hid (Bl w' g5 24 #[.int .i64 q.id, .int .i64 q.vol, .int .i64 q.fr, .int .i64 q.tod]) ∧ g5 < w'.heap.size) := fun k I wx k1 k2 hS hB hK => (HN.out k I wx k1 k2 hS hB).mono fun e w' ⟨v, e1, e2, e3, hO, hS'⟩ => ⟨v, e1, e2, e3, hS', hB.trans (hO.below (Nat.le_succ _)), hK.only hO, (hK.only hO).bl HQ6.out ng5, ((hK.only hO).bl HQ6.out ng5).lt⟩
          have HNZ : Hid (∀ (k : Int) (I : Nat) (wx : World) (G : Nat), 0 < k → k ≤ 1000 → Src wx (w.heap.size + 1) A m c I → RowKit.Below w.heap.size w wx → Kp (w.heap.size + 1) W6 wx → Bl wx G 47 #[.int .i64 0, .int .i64 0, .int .i64 0, .int .i64 0, .int .i64 0] → G ≠ w.heap.size + 1 → Calls Tryz.prog 17 #[.pointer (some ⟨w.heap.size + 1, 0, none⟩), .int .i64 k] wx fun e w' => (∃ v : Int, e = .returned (.int .i64 v) ∧ 0 ≤ v ∧ v < k ∧ Hid (Src w' (w.heap.size + 1) A m c (nextI m I)) ∧ Hid (RowKit.Below w.heap.size w w') ∧ Hid (Kp (w.heap.size + 1) W6 w') ∧ Hid (Bl w' g5 24 #[.int .i64 q.id, .int .i64 q.vol, .int .i64 q.fr, .int .i64 q.tod]) ∧ g5 < w'.heap.size) ∧ Hid (Bl w' G 47 #[.int .i64 0, .int .i64 0, .int .i64 0, .int .i64 0, .int .i64 0])) := fun k I wx G k1 k2 hS hB hK hZ hG => (HN.out k I wx k1 k2 hS hB).mono fun e w' ⟨v, e1, e2, e3, hO, hS'⟩ => ⟨⟨v, e1, e2, e3, hS', hB.trans (hO.below (Nat.le_succ _)), hK.only hO, (hK.only hO).bl HQ6.out ng5, ((hK.only hO).bl HQ6.out ng5).lt⟩, hO.bl hZ hG⟩
          have HNA : Hid (∀ (k : Int) (I : Nat) (wx : World), 0 < k → k ≤ 1000 → Src wx (w.heap.size + 1) A m c I → RowKit.Below w.heap.size w wx → Kp (w.heap.size + 1) W6 wx → Calls Tryz.prog 17 #[.pointer (some ⟨w.heap.size + 1, 0, none⟩), .int .i64 k] (wx.alloc (.cells #[.int .i64 0, .int .i64 0, .int .i64 0, .int .i64 0, .int .i64 0] 47)) fun e w' => (∃ v : Int, e = .returned (.int .i64 v) ∧ 0 ≤ v ∧ v < k ∧ Hid (Src w' (w.heap.size + 1) A m c (nextI m I)) ∧ Hid (RowKit.Below w.heap.size w w') ∧ Hid (Kp (w.heap.size + 1) W6 w') ∧ Hid (Bl w' g5 24 #[.int .i64 q.id, .int .i64 q.vol, .int .i64 q.fr, .int .i64 q.tod]) ∧ g5 < w'.heap.size) ∧ Hid (Bl w' wx.heap.size 47 #[.int .i64 0, .int .i64 0, .int .i64 0, .int .i64 0, .int .i64 0])) := fun k I wx k1 k2 hS hB hK => HNZ.out k I (wx.alloc (.cells #[.int .i64 0, .int .i64 0, .int .i64 0, .int .i64 0, .int .i64 0] 47)) wx.heap.size k1 k2 (hS.alloc' _) (Below.alloc' hB (Nat.le_refl _) _) (hK.alloc _) (Bl.new wx _ _) (by have := hS.lt'; omega)
          have HC1 := Lib.hid (HNP.out (q.tod - q.fr) I W6.drew HEQ.out.1 HEQ.out.2 HS6.out.drew' HB6.out.drew HK6.out.drew)
          have HC1A := Lib.hid (HNZ.out (q.tod - q.fr) I (W6.alloc (.cells #[.int .i64 0, .int .i64 0, .int .i64 0, .int .i64 0, .int .i64 0] 47)).drew W6.heap.size HEQ.out.1 HEQ.out.2 (HS6.out.alloc' _).drew' (Below.alloc' HB6.out (Nat.le_refl _) _).drew (HK6.out.alloc _).drew (Bl.new W6 _ _).drew (by have := HS6.out.lt'; omega))
          go_cut [7] (fun v wx => ∃ (g7 : Nat) (va vb vc : Int) (I7 : Nat), v = .pointer (some ⟨g7, 0, none⟩) ∧ Bl wx g7 47 #[.int .i64 (nm + 1), .int .i64 1, .int .i64 (q.fr + va), .int .i64 (1 + vb), .int .i64 vc] ∧ 0 ≤ va ∧ va < q.tod - q.fr ∧ 0 ≤ vb ∧ vb < 8 ∧ 0 ≤ vc ∧ vc < 40 ∧ W6.heap.size ≤ g7 ∧ I7 = nextI m (nextI m (nextI m I)) ∧ Src wx (w.heap.size + 1) A m c I7 ∧ Kp (w.heap.size + 1) W6 wx)
          case first =>
            clear HSI HF HL HO6
            go_region_held3 (fun w' => w'.cell? ⟨g5, 2, none⟩ = some (.int .i64 q.fr) ∧ w'.cell? ⟨g5, 3, none⟩ = some (.int .i64 q.tod))
              (first
                | with_reducible exact ⟨(HQ4.out.far5 nz _ _ _ _ _).q2, (HQ4.out.far5 nz _ _ _ _ _).q3⟩
                | with_reducible exact ⟨(HQ4.out.alloc _).q2, (HQ4.out.alloc _).q3⟩
                | with_reducible exact ⟨HQ4.out.q2, HQ4.out.q3⟩
                | with_reducible exact ⟨HQ3.out.q2, HQ3.out.q3⟩
                | with_reducible exact ⟨(HQ3.out.alloc _).q2, (HQ3.out.alloc _).q3⟩
                | with_reducible exact ⟨HQ2.out.q2, HQ2.out.q3⟩
                | with_reducible exact ⟨(HQ2.out.alloc _).q2, (HQ2.out.alloc _).q3⟩
                | go_keep)
              (first
                | (go_at_call 17; with_reducible (refine (HC1.out).mono ?_); rintro e w2 ⟨va, rfl, hvaa, hvab, HS2, HB2, HK2, HQ2, l2⟩; have ua := HUA.out va hvaa hvab)
                | (go_at_call 17; with_reducible (refine (HC1A.out).mono ?_); rintro e w2 ⟨⟨va, rfl, hvaa, hvab, HS2, HB2, HK2, HQ2, l2⟩, HZ2⟩; have nz := Nat.ne_of_lt l6; have NZG := Lib.hid (Nat.ne_of_gt (Src.lt' HS6.out)); have ua := HUA.out va hvaa hvab)
                | (go_at_call 17; with_reducible (refine (HNZ.out 8 _ _ _ HE8.out.1 HE8.out.2 HS2.out HB2.out HK2.out HZ2.out NZG.out).mono ?_); rintro e w3 ⟨⟨vb, rfl, hvba, hvbb, HS3, HB3, HK3, HQ3, l3⟩, HZ3⟩; have ub := HUB.out vb hvba hvbb)
                | (go_at_call 17; with_reducible (refine (HNP.out 8 _ _ HE8.out.1 HE8.out.2 HS2.out HB2.out HK2.out).mono ?_); rintro e w3 ⟨vb, rfl, hvba, hvbb, HS3, HB3, HK3, HQ3, l3⟩; have ub := HUB.out vb hvba hvbb)
                | (go_at_call 17; with_reducible (refine (HNA.out 8 _ _ HE8.out.1 HE8.out.2 HS2.out HB2.out HK2.out).mono ?_); rintro e w3 ⟨⟨vb, rfl, hvba, hvbb, HS3, HB3, HK3, HQ3, l3⟩, HZ3⟩; have nz := Nat.ne_of_lt l2; have NZG := Lib.hid (Nat.ne_of_gt (Src.lt' HS2.out)); have ub := HUB.out vb hvba hvbb)
                | (go_at_call 17; with_reducible (refine (HNZ.out 40 _ _ _ HE40.out.1 HE40.out.2 HS3.out HB3.out HK3.out HZ3.out NZG.out).mono ?_); rintro e w4 ⟨⟨vc, rfl, hvca, hvcb, HS4, HB4, HK4, HQ4, l4⟩, HZ4⟩; have zc0 := HZ4.out.c0; have zf0 := HZ4.out.free 0; have zc1 := HZ4.out.c1; have zf1 := HZ4.out.free 1; have zc2 := HZ4.out.c2; have zf2 := HZ4.out.free 2; have zc3 := HZ4.out.c3; have zf3 := HZ4.out.free 3; have zc4 := HZ4.out.c4; have zf4 := HZ4.out.free 4)
                | (go_at_call 17; with_reducible (refine (HNP.out 40 _ _ HE40.out.1 HE40.out.2 HS3.out HB3.out HK3.out).mono ?_); rintro e w4 ⟨vc, rfl, hvca, hvcb, HS4, HB4, HK4, HQ4, l4⟩)
                | (go_at_call 17; with_reducible (refine (HNA.out 40 _ _ HE40.out.1 HE40.out.2 HS3.out HB3.out HK3.out).mono ?_); rintro e w4 ⟨⟨vc, rfl, hvca, hvcb, HS4, HB4, HK4, HQ4, l4⟩, HZ4⟩; have nz := Nat.ne_of_lt l3; have NZG := Lib.hid (Nat.ne_of_gt (Src.lt' HS3.out)); have zc0 := HZ4.out.c0; have zf0 := HZ4.out.free 0; have zc1 := HZ4.out.c1; have zf1 := HZ4.out.free 1; have zc2 := HZ4.out.c2; have zf2 := HZ4.out.free 2; have zc3 := HZ4.out.c3; have zf3 := HZ4.out.free 3; have zc4 := HZ4.out.c4; have zf4 := HZ4.out.free 4))
            · go_wp2_with fail
              go_meet
              exact ⟨_, va, vb, vc, _, rfl, Bl.new _ _ _, hvaa, hvab, hvba, hvbb, hvca, hvcb, HK4.out.size, rfl, HS4.out.alloc' _, HK4.out.alloc _⟩
            · go_wp2_with fail
              go_meet
              exact ⟨_, va, vb, vc, _, rfl, set5_bl HZ4.out _ _ _ _ _, hvaa, hvab, hvba, hvbb, hvca, hvcb, HK3.out.size, rfl, HS4.out.far5 (fun e => NZG.out e.symm) _ _ _ _ _, HK4.out.set5 HK3.out.size _ _ _ _ _⟩
            · go_wp2_with fail
              go_meet
              exact ⟨_, va, vb, vc, _, rfl, set5_bl HZ4.out _ _ _ _ _, hvaa, hvab, hvba, hvbb, hvca, hvcb, HK2.out.size, rfl, HS4.out.far5 (fun e => NZG.out e.symm) _ _ _ _ _, HK4.out.set5 HK2.out.size _ _ _ _ _⟩
            · go_wp2_with fail
              go_meet
              exact ⟨_, va, vb, vc, _, rfl, set5_bl HZ4.out _ _ _ _ _, hvaa, hvab, hvba, hvbb, hvca, hvcb, Nat.le_refl _, rfl, HS4.out.far5 (fun e => NZG.out e.symm) _ _ _ _ _, HK4.out.set5 (Nat.le_refl _) _ _ _ _ _⟩
          case rest =>
            obtain ⟨g7, va, vb, vc, I7, rfl, hx7, hva, hva', hvb, hvb', hvc, hvc', hg7, hI7e, hS7, hK7⟩ := hcut
            have hI7 : I < I7 ∧ I7 ≤ m := by
              have e1 := nextI_lt m I hlt
              have e2 := nextI_ge m (nextI m I)
              have e3 := nextI_ge m (nextI m (nextI m I))
              have e4 := nextI_le m _ (nextI_le m _ (nextI_le m I hI))
              omega
            have ho7 : wc.ownsRow w.heap.size 47 5 (.slice B k d) k (flat encF fs) := own_of_block HO6.out (fun j hj => hK7.block j (own_lt HO6.out j hj) (fun e => HNE.out (by rw [hj, e])))
            have hq7 := hK7.bl HQ6.out ng5
            have hr7 := hK7.bl HR6.out nb0
            have hB7 : RowKit.Below w.heap.size w wc := hK7.under HB6.out (HB6.out.size) (by omega)
            have hob : ∀ j, (Value.slice B k d).ownBlock = some j → j ≠ g7 := fun j hj e => by have := own_lt HO6.out j hj; omega
            have hs6 : w.heap.size + 1 < g7 := Nat.lt_of_lt_of_le HS6.out.lt' hg7
            have hg57 : g5 < g7 := Nat.lt_of_lt_of_le l6 hg7
            clear hI7e hK7 HNP HNZ HNA HC1 HC1A HUA HUB HEQ HE8 HE40 a1 a2 a3 a4 a5 a6 c2 c3 HO6 HQ6 HR6 HB6 HK6 hg7 HNE HS6 l6
            go_wp2_with fail
            refine (HN.out 8 I7 _ (by omega) (by omega) hS7 hB7).mono ?_
            rintro e w8 ⟨vd, rfl, hvd, hvd', hO8, hS8⟩
            have hI8 : I < nextI m I7 ∧ nextI m I7 ≤ m := ⟨by have := nextI_ge m I7; omega, nextI_le m I7 hI7.2⟩
            have hx8 := hO8.bl hx7 (by omega)
            have hq8 := hO8.bl hq7 nb
            have hr8 := hO8.bl hr7 nb0
            have hne8 := own_apart ho7 hS7 (by decide)
            have ho8 := own_keep ho7 hO8 hne8
            have hB8 := hB7.trans (hO8.below (by omega))
            clear hx7 hS7 ho7 hq7 hr7 hB7 hO8 hI7
            generalize nextI m I7 = I8 at *
            have y1 : w8.cell? ⟨g7, 1, none⟩ = some (.int .i64 1) := hx8.c1
            have y2 : w8.cell? ⟨g7, 2, none⟩ = some (.int .i64 (q.fr + va)) := hx8.c2
            have y3 : w8.cell? ⟨g7, 3, none⟩ = some (.int .i64 (1 + vb)) := hx8.c3
            have yf1 : w8.frozen? ⟨g7, 1, none⟩ = false := hx8.free 1
            have yf2 : w8.frozen? ⟨g7, 2, none⟩ = false := hx8.free 2
            have yf3 : w8.frozen? ⟨g7, 3, none⟩ = false := hx8.free 3
            rcases (show vd = 5 ∨ vd = 6 ∨ vd = 7 ∨ (vd ≠ 5 ∧ vd ≠ 6 ∧ vd ≠ 7) by omega) with g | g | g | g
            · have b5 : (vd == 5) = true := by simpa using g
              clear g
              go_wp2_with fail
              refine (HN.out 20 I8 _ (by omega) (by omega) hS8 hB8).mono ?_
              rintro e w9 ⟨ve, rfl, hve, hve', hO9, hS9'⟩
              have hI9 : I < nextI m I8 ∧ nextI m I8 ≤ m := ⟨by have := nextI_ge m I8; omega, nextI_le m I8 hI8.2⟩
              have hx9' := hO9.bl hx8 (by omega)
              have hq9' := hO9.bl hq8 nb
              have hr9' := hO9.bl hr8 nb0
              have ho9' := own_keep ho8 hO9 hne8
              have hB9' := hB8.trans (hO9.below (by omega))
              clear y1 y2 y3 yf1 yf2 yf3 hx8 hq8 hr8 ho8 hB8 hO9 hS8
              generalize nextI m I8 = I9 at *
              have y1 : w9.cell? ⟨g7, 1, none⟩ = some (.int .i64 1) := hx9'.c1
              have y2 : w9.cell? ⟨g7, 2, none⟩ = some (.int .i64 (q.fr + va)) := hx9'.c2
              have yf1 : w9.frozen? ⟨g7, 1, none⟩ = false := hx9'.free 1
              have yf2 : w9.frozen? ⟨g7, 2, none⟩ = false := hx9'.free 2
              go_upto_region 14 with (fail)
              have hx9 : Bl ((w9.setCell ⟨g7, 1, none⟩ (.int .i64 2)).setCell ⟨g7, 2, none⟩ (.int .i64 ve)) g7 47 #[.int .i64 (nm + 1), .int .i64 2, .int .i64 ve, .int .i64 (1 + vb), .int .i64 vc] := by have := (hx9'.put 1 (.int .i64 2)).put 2 (.int .i64 ve); simpa using this
              have hS9 : Src ((w9.setCell ⟨g7, 1, none⟩ (.int .i64 2)).setCell ⟨g7, 2, none⟩ (.int .i64 ve)) (w.heap.size + 1) A m c I9 := Bl.far (p := ⟨g7, 2, none⟩) (Bl.far (p := ⟨g7, 1, none⟩) hS9' (by show _ ≠ g7; omega) _) (by show _ ≠ g7; omega) _
              have hq9 := (hq9'.far (p := ⟨g7, 1, none⟩) (by show _ ≠ g7; omega) (.int .i64 2)).far (p := ⟨g7, 2, none⟩) (by show _ ≠ g7; omega) (.int .i64 ve)
              have hr9 := (hr9'.far (p := ⟨g7, 1, none⟩) (by show _ ≠ g7; omega) (.int .i64 2)).far (p := ⟨g7, 2, none⟩) (by show _ ≠ g7; omega) (.int .i64 ve)
              have hB9 := (hB9'.setCell (p := ⟨g7, 1, none⟩) (by show _ ≤ g7; omega) (.int .i64 2)).setCell (p := ⟨g7, 2, none⟩) (by show _ ≤ g7; omega) (.int .i64 ve)
              have ho9 := own_of_block (w' := (w9.setCell ⟨g7, 1, none⟩ (.int .i64 2)).setCell ⟨g7, 2, none⟩ (.int .i64 ve)) ho9' fun j hj => (Below.heap_setCell _ ⟨g7, 2, none⟩ _ j (hob j hj)).trans (Below.heap_setCell _ ⟨g7, 1, none⟩ _ j (hob j hj))
              clear hx9' hS9' hq9' hr9' hB9' ho9' y1 y2 yf1 yf2
              generalize (w9.setCell ⟨g7, 1, none⟩ (.int .i64 2)).setCell ⟨g7, 2, none⟩ (.int .i64 ve) = W9 at *
              have HXQ : Hid (QF q (fs ++ [(⟨nm + 1, 2, ve, (1 + vb), vc⟩ : Fct)])) := HF.out.snoc (by rw [HL.out]; exact hk2) (by show nm + 1 = _; rw [HNM.out, HL.out]) (fErr_made HQK.out (by show 1 ≤ nm + 1; omega) (by show nm + 1 ≤ 31; omega) (by show (1 : Int) ≤ 2; omega) (by show (2 : Int) ≤ 4; omega) (by show 0 ≤ ve; omega) (by show ve ≤ 36524; omega) (by show 0 ≤ vc; omega) (by show vc ≤ 1000000000; omega) (by show (2 : Int) = 4 → (1 + vb) = 0; omega) (by show (2 : Int) ≠ 4 → 1 ≤ (1 + vb) ∧ (1 + vb) ≤ 1000000; omega) (by show (2 : Int) = 1 ∨ (2 : Int) = 4 → q.fr ≤ ve ∧ ve < q.tod; omega)) (by show nm + 1 ≤ 31; omega) (by show (1 + vb) ≤ 8; omega) (by show vc < 40; omega)
              have HLX : Hid ((fs ++ [(⟨nm + 1, 2, ve, (1 + vb), vc⟩ : Fct)]).length = k + 1) := by show _ = _; rw [List.length_append, HL.out]; rfl
              have HOE := Lib.hid (own_alloc ho9 (.cells #[.int .i64 (nm + 1), .int .i64 2, .int .i64 ve, .int .i64 (1 + vb), .int .i64 vc] 47))
              have HRD : Hid (Rd (W9.alloc (.cells #[.int .i64 (nm + 1), .int .i64 2, .int .i64 ve, .int .i64 (1 + vb), .int .i64 vc] 47)) 5 (some ⟨W9.heap.size, 0, none⟩) 1 (encF (⟨nm + 1, 2, ve, (1 + vb), vc⟩ : Fct))) := rd_new W9 47 (encF (⟨nm + 1, 2, ve, (1 + vb), vc⟩ : Fct))
              have HON : Hid (∀ u ∈ encF (⟨nm + 1, 2, ve, (1 + vb), vc⟩ : Fct), u.oneCell' = true) := encF_one _
              have HM1 : Hid (k + 1 ≤ maxLen ∧ (k + 1) * 40 ≤ 140737488355328) := ⟨by unfold maxLen; omega, by omega⟩
              have HBA : Hid (RowKit.Below w.heap.size w (W9.alloc (.cells #[.int .i64 (nm + 1), .int .i64 2, .int .i64 ve, .int .i64 (1 + vb), .int .i64 vc] 47))) := hB9.alloc hB9.size _
              have HNS := Lib.hid (own_apart HOE.out (hS9.alloc' (.cells #[.int .i64 (nm + 1), .int .i64 2, .int .i64 ve, .int .i64 (1 + vb), .int .i64 vc] 47)) (by decide))
              have HNQ := Lib.hid (own_apart HOE.out (hq9.alloc (.cells #[.int .i64 (nm + 1), .int .i64 2, .int .i64 ve, .int .i64 (1 + vb), .int .i64 vc] 47)) (by decide))
              have HNR := Lib.hid (own_apart HOE.out (hr9.alloc (.cells #[.int .i64 (nm + 1), .int .i64 2, .int .i64 ve, .int .i64 (1 + vb), .int .i64 vc] 47)) (by decide))
              have HS9 := Lib.hid (hS9.alloc' (.cells #[.int .i64 (nm + 1), .int .i64 2, .int .i64 ve, .int .i64 (1 + vb), .int .i64 vc] 47))
              have HQ9 := Lib.hid (hq9.alloc (.cells #[.int .i64 (nm + 1), .int .i64 2, .int .i64 ve, .int .i64 (1 + vb), .int .i64 vc] 47))
              have HR9 := Lib.hid (hr9.alloc (.cells #[.int .i64 (nm + 1), .int .i64 2, .int .i64 ve, .int .i64 (1 + vb), .int .i64 vc] 47))
              have HOB := Lib.hid (fun j hj => own_base ho9 j hj)
              have k0 : W9.cell? ⟨g7, 0, none⟩ = some (.int .i64 (nm + 1)) := hx9.c0
              have k1 : W9.cell? ⟨g7, 1, none⟩ = some (.int .i64 2) := hx9.c1
              have k2 : W9.cell? ⟨g7, 2, none⟩ = some (.int .i64 ve) := hx9.c2
              have k3 : W9.cell? ⟨g7, 3, none⟩ = some (.int .i64 (1 + vb)) := hx9.c3
              have k4 : W9.cell? ⟨g7, 4, none⟩ = some (.int .i64 vc) := hx9.c4
              clear ho9 hS9 hq9 hr9 hB9 hx9
              go_wp2_with (at_builtin; refine wpList_append_rd _ rfl (.tmp 74) (.tmp 76) 25 rfl w.heap.size 47 _ 5 40 Tryz.underlying25 infoF rfl (by decide) (.slice B k d) k (flat encF fs) rfl HOE.out (some ⟨W9.heap.size, 0, none⟩) 1 _ (encF (⟨nm + 1, 2, ve, (1 + vb), vc⟩ : Fct)) rfl HRD.out HON.out HM1.out.1 HM1.out.2 HBA.out.size ?_; intro v6 w6 ho6 hg6 _; obtain ⟨B6, d6, rfl⟩ := own_slice ho6)
              have HS6 : Hid (Src w6 (w.heap.size + 1) A m c I9) := (hg6.block _ HS9.out.lt' HNS.out).trans HS9.out
              have HQ6 : Hid (Bl w6 g5 24 #[.int .i64 q.id, .int .i64 q.vol, .int .i64 q.fr, .int .i64 q.tod]) := (hg6.block _ HQ9.out.lt HNQ.out).trans HQ9.out
              have HR6 : Hid (Bl w6 w.heap.size 24 #[.int .i64 0, .int .i64 0, .int .i64 0, .int .i64 0]) := (hg6.block _ HR9.out.lt HNR.out).trans HR9.out
              have HB6 : Hid (RowKit.Below w.heap.size w w6) := HBA.out.grown hg6 HBA.out.size (fun j hj => HOB.out j hj)
              have HO6 : Hid (w6.ownsRow w.heap.size 47 5 (.slice B6 (k + 1) d6) (k + 1) (flat encF (fs ++ [(⟨nm + 1, 2, ve, (1 + vb), vc⟩ : Fct)]))) := by
                show World.ownsRow _ _ _ _ _ _ _
                rw [flat_append, flat_one]
                exact ho6
              clear ho6 hg6
              go_roundw
              case rel => exact ⟨I9, _, B6, k + 1, d6, rfl, hI9.2, HXQ, HLX, by omega, HO6.out, HS6.out, HQ6.out, HR6.out, HB6.out⟩
              case measure => rw [HS6.out.at_, HSI.out]; omega
            · have b5 : (vd == 5) = false := by simp; omega
              have b6 : (vd == 6) = true := by simpa using g
              clear g
              go_wp2_with fail
              refine (HN.out 20 I8 _ (by omega) (by omega) hS8 hB8).mono ?_
              rintro e w9 ⟨ve, rfl, hve, hve', hO9, hS9'⟩
              have hI9 : I < nextI m I8 ∧ nextI m I8 ≤ m := ⟨by have := nextI_ge m I8; omega, nextI_le m I8 hI8.2⟩
              have hx9' := hO9.bl hx8 (by omega)
              have hq9' := hO9.bl hq8 nb
              have hr9' := hO9.bl hr8 nb0
              have ho9' := own_keep ho8 hO9 hne8
              have hB9' := hB8.trans (hO9.below (by omega))
              clear y1 y2 y3 yf1 yf2 yf3 hx8 hq8 hr8 ho8 hB8 hO9 hS8
              generalize nextI m I8 = I9 at *
              have y1 : w9.cell? ⟨g7, 1, none⟩ = some (.int .i64 1) := hx9'.c1
              have y2 : w9.cell? ⟨g7, 2, none⟩ = some (.int .i64 (q.fr + va)) := hx9'.c2
              have yf1 : w9.frozen? ⟨g7, 1, none⟩ = false := hx9'.free 1
              have yf2 : w9.frozen? ⟨g7, 2, none⟩ = false := hx9'.free 2
              go_upto_region 14 with (fail)
              have hx9 : Bl ((w9.setCell ⟨g7, 1, none⟩ (.int .i64 3)).setCell ⟨g7, 2, none⟩ (.int .i64 ve)) g7 47 #[.int .i64 (nm + 1), .int .i64 3, .int .i64 ve, .int .i64 (1 + vb), .int .i64 vc] := by have := (hx9'.put 1 (.int .i64 3)).put 2 (.int .i64 ve); simpa using this
              have hS9 : Src ((w9.setCell ⟨g7, 1, none⟩ (.int .i64 3)).setCell ⟨g7, 2, none⟩ (.int .i64 ve)) (w.heap.size + 1) A m c I9 := Bl.far (p := ⟨g7, 2, none⟩) (Bl.far (p := ⟨g7, 1, none⟩) hS9' (by show _ ≠ g7; omega) _) (by show _ ≠ g7; omega) _
              have hq9 := (hq9'.far (p := ⟨g7, 1, none⟩) (by show _ ≠ g7; omega) (.int .i64 3)).far (p := ⟨g7, 2, none⟩) (by show _ ≠ g7; omega) (.int .i64 ve)
              have hr9 := (hr9'.far (p := ⟨g7, 1, none⟩) (by show _ ≠ g7; omega) (.int .i64 3)).far (p := ⟨g7, 2, none⟩) (by show _ ≠ g7; omega) (.int .i64 ve)
              have hB9 := (hB9'.setCell (p := ⟨g7, 1, none⟩) (by show _ ≤ g7; omega) (.int .i64 3)).setCell (p := ⟨g7, 2, none⟩) (by show _ ≤ g7; omega) (.int .i64 ve)
              have ho9 := own_of_block (w' := (w9.setCell ⟨g7, 1, none⟩ (.int .i64 3)).setCell ⟨g7, 2, none⟩ (.int .i64 ve)) ho9' fun j hj => (Below.heap_setCell _ ⟨g7, 2, none⟩ _ j (hob j hj)).trans (Below.heap_setCell _ ⟨g7, 1, none⟩ _ j (hob j hj))
              clear hx9' hS9' hq9' hr9' hB9' ho9' y1 y2 yf1 yf2
              generalize (w9.setCell ⟨g7, 1, none⟩ (.int .i64 3)).setCell ⟨g7, 2, none⟩ (.int .i64 ve) = W9 at *
              have HXQ : Hid (QF q (fs ++ [(⟨nm + 1, 3, ve, (1 + vb), vc⟩ : Fct)])) := HF.out.snoc (by rw [HL.out]; exact hk2) (by show nm + 1 = _; rw [HNM.out, HL.out]) (fErr_made HQK.out (by show 1 ≤ nm + 1; omega) (by show nm + 1 ≤ 31; omega) (by show (1 : Int) ≤ 3; omega) (by show (3 : Int) ≤ 4; omega) (by show 0 ≤ ve; omega) (by show ve ≤ 36524; omega) (by show 0 ≤ vc; omega) (by show vc ≤ 1000000000; omega) (by show (3 : Int) = 4 → (1 + vb) = 0; omega) (by show (3 : Int) ≠ 4 → 1 ≤ (1 + vb) ∧ (1 + vb) ≤ 1000000; omega) (by show (3 : Int) = 1 ∨ (3 : Int) = 4 → q.fr ≤ ve ∧ ve < q.tod; omega)) (by show nm + 1 ≤ 31; omega) (by show (1 + vb) ≤ 8; omega) (by show vc < 40; omega)
              have HLX : Hid ((fs ++ [(⟨nm + 1, 3, ve, (1 + vb), vc⟩ : Fct)]).length = k + 1) := by show _ = _; rw [List.length_append, HL.out]; rfl
              have HOE := Lib.hid (own_alloc ho9 (.cells #[.int .i64 (nm + 1), .int .i64 3, .int .i64 ve, .int .i64 (1 + vb), .int .i64 vc] 47))
              have HRD : Hid (Rd (W9.alloc (.cells #[.int .i64 (nm + 1), .int .i64 3, .int .i64 ve, .int .i64 (1 + vb), .int .i64 vc] 47)) 5 (some ⟨W9.heap.size, 0, none⟩) 1 (encF (⟨nm + 1, 3, ve, (1 + vb), vc⟩ : Fct))) := rd_new W9 47 (encF (⟨nm + 1, 3, ve, (1 + vb), vc⟩ : Fct))
              have HON : Hid (∀ u ∈ encF (⟨nm + 1, 3, ve, (1 + vb), vc⟩ : Fct), u.oneCell' = true) := encF_one _
              have HM1 : Hid (k + 1 ≤ maxLen ∧ (k + 1) * 40 ≤ 140737488355328) := ⟨by unfold maxLen; omega, by omega⟩
              have HBA : Hid (RowKit.Below w.heap.size w (W9.alloc (.cells #[.int .i64 (nm + 1), .int .i64 3, .int .i64 ve, .int .i64 (1 + vb), .int .i64 vc] 47))) := hB9.alloc hB9.size _
              have HNS := Lib.hid (own_apart HOE.out (hS9.alloc' (.cells #[.int .i64 (nm + 1), .int .i64 3, .int .i64 ve, .int .i64 (1 + vb), .int .i64 vc] 47)) (by decide))
              have HNQ := Lib.hid (own_apart HOE.out (hq9.alloc (.cells #[.int .i64 (nm + 1), .int .i64 3, .int .i64 ve, .int .i64 (1 + vb), .int .i64 vc] 47)) (by decide))
              have HNR := Lib.hid (own_apart HOE.out (hr9.alloc (.cells #[.int .i64 (nm + 1), .int .i64 3, .int .i64 ve, .int .i64 (1 + vb), .int .i64 vc] 47)) (by decide))
              have HS9 := Lib.hid (hS9.alloc' (.cells #[.int .i64 (nm + 1), .int .i64 3, .int .i64 ve, .int .i64 (1 + vb), .int .i64 vc] 47))
              have HQ9 := Lib.hid (hq9.alloc (.cells #[.int .i64 (nm + 1), .int .i64 3, .int .i64 ve, .int .i64 (1 + vb), .int .i64 vc] 47))
              have HR9 := Lib.hid (hr9.alloc (.cells #[.int .i64 (nm + 1), .int .i64 3, .int .i64 ve, .int .i64 (1 + vb), .int .i64 vc] 47))
              have HOB := Lib.hid (fun j hj => own_base ho9 j hj)
              have k0 : W9.cell? ⟨g7, 0, none⟩ = some (.int .i64 (nm + 1)) := hx9.c0
              have k1 : W9.cell? ⟨g7, 1, none⟩ = some (.int .i64 3) := hx9.c1
              have k2 : W9.cell? ⟨g7, 2, none⟩ = some (.int .i64 ve) := hx9.c2
              have k3 : W9.cell? ⟨g7, 3, none⟩ = some (.int .i64 (1 + vb)) := hx9.c3
              have k4 : W9.cell? ⟨g7, 4, none⟩ = some (.int .i64 vc) := hx9.c4
              clear ho9 hS9 hq9 hr9 hB9 hx9
              go_wp2_with (at_builtin; refine wpList_append_rd _ rfl (.tmp 74) (.tmp 76) 25 rfl w.heap.size 47 _ 5 40 Tryz.underlying25 infoF rfl (by decide) (.slice B k d) k (flat encF fs) rfl HOE.out (some ⟨W9.heap.size, 0, none⟩) 1 _ (encF (⟨nm + 1, 3, ve, (1 + vb), vc⟩ : Fct)) rfl HRD.out HON.out HM1.out.1 HM1.out.2 HBA.out.size ?_; intro v6 w6 ho6 hg6 _; obtain ⟨B6, d6, rfl⟩ := own_slice ho6)
              have HS6 : Hid (Src w6 (w.heap.size + 1) A m c I9) := (hg6.block _ HS9.out.lt' HNS.out).trans HS9.out
              have HQ6 : Hid (Bl w6 g5 24 #[.int .i64 q.id, .int .i64 q.vol, .int .i64 q.fr, .int .i64 q.tod]) := (hg6.block _ HQ9.out.lt HNQ.out).trans HQ9.out
              have HR6 : Hid (Bl w6 w.heap.size 24 #[.int .i64 0, .int .i64 0, .int .i64 0, .int .i64 0]) := (hg6.block _ HR9.out.lt HNR.out).trans HR9.out
              have HB6 : Hid (RowKit.Below w.heap.size w w6) := HBA.out.grown hg6 HBA.out.size (fun j hj => HOB.out j hj)
              have HO6 : Hid (w6.ownsRow w.heap.size 47 5 (.slice B6 (k + 1) d6) (k + 1) (flat encF (fs ++ [(⟨nm + 1, 3, ve, (1 + vb), vc⟩ : Fct)]))) := by
                show World.ownsRow _ _ _ _ _ _ _
                rw [flat_append, flat_one]
                exact ho6
              clear ho6 hg6
              go_roundw
              case rel => exact ⟨I9, _, B6, k + 1, d6, rfl, hI9.2, HXQ, HLX, by omega, HO6.out, HS6.out, HQ6.out, HR6.out, HB6.out⟩
              case measure => rw [HS6.out.at_, HSI.out]; omega
            · have b5 : (vd == 5) = false := by simp; omega
              have b6 : (vd == 6) = false := by simp; omega
              have b7 : (vd == 7) = true := by simpa using g
              clear g
              go_upto_region 14 with (fail)
              have hI9 := hI8
              have hx9 : Bl ((w8.setCell ⟨g7, 1, none⟩ (.int .i64 4)).setCell ⟨g7, 3, none⟩ (.int .i64 0)) g7 47 #[.int .i64 (nm + 1), .int .i64 4, .int .i64 (q.fr + va), .int .i64 0, .int .i64 vc] := by have := (hx8.put 1 (.int .i64 4)).put 3 (.int .i64 0); simpa using this
              have hS9 : Src ((w8.setCell ⟨g7, 1, none⟩ (.int .i64 4)).setCell ⟨g7, 3, none⟩ (.int .i64 0)) (w.heap.size + 1) A m c I8 := Bl.far (p := ⟨g7, 3, none⟩) (Bl.far (p := ⟨g7, 1, none⟩) hS8 (by show _ ≠ g7; omega) _) (by show _ ≠ g7; omega) _
              have hq9 := (hq8.far (p := ⟨g7, 1, none⟩) (by show _ ≠ g7; omega) (.int .i64 4)).far (p := ⟨g7, 3, none⟩) (by show _ ≠ g7; omega) (.int .i64 0)
              have hr9 := (hr8.far (p := ⟨g7, 1, none⟩) (by show _ ≠ g7; omega) (.int .i64 4)).far (p := ⟨g7, 3, none⟩) (by show _ ≠ g7; omega) (.int .i64 0)
              have hB9 := (hB8.setCell (p := ⟨g7, 1, none⟩) (by show _ ≤ g7; omega) (.int .i64 4)).setCell (p := ⟨g7, 3, none⟩) (by show _ ≤ g7; omega) (.int .i64 0)
              have ho9 := own_of_block (w' := (w8.setCell ⟨g7, 1, none⟩ (.int .i64 4)).setCell ⟨g7, 3, none⟩ (.int .i64 0)) ho8 fun j hj => (Below.heap_setCell _ ⟨g7, 3, none⟩ _ j (hob j hj)).trans (Below.heap_setCell _ ⟨g7, 1, none⟩ _ j (hob j hj))
              clear hx8 hS8 hq8 hr8 hB8 ho8 y1 y2 y3 yf1 yf2 yf3
              generalize (w8.setCell ⟨g7, 1, none⟩ (.int .i64 4)).setCell ⟨g7, 3, none⟩ (.int .i64 0) = W9 at *
              generalize I8 = I9 at *
              have HXQ : Hid (QF q (fs ++ [(⟨nm + 1, 4, (q.fr + va), 0, vc⟩ : Fct)])) := HF.out.snoc (by rw [HL.out]; exact hk2) (by show nm + 1 = _; rw [HNM.out, HL.out]) (fErr_made HQK.out (by show 1 ≤ nm + 1; omega) (by show nm + 1 ≤ 31; omega) (by show (1 : Int) ≤ 4; omega) (by show (4 : Int) ≤ 4; omega) (by show 0 ≤ (q.fr + va); omega) (by show (q.fr + va) ≤ 36524; omega) (by show 0 ≤ vc; omega) (by show vc ≤ 1000000000; omega) (by show (4 : Int) = 4 → 0 = 0; omega) (by show (4 : Int) ≠ 4 → 1 ≤ 0 ∧ 0 ≤ 1000000; omega) (by show (4 : Int) = 1 ∨ (4 : Int) = 4 → q.fr ≤ (q.fr + va) ∧ (q.fr + va) < q.tod; omega)) (by show nm + 1 ≤ 31; omega) (by show 0 ≤ 8; omega) (by show vc < 40; omega)
              have HLX : Hid ((fs ++ [(⟨nm + 1, 4, (q.fr + va), 0, vc⟩ : Fct)]).length = k + 1) := by show _ = _; rw [List.length_append, HL.out]; rfl
              have HOE := Lib.hid (own_alloc ho9 (.cells #[.int .i64 (nm + 1), .int .i64 4, .int .i64 (q.fr + va), .int .i64 0, .int .i64 vc] 47))
              have HRD : Hid (Rd (W9.alloc (.cells #[.int .i64 (nm + 1), .int .i64 4, .int .i64 (q.fr + va), .int .i64 0, .int .i64 vc] 47)) 5 (some ⟨W9.heap.size, 0, none⟩) 1 (encF (⟨nm + 1, 4, (q.fr + va), 0, vc⟩ : Fct))) := rd_new W9 47 (encF (⟨nm + 1, 4, (q.fr + va), 0, vc⟩ : Fct))
              have HON : Hid (∀ u ∈ encF (⟨nm + 1, 4, (q.fr + va), 0, vc⟩ : Fct), u.oneCell' = true) := encF_one _
              have HM1 : Hid (k + 1 ≤ maxLen ∧ (k + 1) * 40 ≤ 140737488355328) := ⟨by unfold maxLen; omega, by omega⟩
              have HBA : Hid (RowKit.Below w.heap.size w (W9.alloc (.cells #[.int .i64 (nm + 1), .int .i64 4, .int .i64 (q.fr + va), .int .i64 0, .int .i64 vc] 47))) := hB9.alloc hB9.size _
              have HNS := Lib.hid (own_apart HOE.out (hS9.alloc' (.cells #[.int .i64 (nm + 1), .int .i64 4, .int .i64 (q.fr + va), .int .i64 0, .int .i64 vc] 47)) (by decide))
              have HNQ := Lib.hid (own_apart HOE.out (hq9.alloc (.cells #[.int .i64 (nm + 1), .int .i64 4, .int .i64 (q.fr + va), .int .i64 0, .int .i64 vc] 47)) (by decide))
              have HNR := Lib.hid (own_apart HOE.out (hr9.alloc (.cells #[.int .i64 (nm + 1), .int .i64 4, .int .i64 (q.fr + va), .int .i64 0, .int .i64 vc] 47)) (by decide))
              have HS9 := Lib.hid (hS9.alloc' (.cells #[.int .i64 (nm + 1), .int .i64 4, .int .i64 (q.fr + va), .int .i64 0, .int .i64 vc] 47))
              have HQ9 := Lib.hid (hq9.alloc (.cells #[.int .i64 (nm + 1), .int .i64 4, .int .i64 (q.fr + va), .int .i64 0, .int .i64 vc] 47))
              have HR9 := Lib.hid (hr9.alloc (.cells #[.int .i64 (nm + 1), .int .i64 4, .int .i64 (q.fr + va), .int .i64 0, .int .i64 vc] 47))
              have HOB := Lib.hid (fun j hj => own_base ho9 j hj)
              have k0 : W9.cell? ⟨g7, 0, none⟩ = some (.int .i64 (nm + 1)) := hx9.c0
              have k1 : W9.cell? ⟨g7, 1, none⟩ = some (.int .i64 4) := hx9.c1
              have k2 : W9.cell? ⟨g7, 2, none⟩ = some (.int .i64 (q.fr + va)) := hx9.c2
              have k3 : W9.cell? ⟨g7, 3, none⟩ = some (.int .i64 0) := hx9.c3
              have k4 : W9.cell? ⟨g7, 4, none⟩ = some (.int .i64 vc) := hx9.c4
              clear ho9 hS9 hq9 hr9 hB9 hx9
              go_wp2_with (at_builtin; refine wpList_append_rd _ rfl (.tmp 74) (.tmp 76) 25 rfl w.heap.size 47 _ 5 40 Tryz.underlying25 infoF rfl (by decide) (.slice B k d) k (flat encF fs) rfl HOE.out (some ⟨W9.heap.size, 0, none⟩) 1 _ (encF (⟨nm + 1, 4, (q.fr + va), 0, vc⟩ : Fct)) rfl HRD.out HON.out HM1.out.1 HM1.out.2 HBA.out.size ?_; intro v6 w6 ho6 hg6 _; obtain ⟨B6, d6, rfl⟩ := own_slice ho6)
              have HS6 : Hid (Src w6 (w.heap.size + 1) A m c I9) := (hg6.block _ HS9.out.lt' HNS.out).trans HS9.out
              have HQ6 : Hid (Bl w6 g5 24 #[.int .i64 q.id, .int .i64 q.vol, .int .i64 q.fr, .int .i64 q.tod]) := (hg6.block _ HQ9.out.lt HNQ.out).trans HQ9.out
              have HR6 : Hid (Bl w6 w.heap.size 24 #[.int .i64 0, .int .i64 0, .int .i64 0, .int .i64 0]) := (hg6.block _ HR9.out.lt HNR.out).trans HR9.out
              have HB6 : Hid (RowKit.Below w.heap.size w w6) := HBA.out.grown hg6 HBA.out.size (fun j hj => HOB.out j hj)
              have HO6 : Hid (w6.ownsRow w.heap.size 47 5 (.slice B6 (k + 1) d6) (k + 1) (flat encF (fs ++ [(⟨nm + 1, 4, (q.fr + va), 0, vc⟩ : Fct)]))) := by
                show World.ownsRow _ _ _ _ _ _ _
                rw [flat_append, flat_one]
                exact ho6
              clear ho6 hg6
              go_roundw
              case rel => exact ⟨I9, _, B6, k + 1, d6, rfl, hI9.2, HXQ, HLX, by omega, HO6.out, HS6.out, HQ6.out, HR6.out, HB6.out⟩
              case measure => rw [HS6.out.at_, HSI.out]; omega
            · have b5 : (vd == 5) = false := by simp; omega
              have b6 : (vd == 6) = false := by simp; omega
              have b7 : (vd == 7) = false := by simp; omega
              clear g
              go_upto_region 14 with (fail)
              have hI9 := hI8
              have hx9 := hx8
              have hS9 := hS8
              have hq9 := hq8
              have hr9 := hr8
              have hB9 := hB8
              have ho9 := ho8
              clear hx8 hS8 hq8 hr8 hB8 ho8 y1 y2 y3 yf1 yf2 yf3
              generalize I8 = I9 at *
              have HXQ : Hid (QF q (fs ++ [(⟨nm + 1, 1, (q.fr + va), (1 + vb), vc⟩ : Fct)])) := HF.out.snoc (by rw [HL.out]; exact hk2) (by show nm + 1 = _; rw [HNM.out, HL.out]) (fErr_made HQK.out (by show 1 ≤ nm + 1; omega) (by show nm + 1 ≤ 31; omega) (by show (1 : Int) ≤ 1; omega) (by show (1 : Int) ≤ 4; omega) (by show 0 ≤ (q.fr + va); omega) (by show (q.fr + va) ≤ 36524; omega) (by show 0 ≤ vc; omega) (by show vc ≤ 1000000000; omega) (by show (1 : Int) = 4 → (1 + vb) = 0; omega) (by show (1 : Int) ≠ 4 → 1 ≤ (1 + vb) ∧ (1 + vb) ≤ 1000000; omega) (by show (1 : Int) = 1 ∨ (1 : Int) = 4 → q.fr ≤ (q.fr + va) ∧ (q.fr + va) < q.tod; omega)) (by show nm + 1 ≤ 31; omega) (by show (1 + vb) ≤ 8; omega) (by show vc < 40; omega)
              have HLX : Hid ((fs ++ [(⟨nm + 1, 1, (q.fr + va), (1 + vb), vc⟩ : Fct)]).length = k + 1) := by show _ = _; rw [List.length_append, HL.out]; rfl
              have HOE := Lib.hid (own_alloc ho9 (.cells #[.int .i64 (nm + 1), .int .i64 1, .int .i64 (q.fr + va), .int .i64 (1 + vb), .int .i64 vc] 47))
              have HRD : Hid (Rd (w8.alloc (.cells #[.int .i64 (nm + 1), .int .i64 1, .int .i64 (q.fr + va), .int .i64 (1 + vb), .int .i64 vc] 47)) 5 (some ⟨w8.heap.size, 0, none⟩) 1 (encF (⟨nm + 1, 1, (q.fr + va), (1 + vb), vc⟩ : Fct))) := rd_new w8 47 (encF (⟨nm + 1, 1, (q.fr + va), (1 + vb), vc⟩ : Fct))
              have HON : Hid (∀ u ∈ encF (⟨nm + 1, 1, (q.fr + va), (1 + vb), vc⟩ : Fct), u.oneCell' = true) := encF_one _
              have HM1 : Hid (k + 1 ≤ maxLen ∧ (k + 1) * 40 ≤ 140737488355328) := ⟨by unfold maxLen; omega, by omega⟩
              have HBA : Hid (RowKit.Below w.heap.size w (w8.alloc (.cells #[.int .i64 (nm + 1), .int .i64 1, .int .i64 (q.fr + va), .int .i64 (1 + vb), .int .i64 vc] 47))) := hB9.alloc hB9.size _
              have HNS := Lib.hid (own_apart HOE.out (hS9.alloc' (.cells #[.int .i64 (nm + 1), .int .i64 1, .int .i64 (q.fr + va), .int .i64 (1 + vb), .int .i64 vc] 47)) (by decide))
              have HNQ := Lib.hid (own_apart HOE.out (hq9.alloc (.cells #[.int .i64 (nm + 1), .int .i64 1, .int .i64 (q.fr + va), .int .i64 (1 + vb), .int .i64 vc] 47)) (by decide))
              have HNR := Lib.hid (own_apart HOE.out (hr9.alloc (.cells #[.int .i64 (nm + 1), .int .i64 1, .int .i64 (q.fr + va), .int .i64 (1 + vb), .int .i64 vc] 47)) (by decide))
              have HS9 := Lib.hid (hS9.alloc' (.cells #[.int .i64 (nm + 1), .int .i64 1, .int .i64 (q.fr + va), .int .i64 (1 + vb), .int .i64 vc] 47))
              have HQ9 := Lib.hid (hq9.alloc (.cells #[.int .i64 (nm + 1), .int .i64 1, .int .i64 (q.fr + va), .int .i64 (1 + vb), .int .i64 vc] 47))
              have HR9 := Lib.hid (hr9.alloc (.cells #[.int .i64 (nm + 1), .int .i64 1, .int .i64 (q.fr + va), .int .i64 (1 + vb), .int .i64 vc] 47))
              have HOB := Lib.hid (fun j hj => own_base ho9 j hj)
              have k0 : w8.cell? ⟨g7, 0, none⟩ = some (.int .i64 (nm + 1)) := hx9.c0
              have k1 : w8.cell? ⟨g7, 1, none⟩ = some (.int .i64 1) := hx9.c1
              have k2 : w8.cell? ⟨g7, 2, none⟩ = some (.int .i64 (q.fr + va)) := hx9.c2
              have k3 : w8.cell? ⟨g7, 3, none⟩ = some (.int .i64 (1 + vb)) := hx9.c3
              have k4 : w8.cell? ⟨g7, 4, none⟩ = some (.int .i64 vc) := hx9.c4
              clear ho9 hS9 hq9 hr9 hB9 hx9
              go_wp2_with (at_builtin; refine wpList_append_rd _ rfl (.tmp 74) (.tmp 76) 25 rfl w.heap.size 47 _ 5 40 Tryz.underlying25 infoF rfl (by decide) (.slice B k d) k (flat encF fs) rfl HOE.out (some ⟨w8.heap.size, 0, none⟩) 1 _ (encF (⟨nm + 1, 1, (q.fr + va), (1 + vb), vc⟩ : Fct)) rfl HRD.out HON.out HM1.out.1 HM1.out.2 HBA.out.size ?_; intro v6 w6 ho6 hg6 _; obtain ⟨B6, d6, rfl⟩ := own_slice ho6)
              have HS6 : Hid (Src w6 (w.heap.size + 1) A m c I9) := (hg6.block _ HS9.out.lt' HNS.out).trans HS9.out
              have HQ6 : Hid (Bl w6 g5 24 #[.int .i64 q.id, .int .i64 q.vol, .int .i64 q.fr, .int .i64 q.tod]) := (hg6.block _ HQ9.out.lt HNQ.out).trans HQ9.out
              have HR6 : Hid (Bl w6 w.heap.size 24 #[.int .i64 0, .int .i64 0, .int .i64 0, .int .i64 0]) := (hg6.block _ HR9.out.lt HNR.out).trans HR9.out
              have HB6 : Hid (RowKit.Below w.heap.size w w6) := HBA.out.grown hg6 HBA.out.size (fun j hj => HOB.out j hj)
              have HO6 : Hid (w6.ownsRow w.heap.size 47 5 (.slice B6 (k + 1) d6) (k + 1) (flat encF (fs ++ [(⟨nm + 1, 1, (q.fr + va), (1 + vb), vc⟩ : Fct)]))) := by
                show World.ownsRow _ _ _ _ _ _ _
                rw [flat_append, flat_one]
                exact ho6
              clear ho6 hg6
              go_roundw
              case rel => exact ⟨I9, _, B6, k + 1, d6, rfl, hI9.2, HXQ, HLX, by omega, HO6.out, HS6.out, HQ6.out, HR6.out, HB6.out⟩
              case measure => rw [HS6.out.at_, HSI.out]; omega
        · have hk3 : (24 : Int) ≤ k := by omega
          go_wp2_with fail
          refine (HLF.out I _ hS).mono ?_
          rintro e w1 ⟨rfl, p1, rfl⟩
          rw [d1]
          have ho6 := own_drewN ho p1
          have hb6 : RowKit.Below w.heap.size w (wr.drewN p1) := below_drewN hb p1
          have hq6 : Bl (wr.drewN p1) g5 24 #[.int .i64 q.id, .int .i64 q.vol, .int .i64 q.fr, .int .i64 q.tod] := hq
          have hr6 : Bl (wr.drewN p1) w.heap.size 24 #[.int .i64 0, .int .i64 0, .int .i64 0, .int .i64 0] := hr
          clear d1 ho hS hq hr hb
          generalize wr.drewN p1 = W6 at *
          have hap := own_apart ho6 hr6 (by decide)
          have c0 : W6.cell? ⟨g5, 0, none⟩ = some (.int .i64 q.id) := hq6.cell 0
          have c1 : W6.cell? ⟨g5, 1, none⟩ = some (.int .i64 q.vol) := hq6.cell 1
          have c2 : W6.cell? ⟨g5, 2, none⟩ = some (.int .i64 q.fr) := hq6.cell 2
          have c3 : W6.cell? ⟨g5, 3, none⟩ = some (.int .i64 q.tod) := hq6.cell 3
          have r0 : W6.cell? ⟨w.heap.size, 0, none⟩ = some (.int .i64 0) := hr6.cell 0
          have r1 : W6.cell? ⟨w.heap.size, 1, none⟩ = some (.int .i64 0) := hr6.cell 1
          have r2 : W6.cell? ⟨w.heap.size, 2, none⟩ = some (.int .i64 0) := hr6.cell 2
          have r3 : W6.cell? ⟨w.heap.size, 3, none⟩ = some (.int .i64 0) := hr6.cell 3
          have f0 : W6.frozen? ⟨w.heap.size, 0, none⟩ = false := hr6.free 0
          have f1 : W6.frozen? ⟨w.heap.size, 1, none⟩ = false := hr6.free 1
          have f2 : W6.frozen? ⟨w.heap.size, 2, none⟩ = false := hr6.free 2
          have f3 : W6.frozen? ⟨w.heap.size, 3, none⟩ = false := hr6.free 3
          go_wp2
          refine bodyPost_ret (v := .tuple #[.agg #[.int .i64 q.id, .int .i64 q.vol, .int .i64 q.fr, .int .i64 q.tod], .slice B k d]) (by simp [results, Tryz.results5, go_sem, r0, r1, r2, r3]) rfl ?_
          exact ⟨q, fs, B, k, d, rfl, HF.out, HL.out, own_of_block ho6 (fun j hj => (((Below.heap_setCell _ _ _ j (fun e => hap (by rw [hj, e]))).trans (Below.heap_setCell _ _ _ j (fun e => hap (by rw [hj, e])))).trans (Below.heap_setCell _ _ _ j (fun e => hap (by rw [hj, e])))).trans (Below.heap_setCell _ _ _ j (fun e => hap (by rw [hj, e])))), (((hb6.setCell (p := ⟨w.heap.size, 0, none⟩) (Nat.le_refl _) _).setCell (p := ⟨w.heap.size, 1, none⟩) (Nat.le_refl _) _).setCell (p := ⟨w.heap.size, 2, none⟩) (Nat.le_refl _) _).setCell (p := ⟨w.heap.size, 3, none⟩) (Nat.le_refl _) _⟩
      · have d1 : decide (I < m) = false := by simpa using hlt
        go_wp2_with fail
        refine (HLF.out I _ hS).mono ?_
        rintro e w1 ⟨rfl, p1, rfl⟩
        rw [d1]
        have ho6 := own_drewN ho p1
        have hb6 : RowKit.Below w.heap.size w (wr.drewN p1) := below_drewN hb p1
        have hq6 : Bl (wr.drewN p1) g5 24 #[.int .i64 q.id, .int .i64 q.vol, .int .i64 q.fr, .int .i64 q.tod] := hq
        have hr6 : Bl (wr.drewN p1) w.heap.size 24 #[.int .i64 0, .int .i64 0, .int .i64 0, .int .i64 0] := hr
        clear d1 ho hS hq hr hb
        generalize wr.drewN p1 = W6 at *
        have hap := own_apart ho6 hr6 (by decide)
        have c0 : W6.cell? ⟨g5, 0, none⟩ = some (.int .i64 q.id) := hq6.cell 0
        have c1 : W6.cell? ⟨g5, 1, none⟩ = some (.int .i64 q.vol) := hq6.cell 1
        have c2 : W6.cell? ⟨g5, 2, none⟩ = some (.int .i64 q.fr) := hq6.cell 2
        have c3 : W6.cell? ⟨g5, 3, none⟩ = some (.int .i64 q.tod) := hq6.cell 3
        have r0 : W6.cell? ⟨w.heap.size, 0, none⟩ = some (.int .i64 0) := hr6.cell 0
        have r1 : W6.cell? ⟨w.heap.size, 1, none⟩ = some (.int .i64 0) := hr6.cell 1
        have r2 : W6.cell? ⟨w.heap.size, 2, none⟩ = some (.int .i64 0) := hr6.cell 2
        have r3 : W6.cell? ⟨w.heap.size, 3, none⟩ = some (.int .i64 0) := hr6.cell 3
        have f0 : W6.frozen? ⟨w.heap.size, 0, none⟩ = false := hr6.free 0
        have f1 : W6.frozen? ⟨w.heap.size, 1, none⟩ = false := hr6.free 1
        have f2 : W6.frozen? ⟨w.heap.size, 2, none⟩ = false := hr6.free 2
        have f3 : W6.frozen? ⟨w.heap.size, 3, none⟩ = false := hr6.free 3
        go_wp2
        refine bodyPost_ret (v := .tuple #[.agg #[.int .i64 q.id, .int .i64 q.vol, .int .i64 q.fr, .int .i64 q.tod], .slice B k d]) (by simp [results, Tryz.results5, go_sem, r0, r1, r2, r3]) rfl ?_
        exact ⟨q, fs, B, k, d, rfl, HF.out, HL.out, own_of_block ho6 (fun j hj => (((Below.heap_setCell _ _ _ j (fun e => hap (by rw [hj, e]))).trans (Below.heap_setCell _ _ _ j (fun e => hap (by rw [hj, e])))).trans (Below.heap_setCell _ _ _ j (fun e => hap (by rw [hj, e])))).trans (Below.heap_setCell _ _ _ j (fun e => hap (by rw [hj, e])))), (((hb6.setCell (p := ⟨w.heap.size, 0, none⟩) (Nat.le_refl _) _).setCell (p := ⟨w.heap.size, 1, none⟩) (Nat.le_refl _) _).setCell (p := ⟨w.heap.size, 2, none⟩) (Nat.le_refl _) _).setCell (p := ⟨w.heap.size, 3, none⟩) (Nat.le_refl _) _⟩
end Go.Proofs.YtemhiifgplaldaaGreat

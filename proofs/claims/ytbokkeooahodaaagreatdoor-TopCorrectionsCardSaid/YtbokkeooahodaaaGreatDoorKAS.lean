/-
  nomenclature.cloneWords and At at the fixed book. No statement of the seat is proved here. Conditions: the book lies in memory. Printed by gen/cls20.py.
-/
import Derived.Test.YtbokkeooahodaaaGreatDoorKAR
import Derived.Test.YtbokkeooahodaaaGreatDoorKAK
namespace Go.Proofs.YtbokkeooahodaaaGreatDoor
open Go.RowKit
set_option linter.unusedVariables false

structure En where
  code : ByteArray
  fr : Int
  til : Int
  A : Option Addr
  n : Nat
  c : Nat
  oth : Bool
instance : Inhabited En := ⟨⟨⟨#[]⟩, 0, 0, none, 0, 0, false⟩⟩
def encE (e : En) : List Value := [.string e.code, .int .i64 e.fr, .int .i64 e.til, .slice e.A e.n e.c, .bool e.oth]
theorem encE_len (e : En) : (encE e).length = 5 := rfl
abbrev en0 : En := ⟨s94, 0, 100, none, 0, 0, false⟩
abbrev en1 (A : Option Addr) (c : Nat) : En := ⟨s9401, 0, 100, A, 1, c, false⟩
theorem infoE20 : (Tryz.prog.info? 95).map (fun i => (i.zero, i.size, i.bytes)) = some (some (.agg #[.string ⟨#[]⟩, .int .i64 0, .int .i64 0, .slice none 0 0, .bool false]), 5, 64) := by kernel_rfl
theorem infoSl20 : (Tryz.prog.info? 60).map (fun i => (i.zero, i.size, i.bytes)) = some (some (.slice none 0 0), 1, 24) := by kernel_rfl
theorem cloneS20 (A : Option Addr) (n c : Nat) (l : List ByteArray) (w : World) (h : Sr w A n l) (h0 : 0 < n) (hn : n ≤ 1000) : Calls Tryz.prog 52 #[.slice A n c] w fun e w' => ∃ D d, e = .returned (.slice D n d) ∧ w'.ownsRow w.heap.size 9 1 (.slice D n d) n (l.map Value.string) ∧ RowKit.Below w.heap.size w w' := by
  obtain ⟨b, o, hA, hb, hc⟩ := h.cells h0
  have hl := h.len
  subst hA
  refine (Tryz.slices_Clone_string b o n c l w (by omega) (by omega) (fun j hj => ?_)).mono ?_
  · refine hc j _ ?_
    rw [List.getD_eq_getElem?_getD, List.getElem?_eq_getElem hj]
    rfl
  · rintro e w' ⟨v, rfl, ho, _, hb⟩
    obtain ⟨D, d, rfl⟩ := own_slice ho
    rw [List.take_of_length_le (by omega)] at ho
    exact ⟨D, d, rfl, ho, hb⟩
def TermN (N : Nat) (w : World) (A : Option Addr) (c : Nat) : Prop := ∃ D d, w.ownsRow N 60 1 (.slice A 1 c) 1 [.slice D 1 d] ∧ w.ownsRow N 9 1 (.slice D 1 d) 1 [.string sChair]
theorem TermN.of_block {N : Nat} {w w' : World} {A : Option Addr} {c : Nat} (h : TermN N w A c) (hk : ∀ b, N ≤ b → b < w.heap.size → w'.heap[b]? = w.heap[b]?) : TermN N w' A c := by
  obtain ⟨D, d, h1, h2⟩ := h
  exact ⟨D, d, own_of_block h1 fun b hb => hk b (own_base h1 b hb) (own_lt h1 b hb), own_of_block h2 fun b hb => hk b (own_base h2 b hb) (own_lt h2 b hb)⟩
theorem TermN.below {N : Nat} {w w' : World} {A : Option Addr} {c : Nat} (h : TermN N w A c) (hb : RowKit.Below w.heap.size w w') : TermN N w' A c := h.of_block fun b _ hl => hb.block b hl
theorem TermN.mono {N M : Nat} {w : World} {A : Option Addr} {c : Nat} (h : TermN N w A c) (hn : M ≤ N) : TermN M w A c := by
  obtain ⟨D, d, h1, h2⟩ := h
  exact ⟨D, d, own_mono h1 hn, own_mono h2 hn⟩
theorem TermN.reads {N : Nat} {w : World} {A : Option Addr} {c : Nat} (h : TermN N w A c) : TermR w A := by
  obtain ⟨D, d, h1, h2⟩ := h
  have hr : Recs (fun v : Value => [v]) 1 w A 1 [.slice D 1 d] := Recs.of_own (fun _ => rfl) h1 rfl
  obtain ⟨b, o, hA, hb, hc⟩ := hr.at_ (i := 0) (by decide)
  have := hc 0 (by decide)
  exact ⟨b, o, D, d, hA, hb, by simpa using this, Sr.own h2 (by decide) (fun s hs => by simp at hs; subst hs; decide)⟩
set_option maxRecDepth 100000 in
theorem cloneW0 (w : World) : Calls Tryz.prog 223 #[.slice none 0 0] w fun e w' => e = .returned (.slice none 0 0) ∧ w = w' := by
  go_enter Tryz.func223, Tryz.ntmps223
  go_wp2_with fail
  refine wp_loop_rounds 1 ?_
  rw [rounds_succ]
  go_wp2_with fail
  go_ret
  exact ⟨rfl, rfl⟩
def TeRes (w : World) (e : Ending) (w' : World) : Prop := ∃ A c, e = .returned (.slice A 1 c) ∧ TermN w.heap.size w' A c ∧ RowKit.Below w.heap.size w w'
set_option maxRecDepth 100000 in
set_option maxHeartbeats 4000000 in
theorem cloneW1 (A : Option Addr) (c : Nat) (w : World) (h : TermR w A) : Calls Tryz.prog 223 #[.slice A 1 c] w (TeRes w) := by
  obtain ⟨b, o, A', c', rfl, hlt, h0, hS⟩ := h
  have HC := Lib.hid (cloneS20 A' 1 c' [sChair] w hS (by decide) (by decide))
  clear hS
  go_enter Tryz.func223, Tryz.ntmps223
  go_wp2_with fail
  refine wp_loop_rounds 2 ?_
  rw [rounds_succ]
  go_wp2_with fail
  refine HC.out.mono ?_
  rintro e w1 ⟨D, d, rfl, hs, hb⟩
  have HS := Lib.hid hs
  have HB := Lib.hid hb
  clear hs hb h0 HC
  have HOA1 : Hid ((w1.alloc (.cells #[.slice D 1 d] 60)).ownsRow w.heap.size 60 1 (.slice none 0 0) 0 []) := ⟨by simp, .inl ⟨rfl, rfl⟩⟩
  have HRD1 : Hid (Rd (w1.alloc (.cells #[.slice D 1 d] 60)) 1 (some ⟨w1.heap.size, 0, none⟩) 1 [.slice D 1 d]) := rd_bl (xs := [.slice D 1 d]) (Bl.new _ _ _) rfl
  have HON1 : Hid (∀ u ∈ ([.slice D 1 d] : List Value), u.oneCell' = true) := fun u hu => by
    simp only [List.mem_cons, List.not_mem_nil, or_false] at hu
    subst hu; rfl
  have HM1 : Hid (0 + 1 ≤ maxLen ∧ (0 + 1) * 24 ≤ 140737488355328) := ⟨by unfold maxLen; omega, by omega⟩
  have HBA1 := Lib.hid (HB.out.alloc HB.out.size (.cells #[.slice D 1 d] 60))
  go_wp2_with (at_builtin; go_loud (refine wpList_append_rd _ rfl (.tmp 12) (.tmp 15) 93 rfl w.heap.size 60 _ 1 24 Tryz.underlying93 infoSl20 rfl (by decide) (.slice none 0 0) 0 [] rfl HOA1.out (some ⟨w1.heap.size, 0, none⟩) 1 _ [.slice D 1 d] rfl HRD1.out HON1.out HM1.out.1 HM1.out.2 HBA1.out.size ?_; intro v1a v1 ho1 hg1 hv1; obtain ⟨R1, d1, rfl⟩ := own_slice ho1))
  have HR : Hid (TermN w.heap.size v1 R1 d1) := ⟨D, d, ho1, own_below HS.out (((Below.refl _ w1).alloc (Nat.le_refl _) _).grown hg1 (by simp) (fun g e => by cases e))⟩
  have HBZ := Lib.hid (HBA1.out.grown hg1 HBA1.out.size (fun g e => by cases e))
  clear hg1 ho1 hv1 HBA1 HM1 HON1 HRD1 HOA1 HB HS
  rw [rounds_succ]
  go_wp2_with fail
  go_ret
  exact ⟨R1, d1, rfl, HR.out, HBZ.out⟩
theorem setE_bl {w : World} {g : Nat} {T : TypeId} {z0 z1 z2 z3 z4 : Value} (h : Bl w g T #[z0, z1, z2, z3, z4]) (v : Value) : Bl (w.setCell ⟨g, 3, none⟩ v) g T #[z0, z1, z2, v, z4] := by
  have := h.put 3 v
  simpa using this
theorem own_set20 {w : World} {base : Nat} {e : TypeId} {size n : Nat} {v : Value} {xs : List Value} (h : w.ownsRow base e size v n xs) {g : Nat} (hg : ∀ b, v.ownBlock = some b → b ≠ g) (i : Nat) (z : Value) : (w.setCell ⟨g, i, none⟩ z).ownsRow base e size v n xs :=
  own_of_block h fun b hb => Below.heap_setCell w ⟨g, i, none⟩ z b (hg b hb)
def AtRes (w : World) (e : Ending) (w' : World) : Prop := ∃ R d A c, e = .returned (.slice R 2 d) ∧ Recs encE 5 w' R 2 [en0, en1 A c] ∧ TermN w.heap.size w' A c ∧ RowKit.Below w.heap.size w w'
set_option maxRecDepth 100000 in
set_option maxHeartbeats 8000000 in
theorem at20 (g : Nat) (A : Option Addr) (c : Nat) (w : World) (h : BkR w g A c) : Calls Tryz.prog 181 #[.agg #[.slice (some ⟨g, 0, none⟩) 2 2, .slice none 0 0], .int .i64 5] w (AtRes w) := by
  have hK := Lib.hid h
  have HB0 : Hid (RowKit.Below w.heap.size w (w.alloc (.cells #[.slice (some ⟨g, 0, none⟩) 2 2, .slice none 0 0] 99))) := (Below.refl _ _).alloc (Nat.le_refl _) _
  have HX0 : Hid (Bl (w.alloc (.cells #[.slice (some ⟨g, 0, none⟩) 2 2, .slice none 0 0] 99)) w.heap.size 99 #[.slice (some ⟨g, 0, none⟩) 2 2, .slice none 0 0]) := Bl.new _ _ _
  clear h
  go_enter Tryz.func181, Tryz.ntmps181
  go_upto_region 1 with (fail)
  generalize w.alloc (.cells #[.slice (some ⟨g, 0, none⟩) 2 2, .slice none 0 0] 99) = W0 at *
  have q1 : W0.cell? ⟨w.heap.size, 0, none⟩ = some (.slice (some ⟨g, 0, none⟩) 2 2) := HX0.out.cell 0
  go_wp2_with fail
  clear q1 HX0
  refine wp_loop_rounds 3 ?_
  rw [rounds_succ]
  have HR0 := Lib.hid (hK.out.1.keep HB0.out)
  have q2 : W0.cell? ⟨g, 0, none⟩ = some (.string s94) := HR0.out.cell 0
  have q3 : W0.cell? ⟨g, 1, none⟩ = some (.int .i64 0) := HR0.out.cell 1
  have q4 : W0.cell? ⟨g, 2, none⟩ = some (.int .i64 100) := HR0.out.cell 2
  have q5 : W0.cell? ⟨g, 3, none⟩ = some (.slice none 0 0) := HR0.out.cell 3
  have q6 : W0.cell? ⟨g, 4, none⟩ = some (.bool false) := HR0.out.cell 4
  have HBv0 := Lib.hid (HB0.out.alloc HB0.out.size (.cells #[.string s94, .int .i64 0, .int .i64 100, .slice none 0 0, .bool false] 95))
  have HE0 : Hid (Bl (W0.alloc (.cells #[.string s94, .int .i64 0, .int .i64 100, .slice none 0 0, .bool false] 95)) W0.heap.size 95 #[.string s94, .int .i64 0, .int .i64 100, .slice none 0 0, .bool false]) := Bl.new _ _ _
  have HgN0 : Hid (w.heap.size ≤ W0.heap.size) := HB0.out.size
  go_upto_region 5 with (fail)
  clear q2 q3 q4 q5 q6 HR0 HB0
  generalize W0.alloc (.cells #[.string s94, .int .i64 0, .int .i64 100, .slice none 0 0, .bool false] 95) = V0 at *
  generalize W0.heap.size = g0 at *
  have q7 : V0.cell? ⟨g0, 1, none⟩ = some (.int .i64 0) := HE0.out.cell 1
  have q8 : V0.cell? ⟨g0, 2, none⟩ = some (.int .i64 100) := HE0.out.cell 2
  have q9 : V0.cell? ⟨g0, 3, none⟩ = some (.slice none 0 0) := HE0.out.cell 3
  have q10 : V0.frozen? ⟨g0, 3, none⟩ = false := HE0.out.free 3
  go_wp2_with fail
  refine (cloneW0 _).mono ?_
  rintro e w1 ⟨rfl, rfl⟩
  have HBz0 : Hid (RowKit.Below w.heap.size w (V0.setCell ⟨g0, 3, none⟩ (.slice none 0 0))) := HBv0.out.setCell (p := ⟨g0, 3, none⟩) HgN0.out (.slice none 0 0)
  have HEs0 := Lib.hid (setE_bl HE0.out (.slice none 0 0))
  have q11 : (V0.setCell ⟨g0, 3, none⟩ (.slice none 0 0)).cell? ⟨g0, 0, none⟩ = some (.string s94) := HEs0.out.cell 0
  have q12 : (V0.setCell ⟨g0, 3, none⟩ (.slice none 0 0)).cell? ⟨g0, 1, none⟩ = some (.int .i64 0) := HEs0.out.cell 1
  have q13 : (V0.setCell ⟨g0, 3, none⟩ (.slice none 0 0)).cell? ⟨g0, 2, none⟩ = some (.int .i64 100) := HEs0.out.cell 2
  have q14 : (V0.setCell ⟨g0, 3, none⟩ (.slice none 0 0)).cell? ⟨g0, 3, none⟩ = some (.slice none 0 0) := HEs0.out.cell 3
  have q15 : (V0.setCell ⟨g0, 3, none⟩ (.slice none 0 0)).cell? ⟨g0, 4, none⟩ = some (.bool false) := HEs0.out.cell 4
  have HOA1 : Hid (((V0.setCell ⟨g0, 3, none⟩ (.slice none 0 0)).alloc (.cells #[.string s94, .int .i64 0, .int .i64 100, .slice none 0 0, .bool false] 95)).ownsRow w.heap.size 95 5 (.slice none 0 0) 0 []) := ⟨by simp, .inl ⟨rfl, rfl⟩⟩
  have HRD1 : Hid (Rd ((V0.setCell ⟨g0, 3, none⟩ (.slice none 0 0)).alloc (.cells #[.string s94, .int .i64 0, .int .i64 100, .slice none 0 0, .bool false] 95)) 5 (some ⟨V0.heap.size, 0, none⟩) 1 [.string s94, .int .i64 0, .int .i64 100, .slice none 0 0, .bool false]) := by have h := rd_bl (size := 5) (n := 1) (xs := [.string s94, .int .i64 0, .int .i64 100, .slice none 0 0, .bool false]) (Bl.new (V0.setCell ⟨g0, 3, none⟩ (.slice none 0 0)) 95 #[.string s94, .int .i64 0, .int .i64 100, .slice none 0 0, .bool false]) rfl; rwa [show (V0.setCell ⟨g0, 3, none⟩ (.slice none 0 0)).heap.size = V0.heap.size by simp [World.setCell]] at h
  have HON1 : Hid (∀ u ∈ ([.string s94, .int .i64 0, .int .i64 100, .slice none 0 0, .bool false] : List Value), u.oneCell' = true) := fun u hu => by
    simp only [List.mem_cons, List.not_mem_nil, or_false] at hu
    rcases hu with rfl | rfl | rfl | rfl | rfl <;> rfl
  have HM1 : Hid (0 + 1 ≤ maxLen ∧ (0 + 1) * 64 ≤ 140737488355328) := ⟨by unfold maxLen; omega, by omega⟩
  have HBA1 := Lib.hid (HBz0.out.alloc HBz0.out.size (.cells #[.string s94, .int .i64 0, .int .i64 100, .slice none 0 0, .bool false] 95))
  go_wp2_with (at_builtin; go_loud (refine wpList_append_rd _ rfl (.tmp 29) (.tmp 31) 96 rfl w.heap.size 95 _ 5 64 Tryz.underlying96 infoE20 rfl (by decide) (.slice none 0 0) 0 [] rfl HOA1.out (some ⟨V0.heap.size, 0, none⟩) 1 _ [.string s94, .int .i64 0, .int .i64 100, .slice none 0 0, .bool false] rfl HRD1.out HON1.out HM1.out.1 HM1.out.2 HBA1.out.size ?_; intro v1a v1 ho1 hg1 hv1; obtain ⟨R1, d1, rfl⟩ := own_slice ho1))
  clear q7 q8 q9 q10 q11 q12 q13 q14 q15
  have HO : Hid (v1.ownsRow w.heap.size 95 5 (.slice R1 1 d1) 1 (flat encE [en0])) := ho1
  have HB1 : Hid (RowKit.Below w.heap.size w v1) := HBA1.out.grown hg1 HBA1.out.size (fun g e => by cases e)
  clear ho1 hg1 hv1 HBA1 HM1 HON1 HRD1 HOA1 HBz0 HEs0 HE0 HBv0 HgN0
  rw [rounds_succ]
  have HR1 := Lib.hid (hK.out.1.keep HB1.out)
  have q16 : v1.cell? ⟨g, 5, none⟩ = some (.string s9401) := HR1.out.cell 5
  have q17 : v1.cell? ⟨g, 6, none⟩ = some (.int .i64 0) := HR1.out.cell 6
  have q18 : v1.cell? ⟨g, 7, none⟩ = some (.int .i64 100) := HR1.out.cell 7
  have q19 : v1.cell? ⟨g, 8, none⟩ = some (.slice A 1 c) := HR1.out.cell 8
  have q20 : v1.cell? ⟨g, 9, none⟩ = some (.bool false) := HR1.out.cell 9
  have HBv1 := Lib.hid (HB1.out.alloc HB1.out.size (.cells #[.string s9401, .int .i64 0, .int .i64 100, .slice A 1 c, .bool false] 95))
  have HE1 : Hid (Bl (v1.alloc (.cells #[.string s9401, .int .i64 0, .int .i64 100, .slice A 1 c, .bool false] 95)) v1.heap.size 95 #[.string s9401, .int .i64 0, .int .i64 100, .slice A 1 c, .bool false]) := Bl.new _ _ _
  have HgN1 : Hid (w.heap.size ≤ v1.heap.size) := HB1.out.size
  have HOr := Lib.hid (own_alloc HO.out (.cells #[.string s9401, .int .i64 0, .int .i64 100, .slice A 1 c, .bool false] 95))
  have HgO : Hid (∀ b, (Value.slice R1 1 d1).ownBlock = some b → b ≠ v1.heap.size) := fun b hb e => by have := own_lt HO.out b hb; omega
  clear HO
  go_upto_region 5 with (fail)
  clear q16 q17 q18 q19 q20 HR1 HB1
  generalize v1.alloc (.cells #[.string s9401, .int .i64 0, .int .i64 100, .slice A 1 c, .bool false] 95) = V1 at *
  generalize v1.heap.size = g1 at *
  have q21 : V1.cell? ⟨g1, 1, none⟩ = some (.int .i64 0) := HE1.out.cell 1
  have q22 : V1.cell? ⟨g1, 2, none⟩ = some (.int .i64 100) := HE1.out.cell 2
  have q23 : V1.cell? ⟨g1, 3, none⟩ = some (.slice A 1 c) := HE1.out.cell 3
  go_wp2_with fail
  have HlV : Hid (g1 < V1.heap.size) := HE1.out.lt
  have HrV : Hid (∀ b, (Value.slice R1 1 d1).ownBlock = some b → b < V1.heap.size) := own_lt HOr.out
  refine (cloneW1 A c V1 (hK.out.2.below HBv1.out)).mono ?_
  rintro e U ⟨A', c', rfl, hT, hb⟩
  have HT := Lib.hid hT
  have HBu := Lib.hid (HBv1.out.trans (hb.mono HBv1.out.size))
  have HEu := Lib.hid (HE1.out.keep hb)
  have HOu := Lib.hid (own_below HOr.out hb)
  have HVU := Lib.hid hb.size
  have HNV := Lib.hid HBv1.out.size
  clear q21 q22 q23 hT hb HOr HE1 HBv1
  have q24 : U.cell? ⟨g1, 3, none⟩ = some (.slice A 1 c) := HEu.out.cell 3
  have q25 : U.frozen? ⟨g1, 3, none⟩ = false := HEu.out.free 3
  have HBz1 : Hid (RowKit.Below w.heap.size w (U.setCell ⟨g1, 3, none⟩ (.slice A' 1 c'))) := HBu.out.setCell (p := ⟨g1, 3, none⟩) HgN1.out (.slice A' 1 c')
  have HEs1 := Lib.hid (setE_bl HEu.out (.slice A' 1 c'))
  have HOs := Lib.hid (own_set20 HOu.out (g := g1) HgO.out 3 (.slice A' 1 c'))
  have q26 : (U.setCell ⟨g1, 3, none⟩ (.slice A' 1 c')).cell? ⟨g1, 0, none⟩ = some (.string s9401) := HEs1.out.cell 0
  have q27 : (U.setCell ⟨g1, 3, none⟩ (.slice A' 1 c')).cell? ⟨g1, 1, none⟩ = some (.int .i64 0) := HEs1.out.cell 1
  have q28 : (U.setCell ⟨g1, 3, none⟩ (.slice A' 1 c')).cell? ⟨g1, 2, none⟩ = some (.int .i64 100) := HEs1.out.cell 2
  have q29 : (U.setCell ⟨g1, 3, none⟩ (.slice A' 1 c')).cell? ⟨g1, 3, none⟩ = some (.slice A' 1 c') := HEs1.out.cell 3
  have q30 : (U.setCell ⟨g1, 3, none⟩ (.slice A' 1 c')).cell? ⟨g1, 4, none⟩ = some (.bool false) := HEs1.out.cell 4
  have HOA2 : Hid (((U.setCell ⟨g1, 3, none⟩ (.slice A' 1 c')).alloc (.cells #[.string s9401, .int .i64 0, .int .i64 100, .slice A' 1 c', .bool false] 95)).ownsRow w.heap.size 95 5 (.slice R1 1 d1) 1 (flat encE [en0])) := own_alloc HOs.out _
  have HRD2 : Hid (Rd ((U.setCell ⟨g1, 3, none⟩ (.slice A' 1 c')).alloc (.cells #[.string s9401, .int .i64 0, .int .i64 100, .slice A' 1 c', .bool false] 95)) 5 (some ⟨U.heap.size, 0, none⟩) 1 [.string s9401, .int .i64 0, .int .i64 100, .slice A' 1 c', .bool false]) := by have h := rd_bl (size := 5) (n := 1) (xs := [.string s9401, .int .i64 0, .int .i64 100, .slice A' 1 c', .bool false]) (Bl.new (U.setCell ⟨g1, 3, none⟩ (.slice A' 1 c')) 95 #[.string s9401, .int .i64 0, .int .i64 100, .slice A' 1 c', .bool false]) rfl; rwa [show (U.setCell ⟨g1, 3, none⟩ (.slice A' 1 c')).heap.size = U.heap.size by simp [World.setCell]] at h
  have HON2 : Hid (∀ u ∈ ([.string s9401, .int .i64 0, .int .i64 100, .slice A' 1 c', .bool false] : List Value), u.oneCell' = true) := fun u hu => by
    simp only [List.mem_cons, List.not_mem_nil, or_false] at hu
    rcases hu with rfl | rfl | rfl | rfl | rfl <;> rfl
  have HM2 : Hid (1 + 1 ≤ maxLen ∧ (1 + 1) * 64 ≤ 140737488355328) := ⟨by unfold maxLen; omega, by omega⟩
  have HBA2 := Lib.hid (HBz1.out.alloc HBz1.out.size (.cells #[.string s9401, .int .i64 0, .int .i64 100, .slice A' 1 c', .bool false] 95))
  go_wp2_with (at_builtin; go_loud (refine wpList_append_rd _ rfl (.tmp 29) (.tmp 31) 96 rfl w.heap.size 95 _ 5 64 Tryz.underlying96 infoE20 rfl (by decide) (.slice R1 1 d1) 1 (flat encE [en0]) rfl HOA2.out (some ⟨U.heap.size, 0, none⟩) 1 _ [.string s9401, .int .i64 0, .int .i64 100, .slice A' 1 c', .bool false] rfl HRD2.out HON2.out HM2.out.1 HM2.out.2 HBA2.out.size ?_; intro v2a v2 ho2 hg2 hv2; obtain ⟨R2, d2, rfl⟩ := own_slice ho2))
  clear q24 q25 q26 q27 q28 q29 q30
  have HO2 : Hid (v2.ownsRow w.heap.size 95 5 (.slice R2 2 d2) 2 (flat encE [en0, en1 A' c'])) := ho2
  have HBe := Lib.hid (HBA2.out.grown hg2 HBA2.out.size (fun g e => own_base HOs.out g e))
  have HTe : Hid (TermN w.heap.size v2 A' c') := (HT.out.of_block fun b hb hl => (hg2.block b (by simp [World.setCell]; omega) (fun e => by have := HrV.out b e.symm; omega)).trans ((Below.heap_alloc _ _ b (by simp [World.setCell]; exact hl)).trans (Below.heap_setCell U ⟨g1, 3, none⟩ _ b (fun e => by have := HlV.out; simp at e; omega)))).mono HNV.out
  clear ho2 hg2 hv2 HBA2 HM2 HON2 HRD2 HOA2 HBz1 HEs1 HOs HT HrV HlV
  rw [rounds_succ]
  go_wp2_with fail
  go_ret
  exact ⟨R2, d2, A', c', rfl, Recs.of_own encE_len HO2.out rfl, HTe.out, HBe.out⟩
end Go.Proofs.YtbokkeooahodaaaGreatDoor

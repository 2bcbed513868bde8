/-
  The contract of customslaw22.apply: facts with different numbers, each of them valid, are all accepted. No statement of the seat is proved here. Conditions: as typed.
-/
import Derived.Test.YtemhiifgplaldaaMP
import Derived.Deep.AppendLies
namespace Go.Proofs.Ytemhiifgplaldaa
open Go.RowKit
set_option linter.unusedVariables false

/-- What apply returns. -/
def LaRes (w : World) (q : Qt) (n : Nat) (l : List Fct) (e : Ending) (w' : World) : Prop := ∃ (fs : List Fct) (B : Option Addr) (d : Nat), e = .returned (.tuple #[.agg #[.int .i64 q.id, .int .i64 q.vol, .int .i64 q.fr, .int .i64 q.tod, .slice B n d], .bool true]) ∧ BOk q fs ∧ fs.Perm l ∧ FRd w' B n d fs ∧ RowKit.Below w.heap.size w w'
/-- The same, and where the facts lie. -/
def LaOwn (w : World) (q : Qt) (n : Nat) (l : List Fct) (e : Ending) (w' : World) : Prop := ∃ (fs : List Fct) (B : Option Addr) (d : Nat), e = .returned (.tuple #[.agg #[.int .i64 q.id, .int .i64 q.vol, .int .i64 q.fr, .int .i64 q.tod, .slice B n d], .bool true]) ∧ BOk q fs ∧ fs.Perm l ∧ FRd w' B n d fs ∧ (∀ b off, B = some ⟨b, off, none⟩ → w.heap.size ≤ b) ∧ RowKit.Below w.heap.size w w'
set_option maxRecDepth 100000 in
set_option maxHeartbeats 8000000 in
theorem lapply_own (q : Qt) (A : Option Addr) (n c : Nat) (l : List Fct) (w : World) (h : Recs encF 5 w A n l) (hn : n ≤ 200) (hq : qOk q = true) (hf : ∀ x ∈ l, fErr q x = 0) (hd : (l.map (·.num)).Nodup) :
    Calls Try.prog 15 #[.agg #[.int .i64 q.id, .int .i64 q.vol, .int .i64 q.fr, .int .i64 q.tod], .slice A n c] w (LaOwn w q n l) := by
  have HL := Lib.hid h.1
  have HF := Lib.hid hf
  have HD := Lib.hid hd
  have HQ := Lib.hid hq
  have HNEW := Lib.hid (fun w => new_ok q w hq)
  have HR := Lib.hid h
  obtain ⟨W0, hW0⟩ : ∃ W, W = (w.alloc (.cells #[.int .i64 q.id, .int .i64 q.vol, .int .i64 q.fr, .int .i64 q.tod] 23)).alloc (.cells #[.int .i64 0, .int .i64 0, .int .i64 0, .int .i64 0, .slice none 0 0] 26) := ⟨_, rfl⟩
  have hb0 : RowKit.Below w.heap.size w W0 := by rw [hW0]; exact ((Below.refl _ _).alloc (Nat.le_refl _) _).alloc (by simp) _
  have hx0 : Bl W0 w.heap.size 23 #[.int .i64 q.id, .int .i64 q.vol, .int .i64 q.fr, .int .i64 q.tod] := by rw [hW0]; exact (Bl.new w _ _).alloc _
  have hr0 : Bl W0 (w.heap.size + 1) 26 #[.int .i64 0, .int .i64 0, .int .i64 0, .int .i64 0, .slice none 0 0] := by rw [hW0]; have := Bl.new (w.alloc (.cells #[.int .i64 q.id, .int .i64 q.vol, .int .i64 q.fr, .int .i64 q.tod] 23)) 26 #[.int .i64 0, .int .i64 0, .int .i64 0, .int .i64 0, .slice none 0 0]; simpa using this
  clear hf hd hq h
  go_enter Try.func15, Try.ntmps15
  go_upto_region 1 with (fail)
  rw [← hW0]
  clear hW0
  have p0 : W0.cell? ⟨w.heap.size, 0, none⟩ = some (.int .i64 q.id) := hx0.cell 0
  have p1 : W0.cell? ⟨w.heap.size, 1, none⟩ = some (.int .i64 q.vol) := hx0.cell 1
  have p2 : W0.cell? ⟨w.heap.size, 2, none⟩ = some (.int .i64 q.fr) := hx0.cell 2
  have p3 : W0.cell? ⟨w.heap.size, 3, none⟩ = some (.int .i64 q.tod) := hx0.cell 3
  go_wp2_with fail
  refine (HNEW.out _).mono ?_
  rintro e w1 ⟨rfl, hb1⟩
  have hB1 := hb0.trans (hb1.mono hb0.size)
  have hr1 := hr0.keep hb1
  clear p0 p1 p2 p3 hx0 hr0 hb0 hb1 HNEW
  have hx1 := Bl.new w1 26 #[.int .i64 q.id, .int .i64 q.vol, .int .i64 q.fr, .int .i64 q.tod, .slice none 0 0]
  have hr2 := hr1.alloc (.cells #[.int .i64 q.id, .int .i64 q.vol, .int .i64 q.fr, .int .i64 q.tod, .slice none 0 0] 26)
  have hB2 : RowKit.Below w.heap.size w (w1.alloc (.cells #[.int .i64 q.id, .int .i64 q.vol, .int .i64 q.fr, .int .i64 q.tod, .slice none 0 0] 26)) := hB1.alloc hB1.size _
  have hrg : w.heap.size + 1 < w1.heap.size := hr1.lt
  clear hr1 hB1
  go_upto_region 2 with (fail)
  generalize w1.alloc (.cells #[.int .i64 q.id, .int .i64 q.vol, .int .i64 q.fr, .int .i64 q.tod, .slice none 0 0] 26) = W1 at *
  generalize w1.heap.size = g at *
  have HAP : Hid (∀ (B : Option Addr) (k d : Nat) (fs : List Fct) (x : Fct) (wx : World), FRd wx B k d fs → BOk q fs → fErr q x = 0 → (∀ y ∈ fs, y.num ≠ x.num) → fs.length < 200 → Calls Try.prog 17 #[.agg #[.int .i64 q.id, .int .i64 q.vol, .int .i64 q.fr, .int .i64 q.tod, .slice B k d], .agg #[.int .i64 x.num, .int .i64 x.kind, .int .i64 x.day, .int .i64 x.id, .int .i64 x.qty]] wx fun e w' => ∃ (B2 : Option Addr) (d2 : Nat) (C : Option Addr) (m d3 : Nat) (fs2 : List Fct), e = .returned (.tuple #[.agg #[.int .i64 q.id, .int .i64 q.vol, .int .i64 q.fr, .int .i64 q.tod, .slice B2 (k + 1) d2], .slice C m d3, .int .i64 0]) ∧ BOk q fs2 ∧ fs2.Perm (x :: fs) ∧ FRd w' B2 (k + 1) d2 fs2 ∧ (∀ b off, B2 = some ⟨b, off, none⟩ → wx.heap.size ≤ b) ∧ RowKit.Below wx.heap.size wx w') := fun B k d fs x wx h1 h2 h3 h4 h5 =>
    (apply_new q B k d fs x wx h1 h2 h3 h4 h5).mono fun e w' ⟨I, B2, d2, C, m, d3, ga, gb, ba, bb, e1, e2, e3, e4, e5, e6, e7, e8⟩ => ⟨B2, d2, C, m, d3, _, e1, e2, perm_ins fs x I, FRd.own e6 (by rw [(perm_ins fs x I).length_eq, List.length_cons, h1.recs.1]), fun b off e => own_base e6 b (by rw [e]; rfl), e8⟩
  go_wp2_with fail
  go_loopw [7, 8] (fun e i wx => ∃ (k : Nat) (fs : List Fct) (B : Option Addr) (d : Nat), k ≤ n ∧ e = .int .i64 0 ∧ i = .int .i64 k ∧ Hid (BOk q fs) ∧ Hid (fs.Perm (l.take k)) ∧ Hid (FRd wx B k d fs) ∧ Hid (∀ b off, B = some ⟨b, off, none⟩ → b ≠ g ∧ b ≠ w.heap.size + 1 ∧ w.heap.size ≤ b) ∧ Bl wx g 26 #[.int .i64 q.id, .int .i64 q.vol, .int .i64 q.fr, .int .i64 q.tod, .slice B k d] ∧ Bl wx (w.heap.size + 1) 26 #[.int .i64 0, .int .i64 0, .int .i64 0, .int .i64 0, .slice none 0 0] ∧ RowKit.Below w.heap.size w wx) (fun _ i _ => n - (intOf i).toNat)
  case atStart => exact ⟨0, [], none, 0, Nat.zero_le _, rfl, rfl, BOk.nil HQ.out, .refl _, FRd.empty _, fun b off e => (by cases e), hx1, hr2, hB2⟩
  case round =>
    clear hx1 hr2 hB2
    obtain ⟨k, fs, B, d, hk, rfl, rfl, HBO, HPM, HFR, HNB, hx, hr, hb⟩ := hrel
    by_cases hlt : k < n
    · obtain ⟨b, off, x, hA, hbl, c0, c1, c2, c3, c4, HX⟩ := HR.out.getF hlt
      subst hA
      have hki : (k : Int) < n := by omega
      have hxm : x ∈ l := by have := HX.out; rw [← this]; exact mem_getF (by have := HL.out; omega)
      have HFX := Lib.hid (HF.out x hxm)
      have HTK : Hid (l.take (k + 1) = l.take k ++ [x]) := by
        show _ = _
        rw [take_succ_get l k (by have := HL.out; omega), HX.out]
      have HNX : Hid (∀ y ∈ fs, y.num ≠ x.num) := fun y hy e => by
        have hy2 := HPM.out.mem_iff.1 hy
        have hnd := HD.out
        rw [← List.take_append_drop (k + 1) l, HTK.out, List.append_assoc, List.map_append, List.nodup_append] at hnd
        exact hnd.2.2 y.num (List.mem_map.2 ⟨y, hy2, rfl⟩) x.num (by simp) e
      have hfl : fs.length = k := HFR.out.recs.1
      have HCALL := Lib.hid (fun wx (hbx : RowKit.Below wr.heap.size wr wx) => HAP.out B k d fs x wx (HFR.out.below hbx) HBO.out HFX.out HNX.out (by omega))
      have e0 : wr.cell? ⟨b, off + k * 5, none⟩ = some (.int .i64 x.num) := (hb.cell (p := ⟨b, off + k * 5, none⟩) hbl).trans c0
      have e1 : wr.cell? ⟨b, off + k * 5 + 1, none⟩ = some (.int .i64 x.kind) := (hb.cell (p := ⟨b, off + k * 5 + 1, none⟩) hbl).trans c1
      have e2 : wr.cell? ⟨b, off + k * 5 + 2, none⟩ = some (.int .i64 x.day) := (hb.cell (p := ⟨b, off + k * 5 + 2, none⟩) hbl).trans c2
      have e3 : wr.cell? ⟨b, off + k * 5 + 3, none⟩ = some (.int .i64 x.id) := (hb.cell (p := ⟨b, off + k * 5 + 3, none⟩) hbl).trans c3
      have e4 : wr.cell? ⟨b, off + k * 5 + 4, none⟩ = some (.int .i64 x.qty) := (hb.cell (p := ⟨b, off + k * 5 + 4, none⟩) hbl).trans c4
      have y0 : wr.cell? ⟨g, 0, none⟩ = some (.int .i64 q.id) := hx.c0
      have y1 : wr.cell? ⟨g, 1, none⟩ = some (.int .i64 q.vol) := hx.c1
      have y2 : wr.cell? ⟨g, 2, none⟩ = some (.int .i64 q.fr) := hx.c2
      have y3 : wr.cell? ⟨g, 3, none⟩ = some (.int .i64 q.tod) := hx.c3
      have y4 : wr.cell? ⟨g, 4, none⟩ = some (.slice B k d) := hx.c4
      have HXB := Lib.hid hx
      have HRB := Lib.hid hr
      have HBB := Lib.hid hb
      have HBD : Hid (RowKit.Below wr.heap.size wr wr.drew) := (Below.refl _ _).drew
      clear c0 c1 c2 c3 c4 hx hr hb hxm hlt
      go_upto_region 5 with (fail)
      go_region_with (go_at_call 17; refine (HCALL.out _ HBD.out).mono ?_; rintro e w9 ⟨B9, d9, C9, m9, c9, fs9, rfl, hbo9, hp9, hf9, hn9, hb9⟩; have HB9 := Lib.hid hbo9; have HP9 := Lib.hid hp9; have HF9 := Lib.hid hf9; have HN9 := Lib.hid hn9; have hBB := Lib.hid (HBD.out.trans hb9); have HY9 := Lib.hid (HXB.out.drew.keep hb9); have HR9 := Lib.hid (HRB.out.drew.keep hb9); clear hbo9 hp9 hf9 hn9 hb9; have y90 := HY9.out.c0; have y91 := HY9.out.c1; have y92 := HY9.out.c2; have y93 := HY9.out.c3; have y94 := HY9.out.c4; have z90 := HY9.out.free 0; have z91 := HY9.out.free 1; have z92 := HY9.out.free 2; have z93 := HY9.out.free 3; have z94 := HY9.out.free 4)
      · have HP2 : Hid (fs9.Perm (l.take (k + 1))) := by
          show List.Perm _ _
          rw [HTK.out]
          exact (HP9.out.trans (HPM.out.cons x)).trans (List.perm_append_comm (l₁ := [x]) (l₂ := l.take k))
        have HGL : Hid (g < wr.heap.size ∧ w.heap.size + 1 < wr.heap.size) := ⟨HXB.out.lt, HRB.out.lt⟩
        have HNB2 : Hid (∀ b off, B9 = some ⟨b, off, none⟩ → b ≠ g ∧ b ≠ w.heap.size + 1 ∧ w.heap.size ≤ b) := fun b off e => by
          have h1 : wr.heap.size ≤ b := HN9.out b off e
          have := HGL.out
          omega
        have HX2 := Lib.hid (set5_bl HY9.out (.int .i64 q.id) (.int .i64 q.vol) (.int .i64 q.fr) (.int .i64 q.tod) (.slice B9 (k + 1) d9))
        have HR2 := Lib.hid (HR9.out.far5 (r := g) (by omega) (.int .i64 q.id) (.int .i64 q.vol) (.int .i64 q.fr) (.int .i64 q.tod) (.slice B9 (k + 1) d9))
        have HF2 := Lib.hid (HF9.out.set5 (g := g) (fun b off e => (HNB2.out b off e).1) (.int .i64 q.id) (.int .i64 q.vol) (.int .i64 q.fr) (.int .i64 q.tod) (.slice B9 (k + 1) d9))
        have HB2 := Lib.hid (put5 (r := g) (HBB.out.trans (hBB.out.mono HBB.out.size)) (by omega) (.int .i64 q.id) (.int .i64 q.vol) (.int .i64 q.fr) (.int .i64 q.tod) (.slice B9 (k + 1) d9))
        clear e0 e1 e2 e3 e4 y0 y1 y2 y3 y4 y90 y91 y92 y93 y94 z90 z91 z92 z93 z94
        go_wp2_with fail
        go_roundw
        case rel => exact ⟨k + 1, fs9, B9, d9, by omega, rfl, by go_num, HB9, HP2, HF2, HNB2, HX2.out, HR2.out, HB2.out⟩
        case measure => simp [intOf]; omega
      · have HP2 : Hid (fs9.Perm (l.take (k + 1))) := by
          show List.Perm _ _
          rw [HTK.out]
          exact (HP9.out.trans (HPM.out.cons x)).trans (List.perm_append_comm (l₁ := [x]) (l₂ := l.take k))
        have HGL : Hid (g < wr.heap.size ∧ w.heap.size + 1 < wr.heap.size) := ⟨HXB.out.lt, HRB.out.lt⟩
        have HNB2 : Hid (∀ b off, B9 = some ⟨b, off, none⟩ → b ≠ g ∧ b ≠ w.heap.size + 1 ∧ w.heap.size ≤ b) := fun b off e => by
          have h1 : wr.heap.size ≤ b := HN9.out b off e
          have := HGL.out
          omega
        have HX2 := Lib.hid (set5_bl HY9.out (.int .i64 q.id) (.int .i64 q.vol) (.int .i64 q.fr) (.int .i64 q.tod) (.slice B9 (k + 1) d9))
        have HR2 := Lib.hid (HR9.out.far5 (r := g) (by omega) (.int .i64 q.id) (.int .i64 q.vol) (.int .i64 q.fr) (.int .i64 q.tod) (.slice B9 (k + 1) d9))
        have HF2 := Lib.hid (HF9.out.set5 (g := g) (fun b off e => (HNB2.out b off e).1) (.int .i64 q.id) (.int .i64 q.vol) (.int .i64 q.fr) (.int .i64 q.tod) (.slice B9 (k + 1) d9))
        have HB2 := Lib.hid (put5 (r := g) (HBB.out.trans (hBB.out.mono HBB.out.size)) (by omega) (.int .i64 q.id) (.int .i64 q.vol) (.int .i64 q.fr) (.int .i64 q.tod) (.slice B9 (k + 1) d9))
        clear e0 e1 e2 e3 e4 y0 y1 y2 y3 y4 y90 y91 y92 y93 y94 z90 z91 z92 z93 z94
        go_wp2_with fail
        go_roundw
        case rel => exact ⟨k + 1, fs9, B9, d9, by omega, rfl, by go_num, HB9, HP2, HF2, HNB2, HX2.out, HR2.out, HB2.out⟩
        case measure => simp [intOf]; omega
    · obtain rfl : n = k := by omega
      rw [List.take_of_length_le (by have := HL.out; omega)] at HPM
      have y0 : wr.cell? ⟨g, 0, none⟩ = some (.int .i64 q.id) := hx.c0
      have y1 : wr.cell? ⟨g, 1, none⟩ = some (.int .i64 q.vol) := hx.c1
      have y2 : wr.cell? ⟨g, 2, none⟩ = some (.int .i64 q.fr) := hx.c2
      have y3 : wr.cell? ⟨g, 3, none⟩ = some (.int .i64 q.tod) := hx.c3
      have y4 : wr.cell? ⟨g, 4, none⟩ = some (.slice B n d) := hx.c4
      have r0 := hr.c0
      have r1 := hr.c1
      have r2 := hr.c2
      have r3 := hr.c3
      have r4 := hr.c4
      have f0 := hr.free 0
      have f1 := hr.free 1
      have f2 := hr.free 2
      have f3 := hr.free 3
      have f4 := hr.free 4
      have hd0 : decide ((n : Int) < n) = false := by simp
      clear hlt
      go_wp2
      refine bodyPost_ret (v := .tuple #[.agg #[.int .i64 q.id, .int .i64 q.vol, .int .i64 q.fr, .int .i64 q.tod, .slice B n d], .bool true]) (by simp [results, Try.results15, go_sem, r0, r1, r2, r3, r4]) rfl ?_
      exact ⟨fs, B, d, rfl, HBO.out, HPM.out, HFR.out.set5 (fun b off e => (HNB.out b off e).2.1) _ _ _ _ _, fun b off e => (HNB.out b off e).2.2, put5 hb (by omega) _ _ _ _ _⟩
theorem lapply_any (q : Qt) (A : Option Addr) (n c : Nat) (l : List Fct) (w : World) (h : Recs encF 5 w A n l) (hn : n ≤ 200) (hq : qOk q = true) (hf : ∀ x ∈ l, fErr q x = 0) (hd : (l.map (·.num)).Nodup) :
    Calls Try.prog 15 #[.agg #[.int .i64 q.id, .int .i64 q.vol, .int .i64 q.fr, .int .i64 q.tod], .slice A n c] w (LaRes w q n l) :=
  (lapply_own q A n c l w h hn hq hf hd).mono fun e w' ⟨fs, B, d, e1, h1, h2, h3, _, h4⟩ => ⟨fs, B, d, e1, h1, h2, h3, h4⟩
end Go.Proofs.Ytemhiifgplaldaa

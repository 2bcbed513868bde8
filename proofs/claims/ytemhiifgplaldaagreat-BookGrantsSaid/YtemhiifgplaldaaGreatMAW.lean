/-
  The contract of customsmade's Known at the facts that are made. No statement of the seat is proved here. Conditions: as typed.
  What a book answers, valid or not, from the seat's package and from the reference: the same. No statement of the seat is proved here. Conditions: as typed.
  The contract of customslaw22.awake: it returns true. No statement of the seat is proved here. No conditions.
-/
import Derived.Test.YtemhiifgplaldaaGreatMAV
import Derived.Test.YtemhiifgplaldaaGreatMAM
import Derived.Test.YtemhiifgplaldaaGreatMAJ
import Derived.Test.YtemhiifgplaldaaGreatMAN
import Derived.Test.YtemhiifgplaldaaGreatMAS
namespace Go.Proofs.YtemhiifgplaldaaGreat
open Go.RowKit
set_option linter.unusedVariables false

theorem QF.fresh {q : Qt} {l : List Fct} (h : QF q l) {k : Nat} (hk : k < l.length) : ∀ x ∈ l.take k, x.num ≠ l[k]!.num := by
  intro x hx e
  obtain ⟨j, hj, hl, rfl⟩ := mem_take_get hx
  have h1 := h.num j hl
  have h2 := h.num k hk
  have := h.len
  omega
/-- What Known returns. -/
def KnRes (w : World) (q : Qt) (l : List Fct) (n : Nat) (e : Ending) (w' : World) : Prop := ∃ (B : Option Addr) (dd : Nat) (fs' : List Fct), e = .returned (.agg #[.int .i64 q.id, .int .i64 q.vol, .int .i64 q.fr, .int .i64 q.tod, .slice B n dd]) ∧ BOk q fs' ∧ fs'.Perm l ∧ w'.ownsRow w.heap.size 47 5 (.slice B n dd) n (flat encF fs') ∧ RowKit.Below w.heap.size w w'

set_option maxRecDepth 100000 in
set_option maxHeartbeats 8000000 in
theorem known_any (q : Qt) (A : Option Addr) (n c : Nat) (l : List Fct) (w : World) (h : Recs encF 5 w A n l) (hq : QF q l) :
    Calls Tryz.prog 4 #[.agg #[.int .i64 q.id, .int .i64 q.vol, .int .i64 q.fr, .int .i64 q.tod], .slice A n c] w (KnRes w q l n) := by
  have HQF := Lib.hid hq
  have HL := Lib.hid h.1
  have hn : n ≤ 24 := by have := hq.len; have := h.1; omega
  clear hq
  obtain ⟨W0, hW0⟩ : ∃ W, W = (w.alloc (.cells #[.int .i64 q.id, .int .i64 q.vol, .int .i64 q.fr, .int .i64 q.tod] 24)).alloc (.cells #[.int .i64 0, .int .i64 0, .int .i64 0, .int .i64 0, .slice none 0 0] 27) := ⟨_, rfl⟩
  have hb0 : RowKit.Below w.heap.size w W0 := by rw [hW0]; exact ((Below.refl _ _).alloc (Nat.le_refl _) _).alloc (by simp) _
  have hq0 : Bl W0 w.heap.size 24 #[.int .i64 q.id, .int .i64 q.vol, .int .i64 q.fr, .int .i64 q.tod] := by rw [hW0]; exact (Bl.new w _ _).alloc _
  have hr0 : Bl W0 (w.heap.size + 1) 27 #[.int .i64 0, .int .i64 0, .int .i64 0, .int .i64 0, .slice none 0 0] := by rw [hW0]; have := Bl.new (w.alloc (.cells #[.int .i64 q.id, .int .i64 q.vol, .int .i64 q.fr, .int .i64 q.tod] 24)) 27 #[.int .i64 0, .int .i64 0, .int .i64 0, .int .i64 0, .slice none 0 0]; simpa using this
  have hs0 : W0.heap.size = w.heap.size + 1 + 1 := by rw [hW0]; simp
  go_enter Tryz.func4, Tryz.ntmps4
  go_upto_region 1 with (fail)
  rw [← hW0]
  clear hW0
  have p0 : W0.cell? ⟨w.heap.size, 0, none⟩ = some (.int .i64 q.id) := hq0.cell 0
  have p1 : W0.cell? ⟨w.heap.size, 1, none⟩ = some (.int .i64 q.vol) := hq0.cell 1
  have p2 : W0.cell? ⟨w.heap.size, 2, none⟩ = some (.int .i64 q.fr) := hq0.cell 2
  have p3 : W0.cell? ⟨w.heap.size, 3, none⟩ = some (.int .i64 q.tod) := hq0.cell 3
  have hx0 := Bl.new W0 27 #[.int .i64 q.id, .int .i64 q.vol, .int .i64 q.fr, .int .i64 q.tod, .slice none 0 0]
  have HR1 := hr0.alloc (.cells #[.int .i64 q.id, .int .i64 q.vol, .int .i64 q.fr, .int .i64 q.tod, .slice none 0 0] 27)
  have HB1 := hb0.alloc hb0.size (.cells #[.int .i64 q.id, .int .i64 q.vol, .int .i64 q.fr, .int .i64 q.tod, .slice none 0 0] 27)
  rw [hs0] at hx0
  go_upto_region 2 with (fail)
  generalize W0.alloc (.cells #[.int .i64 q.id, .int .i64 q.vol, .int .i64 q.fr, .int .i64 q.tod, .slice none 0 0] 27) = W1 at *
  clear p0 p1 p2 p3 hq0 hr0 hb0 hs0
  go_wp2_with fail
  go_loopw [6] (fun i wx => ∃ (k : Nat) (B : Option Addr) (dd : Nat) (fs' : List Fct), i = .int .i64 k ∧ k ≤ n ∧ Hid (BOk q fs') ∧ Hid (fs'.Perm (l.take k)) ∧ Bl wx (w.heap.size + 1 + 1) 27 #[.int .i64 q.id, .int .i64 q.vol, .int .i64 q.fr, .int .i64 q.tod, .slice B k dd] ∧ wx.ownsRow w.heap.size 47 5 (.slice B k dd) k (flat encF fs') ∧ Bl wx (w.heap.size + 1) 27 #[.int .i64 0, .int .i64 0, .int .i64 0, .int .i64 0, .slice none 0 0] ∧ RowKit.Below w.heap.size w wx) (fun i _ => n - (intOf i).toNat)
  case atStart => exact ⟨0, none, 0, [], rfl, Nat.zero_le _, BOk.nil HQF.out.qok, List.Perm.refl _, hx0, ⟨rfl, .inl ⟨rfl, rfl⟩⟩, HR1, HB1⟩
  case round =>
    obtain ⟨k, B, dd, fs', rfl, hk, HOK, HPM, hy4, ho, hr, hb⟩ := hrel
    by_cases hlt : k < n
    · have hki : (k : Int) < n := by omega
      obtain ⟨b, off, f, hA, hbl, c0, c1, c2, c3, c4, HF⟩ := h.getF hlt
      subst hA
      have HFM : Hid (fErr q f = 0) := by have h1 := HF.out; rw [getElem!_pos l k (by have := HL.out; omega)] at h1; rw [← h1]; exact (HQF.out.each _ (List.getElem_mem _)).1
      have HLK : Hid (fs'.length = k) := by have := HPM.out.length_eq; rw [List.length_take] at this; have := HL.out; show _ = _; omega
      have HNW : Hid (∀ x ∈ fs', x.num ≠ f.num) := fun x hx => by have := HQF.out.fresh (k := k) (by have := HL.out; omega) x (HPM.out.mem_iff.1 hx); rwa [HF.out] at this
      have HPF : Hid ((l.take (k + 1)).Perm (f :: fs')) := by
        show List.Perm _ _
        rw [List.take_succ_eq_append_getElem (by have := HL.out; omega)]
        have h1 := HF.out
        rw [getElem!_pos l k (by have := HL.out; omega)] at h1
        rw [h1]
        exact (List.perm_append_comm).trans (HPM.out.symm.cons f)
      have hcap := own_cap ho
      have HRF := Lib.hid (Recs.of_own encF_len ho HLK.out)
      have HCW : Hid (∀ wx, RowKit.Below wr.heap.size wr wx → Calls Tryz.prog 15 #[.agg #[.int .i64 q.id, .int .i64 q.vol, .int .i64 q.fr, .int .i64 q.tod, .slice B k dd], .agg #[.int .i64 f.num, .int .i64 f.kind, .int .i64 f.day, .int .i64 f.id, .int .i64 f.qty]] wx fun e w' => ∃ (B2 : Option Addr) (d2 : Nat) (C : Option Addr) (m2 c2 : Nat) (fs2 : List Fct), e = .returned (.tuple #[.agg #[.int .i64 q.id, .int .i64 q.vol, .int .i64 q.fr, .int .i64 q.tod, .slice B2 (k + 1) d2], .slice C m2 c2, .int .i64 0]) ∧ Hid (BOk q fs2) ∧ Hid (fs2.Perm (f :: fs')) ∧ Hid (w'.ownsRow wr.heap.size 47 5 (.slice B2 (k + 1) d2) (k + 1) (flat encF fs2)) ∧ Hid (RowKit.Below wr.heap.size wr w') ∧ Hid (RowKit.Below wx.heap.size wx w')) := fun wx hbx => (rapply_new q f B k dd fs' wx (HRF.out.below hbx) HOK.out HFM.out HNW.out (by omega) hcap).mono fun e w' ⟨B2, d2, C, m2, c2, fs2, h1, h2, h3, h4, h5⟩ => ⟨B2, d2, C, m2, c2, fs2, h1, h2, h3, own_mono h4 hbx.size, hbx.trans (h5.mono hbx.size), h5⟩
      have HBN : Hid (RowKit.Below wr.heap.size wr wr.drew) := (Below.refl _ _).drew
      have HBA : Hid (RowKit.Below wr.heap.size wr (wr.alloc (.cells #[.int .i64 0, .int .i64 0, .int .i64 0, .int .i64 0, .slice none 0 0] 27)).drew) := ((Below.refl _ _).alloc (Nat.le_refl _) _).drew
      have HY4 := Lib.hid hy4
      have HR4 := Lib.hid hr
      have HB4 := Lib.hid hb
      have l1 := hy4.lt
      have hbl2 : b < wr.heap.size := Nat.lt_of_lt_of_le hbl hb.size
      have y0 := hy4.c0
      have y1 := hy4.c1
      have y2 := hy4.c2
      have y3 := hy4.c3
      have y4 := hy4.c4
      have e0 : wr.cell? ⟨b, off + k * 5, none⟩ = some (.int .i64 f.num) := (hb.cell (p := ⟨b, off + k * 5, none⟩) hbl).trans c0
      have e1 : wr.cell? ⟨b, off + k * 5 + 1, none⟩ = some (.int .i64 f.kind) := (hb.cell (p := ⟨b, off + k * 5 + 1, none⟩) hbl).trans c1
      have e2 : wr.cell? ⟨b, off + k * 5 + 2, none⟩ = some (.int .i64 f.day) := (hb.cell (p := ⟨b, off + k * 5 + 2, none⟩) hbl).trans c2
      have e3 : wr.cell? ⟨b, off + k * 5 + 3, none⟩ = some (.int .i64 f.id) := (hb.cell (p := ⟨b, off + k * 5 + 3, none⟩) hbl).trans c3
      have e4 : wr.cell? ⟨b, off + k * 5 + 4, none⟩ = some (.int .i64 f.qty) := (hb.cell (p := ⟨b, off + k * 5 + 4, none⟩) hbl).trans c4
      clear hy4 ho hr hb c0 c1 c2 c3 c4
      have HC0 : Hid (∀ wx, RowKit.Below wr.heap.size wr wx → wx.cell? ⟨b, off + k * 5, none⟩ = some (.int .i64 f.num)) := fun wx hbx => (hbx.cell (p := ⟨b, off + k * 5, none⟩) hbl2).trans e0
      have HC1 : Hid (∀ wx, RowKit.Below wr.heap.size wr wx → wx.cell? ⟨b, off + k * 5 + 1, none⟩ = some (.int .i64 f.kind)) := fun wx hbx => (hbx.cell (p := ⟨b, off + k * 5 + 1, none⟩) hbl2).trans e1
      have HC2 : Hid (∀ wx, RowKit.Below wr.heap.size wr wx → wx.cell? ⟨b, off + k * 5 + 2, none⟩ = some (.int .i64 f.day)) := fun wx hbx => (hbx.cell (p := ⟨b, off + k * 5 + 2, none⟩) hbl2).trans e2
      have HC3 : Hid (∀ wx, RowKit.Below wr.heap.size wr wx → wx.cell? ⟨b, off + k * 5 + 3, none⟩ = some (.int .i64 f.id)) := fun wx hbx => (hbx.cell (p := ⟨b, off + k * 5 + 3, none⟩) hbl2).trans e3
      have HC4 : Hid (∀ wx, RowKit.Below wr.heap.size wr wx → wx.cell? ⟨b, off + k * 5 + 4, none⟩ = some (.int .i64 f.qty)) := fun wx hbx => (hbx.cell (p := ⟨b, off + k * 5 + 4, none⟩) hbl2).trans e4
      go_upto_region 5 with (fail)
      go_cut [7, 9] (fun v er wx => ∃ (g9 : Nat) (B2 : Option Addr) (d2 : Nat) (fs2 : List Fct), v = .pointer (some ⟨g9, 0, none⟩) ∧ er = .int .i64 0 ∧ Hid (BOk q fs2) ∧ Hid (fs2.Perm (f :: fs')) ∧ Bl wx g9 27 #[.int .i64 q.id, .int .i64 q.vol, .int .i64 q.fr, .int .i64 q.tod, .slice B2 (k + 1) d2] ∧ wx.ownsRow wr.heap.size 47 5 (.slice B2 (k + 1) d2) (k + 1) (flat encF fs2) ∧ RowKit.Below wr.heap.size wr wx)
      case first =>
        go_region_held3 (fun w' => w'.cell? ⟨w.heap.size + 1 + 1, 0, none⟩ = some (.int .i64 q.id) ∧ w'.cell? ⟨w.heap.size + 1 + 1, 1, none⟩ = some (.int .i64 q.vol) ∧ w'.cell? ⟨w.heap.size + 1 + 1, 2, none⟩ = some (.int .i64 q.fr) ∧ w'.cell? ⟨w.heap.size + 1 + 1, 3, none⟩ = some (.int .i64 q.tod) ∧ w'.cell? ⟨w.heap.size + 1 + 1, 4, none⟩ = some (.slice B k dd) ∧ w'.cell? ⟨b, off + k * 5, none⟩ = some (.int .i64 f.num) ∧ w'.cell? ⟨b, off + k * 5 + 1, none⟩ = some (.int .i64 f.kind) ∧ w'.cell? ⟨b, off + k * 5 + 2, none⟩ = some (.int .i64 f.day) ∧ w'.cell? ⟨b, off + k * 5 + 3, none⟩ = some (.int .i64 f.id) ∧ w'.cell? ⟨b, off + k * 5 + 4, none⟩ = some (.int .i64 f.qty))
          (first
            | with_reducible exact ⟨(HY4.out.keep hb5.out).c0, (HY4.out.keep hb5.out).c1, (HY4.out.keep hb5.out).c2, (HY4.out.keep hb5.out).c3, (HY4.out.keep hb5.out).c4, HC0.out _ hb5.out, HC1.out _ hb5.out, HC2.out _ hb5.out, HC3.out _ hb5.out, HC4.out _ hb5.out⟩
            | with_reducible exact ⟨((HY4.out.keep hb5.out).alloc _).c0, ((HY4.out.keep hb5.out).alloc _).c1, ((HY4.out.keep hb5.out).alloc _).c2, ((HY4.out.keep hb5.out).alloc _).c3, ((HY4.out.keep hb5.out).alloc _).c4, HC0.out _ (hb5.out.alloc hb5.out.size _), HC1.out _ (hb5.out.alloc hb5.out.size _), HC2.out _ (hb5.out.alloc hb5.out.size _), HC3.out _ (hb5.out.alloc hb5.out.size _), HC4.out _ (hb5.out.alloc hb5.out.size _)⟩
            | with_reducible exact ⟨((HY4.out.keep hb5.out).far5 ln3 _ _ _ _ _).c0, ((HY4.out.keep hb5.out).far5 ln3 _ _ _ _ _).c1, ((HY4.out.keep hb5.out).far5 ln3 _ _ _ _ _).c2, ((HY4.out.keep hb5.out).far5 ln3 _ _ _ _ _).c3, ((HY4.out.keep hb5.out).far5 ln3 _ _ _ _ _).c4, HC0.out _ (put5 hb5.out (Nat.le_refl _) _ _ _ _ _), HC1.out _ (put5 hb5.out (Nat.le_refl _) _ _ _ _ _), HC2.out _ (put5 hb5.out (Nat.le_refl _) _ _ _ _ _), HC3.out _ (put5 hb5.out (Nat.le_refl _) _ _ _ _ _), HC4.out _ (put5 hb5.out (Nat.le_refl _) _ _ _ _ _)⟩
            | go_keep)
          (first
            | (go_at_call 15; with_reducible (refine (HCW.out _ HBN.out).mono ?_); rintro e w5 ⟨B2, d2, C2, m2, c2, fs2, rfl, HO2, HP2, ho5, hb5, _⟩; have l5 : w.heap.size + 1 + 1 < w5.heap.size := Nat.lt_of_lt_of_le l1 hb5.out.size; have l6 : b < w5.heap.size := Nat.lt_of_lt_of_le hbl2 hb5.out.size)
            | (go_at_call 15; with_reducible (refine (HCW.out _ HBA.out).mono ?_); rintro e w5 ⟨B2, d2, C2, m2, c2, fs2, rfl, HO2, HP2, ho5, hb5, hbx'⟩; have l5 : w.heap.size + 1 + 1 < w5.heap.size := Nat.lt_of_lt_of_le l1 hb5.out.size; have l6 : b < w5.heap.size := Nat.lt_of_lt_of_le hbl2 hb5.out.size; have HZ5 := Lib.hid (((Bl.new wr 27 #[.int .i64 0, .int .i64 0, .int .i64 0, .int .i64 0, .slice none 0 0]).drew).keep hbx'.out); clear hbx'; have z0 := HZ5.out.c0; have zf0 := HZ5.out.free 0; have z1 := HZ5.out.c1; have zf1 := HZ5.out.free 1; have z2 := HZ5.out.c2; have zf2 := HZ5.out.free 2; have z3 := HZ5.out.c3; have zf3 := HZ5.out.free 3; have z4 := HZ5.out.c4; have zf4 := HZ5.out.free 4; have ln3 := Nat.ne_of_lt l1; have ln4 := Nat.ne_of_lt hbl2))
        · go_wp2_with fail
          go_meet
          exact ⟨_, B2, d2, fs2, rfl, rfl, HO2, HP2, Bl.new _ _ _, own_alloc ho5.out _, hb5.out.alloc hb5.out.size _⟩
        · go_wp2_with fail
          go_meet
          exact ⟨_, B2, d2, fs2, rfl, rfl, HO2, HP2, set5_bl HZ5.out _ _ _ _ _, own5 ho5.out (own_apart_eq ho5.out HZ5.out (by decide)) _ _ _ _ _, put5 hb5.out (Nat.le_refl _) _ _ _ _ _⟩
      case rest =>
        obtain ⟨g9, B2, d2, fs2, rfl, rfl, HO2, HP2, hx9, ho9, hb9⟩ := hcut
        have hy9 := HY4.out.keep hb9
        have HY9 := Lib.hid hy9
        have HO9 := Lib.hid ho9
        have HB9 := Lib.hid hb9
        have HR9 := Lib.hid (HR4.out.keep hb9)
        have HPK : Hid (fs2.Perm (l.take (k + 1))) := HP2.out.trans HPF.out.symm
        have HNR : Hid (w.heap.size + 1 ≠ w.heap.size + 1 + 1) := by show _ ≠ _; omega
        have s0 := HY9.out.c0
        have sf0 := HY9.out.free 0
        have x0 := hx9.c0
        have s1 := HY9.out.c1
        have sf1 := HY9.out.free 1
        have x1 := hx9.c1
        have s2 := HY9.out.c2
        have sf2 := HY9.out.free 2
        have x2 := hx9.c2
        have s3 := HY9.out.c3
        have sf3 := HY9.out.free 3
        have x3 := hx9.c3
        have s4 := HY9.out.c4
        have sf4 := HY9.out.free 4
        have x4 := hx9.c4
        clear hy9 hx9 ho9 hb9 y0 y1 y2 y3 y4 e0 e1 e2 e3 e4
        go_wp2_with fail
        go_roundw
        case rel => exact ⟨k + 1, B2, d2, fs2, by go_num, by omega, HO2, HPK, set5_bl HY9.out _ _ _ _ _, own5 (own_mono HO9.out HB4.out.size) (own_apart_eq HO9.out HY9.out (by decide)) _ _ _ _ _, HR9.out.far5 HNR.out _ _ _ _ _, put5 (HB4.out.trans (HB9.out.mono HB4.out.size)) (by omega) _ _ _ _ _⟩
        case measure => simp [intOf]; omega
    · obtain rfl : n = k := by omega
      have hd0 : decide ((n : Int) < n) = false := by simp
      rw [List.take_of_length_le (by have := HL.out; omega)] at HPM
      have HR4 := Lib.hid hr
      have HO4 := Lib.hid ho
      have HB4 := Lib.hid hb
      have y0 := hy4.c0
      have r0 := hr.c0
      have rf0 := hr.free 0
      have y1 := hy4.c1
      have r1 := hr.c1
      have rf1 := hr.free 1
      have y2 := hy4.c2
      have r2 := hr.c2
      have rf2 := hr.free 2
      have y3 := hy4.c3
      have r3 := hr.c3
      have rf3 := hr.free 3
      have y4 := hy4.c4
      have r4 := hr.c4
      have rf4 := hr.free 4
      clear hy4 ho hr hb hlt
      go_wp2
      refine bodyPost_ret (v := .agg #[.int .i64 q.id, .int .i64 q.vol, .int .i64 q.fr, .int .i64 q.tod, .slice B n dd]) (by simp [results, Tryz.results4, go_sem, r0, r1, r2, r3, r4]) rfl ?_
      exact ⟨B, dd, fs', rfl, HOK.out, HPM.out, own5 HO4.out (own_apart_eq HO4.out HR4.out (by decide)) _ _ _ _ _, put5 HB4.out (by omega) _ _ _ _ _⟩
end Go.Proofs.YtemhiifgplaldaaGreat

namespace Go.Proofs.YtemhiifgplaldaaGreat
open Go.RowKit
set_option linter.unusedVariables false

theorem pos_exists (os : List Ak) (id : Int) : ∃ k, k ≤ os.length ∧ (∀ j, j < k → os[j]!.id < id) ∧ (k < os.length → ¬ os[k]!.id < id) := by
  induction os with
  | nil => exact ⟨0, Nat.le_refl _, fun j hj => by omega, fun h => by simp at h⟩
  | cons o os ih =>
    by_cases e : o.id < id
    · obtain ⟨k, h1, h2, h3⟩ := ih
      refine ⟨k + 1, by simp; omega, fun j hj => ?_, fun h => ?_⟩
      · cases j with
        | zero => simpa using e
        | succ j => simpa using h2 j (by omega)
      · simpa using h3 (by simpa using h)
    · exact ⟨0, Nat.zero_le _, fun j hj => by omega, fun _ => by simpa using e⟩
theorem askP_exists (fs : List Fct) (n : Nat) (hn : n ≤ fs.length) : ∃ os, AskP (fs.take n) os := by
  induction n with
  | zero => exact ⟨[], by simpa using AskP.nil⟩
  | succ n ih =>
    obtain ⟨os, h⟩ := ih (by omega)
    rw [List.take_succ_eq_append_getElem (by omega)]
    by_cases hk : fs[n].kind = 1
    · by_cases he : ∃ o ∈ os, o.id = fs[n].id
      · exact ⟨os, h.hit he⟩
      · obtain ⟨k, h1, h2, h3⟩ := pos_exists os fs[n].id
        refine ⟨_, h.ins hk h1 h2 fun h4 => ?_⟩
        have h5 := h3 h4
        have h6 : os[k]!.id ≠ fs[n].id := fun e => he ⟨os[k]!, by rw [getElem!_pos os k h4]; exact List.getElem_mem _, e⟩
        omega
    · exact ⟨os, h.skip hk⟩
theorem effP_exists (fs : List Fct) (hf : ∀ x ∈ fs, 0 ≤ x.qty) : ∃ os, EffP fs fs os := by
  obtain ⟨os, h⟩ := askP_exists fs fs.length (Nat.le_refl _)
  rw [List.take_length] at h
  have h0 := h.eff hf
  have : ∀ n, n ≤ fs.length → ∃ os, EffP fs (fs.take n) os := by
    intro n
    induction n with
    | zero => intro _; exact ⟨os, by simpa using h0⟩
    | succ n ih =>
      intro hn
      obtain ⟨o1, h1⟩ := ih (by omega)
      rw [List.take_succ_eq_append_getElem (by omega)]
      exact ⟨_, h1.step (hf _ (List.getElem_mem _))⟩
  obtain ⟨o1, h1⟩ := this fs.length (Nat.le_refl _)
  rw [List.take_length] at h1
  exact ⟨o1, h1⟩
/-- What the law asks of one package. -/
structure Asks (ge ba ex : FuncId) (W : World) (bk : Value) (id : Int) (e0 e1 e2 e3 e4 : Int) (is : Bool) (gs : List (Int × Int)) (bal : Int) : Prop where
  g : ∀ wx, RowKit.Below W.heap.size W wx → Calls Tryz.prog ge #[bk] wx fun e w' => ∃ (C : Option Addr) (mm dd : Nat), e = .returned (.slice C mm dd) ∧ mm ≤ 200 ∧ Hid (Recs enc2 2 w' C mm gs) ∧ Hid (RowKit.Below W.heap.size W w') ∧ Hid (RowKit.Below wx.heap.size wx w')
  b : ∀ wx, RowKit.Below W.heap.size W wx → Calls Tryz.prog ba #[bk] wx fun e w' => e = .returned (.int .i64 bal) ∧ Hid (RowKit.Below W.heap.size W w') ∧ Hid (RowKit.Below wx.heap.size wx w')
  x : ∀ wx, RowKit.Below W.heap.size W wx → Calls Tryz.prog ex #[bk, .int .i64 id] wx fun e w' => e = .returned (.tuple #[.agg #[.int .i64 e0, .int .i64 e1, .int .i64 e2, .int .i64 e3, .int .i64 e4], .bool is]) ∧ Hid (RowKit.Below W.heap.size W w') ∧ Hid (RowKit.Below wx.heap.size wx w')
theorem book_both (q : Qt) (B : Option Addr) (n d : Nat) (fs : List Fct) (id : Int) (W : World) (h : Recs encF 5 W B n fs) (hn : n ≤ 260) :
    ∃ e0 e1 e2 e3 e4 is gs bal, Asks 11 13 8 W (.agg #[.int .i64 q.id, .int .i64 q.vol, .int .i64 q.fr, .int .i64 q.tod, .slice B n d]) id e0 e1 e2 e3 e4 is gs bal ∧ Asks 12 14 9 W (.agg #[.int .i64 q.id, .int .i64 q.vol, .int .i64 q.fr, .int .i64 q.tod, .slice B n d]) id e0 e1 e2 e3 e4 is gs bal := by
  by_cases hb : bErr q fs = 0
  · obtain ⟨h1, h2, h3, h4⟩ := bErr_zero hb
    have hok : BOk q fs := ⟨h1, h2, h3, h4⟩
    obtain ⟨os, hos⟩ := effP_exists fs fun x hx => by have := hok.good.ok x hx; unfold FOk at this; omega
    obtain ⟨gs, bal, hst⟩ := settled_of hos q.vol
    obtain ⟨e0, e1, e2, e3, e4, is, hev⟩ : ∃ e0 e1 e2 e3 e4 is, ExVal gs id = (.agg #[.int .i64 e0, .int .i64 e1, .int .i64 e2, .int .i64 e3, .int .i64 e4], is) := by
      unfold ExVal
      split
      · exact ⟨_, _, _, _, _, _, rfl⟩
      · exact ⟨_, _, _, _, _, _, rfl⟩
    have hG : ∀ {wx w' e}, RowKit.Below W.heap.size W wx → GrRes wx q fs e w' → ∃ (C : Option Addr) (mm dd : Nat), e = .returned (.slice C mm dd) ∧ mm ≤ 200 ∧ Hid (Recs enc2 2 w' C mm (grs gs)) ∧ Hid (RowKit.Below W.heap.size W w') ∧ Hid (RowKit.Below wx.heap.size wx w') := by
      rintro wx w' e hbx ⟨C, m, dd, gs2, bal2, a1, a2, a3, a4, a5, a6⟩
      obtain ⟨rfl, _⟩ := a2.unique hst
      exact ⟨C, m, dd, a1, a4, Recs.of_own enc2_len a5 (by rw [grs_len, a3]), hbx.trans (a6.mono hbx.size), a6⟩
    have hB : ∀ {wx w' e}, RowKit.Below W.heap.size W wx → BalRes wx q fs e w' → e = .returned (.int .i64 bal) ∧ Hid (RowKit.Below W.heap.size W w') ∧ Hid (RowKit.Below wx.heap.size wx w') := by
      rintro wx w' e hbx ⟨gs2, bal2, a1, a2, a3⟩
      obtain ⟨_, rfl⟩ := a2.unique hst
      exact ⟨a1, hbx.trans (a3.mono hbx.size), a3⟩
    have hX : ∀ {wx w' e}, RowKit.Below W.heap.size W wx → ExRes wx q fs id e w' → e = .returned (.tuple #[.agg #[.int .i64 e0, .int .i64 e1, .int .i64 e2, .int .i64 e3, .int .i64 e4], .bool is]) ∧ Hid (RowKit.Below W.heap.size W w') ∧ Hid (RowKit.Below wx.heap.size wx w') := by
      rintro wx w' e hbx ⟨gs2, bal2, a2, a1, a3⟩
      obtain ⟨rfl, _⟩ := a2.unique hst
      rw [hev] at a1
      exact ⟨a1, hbx.trans (a3.mono hbx.size), a3⟩
    exact ⟨e0, e1, e2, e3, e4, is, grs gs, bal,
      ⟨fun wx hbx => (grants_any q B n d fs wx (h.below hbx) hok).mono fun e w' a => hG hbx a, fun wx hbx => (balance_any q B n d fs wx (h.below hbx) hok).mono fun e w' a => hB hbx a, fun wx hbx => (explain_any q B n d fs id wx (h.below hbx) hok).mono fun e w' a => hX hbx a⟩,
      ⟨fun wx hbx => (rgrants_any q B n d fs wx (h.below hbx) hok).mono fun e w' a => hG hbx a, fun wx hbx => (rbalance_any q B n d fs wx (h.below hbx) hok).mono fun e w' a => hB hbx a, fun wx hbx => (rexplain_any q B n d fs id wx (h.below hbx) hok).mono fun e w' a => hX hbx a⟩⟩
  · have hn2 : n ≤ 1000000 := by omega
    have h0 : ∀ w' : World, Recs enc2 2 w' none 0 [] := fun w' => ⟨rfl, fun h => by omega⟩
    exact ⟨0, 0, 0, 0, 0, false, [], 0,
      ⟨fun wx hbx => (grants_bad q B n d fs wx (h.below hbx) hn2 hb).mono fun e w' ⟨a1, a2⟩ => ⟨none, 0, 0, a1, by omega, h0 _, hbx.trans (a2.mono hbx.size), a2⟩, fun wx hbx => (balance_bad q B n d fs wx (h.below hbx) hn2 hb).mono fun e w' ⟨a1, a2⟩ => ⟨a1, hbx.trans (a2.mono hbx.size), a2⟩, fun wx hbx => (explain_bad q B n d fs id wx (h.below hbx) hn2 hb).mono fun e w' ⟨a1, a2⟩ => ⟨a1, hbx.trans (a2.mono hbx.size), a2⟩⟩,
      ⟨fun wx hbx => (rgrants_bad q B n d fs wx (h.below hbx) hn2 hb).mono fun e w' ⟨a1, a2⟩ => ⟨none, 0, 0, a1, by omega, h0 _, hbx.trans (a2.mono hbx.size), a2⟩, fun wx hbx => (rbalance_bad q B n d fs wx (h.below hbx) hn2 hb).mono fun e w' ⟨a1, a2⟩ => ⟨a1, hbx.trans (a2.mono hbx.size), a2⟩, fun wx hbx => (rexplain_bad q B n d fs id wx (h.below hbx) hn2 hb).mono fun e w' ⟨a1, a2⟩ => ⟨a1, hbx.trans (a2.mono hbx.size), a2⟩⟩⟩
end Go.Proofs.YtemhiifgplaldaaGreat

namespace Go.Proofs.YtemhiifgplaldaaGreat
open Go.RowKit
set_option linter.unusedVariables false

def q0 : Qt := ⟨1, 10, 0, 10⟩
def fa1 : Fct := ⟨1, 1, 2, 1, 6⟩
def fa2 : Fct := ⟨2, 1, 3, 2, 6⟩
def fa3 : Fct := ⟨3, 1, 2, 3, 6⟩
theorem reqList_mk {fs : List Fct} {rs : List Rq} (h1 : (rs.map (·.id)).Nodup) (h2 : ∀ id : Int, (∃ r ∈ rs, r.id = id) ↔ (askOf fs id).isSome = true) (h3 : ∀ r ∈ rs, r = rqOf fs r.id) (h4 : rs.Pairwise (fun a b => a.day < b.day ∨ (a.day = b.day ∧ a.id < b.id))) : ReqList fs rs := ⟨h1, h2, h3, fun i j hij hj => by
  have := List.pairwise_iff_getElem.1 h4 i j (by omega) hj hij
  rwa [getElem!_pos rs i (by omega), getElem!_pos rs j hj]⟩
theorem ids_of_pair {gs : List Rq} (h : gs.Pairwise (fun a b => a.id < b.id)) : ∀ i j, i < j → j < gs.length → gs[i]!.id < gs[j]!.id := fun i j hij hj => by
  have := List.pairwise_iff_getElem.1 h i j (by omega) hj hij
  rwa [getElem!_pos gs i (by omega), getElem!_pos gs j hj]
theorem settled12 : Settled [fa1, fa2] 10 [⟨1, 2, 10, 6, 6, 6⟩, ⟨2, 3, 4, 6, 6, 4⟩] 0 := by
  rw [settled_list]
  refine ⟨[⟨1, 2, 0, 0, 6, 0⟩, ⟨2, 3, 0, 0, 6, 0⟩], reqList_mk (by decide) (fun id => ?_) (by decide) (by decide), ?_, ids_of_pair (by decide), by decide⟩
  · simp [askOf, fa1, fa2]
  · rw [show (runD (trSum (trOf [fa1, fa2])) [(⟨1, 2, 0, 0, 6, 0⟩ : Rq), ⟨2, 3, 0, 0, 6, 0⟩].length [⟨1, 2, 0, 0, 6, 0⟩, ⟨2, 3, 0, 0, 6, 0⟩] 10).1 = [⟨1, 2, 10, 6, 6, 6⟩, ⟨2, 3, 4, 6, 6, 4⟩] by decide]
theorem settled123 : Settled [fa1, fa2, fa3] 10 [⟨1, 2, 10, 12, 6, 5⟩, ⟨2, 3, 0, 6, 6, 0⟩, ⟨3, 2, 10, 12, 6, 5⟩] 0 := by
  rw [settled_list]
  refine ⟨[⟨1, 2, 0, 0, 6, 0⟩, ⟨3, 2, 0, 0, 6, 0⟩, ⟨2, 3, 0, 0, 6, 0⟩], reqList_mk (by decide) (fun id => ?_) (by decide) (by decide), ?_, ids_of_pair (by decide), by decide⟩
  · simp [askOf, fa1, fa2, fa3]
    omega
  · rw [show (runD (trSum (trOf [fa1, fa2, fa3])) [(⟨1, 2, 0, 0, 6, 0⟩ : Rq), ⟨3, 2, 0, 0, 6, 0⟩, ⟨2, 3, 0, 0, 6, 0⟩].length [⟨1, 2, 0, 0, 6, 0⟩, ⟨3, 2, 0, 0, 6, 0⟩, ⟨2, 3, 0, 0, 6, 0⟩] 10).1 = [⟨1, 2, 10, 12, 6, 5⟩, ⟨3, 2, 10, 12, 6, 5⟩, ⟨2, 3, 0, 6, 6, 0⟩] by decide]
    exact .cons _ (.swap _ _ _)
theorem ins_eq {fs gs : List Fct} {f : Fct} {I : Nat} {q : Qt} (h : BOk q (fs.take I ++ f :: fs.drop I)) (hg : numAsc gs) (hp : gs.Perm (f :: fs)) : fs.take I ++ f :: fs.drop I = gs :=
  numAsc_ext h.asc hg fun x => (perm_ins fs f I).mem_iff.trans hp.mem_iff.symm

/-- A book behind Apply: its facts, in memory of its own. -/
def Nx (w w' : World) (n : Nat) (fs : List Fct) (B : Option Addr) (d : Nat) : Prop := BOk q0 fs ∧ FRd w' B n d fs ∧ (∀ b off, B = some ⟨b, off, none⟩ → w.heap.size ≤ b) ∧ RowKit.Below w.heap.size w w'
theorem nx_of {w w' : World} {n d : Nat} {fs : List Fct} {B : Option Addr} (h : BOk q0 fs) (hl : fs.length = n) (ho : w'.ownsRow w.heap.size 47 5 (.slice B n d) n (flat encF fs)) (hb : RowKit.Below w.heap.size w w') : Nx w w' n fs B d :=
  ⟨h, FRd.own ho hl, fun b off e => own_base ho b (by rw [e]; rfl), hb⟩
theorem step1 (w : World) : Calls Tryz.prog 21 #[.agg #[.int .i64 1, .int .i64 10, .int .i64 0, .int .i64 10, .slice none 0 0], .agg #[.int .i64 1, .int .i64 1, .int .i64 2, .int .i64 1, .int .i64 6]] w fun e w' => ∃ B d C m d2, e = .returned (.tuple #[.agg #[.int .i64 1, .int .i64 10, .int .i64 0, .int .i64 10, .slice B 1 d], .slice C m d2, .int .i64 0]) ∧ Nx w w' 1 [fa1] B d := by
  refine (apply_new q0 none 0 0 [] fa1 w (FRd.empty w) (BOk.nil (by decide)) (by decide) (fun x hx => by cases hx) (by decide)).mono ?_
  rintro e w' ⟨I, B, d, C, m, d2, ga, gb, ba, bb, h1, h2, h3, h4, h5, h6, h7, h8⟩
  have e1 := ins_eq h2 (gs := [fa1]) (by decide) (List.Perm.refl _)
  rw [e1] at h2 h6
  exact ⟨B, d, C, m, d2, h1, nx_of h2 rfl h6 h8⟩
theorem step2 (A : Option Addr) (c : Nat) (w : World) (h : FRd w A 1 c [fa1]) (hb : BOk q0 [fa1]) : Calls Tryz.prog 21 #[.agg #[.int .i64 1, .int .i64 10, .int .i64 0, .int .i64 10, .slice A 1 c], .agg #[.int .i64 2, .int .i64 1, .int .i64 3, .int .i64 2, .int .i64 6]] w fun e w' => ∃ B d C m d2, e = .returned (.tuple #[.agg #[.int .i64 1, .int .i64 10, .int .i64 0, .int .i64 10, .slice B 2 d], .slice C m d2, .int .i64 0]) ∧ Nx w w' 2 [fa1, fa2] B d := by
  refine (apply_new q0 A 1 c [fa1] fa2 w h hb (by decide) (by decide) (by decide)).mono ?_
  rintro e w' ⟨I, B, d, C, m, d2, ga, gb, ba, bb, h1, h2, h3, h4, h5, h6, h7, h8⟩
  have e1 := ins_eq h2 (gs := [fa1, fa2]) (by decide) (List.Perm.swap _ _ _)
  rw [e1] at h2 h6
  exact ⟨B, d, C, m, d2, h1, nx_of h2 rfl h6 h8⟩
def chA : List Cg := [⟨1, 6, 5⟩, ⟨2, 4, 0⟩, ⟨3, 0, 5⟩]
theorem step3 (A : Option Addr) (c : Nat) (w : World) (h : FRd w A 2 c [fa1, fa2]) (hb : BOk q0 [fa1, fa2]) : Calls Tryz.prog 21 #[.agg #[.int .i64 1, .int .i64 10, .int .i64 0, .int .i64 10, .slice A 2 c], .agg #[.int .i64 3, .int .i64 1, .int .i64 2, .int .i64 3, .int .i64 6]] w fun e w' => ∃ B d C d2, e = .returned (.tuple #[.agg #[.int .i64 1, .int .i64 10, .int .i64 0, .int .i64 10, .slice B 3 d], .slice C 3 d2, .int .i64 0]) ∧ w'.ownsRow w.heap.size 58 3 (.slice C 3 d2) 3 (flat encG chA) ∧ Nx w w' 3 [fa1, fa2, fa3] B d := by
  refine (apply_new q0 A 2 c [fa1, fa2] fa3 w h hb (by decide) (by decide) (by decide)).mono ?_
  rintro e w' ⟨I, B, d, C, m, d2, ga, gb, ba, bb, h1, h2, h3, h4, h5, h6, h7, h8⟩
  have e1 := ins_eq h2 (gs := [fa1, fa2, fa3]) (by decide) ((List.Perm.cons _ (List.Perm.swap _ _ _)).trans (List.Perm.swap _ _ _))
  rw [e1] at h2 h4 h6
  obtain ⟨rfl, _⟩ := h3.unique settled12
  obtain ⟨rfl, _⟩ := h4.unique settled123
  rw [show chgs [⟨1, 2, 10, 6, 6, 6⟩, ⟨2, 3, 4, 6, 6, 4⟩] [⟨1, 2, 10, 12, 6, 5⟩, ⟨2, 3, 0, 6, 6, 0⟩, ⟨3, 2, 10, 12, 6, 5⟩] = chA by decide] at h5 h7
  obtain rfl : m = 3 := h5.symm
  exact ⟨B, d, C, d2, h1, h7, nx_of h2 rfl h6 h8⟩
theorem step4 (A : Option Addr) (c : Nat) (w : World) (h : FRd w A 3 c [fa1, fa2, fa3]) (hb : BOk q0 [fa1, fa2, fa3]) : Calls Tryz.prog 13 #[.agg #[.int .i64 1, .int .i64 10, .int .i64 0, .int .i64 10, .slice A 3 c]] w fun e w' => e = .returned (.int .i64 0) ∧ RowKit.Below w.heap.size w w' := by
  refine (balance_any q0 A 3 c [fa1, fa2, fa3] w h.recs hb).mono ?_
  rintro e w' ⟨gs, bal, h1, h2, h3⟩
  obtain ⟨_, rfl⟩ := h2.unique settled123
  exact ⟨h1, h3⟩
theorem step0 (w : World) : Calls Tryz.prog 20 #[.agg #[.int .i64 1, .int .i64 10, .int .i64 0, .int .i64 10]] w fun e w' => e = .returned (.tuple #[.agg #[.int .i64 1, .int .i64 10, .int .i64 0, .int .i64 10, .slice none 0 0], .int .i64 0]) ∧ RowKit.Below w.heap.size w w' := new_ok q0 w (by decide)

theorem chA_recs (w : World) : Recs encG 3 (w.alloc (.cells #[.int .i64 1, .int .i64 6, .int .i64 5, .int .i64 2, .int .i64 4, .int .i64 0, .int .i64 3, .int .i64 0, .int .i64 5] 58)) (some ⟨w.heap.size, 0, none⟩) 3 chA := by
  refine ⟨rfl, fun _ => ⟨w.heap.size, 0, rfl, by simp, fun i hi c hc => ?_⟩⟩
  rw [Nat.zero_add, (Bl.new w 58 _).cell]
  rcases (show i = 0 ∨ i = 1 ∨ i = 2 by omega) with rfl | rfl | rfl <;> rcases (show c = 0 ∨ c = 1 ∨ c = 2 by omega) with rfl | rfl | rfl <;> rfl

set_option maxRecDepth 100000 in
set_option maxHeartbeats 4000000 in
theorem awake22_any (w : World) : Calls Tryz.prog 7 #[] w (BRes w true) := by
  have H0 := Lib.hid step0
  have H1 := Lib.hid step1
  have H2 := Lib.hid step2
  have H3 := Lib.hid step3
  have H4 := Lib.hid step4
  go_enter Tryz.func7, Tryz.ntmps7
  go_wp2_with fail
  refine (H0.out _).mono ?_
  rintro e w1 ⟨rfl, hb1⟩
  have hx1 := Bl.new w1 27 #[.int .i64 1, .int .i64 10, .int .i64 0, .int .i64 10, .slice none 0 0]
  have hB1 : RowKit.Below w.heap.size w (w1.alloc (.cells #[.int .i64 1, .int .i64 10, .int .i64 0, .int .i64 10, .slice none 0 0] 27)) := hb1.alloc hb1.size _
  have hg := hb1.size
  go_upto_region 2 with (fail)
  generalize w1.alloc (.cells #[.int .i64 1, .int .i64 10, .int .i64 0, .int .i64 10, .slice none 0 0] 27) = W1 at *
  generalize w1.heap.size = g at *
  clear hb1
  have p0 : W1.cell? ⟨g, 0, none⟩ = some (.int .i64 1) := hx1.c0
  have p1 : W1.cell? ⟨g, 1, none⟩ = some (.int .i64 10) := hx1.c1
  have p2 : W1.cell? ⟨g, 2, none⟩ = some (.int .i64 0) := hx1.c2
  have p3 : W1.cell? ⟨g, 3, none⟩ = some (.int .i64 10) := hx1.c3
  have p4 : W1.cell? ⟨g, 4, none⟩ = some (.slice none 0 0) := hx1.c4
  go_wp2_with fail
  refine (H1.out _).mono ?_
  rintro e v1 ⟨B1, d1, C1, m1, c1, rfl, hO, hF, hbb, hb⟩
  have hy := hx1.keep hb
  have hne : ∀ b off, B1 = some ⟨b, off, none⟩ → b ≠ g := fun b off e q => by have := hbb b off e; have := hx1.lt; omega
  have hx2 := set5_bl hy (.int .i64 1) (.int .i64 10) (.int .i64 0) (.int .i64 10) (.slice B1 1 d1)
  have hF2 := hF.set5 hne (.int .i64 1) (.int .i64 10) (.int .i64 0) (.int .i64 10) (.slice B1 1 d1)
  have hB2 := put5 (hB1.trans (hb.mono hB1.size)) hg (.int .i64 1) (.int .i64 10) (.int .i64 0) (.int .i64 10) (.slice B1 1 d1)
  have hO2 := Lib.hid hO
  clear p0 p1 p2 p3 p4 hx1 hB1 hF hO hbb hb hne
  have r0 : v1.cell? ⟨g, 0, none⟩ = some (.int .i64 1) := hy.c0
  have r1 : v1.cell? ⟨g, 1, none⟩ = some (.int .i64 10) := hy.c1
  have r2 : v1.cell? ⟨g, 2, none⟩ = some (.int .i64 0) := hy.c2
  have r3 : v1.cell? ⟨g, 3, none⟩ = some (.int .i64 10) := hy.c3
  have r4 : v1.cell? ⟨g, 4, none⟩ = some (.slice none 0 0) := hy.c4
  have f0 : v1.frozen? ⟨g, 0, none⟩ = false := hy.free 0
  have f1 : v1.frozen? ⟨g, 1, none⟩ = false := hy.free 1
  have f2 : v1.frozen? ⟨g, 2, none⟩ = false := hy.free 2
  have f3 : v1.frozen? ⟨g, 3, none⟩ = false := hy.free 3
  have f4 : v1.frozen? ⟨g, 4, none⟩ = false := hy.free 4
  clear hy
  go_upto_region 3 with (fail)
  generalize ((((v1.setCell ⟨g, 0, none⟩ (.int .i64 1)).setCell ⟨g, 1, none⟩ (.int .i64 10)).setCell ⟨g, 2, none⟩ (.int .i64 0)).setCell ⟨g, 3, none⟩ (.int .i64 10)).setCell ⟨g, 4, none⟩ (.slice B1 1 d1) = W2 at *
  clear r0 r1 r2 r3 r4 f0 f1 f2 f3 f4
  have p0 : W2.cell? ⟨g, 0, none⟩ = some (.int .i64 1) := hx2.c0
  have p1 : W2.cell? ⟨g, 1, none⟩ = some (.int .i64 10) := hx2.c1
  have p2 : W2.cell? ⟨g, 2, none⟩ = some (.int .i64 0) := hx2.c2
  have p3 : W2.cell? ⟨g, 3, none⟩ = some (.int .i64 10) := hx2.c3
  have p4 : W2.cell? ⟨g, 4, none⟩ = some (.slice B1 1 d1) := hx2.c4
  go_wp2_with fail
  refine (H2.out _ _ _ hF2 hO2.out).mono ?_
  rintro e v2 ⟨B2, d2, C2, m2, c2, rfl, hO, hF, hbb, hb⟩
  have hy := hx2.keep hb
  have hne : ∀ b off, B2 = some ⟨b, off, none⟩ → b ≠ g := fun b off e q => by have := hbb b off e; have := hx2.lt; omega
  have hx3 := set5_bl hy (.int .i64 1) (.int .i64 10) (.int .i64 0) (.int .i64 10) (.slice B2 2 d2)
  have hF3 := hF.set5 hne (.int .i64 1) (.int .i64 10) (.int .i64 0) (.int .i64 10) (.slice B2 2 d2)
  have hB3 := put5 (hB2.trans (hb.mono hB2.size)) hg (.int .i64 1) (.int .i64 10) (.int .i64 0) (.int .i64 10) (.slice B2 2 d2)
  have hO3 := Lib.hid hO
  clear p0 p1 p2 p3 p4 hx2 hB2 hF hO hbb hb hne
  have r0 : v2.cell? ⟨g, 0, none⟩ = some (.int .i64 1) := hy.c0
  have r1 : v2.cell? ⟨g, 1, none⟩ = some (.int .i64 10) := hy.c1
  have r2 : v2.cell? ⟨g, 2, none⟩ = some (.int .i64 0) := hy.c2
  have r3 : v2.cell? ⟨g, 3, none⟩ = some (.int .i64 10) := hy.c3
  have r4 : v2.cell? ⟨g, 4, none⟩ = some (.slice B1 1 d1) := hy.c4
  have f0 : v2.frozen? ⟨g, 0, none⟩ = false := hy.free 0
  have f1 : v2.frozen? ⟨g, 1, none⟩ = false := hy.free 1
  have f2 : v2.frozen? ⟨g, 2, none⟩ = false := hy.free 2
  have f3 : v2.frozen? ⟨g, 3, none⟩ = false := hy.free 3
  have f4 : v2.frozen? ⟨g, 4, none⟩ = false := hy.free 4
  clear hy
  go_upto_region 4 with (fail)
  generalize ((((v2.setCell ⟨g, 0, none⟩ (.int .i64 1)).setCell ⟨g, 1, none⟩ (.int .i64 10)).setCell ⟨g, 2, none⟩ (.int .i64 0)).setCell ⟨g, 3, none⟩ (.int .i64 10)).setCell ⟨g, 4, none⟩ (.slice B2 2 d2) = W3 at *
  clear r0 r1 r2 r3 r4 f0 f1 f2 f3 f4
  have p0 : W3.cell? ⟨g, 0, none⟩ = some (.int .i64 1) := hx3.c0
  have p1 : W3.cell? ⟨g, 1, none⟩ = some (.int .i64 10) := hx3.c1
  have p2 : W3.cell? ⟨g, 2, none⟩ = some (.int .i64 0) := hx3.c2
  have p3 : W3.cell? ⟨g, 3, none⟩ = some (.int .i64 10) := hx3.c3
  have p4 : W3.cell? ⟨g, 4, none⟩ = some (.slice B2 2 d2) := hx3.c4
  go_wp2_with fail
  refine (H3.out _ _ _ hF3 hO3.out).mono ?_
  rintro e v3 ⟨B3, d3, C3, c3, rfl, hch, hO, hF, hbb, hb⟩
  have hy := hx3.keep hb
  have hne : ∀ b off, B3 = some ⟨b, off, none⟩ → b ≠ g := fun b off e q => by have := hbb b off e; have := hx3.lt; omega
  have hx4 := set5_bl hy (.int .i64 1) (.int .i64 10) (.int .i64 0) (.int .i64 10) (.slice B3 3 d3)
  have hF4 := hF.set5 hne (.int .i64 1) (.int .i64 10) (.int .i64 0) (.int .i64 10) (.slice B3 3 d3)
  have hB4 := put5 (hB3.trans (hb.mono hB3.size)) hg (.int .i64 1) (.int .i64 10) (.int .i64 0) (.int .i64 10) (.slice B3 3 d3)
  have hO4 := Lib.hid hO
  have hch4 := own5 (own_mono hch (Nat.zero_le _)) (fun j hj e => own_apart hch hy (by decide) (by rw [hj, e])) (.int .i64 1) (.int .i64 10) (.int .i64 0) (.int .i64 10) (.slice B3 3 d3)
  clear p0 p1 p2 p3 p4 hx3 hB3 hF hO hbb hb hne hch
  have r0 : v3.cell? ⟨g, 0, none⟩ = some (.int .i64 1) := hy.c0
  have r1 : v3.cell? ⟨g, 1, none⟩ = some (.int .i64 10) := hy.c1
  have r2 : v3.cell? ⟨g, 2, none⟩ = some (.int .i64 0) := hy.c2
  have r3 : v3.cell? ⟨g, 3, none⟩ = some (.int .i64 10) := hy.c3
  have r4 : v3.cell? ⟨g, 4, none⟩ = some (.slice B2 2 d2) := hy.c4
  have f0 : v3.frozen? ⟨g, 0, none⟩ = false := hy.free 0
  have f1 : v3.frozen? ⟨g, 1, none⟩ = false := hy.free 1
  have f2 : v3.frozen? ⟨g, 2, none⟩ = false := hy.free 2
  have f3 : v3.frozen? ⟨g, 3, none⟩ = false := hy.free 3
  have f4 : v3.frozen? ⟨g, 4, none⟩ = false := hy.free 4
  clear hy
  go_upto_region 5 with (fail)
  generalize ((((v3.setCell ⟨g, 0, none⟩ (.int .i64 1)).setCell ⟨g, 1, none⟩ (.int .i64 10)).setCell ⟨g, 2, none⟩ (.int .i64 0)).setCell ⟨g, 3, none⟩ (.int .i64 10)).setCell ⟨g, 4, none⟩ (.slice B3 3 d3) = W4 at *
  clear r0 r1 r2 r3 r4 f0 f1 f2 f3 f4
  have HSC := Lib.hid (sameChanges_true C3 (some ⟨W4.heap.size, 0, none⟩) 3 c3 3 chA (W4.alloc (.cells #[.int .i64 1, .int .i64 6, .int .i64 5, .int .i64 2, .int .i64 4, .int .i64 0, .int .i64 3, .int .i64 0, .int .i64 5] 58)) ((Recs.of_own encG_len hch4 rfl).alloc _) (chA_recs W4) (by omega))
  have hB4a : RowKit.Below w.heap.size w (W4.alloc (.cells #[.int .i64 1, .int .i64 6, .int .i64 5, .int .i64 2, .int .i64 4, .int .i64 0, .int .i64 3, .int .i64 0, .int .i64 5] 58)) := hB4.alloc hB4.size _
  go_wp2_with fail
  refine HSC.out.mono ?_
  rintro e w5 ⟨rfl, hb5⟩
  have hx5 := (hx4.alloc (.cells #[.int .i64 1, .int .i64 6, .int .i64 5, .int .i64 2, .int .i64 4, .int .i64 0, .int .i64 3, .int .i64 0, .int .i64 5] 58)).keep hb5
  have hB5 := hB4a.trans (hb5.mono hB4a.size)
  have hF5 := (hF4.below ((Below.refl _ _).alloc (Nat.le_refl _) (.cells #[.int .i64 1, .int .i64 6, .int .i64 5, .int .i64 2, .int .i64 4, .int .i64 0, .int .i64 3, .int .i64 0, .int .i64 5] 58))).below hb5
  clear HSC hx4 hch4 hF4 hB4 hB4a hb5
  have p0 : w5.cell? ⟨g, 0, none⟩ = some (.int .i64 1) := hx5.c0
  have p1 : w5.cell? ⟨g, 1, none⟩ = some (.int .i64 10) := hx5.c1
  have p2 : w5.cell? ⟨g, 2, none⟩ = some (.int .i64 0) := hx5.c2
  have p3 : w5.cell? ⟨g, 3, none⟩ = some (.int .i64 10) := hx5.c3
  have p4 : w5.cell? ⟨g, 4, none⟩ = some (.slice B3 3 d3) := hx5.c4
  go_wp2_with fail
  refine (H4.out _ _ _ hF5 hO4.out).mono ?_
  rintro e w6 ⟨rfl, hb6⟩
  go_wp2
  go_ret
  exact ⟨rfl, hB5.trans (hb6.mono hB5.size)⟩
end Go.Proofs.YtemhiifgplaldaaGreat

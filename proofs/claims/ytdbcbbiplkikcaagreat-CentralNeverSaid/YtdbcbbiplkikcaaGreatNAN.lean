/-
  The contract of central.New (P37.1). No statement of the seat is proved here. Conditions: the lists read as quotas and guarantees.
-/
import Derived.Test.YtdbcbbiplkikcaaGreatNAK
import Derived.Test.YtdbcbbiplkikcaaGreatNAM
import Derived.Test.YtdbcbbiplkikcaaGreatNAI
namespace Go.Proofs.YtdbcbbiplkikcaaGreat
open Go.RowKit
set_option linter.unusedVariables false

theorem Recs.getQ {w : World} {A : Option Addr} {n : Nat} {xs : List Qt} (h : Recs encQ 4 w A n xs) {i : Nat} (hi : i < n) :
    ∃ b off q, A = some ⟨b, off, none⟩ ∧ b < w.heap.size ∧ w.cell? ⟨b, off + i * 4, none⟩ = some (.int .i64 q.id) ∧ w.cell? ⟨b, off + i * 4 + 1, none⟩ = some (.int .i64 q.vol) ∧ w.cell? ⟨b, off + i * 4 + 2, none⟩ = some (.int .i64 q.fr) ∧ w.cell? ⟨b, off + i * 4 + 3, none⟩ = some (.int .i64 q.tod) ∧ Hid (xs[i]! = q) := by
  obtain ⟨b, off, e, hlt, hc⟩ := h.at_ hi
  exact ⟨b, off, xs[i]!, e, hlt, hc 0 (by omega), hc 1 (by omega), hc 2 (by omega), hc 3 (by omega), rfl⟩
theorem Recs.getG {w : World} {A : Option Addr} {n : Nat} {xs : List Gb} (h : Recs encGu 4 w A n xs) {i : Nat} (hi : i < n) :
    ∃ b off g, A = some ⟨b, off, none⟩ ∧ b < w.heap.size ∧ w.cell? ⟨b, off + i * 4, none⟩ = some (.int .i64 g.h.id) ∧ w.cell? ⟨b, off + i * 4 + 1, none⟩ = some (.int .i64 g.h.ref) ∧ w.cell? ⟨b, off + i * 4 + 2, none⟩ = some (.int .i64 g.h.lev) ∧ w.cell? ⟨b, off + i * 4 + 3, none⟩ = some (.slice g.A g.n g.c) ∧ Hid (xs[i]! = g) := by
  obtain ⟨b, off, e, hlt, hc⟩ := h.at_ hi
  exact ⟨b, off, xs[i]!, e, hlt, hc 0 (by omega), hc 1 (by omega), hc 2 (by omega), hc 3 (by omega), rfl⟩

theorem newErr_q16 {qs : List Qt} {gs : List Gb} (h : 16 < qs.length) : newErr qs gs = 8 := by unfold newErr; rw [if_pos (.inl h)]
theorem newErr_g16 {qs : List Qt} {gs : List Gb} (h : 16 < gs.length) : newErr qs gs = 8 := by unfold newErr; rw [if_pos (.inr h)]
theorem newErr_q {qs : List Qt} {gs : List Gb} (h1 : qs.length ≤ 16) (h2 : gs.length ≤ 16) {k : Nat} (hk : k < qs.length) (h : ∀ j, j < k → newQ qs j = 0) {e : Int} (he : newQ qs k = e) (hne : e ≠ 0) : newErr qs gs = e := by
  have := firstErr_at (e := newQ qs) h (by rw [he]; exact hne) qs.length hk
  unfold newErr
  rw [if_neg (by omega), if_neg (by rw [this, he]; exact hne), this, he]
theorem newErr_g {qs : List Qt} {gs : List Gb} (h1 : qs.length ≤ 16) (h2 : gs.length ≤ 16) (hq : ∀ j, j < qs.length → newQ qs j = 0) {k : Nat} (hk : k < gs.length) (h : ∀ j, j < k → newG gs j = 0) {e : Int} (he : newG gs k = e) (hne : e ≠ 0) : newErr qs gs = e := by
  have := firstErr_at (e := newG gs) h (by rw [he]; exact hne) gs.length hk
  unfold newErr
  rw [if_neg (by omega), if_pos (firstErr_zero hq), this, he]
theorem newErr_ok {qs : List Qt} {gs : List Gb} (h1 : qs.length ≤ 16) (h2 : gs.length ≤ 16) (hq : ∀ j, j < qs.length → newQ qs j = 0) (h : ∀ j, j < gs.length → newG gs j = 0) : newErr qs gs = 0 := by
  unfold newErr
  rw [if_neg (by omega), if_pos (firstErr_zero hq), firstErr_zero h]
def hds0 : Hds := ⟨⟨none, 0, 0⟩, ⟨none, 0, 0⟩, ⟨none, 0, 0⟩, ⟨none, 0, 0⟩, ⟨none, 0, 0⟩⟩
def cen0 : Cen := ⟨[], [], [], [], []⟩
theorem CenO.none (N : Nat) (w : World) : CenO N w hds0 cen0 := ⟨own0R _ _, own0B _ _, own0G _ _, own0U _ _, own0S _ _, fun b h => (by cases h), fun b h => (by cases h)⟩
def cenQ (qs : List Qt) (gs : List Gb) : Cen := ⟨[], qs.map bk0, gs.map gr0, [], []⟩
def NewRes (w : World) (qs : List Qt) (gs : List Gb) (e : Ending) (w' : World) : Prop :=
  ∃ (H : Hds) (er : Int), e = .returned (.tuple #[.agg #[.slice H.s.A H.s.n H.s.c, .slice H.q.A H.q.n H.q.c, .slice H.g.A H.g.n H.g.c, .slice H.k.A H.k.n H.k.c, .slice H.m.A H.m.n H.m.c], .int .i64 er]) ∧ er = newErr qs gs ∧ (er = 0 → CenO w.heap.size w' H (cenQ qs gs) ∧ H.s = ⟨none, 0, 0⟩ ∧ H.k = ⟨none, 0, 0⟩ ∧ H.m = ⟨none, 0, 0⟩) ∧ (er ≠ 0 → H = hds0) ∧ RowKit.Below w.heap.size w w'
theorem NewRes.bad {w w' : World} {qs : List Qt} {gs : List Gb} {er : Int} (h : er = newErr qs gs) (hne : er ≠ 0) (hb : RowKit.Below w.heap.size w w') : NewRes w qs gs (.returned (.tuple #[.agg #[.slice none 0 0, .slice none 0 0, .slice none 0 0, .slice none 0 0, .slice none 0 0], .int .i64 er])) w' :=
  ⟨hds0, er, rfl, h, fun h0 => absurd h0 hne, fun _ => rfl, hb⟩
theorem map_take_snoc {α β : Type} [Inhabited α] (f : α → β) (xs : List α) (k : Nat) (hk : k < xs.length) {x : α} (e : xs[k]! = x) : (xs.take (k + 1)).map f = (xs.take k).map f ++ [f x] := by
  rw [List.take_succ_eq_append_getElem hk, List.map_append, ← e, getElem!_pos xs k hk]; rfl

set_option maxRecDepth 100000 in
set_option maxHeartbeats 8000000 in
theorem new37_any (A : Option Addr) (n c : Nat) (B : Option Addr) (m d : Nat) (qs : List Qt) (gs : List Gb) (w : World) (h : Recs encQ 4 w A n qs) (hg : Recs encGu 4 w B m gs) (hu : ∀ g ∈ gs, Recs enc2 2 w g.A g.n g.us) :
    Calls Tryz.prog 6 #[.slice A n c, .slice B m d] w (NewRes w qs gs) := by
  have HL := Lib.hid h.1
  have HM := Lib.hid hg.1
  have HU := Lib.hid hu
  clear hu
  have HNB := Lib.hid (fun q w hq => new_bad q w hq)
  have HNO := Lib.hid (fun q w hq => new_ok q w hq)
  have HVG := Lib.hid (fun g A n c us w h => gvalidate_any g A n c us w h)
  have hz0 := Bl.new w 37 #[.slice none 0 0, .slice none 0 0, .slice none 0 0, .slice none 0 0, .slice none 0 0]
  have hb0 : RowKit.Below w.heap.size w (w.alloc (.cells #[.slice none 0 0, .slice none 0 0, .slice none 0 0, .slice none 0 0, .slice none 0 0] 37)) := (Below.refl _ _).alloc (Nat.le_refl _) _
  have HR := Lib.hid h
  have HG := Lib.hid hg
  clear h hg
  go_enter Tryz.func6, Tryz.ntmps6
  go_upto_region 1 with (fail)
  generalize w.alloc (.cells #[.slice none 0 0, .slice none 0 0, .slice none 0 0, .slice none 0 0, .slice none 0 0] 37) = W0 at *
  have r0 : W0.cell? ⟨w.heap.size, 0, none⟩ = some (.slice none 0 0) := hz0.cell 0
  have rf0 : W0.frozen? ⟨w.heap.size, 0, none⟩ = false := hz0.free 0
  have r1 : W0.cell? ⟨w.heap.size, 1, none⟩ = some (.slice none 0 0) := hz0.cell 1
  have rf1 : W0.frozen? ⟨w.heap.size, 1, none⟩ = false := hz0.free 1
  have r2 : W0.cell? ⟨w.heap.size, 2, none⟩ = some (.slice none 0 0) := hz0.cell 2
  have rf2 : W0.frozen? ⟨w.heap.size, 2, none⟩ = false := hz0.free 2
  have r3 : W0.cell? ⟨w.heap.size, 3, none⟩ = some (.slice none 0 0) := hz0.cell 3
  have rf3 : W0.frozen? ⟨w.heap.size, 3, none⟩ = false := hz0.free 3
  have r4 : W0.cell? ⟨w.heap.size, 4, none⟩ = some (.slice none 0 0) := hz0.cell 4
  have rf4 : W0.frozen? ⟨w.heap.size, 4, none⟩ = false := hz0.free 4
  by_cases hl : 16 < n
  · have E : Hid (8 = newErr qs gs) := (newErr_q16 (by have := HL.out; omega)).symm
    have d1 : decide ((16 : Int) < (n : Int)) = true := by simp; omega
    go_wp2
    refine bodyPost_ret (v := .tuple #[.agg #[.slice none 0 0, .slice none 0 0, .slice none 0 0, .slice none 0 0, .slice none 0 0], .int .i64 8]) (by simp [results, Tryz.results6, go_sem, r0, r1, r2, r3, r4]) rfl ?_
    exact NewRes.bad E.out (by decide) (put5 hb0 (Nat.le_refl _) _ _ _ _ _)
  have d1 : decide ((16 : Int) < (n : Int)) = false := by simp; omega
  by_cases hl2 : 16 < m
  · have E : Hid (8 = newErr qs gs) := (newErr_g16 (by have := HM.out; omega)).symm
    have d2 : decide ((16 : Int) < (m : Int)) = true := by simp; omega
    go_wp2
    refine bodyPost_ret (v := .tuple #[.agg #[.slice none 0 0, .slice none 0 0, .slice none 0 0, .slice none 0 0, .slice none 0 0], .int .i64 8]) (by simp [results, Tryz.results6, go_sem, r0, r1, r2, r3, r4]) rfl ?_
    exact NewRes.bad E.out (by decide) (put5 hb0 (Nat.le_refl _) _ _ _ _ _)
  have d2 : decide ((16 : Int) < (m : Int)) = false := by simp; omega
  have hn16 : n ≤ 16 := by omega
  have hm16 : m ≤ 16 := by omega
  clear hl hl2
  have hs0 := hb0.size
  have hc0 := Bl.new W0 37 #[.slice none 0 0, .slice none 0 0, .slice none 0 0, .slice none 0 0, .slice none 0 0]
  have hb1 := hb0.alloc hb0.size (.cells #[.slice none 0 0, .slice none 0 0, .slice none 0 0, .slice none 0 0, .slice none 0 0] 37)
  have hz1 := hz0.alloc (.cells #[.slice none 0 0, .slice none 0 0, .slice none 0 0, .slice none 0 0, .slice none 0 0] 37)
  have hsz : w.heap.size < W0.heap.size := hz0.lt
  clear r0 r1 r2 r3 r4 rf0 rf1 rf2 rf3 rf4
  go_upto_region 4 with (fail)
  clear hz0 hb0 d1 d2
  generalize W0.alloc (.cells #[.slice none 0 0, .slice none 0 0, .slice none 0 0, .slice none 0 0, .slice none 0 0] 37) = W1 at *
  generalize W0.heap.size = gc at *
  go_wp2_with fail
  go_loopw [25] (fun i wx => ∃ (k : Nat) (Bq : Option Addr) (dq : Nat), k ≤ n ∧ i = .int .i64 k ∧ Hid (∀ j, j < k → newQ qs j = 0) ∧ Hid (Bl wx gc 37 #[.slice none 0 0, .slice Bq k dq, .slice none 0 0, .slice none 0 0, .slice none 0 0]) ∧ Hid (Bl wx w.heap.size 37 #[.slice none 0 0, .slice none 0 0, .slice none 0 0, .slice none 0 0, .slice none 0 0]) ∧ Hid (wx.ownsRow w.heap.size 54 5 (.slice Bq k dq) k (flat encB ((qs.take k).map bk0))) ∧ Hid (RowKit.Below w.heap.size w wx)) (fun i _ => n - (intOf i).toNat)
  case atStart => exact ⟨0, none, 0, Nat.zero_le _, rfl, fun j hj => by omega, hc0, hz1, own0B _ _, hb1⟩
  case round =>
    clear hc0 hz1 hb1
    obtain ⟨k, Bq, dq, hk, rfl, HA, HC, HZ, HO, HB⟩ := hrel
    have hgc := HC.out.lt
    by_cases hlt : k < n
    · obtain ⟨b, off, q, hA, hbl, c0, c1, c2, c3, HX⟩ := (HR.out.below HB.out).getQ hlt
      subst hA
      have hki : (k : Int) < n := by omega
      have hx4 := Bl.new wr 27 #[.int .i64 q.id, .int .i64 q.vol, .int .i64 q.fr, .int .i64 q.tod]
      have HB4 : Hid (RowKit.Below w.heap.size w (wr.alloc (.cells #[.int .i64 q.id, .int .i64 q.vol, .int .i64 q.fr, .int .i64 q.tod] 27))) := HB.out.alloc HB.out.size _
      have HZ4 := Lib.hid (HZ.out.alloc (.cells #[.int .i64 q.id, .int .i64 q.vol, .int .i64 q.fr, .int .i64 q.tod] 27))
      have HC4 := Lib.hid (HC.out.alloc (.cells #[.int .i64 q.id, .int .i64 q.vol, .int .i64 q.fr, .int .i64 q.tod] 27))
      have HO4 := Lib.hid (own_alloc HO.out (.cells #[.int .i64 q.id, .int .i64 q.vol, .int .i64 q.fr, .int .i64 q.tod] 27))
      go_upto_region 7 with (fail)
      clear c0 c1 c2 c3 HB HZ HC HO
      have hgr : gc < wr.heap.size := hgc
      generalize wr.alloc (.cells #[.int .i64 q.id, .int .i64 q.vol, .int .i64 q.fr, .int .i64 q.tod] 27) = W4 at *
      generalize wr.heap.size = g4 at *
      have q0 : W4.cell? ⟨g4, 0, none⟩ = some (.int .i64 q.id) := hx4.cell 0
      have q1 : W4.cell? ⟨g4, 1, none⟩ = some (.int .i64 q.vol) := hx4.cell 1
      have q2 : W4.cell? ⟨g4, 2, none⟩ = some (.int .i64 q.fr) := hx4.cell 2
      have q3 : W4.cell? ⟨g4, 3, none⟩ = some (.int .i64 q.tod) := hx4.cell 3
      cases hq : qOk q
      case false =>
        have HCL := Lib.hid (HNB.out q W4 hq)
        have E : Hid (2 = newErr qs gs) := (newErr_q (by have := HL.out; omega) (by have := HM.out; omega) (k := k) (by have := HL.out; omega) HA.out (by unfold newQ; rw [HX.out, hq, if_neg (by simp)]) (by decide)).symm
        clear hq
        go_wp2_with fail
        refine HCL.out.mono ?_
        rintro e w5 ⟨rfl, hb5⟩
        have HB5 := Lib.hid ((HB4.out.trans (hb5.mono HB4.out.size)).alloc (Nat.le_trans HB4.out.size hb5.size) (.cells #[.int .i64 0, .int .i64 0, .int .i64 0, .int .i64 0, .slice none 0 0] 54))
        have hz5 := (HZ4.out.keep hb5).alloc (.cells #[.int .i64 0, .int .i64 0, .int .i64 0, .int .i64 0, .slice none 0 0] 54)
        clear q0 q1 q2 q3 hx4 hb5
        go_upto_region 8 with (fail)
        generalize w5.alloc (.cells #[.int .i64 0, .int .i64 0, .int .i64 0, .int .i64 0, .slice none 0 0] 54) = W6 at *
        have r0 : W6.cell? ⟨w.heap.size, 0, none⟩ = some (.slice none 0 0) := hz5.cell 0
        have rf0 : W6.frozen? ⟨w.heap.size, 0, none⟩ = false := hz5.free 0
        have r1 : W6.cell? ⟨w.heap.size, 1, none⟩ = some (.slice none 0 0) := hz5.cell 1
        have rf1 : W6.frozen? ⟨w.heap.size, 1, none⟩ = false := hz5.free 1
        have r2 : W6.cell? ⟨w.heap.size, 2, none⟩ = some (.slice none 0 0) := hz5.cell 2
        have rf2 : W6.frozen? ⟨w.heap.size, 2, none⟩ = false := hz5.free 2
        have r3 : W6.cell? ⟨w.heap.size, 3, none⟩ = some (.slice none 0 0) := hz5.cell 3
        have rf3 : W6.frozen? ⟨w.heap.size, 3, none⟩ = false := hz5.free 3
        have r4 : W6.cell? ⟨w.heap.size, 4, none⟩ = some (.slice none 0 0) := hz5.cell 4
        have rf4 : W6.frozen? ⟨w.heap.size, 4, none⟩ = false := hz5.free 4
        go_wp2
        refine bodyPost_ret (v := .tuple #[.agg #[.slice none 0 0, .slice none 0 0, .slice none 0 0, .slice none 0 0, .slice none 0 0], .int .i64 2]) (by simp [results, Tryz.results6, go_sem, r0, r1, r2, r3, r4]) rfl ?_
        exact NewRes.bad E.out (by decide) (put5 HB5.out (Nat.le_refl _) _ _ _ _ _)
      case true =>
        have HCL := Lib.hid (HNO.out q W4 hq)
        have HQ := Lib.hid hq
        clear hq
        go_wp2_with fail
        refine HCL.out.mono ?_
        rintro e w5 ⟨rfl, hb5⟩
        have HB5 := Lib.hid ((HB4.out.trans (hb5.mono HB4.out.size)).alloc (Nat.le_trans HB4.out.size hb5.size) (.cells #[.int .i64 q.id, .int .i64 q.vol, .int .i64 q.fr, .int .i64 q.tod, .slice none 0 0] 54))
        have hz5 := (HZ4.out.keep hb5).alloc (.cells #[.int .i64 q.id, .int .i64 q.vol, .int .i64 q.fr, .int .i64 q.tod, .slice none 0 0] 54)
        have hc5 := (HC4.out.keep hb5).alloc (.cells #[.int .i64 q.id, .int .i64 q.vol, .int .i64 q.fr, .int .i64 q.tod, .slice none 0 0] 54)
        have hx5 := (hx4.keep hb5).alloc (.cells #[.int .i64 q.id, .int .i64 q.vol, .int .i64 q.fr, .int .i64 q.tod, .slice none 0 0] 54)
        have HO5 := Lib.hid (own_alloc (own_below HO4.out hb5) (.cells #[.int .i64 q.id, .int .i64 q.vol, .int .i64 q.fr, .int .i64 q.tod, .slice none 0 0] 54))
        have hy5 := Bl.new w5 54 #[.int .i64 q.id, .int .i64 q.vol, .int .i64 q.fr, .int .i64 q.tod, .slice none 0 0]
        clear q0 q1 q2 q3 hx4 hb5 HB4 HZ4 HC4 HO4 HCL
        go_upto_region 10 with (fail)
        generalize w5.alloc (.cells #[.int .i64 q.id, .int .i64 q.vol, .int .i64 q.fr, .int .i64 q.tod, .slice none 0 0] 54) = W6 at *
        generalize w5.heap.size = g6 at *
        have q0 : W6.cell? ⟨g4, 0, none⟩ = some (.int .i64 q.id) := hx5.cell 0
        have HAS : Hid (newQ qs k = if 0 < k ∧ q.id ≤ qs[k - 1]!.id then 9 else 0) := by show _ = _; unfold newQ; rw [HX.out, if_pos HQ.out]
        by_cases hk0 : 0 < k
        · obtain ⟨pk, hp⟩ : ∃ pk, k - 1 = pk := ⟨_, rfl⟩
          obtain ⟨b', off', q', hA, _, e0, _, _, _, HY⟩ := (HR.out.below HB5.out).getQ (i := pk) (by omega)
          injection hA with hA
          injection hA with hA1 hA2
          subst hA1 hA2
          have u1 : IntKind.i64.wrap ((k : Int) - 1) = (pk : Int) := (IntWalk.i64_in _ (by omega)).trans (by omega)
          have hpi : (pk : Int) < n := by omega
          have d0 : decide (0 < k) = true := by simpa using hk0
          by_cases g : q.id ≤ q'.id
          · have d1 : decide (q.id ≤ q'.id) = true := by simpa using g
            have E : Hid (9 = newErr qs gs) := (newErr_q (by have := HL.out; omega) (by have := HM.out; omega) (k := k) (by have := HL.out; omega) HA.out (by rw [HAS.out, hp, HY.out, if_pos ⟨hk0, g⟩]) (by decide)).symm
            clear hk0 hp g
            go_quiet (fail)
            have r0 : W6.cell? ⟨w.heap.size, 0, none⟩ = some (.slice none 0 0) := hz5.cell 0
            have rf0 : W6.frozen? ⟨w.heap.size, 0, none⟩ = false := hz5.free 0
            have r1 : W6.cell? ⟨w.heap.size, 1, none⟩ = some (.slice none 0 0) := hz5.cell 1
            have rf1 : W6.frozen? ⟨w.heap.size, 1, none⟩ = false := hz5.free 1
            have r2 : W6.cell? ⟨w.heap.size, 2, none⟩ = some (.slice none 0 0) := hz5.cell 2
            have rf2 : W6.frozen? ⟨w.heap.size, 2, none⟩ = false := hz5.free 2
            have r3 : W6.cell? ⟨w.heap.size, 3, none⟩ = some (.slice none 0 0) := hz5.cell 3
            have rf3 : W6.frozen? ⟨w.heap.size, 3, none⟩ = false := hz5.free 3
            have r4 : W6.cell? ⟨w.heap.size, 4, none⟩ = some (.slice none 0 0) := hz5.cell 4
            have rf4 : W6.frozen? ⟨w.heap.size, 4, none⟩ = false := hz5.free 4
            go_wp2
            refine bodyPost_ret (v := .tuple #[.agg #[.slice none 0 0, .slice none 0 0, .slice none 0 0, .slice none 0 0, .slice none 0 0], .int .i64 9]) (by simp [results, Tryz.results6, go_sem, r0, r1, r2, r3, r4]) rfl ?_
            exact NewRes.bad E.out (by decide) (put5 (below_drewN HB5.out nq) (Nat.le_refl _) _ _ _ _ _)
          · have d1 : decide (q.id ≤ q'.id) = false := by simpa using g
            have HA2 : Hid (∀ j, j < k + 1 → newQ qs j = 0) := fun j hj => by
              by_cases e : j = k
              · subst e; rw [HAS.out, hp, HY.out, if_neg (by omega)]
              · exact HA.out j (by omega)
            clear hk0 hp g
            go_quiet (fail)
            clear u1 e0
            have hz7 : Bl (W6.drewN nq) w.heap.size 37 #[.slice none 0 0, .slice none 0 0, .slice none 0 0, .slice none 0 0, .slice none 0 0] := hz5
            have hc7 : Bl (W6.drewN nq) gc 37 #[.slice none 0 0, .slice Bq k dq, .slice none 0 0, .slice none 0 0, .slice none 0 0] := hc5
            have hy7 : Bl (W6.drewN nq) g6 54 #[.int .i64 q.id, .int .i64 q.vol, .int .i64 q.fr, .int .i64 q.tod, .slice none 0 0] := hy5
            have HO7 : Hid ((W6.drewN nq).ownsRow w.heap.size 54 5 (.slice Bq k dq) k (flat encB ((qs.take k).map bk0))) := HO5.out
            have HB7 : Hid (RowKit.Below w.heap.size w (W6.drewN nq)) := below_drewN HB5.out nq
            clear q0 hz5 hc5 hx5 hy5 HO5 HB5
            generalize W6.drewN nq = W7 at *
            have y0 : W7.cell? ⟨g6, 0, none⟩ = some (.int .i64 q.id) := hy7.c0
            have y1 : W7.cell? ⟨g6, 1, none⟩ = some (.int .i64 q.vol) := hy7.c1
            have y2 : W7.cell? ⟨g6, 2, none⟩ = some (.int .i64 q.fr) := hy7.c2
            have y3 : W7.cell? ⟨g6, 3, none⟩ = some (.int .i64 q.tod) := hy7.c3
            have y4 : W7.cell? ⟨g6, 4, none⟩ = some (.slice none 0 0) := hy7.c4
            have t1 : W7.cell? ⟨gc, 1, none⟩ = some (.slice Bq k dq) := hc7.c1
            have HOE := Lib.hid (own_alloc HO7.out (.cells #[.int .i64 q.id, .int .i64 q.vol, .int .i64 q.fr, .int .i64 q.tod, .slice none 0 0] 54))
            have HRD : Hid (Rd (W7.alloc (.cells #[.int .i64 q.id, .int .i64 q.vol, .int .i64 q.fr, .int .i64 q.tod, .slice none 0 0] 54)) 5 (some ⟨W7.heap.size, 0, none⟩) 1 (encB (bk0 q))) := rd_new W7 54 (encB (bk0 q))
            have HON : Hid (∀ u ∈ encB (bk0 q), u.oneCell' = true) := encB_one _
            have HM1 : Hid (k + 1 ≤ maxLen ∧ (k + 1) * 56 ≤ 140737488355328) := ⟨by unfold maxLen; omega, by omega⟩
            have HBA : Hid (RowKit.Below w.heap.size w (W7.alloc (.cells #[.int .i64 q.id, .int .i64 q.vol, .int .i64 q.fr, .int .i64 q.tod, .slice none 0 0] 54))) := HB7.out.alloc HB7.out.size _
            have HOB := Lib.hid (fun j hj => own_base HOE.out j hj)
            have HCA := Lib.hid (hc7.alloc (.cells #[.int .i64 q.id, .int .i64 q.vol, .int .i64 q.fr, .int .i64 q.tod, .slice none 0 0] 54))
            have HZA := Lib.hid (hz7.alloc (.cells #[.int .i64 q.id, .int .i64 q.vol, .int .i64 q.fr, .int .i64 q.tod, .slice none 0 0] 54))
            have HQC : Hid (flat encB ((qs.take (k + 1)).map bk0) = flat encB ((qs.take k).map bk0) ++ encB (bk0 q)) := by show _ = _; rw [map_take_snoc bk0 qs k (by have := HL.out; omega) HX.out, flat_append, flat_one]
            have lc := hc7.lt
            have lz := hz7.lt
            clear hz7 hc7 HO7 HB7
            go_wp2_with (at_builtin; refine wpList_append_rd _ rfl (.tmp 54) (.tmp 56) 34 rfl w.heap.size 54 _ 5 56 Tryz.underlying34 info37B rfl (by decide) (.slice Bq k dq) k (flat encB ((qs.take k).map bk0)) rfl HOE.out (some ⟨W7.heap.size, 0, none⟩) 1 _ (encB (bk0 q)) rfl HRD.out HON.out HM1.out.1 HM1.out.2 HBA.out.size ?_; intro v8 w8 ho8 hg8 hv8; obtain ⟨B8, d8, rfl⟩ := own_slice ho8; have HO8 := Lib.hid ho8; have HB8 : Hid (RowKit.Below w.heap.size w w8) := HBA.out.grown hg8 HBA.out.size (fun j hj => HOB.out j hj); have HC8 : Hid (Bl w8 gc 37 #[.slice none 0 0, .slice Bq k dq, .slice none 0 0, .slice none 0 0, .slice none 0 0]) := (hg8.block gc (by simp; omega) (fun e => own_apart HOE.out HCA.out (by decide) e)).trans HCA.out; have HZ8 : Hid (Bl w8 w.heap.size 37 #[.slice none 0 0, .slice none 0 0, .slice none 0 0, .slice none 0 0, .slice none 0 0]) := (hg8.block w.heap.size (by simp; omega) (fun e => own_apart HOE.out HZA.out (by decide) e)).trans HZA.out; have c1 : w8.cell? ⟨gc, 1, none⟩ = some (.slice Bq k dq) := HC8.out.c1; have f1 : w8.frozen? ⟨gc, 1, none⟩ = false := HC8.out.free 1)
            have HC9 : Hid (Bl (w8.setCell ⟨gc, 1, none⟩ (.slice B8 (k + 1) d8)) gc 37 #[.slice none 0 0, .slice B8 (k + 1) d8, .slice none 0 0, .slice none 0 0, .slice none 0 0]) := by show Bl _ _ _ _; have := HC8.out.put 1 (.slice B8 (k + 1) d8); simpa using this
            have HZ9 : Hid (Bl (w8.setCell ⟨gc, 1, none⟩ (.slice B8 (k + 1) d8)) w.heap.size 37 #[.slice none 0 0, .slice none 0 0, .slice none 0 0, .slice none 0 0, .slice none 0 0]) := HZ8.out.far (p := ⟨gc, 1, none⟩) (by simp; omega) _
            have HO9 : Hid ((w8.setCell ⟨gc, 1, none⟩ (.slice B8 (k + 1) d8)).ownsRow w.heap.size 54 5 (.slice B8 (k + 1) d8) (k + 1) (flat encB ((qs.take (k + 1)).map bk0))) := by
              show World.ownsRow _ _ _ _ _ _ _
              rw [HQC.out]
              exact own_of_block HO8.out fun j hj => Below.heap_setCell _ _ _ j (fun e => own_apart HO8.out HC8.out (by decide) (by rw [hj, e]))
            have HB9 : Hid (RowKit.Below w.heap.size w (w8.setCell ⟨gc, 1, none⟩ (.slice B8 (k + 1) d8))) := HB8.out.setCell (p := ⟨gc, 1, none⟩) (by simp; omega) _
            go_roundw
            case rel => exact ⟨k + 1, B8, d8, by omega, by go_num, HA2, HC9, HZ9, HO9, HB9⟩
            case measure => simp [intOf]; omega
        · have d0 : decide (0 < k) = false := by simpa using hk0
          have HA2 : Hid (∀ j, j < k + 1 → newQ qs j = 0) := fun j hj => by
            by_cases e : j = k
            · subst e; rw [HAS.out, if_neg (by omega)]
            · exact HA.out j (by omega)
          clear hk0
          go_quiet (fail)
          have hz7 : Bl (W6.drewN nq) w.heap.size 37 #[.slice none 0 0, .slice none 0 0, .slice none 0 0, .slice none 0 0, .slice none 0 0] := hz5
          have hc7 : Bl (W6.drewN nq) gc 37 #[.slice none 0 0, .slice Bq k dq, .slice none 0 0, .slice none 0 0, .slice none 0 0] := hc5
          have hy7 : Bl (W6.drewN nq) g6 54 #[.int .i64 q.id, .int .i64 q.vol, .int .i64 q.fr, .int .i64 q.tod, .slice none 0 0] := hy5
          have HO7 : Hid ((W6.drewN nq).ownsRow w.heap.size 54 5 (.slice Bq k dq) k (flat encB ((qs.take k).map bk0))) := HO5.out
          have HB7 : Hid (RowKit.Below w.heap.size w (W6.drewN nq)) := below_drewN HB5.out nq
          clear q0 hz5 hc5 hx5 hy5 HO5 HB5
          generalize W6.drewN nq = W7 at *
          have y0 : W7.cell? ⟨g6, 0, none⟩ = some (.int .i64 q.id) := hy7.c0
          have y1 : W7.cell? ⟨g6, 1, none⟩ = some (.int .i64 q.vol) := hy7.c1
          have y2 : W7.cell? ⟨g6, 2, none⟩ = some (.int .i64 q.fr) := hy7.c2
          have y3 : W7.cell? ⟨g6, 3, none⟩ = some (.int .i64 q.tod) := hy7.c3
          have y4 : W7.cell? ⟨g6, 4, none⟩ = some (.slice none 0 0) := hy7.c4
          have t1 : W7.cell? ⟨gc, 1, none⟩ = some (.slice Bq k dq) := hc7.c1
          have HOE := Lib.hid (own_alloc HO7.out (.cells #[.int .i64 q.id, .int .i64 q.vol, .int .i64 q.fr, .int .i64 q.tod, .slice none 0 0] 54))
          have HRD : Hid (Rd (W7.alloc (.cells #[.int .i64 q.id, .int .i64 q.vol, .int .i64 q.fr, .int .i64 q.tod, .slice none 0 0] 54)) 5 (some ⟨W7.heap.size, 0, none⟩) 1 (encB (bk0 q))) := rd_new W7 54 (encB (bk0 q))
          have HON : Hid (∀ u ∈ encB (bk0 q), u.oneCell' = true) := encB_one _
          have HM1 : Hid (k + 1 ≤ maxLen ∧ (k + 1) * 56 ≤ 140737488355328) := ⟨by unfold maxLen; omega, by omega⟩
          have HBA : Hid (RowKit.Below w.heap.size w (W7.alloc (.cells #[.int .i64 q.id, .int .i64 q.vol, .int .i64 q.fr, .int .i64 q.tod, .slice none 0 0] 54))) := HB7.out.alloc HB7.out.size _
          have HOB := Lib.hid (fun j hj => own_base HOE.out j hj)
          have HCA := Lib.hid (hc7.alloc (.cells #[.int .i64 q.id, .int .i64 q.vol, .int .i64 q.fr, .int .i64 q.tod, .slice none 0 0] 54))
          have HZA := Lib.hid (hz7.alloc (.cells #[.int .i64 q.id, .int .i64 q.vol, .int .i64 q.fr, .int .i64 q.tod, .slice none 0 0] 54))
          have HQC : Hid (flat encB ((qs.take (k + 1)).map bk0) = flat encB ((qs.take k).map bk0) ++ encB (bk0 q)) := by show _ = _; rw [map_take_snoc bk0 qs k (by have := HL.out; omega) HX.out, flat_append, flat_one]
          have lc := hc7.lt
          have lz := hz7.lt
          clear hz7 hc7 HO7 HB7
          go_wp2_with (at_builtin; refine wpList_append_rd _ rfl (.tmp 54) (.tmp 56) 34 rfl w.heap.size 54 _ 5 56 Tryz.underlying34 info37B rfl (by decide) (.slice Bq k dq) k (flat encB ((qs.take k).map bk0)) rfl HOE.out (some ⟨W7.heap.size, 0, none⟩) 1 _ (encB (bk0 q)) rfl HRD.out HON.out HM1.out.1 HM1.out.2 HBA.out.size ?_; intro v8 w8 ho8 hg8 hv8; obtain ⟨B8, d8, rfl⟩ := own_slice ho8; have HO8 := Lib.hid ho8; have HB8 : Hid (RowKit.Below w.heap.size w w8) := HBA.out.grown hg8 HBA.out.size (fun j hj => HOB.out j hj); have HC8 : Hid (Bl w8 gc 37 #[.slice none 0 0, .slice Bq k dq, .slice none 0 0, .slice none 0 0, .slice none 0 0]) := (hg8.block gc (by simp; omega) (fun e => own_apart HOE.out HCA.out (by decide) e)).trans HCA.out; have HZ8 : Hid (Bl w8 w.heap.size 37 #[.slice none 0 0, .slice none 0 0, .slice none 0 0, .slice none 0 0, .slice none 0 0]) := (hg8.block w.heap.size (by simp; omega) (fun e => own_apart HOE.out HZA.out (by decide) e)).trans HZA.out; have c1 : w8.cell? ⟨gc, 1, none⟩ = some (.slice Bq k dq) := HC8.out.c1; have f1 : w8.frozen? ⟨gc, 1, none⟩ = false := HC8.out.free 1)
          have HC9 : Hid (Bl (w8.setCell ⟨gc, 1, none⟩ (.slice B8 (k + 1) d8)) gc 37 #[.slice none 0 0, .slice B8 (k + 1) d8, .slice none 0 0, .slice none 0 0, .slice none 0 0]) := by show Bl _ _ _ _; have := HC8.out.put 1 (.slice B8 (k + 1) d8); simpa using this
          have HZ9 : Hid (Bl (w8.setCell ⟨gc, 1, none⟩ (.slice B8 (k + 1) d8)) w.heap.size 37 #[.slice none 0 0, .slice none 0 0, .slice none 0 0, .slice none 0 0, .slice none 0 0]) := HZ8.out.far (p := ⟨gc, 1, none⟩) (by simp; omega) _
          have HO9 : Hid ((w8.setCell ⟨gc, 1, none⟩ (.slice B8 (k + 1) d8)).ownsRow w.heap.size 54 5 (.slice B8 (k + 1) d8) (k + 1) (flat encB ((qs.take (k + 1)).map bk0))) := by
            show World.ownsRow _ _ _ _ _ _ _
            rw [HQC.out]
            exact own_of_block HO8.out fun j hj => Below.heap_setCell _ _ _ j (fun e => own_apart HO8.out HC8.out (by decide) (by rw [hj, e]))
          have HB9 : Hid (RowKit.Below w.heap.size w (w8.setCell ⟨gc, 1, none⟩ (.slice B8 (k + 1) d8))) := HB8.out.setCell (p := ⟨gc, 1, none⟩) (by simp; omega) _
          go_roundw
          case rel => exact ⟨k + 1, B8, d8, by omega, by go_num, HA2, HC9, HZ9, HO9, HB9⟩
          case measure => simp [intOf]; omega
    · obtain rfl : n = k := by omega
      have HQS : Hid (∀ j, j < qs.length → newQ qs j = 0) := fun j hj => HA.out j (by have := HL.out; omega)
      have HOQ : Hid (wr.ownsRow w.heap.size 54 5 (.slice Bq n dq) n (flat encB (qs.map bk0))) := by
        have := HO.out
        rwa [List.take_of_length_le (by have := HL.out; omega)] at this
      clear HA HO
      go_wp2_with fail
      go_loopw [62] (fun i wx => ∃ (k : Nat) (Bg : Option Addr) (dg : Nat), k ≤ m ∧ i = .int .i64 k ∧ Hid (∀ j, j < k → newG gs j = 0) ∧ Hid (Bl wx gc 37 #[.slice none 0 0, .slice Bq n dq, .slice Bg k dg, .slice none 0 0, .slice none 0 0]) ∧ Hid (Bl wx w.heap.size 37 #[.slice none 0 0, .slice none 0 0, .slice none 0 0, .slice none 0 0, .slice none 0 0]) ∧ Hid (wx.ownsRow w.heap.size 54 5 (.slice Bq n dq) n (flat encB (qs.map bk0))) ∧ Hid (wx.ownsRow w.heap.size 30 4 (.slice Bg k dg) k (flat encGu ((gs.take k).map gr0))) ∧ Hid (RowKit.Below w.heap.size w wx)) (fun i _ => m - (intOf i).toNat)
      case atStart => exact ⟨0, none, 0, Nat.zero_le _, rfl, fun j hj => by omega, HC, HZ, HOQ, own0G _ _, HB⟩
      case round =>
        clear HC HZ HOQ HB hgc
        obtain ⟨k, Bg, dg, hk, rfl, HA, HC, HZ, HOQ, HO, HB⟩ := hrel
        have hgc := HC.out.lt
        by_cases hlt2 : k < m
        · obtain ⟨b, off, g, hA, hbl, c0, c1, c2, c3, HX⟩ := (HG.out.below HB.out).getG hlt2
          subst hA
          have hki : (k : Int) < m := by omega
          have HUS : Hid (Recs enc2 2 w g.A g.n g.us) := HU.out g (by rw [← HX.out, getElem!_pos gs k (by have := HM.out; omega)]; exact List.getElem_mem _)
          have hx4 := Bl.new wr 30 #[.int .i64 g.h.id, .int .i64 g.h.ref, .int .i64 g.h.lev, .slice g.A g.n g.c]
          have HB4 : Hid (RowKit.Below w.heap.size w (wr.alloc (.cells #[.int .i64 g.h.id, .int .i64 g.h.ref, .int .i64 g.h.lev, .slice g.A g.n g.c] 30))) := HB.out.alloc HB.out.size _
          have HZ4 := Lib.hid (HZ.out.alloc (.cells #[.int .i64 g.h.id, .int .i64 g.h.ref, .int .i64 g.h.lev, .slice g.A g.n g.c] 30))
          have HC4 := Lib.hid (HC.out.alloc (.cells #[.int .i64 g.h.id, .int .i64 g.h.ref, .int .i64 g.h.lev, .slice g.A g.n g.c] 30))
          have HQ4 := Lib.hid (own_alloc HOQ.out (.cells #[.int .i64 g.h.id, .int .i64 g.h.ref, .int .i64 g.h.lev, .slice g.A g.n g.c] 30))
          have HO4 := Lib.hid (own_alloc HO.out (.cells #[.int .i64 g.h.id, .int .i64 g.h.ref, .int .i64 g.h.lev, .slice g.A g.n g.c] 30))
          have HLT : Hid (∀ j, (Value.slice Bg k dg).ownBlock = some j → j < wr.heap.size) := fun j hj => own_lt HO.out j hj
          go_upto_region 17 with (fail)
          clear c0 c1 c2 c3 HB HZ HC HO HOQ
          have hgr : gc < wr.heap.size := hgc
          have HOG4 : Hid (∀ j, (Value.slice Bg k dg).ownBlock = some j → j < wr.heap.size) := HLT.out
          generalize wr.alloc (.cells #[.int .i64 g.h.id, .int .i64 g.h.ref, .int .i64 g.h.lev, .slice g.A g.n g.c] 30) = W4 at *
          generalize wr.heap.size = g4 at *
          have q0 : W4.cell? ⟨g4, 0, none⟩ = some (.int .i64 g.h.id) := hx4.cell 0
          have q1 : W4.cell? ⟨g4, 1, none⟩ = some (.int .i64 g.h.ref) := hx4.cell 1
          have q2 : W4.cell? ⟨g4, 2, none⟩ = some (.int .i64 g.h.lev) := hx4.cell 2
          have q3 : W4.cell? ⟨g4, 3, none⟩ = some (.slice g.A g.n g.c) := hx4.cell 3
          obtain ⟨er, her⟩ : ∃ er, gErr g.h g.us = er := ⟨_, rfl⟩
          have HER := Lib.hid her
          have HCL : Hid (Calls Tryz.prog 13 #[.agg #[.int .i64 g.h.id, .int .i64 g.h.ref, .int .i64 g.h.lev, .slice g.A g.n g.c]] W4 fun e w' => e = .returned (.int .i64 er) ∧ RowKit.Below W4.heap.size W4 w') := by
            show Calls _ _ _ _ _
            rw [← her]
            exact HVG.out g.h g.A g.n g.c g.us W4 (HUS.out.below HB4.out)
          clear her
          go_wp2_with fail
          refine HCL.out.mono ?_
          rintro e w5 ⟨rfl, hb5⟩
          have HB5 := Lib.hid (HB4.out.trans (hb5.mono HB4.out.size))
          have hz5 := HZ4.out.keep hb5
          have hc5 := HC4.out.keep hb5
          have hx5 := hx4.keep hb5
          have HQ5 := Lib.hid (own_below HQ4.out hb5)
          have HO5 := Lib.hid (own_below HO4.out hb5)
          clear q0 q1 q2 q3 hx4 hb5 HB4 HZ4 HC4 HO4 HQ4 HCL
          by_cases ge : er = 0
          case neg =>
            have b1 : (er != 0) = true := by simpa using ge
            have E : Hid (er = newErr qs gs) := (newErr_g (by have := HL.out; omega) (by have := HM.out; omega) HQS.out (k := k) (by have := HM.out; omega) HA.out (by unfold newG; rw [HX.out, HER.out, if_neg ge]) ge).symm
            have GE := Lib.hid ge
            clear ge
            have r0 : w5.cell? ⟨w.heap.size, 0, none⟩ = some (.slice none 0 0) := hz5.cell 0
            have rf0 : w5.frozen? ⟨w.heap.size, 0, none⟩ = false := hz5.free 0
            have r1 : w5.cell? ⟨w.heap.size, 1, none⟩ = some (.slice none 0 0) := hz5.cell 1
            have rf1 : w5.frozen? ⟨w.heap.size, 1, none⟩ = false := hz5.free 1
            have r2 : w5.cell? ⟨w.heap.size, 2, none⟩ = some (.slice none 0 0) := hz5.cell 2
            have rf2 : w5.frozen? ⟨w.heap.size, 2, none⟩ = false := hz5.free 2
            have r3 : w5.cell? ⟨w.heap.size, 3, none⟩ = some (.slice none 0 0) := hz5.cell 3
            have rf3 : w5.frozen? ⟨w.heap.size, 3, none⟩ = false := hz5.free 3
            have r4 : w5.cell? ⟨w.heap.size, 4, none⟩ = some (.slice none 0 0) := hz5.cell 4
            have rf4 : w5.frozen? ⟨w.heap.size, 4, none⟩ = false := hz5.free 4
            go_wp2
            refine bodyPost_ret (v := .tuple #[.agg #[.slice none 0 0, .slice none 0 0, .slice none 0 0, .slice none 0 0, .slice none 0 0], .int .i64 er]) (by simp [results, Tryz.results6, go_sem, r0, r1, r2, r3, r4]) rfl ?_
            exact NewRes.bad E.out GE.out (put5 HB5.out (Nat.le_refl _) _ _ _ _ _)
          subst ge
          have q3 : w5.cell? ⟨g4, 3, none⟩ = some (.slice g.A g.n g.c) := hx5.cell 3
          have HLU := Lib.hid HUS.out.1
          by_cases gn : 0 < g.n
          · have d9 : decide ((0 : Int) < (g.n : Int)) = true := by simp; omega
            have d8 : decide (0 < g.n) = true := by simpa using gn
            have E : Hid (1 = newErr qs gs) := (newErr_g (by have := HL.out; omega) (by have := HM.out; omega) HQS.out (k := k) (by have := HM.out; omega) HA.out (by unfold newG; rw [HX.out, HER.out, if_pos rfl, if_neg (fun e => by have := HLU.out; rw [e] at this; simp at this; omega)]) (by decide)).symm
            have r0 : w5.cell? ⟨w.heap.size, 0, none⟩ = some (.slice none 0 0) := hz5.cell 0
            have rf0 : w5.frozen? ⟨w.heap.size, 0, none⟩ = false := hz5.free 0
            have r1 : w5.cell? ⟨w.heap.size, 1, none⟩ = some (.slice none 0 0) := hz5.cell 1
            have rf1 : w5.frozen? ⟨w.heap.size, 1, none⟩ = false := hz5.free 1
            have r2 : w5.cell? ⟨w.heap.size, 2, none⟩ = some (.slice none 0 0) := hz5.cell 2
            have rf2 : w5.frozen? ⟨w.heap.size, 2, none⟩ = false := hz5.free 2
            have r3 : w5.cell? ⟨w.heap.size, 3, none⟩ = some (.slice none 0 0) := hz5.cell 3
            have rf3 : w5.frozen? ⟨w.heap.size, 3, none⟩ = false := hz5.free 3
            have r4 : w5.cell? ⟨w.heap.size, 4, none⟩ = some (.slice none 0 0) := hz5.cell 4
            have rf4 : w5.frozen? ⟨w.heap.size, 4, none⟩ = false := hz5.free 4
            go_wp2
            refine bodyPost_ret (v := .tuple #[.agg #[.slice none 0 0, .slice none 0 0, .slice none 0 0, .slice none 0 0, .slice none 0 0], .int .i64 1]) (by simp [results, Tryz.results6, go_sem, r0, r1, r2, r3, r4]) rfl ?_
            exact NewRes.bad E.out (by decide) (put5 HB5.out (Nat.le_refl _) _ _ _ _ _)
          have d9 : decide (0 < g.n) = false := by simpa using gn
          have HNIL : Hid (g.us = []) := List.eq_nil_of_length_eq_zero (by have := HLU.out; omega)
          clear gn
          have q0 : w5.cell? ⟨g4, 0, none⟩ = some (.int .i64 g.h.id) := hx5.cell 0
          have HAS : Hid (newG gs k = if 0 < k ∧ g.h.id ≤ gs[k - 1]!.h.id then 9 else 0) := by show _ = _; unfold newG; rw [HX.out, HER.out, if_pos rfl, if_pos HNIL.out]
          go_upto_region 22 with (fail)
          by_cases hk0 : 0 < k
          · obtain ⟨pk, hp⟩ : ∃ pk, k - 1 = pk := ⟨_, rfl⟩
            obtain ⟨b', off', g', hA, _, e0, _, _, _, HY⟩ := (HG.out.below HB5.out).getG (i := pk) (by omega)
            injection hA with hA
            injection hA with hA1 hA2
            subst hA1 hA2
            have u1 : IntKind.i64.wrap ((k : Int) - 1) = (pk : Int) := (IntWalk.i64_in _ (by omega)).trans (by omega)
            have hpi : (pk : Int) < m := by omega
            have d0 : decide (0 < k) = true := by simpa using hk0
            by_cases gg : g.h.id ≤ g'.h.id
            · have d1 : decide (g.h.id ≤ g'.h.id) = true := by simpa using gg
              have E : Hid (9 = newErr qs gs) := (newErr_g (by have := HL.out; omega) (by have := HM.out; omega) HQS.out (k := k) (by have := HM.out; omega) HA.out (by rw [HAS.out, hp, HY.out, if_pos ⟨hk0, gg⟩]) (by decide)).symm
              clear hk0 hp gg
              go_quiet (fail)
              have r0 : w5.cell? ⟨w.heap.size, 0, none⟩ = some (.slice none 0 0) := hz5.cell 0
              have rf0 : w5.frozen? ⟨w.heap.size, 0, none⟩ = false := hz5.free 0
              have r1 : w5.cell? ⟨w.heap.size, 1, none⟩ = some (.slice none 0 0) := hz5.cell 1
              have rf1 : w5.frozen? ⟨w.heap.size, 1, none⟩ = false := hz5.free 1
              have r2 : w5.cell? ⟨w.heap.size, 2, none⟩ = some (.slice none 0 0) := hz5.cell 2
              have rf2 : w5.frozen? ⟨w.heap.size, 2, none⟩ = false := hz5.free 2
              have r3 : w5.cell? ⟨w.heap.size, 3, none⟩ = some (.slice none 0 0) := hz5.cell 3
              have rf3 : w5.frozen? ⟨w.heap.size, 3, none⟩ = false := hz5.free 3
              have r4 : w5.cell? ⟨w.heap.size, 4, none⟩ = some (.slice none 0 0) := hz5.cell 4
              have rf4 : w5.frozen? ⟨w.heap.size, 4, none⟩ = false := hz5.free 4
              go_wp2
              refine bodyPost_ret (v := .tuple #[.agg #[.slice none 0 0, .slice none 0 0, .slice none 0 0, .slice none 0 0, .slice none 0 0], .int .i64 9]) (by simp [results, Tryz.results6, go_sem, r0, r1, r2, r3, r4]) rfl ?_
              exact NewRes.bad E.out (by decide) (put5 (below_drewN HB5.out nq) (Nat.le_refl _) _ _ _ _ _)
            · have d1 : decide (g.h.id ≤ g'.h.id) = false := by simpa using gg
              have HA2 : Hid (∀ j, j < k + 1 → newG gs j = 0) := fun j hj => by
                by_cases e : j = k
                · subst e; rw [HAS.out, hp, HY.out, if_neg (by omega)]
                · exact HA.out j (by omega)
              clear hk0 hp gg
              go_quiet (fail)
              clear u1 e0
              have hz7 : Bl (w5.drewN nq) w.heap.size 37 #[.slice none 0 0, .slice none 0 0, .slice none 0 0, .slice none 0 0, .slice none 0 0] := hz5
              have hc7 : Bl (w5.drewN nq) gc 37 #[.slice none 0 0, .slice Bq n dq, .slice Bg k dg, .slice none 0 0, .slice none 0 0] := hc5
              have hx7 : Bl (w5.drewN nq) g4 30 #[.int .i64 g.h.id, .int .i64 g.h.ref, .int .i64 g.h.lev, .slice g.A g.n g.c] := hx5
              have HO7 : Hid ((w5.drewN nq).ownsRow w.heap.size 30 4 (.slice Bg k dg) k (flat encGu ((gs.take k).map gr0))) := HO5.out
              have HQ7 : Hid ((w5.drewN nq).ownsRow w.heap.size 54 5 (.slice Bq n dq) n (flat encB (qs.map bk0))) := HQ5.out
              have HB7 : Hid (RowKit.Below w.heap.size w (w5.drewN nq)) := below_drewN HB5.out nq
              clear q0 q3 hz5 hc5 hx5 HO5 HQ5 HB5
              generalize w5.drewN nq = W6 at *
              have f3 : W6.frozen? ⟨g4, 3, none⟩ = false := hx7.free 3
              have z3 : W6.cell? ⟨g4, 3, none⟩ = some (.slice g.A g.n g.c) := hx7.cell 3
              have hx8 : Bl (W6.setCell ⟨g4, 3, none⟩ (.slice none 0 0)) g4 30 #[.int .i64 g.h.id, .int .i64 g.h.ref, .int .i64 g.h.lev, .slice none 0 0] := by have := hx7.put 3 (.slice none 0 0); simpa using this
              have hg4w : w.heap.size ≤ g4 := by omega
              have hz8 := hz7.far (p := ⟨g4, 3, none⟩) (by simp; omega) (.slice none 0 0)
              have hc8 := hc7.far (p := ⟨g4, 3, none⟩) (by simp; omega) (.slice none 0 0)
              have HO8 : Hid ((W6.setCell ⟨g4, 3, none⟩ (.slice none 0 0)).ownsRow w.heap.size 30 4 (.slice Bg k dg) k (flat encGu ((gs.take k).map gr0))) := own_of_block HO7.out fun j hj => Below.heap_setCell _ _ _ j (by have := HOG4.out j hj; simp; omega)
              have HQ8 : Hid ((W6.setCell ⟨g4, 3, none⟩ (.slice none 0 0)).ownsRow w.heap.size 54 5 (.slice Bq n dq) n (flat encB (qs.map bk0))) := own_of_block HQ7.out fun j hj => Below.heap_setCell _ _ _ j (fun e => own_apart HQ7.out hx7 (by decide) (by rw [hj, e]))
              have HB8 : Hid (RowKit.Below w.heap.size w (W6.setCell ⟨g4, 3, none⟩ (.slice none 0 0))) := HB7.out.setCell (p := ⟨g4, 3, none⟩) hg4w _
              clear hz7 hc7 HO7 HQ7 HB7
              go_upto_region 25 with (fail)
              clear f3 z3 hx7
              generalize W6.setCell ⟨g4, 3, none⟩ (.slice none 0 0) = W7 at *
              have y0 : W7.cell? ⟨g4, 0, none⟩ = some (.int .i64 g.h.id) := hx8.cell 0
              have y1 : W7.cell? ⟨g4, 1, none⟩ = some (.int .i64 g.h.ref) := hx8.cell 1
              have y2 : W7.cell? ⟨g4, 2, none⟩ = some (.int .i64 g.h.lev) := hx8.cell 2
              have y3 : W7.cell? ⟨g4, 3, none⟩ = some (.slice none 0 0) := hx8.cell 3
              have t2 : W7.cell? ⟨gc, 2, none⟩ = some (.slice Bg k dg) := hc8.c2
              have HOE := Lib.hid (own_alloc HO8.out (.cells #[.int .i64 g.h.id, .int .i64 g.h.ref, .int .i64 g.h.lev, .slice none 0 0] 30))
              have HQE := Lib.hid (own_alloc HQ8.out (.cells #[.int .i64 g.h.id, .int .i64 g.h.ref, .int .i64 g.h.lev, .slice none 0 0] 30))
              have HRD : Hid (Rd (W7.alloc (.cells #[.int .i64 g.h.id, .int .i64 g.h.ref, .int .i64 g.h.lev, .slice none 0 0] 30)) 4 (some ⟨W7.heap.size, 0, none⟩) 1 (encGu (gr0 g))) := rd_new W7 30 (encGu (gr0 g))
              have HON : Hid (∀ u ∈ encGu (gr0 g), u.oneCell' = true) := encGu_one _
              have HM1 : Hid (k + 1 ≤ maxLen ∧ (k + 1) * 48 ≤ 140737488355328) := ⟨by unfold maxLen; omega, by omega⟩
              have HBA : Hid (RowKit.Below w.heap.size w (W7.alloc (.cells #[.int .i64 g.h.id, .int .i64 g.h.ref, .int .i64 g.h.lev, .slice none 0 0] 30))) := HB8.out.alloc HB8.out.size _
              have HOB := Lib.hid (fun j hj => own_base HOE.out j hj)
              have HCA := Lib.hid (hc8.alloc (.cells #[.int .i64 g.h.id, .int .i64 g.h.ref, .int .i64 g.h.lev, .slice none 0 0] 30))
              have HZA := Lib.hid (hz8.alloc (.cells #[.int .i64 g.h.id, .int .i64 g.h.ref, .int .i64 g.h.lev, .slice none 0 0] 30))
              have HQC : Hid (flat encGu ((gs.take (k + 1)).map gr0) = flat encGu ((gs.take k).map gr0) ++ encGu (gr0 g)) := by show _ = _; rw [map_take_snoc gr0 gs k (by have := HM.out; omega) HX.out, flat_append, flat_one]
              have lc := hc8.lt
              have lz := hz8.lt
              clear hz8 hc8 HO8 HQ8 HB8
              go_wp2_with (at_builtin; refine wpList_append_rd _ rfl (.tmp 94) (.tmp 96) 23 rfl w.heap.size 30 _ 4 48 Tryz.underlying23 info37G rfl (by decide) (.slice Bg k dg) k (flat encGu ((gs.take k).map gr0)) rfl HOE.out (some ⟨W7.heap.size, 0, none⟩) 1 _ (encGu (gr0 g)) rfl HRD.out HON.out HM1.out.1 HM1.out.2 HBA.out.size ?_; intro v8 w8 ho8 hg8 hv8; obtain ⟨B8, d8, rfl⟩ := own_slice ho8; have HO8 := Lib.hid ho8; have HB8 : Hid (RowKit.Below w.heap.size w w8) := HBA.out.grown hg8 HBA.out.size (fun j hj => HOB.out j hj); have HC8 : Hid (Bl w8 gc 37 #[.slice none 0 0, .slice Bq n dq, .slice Bg k dg, .slice none 0 0, .slice none 0 0]) := (hg8.block gc (by simp; omega) (fun e => own_apart HOE.out HCA.out (by decide) e)).trans HCA.out; have HZ8 : Hid (Bl w8 w.heap.size 37 #[.slice none 0 0, .slice none 0 0, .slice none 0 0, .slice none 0 0, .slice none 0 0]) := (hg8.block w.heap.size (by simp; omega) (fun e => own_apart HOE.out HZA.out (by decide) e)).trans HZA.out; have HQ8 : Hid (w8.ownsRow w.heap.size 54 5 (.slice Bq n dq) n (flat encB (qs.map bk0))) := own_of_block HQE.out fun j hj => hg8.block j (own_lt HQE.out j hj) (own_diff HQE.out HOE.out (by decide) j hj); have c2 : w8.cell? ⟨gc, 2, none⟩ = some (.slice Bg k dg) := HC8.out.c2; have f2 : w8.frozen? ⟨gc, 2, none⟩ = false := HC8.out.free 2)
              have HC9 : Hid (Bl (w8.setCell ⟨gc, 2, none⟩ (.slice B8 (k + 1) d8)) gc 37 #[.slice none 0 0, .slice Bq n dq, .slice B8 (k + 1) d8, .slice none 0 0, .slice none 0 0]) := by show Bl _ _ _ _; have := HC8.out.put 2 (.slice B8 (k + 1) d8); simpa using this
              have HZ9 : Hid (Bl (w8.setCell ⟨gc, 2, none⟩ (.slice B8 (k + 1) d8)) w.heap.size 37 #[.slice none 0 0, .slice none 0 0, .slice none 0 0, .slice none 0 0, .slice none 0 0]) := HZ8.out.far (p := ⟨gc, 2, none⟩) (by simp; omega) _
              have HO9 : Hid ((w8.setCell ⟨gc, 2, none⟩ (.slice B8 (k + 1) d8)).ownsRow w.heap.size 30 4 (.slice B8 (k + 1) d8) (k + 1) (flat encGu ((gs.take (k + 1)).map gr0))) := by
                show World.ownsRow _ _ _ _ _ _ _
                rw [HQC.out]
                exact own_of_block HO8.out fun j hj => Below.heap_setCell _ _ _ j (fun e => own_apart HO8.out HC8.out (by decide) (by rw [hj, e]))
              have HQ9 : Hid ((w8.setCell ⟨gc, 2, none⟩ (.slice B8 (k + 1) d8)).ownsRow w.heap.size 54 5 (.slice Bq n dq) n (flat encB (qs.map bk0))) := own_of_block HQ8.out fun j hj => Below.heap_setCell _ _ _ j (fun e => own_apart HQ8.out HC8.out (by decide) (by rw [hj, e]))
              have HB9 : Hid (RowKit.Below w.heap.size w (w8.setCell ⟨gc, 2, none⟩ (.slice B8 (k + 1) d8))) := HB8.out.setCell (p := ⟨gc, 2, none⟩) (by simp; omega) _
              go_roundw
              case rel => exact ⟨k + 1, B8, d8, by omega, by go_num, HA2, HC9, HZ9, HQ9, HO9, HB9⟩
              case measure => simp [intOf]; omega
          · have d0 : decide (0 < k) = false := by simpa using hk0
            have HA2 : Hid (∀ j, j < k + 1 → newG gs j = 0) := fun j hj => by
              by_cases e : j = k
              · subst e; rw [HAS.out, if_neg (by omega)]
              · exact HA.out j (by omega)
            clear hk0
            go_quiet (fail)
            have hz7 : Bl (w5.drewN nq) w.heap.size 37 #[.slice none 0 0, .slice none 0 0, .slice none 0 0, .slice none 0 0, .slice none 0 0] := hz5
            have hc7 : Bl (w5.drewN nq) gc 37 #[.slice none 0 0, .slice Bq n dq, .slice Bg k dg, .slice none 0 0, .slice none 0 0] := hc5
            have hx7 : Bl (w5.drewN nq) g4 30 #[.int .i64 g.h.id, .int .i64 g.h.ref, .int .i64 g.h.lev, .slice g.A g.n g.c] := hx5
            have HO7 : Hid ((w5.drewN nq).ownsRow w.heap.size 30 4 (.slice Bg k dg) k (flat encGu ((gs.take k).map gr0))) := HO5.out
            have HQ7 : Hid ((w5.drewN nq).ownsRow w.heap.size 54 5 (.slice Bq n dq) n (flat encB (qs.map bk0))) := HQ5.out
            have HB7 : Hid (RowKit.Below w.heap.size w (w5.drewN nq)) := below_drewN HB5.out nq
            clear q0 q3 hz5 hc5 hx5 HO5 HQ5 HB5
            generalize w5.drewN nq = W6 at *
            have f3 : W6.frozen? ⟨g4, 3, none⟩ = false := hx7.free 3
            have z3 : W6.cell? ⟨g4, 3, none⟩ = some (.slice g.A g.n g.c) := hx7.cell 3
            have hx8 : Bl (W6.setCell ⟨g4, 3, none⟩ (.slice none 0 0)) g4 30 #[.int .i64 g.h.id, .int .i64 g.h.ref, .int .i64 g.h.lev, .slice none 0 0] := by have := hx7.put 3 (.slice none 0 0); simpa using this
            have hg4w : w.heap.size ≤ g4 := by omega
            have hz8 := hz7.far (p := ⟨g4, 3, none⟩) (by simp; omega) (.slice none 0 0)
            have hc8 := hc7.far (p := ⟨g4, 3, none⟩) (by simp; omega) (.slice none 0 0)
            have HO8 : Hid ((W6.setCell ⟨g4, 3, none⟩ (.slice none 0 0)).ownsRow w.heap.size 30 4 (.slice Bg k dg) k (flat encGu ((gs.take k).map gr0))) := own_of_block HO7.out fun j hj => Below.heap_setCell _ _ _ j (by have := HOG4.out j hj; simp; omega)
            have HQ8 : Hid ((W6.setCell ⟨g4, 3, none⟩ (.slice none 0 0)).ownsRow w.heap.size 54 5 (.slice Bq n dq) n (flat encB (qs.map bk0))) := own_of_block HQ7.out fun j hj => Below.heap_setCell _ _ _ j (fun e => own_apart HQ7.out hx7 (by decide) (by rw [hj, e]))
            have HB8 : Hid (RowKit.Below w.heap.size w (W6.setCell ⟨g4, 3, none⟩ (.slice none 0 0))) := HB7.out.setCell (p := ⟨g4, 3, none⟩) hg4w _
            clear hz7 hc7 HO7 HQ7 HB7
            go_upto_region 25 with (fail)
            clear f3 z3 hx7
            generalize W6.setCell ⟨g4, 3, none⟩ (.slice none 0 0) = W7 at *
            have y0 : W7.cell? ⟨g4, 0, none⟩ = some (.int .i64 g.h.id) := hx8.cell 0
            have y1 : W7.cell? ⟨g4, 1, none⟩ = some (.int .i64 g.h.ref) := hx8.cell 1
            have y2 : W7.cell? ⟨g4, 2, none⟩ = some (.int .i64 g.h.lev) := hx8.cell 2
            have y3 : W7.cell? ⟨g4, 3, none⟩ = some (.slice none 0 0) := hx8.cell 3
            have t2 : W7.cell? ⟨gc, 2, none⟩ = some (.slice Bg k dg) := hc8.c2
            have HOE := Lib.hid (own_alloc HO8.out (.cells #[.int .i64 g.h.id, .int .i64 g.h.ref, .int .i64 g.h.lev, .slice none 0 0] 30))
            have HQE := Lib.hid (own_alloc HQ8.out (.cells #[.int .i64 g.h.id, .int .i64 g.h.ref, .int .i64 g.h.lev, .slice none 0 0] 30))
            have HRD : Hid (Rd (W7.alloc (.cells #[.int .i64 g.h.id, .int .i64 g.h.ref, .int .i64 g.h.lev, .slice none 0 0] 30)) 4 (some ⟨W7.heap.size, 0, none⟩) 1 (encGu (gr0 g))) := rd_new W7 30 (encGu (gr0 g))
            have HON : Hid (∀ u ∈ encGu (gr0 g), u.oneCell' = true) := encGu_one _
            have HM1 : Hid (k + 1 ≤ maxLen ∧ (k + 1) * 48 ≤ 140737488355328) := ⟨by unfold maxLen; omega, by omega⟩
            have HBA : Hid (RowKit.Below w.heap.size w (W7.alloc (.cells #[.int .i64 g.h.id, .int .i64 g.h.ref, .int .i64 g.h.lev, .slice none 0 0] 30))) := HB8.out.alloc HB8.out.size _
            have HOB := Lib.hid (fun j hj => own_base HOE.out j hj)
            have HCA := Lib.hid (hc8.alloc (.cells #[.int .i64 g.h.id, .int .i64 g.h.ref, .int .i64 g.h.lev, .slice none 0 0] 30))
            have HZA := Lib.hid (hz8.alloc (.cells #[.int .i64 g.h.id, .int .i64 g.h.ref, .int .i64 g.h.lev, .slice none 0 0] 30))
            have HQC : Hid (flat encGu ((gs.take (k + 1)).map gr0) = flat encGu ((gs.take k).map gr0) ++ encGu (gr0 g)) := by show _ = _; rw [map_take_snoc gr0 gs k (by have := HM.out; omega) HX.out, flat_append, flat_one]
            have lc := hc8.lt
            have lz := hz8.lt
            clear hz8 hc8 HO8 HQ8 HB8
            go_wp2_with (at_builtin; refine wpList_append_rd _ rfl (.tmp 94) (.tmp 96) 23 rfl w.heap.size 30 _ 4 48 Tryz.underlying23 info37G rfl (by decide) (.slice Bg k dg) k (flat encGu ((gs.take k).map gr0)) rfl HOE.out (some ⟨W7.heap.size, 0, none⟩) 1 _ (encGu (gr0 g)) rfl HRD.out HON.out HM1.out.1 HM1.out.2 HBA.out.size ?_; intro v8 w8 ho8 hg8 hv8; obtain ⟨B8, d8, rfl⟩ := own_slice ho8; have HO8 := Lib.hid ho8; have HB8 : Hid (RowKit.Below w.heap.size w w8) := HBA.out.grown hg8 HBA.out.size (fun j hj => HOB.out j hj); have HC8 : Hid (Bl w8 gc 37 #[.slice none 0 0, .slice Bq n dq, .slice Bg k dg, .slice none 0 0, .slice none 0 0]) := (hg8.block gc (by simp; omega) (fun e => own_apart HOE.out HCA.out (by decide) e)).trans HCA.out; have HZ8 : Hid (Bl w8 w.heap.size 37 #[.slice none 0 0, .slice none 0 0, .slice none 0 0, .slice none 0 0, .slice none 0 0]) := (hg8.block w.heap.size (by simp; omega) (fun e => own_apart HOE.out HZA.out (by decide) e)).trans HZA.out; have HQ8 : Hid (w8.ownsRow w.heap.size 54 5 (.slice Bq n dq) n (flat encB (qs.map bk0))) := own_of_block HQE.out fun j hj => hg8.block j (own_lt HQE.out j hj) (own_diff HQE.out HOE.out (by decide) j hj); have c2 : w8.cell? ⟨gc, 2, none⟩ = some (.slice Bg k dg) := HC8.out.c2; have f2 : w8.frozen? ⟨gc, 2, none⟩ = false := HC8.out.free 2)
            have HC9 : Hid (Bl (w8.setCell ⟨gc, 2, none⟩ (.slice B8 (k + 1) d8)) gc 37 #[.slice none 0 0, .slice Bq n dq, .slice B8 (k + 1) d8, .slice none 0 0, .slice none 0 0]) := by show Bl _ _ _ _; have := HC8.out.put 2 (.slice B8 (k + 1) d8); simpa using this
            have HZ9 : Hid (Bl (w8.setCell ⟨gc, 2, none⟩ (.slice B8 (k + 1) d8)) w.heap.size 37 #[.slice none 0 0, .slice none 0 0, .slice none 0 0, .slice none 0 0, .slice none 0 0]) := HZ8.out.far (p := ⟨gc, 2, none⟩) (by simp; omega) _
            have HO9 : Hid ((w8.setCell ⟨gc, 2, none⟩ (.slice B8 (k + 1) d8)).ownsRow w.heap.size 30 4 (.slice B8 (k + 1) d8) (k + 1) (flat encGu ((gs.take (k + 1)).map gr0))) := by
              show World.ownsRow _ _ _ _ _ _ _
              rw [HQC.out]
              exact own_of_block HO8.out fun j hj => Below.heap_setCell _ _ _ j (fun e => own_apart HO8.out HC8.out (by decide) (by rw [hj, e]))
            have HQ9 : Hid ((w8.setCell ⟨gc, 2, none⟩ (.slice B8 (k + 1) d8)).ownsRow w.heap.size 54 5 (.slice Bq n dq) n (flat encB (qs.map bk0))) := own_of_block HQ8.out fun j hj => Below.heap_setCell _ _ _ j (fun e => own_apart HQ8.out HC8.out (by decide) (by rw [hj, e]))
            have HB9 : Hid (RowKit.Below w.heap.size w (w8.setCell ⟨gc, 2, none⟩ (.slice B8 (k + 1) d8))) := HB8.out.setCell (p := ⟨gc, 2, none⟩) (by simp; omega) _
            go_roundw
            case rel => exact ⟨k + 1, B8, d8, by omega, by go_num, HA2, HC9, HZ9, HQ9, HO9, HB9⟩
            case measure => simp [intOf]; omega
        · obtain rfl : m = k := by omega
          have E : Hid (0 = newErr qs gs) := (newErr_ok (by have := HL.out; omega) (by have := HM.out; omega) HQS.out (fun j hj => HA.out j (by have := HM.out; omega))).symm
          have HOG : Hid (wr.ownsRow w.heap.size 30 4 (.slice Bg m dg) m (flat encGu (gs.map gr0))) := by
            have := HO.out
            rwa [List.take_of_length_le (by have := HM.out; omega)] at this
          have t0 : wr.cell? ⟨gc, 0, none⟩ = some (.slice none 0 0) := HC.out.c0
          have t1 : wr.cell? ⟨gc, 1, none⟩ = some (.slice Bq n dq) := HC.out.c1
          have t2 : wr.cell? ⟨gc, 2, none⟩ = some (.slice Bg m dg) := HC.out.c2
          have t3 : wr.cell? ⟨gc, 3, none⟩ = some (.slice none 0 0) := HC.out.c3
          have t4 : wr.cell? ⟨gc, 4, none⟩ = some (.slice none 0 0) := HC.out.c4
          have r0 : wr.cell? ⟨w.heap.size, 0, none⟩ = some (.slice none 0 0) := HZ.out.cell 0
          have rf0 : wr.frozen? ⟨w.heap.size, 0, none⟩ = false := HZ.out.free 0
          have r1 : wr.cell? ⟨w.heap.size, 1, none⟩ = some (.slice none 0 0) := HZ.out.cell 1
          have rf1 : wr.frozen? ⟨w.heap.size, 1, none⟩ = false := HZ.out.free 1
          have r2 : wr.cell? ⟨w.heap.size, 2, none⟩ = some (.slice none 0 0) := HZ.out.cell 2
          have rf2 : wr.frozen? ⟨w.heap.size, 2, none⟩ = false := HZ.out.free 2
          have r3 : wr.cell? ⟨w.heap.size, 3, none⟩ = some (.slice none 0 0) := HZ.out.cell 3
          have rf3 : wr.frozen? ⟨w.heap.size, 3, none⟩ = false := HZ.out.free 3
          have r4 : wr.cell? ⟨w.heap.size, 4, none⟩ = some (.slice none 0 0) := HZ.out.cell 4
          have rf4 : wr.frozen? ⟨w.heap.size, 4, none⟩ = false := HZ.out.free 4
          go_wp2
          refine bodyPost_ret (v := .tuple #[.agg #[.slice none 0 0, .slice Bq n dq, .slice Bg m dg, .slice none 0 0, .slice none 0 0], .int .i64 0]) (by simp [results, Tryz.results6, go_sem, r0, r1, r2, r3, r4]) rfl ?_
          refine ⟨⟨⟨none, 0, 0⟩, ⟨Bq, n, dq⟩, ⟨Bg, m, dg⟩, ⟨none, 0, 0⟩, ⟨none, 0, 0⟩⟩, 0, rfl, E.out, fun _ => ?_, fun h => absurd rfl h, put5 HB.out (Nat.le_refl _) _ _ _ _ _⟩
          refine ⟨?_, rfl, rfl, rfl⟩
          refine ⟨own0R _ _, own5 HOQ.out (fun j hj e => own_apart HOQ.out HZ.out (by decide) (by rw [hj, e])) _ _ _ _ _, own5 HOG.out (fun j hj e => own_apart HOG.out HZ.out (by decide) (by rw [hj, e])) _ _ _ _ _, own0U _ _, own0S _ _, fun b hb => ?_, fun g hg => ?_⟩
          · obtain ⟨q, _, rfl⟩ := List.mem_map.1 hb
            exact own_nilF _ _
          · obtain ⟨g0, _, rfl⟩ := List.mem_map.1 hg
            exact own0U _ _
end Go.Proofs.YtdbcbbiplkikcaaGreat

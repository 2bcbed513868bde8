/-
  The contract of central.clone: the same centre in rows of its own. No statement of the seat is proved here. Conditions: lengths within bounds.
-/
import Derived.Test.YtdbcbbiplkikcaaGreatNAL
import Derived.Test.YtdbcbbiplkikcaaGreatNAN
import Derived.Test.YtdbcbbiplkikcaaGreatNAI
import Derived.Deep.RegionHeld3
import Derived.Deep.Onto
namespace Go.Proofs.YtdbcbbiplkikcaaGreat
open Go.RowKit Go.Shelf
set_option linter.unusedVariables false

structure SameC (C C' : Cen) : Prop where
  seen : C'.seen = C.seen
  qs : C'.qs.map (fun b => (b.q, b.fs)) = C.qs.map (fun b => (b.q, b.fs))
  gs : C'.gs.map (fun g => (g.h, g.us)) = C.gs.map (fun g => (g.h, g.us))
  cov : C'.cov = C.cov
  sent : C'.sent = C.sent
def ClnRes (w : World) (C : Cen) (e : Ending) (w' : World) : Prop :=
  ∃ (H' : Hds) (C' : Cen), e = .returned (.agg #[.slice H'.s.A H'.s.n H'.s.c, .slice H'.q.A H'.q.n H'.q.c, .slice H'.g.A H'.g.n H'.g.c, .slice H'.k.A H'.k.n H'.k.c, .slice H'.m.A H'.m.n H'.m.c]) ∧ CenO w.heap.size w' H' C' ∧ CovApart H' C' ∧ SameC C C' ∧ RowKit.Below w.heap.size w w'
def QHalf (N : Nat) (W : World) (A : Option Addr) (n d : Nat) (qs : List Qb) (k : Nat) : Prop := ∃ xs : List Qb, xs.length = n ∧ W.ownsRow N 54 5 (.slice A n d) n (flat encB xs) ∧ (∀ j, j < n → xs[j]!.q = qs[j]!.q ∧ xs[j]!.fs = qs[j]!.fs) ∧ (∀ j, j < k → W.ownsRow N 122 5 (.slice xs[j]!.A xs[j]!.n xs[j]!.c) xs[j]!.n (flat encF xs[j]!.fs)) ∧ (∀ j, k ≤ j → j < n → xs[j]! = qs[j]!)
theorem QHalf.start {N : Nat} {W : World} {A : Option Addr} {n d : Nat} {qs : List Qb} (h : W.ownsRow N 54 5 (.slice A n d) n (flat encB qs)) (hl : qs.length = n) : QHalf N W A n d qs 0 :=
  ⟨qs, hl, h, fun _ _ => ⟨rfl, rfl⟩, fun j hj => by omega, fun _ _ _ => rfl⟩
theorem QHalf.keep {N : Nat} {W W' : World} {A : Option Addr} {n d k : Nat} {qs : List Qb} (h : QHalf N W A n d qs k) (hb : RowKit.Below W.heap.size W W') : QHalf N W' A n d qs k := by
  obtain ⟨xs, h1, h2, h3, h4, h5⟩ := h
  exact ⟨xs, h1, own_below h2 hb, h3, fun j hj => own_below (h4 j hj) hb, h5⟩
theorem QHalf.get {N : Nat} {W : World} {A : Option Addr} {n d k : Nat} {qs : List Qb} (h : QHalf N W A n d qs k) (hk : k < n) : ∃ g, A = some ⟨g, 0, none⟩ ∧ g < W.heap.size ∧ (∀ c, c < 5 → W.cell? ⟨g, k * 5 + c, none⟩ = some ((encB qs[k]!)[c]!)) ∧ (∀ o, W.frozen? ⟨g, o, none⟩ = false) := by
  obtain ⟨xs, h1, h2, h3, h4, h5⟩ := h
  obtain ⟨g, rfl⟩ := own_addr h2 (by omega)
  refine ⟨g, rfl, own_lt h2 g rfl, fun c hc => ?_, fun o => h2.frozenAt o⟩
  have hkx : k < xs.length := by omega
  have h6 := own_cellK (enc := encB) (xs := xs) (i := k) (c := c) (fun _ => rfl) h2 hkx hc h1
  rw [h5 k (Nat.le_refl _) hk] at h6
  exact h6
theorem QHalf.step {N : Nat} {W : World} {g n d k : Nat} {A' : Option Addr} {qs : List Qb} {n' d' : Nat} (h : QHalf N W (some ⟨g, 0, none⟩) n d qs k) (hk : k < n) (ho : W.ownsRow N 122 5 (.slice A' n' d') n' (flat encF qs[k]!.fs)) : QHalf N (W.setCell ⟨g, k * 5 + 4, none⟩ (.slice A' n' d')) (some ⟨g, 0, none⟩) n d qs (k + 1) := by
  obtain ⟨xs, h1, h2, h3, h4, h5⟩ := h
  have e5 := h5 k (Nat.le_refl _) hk
  have hkx : k < xs.length := by omega
  have hf : ∀ (B : Option Addr) (m e : Nat) (ys : List Value), W.ownsRow N 122 5 (.slice B m e) m ys → (W.setCell ⟨g, k * 5 + 4, none⟩ (.slice A' n' d')).ownsRow N 122 5 (.slice B m e) m ys := fun B m e ys hh =>
    own_of_block hh fun j hj => Below.heap_setCell _ _ _ j (fun e' => own_diff hh h2 (by decide) j hj (by rw [e']; rfl))
  refine ⟨xs.set k { xs[k]! with A := A', n := n', c := d' }, by simpa using h1, own_setK (enc := encB) (k := 5) (c := 4) (fun _ => rfl) h2 (by omega) hkx rfl, fun j hj => ?_, fun j hj => ?_, fun j hkj hj => ?_⟩
  · rw [get_setK xs k j _ hkx]
    by_cases e : k = j
    · subst e; rw [if_pos rfl]; exact h3 k hk
    · rw [if_neg e]; exact h3 j hj
  · rw [get_setK xs k j _ hkx]
    by_cases e : k = j
    · subst e
      rw [if_pos rfl]
      have e6 := (h3 k hk).2
      show World.ownsRow _ _ _ _ (.slice A' n' d') n' (flat encF xs[k]!.fs)
      rw [e6]
      exact hf _ _ _ _ ho
    · rw [if_neg e]; exact hf _ _ _ _ (h4 j (by omega))
  · rw [get_setK xs k j _ hkx, if_neg (by omega)]
    exact h5 j (by omega) hj
theorem QHalf.done {N : Nat} {W : World} {A : Option Addr} {n d : Nat} {qs : List Qb} (h : QHalf N W A n d qs n) (hl : qs.length = n) : ∃ xs : List Qb, W.ownsRow N 54 5 (.slice A n d) n (flat encB xs) ∧ xs.map (fun b => (b.q, b.fs)) = qs.map (fun b => (b.q, b.fs)) ∧ ∀ b ∈ xs, W.ownsRow N 122 5 (.slice b.A b.n b.c) b.n (flat encF b.fs) := by
  obtain ⟨xs, h1, h2, h3, h4, h5⟩ := h
  refine ⟨xs, h2, ?_, fun b hb => ?_⟩
  · apply List.ext_getElem (by simp [h1, hl])
    intro j hj hj'
    simp only [List.length_map] at hj hj'
    have := h3 j (by omega)
    rw [getElem!_pos xs j hj, getElem!_pos qs j hj'] at this
    simp [this.1, this.2]
  · obtain ⟨j, hj, rfl⟩ := List.getElem_of_mem hb
    have := h4 j (by omega)
    rwa [getElem!_pos xs j hj] at this
def GHalf (N : Nat) (W : World) (A : Option Addr) (n d : Nat) (qs : List Gb) (k : Nat) : Prop := ∃ xs : List Gb, xs.length = n ∧ W.ownsRow N 30 4 (.slice A n d) n (flat encGu xs) ∧ (∀ j, j < n → xs[j]!.h = qs[j]!.h ∧ xs[j]!.us = qs[j]!.us) ∧ (∀ j, j < k → W.ownsRow N 32 2 (.slice xs[j]!.A xs[j]!.n xs[j]!.c) xs[j]!.n (flat enc2 xs[j]!.us)) ∧ (∀ j, k ≤ j → j < n → xs[j]! = qs[j]!)
theorem GHalf.start {N : Nat} {W : World} {A : Option Addr} {n d : Nat} {qs : List Gb} (h : W.ownsRow N 30 4 (.slice A n d) n (flat encGu qs)) (hl : qs.length = n) : GHalf N W A n d qs 0 :=
  ⟨qs, hl, h, fun _ _ => ⟨rfl, rfl⟩, fun j hj => by omega, fun _ _ _ => rfl⟩
theorem GHalf.keep {N : Nat} {W W' : World} {A : Option Addr} {n d k : Nat} {qs : List Gb} (h : GHalf N W A n d qs k) (hb : RowKit.Below W.heap.size W W') : GHalf N W' A n d qs k := by
  obtain ⟨xs, h1, h2, h3, h4, h5⟩ := h
  exact ⟨xs, h1, own_below h2 hb, h3, fun j hj => own_below (h4 j hj) hb, h5⟩
theorem GHalf.get {N : Nat} {W : World} {A : Option Addr} {n d k : Nat} {qs : List Gb} (h : GHalf N W A n d qs k) (hk : k < n) : ∃ g, A = some ⟨g, 0, none⟩ ∧ g < W.heap.size ∧ (∀ c, c < 4 → W.cell? ⟨g, k * 4 + c, none⟩ = some ((encGu qs[k]!)[c]!)) ∧ (∀ o, W.frozen? ⟨g, o, none⟩ = false) := by
  obtain ⟨xs, h1, h2, h3, h4, h5⟩ := h
  obtain ⟨g, rfl⟩ := own_addr h2 (by omega)
  refine ⟨g, rfl, own_lt h2 g rfl, fun c hc => ?_, fun o => h2.frozenAt o⟩
  have hkx : k < xs.length := by omega
  have h6 := own_cellK (enc := encGu) (xs := xs) (i := k) (c := c) (fun _ => rfl) h2 hkx hc h1
  rw [h5 k (Nat.le_refl _) hk] at h6
  exact h6
theorem GHalf.step {N : Nat} {W : World} {g n d k : Nat} {A' : Option Addr} {qs : List Gb} {n' d' : Nat} (h : GHalf N W (some ⟨g, 0, none⟩) n d qs k) (hk : k < n) (ho : W.ownsRow N 32 2 (.slice A' n' d') n' (flat enc2 qs[k]!.us)) : GHalf N (W.setCell ⟨g, k * 4 + 3, none⟩ (.slice A' n' d')) (some ⟨g, 0, none⟩) n d qs (k + 1) := by
  obtain ⟨xs, h1, h2, h3, h4, h5⟩ := h
  have e5 := h5 k (Nat.le_refl _) hk
  have hkx : k < xs.length := by omega
  have hf : ∀ (B : Option Addr) (m e : Nat) (ys : List Value), W.ownsRow N 32 2 (.slice B m e) m ys → (W.setCell ⟨g, k * 4 + 3, none⟩ (.slice A' n' d')).ownsRow N 32 2 (.slice B m e) m ys := fun B m e ys hh =>
    own_of_block hh fun j hj => Below.heap_setCell _ _ _ j (fun e' => own_diff hh h2 (by decide) j hj (by rw [e']; rfl))
  refine ⟨xs.set k { xs[k]! with A := A', n := n', c := d' }, by simpa using h1, own_setK (enc := encGu) (k := 4) (c := 3) (fun _ => rfl) h2 (by omega) hkx rfl, fun j hj => ?_, fun j hj => ?_, fun j hkj hj => ?_⟩
  · rw [get_setK xs k j _ hkx]
    by_cases e : k = j
    · subst e; rw [if_pos rfl]; exact h3 k hk
    · rw [if_neg e]; exact h3 j hj
  · rw [get_setK xs k j _ hkx]
    by_cases e : k = j
    · subst e
      rw [if_pos rfl]
      have e6 := (h3 k hk).2
      show World.ownsRow _ _ _ _ (.slice A' n' d') n' (flat enc2 xs[k]!.us)
      rw [e6]
      exact hf _ _ _ _ ho
    · rw [if_neg e]; exact hf _ _ _ _ (h4 j (by omega))
  · rw [get_setK xs k j _ hkx, if_neg (by omega)]
    exact h5 j (by omega) hj
theorem GHalf.done {N : Nat} {W : World} {A : Option Addr} {n d : Nat} {qs : List Gb} (h : GHalf N W A n d qs n) (hl : qs.length = n) : ∃ xs : List Gb, W.ownsRow N 30 4 (.slice A n d) n (flat encGu xs) ∧ xs.map (fun b => (b.h, b.us)) = qs.map (fun b => (b.h, b.us)) ∧ ∀ b ∈ xs, W.ownsRow N 32 2 (.slice b.A b.n b.c) b.n (flat enc2 b.us) := by
  obtain ⟨xs, h1, h2, h3, h4, h5⟩ := h
  refine ⟨xs, h2, ?_, fun b hb => ?_⟩
  · apply List.ext_getElem (by simp [h1, hl])
    intro j hj hj'
    simp only [List.length_map] at hj hj'
    have := h3 j (by omega)
    rw [getElem!_pos xs j hj, getElem!_pos qs j hj'] at this
    simp [this.1, this.2]
  · obtain ⟨j, hj, rfl⟩ := List.getElem_of_mem hb
    have := h4 j (by omega)
    rwa [getElem!_pos xs j hj] at this
theorem own_setC {w : World} {N : Nat} {T : TypeId} {size n g o : Nat} {v u : Value} {xs : List Value} {cs : Array Value} (h : w.ownsRow N T size v n xs) (hg : Bl w g 37 cs) (hne : T ≠ 37) : (w.setCell ⟨g, o, none⟩ u).ownsRow N T size v n xs := own_of_block h fun j hj => Below.heap_setCell _ _ _ j (fun e => own_apart h hg hne (by rw [hj, e]))
theorem CenO.setQ {N M : Nat} {w : World} {H : Hds} {C : Cen} {u : Value} {n g : Nat} {ys : List Value} (h : CenO N w H C) (hA : H.q.A = Option.none) (hr : w.ownsRow M 54 5 u n ys) (hg : u.ownBlock = some g) (o : Nat) (v : Value) : CenO N (w.setCell ⟨g, o, Option.none⟩ v) H C :=
  ⟨own_of_block h.seen fun b e => Below.heap_setCell _ _ _ b (fun e2 => own_diff h.seen hr (by decide) b e (by rw [e2, hg])), own_of_block h.qs fun b e => (by rw [hA] at e; cases e), own_of_block h.gs fun b e => Below.heap_setCell _ _ _ b (fun e2 => own_diff h.gs hr (by decide) b e (by rw [e2, hg])), own_of_block h.cov fun b e => Below.heap_setCell _ _ _ b (fun e2 => own_diff h.cov hr (by decide) b e (by rw [e2, hg])), own_of_block h.sent fun b e => Below.heap_setCell _ _ _ b (fun e2 => own_diff h.sent hr (by decide) b e (by rw [e2, hg])), fun x hx => own_of_block (h.facts x hx) fun b e => Below.heap_setCell _ _ _ b (fun e2 => own_diff (h.facts x hx) hr (by decide) b e (by rw [e2, hg])), fun x hx => own_of_block (h.uses x hx) fun b e => Below.heap_setCell _ _ _ b (fun e2 => own_diff (h.uses x hx) hr (by decide) b e (by rw [e2, hg]))⟩
theorem CenO.setG {N M : Nat} {w : World} {H : Hds} {C : Cen} {u : Value} {n g : Nat} {ys : List Value} (h : CenO N w H C) (hA : H.g.A = Option.none) (hr : w.ownsRow M 30 4 u n ys) (hg : u.ownBlock = some g) (o : Nat) (v : Value) : CenO N (w.setCell ⟨g, o, Option.none⟩ v) H C :=
  ⟨own_of_block h.seen fun b e => Below.heap_setCell _ _ _ b (fun e2 => own_diff h.seen hr (by decide) b e (by rw [e2, hg])), own_of_block h.qs fun b e => Below.heap_setCell _ _ _ b (fun e2 => own_diff h.qs hr (by decide) b e (by rw [e2, hg])), own_of_block h.gs fun b e => (by rw [hA] at e; cases e), own_of_block h.cov fun b e => Below.heap_setCell _ _ _ b (fun e2 => own_diff h.cov hr (by decide) b e (by rw [e2, hg])), own_of_block h.sent fun b e => Below.heap_setCell _ _ _ b (fun e2 => own_diff h.sent hr (by decide) b e (by rw [e2, hg])), fun x hx => own_of_block (h.facts x hx) fun b e => Below.heap_setCell _ _ _ b (fun e2 => own_diff (h.facts x hx) hr (by decide) b e (by rw [e2, hg])), fun x hx => own_of_block (h.uses x hx) fun b e => Below.heap_setCell _ _ _ b (fun e2 => own_diff (h.uses x hx) hr (by decide) b e (by rw [e2, hg]))⟩
theorem QHalf.row {N : Nat} {W : World} {A : Option Addr} {n d k : Nat} {qs : List Qb} (h : QHalf N W A n d qs k) : ∃ ys, W.ownsRow N 54 5 (.slice A n d) n ys := by obtain ⟨xs, _, h2, _⟩ := h; exact ⟨_, h2⟩
theorem GHalf.row {N : Nat} {W : World} {A : Option Addr} {n d k : Nat} {qs : List Gb} (h : GHalf N W A n d qs k) : ∃ ys, W.ownsRow N 30 4 (.slice A n d) n ys := by obtain ⟨xs, _, h2, _⟩ := h; exact ⟨_, h2⟩
theorem cloneI_nil (c : Nat) (w : World) : Calls Tryz.prog 52 #[.slice none 0 c] w fun e w' => e = .returned (.slice none 0 0) ∧ w = w' := by
  refine (AnyE.slices_Clone_nil Tryz.cloneI 0 c w).mono ?_
  rintro e w' ⟨rfl, rfl⟩
  exact ⟨rfl, rfl⟩

set_option maxRecDepth 100000 in
set_option maxHeartbeats 8000000 in
theorem clone37_any (H : Hds) (C : Cen) (w : World) (h : CenAt w H C) (hs : H.s.n ≤ 100000) (hq : H.q.n ≤ 1000) (hg : H.g.n ≤ 1000) (hk : H.k.n ≤ 100000) (hm : H.m.n ≤ 100000) (hf : ∀ b ∈ C.qs, b.n ≤ 1000) (hu : ∀ g ∈ C.gs, g.n ≤ 1000) :
    Calls Tryz.prog 29 #[.agg #[.slice H.s.A H.s.n H.s.c, .slice H.q.A H.q.n H.q.c, .slice H.g.A H.g.n H.g.c, .slice H.k.A H.k.n H.k.c, .slice H.m.A H.m.n H.m.c]] w (ClnRes w C) := by
  obtain ⟨⟨sA, sn, sc⟩, ⟨qA, qn, qc⟩, ⟨gA, gn, gc⟩, ⟨kA, kn, kc⟩, ⟨mA, mn, mc⟩⟩ := H
  obtain ⟨seen, qs, gs, cov, sent⟩ := C
  simp only at hs hq hg hk hm hf hu
  have HSE := Lib.hid h.seen
  have HQS := Lib.hid h.qs
  have HGS := Lib.hid h.gs
  have HKS := Lib.hid h.cov
  have HMS := Lib.hid h.sent
  have HFS := Lib.hid h.facts
  have HUS := Lib.hid h.uses
  have HFN := Lib.hid hf
  have HUN := Lib.hid hu
  simp only at HSE HQS HGS HKS HMS HFS HUS
  clear h hf hu
  obtain ⟨W0, hW0⟩ : ∃ W, W = (w.alloc (.cells #[.slice sA sn sc, .slice qA qn qc, .slice gA gn gc, .slice kA kn kc, .slice mA mn mc] 37)).alloc (.cells #[.slice none 0 0, .slice none 0 0, .slice none 0 0, .slice none 0 0, .slice none 0 0] 37) := ⟨_, rfl⟩
  have hx : Bl W0 w.heap.size 37 #[.slice sA sn sc, .slice qA qn qc, .slice gA gn gc, .slice kA kn kc, .slice mA mn mc] := by rw [hW0]; exact (Bl.new w _ _).alloc _
  have hr : Bl W0 (w.heap.size + 1) 37 #[.slice none 0 0, .slice none 0 0, .slice none 0 0, .slice none 0 0, .slice none 0 0] := by rw [hW0]; have := Bl.new (w.alloc (.cells #[.slice sA sn sc, .slice qA qn qc, .slice gA gn gc, .slice kA kn kc, .slice mA mn mc] 37)) 37 #[.slice none 0 0, .slice none 0 0, .slice none 0 0, .slice none 0 0, .slice none 0 0]; simpa using this
  have hb0 : RowKit.Below w.heap.size w W0 := by rw [hW0]; exact ((Below.refl _ _).alloc (Nat.le_refl _) _).alloc (by simp) _
  have HX := Lib.hid hx
  have HR := Lib.hid hr
  have HB := Lib.hid hb0
  clear hx hr hb0
  go_enter Tryz.func29, Tryz.ntmps29
  go_upto_region 1 with (fail)
  rw [← hW0]
  clear hW0
  generalize W0 = W at *
  have x0 : W.cell? ⟨w.heap.size, 0, none⟩ = some (.slice sA sn sc) := HX.out.c0
  have HC := Lib.hid (cloneR_any sA sn sc seen W (HSE.out.below HB.out) hs)
  go_wp2_with fail
  refine HC.out.mono ?_
  rintro e w1 ⟨B0, d0, rfl, ho1, hb1⟩
  have HX1 := Lib.hid (HX.out.keep hb1)
  have HR1 := Lib.hid (HR.out.keep hb1)
  have HB1 : Hid (RowKit.Below w.heap.size w w1) := HB.out.trans (hb1.mono HB.out.size)
  have HW1 := Lib.hid (ho1.mono HB.out.size)
  clear x0
  have x0 : w1.cell? ⟨w.heap.size, 0, none⟩ = some (.slice sA sn sc) := HX1.out.c0
  have xf : w1.frozen? ⟨w.heap.size, 0, none⟩ = false := HX1.out.free 0
  have HX2 : Hid (Bl (w1.setCell ⟨w.heap.size, 0, none⟩ (.slice B0 sn d0)) w.heap.size 37 #[.slice B0 sn d0, .slice qA qn qc, .slice gA gn gc, .slice kA kn kc, .slice mA mn mc]) := by show Bl _ _ _ _; have := HX1.out.put 0 (.slice B0 sn d0); simpa using this
  have HR2 : Hid (Bl (w1.setCell ⟨w.heap.size, 0, none⟩ (.slice B0 sn d0)) (w.heap.size + 1) 37 #[.slice none 0 0, .slice none 0 0, .slice none 0 0, .slice none 0 0, .slice none 0 0]) := HR1.out.far (p := ⟨w.heap.size, 0, none⟩) (by simp) _
  have HB2 : Hid (RowKit.Below w.heap.size w (w1.setCell ⟨w.heap.size, 0, none⟩ (.slice B0 sn d0))) := HB1.out.setCell (p := ⟨w.heap.size, 0, none⟩) (by simp) _
  have HW2 := Lib.hid (own_setC (o := 0) (u := .slice B0 sn d0) HW1.out HX1.out (by decide))
  clear ho1 hb1 HC HX HR HB HX1 HR1 HB1 HW1
  go_upto_region 2 with (fail)
  clear x0 xf
  generalize w1.setCell ⟨w.heap.size, 0, none⟩ (.slice B0 sn d0) = W10 at *
  have HX := HX2
  have HR := HR2
  have HB := HB2
  clear HX2 HR2 HB2
  have HO : Hid (CenO w.heap.size W10 { hds0 with s := ⟨B0, sn, d0⟩ } { cen0 with seen := seen }) := (CenO.none w.heap.size W10).seen' (fun _ _ _ => rfl) HW2.out
  clear HW2
  have x0 : W10.cell? ⟨w.heap.size, 1, none⟩ = some (.slice qA qn qc) := HX.out.c1
  have HC := Lib.hid (cloneB_any qA qn qc qs W10 (HQS.out.below HB.out) (by omega))
  go_wp2_with fail
  refine HC.out.mono ?_
  rintro e w1 ⟨B1, d1, rfl, ho1, hb1⟩
  have HX1 := Lib.hid (HX.out.keep hb1)
  have HR1 := Lib.hid (HR.out.keep hb1)
  have HB1 : Hid (RowKit.Below w.heap.size w w1) := HB.out.trans (hb1.mono HB.out.size)
  have HW1 := Lib.hid (ho1.mono HB.out.size)
  clear x0
  have HO1 := Lib.hid (HO.out.below hb1)
  have x0 : w1.cell? ⟨w.heap.size, 1, none⟩ = some (.slice qA qn qc) := HX1.out.c1
  have xf : w1.frozen? ⟨w.heap.size, 1, none⟩ = false := HX1.out.free 1
  have HX2 : Hid (Bl (w1.setCell ⟨w.heap.size, 1, none⟩ (.slice B1 qn d1)) w.heap.size 37 #[.slice B0 sn d0, .slice B1 qn d1, .slice gA gn gc, .slice kA kn kc, .slice mA mn mc]) := by show Bl _ _ _ _; have := HX1.out.put 1 (.slice B1 qn d1); simpa using this
  have HR2 : Hid (Bl (w1.setCell ⟨w.heap.size, 1, none⟩ (.slice B1 qn d1)) (w.heap.size + 1) 37 #[.slice none 0 0, .slice none 0 0, .slice none 0 0, .slice none 0 0, .slice none 0 0]) := HR1.out.far (p := ⟨w.heap.size, 1, none⟩) (by simp) _
  have HB2 : Hid (RowKit.Below w.heap.size w (w1.setCell ⟨w.heap.size, 1, none⟩ (.slice B1 qn d1))) := HB1.out.setCell (p := ⟨w.heap.size, 1, none⟩) (by simp) _
  have HW2 := Lib.hid (own_setC (o := 1) (u := .slice B1 qn d1) HW1.out HX1.out (by decide))
  have HO2 := Lib.hid (HO1.out.setC HX1.out 1 (.slice B1 qn d1))
  clear ho1 hb1 HC HX HR HB HX1 HR1 HB1 HW1
  clear HO HO1
  go_upto_region 3 with (fail)
  clear x0 xf
  generalize w1.setCell ⟨w.heap.size, 1, none⟩ (.slice B1 qn d1) = W11 at *
  have HX := HX2
  have HR := HR2
  have HB := HB2
  clear HX2 HR2 HB2
  have HO := HO2
  clear HO2
  have HQ0 : Hid (QHalf w.heap.size W11 B1 qn d1 qs 0) := QHalf.start HW2.out HQS.out.recs.1
  clear HW2
  have x0 : W11.cell? ⟨w.heap.size, 1, none⟩ = some (.slice B1 qn d1) := HX.out.c1
  go_wp2_with fail
  go_loopw [20] (fun i wx => ∃ k : Nat, k ≤ qn ∧ i = .int .i64 k ∧ Hid (Bl wx w.heap.size 37 #[.slice B0 sn d0, .slice B1 qn d1, .slice gA gn gc, .slice kA kn kc, .slice mA mn mc]) ∧ Hid (Bl wx (w.heap.size + 1) 37 #[.slice none 0 0, .slice none 0 0, .slice none 0 0, .slice none 0 0, .slice none 0 0]) ∧ Hid (RowKit.Below w.heap.size w wx) ∧ Hid (CenO w.heap.size wx { hds0 with s := ⟨B0, sn, d0⟩ } { cen0 with seen := seen }) ∧ Hid (QHalf w.heap.size wx B1 qn d1 qs k)) (fun i _ => qn - (intOf i).toNat)
  case atStart => exact ⟨0, Nat.zero_le _, rfl, HX, HR, HB, HO, HQ0⟩
  case round =>
    clear x0 HX HR HB HO HQ0
    obtain ⟨k, hk0, rfl, HX, HR, HB, HO, HQ⟩ := hrel
    by_cases hlt : k < qn
    · obtain ⟨gq, hA, hgq, hcells, hfree⟩ := HQ.out.get hlt
      subst hA
      obtain ⟨b, hb⟩ : ∃ b, qs[k]! = b := ⟨_, rfl⟩
      rw [hb] at hcells
      have HBE := Lib.hid hb
      have hbm : b ∈ qs := by rw [← hb, getElem!_pos qs k (by rw [HQS.out.recs.1]; exact hlt)]; exact List.getElem_mem _
      have hki : (k : Int) < qn := by omega
      have hkz : (0 : Int) ≤ (k : Int) := by omega
      have HFB := Lib.hid ((HFS.out b hbm).below HB.out)
      have HFBN := Lib.hid (HFN.out b hbm)
      have HFR := Lib.hid hfree
      have a0 : wr.cell? ⟨gq, k * 5, none⟩ = some (.int .i64 b.q.id) := hcells 0 (by omega)
      have a1 : wr.cell? ⟨gq, k * 5 + 1, none⟩ = some (.int .i64 b.q.vol) := hcells 1 (by omega)
      have a2 : wr.cell? ⟨gq, k * 5 + 2, none⟩ = some (.int .i64 b.q.fr) := hcells 2 (by omega)
      have a3 : wr.cell? ⟨gq, k * 5 + 3, none⟩ = some (.int .i64 b.q.tod) := hcells 3 (by omega)
      have a4 : wr.cell? ⟨gq, k * 5 + 4, none⟩ = some (.slice b.A b.n b.c) := hcells 4 (by omega)
      have hy := Bl.new wr 54 #[.int .i64 b.q.id, .int .i64 b.q.vol, .int .i64 b.q.fr, .int .i64 b.q.tod, .slice b.A b.n b.c]
      have ha4 : RowKit.Below wr.heap.size wr (wr.alloc (.cells #[.int .i64 b.q.id, .int .i64 b.q.vol, .int .i64 b.q.fr, .int .i64 b.q.tod, .slice b.A b.n b.c] 54)) := (Below.refl _ _).alloc (Nat.le_refl _) _
      have HX4 := Lib.hid (HX.out.keep ha4)
      have HR4 := Lib.hid (HR.out.keep ha4)
      have HB4 : Hid (RowKit.Below w.heap.size w (wr.alloc (.cells #[.int .i64 b.q.id, .int .i64 b.q.vol, .int .i64 b.q.fr, .int .i64 b.q.tod, .slice b.A b.n b.c] 54))) := HB.out.trans (ha4.mono HB.out.size)
      have HO4 := Lib.hid (HO.out.below ha4)
      have HQ4 := Lib.hid (HQ.out.keep ha4)
      have HF4 := Lib.hid (HFB.out.below ha4)
      have hgq4 : gq < (wr.alloc (.cells #[.int .i64 b.q.id, .int .i64 b.q.vol, .int .i64 b.q.fr, .int .i64 b.q.tod, .slice b.A b.n b.c] 54)).heap.size := Nat.lt_of_lt_of_le hgq ha4.size
      clear hb hbm hcells hfree HFR HX HR HB HO HQ HFB ha4
      go_upto_region 6 with (fail)
      clear a0 a1 a2 a3 a4
      generalize wr.alloc (.cells #[.int .i64 b.q.id, .int .i64 b.q.vol, .int .i64 b.q.fr, .int .i64 b.q.tod, .slice b.A b.n b.c] 54) = W4 at *
      generalize wr.heap.size = g4 at *
      have x0 : W4.cell? ⟨w.heap.size, 1, none⟩ = some (.slice (some ⟨gq, 0, none⟩) qn d1) := HX4.out.c1
      have y0 : W4.cell? ⟨g4, 4, none⟩ = some (.slice b.A b.n b.c) := hy.cell 4
      have HCL : Hid (∀ wx, RowKit.Below W4.heap.size W4 wx → Calls Tryz.prog 48 #[.slice b.A b.n b.c] wx fun e w' => ∃ (B' : Option Addr) (d' : Nat), e = .returned (.slice B' b.n d') ∧ Hid (w'.ownsRow w.heap.size 122 5 (.slice B' b.n d') b.n (flat encF b.fs)) ∧ Hid (RowKit.Below W4.heap.size W4 w') ∧ w'.cell? ⟨gq, k * 5 + 4, none⟩ = some (.slice b.A b.n b.c) ∧ w'.frozen? ⟨gq, k * 5 + 4, none⟩ = false) := fun wx hb => (cloneF_any b.A b.n b.c b.fs wx (HF4.out.below hb).recs (HF4.out.below hb).plain HFBN.out (HF4.out.below hb).nil).mono fun e w' ⟨B', d', h1, h2, h3⟩ => by
        have hbw := hb.trans (h3.mono hb.size)
        obtain ⟨_, hA, _, hcells, hfree⟩ := (HQ4.out.keep hbw).get hlt
        injection hA with hA
        injection hA with hA
        subst hA
        refine ⟨B', d', h1, h2.mono (Nat.le_trans HB4.out.size hb.size), hbw, ?_, hfree _⟩
        rw [hcells 4 (by omega), HBE.out]
        rfl
      have hv1 : Hid (RowKit.Below W4.heap.size W4 W4.drew) := (Below.refl _ _).drew
      have HSK : Hid (∀ wx, RowKit.Below W4.heap.size W4 wx → wx.cell? ⟨w.heap.size, 1, none⟩ = some (.slice (some ⟨gq, 0, none⟩) qn d1) ∧ wx.cell? ⟨g4, 4, none⟩ = some (.slice b.A b.n b.c)) := fun wx hb => ⟨(HX4.out.keep hb).c1, (hy.keep hb).cell 4⟩
      have HNX : Hid (gq ≠ w.heap.size) := fun e => by
        obtain ⟨xs, _, h2, _⟩ := HQ4.out
        exact own_apart h2 HX4.out (by decide) (by rw [e]; rfl)
      have HKT : Hid (∀ wx v, RowKit.Below W4.heap.size W4 wx → (wx.setCell ⟨gq, k * 5 + 4, none⟩ v).cell? ⟨w.heap.size, 1, none⟩ = some (.slice (some ⟨gq, 0, none⟩) qn d1) ∧ (wx.setCell ⟨gq, k * 5 + 4, none⟩ v).cell? ⟨g4, 4, none⟩ = some (.slice b.A b.n b.c)) := fun wx v hb => ⟨((HX4.out.keep hb).far (p := ⟨gq, k * 5 + 4, none⟩) (fun e => HNX.out e.symm) v).c1, ((hy.keep hb).far (p := ⟨gq, k * 5 + 4, none⟩) (by simp; omega) v).cell 4⟩
      clear hy
      go_region_held3 (fun w' => w'.cell? ⟨w.heap.size, 1, none⟩ = some (.slice (some ⟨gq, 0, none⟩) qn d1) ∧ w'.cell? ⟨g4, 4, none⟩ = some (.slice b.A b.n b.c))
        (first
          | with_reducible exact HKT.out _ _ hv5.out
          | with_reducible exact HSK.out _ hv5.out
          | with_reducible exact HSK.out _ hv1.out
          | go_keep)
        (first
          | (go_at_call 48; with_reducible (refine (HCL.out _ hv1.out).mono ?_); rintro e w5 ⟨B', d', rfl, ho5, hv5, e5, f5⟩))
      have HQ5 := Lib.hid ((HQ4.out.keep hv5.out).step hlt (by rw [HBE.out]; exact ho5.out))
      have HX5 := Lib.hid ((HX4.out.keep hv5.out).far (p := ⟨gq, k * 5 + 4, none⟩) (fun e => HNX.out e.symm) (.slice B' b.n d'))
      have HR5 := Lib.hid ((HR4.out.keep hv5.out).far (p := ⟨gq, k * 5 + 4, none⟩) (fun e => by
        obtain ⟨ys, h2⟩ := (HQ4.out).row
        exact own_apart h2 HR4.out (by decide) (by rw [e]; rfl)) (.slice B' b.n d'))
      have HB5 : Hid (RowKit.Below w.heap.size w (w5.setCell ⟨gq, k * 5 + 4, none⟩ (.slice B' b.n d'))) := (HB4.out.trans (hv5.out.mono HB4.out.size)).setCell (p := ⟨gq, k * 5 + 4, none⟩) (by obtain ⟨ys, h2⟩ := (HQ4.out).row; exact own_base h2 gq rfl) _
      have HO5 : Hid (CenO w.heap.size (w5.setCell ⟨gq, k * 5 + 4, none⟩ (.slice B' b.n d')) { hds0 with s := ⟨B0, sn, d0⟩ } { cen0 with seen := seen }) := by
        obtain ⟨ys, h2⟩ := (HQ4.out.keep hv5.out).row
        exact (HO4.out.below hv5.out).setQ rfl h2 rfl _ _
      clear e5 f5 ho5 hv5 HX4 HR4 HB4 HO4 HQ4 HF4 HCL HSK HKT x0 y0 hv1
      go_wp2_with fail
      go_roundw
      case rel => exact ⟨k + 1, by omega, by go_num, HX5, HR5, HB5, HO5, HQ5⟩
      case measure => simp [intOf]; omega
    · obtain rfl : qn = k := by omega
      obtain ⟨xs1, hr1, hm1, hf1⟩ := HQ.out.done HQS.out.recs.1
      have HOX : Hid (CenO w.heap.size wr { hds0 with s := ⟨B0, sn, d0⟩, q := ⟨B1, qn, d1⟩ } { cen0 with seen := seen, qs := xs1 }) := HO.out.qs' (fun _ _ _ => rfl) hr1 hf1
      have HM1 := Lib.hid hm1
      clear HO HQ hr1 hm1 hf1
      have HO := HOX
      clear HOX
      go_upto_region 8 with (fail)
      have x0 : wr.cell? ⟨w.heap.size, 2, none⟩ = some (.slice gA gn gc) := HX.out.c2
      have HC := Lib.hid (cloneG_any gA gn gc gs wr (HGS.out.below HB.out) (by omega))
      go_wp2_with fail
      refine HC.out.mono ?_
      rintro e w1 ⟨B2, d2, rfl, ho1, hb1⟩
      have HX1 := Lib.hid (HX.out.keep hb1)
      have HR1 := Lib.hid (HR.out.keep hb1)
      have HB1 : Hid (RowKit.Below w.heap.size w w1) := HB.out.trans (hb1.mono HB.out.size)
      have HW1 := Lib.hid (ho1.mono HB.out.size)
      clear x0
      have HO1 := Lib.hid (HO.out.below hb1)
      have x0 : w1.cell? ⟨w.heap.size, 2, none⟩ = some (.slice gA gn gc) := HX1.out.c2
      have xf : w1.frozen? ⟨w.heap.size, 2, none⟩ = false := HX1.out.free 2
      have HX2 : Hid (Bl (w1.setCell ⟨w.heap.size, 2, none⟩ (.slice B2 gn d2)) w.heap.size 37 #[.slice B0 sn d0, .slice B1 qn d1, .slice B2 gn d2, .slice kA kn kc, .slice mA mn mc]) := by show Bl _ _ _ _; have := HX1.out.put 2 (.slice B2 gn d2); simpa using this
      have HR2 : Hid (Bl (w1.setCell ⟨w.heap.size, 2, none⟩ (.slice B2 gn d2)) (w.heap.size + 1) 37 #[.slice none 0 0, .slice none 0 0, .slice none 0 0, .slice none 0 0, .slice none 0 0]) := HR1.out.far (p := ⟨w.heap.size, 2, none⟩) (by simp) _
      have HB2 : Hid (RowKit.Below w.heap.size w (w1.setCell ⟨w.heap.size, 2, none⟩ (.slice B2 gn d2))) := HB1.out.setCell (p := ⟨w.heap.size, 2, none⟩) (by simp) _
      have HW2 := Lib.hid (own_setC (o := 2) (u := .slice B2 gn d2) HW1.out HX1.out (by decide))
      have HO2 := Lib.hid (HO1.out.setC HX1.out 2 (.slice B2 gn d2))
      clear ho1 hb1 HC HX HR HB HX1 HR1 HB1 HW1
      clear HO HO1
      go_upto_region 9 with (fail)
      clear x0 xf
      generalize w1.setCell ⟨w.heap.size, 2, none⟩ (.slice B2 gn d2) = W12 at *
      have HX := HX2
      have HR := HR2
      have HB := HB2
      clear HX2 HR2 HB2
      have HO := HO2
      clear HO2
      have HQ0 : Hid (GHalf w.heap.size W12 B2 gn d2 gs 0) := GHalf.start HW2.out HGS.out.recs.1
      clear HW2
      have x0 : W12.cell? ⟨w.heap.size, 2, none⟩ = some (.slice B2 gn d2) := HX.out.c2
      go_wp2_with fail
      go_loopw [41] (fun i wx => ∃ k : Nat, k ≤ gn ∧ i = .int .i64 k ∧ Hid (Bl wx w.heap.size 37 #[.slice B0 sn d0, .slice B1 qn d1, .slice B2 gn d2, .slice kA kn kc, .slice mA mn mc]) ∧ Hid (Bl wx (w.heap.size + 1) 37 #[.slice none 0 0, .slice none 0 0, .slice none 0 0, .slice none 0 0, .slice none 0 0]) ∧ Hid (RowKit.Below w.heap.size w wx) ∧ Hid (CenO w.heap.size wx { hds0 with s := ⟨B0, sn, d0⟩, q := ⟨B1, qn, d1⟩ } { cen0 with seen := seen, qs := xs1 }) ∧ Hid (GHalf w.heap.size wx B2 gn d2 gs k)) (fun i _ => gn - (intOf i).toNat)
      case atStart => exact ⟨0, Nat.zero_le _, rfl, HX, HR, HB, HO, HQ0⟩
      case round =>
        clear x0 HX HR HB HO HQ0
        obtain ⟨k, hk0, rfl, HX, HR, HB, HO, HQ⟩ := hrel
        by_cases hlt : k < gn
        · obtain ⟨gq, hA, hgq, hcells, hfree⟩ := HQ.out.get hlt
          subst hA
          obtain ⟨b, hb⟩ : ∃ b, gs[k]! = b := ⟨_, rfl⟩
          rw [hb] at hcells
          have HBE := Lib.hid hb
          have hbm : b ∈ gs := by rw [← hb, getElem!_pos gs k (by rw [HGS.out.recs.1]; exact hlt)]; exact List.getElem_mem _
          have hki : (k : Int) < gn := by omega
          have hkz : (0 : Int) ≤ (k : Int) := by omega
          have HFB := Lib.hid ((HUS.out b hbm).below HB.out)
          have HFBN := Lib.hid (HUN.out b hbm)
          have HFR := Lib.hid hfree
          have a0 : wr.cell? ⟨gq, k * 4, none⟩ = some (.int .i64 b.h.id) := hcells 0 (by omega)
          have a1 : wr.cell? ⟨gq, k * 4 + 1, none⟩ = some (.int .i64 b.h.ref) := hcells 1 (by omega)
          have a2 : wr.cell? ⟨gq, k * 4 + 2, none⟩ = some (.int .i64 b.h.lev) := hcells 2 (by omega)
          have a3 : wr.cell? ⟨gq, k * 4 + 3, none⟩ = some (.slice b.A b.n b.c) := hcells 3 (by omega)
          have hy := Bl.new wr 30 #[.int .i64 b.h.id, .int .i64 b.h.ref, .int .i64 b.h.lev, .slice b.A b.n b.c]
          have ha4 : RowKit.Below wr.heap.size wr (wr.alloc (.cells #[.int .i64 b.h.id, .int .i64 b.h.ref, .int .i64 b.h.lev, .slice b.A b.n b.c] 30)) := (Below.refl _ _).alloc (Nat.le_refl _) _
          have HX4 := Lib.hid (HX.out.keep ha4)
          have HR4 := Lib.hid (HR.out.keep ha4)
          have HB4 : Hid (RowKit.Below w.heap.size w (wr.alloc (.cells #[.int .i64 b.h.id, .int .i64 b.h.ref, .int .i64 b.h.lev, .slice b.A b.n b.c] 30))) := HB.out.trans (ha4.mono HB.out.size)
          have HO4 := Lib.hid (HO.out.below ha4)
          have HQ4 := Lib.hid (HQ.out.keep ha4)
          have HF4 := Lib.hid (HFB.out.below ha4)
          have hgq4 : gq < (wr.alloc (.cells #[.int .i64 b.h.id, .int .i64 b.h.ref, .int .i64 b.h.lev, .slice b.A b.n b.c] 30)).heap.size := Nat.lt_of_lt_of_le hgq ha4.size
          clear hb hbm hcells hfree HFR HX HR HB HO HQ HFB ha4
          go_upto_region 12 with (fail)
          clear a0 a1 a2 a3
          generalize wr.alloc (.cells #[.int .i64 b.h.id, .int .i64 b.h.ref, .int .i64 b.h.lev, .slice b.A b.n b.c] 30) = W4 at *
          generalize wr.heap.size = g4 at *
          have x0 : W4.cell? ⟨w.heap.size, 2, none⟩ = some (.slice (some ⟨gq, 0, none⟩) gn d2) := HX4.out.c2
          have y0 : W4.cell? ⟨g4, 3, none⟩ = some (.slice b.A b.n b.c) := hy.cell 3
          have HCL : Hid (∀ wx, RowKit.Below W4.heap.size W4 wx → Calls Tryz.prog 50 #[.slice b.A b.n b.c] wx fun e w' => ∃ (B' : Option Addr) (d' : Nat), e = .returned (.slice B' b.n d') ∧ Hid (w'.ownsRow w.heap.size 32 2 (.slice B' b.n d') b.n (flat enc2 b.us)) ∧ Hid (RowKit.Below W4.heap.size W4 w') ∧ w'.cell? ⟨gq, k * 4 + 3, none⟩ = some (.slice b.A b.n b.c) ∧ w'.frozen? ⟨gq, k * 4 + 3, none⟩ = false) := fun wx hb => (cloneU_any b.A b.n b.c b.us wx (HF4.out.below hb) (by have := HFBN.out; omega)).mono fun e w' ⟨B', d', h1, h2, h3⟩ => by
            have hbw := hb.trans (h3.mono hb.size)
            obtain ⟨_, hA, _, hcells, hfree⟩ := (HQ4.out.keep hbw).get hlt
            injection hA with hA
            injection hA with hA
            subst hA
            refine ⟨B', d', h1, h2.mono (Nat.le_trans HB4.out.size hb.size), hbw, ?_, hfree _⟩
            rw [hcells 3 (by omega), HBE.out]
            rfl
          have hv1 : Hid (RowKit.Below W4.heap.size W4 W4.drew) := (Below.refl _ _).drew
          have HSK : Hid (∀ wx, RowKit.Below W4.heap.size W4 wx → wx.cell? ⟨w.heap.size, 2, none⟩ = some (.slice (some ⟨gq, 0, none⟩) gn d2) ∧ wx.cell? ⟨g4, 3, none⟩ = some (.slice b.A b.n b.c)) := fun wx hb => ⟨(HX4.out.keep hb).c2, (hy.keep hb).cell 3⟩
          have HNX : Hid (gq ≠ w.heap.size) := fun e => by
            obtain ⟨xs, _, h2, _⟩ := HQ4.out
            exact own_apart h2 HX4.out (by decide) (by rw [e]; rfl)
          have HKT : Hid (∀ wx v, RowKit.Below W4.heap.size W4 wx → (wx.setCell ⟨gq, k * 4 + 3, none⟩ v).cell? ⟨w.heap.size, 2, none⟩ = some (.slice (some ⟨gq, 0, none⟩) gn d2) ∧ (wx.setCell ⟨gq, k * 4 + 3, none⟩ v).cell? ⟨g4, 3, none⟩ = some (.slice b.A b.n b.c)) := fun wx v hb => ⟨((HX4.out.keep hb).far (p := ⟨gq, k * 4 + 3, none⟩) (fun e => HNX.out e.symm) v).c2, ((hy.keep hb).far (p := ⟨gq, k * 4 + 3, none⟩) (by simp; omega) v).cell 3⟩
          clear hy
          go_region_held3 (fun w' => w'.cell? ⟨w.heap.size, 2, none⟩ = some (.slice (some ⟨gq, 0, none⟩) gn d2) ∧ w'.cell? ⟨g4, 3, none⟩ = some (.slice b.A b.n b.c))
            (first
              | with_reducible exact HKT.out _ _ hv5.out
              | with_reducible exact HSK.out _ hv5.out
              | with_reducible exact HSK.out _ hv1.out
              | go_keep)
            (first
              | (go_at_call 50; with_reducible (refine (HCL.out _ hv1.out).mono ?_); rintro e w5 ⟨B', d', rfl, ho5, hv5, e5, f5⟩))
          have HQ5 := Lib.hid ((HQ4.out.keep hv5.out).step hlt (by rw [HBE.out]; exact ho5.out))
          have HX5 := Lib.hid ((HX4.out.keep hv5.out).far (p := ⟨gq, k * 4 + 3, none⟩) (fun e => HNX.out e.symm) (.slice B' b.n d'))
          have HR5 := Lib.hid ((HR4.out.keep hv5.out).far (p := ⟨gq, k * 4 + 3, none⟩) (fun e => by
            obtain ⟨ys, h2⟩ := (HQ4.out).row
            exact own_apart h2 HR4.out (by decide) (by rw [e]; rfl)) (.slice B' b.n d'))
          have HB5 : Hid (RowKit.Below w.heap.size w (w5.setCell ⟨gq, k * 4 + 3, none⟩ (.slice B' b.n d'))) := (HB4.out.trans (hv5.out.mono HB4.out.size)).setCell (p := ⟨gq, k * 4 + 3, none⟩) (by obtain ⟨ys, h2⟩ := (HQ4.out).row; exact own_base h2 gq rfl) _
          have HO5 : Hid (CenO w.heap.size (w5.setCell ⟨gq, k * 4 + 3, none⟩ (.slice B' b.n d')) { hds0 with s := ⟨B0, sn, d0⟩, q := ⟨B1, qn, d1⟩ } { cen0 with seen := seen, qs := xs1 }) := by
            obtain ⟨ys, h2⟩ := (HQ4.out.keep hv5.out).row
            exact (HO4.out.below hv5.out).setG rfl h2 rfl _ _
          clear e5 f5 ho5 hv5 HX4 HR4 HB4 HO4 HQ4 HF4 HCL HSK HKT x0 y0 hv1
          go_wp2_with fail
          go_roundw
          case rel => exact ⟨k + 1, by omega, by go_num, HX5, HR5, HB5, HO5, HQ5⟩
          case measure => simp [intOf]; omega
        · obtain rfl : gn = k := by omega
          obtain ⟨xs2, hr1, hm2, hf1⟩ := HQ.out.done HGS.out.recs.1
          have HOX : Hid (CenO w.heap.size wr { hds0 with s := ⟨B0, sn, d0⟩, q := ⟨B1, qn, d1⟩, g := ⟨B2, gn, d2⟩ } { cen0 with seen := seen, qs := xs1, gs := xs2 }) := HO.out.gs' (fun _ _ _ => rfl) hr1 hf1
          have HM2 := Lib.hid hm2
          clear HO HQ hr1 hm2 hf1
          have HO := HOX
          clear HOX
          go_upto_region 14 with (fail)
          have x0 : wr.cell? ⟨w.heap.size, 3, none⟩ = some (.slice kA kn kc) := HX.out.c3
          have HC := Lib.hid (cloneU_any kA kn kc cov wr (HKS.out.below HB.out) hk)
          go_wp2_with fail
          refine HC.out.mono ?_
          rintro e w1 ⟨B3, d3, rfl, ho1, hb1⟩
          have HX1 := Lib.hid (HX.out.keep hb1)
          have HR1 := Lib.hid (HR.out.keep hb1)
          have HB1 : Hid (RowKit.Below w.heap.size w w1) := HB.out.trans (hb1.mono HB.out.size)
          have HW1 := Lib.hid (ho1.mono HB.out.size)
          clear x0
          have HCA : Hid (∀ g ∈ xs2, ∀ b, (Value.slice g.A g.n g.c).ownBlock = some b → (Value.slice B3 kn d3).ownBlock ≠ some b) := fun g hg b e e2 => by
            have h1 := own_lt (HO.out.uses g hg) b e
            have h2 := own_base ho1 b e2
            omega
          have HO1 := Lib.hid (HO.out.below hb1)
          have x0 : w1.cell? ⟨w.heap.size, 3, none⟩ = some (.slice kA kn kc) := HX1.out.c3
          have xf : w1.frozen? ⟨w.heap.size, 3, none⟩ = false := HX1.out.free 3
          have HX2 : Hid (Bl (w1.setCell ⟨w.heap.size, 3, none⟩ (.slice B3 kn d3)) w.heap.size 37 #[.slice B0 sn d0, .slice B1 qn d1, .slice B2 gn d2, .slice B3 kn d3, .slice mA mn mc]) := by show Bl _ _ _ _; have := HX1.out.put 3 (.slice B3 kn d3); simpa using this
          have HR2 : Hid (Bl (w1.setCell ⟨w.heap.size, 3, none⟩ (.slice B3 kn d3)) (w.heap.size + 1) 37 #[.slice none 0 0, .slice none 0 0, .slice none 0 0, .slice none 0 0, .slice none 0 0]) := HR1.out.far (p := ⟨w.heap.size, 3, none⟩) (by simp) _
          have HB2 : Hid (RowKit.Below w.heap.size w (w1.setCell ⟨w.heap.size, 3, none⟩ (.slice B3 kn d3))) := HB1.out.setCell (p := ⟨w.heap.size, 3, none⟩) (by simp) _
          have HW2 := Lib.hid (own_setC (o := 3) (u := .slice B3 kn d3) HW1.out HX1.out (by decide))
          have HO2 := Lib.hid (HO1.out.setC HX1.out 3 (.slice B3 kn d3))
          clear ho1 hb1 HC HX HR HB HX1 HR1 HB1 HW1
          clear HO HO1
          go_upto_region 15 with (fail)
          clear x0 xf
          generalize w1.setCell ⟨w.heap.size, 3, none⟩ (.slice B3 kn d3) = W13 at *
          have HX := HX2
          have HR := HR2
          have HB := HB2
          clear HX2 HR2 HB2
          have HO := HO2
          clear HO2
          have HOX : Hid (CenO w.heap.size W13 ⟨⟨B0, sn, d0⟩, ⟨B1, qn, d1⟩, ⟨B2, gn, d2⟩, ⟨B3, kn, d3⟩, ⟨none, 0, 0⟩⟩ ⟨seen, xs1, xs2, cov, []⟩) := HO.out.cov' (fun g hg b e e2 => by cases e2) (fun _ _ _ => rfl) HW2.out
          clear HO HW2
          have HO := HOX
          clear HOX
          have x0 : W13.cell? ⟨w.heap.size, 4, none⟩ = some (.slice mA mn mc) := HX.out.c4
          have HC := Lib.hid (cloneS_any mA mn mc sent W13 (HMS.out.below HB.out) hm)
          go_wp2_with fail
          refine HC.out.mono ?_
          rintro e w1 ⟨B4, d4, rfl, ho1, hb1⟩
          have HX1 := Lib.hid (HX.out.keep hb1)
          have HR1 := Lib.hid (HR.out.keep hb1)
          have HB1 : Hid (RowKit.Below w.heap.size w w1) := HB.out.trans (hb1.mono HB.out.size)
          have HW1 := Lib.hid (ho1.mono HB.out.size)
          clear x0
          have HO1 := Lib.hid (HO.out.below hb1)
          have x0 : w1.cell? ⟨w.heap.size, 4, none⟩ = some (.slice mA mn mc) := HX1.out.c4
          have xf : w1.frozen? ⟨w.heap.size, 4, none⟩ = false := HX1.out.free 4
          have HX2 : Hid (Bl (w1.setCell ⟨w.heap.size, 4, none⟩ (.slice B4 mn d4)) w.heap.size 37 #[.slice B0 sn d0, .slice B1 qn d1, .slice B2 gn d2, .slice B3 kn d3, .slice B4 mn d4]) := by show Bl _ _ _ _; have := HX1.out.put 4 (.slice B4 mn d4); simpa using this
          have HR2 : Hid (Bl (w1.setCell ⟨w.heap.size, 4, none⟩ (.slice B4 mn d4)) (w.heap.size + 1) 37 #[.slice none 0 0, .slice none 0 0, .slice none 0 0, .slice none 0 0, .slice none 0 0]) := HR1.out.far (p := ⟨w.heap.size, 4, none⟩) (by simp) _
          have HB2 : Hid (RowKit.Below w.heap.size w (w1.setCell ⟨w.heap.size, 4, none⟩ (.slice B4 mn d4))) := HB1.out.setCell (p := ⟨w.heap.size, 4, none⟩) (by simp) _
          have HW2 := Lib.hid (own_setC (o := 4) (u := .slice B4 mn d4) HW1.out HX1.out (by decide))
          have HO2 := Lib.hid (HO1.out.setC HX1.out 4 (.slice B4 mn d4))
          clear ho1 hb1 HC HX HR HB HX1 HR1 HB1 HW1
          clear HO HO1
          go_upto_region 16 with (fail)
          clear x0 xf
          generalize w1.setCell ⟨w.heap.size, 4, none⟩ (.slice B4 mn d4) = W14 at *
          have HX := HX2
          have HR := HR2
          have HB := HB2
          clear HX2 HR2 HB2
          have HO := HO2
          clear HO2
          have HOX : Hid (CenO w.heap.size W14 ⟨⟨B0, sn, d0⟩, ⟨B1, qn, d1⟩, ⟨B2, gn, d2⟩, ⟨B3, kn, d3⟩, ⟨B4, mn, d4⟩⟩ ⟨seen, xs1, xs2, cov, sent⟩) := HO.out.sent' (fun _ _ _ => rfl) HW2.out
          clear HO HW2
          have HO := HOX
          clear HOX
          have HLM : Hid (sent.length = mn) := HMS.out.recs.1
          have x0 : W14.cell? ⟨w.heap.size, 4, none⟩ = some (.slice B4 mn d4) := HX.out.c4
          go_wp2_with fail
          go_loopw [66] (fun i wx => ∃ k : Nat, k ≤ mn ∧ i = .int .i64 k ∧ Hid (Bl wx w.heap.size 37 #[.slice B0 sn d0, .slice B1 qn d1, .slice B2 gn d2, .slice B3 kn d3, .slice B4 mn d4]) ∧ Hid (Bl wx (w.heap.size + 1) 37 #[.slice none 0 0, .slice none 0 0, .slice none 0 0, .slice none 0 0, .slice none 0 0]) ∧ Hid (RowKit.Below w.heap.size w wx) ∧ Hid (CenO w.heap.size wx ⟨⟨B0, sn, d0⟩, ⟨B1, qn, d1⟩, ⟨B2, gn, d2⟩, ⟨B3, kn, d3⟩, ⟨B4, mn, d4⟩⟩ ⟨seen, xs1, xs2, cov, sent⟩)) (fun i _ => mn - (intOf i).toNat)
          case atStart => exact ⟨0, Nat.zero_le _, rfl, HX, HR, HB, HO⟩
          case round =>
            clear x0 HX HR HB HO
            obtain ⟨k, hk0, rfl, HX, HR, HB, HO⟩ := hrel
            by_cases hlt : k < mn
            · obtain ⟨gq, hA⟩ := own_addr HO.out.sent (by simp only; omega)
              simp only at hA
              subst hA
              have hcells : ∀ c, c < 13 → wr.cell? ⟨gq, k * 13 + c, none⟩ = some ((encS sent[k]!)[c]!) := fun c hc => own_cellK (enc := encS) (xs := sent) (i := k) (c := c) encS_len HO.out.sent (by rw [HLM.out]; exact hlt) hc HLM.out
              have HFR : Hid (∀ o, wr.frozen? ⟨gq, o, none⟩ = false) := fun o => HO.out.sent.frozenAt o
              have hgq : gq < wr.heap.size := own_lt HO.out.sent gq rfl
              obtain ⟨x, hxx⟩ : ∃ x, sent[k]! = x := ⟨_, rfl⟩
              rw [hxx] at hcells
              have HXX := Lib.hid hxx
              have hki : (k : Int) < mn := by omega
              have hkz : (0 : Int) ≤ (k : Int) := by omega
              have a0 : wr.cell? ⟨gq, k * 13, none⟩ = some (.int .i64 x.kind) := hcells 0 (by omega)
              have a1 : wr.cell? ⟨gq, k * 13 + 1, none⟩ = some (.int .i64 0) := hcells 1 (by omega)
              have a2 : wr.cell? ⟨gq, k * 13 + 2, none⟩ = some (.int .i64 x.dst) := hcells 2 (by omega)
              have a3 : wr.cell? ⟨gq, k * 13 + 3, none⟩ = some (.int .i64 x.num) := hcells 3 (by omega)
              have a4 : wr.cell? ⟨gq, k * 13 + 4, none⟩ = some (.int .i64 x.day) := hcells 4 (by omega)
              have a5 : wr.cell? ⟨gq, k * 13 + 5, none⟩ = some (.int .i64 x.lot) := hcells 5 (by omega)
              have a6 : wr.cell? ⟨gq, k * 13 + 6, none⟩ = some (.int .i64 x.oth) := hcells 6 (by omega)
              have a7 : wr.cell? ⟨gq, k * 13 + 7, none⟩ = some (.string ByteArray.empty) := hcells 7 (by omega)
              have a8 : wr.cell? ⟨gq, k * 13 + 8, none⟩ = some (.string ByteArray.empty) := hcells 8 (by omega)
              have a9 : wr.cell? ⟨gq, k * 13 + 9, none⟩ = some (.int .i64 x.qty) := hcells 9 (by omega)
              have a10 : wr.cell? ⟨gq, k * 13 + 10, none⟩ = some (.int .i64 x.amt) := hcells 10 (by omega)
              have a11 : wr.cell? ⟨gq, k * 13 + 11, none⟩ = some (.slice none 0 0) := hcells 11 (by omega)
              have a12 : wr.cell? ⟨gq, k * 13 + 12, none⟩ = some (.string ByteArray.empty) := hcells 12 (by omega)
              have hy := Bl.new wr 48 #[.int .i64 x.kind, .int .i64 0, .int .i64 x.dst, .int .i64 x.num, .int .i64 x.day, .int .i64 x.lot, .int .i64 x.oth, .string ByteArray.empty, .string ByteArray.empty, .int .i64 x.qty, .int .i64 x.amt, .slice none 0 0, .string ByteArray.empty]
              have ha4 : RowKit.Below wr.heap.size wr (wr.alloc (.cells #[.int .i64 x.kind, .int .i64 0, .int .i64 x.dst, .int .i64 x.num, .int .i64 x.day, .int .i64 x.lot, .int .i64 x.oth, .string ByteArray.empty, .string ByteArray.empty, .int .i64 x.qty, .int .i64 x.amt, .slice none 0 0, .string ByteArray.empty] 48)) := (Below.refl _ _).alloc (Nat.le_refl _) _
              have HX4 := Lib.hid (HX.out.keep ha4)
              have HR4 := Lib.hid (HR.out.keep ha4)
              have HB4 : Hid (RowKit.Below w.heap.size w (wr.alloc (.cells #[.int .i64 x.kind, .int .i64 0, .int .i64 x.dst, .int .i64 x.num, .int .i64 x.day, .int .i64 x.lot, .int .i64 x.oth, .string ByteArray.empty, .string ByteArray.empty, .int .i64 x.qty, .int .i64 x.amt, .slice none 0 0, .string ByteArray.empty] 48))) := HB.out.trans (ha4.mono HB.out.size)
              have HO4 := Lib.hid (HO.out.below ha4)
              have e5 : (wr.alloc (.cells #[.int .i64 x.kind, .int .i64 0, .int .i64 x.dst, .int .i64 x.num, .int .i64 x.day, .int .i64 x.lot, .int .i64 x.oth, .string ByteArray.empty, .string ByteArray.empty, .int .i64 x.qty, .int .i64 x.amt, .slice none 0 0, .string ByteArray.empty] 48)).cell? ⟨gq, k * 13 + 11, none⟩ = some (.slice none 0 0) := (ha4.cell (p := ⟨gq, k * 13 + 11, none⟩) hgq).trans a11
              have f5 : (wr.alloc (.cells #[.int .i64 x.kind, .int .i64 0, .int .i64 x.dst, .int .i64 x.num, .int .i64 x.day, .int .i64 x.lot, .int .i64 x.oth, .string ByteArray.empty, .string ByteArray.empty, .int .i64 x.qty, .int .i64 x.amt, .slice none 0 0, .string ByteArray.empty] 48)).frozen? ⟨gq, k * 13 + 11, none⟩ = false := (ha4.frozen (p := ⟨gq, k * 13 + 11, none⟩) hgq).trans (HFR.out _)
              clear hxx hcells HX HR HB HO HFR ha4
              go_upto_region 19 with (fail)
              clear a0 a1 a2 a3 a4 a5 a6 a7 a8 a9 a10 a11 a12
              generalize wr.alloc (.cells #[.int .i64 x.kind, .int .i64 0, .int .i64 x.dst, .int .i64 x.num, .int .i64 x.day, .int .i64 x.lot, .int .i64 x.oth, .string ByteArray.empty, .string ByteArray.empty, .int .i64 x.qty, .int .i64 x.amt, .slice none 0 0, .string ByteArray.empty] 48) = W4 at *
              generalize wr.heap.size = g4 at *
              have x0 : W4.cell? ⟨w.heap.size, 4, none⟩ = some (.slice (some ⟨gq, 0, none⟩) mn d4) := HX4.out.c4
              have y0 : W4.cell? ⟨g4, 11, none⟩ = some (.slice none 0 0) := hy.cell 11
              have HCI := Lib.hid (fun wx => cloneI_nil 0 wx)
              have hne0 : w.heap.size ≠ gq := fun e => own_apart HO4.out.sent HX4.out (by decide) (by rw [e]; rfl)
              have hne1 : w.heap.size + 1 ≠ gq := fun e => own_apart HO4.out.sent HR4.out (by decide) (by rw [e]; rfl)
              have hne2 : g4 ≠ gq := by omega
              have HN0 := Lib.hid hne0
              have HN1 := Lib.hid hne1
              have HKT : Hid ((W4.setCell ⟨gq, k * 13 + 11, none⟩ (.slice none 0 0)).drew.cell? ⟨w.heap.size, 4, none⟩ = some (.slice (some ⟨gq, 0, none⟩) mn d4) ∧ (W4.setCell ⟨gq, k * 13 + 11, none⟩ (.slice none 0 0)).drew.cell? ⟨g4, 11, none⟩ = some (.slice none 0 0)) := ⟨((HX4.out.far (p := ⟨gq, k * 13 + 11, none⟩) HN0.out (.slice none 0 0)).drew).c4, ((hy.far (p := ⟨gq, k * 13 + 11, none⟩) hne2 (.slice none 0 0)).drew).cell 11⟩
              clear hne0 hne1 hne2 hy
              go_region_held3 (fun w' => w'.cell? ⟨w.heap.size, 4, none⟩ = some (.slice (some ⟨gq, 0, none⟩) mn d4) ∧ w'.cell? ⟨g4, 11, none⟩ = some (.slice none 0 0))
                (first
                  | with_reducible exact HKT.out
                  | go_keep)
                (first
                  | (go_at_call 52; with_reducible (refine (HCI.out _).mono ?_); rintro e w5 ⟨rfl, rfl⟩))
              have HX5 : Hid (Bl (W4.setCell ⟨gq, k * 13 + 11, none⟩ (.slice none 0 0)).drew w.heap.size 37 #[.slice B0 sn d0, .slice B1 qn d1, .slice B2 gn d2, .slice B3 kn d3, .slice (some ⟨gq, 0, none⟩) mn d4]) := (HX4.out.far (p := ⟨gq, k * 13 + 11, none⟩) HN0.out _).drew
              have HR5 : Hid (Bl (W4.setCell ⟨gq, k * 13 + 11, none⟩ (.slice none 0 0)).drew (w.heap.size + 1) 37 #[.slice none 0 0, .slice none 0 0, .slice none 0 0, .slice none 0 0, .slice none 0 0]) := (HR4.out.far (p := ⟨gq, k * 13 + 11, none⟩) HN1.out _).drew
              have HB5 : Hid (RowKit.Below w.heap.size w (W4.setCell ⟨gq, k * 13 + 11, none⟩ (.slice none 0 0)).drew) := (HB4.out.setCell (p := ⟨gq, k * 13 + 11, none⟩) (own_base HO4.out.sent gq rfl) _).drew
              have HO5 : Hid (CenO w.heap.size (W4.setCell ⟨gq, k * 13 + 11, none⟩ (.slice none 0 0)).drew ⟨⟨B0, sn, d0⟩, ⟨B1, qn, d1⟩, ⟨B2, gn, d2⟩, ⟨B3, kn, d3⟩, ⟨some ⟨gq, 0, none⟩, mn, d4⟩⟩ ⟨seen, xs1, xs2, cov, sent⟩) := by
                have h1 : CenO w.heap.size W4 ⟨⟨B0, sn, d0⟩, ⟨B1, qn, d1⟩, ⟨B2, gn, d2⟩, ⟨B3, kn, d3⟩, ⟨some ⟨gq, 0, none⟩, mn, d4⟩⟩ ⟨seen, xs1, xs2, cov, sent⟩ := HO4.out
                have h2 := own_setK (enc := encS) (k := 13) (c := 11) (i := k) (y := sent[k]!) (v := .slice none 0 0) encS_len h1.sent (by omega) (by rw [HLM.out]; exact hlt) rfl
                rw [getElem!_pos sent k (by rw [HLM.out]; exact hlt), List.set_getElem_self] at h2
                exact (h1.sent' (fun b _ hb => Below.heap_setCell _ _ _ b (fun e => hb (by rw [e]; rfl))) h2).below (Below.refl _ _).drew
              clear x0 y0 e5 f5 HX4 HR4 HB4 HO4 HCI HKT HN0 HN1
              go_wp2_with fail
              go_roundw
              case rel => exact ⟨k + 1, by omega, by go_num, HX5, HR5, HB5, HO5⟩
              case measure => simp [intOf]; omega
            · obtain rfl : mn = k := by omega
              have x0 : wr.cell? ⟨w.heap.size, 0, none⟩ = some (.slice B0 sn d0) := HX.out.c0
              have x1 : wr.cell? ⟨w.heap.size, 1, none⟩ = some (.slice B1 qn d1) := HX.out.c1
              have x2 : wr.cell? ⟨w.heap.size, 2, none⟩ = some (.slice B2 gn d2) := HX.out.c2
              have x3 : wr.cell? ⟨w.heap.size, 3, none⟩ = some (.slice B3 kn d3) := HX.out.c3
              have x4 : wr.cell? ⟨w.heap.size, 4, none⟩ = some (.slice B4 mn d4) := HX.out.c4
              have r0 : wr.cell? ⟨w.heap.size + 1, 0, none⟩ = some (.slice none 0 0) := HR.out.c0
              have rf0 : wr.frozen? ⟨w.heap.size + 1, 0, none⟩ = false := HR.out.free 0
              have r1 : wr.cell? ⟨w.heap.size + 1, 1, none⟩ = some (.slice none 0 0) := HR.out.c1
              have rf1 : wr.frozen? ⟨w.heap.size + 1, 1, none⟩ = false := HR.out.free 1
              have r2 : wr.cell? ⟨w.heap.size + 1, 2, none⟩ = some (.slice none 0 0) := HR.out.c2
              have rf2 : wr.frozen? ⟨w.heap.size + 1, 2, none⟩ = false := HR.out.free 2
              have r3 : wr.cell? ⟨w.heap.size + 1, 3, none⟩ = some (.slice none 0 0) := HR.out.c3
              have rf3 : wr.frozen? ⟨w.heap.size + 1, 3, none⟩ = false := HR.out.free 3
              have r4 : wr.cell? ⟨w.heap.size + 1, 4, none⟩ = some (.slice none 0 0) := HR.out.c4
              have rf4 : wr.frozen? ⟨w.heap.size + 1, 4, none⟩ = false := HR.out.free 4
              go_wp2
              refine bodyPost_ret (v := .agg #[.slice B0 sn d0, .slice B1 qn d1, .slice B2 gn d2, .slice B3 kn d3, .slice B4 mn d4]) (by simp [results, Tryz.results29, go_sem, r0, r1, r2, r3, r4]) rfl ?_
              exact ⟨⟨⟨B0, sn, d0⟩, ⟨B1, qn, d1⟩, ⟨B2, gn, d2⟩, ⟨B3, kn, d3⟩, ⟨B4, mn, d4⟩⟩, ⟨seen, xs1, xs2, cov, sent⟩, rfl, HO.out.far HR.out (fun b hb => heap_set5 hb _ _ _ _ _), HCA.out, ⟨rfl, HM1.out, HM2.out, rfl, rfl⟩, put5 HB.out (by omega) _ _ _ _ _⟩
end Go.Proofs.YtdbcbbiplkikcaaGreat

/-
  The contracts of slices.Insert (one element) and slices.Clone at Receipt. No statement of the seat is proved here. Conditions: at most 1000 elements.
  Contracts of cmp.Or at ints and central.byNumber: they return an integer. No statement of the seat is proved here. Conditions: the slice reads as integers.
  The contract of central.byNumber: it returns an integer. No statement of the seat is proved here. No conditions.
  The contract of slices.BinarySearchFunc at receipts: a place in the list. No statement of the seat is proved here. Conditions: at most 1000000 receipts.
  The contract of the deferred closure of central.handle. No statement of the seat is proved here. Conditions: rows of the call's own, boxes known.
  The closure of central.fact: whether a book has a number. No statement of the seat is proved here. Conditions: the message's box lies in the world.
-/
import Derived.Test.YtdbcbbiplkikcaaGreatMAJ
import Derived.Test.YtdbcbbiplkikcaaGreatMAL
import Derived.Deep.RegionHeld3
import Derived.StillTailTactics
import Derived.Test.YtdbcbbiplkikcaaGreatMAQ
import Derived.Defers
namespace Go.Proofs.YtdbcbbiplkikcaaGreat
open Go.RowKit Go.Shelf
set_option linter.unusedVariables false

def InsResR (w : World) (v : Value) (N n : Nat) (fs : List Rcp) (e : Ending) (w' : World) : Prop := ∃ (B : Option Addr) (d : Nat), e = .returned (.slice B (n + 1) d) ∧ w'.ownsRow N 85 3 (.slice B (n + 1) d) (n + 1) (flat encRc fs) ∧ RowKit.Below N w w' ∧ ∀ k, k < w.heap.size → some k ≠ v.ownBlock → w'.heap[k]? = w.heap[k]?

set_option maxRecDepth 100000 in
set_option maxHeartbeats 4000000 in
theorem insert_endR (N : Nat) (B : Option Addr) (n c : Nat) (fs : List Rcp) (f : Rcp) (vb : Nat) (w : World) (ho : w.ownsRow N 85 3 (.slice B n c) n (flat encRc fs)) (hv : Bl w vb 85 (encRc f).toArray) (hn : n ≤ 1000) (hN : N ≤ w.heap.size) :
    Calls Tryz.prog 42 #[.slice B n c, .int .i64 n, .slice (some ⟨vb, 0, none⟩) 1 1] w (InsResR w (.slice B n c) N n (fs ++ [f])) := by
  have HO := Lib.hid ho
  have HR : Hid (Rd w 3 (some ⟨vb, 0, none⟩) 1 (encRc f)) := ⟨rfl, fun _ => ⟨vb, 0, rfl, hv.lt, fun j u hu => by rw [Nat.zero_add, hv.cell]; simpa using hu⟩⟩
  have HM : Hid (n + 1 ≤ maxLen ∧ (n + 1) * 24 ≤ 140737488355328) := ⟨by unfold maxLen; omega, by omega⟩
  have HN := Lib.hid hN
  have HON := Lib.hid (encRc_one f)
  clear ho hv hN
  have hbd := own_boundsF HO.out
  go_enter Tryz.func42, Tryz.ntmps42
  go_wp2_with (at_builtin; refine wpList_append_rd _ rfl (.tmp 23) (.tmp 24) 33 rfl N 85 _ 3 24 Tryz.underlying33 info37R rfl (by decide) (.slice B n c) n (flat encRc fs) rfl HO.out (some ⟨vb, 0, none⟩) 1 1 (encRc f) rfl HR.out HON.out HM.out.1 HM.out.2 HN.out ?_; intro v6 w6 ho6 hg6 _; obtain ⟨B6, d6, rfl⟩ := own_slice ho6)
  all_goals go_ret
  all_goals exact ⟨B6, d6, rfl, by rw [flat_append, flat_one]; exact ho6, (Below.refl N w).grown hg6 HN.out (fun k hk => own_base HO.out k hk), fun k hk hne => hg6.block k hk (fun e => hne (by rw [e]; try (cases B <;> rfl)))⟩
theorem flat_takeR (fs : List Rcp) (i : Nat) (hi : i ≤ fs.length) : flat encRc fs = flat encRc (fs.take i) ++ flat encRc (fs.drop i) := by rw [← flat_append, List.take_append_drop]
theorem flat_oneFR (fs : List Rcp) : ∀ v ∈ flat encRc fs, v.oneCell' = true := fun u hu => by
  obtain ⟨x, _, hx⟩ := List.mem_flatMap.1 hu
  exact encRc_one x u hx

set_option maxRecDepth 100000 in
set_option maxHeartbeats 4000000 in
theorem insert_shiftR (N g n c i : Nat) (fs : List Rcp) (f : Rcp) (vb : Nat) (w : World) (ho : w.ownsRow N 85 3 (.slice (some ⟨g, 0, none⟩) n c) n (flat encRc fs)) (hl : fs.length = n) (hv : Bl w vb 85 (encRc f).toArray) (hvg : vb ≠ g) (hi : i < n) (hc : n + 1 ≤ c) (hn : n ≤ 1000) (hN : N ≤ w.heap.size) :
    Calls Tryz.prog 42 #[.slice (some ⟨g, 0, none⟩) n c, .int .i64 i, .slice (some ⟨vb, 0, none⟩) 1 1] w (InsResR w (.slice (some ⟨g, 0, none⟩) n c) N n (fs.take i ++ f :: fs.drop i)) := by
  obtain ⟨cur, hNg, hcur, hcs, hct⟩ : ∃ cur : List Value, N ≤ g ∧ w.heap[g]? = some (.cells cur.toArray 85 (0, 0)) ∧ cur.length = c * 3 ∧ cur.take (n * 3) = flat encRc fs := by
    rcases ho.2 with ⟨hv, h0⟩ | ⟨g', cap, cur, hv, h1, h2, _, _, h3, h4⟩
    · cases hv
    · injection hv with h5 _ h6
      injection h5 with h5
      injection h5 with h5
      subst h5 h6
      exact ⟨cur.toList, h1, by simpa using h2, by simpa using h3, h4⟩
  have hbd := own_boundsF ho
  have hov : ∀ lb cb, (callFunc 72 #[.slice (some ⟨vb, 0, none⟩) 1 1, .slice (some ⟨g, (i + 1) * 3, none⟩) lb cb]).run Tryz.prog w = .ok (.value (.bool false)) w := fun lb cb => by
    rw [run_callFunc_extern Tryz.func72 (by kernel_rfl) (by kernel_rfl) (by kernel_rfl) (e := Extern.SlicesOverlaps.overlaps #[33, 33] #[4]) (by kernel_rfl),
      Lib.run_overlaps_apart w 33 4 85 Tryz.underlying33 3 Tryz.sizeOf85 ⟨vb, 0, none⟩ ⟨g, (i + 1) * 3, none⟩ 1 1 lb cb hvg 85 85 3 (c * 3) (by rw [World.shape?, show w.heap[vb]? = _ from hv]; rfl) (by simp [World.shape?, hcur, hcs]) (by omega) (hv.free _) (hv.free _)]
    rfl
  obtain ⟨X, hX⟩ : ∃ X, X = flat encRc (fs.take i) := ⟨_, rfl⟩
  obtain ⟨Y, hY⟩ : ∃ Y, Y = flat encRc (fs.drop i) := ⟨_, rfl⟩
  obtain ⟨F, hF⟩ : ∃ F, F = encRc f := ⟨_, rfl⟩
  have hXl : X.length = i * 3 := by rw [hX, flat_length encRc_len, List.length_take]; omega
  have hYl : Y.length = (n - i) * 3 := by rw [hY, flat_length encRc_len, List.length_drop, hl]
  have hFl : F.length = 3 := by rw [hF]; rfl
  rw [flat_takeR fs i (by omega), ← hX, ← hY] at hct
  have hY1 : ∀ v ∈ Y, v.oneCell' = true := by rw [hY]; exact flat_oneFR _
  have hF1 : ∀ v ∈ F, v.oneCell' = true := by rw [hF]; exact encRc_one f
  have HSY : Hid (∀ j v, Y[j]? = some v → w.cell? ((⟨g, i * 3, none⟩ : Addr).add j) = some v) := by
    intro j v hj
    rw [Addr.add_lit, cell_of_row w g _ cur.toArray _ (0, 0) hcur]
    have h1 : (X ++ Y)[i * 3 + j]? = some v := by rw [List.getElem?_append_right (by omega), hXl]; rw [show i * 3 + j - i * 3 = j by omega]; exact hj
    rw [← hct] at h1
    rw [List.getElem?_take] at h1
    split at h1
    · simpa using h1
    · cases h1
  have HC := Lib.hid hcur
  have HRES : Hid (∀ w', w'.heap[g]? = some (.cells (splice (splice cur ((i + 1) * 3) Y) (i * 3) F).toArray 85 (0, 0)) → RowKit.Below N w w' → (∀ k, k ≠ g → w'.heap[k]? = w.heap[k]?) → InsResR w (.slice (some ⟨g, 0, none⟩) n c) N n (fs.take i ++ f :: fs.drop i) (.returned (.slice (some ⟨g, 0, none⟩) (n + 1) c)) w') := by
    intro w' hw' hb hoth
    have hsp := splice_shift cur X Y F (n * 3) hct (by omega)
    rw [hFl, hXl, show i * 3 + 3 = (i + 1) * 3 by omega] at hsp
    refine ⟨some ⟨g, 0, none⟩, c, rfl, ⟨?_, Or.inr ⟨g, c, _, rfl, hNg, hw', hc, by unfold maxLen; omega, ?_, ?_⟩⟩, hb, fun k _ hne => hoth k (fun e => hne (by rw [e]; rfl))⟩
    · rw [flat_length encRc_len]; simp; omega
    · rw [List.size_toArray, length_splice _ _ _ (by rw [length_splice _ _ _ (by omega)]; omega), length_splice _ _ _ (by omega), hcs]
    · rw [List.toList_toArray, show (n + 1) * 3 = n * 3 + 3 by omega, hsp, flat_append, ← hX, show f :: fs.drop i = [f] ++ fs.drop i from rfl, flat_append, flat_one, ← hY, hF]
  have HV := Lib.hid hv
  have HLEN : Hid ((i + 1) * 3 + Y.length ≤ cur.length ∧ i * 3 + F.length ≤ (splice cur ((i + 1) * 3) Y).length) := ⟨by omega, by rw [length_splice _ _ _ (by omega)]; omega⟩
  have hinf : (Tryz.prog.info? 85).map (·.size) = some 3 := by kernel_rfl
  have HINF := Lib.hid hinf
  have HFc : Hid (∀ w', Over w w' g → ∀ j v, F[j]? = some v → w'.cell? ((⟨vb, 0, none⟩ : Addr).add j) = some v) := by
    intro w' hw' j v hj
    rw [Addr.add_lit, Nat.zero_add]
    have : Bl w' vb 85 (encRc f).toArray := (hw'.other vb hvg).trans hv
    rw [this.cell, ← hF]; simpa using hj
  have HNg := Lib.hid hNg
  have z1 : ¬ ((i : Int) = (n : Int)) := by omega
  have z2 : ¬ ((c : Int) < (n : Int) + 1) := by omega
  clear ho hl hv hcur hcs hct hX hY hF hinf hNg
  go_enter Tryz.func42, Tryz.ntmps42
  go_wp2_with (simp only [hov])
  have HMN : Hid (Y.length = Nat.min (n + 1 - i) (n - i) * 3) := by show _ = _; rw [hYl, show Nat.min (n + 1 - i) (n - i) = n - i from Nat.min_eq_right (by omega)]
  have HMF : Hid (F.length = Nat.min 1 (n + 1 - i) * 3) := by show _ = _; rw [hFl, show Nat.min 1 (n + 1 - i) = 1 from Nat.min_eq_left (by omega)]
  have hin : i ≤ n := by omega
  have mixed : Tryz.prog.follows Departure.mixedOrders = true := rfl
  have hw1 : IntKind.i64.wrap ((i : Int) + 1) = (i : Int) + 1 := by rw [IntKind.wrap_i64]; omega
  have htn : ((i : Int) + 1).toNat = i + 1 := by omega
  have hb2 : ¬ (c = i + 1) := by omega
  have hb3 : (i : Int) ≤ (n : Int) + 1 := by omega
  have hb4 : ¬ (c = i) := by omega
  have hb5 : (0 : Int) ≤ (i : Int) + 1 := by omega
  go_region_law_o (refine step_copyK rfl (.tmp 73) (.tmp 76) 33 33 rfl 85 3 Tryz.underlying33 HINF.out g ((i + 1) * 3) (n - i) (c - (i + 1)) ⟨g, i * 3, none⟩ (n + 1 - i) (c - i) (by simp [Act.eval, Act.put]) (by simp [Act.eval, Act.put]) cur 85 HC.out Y HMN.out HSY.out HLEN.out.1 hY1 ?_; intro w1 HC1 hO1)
  have HF2 := Lib.hid (HFc.out w1 ⟨hO1.os, hO1.tape, hO1.output, hO1.size, hO1.other⟩)
  have HB1 : Hid (RowKit.Below N w w1) := (show Over w w1 g from ⟨hO1.os, hO1.tape, hO1.output, hO1.size, hO1.other⟩).below HNg.out
  have HO1 := Lib.hid hO1.other
  clear hO1
  obtain ⟨w2, hcp, HC2, hO2⟩ : ∃ w2, (Builtin.copy_ #[33, 33] 3 #[.slice (some ⟨g, i * 3, none⟩) (n + 1 - i) (c - i), .slice (some ⟨vb, 0, none⟩) 1 1]).run Tryz.prog w1 = .ok (goInt (Nat.min 1 (n + 1 - i))) w2 ∧ Hid (w2.heap[g]? = some (.cells (splice (splice cur ((i + 1) * 3) Y) (i * 3) F).toArray 85 (0, 0))) ∧ Over w1 w2 g :=
    ⟨_, run_copy_rowK w1 _ _ _ 85 3 g (i * 3) _ _ _ _ _ _ 85 F Tryz.underlying33 HINF.out HC1.out HMF.out HF2.out HLEN.out.2 hF1, setRow_heap w1 g _ _ _ _ HC1.out, over_setRow w1 g _⟩
  go_wp2_with (simp only [hcp])
  go_ret
  exact HRES.out _ HC2.out (HB1.out.trans (hO2.below HNg.out)) (fun k hk => (hO2.other k hk).trans (HO1.out k hk))



set_option maxRecDepth 100000 in
set_option maxHeartbeats 4000000 in
theorem insert_growR (N g n c i : Nat) (fs : List Rcp) (f : Rcp) (vb : Nat) (w : World) (ho : w.ownsRow N 85 3 (.slice (some ⟨g, 0, none⟩) n c) n (flat encRc fs)) (hl : fs.length = n) (hv : Bl w vb 85 (encRc f).toArray) (hi : i < n) (hc : c < n + 1) (hn : n ≤ 1000) (hN : N ≤ w.heap.size) :
    Calls Tryz.prog 42 #[.slice (some ⟨g, 0, none⟩) n c, .int .i64 i, .slice (some ⟨vb, 0, none⟩) 1 1] w (InsResR w (.slice (some ⟨g, 0, none⟩) n c) N n (fs.take i ++ f :: fs.drop i)) := by
  have hbd := own_boundsF ho
  have hrc := Recs.of_own encRc_len ho hl
  have hcell := Recs.cells encRc_len (by omega) hrc
  have hgw : g < w.heap.size := by
    obtain ⟨b', off', e, hb, _⟩ := hrc.2 (by omega)
    injection e with e; injection e with e; subst e; exact hb
  obtain ⟨X, hX⟩ : ∃ X, X = flat encRc (fs.take i) := ⟨_, rfl⟩
  obtain ⟨Y, hY⟩ : ∃ Y, Y = flat encRc (fs.drop i) := ⟨_, rfl⟩
  obtain ⟨F, hF⟩ : ∃ F, F = encRc f := ⟨_, rfl⟩
  have hXl : X.length = i * 3 := by rw [hX, flat_length encRc_len, List.length_take]; omega
  have hYl : Y.length = (n - i) * 3 := by rw [hY, flat_length encRc_len, List.length_drop, hl]
  have hFl : F.length = 3 := by rw [hF]; rfl
  rw [flat_takeR fs i (by omega), ← hX, ← hY] at hcell
  have hY1 : ∀ v ∈ Y, v.oneCell' = true := by rw [hY]; exact flat_oneFR _
  have hF1 : ∀ v ∈ F, v.oneCell' = true := by rw [hF]; exact encRc_one f
  obtain ⟨i0, hi0, hz0, hz1, hz2⟩ := info_parts info37R
  have hold : (Builtin.firstCells i0.size i (.slice (some ⟨g, 0, none⟩) i c)).run Tryz.prog w.drew = .ok X.toArray w.drew := by
    rw [hz1]
    exact run_firstCells_some w.drew 3 i ⟨g, 0, none⟩ i c X (by omega) (fun j v hj => by
      rw [Addr.add_lit]
      have hj2 : j < X.length := by
        rcases Nat.lt_or_ge j X.length with h | h
        · exact h
        · rw [List.getElem?_eq_none h] at hj; cases hj
      exact hcell j v (by rw [List.getElem?_append_left hj2]; exact hj))
  have hkk : (n : Int) + 1 - (i : Int) = ((n + 1 - i : Nat) : Int) := by omega
  have hik : i + (n + 1 - i) = n + 1 := by omega
  obtain ⟨G, W1, R, hrz, HR, HRl, HRx, hGn, hG63, HB⟩ : ∃ (G : Nat) (W1 : World) (R : List Value), (∀ ty, (Builtin.append_ #[33, 3] ty #[.slice (some ⟨g, 0, none⟩) i c, .int .i64 ((n : Int) + 1 - (i : Int))]).run Tryz.prog w = .ok (.slice (some ⟨w.heap.size, 0, none⟩) (n + 1) G) W1) ∧
      Hid (W1.heap[w.heap.size]? = some (.cells R.toArray 85 (0, 0))) ∧ Hid (R.length = G * 3) ∧ Hid (R.take X.length = X) ∧ n + 1 ≤ G ∧ G ≤ 9223372036854775807 ∧ Hid (RowKit.Below w.heap.size w W1) := by
    have h := fun ty => Lib.run_append_grow_zeros w 33 3 ty 85 i0 _ .i64 .i64 Tryz.underlying33 Tryz.underlying3 hi0 hz0 (some ⟨g, 0, none⟩) i c X hold (n + 1 - i) (by omega) (by omega) (by omega) (by omega) (by rw [hz2]; omega) (by rw [hz2, hik]; exact growslice_fits hc (by omega))
    rw [hik] at h
    have hG := grownCap_le_maxLen w (n + 1) c 85 (by unfold maxLen; omega)
    unfold maxLen at hG
    refine ⟨grownCap w (n + 1) c 85, _, X ++ ((Builtin.zeroCells (Value.agg #[.int .i64 0, .int .i64 0, .int .i64 0]).cells (n + 1 - i)).toList ++ (Builtin.zeroCells (Value.agg #[.int .i64 0, .int .i64 0, .int .i64 0]).cells (grownCap w (n + 1) c 85 - (n + 1))).toList), fun ty => by rw [hkk]; exact h ty, ?_, ?_, List.take_left' rfl, grownCap_ge w _ _ _, by omega, ?_⟩
    · show _ = _
      refine (heap_alloc_new w.drew _).trans ?_
      simp
    · have := grownCap_ge w (n + 1) c 85
      show _ = _
      simp [Builtin.zeroCells, Value.cells, hXl]
      omega
    · exact (Below.refl _ _).drew.alloc (Nat.le_refl _) _
  have hinf : (Tryz.prog.info? 85).map (·.size) = some 3 := by rw [hi0]; simp [hz1]
  have hvw := hv.lt
  have hv1 : Bl W1 vb 85 (encRc f).toArray := hv.keep HB.out
  have HMF : Hid (F.length = Nat.min 1 (n + 1 - i) * 3) := by show _ = _; rw [hFl, show Nat.min 1 (n + 1 - i) = 1 from Nat.min_eq_left (by omega)]
  have HMN : Hid (Y.length = Nat.min (n - i) (n - i) * 3) := by show _ = _; rw [hYl, show Nat.min (n - i) (n - i) = n - i from Nat.min_self _]
  have hRl := HRl.out
  obtain ⟨w2, hcp, HC2, hO2⟩ : ∃ w2, (Builtin.copy_ #[33, 33] 3 #[.slice (some ⟨w.heap.size, i * 3, none⟩) (n + 1 - i) (G - i), .slice (some ⟨vb, 0, none⟩) 1 1]).run Tryz.prog W1 = .ok (goInt (Nat.min 1 (n + 1 - i))) w2 ∧ Hid (w2.heap[w.heap.size]? = some (.cells (splice R (i * 3) F).toArray 85 (0, 0))) ∧ Over W1 w2 w.heap.size :=
    ⟨_, run_copy_rowK W1 _ _ _ 85 3 w.heap.size (i * 3) _ _ _ _ _ _ 85 F Tryz.underlying33 hinf HR.out HMF.out (fun j v hj => by rw [Addr.add_lit, Nat.zero_add, hv1.cell, ← hF]; simpa using hj) (by omega) hF1, setRow_heap W1 w.heap.size _ _ _ _ HR.out, over_setRow W1 w.heap.size _⟩
  have HB2 : Hid (RowKit.Below w.heap.size w w2) := HB.out.trans (hO2.below (Nat.le_refl _))
  have HSY : Hid (∀ j v, Y[j]? = some v → w2.cell? ((⟨g, i * 3, none⟩ : Addr).add j) = some v) := by
    intro j v hj
    rw [Addr.add_lit, HB2.out.cell (p := ⟨g, i * 3 + j, none⟩) hgw]
    have := hcell (i * 3 + j) v (by rw [List.getElem?_append_right (by omega), hXl, show i * 3 + j - i * 3 = j by omega]; exact hj)
    rwa [Nat.zero_add] at this
  have HLEN : Hid ((i + 1) * 3 + Y.length ≤ (splice R (i * 3) F).length) := by show _ ≤ _; rw [length_splice _ _ _ (by omega)]; omega
  have HRES : Hid (∀ w', w'.heap[w.heap.size]? = some (.cells (splice (splice R (i * 3) F) ((i + 1) * 3) Y).toArray 85 (0, 0)) → RowKit.Below w.heap.size w w' → InsResR w (.slice (some ⟨g, 0, none⟩) n c) N n (fs.take i ++ f :: fs.drop i) (.returned (.slice (some ⟨w.heap.size, 0, none⟩) (n + 1) G)) w') := by
    intro w' hw' hb
    have hsp := splice_grow R X Y F HRx.out (by omega)
    rw [hFl, hXl, show i * 3 + 3 = (i + 1) * 3 by omega, show (i + 1) * 3 + Y.length = (n + 1) * 3 by omega] at hsp
    refine ⟨some ⟨w.heap.size, 0, none⟩, G, rfl, ⟨?_, Or.inr ⟨w.heap.size, G, _, rfl, hN, hw', hGn, by unfold maxLen; omega, ?_, ?_⟩⟩, hb.mono hN, fun k hk _ => hb.block k hk⟩
    · rw [flat_length encRc_len]; simp; omega
    · rw [List.size_toArray, length_splice _ _ _ HLEN.out, length_splice _ _ _ (by omega), hRl]
    · rw [List.toList_toArray, hsp, flat_append, ← hX, show f :: fs.drop i = [f] ++ fs.drop i from rfl, flat_append, flat_one, ← hY, hF]
  have HINF := Lib.hid hinf
  have z1 : ¬ ((i : Int) = (n : Int)) := by omega
  have z2 : (c : Int) < (n : Int) + 1 := by omega
  have hin : i ≤ n := by omega
  have mixed : Tryz.prog.follows Departure.mixedOrders = true := rfl
  have hw1 : IntKind.i64.wrap ((i : Int) + 1) = (i : Int) + 1 := by rw [IntKind.wrap_i64]; omega
  have htn : ((i : Int) + 1).toNat = i + 1 := by omega
  have hb2 : ¬ (G = i + 1) := by omega
  have hb3 : (i : Int) ≤ (n : Int) := by omega
  have hb4 : ¬ (c = i) := by omega
  have hb5 : (0 : Int) ≤ (i : Int) + 1 := by omega
  have hb6 : ¬ (G = i) := by omega
  clear ho hl hv hX hY hF hinf hrc hcell hold hkk hik hRl hv1 hi0 hz0 hz1 hz2 HR HRl HRx
  go_enter Tryz.func42, Tryz.ntmps42
  go_wp2_with (first | (at_builtin; refine Lib.wpList_append_run _ rfl _ _ _ _ rfl _ _ rfl rfl _ _ (hrz _) ?_) | simp only [hcp])
  go_region_law_o (refine step_copyK rfl (.tmp 50) (.tmp 53) 33 33 rfl 85 3 Tryz.underlying33 HINF.out w.heap.size ((i + 1) * 3) (n - i) (G - (i + 1)) ⟨g, i * 3, none⟩ (n - i) (c - i) (by simp [Act.eval, Act.put]) (by simp [Act.eval, Act.put]) (splice R (i * 3) F) 85 HC2.out Y HMN.out HSY.out HLEN.out hY1 ?_; intro w3 HC3 hO3)
  have HB3 : Hid (RowKit.Below w.heap.size w w3) := HB2.out.trans ((show Over w2 w3 w.heap.size from ⟨hO3.os, hO3.tape, hO3.output, hO3.size, hO3.other⟩).below (Nat.le_refl _))
  go_wp2
  go_ret
  exact HRES.out _ HC3.out HB3.out
/-- slices.Insert of one fact: every road. -/
theorem insert_anyR (N : Nat) (B : Option Addr) (n c i : Nat) (fs : List Rcp) (f : Rcp) (vb : Nat) (w : World) (ho : w.ownsRow N 85 3 (.slice B n c) n (flat encRc fs)) (hl : fs.length = n) (hv : Bl w vb 85 (encRc f).toArray) (hvg : ∀ a, B = some a → vb ≠ a.block) (hi : i ≤ n) (hn : n ≤ 1000) (hN : N ≤ w.heap.size) :
    Calls Tryz.prog 42 #[.slice B n c, .int .i64 i, .slice (some ⟨vb, 0, none⟩) 1 1] w (InsResR w (.slice B n c) N n (fs.take i ++ f :: fs.drop i)) := by
  rcases Nat.lt_or_ge i n with h | h
  · obtain ⟨g, rfl⟩ : ∃ g, B = some ⟨g, 0, none⟩ := by
      rcases ho.2 with ⟨hv, h0⟩ | ⟨g', cap, cur, hv, _⟩
      · omega
      · injection hv with h5; exact ⟨g', h5⟩
    rcases Nat.lt_or_ge c (n + 1) with h2 | h2
    · exact insert_growR N g n c i fs f vb w ho hl hv h h2 hn hN
    · exact insert_shiftR N g n c i fs f vb w ho hl hv (hvg _ rfl) h h2 hn hN
  · obtain rfl : i = n := by omega
    have := insert_endR N B i c fs f vb w ho hv hn hN
    rwa [List.take_of_length_le (by omega), List.drop_eq_nil_of_le (by omega)]
end Go.Proofs.YtdbcbbiplkikcaaGreat

namespace Go.Proofs.YtdbcbbiplkikcaaGreat
open Go.RowKit
set_option linter.unusedVariables false

/-- Some integer, the world as it was. -/
def SomeInt (w : World) (e : Ending) (w' : World) : Prop := (∃ r : Int, e = .returned (.int .i64 r)) ∧ w' = w
set_option maxHeartbeats 1000000 in
theorem orInt_any (A : Option Addr) (n c : Nat) (xs : List Int) (w : World) (h : Ints w A n xs) (hn : n ≤ 9223372036854775807) : Calls Tryz.prog 70 #[.slice A n c] w (SomeInt w) := by
  go_enter Tryz.func70, Tryz.ntmps70
  go_wp2
  go_loop [8] (fun i => ∃ k : Nat, k ≤ n ∧ i = .int .i64 k) (fun i => n - (intOf i).toNat)
  case atStart => exact ⟨0, Nat.zero_le _, rfl⟩
  case round =>
    obtain ⟨k, hk, rfl⟩ := hrel
    by_cases hlt : k < n
    · obtain ⟨b, off, z, hA, hbl, hz, _⟩ := h.get hlt
      subst hA
      have hki : (k : Int) < n := by omega
      by_cases g : z = 0
      · subst g
        go_wp2
        go_round
        case rel => exact ⟨k + 1, by omega, by go_num⟩
        case measure => simp [intOf]; omega
      · have b1 : (z != 0) = true := by simpa using g
        clear g
        go_wp2
        go_ret
        exact ⟨⟨_, rfl⟩, rfl⟩
    · obtain rfl : n = k := by omega
      go_wp2
      go_ret
      exact ⟨⟨_, rfl⟩, rfl⟩
end Go.Proofs.YtdbcbbiplkikcaaGreat

namespace Go.Proofs.YtdbcbbiplkikcaaGreat
open Go.RowKit
set_option linter.unusedVariables false

/-- Some integer, old memory as it was. -/
def AnyInt (w : World) (e : Ending) (w' : World) : Prop := (∃ r : Int, e = .returned (.int .i64 r)) ∧ RowKit.Below w.heap.size w w'
set_option maxRecDepth 100000 in
set_option maxHeartbeats 4000000 in
theorem byNumber_any (a b : Rcp) (w : World) : Calls Tryz.prog 40 #[.agg #[.int .i64 a.frm, .int .i64 a.num, .int .i64 a.err], .agg #[.int .i64 b.frm, .int .i64 b.num, .int .i64 b.err]] w (AnyInt w) := by
  obtain ⟨W0, hW0⟩ : ∃ W, W = (w.alloc (.cells #[.int .i64 a.frm, .int .i64 a.num, .int .i64 a.err] 85)).alloc (.cells #[.int .i64 b.frm, .int .i64 b.num, .int .i64 b.err] 85) := ⟨_, rfl⟩
  have ha : Bl W0 w.heap.size 85 #[.int .i64 a.frm, .int .i64 a.num, .int .i64 a.err] := by rw [hW0]; exact (Bl.new w _ _).alloc _
  have hb : Bl W0 (w.heap.size + 1) 85 #[.int .i64 b.frm, .int .i64 b.num, .int .i64 b.err] := by rw [hW0]; have := Bl.new (w.alloc (.cells #[.int .i64 a.frm, .int .i64 a.num, .int .i64 a.err] 85)) 85 #[.int .i64 b.frm, .int .i64 b.num, .int .i64 b.err]; simpa using this
  have hB : RowKit.Below w.heap.size w W0 := by rw [hW0]; exact ((Below.refl _ _).alloc (Nat.le_refl _) _).alloc (by simp) _
  obtain ⟨r1, hr1⟩ : ∃ r, Lib.compareInt a.frm b.frm = r := ⟨_, rfl⟩
  obtain ⟨r2, hr2⟩ : ∃ r, Lib.compareInt a.num b.num = r := ⟨_, rfl⟩
  have HC1 : Hid (∀ w, Calls Tryz.prog 71 #[.int .i64 a.frm, .int .i64 b.frm] w fun e w' => e = .returned (.int .i64 r1) ∧ w' = w) := fun w => by rw [← hr1]; exact Tryz.cmp_Compare_int _ _ w
  have HC2 : Hid (∀ w, Calls Tryz.prog 71 #[.int .i64 a.num, .int .i64 b.num] w fun e w' => e = .returned (.int .i64 r2) ∧ w' = w) := fun w => by rw [← hr2]; exact Tryz.cmp_Compare_int _ _ w
  clear hr1 hr2
  go_enter Tryz.func40, Tryz.ntmps40
  go_upto_region 1 with (fail)
  rw [← hW0]
  clear hW0
  have a0 : W0.cell? ⟨w.heap.size, 0, none⟩ = some (.int .i64 a.frm) := ha.cell 0
  have a1 : W0.cell? ⟨w.heap.size, 1, none⟩ = some (.int .i64 a.num) := ha.cell 1
  have b0 : W0.cell? ⟨w.heap.size + 1, 0, none⟩ = some (.int .i64 b.frm) := hb.cell 0
  have b1 : W0.cell? ⟨w.heap.size + 1, 1, none⟩ = some (.int .i64 b.num) := hb.cell 1
  have HBL := Lib.hid (Bl.new W0.drew 3 #[.int .i64 r1, .int .i64 r2])
  have HIN : Hid (Ints (W0.drew.alloc (.cells #[.int .i64 r1, .int .i64 r2] 3)) (some ⟨W0.heap.size, 0, none⟩) 2 [r1, r2]) := HBL.out.ints (xs := [r1, r2]) (fun i hi => by
    match i, hi with
    | 0, _ => rfl
    | 1, _ => rfl)
  have HOR := Lib.hid (orInt_any _ _ 2 _ _ HIN.out (by omega))
  have HBA : Hid (RowKit.Below w.heap.size w (W0.drew.alloc (.cells #[.int .i64 r1, .int .i64 r2] 3))) := hB.drew.alloc hB.size _
  go_region_held3 (fun w' => w'.cell? ⟨w.heap.size, 0, none⟩ = some (.int .i64 a.frm) ∧ w'.cell? ⟨w.heap.size, 1, none⟩ = some (.int .i64 a.num) ∧ w'.cell? ⟨w.heap.size + 1, 0, none⟩ = some (.int .i64 b.frm) ∧ w'.cell? ⟨w.heap.size + 1, 1, none⟩ = some (.int .i64 b.num))
    (first
      | go_keep
      | exact ⟨a0, a1, b0, b1⟩
      | exact ⟨((ha.drewN 1).alloc _).cell 0, ((ha.drewN 1).alloc _).cell 1, ((hb.drewN 1).alloc _).cell 0, ((hb.drewN 1).alloc _).cell 1⟩)
    (first
      | (go_at_call 71; with_reducible (refine (HC1.out _).mono ?_); rintro e w1 ⟨rfl, rfl⟩)
      | (go_at_call 71; with_reducible (refine (HC2.out _).mono ?_); rintro e w1 ⟨rfl, rfl⟩)
      | (go_at_call 70; refine HOR.out.mono ?_; rintro e w1 ⟨⟨r, rfl⟩, rfl⟩))
  all_goals (go_wp2; go_ret)
  all_goals exact ⟨⟨r, rfl⟩, HBA.out⟩
end Go.Proofs.YtdbcbbiplkikcaaGreat

namespace Go.Proofs.YtdbcbbiplkikcaaGreat
open Go.RowKit
set_option linter.unusedVariables false

theorem Recs.getRc {w : World} {A : Option Addr} {n : Nat} {xs : List Rcp} (h : Recs encRc 3 w A n xs) {i : Nat} (hi : i < n) :
    ∃ b off r, A = some ⟨b, off, none⟩ ∧ b < w.heap.size ∧ w.cell? ⟨b, off + i * 3, none⟩ = some (.int .i64 r.frm) ∧ w.cell? ⟨b, off + i * 3 + 1, none⟩ = some (.int .i64 r.num) ∧ w.cell? ⟨b, off + i * 3 + 2, none⟩ = some (.int .i64 r.err) ∧ Hid (xs[i]! = r) := by
  obtain ⟨b, off, e, hlt, hc⟩ := h.at_ hi
  exact ⟨b, off, xs[i]!, e, hlt, hc 0 (by omega), hc 1 (by omega), hc 2 (by omega), rfl⟩
/-- A place in a list of n, and whether something is there. -/
def BsR (w : World) (n : Nat) (e : Ending) (w' : World) : Prop := ∃ (I : Nat) (b : Bool), e = .returned (.tuple #[.int .i64 I, .bool b]) ∧ I ≤ n ∧ (b = true → I < n) ∧ RowKit.Below w.heap.size w w'

set_option maxRecDepth 100000 in
set_option maxHeartbeats 4000000 in
theorem bsearchR_any (A : Option Addr) (n c : Nat) (rs : List Rcp) (t : Rcp) (w : World) (h : Recs encRc 3 w A n rs) (hn : n ≤ 1000000) :
    Calls Tryz.prog 39 #[.slice A n c, .agg #[.int .i64 t.frm, .int .i64 t.num, .int .i64 t.err], .func (.func 40) #[] #[]] w (BsR w n) := by
  have HS := Lib.hid h
  have HCM := Lib.hid (fun a b w => byNumber_any a b w)
  have hx := Bl.new w 85 #[.int .i64 t.frm, .int .i64 t.num, .int .i64 t.err]
  have hb0 : RowKit.Below w.heap.size w (w.alloc (.cells #[.int .i64 t.frm, .int .i64 t.num, .int .i64 t.err] 85)) := (Below.refl _ _).alloc (Nat.le_refl _) _
  clear h
  go_enter Tryz.func39, Tryz.ntmps39
  go_upto_region 1 with (fail)
  generalize w.alloc (.cells #[.int .i64 t.frm, .int .i64 t.num, .int .i64 t.err] 85) = W0 at *
  go_wp2_with fail
  go_loopw [9, 10] (fun i j wx => ∃ I J : Nat, i = .int .i64 I ∧ j = .int .i64 J ∧ I ≤ J ∧ J ≤ n ∧ Hid (Bl wx w.heap.size 85 #[.int .i64 t.frm, .int .i64 t.num, .int .i64 t.err]) ∧ Hid (RowKit.Below w.heap.size w wx)) (fun i j _ => (intOf j).toNat - (intOf i).toNat)
  case atStart => exact ⟨0, n, rfl, rfl, Nat.zero_le _, Nat.le_refl _, hx, hb0⟩
  case round =>
    clear hx hb0
    obtain ⟨I, J, rfl, rfl, hIJ, hJ, HX, HB⟩ := hrel
    have x0 : wr.cell? ⟨w.heap.size, 0, none⟩ = some (.int .i64 t.frm) := HX.out.cell 0
    have x1 : wr.cell? ⟨w.heap.size, 1, none⟩ = some (.int .i64 t.num) := HX.out.cell 1
    have x2 : wr.cell? ⟨w.heap.size, 2, none⟩ = some (.int .i64 t.err) := HX.out.cell 2
    have hXd : Bl wr.drew w.heap.size 85 #[.int .i64 t.frm, .int .i64 t.num, .int .i64 t.err] := HX.out.drewN 1
    have HBd := Lib.hid HB.out.drew
    by_cases hlt : I < J
    · go_upto_region 5 with (fail)
      obtain ⟨H, hH⟩ : ∃ q : Nat, ((I : Int) + (J : Int)) / 2 = (q : Int) := ⟨(I + J) / 2, by omega⟩
      have hH1 : I ≤ H := by omega
      have hH2 : H < J := by omega
      rw [hH]
      clear hH
      obtain ⟨b, off, x, hA, hbl, c0, c1, c2, _⟩ := (HS.out.below HB.out).getRc (i := H) (by omega)
      subst hA
      have hHi : (H : Int) < n := by omega
      go_still_tail 6, (by kernel_rfl)
      change wpList _ _ _ _ _ wr.drew
      clear c0 c1 c2 x0 x1 x2 HX HB
      generalize wr.drew = wd at *
      go_wp2_with fail
      refine (HCM.out x t _).mono ?_
      rintro e w1 ⟨⟨r, rfl⟩, hb1⟩
      have HX1 := Lib.hid (hXd.keep hb1)
      have HB1 := Lib.hid (HBd.out.trans (hb1.mono HBd.out.size))
      clear hXd hb1 HBd
      by_cases g : r < 0
      · have d1 : decide (r < 0) = true := by simpa using g
        clear g
        go_wp2_with fail
        go_roundw
        case rel => exact ⟨H + 1, J, by go_num, rfl, by omega, hJ, HX1, HB1⟩
        case measure => simp [intOf]; omega
      · have d1 : decide (r < 0) = false := by simpa using g
        clear g
        go_wp2_with fail
        go_roundw
        case rel => exact ⟨I, H, rfl, rfl, by omega, by omega, HX1, HB1⟩
        case measure => simp [intOf]; omega
    · obtain rfl : I = J := by omega
      by_cases hIn : I < n
      · obtain ⟨b, off, x, hA, hbl, c0, c1, c2, _⟩ := (HS.out.below HB.out).getRc hIn
        subst hA
        have hIi : (I : Int) < n := by omega
        have dI : decide (I < n) = true := by simpa using hIn
        have HCW : Hid (Calls Tryz.prog 40 #[.agg #[.int .i64 x.frm, .int .i64 x.num, .int .i64 x.err], .agg #[.int .i64 t.frm, .int .i64 t.num, .int .i64 t.err]] wr.drew (AnyInt wr.drew)) := HCM.out x t wr.drew
        go_upto_region 8 with (fail)
        go_region_held3 (fun w' => w'.cell? ⟨b, off + I * 3, none⟩ = some (.int .i64 x.frm) ∧ w'.cell? ⟨b, off + I * 3 + 1, none⟩ = some (.int .i64 x.num) ∧ w'.cell? ⟨b, off + I * 3 + 2, none⟩ = some (.int .i64 x.err) ∧ w'.cell? ⟨w.heap.size, 0, none⟩ = some (.int .i64 t.frm) ∧ w'.cell? ⟨w.heap.size, 1, none⟩ = some (.int .i64 t.num) ∧ w'.cell? ⟨w.heap.size, 2, none⟩ = some (.int .i64 t.err))
          (first
            | go_keep
            | exact ⟨c0, c1, c2, x0, x1, x2⟩
            | exact hk1.out)
          (first
            | (go_at_call 40; refine HCW.out.mono ?_; rintro e w1 ⟨⟨r, rfl⟩, hb1⟩; have hk1 : Hid (w1.cell? ⟨b, off + I * 3, none⟩ = some (.int .i64 x.frm) ∧ w1.cell? ⟨b, off + I * 3 + 1, none⟩ = some (.int .i64 x.num) ∧ w1.cell? ⟨b, off + I * 3 + 2, none⟩ = some (.int .i64 x.err) ∧ w1.cell? ⟨w.heap.size, 0, none⟩ = some (.int .i64 t.frm) ∧ w1.cell? ⟨w.heap.size, 1, none⟩ = some (.int .i64 t.num) ∧ w1.cell? ⟨w.heap.size, 2, none⟩ = some (.int .i64 t.err)) := ⟨(hb1.cell (p := ⟨b, off + I * 3, none⟩) hbl).trans c0, (hb1.cell (p := ⟨b, off + I * 3 + 1, none⟩) hbl).trans c1, (hb1.cell (p := ⟨b, off + I * 3 + 2, none⟩) hbl).trans c2, (hXd.keep hb1).cell 0, (hXd.keep hb1).cell 1, (hXd.keep hb1).cell 2⟩))
        all_goals (go_wp2; go_ret2)
        all_goals exact ⟨I, _, rfl, by omega, fun _ => hIn, HBd.out.trans (hb1.mono HBd.out.size)⟩
      · obtain rfl : n = I := by omega
        have hd : decide (n < n) = false := by simp
        go_upto_region 8 with (fail)
        go_quiet (fail)
        go_wp2
        go_ret2
        exact ⟨n, false, rfl, Nat.le_refl _, fun h => (by cases h), below_drewN HB.out nq⟩
end Go.Proofs.YtdbcbbiplkikcaaGreat

namespace Go.Proofs.YtdbcbbiplkikcaaGreat
open Go.RowKit
set_option linter.unusedVariables false

/-- Behind the deferred closure. -/
def DefRes (N : Nat) (w : World) (H : Hds) (C : Cen) (ge gn : Nat) (er frm num : Int) (at_ : Nat) (w' : World) : Prop :=
  ∃ (B : Option Addr) (d : Nat), Bl w' gn 37 #[.slice B (H.s.n + 1) d, .slice H.q.A H.q.n H.q.c, .slice H.g.A H.g.n H.g.c, .slice H.k.A H.k.n H.k.c, .slice H.m.A H.m.n H.m.c] ∧ Bl w' ge 38 #[.int .i64 er] ∧ CenO N w' { H with s := ⟨B, H.s.n + 1, d⟩ } { C with seen := C.seen.take at_ ++ ⟨frm, num, er⟩ :: C.seen.drop at_ } ∧ RowKit.Below N w w'
set_option maxRecDepth 100000 in
set_option maxHeartbeats 8000000 in
theorem defer37_any (N : Nat) (H : Hds) (C : Cen) (ge gr gn ga : Nat) (er frm num e0 : Int) (at_ : Nat) (u : FrameMode) (w : World) (hO : CenO N w H C) (hN : N ≤ w.heap.size) (he : Bl w ge 38 #[.int .i64 er]) (hr : Bl w gr 85 #[.int .i64 frm, .int .i64 num, .int .i64 e0]) (hn : Bl w gn 37 #[.slice H.s.A H.s.n H.s.c, .slice H.q.A H.q.n H.q.c, .slice H.g.A H.g.n H.g.c, .slice H.k.A H.k.n H.k.c, .slice H.m.A H.m.n H.m.c]) (ha : Bl w ga 3 #[.int .i64 (at_ : Int)]) (hat : at_ ≤ H.s.n) (hsn : H.s.n ≤ 1000) (hgr : ∀ b, (Value.slice H.s.A H.s.n H.s.c).ownBlock = some b → b ≠ gr) (hNe : N ≤ ge) (hNr : N ≤ gr) (hNn : N ≤ gn) :
    CallsD Tryz.prog 41 #[.pointer (some ⟨ge, 0, none⟩), .pointer (some ⟨gr, 0, none⟩), .pointer (some ⟨gn, 0, none⟩), .pointer (some ⟨ga, 0, none⟩)] u w fun e u' w' => u' = u ∧ (e = .returned (.tuple #[]) ∧ DefRes N w H C ge gn er frm num at_ w') := by
  obtain ⟨⟨sA, sn, sc⟩, Hq, Hg, Hk, Hm⟩ := H
  simp only at hat hsn hgr
  have HL : Hid (C.seen.length = sn) := own_lenK encRc_len (by omega) hO.seen
  have hne1 : gr ≠ ge := fun e => by subst e; have h1 := hr.symm.trans he; injection h1 with h1; injection h1 with _ h2; exact absurd h2 (by decide)
  have hne2 : gr ≠ gn := fun e => by subst e; have h1 := hr.symm.trans hn; injection h1 with h1; injection h1 with _ h2; exact absurd h2 (by decide)
  have hne3 : gr ≠ ga := fun e => by subst e; have h1 := hr.symm.trans ha; injection h1 with h1; injection h1 with _ h2; exact absurd h2 (by decide)
  have hne4 : gn ≠ ge := fun e => by subst e; have h1 := hn.symm.trans he; injection h1 with h1; injection h1 with _ h2; exact absurd h2 (by decide)
  have c0 : w.cell? ⟨ge, 0, none⟩ = some (.int .i64 er) := he.cell 0
  have r2 : w.cell? ⟨gr, 2, none⟩ = some (.int .i64 e0) := hr.cell 2
  have rf : w.frozen? ⟨gr, 2, none⟩ = false := hr.free 2
  have HE : Hid (Bl (w.setCell ⟨gr, 2, none⟩ (.int .i64 er)) ge 38 #[.int .i64 er]) := he.far (p := ⟨gr, 2, none⟩) (fun e => hne1 e.symm) _
  have HR : Hid (Bl (w.setCell ⟨gr, 2, none⟩ (.int .i64 er)) gr 85 #[.int .i64 frm, .int .i64 num, .int .i64 er]) := by show Bl _ _ _ _; have := hr.put 2 (.int .i64 er); simpa using this
  have HN : Hid (Bl (w.setCell ⟨gr, 2, none⟩ (.int .i64 er)) gn 37 #[.slice sA sn sc, .slice Hq.A Hq.n Hq.c, .slice Hg.A Hg.n Hg.c, .slice Hk.A Hk.n Hk.c, .slice Hm.A Hm.n Hm.c]) := hn.far (p := ⟨gr, 2, none⟩) (fun e => hne2 e.symm) _
  have HA : Hid (Bl (w.setCell ⟨gr, 2, none⟩ (.int .i64 er)) ga 3 #[.int .i64 (at_ : Int)]) := ha.far (p := ⟨gr, 2, none⟩) (fun e => hne3 e.symm) _
  have HO : Hid (CenO N (w.setCell ⟨gr, 2, none⟩ (.int .i64 er)) ⟨⟨sA, sn, sc⟩, Hq, Hg, Hk, Hm⟩ C) := by
    refine ⟨own_of_block hO.seen fun b e => Below.heap_setCell _ _ _ b (hgr b e), own_of_block hO.qs fun b e => Below.heap_setCell _ _ _ b (fun e2 => own_apart hO.qs hr (by decide) (by rw [e, e2])), own_of_block hO.gs fun b e => Below.heap_setCell _ _ _ b (fun e2 => own_apart hO.gs hr (by decide) (by rw [e, e2])), own_of_block hO.cov fun b e => Below.heap_setCell _ _ _ b (fun e2 => own_apart hO.cov hr (by decide) (by rw [e, e2])), own_of_block hO.sent fun b e => Below.heap_setCell _ _ _ b (fun e2 => own_apart hO.sent hr (by decide) (by rw [e, e2])), fun x hx => own_of_block (hO.facts x hx) fun b e => Below.heap_setCell _ _ _ b (fun e2 => own_apart (hO.facts x hx) hr (by decide) (by rw [e, e2])), fun x hx => own_of_block (hO.uses x hx) fun b e => Below.heap_setCell _ _ _ b (fun e2 => own_apart (hO.uses x hx) hr (by decide) (by rw [e, e2]))⟩
  have HB : Hid (RowKit.Below N w (w.setCell ⟨gr, 2, none⟩ (.int .i64 er))) := (Below.refl _ _).setCell (p := ⟨gr, 2, none⟩) hNr _
  have HNS : Hid (N ≤ w.heap.size) := hN
  have HLT : Hid (∀ b, (Value.slice sA sn sc).ownBlock = some b → b < w.heap.size) := fun b e => own_lt hO.seen b e
  clear hO he hr hn ha hgr hN
  go_enter_d Tryz.func41, Tryz.ntmps41
  go_upto_region 1 with (fail)
  clear c0 r2 rf
  generalize hW1 : w.setCell ⟨gr, 2, none⟩ (.int .i64 er) = W1 at *
  have n0 : W1.cell? ⟨gn, 0, none⟩ = some (.slice sA sn sc) := HN.out.c0
  have i0 : W1.cell? ⟨ga, 0, none⟩ = some (.int .i64 (at_ : Int)) := HA.out.cell 0
  have q0 : W1.cell? ⟨gr, 0, none⟩ = some (.int .i64 frm) := HR.out.cell 0
  have q1 : W1.cell? ⟨gr, 1, none⟩ = some (.int .i64 num) := HR.out.cell 1
  have q2 : W1.cell? ⟨gr, 2, none⟩ = some (.int .i64 er) := HR.out.cell 2
  have HNS1 : Hid (N ≤ W1.heap.size) := Nat.le_trans HNS.out HB.out.size
  have HO1 := Lib.hid (HO.out.below ((Below.refl _ _).alloc (Nat.le_refl _) (.cells #[.int .i64 frm, .int .i64 num, .int .i64 er] 85)))
  have HIC := Lib.hid (insert_anyR N sA sn sc at_ C.seen ⟨frm, num, er⟩ W1.heap.size (W1.alloc (.cells #[.int .i64 frm, .int .i64 num, .int .i64 er] 85)) HO1.out.seen HL.out (Bl.new W1 85 (encRc ⟨frm, num, er⟩).toArray) (fun a e => by have h1 := own_lt HO.out.seen a.block (by rw [e]; rfl); omega) hat hsn (by have := HNS1.out; simp; omega))
  have HE1 := Lib.hid (HE.out.alloc (.cells #[.int .i64 frm, .int .i64 num, .int .i64 er] 85))
  have HN1 := Lib.hid (HN.out.alloc (.cells #[.int .i64 frm, .int .i64 num, .int .i64 er] 85))
  have HB1 : Hid (RowKit.Below N w (W1.alloc (.cells #[.int .i64 frm, .int .i64 num, .int .i64 er] 85))) := HB.out.alloc HNS1.out _
  clear hW1
  go_wp2_with fail
  refine HIC.out.mono ?_
  rintro e w2 ⟨B, d, rfl, ho2, hb2, hk2⟩
  have HO2 := Lib.hid (HO1.out.seen' (fun b hlt hne => hk2 b hlt hne) (B := B) (n := sn + 1) (d := d) (xs := C.seen.take at_ ++ ⟨frm, num, er⟩ :: C.seen.drop at_) ho2)
  have HN2 : Hid (Bl w2 gn 37 #[.slice sA sn sc, .slice Hq.A Hq.n Hq.c, .slice Hg.A Hg.n Hg.c, .slice Hk.A Hk.n Hk.c, .slice Hm.A Hm.n Hm.c]) := (hk2 gn HN1.out.lt (fun e => own_apart HO1.out.seen HN1.out (by decide) e)).trans HN1.out
  have HE2 : Hid (Bl w2 ge 38 #[.int .i64 er]) := (hk2 ge HE1.out.lt (fun e => own_apart HO1.out.seen HE1.out (by decide) e)).trans HE1.out
  have HB2 : Hid (RowKit.Below N w w2) := HB1.out.trans hb2
  have n0 : w2.cell? ⟨gn, 0, none⟩ = some (.slice sA sn sc) := HN2.out.c0
  have nf : w2.frozen? ⟨gn, 0, none⟩ = false := HN2.out.free 0
  clear ho2 hb2 hk2 HIC HO1 HN1 HE1 HB1 i0 q0 q1 q2 HE HR HN HA HO HB
  go_wp2
  go_end0
  refine ⟨rfl, B, d, ?_, HE2.out.far (p := ⟨gn, 0, none⟩) (fun e => hne4 e.symm) _, HO2.out.setC HN2.out 0 _, HB2.out.setCell (p := ⟨gn, 0, none⟩) hNn _⟩
  have := HN2.out.put 0 (.slice B (sn + 1) d)
  simpa using this
end Go.Proofs.YtdbcbbiplkikcaaGreat

namespace Go.Proofs.YtdbcbbiplkikcaaGreat
open Go.RowKit
set_option linter.unusedVariables false

set_option maxRecDepth 100000 in
set_option maxHeartbeats 2000000 in
theorem fact1_any (b : Qb) (g : Nat) (oth : Int) (w : World) (hg : g < w.heap.size) (h : w.cell? ⟨g, 6, none⟩ = some (.int .i64 oth)) :
    Calls Tryz.prog 75 #[.agg #[.int .i64 b.q.id, .int .i64 b.q.vol, .int .i64 b.q.fr, .int .i64 b.q.tod, .slice b.A b.n b.c], .pointer (some ⟨g, 0, none⟩)] w (BRes w (b.q.id == oth)) := by
  have hx := Bl.new w 54 #[.int .i64 b.q.id, .int .i64 b.q.vol, .int .i64 b.q.fr, .int .i64 b.q.tod, .slice b.A b.n b.c]
  have hb0 : RowKit.Below w.heap.size w (w.alloc (.cells #[.int .i64 b.q.id, .int .i64 b.q.vol, .int .i64 b.q.fr, .int .i64 b.q.tod, .slice b.A b.n b.c] 54)) := (Below.refl _ _).alloc (Nat.le_refl _) _
  have h1 := (hb0.cell (p := ⟨g, 6, none⟩) hg).trans h
  clear h
  go_enter Tryz.func75, Tryz.ntmps75
  go_upto_region 1 with (fail)
  generalize w.alloc (.cells #[.int .i64 b.q.id, .int .i64 b.q.vol, .int .i64 b.q.fr, .int .i64 b.q.tod, .slice b.A b.n b.c] 54) = W0 at *
  have c0 : W0.cell? ⟨w.heap.size, 0, none⟩ = some (.int .i64 b.q.id) := hx.cell 0
  go_wp2
  go_ret
  exact ⟨rfl, hb0⟩
/-- Where the book with a number stands. -/
def IdxRes (w : World) (n : Nat) (ids : Nat → Int) (oth : Int) (e : Ending) (w' : World) : Prop := ((∃ I : Nat, e = .returned (.int .i64 I) ∧ I < n ∧ ids I = oth) ∨ (e = .returned (.int .i64 (-1)) ∧ ∀ j, j < n → ids j ≠ oth)) ∧ RowKit.Below w.heap.size w w'
set_option maxRecDepth 100000 in
set_option maxHeartbeats 4000000 in
theorem idxB_any (A : Option Addr) (n c : Nat) (bs : List Qb) (g : Nat) (oth : Int) (w : World) (h : Recs encB 5 w A n bs) (hn : n ≤ 1000000) (hg : g < w.heap.size) (hc : w.cell? ⟨g, 6, none⟩ = some (.int .i64 oth)) :
    Calls Tryz.prog 74 #[.slice A n c, .func (.func 75) #[] #[.pointer (some ⟨g, 0, none⟩)]] w (IdxRes w n (fun j => bs[j]!.q.id) oth) := by
  have HS := Lib.hid h
  have HC : Hid (∀ (b : Qb) (w' : World), RowKit.Below w.heap.size w w' → Calls Tryz.prog 75 #[.agg #[.int .i64 b.q.id, .int .i64 b.q.vol, .int .i64 b.q.fr, .int .i64 b.q.tod, .slice b.A b.n b.c], .pointer (some ⟨g, 0, none⟩)] w' (BRes w' (b.q.id == oth))) := fun b w' hb => fact1_any b g oth w' (Nat.lt_of_lt_of_le hg hb.size) ((hb.cell (p := ⟨g, 6, none⟩) hg).trans hc)
  clear h hg hc
  go_enter Tryz.func74, Tryz.ntmps74
  go_wp2_with fail
  go_loopw [8] (fun i wx => ∃ k : Nat, k ≤ n ∧ i = .int .i64 k ∧ Hid (∀ j, j < k → bs[j]!.q.id ≠ oth) ∧ Hid (RowKit.Below w.heap.size w wx)) (fun i _ => n - (intOf i).toNat)
  case atStart => exact ⟨0, Nat.zero_le _, rfl, fun j hj => by omega, Below.refl _ _⟩
  case round =>
    obtain ⟨k, hk, rfl, HA, HB⟩ := hrel
    by_cases hlt : k < n
    · obtain ⟨b, off, hA, hbl, hc⟩ := (HS.out.below HB.out).at_ hlt
      obtain ⟨x, hxx⟩ : ∃ x, bs[k]! = x := ⟨_, rfl⟩
      rw [hxx] at hc
      subst hA
      have hki : (k : Int) < n := by omega
      have a0 : wr.cell? ⟨b, off + k * 5, none⟩ = some (.int .i64 x.q.id) := hc 0 (by omega)
      have a1 : wr.cell? ⟨b, off + k * 5 + 1, none⟩ = some (.int .i64 x.q.vol) := hc 1 (by omega)
      have a2 : wr.cell? ⟨b, off + k * 5 + 2, none⟩ = some (.int .i64 x.q.fr) := hc 2 (by omega)
      have a3 : wr.cell? ⟨b, off + k * 5 + 3, none⟩ = some (.int .i64 x.q.tod) := hc 3 (by omega)
      have a4 : wr.cell? ⟨b, off + k * 5 + 4, none⟩ = some (.slice x.A x.n x.c) := hc 4 (by omega)
      have HXX := Lib.hid hxx
      have HCX := Lib.hid (HC.out x wr HB.out)
      obtain ⟨r, hr⟩ : ∃ r, (x.q.id == oth) = r := ⟨_, rfl⟩
      have HR := Lib.hid hr
      rw [hr] at HCX
      clear hc hxx hr hbl
      go_wp2_with fail
      refine HCX.out.mono ?_
      rintro e w1 ⟨rfl, hb1⟩
      have HB1 := Lib.hid (HB.out.trans (hb1.mono HB.out.size))
      clear a0 a1 a2 a3 a4 hb1 HB HCX
      cases r
      case true =>
        have E : Hid (bs[k]!.q.id = oth) := by show _ = _; rw [HXX.out]; simpa using HR.out
        go_wp2
        go_ret
        exact ⟨.inl ⟨k, rfl, hlt, E.out⟩, HB1.out⟩
      have HA2 : Hid (∀ j, j < k + 1 → bs[j]!.q.id ≠ oth) := fun j hj => by
        by_cases e : j = k
        · subst e; rw [HXX.out]; simpa using HR.out
        · exact HA.out j (by omega)
      go_wp2_with fail
      go_roundw
      case rel => exact ⟨k + 1, by omega, by go_num, HA2, HB1⟩
      case measure => simp [intOf]; omega
    · obtain rfl : n = k := by omega
      go_wp2
      go_ret
      exact ⟨.inr ⟨rfl, HA.out⟩, HB.out⟩
end Go.Proofs.YtdbcbbiplkikcaaGreat

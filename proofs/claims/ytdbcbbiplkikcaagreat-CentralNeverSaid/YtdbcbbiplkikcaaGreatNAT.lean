/-
  The contracts of slices.Insert (one element) and slices.Clone at Reservation. No statement of the seat is proved here. Conditions: at most 1000 elements.
  The contracts of slices.BinarySearchFunc at reservations and movements. No statement of the seat is proved here. Conditions: the movements ascend; at most 1000000 of them.
-/
import Derived.Test.YtdbcbbiplkikcaaGreatNAJ
import Derived.Test.YtdbcbbiplkikcaaGreatNAK
import Derived.Test.YtdbcbbiplkikcaaGreatNAI
namespace Go.Proofs.YtdbcbbiplkikcaaGreat
open Go.RowKit Go.Shelf
set_option linter.unusedVariables false

def InsResU (w : World) (v : Value) (N n : Nat) (fs : List (Int × Int)) (e : Ending) (w' : World) : Prop := ∃ (B : Option Addr) (d : Nat), e = .returned (.slice B (n + 1) d) ∧ w'.ownsRow N 32 2 (.slice B (n + 1) d) (n + 1) (flat enc2 fs) ∧ RowKit.Below N w w' ∧ ((Value.slice B (n + 1) d).ownBlock = v.ownBlock ∨ ∃ g, w.heap.size ≤ g ∧ (Value.slice B (n + 1) d).ownBlock = some g) ∧ ∀ k, k < w.heap.size → some k ≠ v.ownBlock → w'.heap[k]? = w.heap[k]?

set_option maxRecDepth 100000 in
set_option maxHeartbeats 4000000 in
theorem insert_endU (N : Nat) (B : Option Addr) (n c : Nat) (fs : List (Int × Int)) (f : (Int × Int)) (vb : Nat) (w : World) (ho : w.ownsRow N 32 2 (.slice B n c) n (flat enc2 fs)) (hv : Bl w vb 32 (enc2 f).toArray) (hn : n ≤ 1000) (hN : N ≤ w.heap.size) :
    Calls Tryz.prog 119 #[.slice B n c, .int .i64 n, .slice (some ⟨vb, 0, none⟩) 1 1] w (InsResU w (.slice B n c) N n (fs ++ [f])) := by
  have HO := Lib.hid ho
  have HR : Hid (Rd w 2 (some ⟨vb, 0, none⟩) 1 (enc2 f)) := ⟨rfl, fun _ => ⟨vb, 0, rfl, hv.lt, fun j u hu => by rw [Nat.zero_add, hv.cell]; simpa using hu⟩⟩
  have HM : Hid (n + 1 ≤ maxLen ∧ (n + 1) * 16 ≤ 140737488355328) := ⟨by unfold maxLen; omega, by omega⟩
  have HN := Lib.hid hN
  have HON := Lib.hid (enc2_one f)
  clear ho hv hN
  have hbd := own_boundsF HO.out
  go_enter Tryz.func119, Tryz.ntmps119
  go_wp2_with (at_builtin; refine wpList_append_rd _ rfl (.tmp 23) (.tmp 24) 28 rfl N 32 _ 2 16 Tryz.underlying28 info37U rfl (by decide) (.slice B n c) n (flat enc2 fs) rfl HO.out (some ⟨vb, 0, none⟩) 1 1 (enc2 f) rfl HR.out HON.out HM.out.1 HM.out.2 HN.out ?_; intro v6 w6 ho6 hg6 hv6; obtain ⟨B6, d6, rfl⟩ := own_slice ho6)
  all_goals go_ret
  all_goals exact ⟨B6, d6, rfl, by rw [flat_append, flat_one]; exact ho6, (Below.refl N w).grown hg6 HN.out (fun k hk => own_base HO.out k hk), hv6.imp (fun e => e.trans (by cases B <;> rfl)) (fun e => ⟨_, Nat.le_refl _, e⟩), fun k hk hne => hg6.block k hk (fun e => hne (by rw [e]; try (cases B <;> rfl)))⟩
theorem flat_takeU (fs : List (Int × Int)) (i : Nat) (hi : i ≤ fs.length) : flat enc2 fs = flat enc2 (fs.take i) ++ flat enc2 (fs.drop i) := by rw [← flat_append, List.take_append_drop]
theorem flat_oneFU (fs : List (Int × Int)) : ∀ v ∈ flat enc2 fs, v.oneCell' = true := fun u hu => by
  obtain ⟨x, _, hx⟩ := List.mem_flatMap.1 hu
  exact enc2_one x u hx

set_option maxRecDepth 100000 in
set_option maxHeartbeats 4000000 in
theorem insert_shiftU (N g n c i : Nat) (fs : List (Int × Int)) (f : (Int × Int)) (vb : Nat) (w : World) (ho : w.ownsRow N 32 2 (.slice (some ⟨g, 0, none⟩) n c) n (flat enc2 fs)) (hl : fs.length = n) (hv : Bl w vb 32 (enc2 f).toArray) (hvg : vb ≠ g) (hi : i < n) (hc : n + 1 ≤ c) (hn : n ≤ 1000) (hN : N ≤ w.heap.size) :
    Calls Tryz.prog 119 #[.slice (some ⟨g, 0, none⟩) n c, .int .i64 i, .slice (some ⟨vb, 0, none⟩) 1 1] w (InsResU w (.slice (some ⟨g, 0, none⟩) n c) N n (fs.take i ++ f :: fs.drop i)) := by
  obtain ⟨cur, hNg, hcur, hcs, hct⟩ : ∃ cur : List Value, N ≤ g ∧ w.heap[g]? = some (.cells cur.toArray 32 (0, 0)) ∧ cur.length = c * 2 ∧ cur.take (n * 2) = flat enc2 fs := by
    rcases ho.2 with ⟨hv, h0⟩ | ⟨g', cap, cur, hv, h1, h2, _, _, h3, h4⟩
    · cases hv
    · injection hv with h5 _ h6
      injection h5 with h5
      injection h5 with h5
      subst h5 h6
      exact ⟨cur.toList, h1, by simpa using h2, by simpa using h3, h4⟩
  have hbd := own_boundsF ho
  have hov : ∀ lb cb, (callFunc 159 #[.slice (some ⟨vb, 0, none⟩) 1 1, .slice (some ⟨g, (i + 1) * 2, none⟩) lb cb]).run Tryz.prog w = .ok (.value (.bool false)) w := fun lb cb => by
    rw [run_callFunc_extern Tryz.func159 (by kernel_rfl) (by kernel_rfl) (by kernel_rfl) (e := Extern.SlicesOverlaps.overlaps #[28, 28] #[4]) (by kernel_rfl),
      Lib.run_overlaps_apart w 28 4 32 Tryz.underlying28 2 Tryz.sizeOf32 ⟨vb, 0, none⟩ ⟨g, (i + 1) * 2, none⟩ 1 1 lb cb hvg 32 32 2 (c * 2) (by rw [World.shape?, show w.heap[vb]? = _ from hv]; rfl) (by simp [World.shape?, hcur, hcs]) (by omega) (hv.free _) (hv.free _)]
    rfl
  obtain ⟨X, hX⟩ : ∃ X, X = flat enc2 (fs.take i) := ⟨_, rfl⟩
  obtain ⟨Y, hY⟩ : ∃ Y, Y = flat enc2 (fs.drop i) := ⟨_, rfl⟩
  obtain ⟨F, hF⟩ : ∃ F, F = enc2 f := ⟨_, rfl⟩
  have hXl : X.length = i * 2 := by rw [hX, flat_length enc2_len, List.length_take]; omega
  have hYl : Y.length = (n - i) * 2 := by rw [hY, flat_length enc2_len, List.length_drop, hl]
  have hFl : F.length = 2 := by rw [hF]; rfl
  rw [flat_takeU fs i (by omega), ← hX, ← hY] at hct
  have hY1 : ∀ v ∈ Y, v.oneCell' = true := by rw [hY]; exact flat_oneFU _
  have hF1 : ∀ v ∈ F, v.oneCell' = true := by rw [hF]; exact enc2_one f
  have HSY : Hid (∀ j v, Y[j]? = some v → w.cell? ((⟨g, i * 2, none⟩ : Addr).add j) = some v) := by
    intro j v hj
    rw [Addr.add_lit, cell_of_row w g _ cur.toArray _ (0, 0) hcur]
    have h1 : (X ++ Y)[i * 2 + j]? = some v := by rw [List.getElem?_append_right (by omega), hXl]; rw [show i * 2 + j - i * 2 = j by omega]; exact hj
    rw [← hct] at h1
    rw [List.getElem?_take] at h1
    split at h1
    · simpa using h1
    · cases h1
  have HC := Lib.hid hcur
  have HRES : Hid (∀ w', w'.heap[g]? = some (.cells (splice (splice cur ((i + 1) * 2) Y) (i * 2) F).toArray 32 (0, 0)) → RowKit.Below N w w' → (∀ k, k ≠ g → w'.heap[k]? = w.heap[k]?) → InsResU w (.slice (some ⟨g, 0, none⟩) n c) N n (fs.take i ++ f :: fs.drop i) (.returned (.slice (some ⟨g, 0, none⟩) (n + 1) c)) w') := by
    intro w' hw' hb hoth
    have hsp := splice_shift cur X Y F (n * 2) hct (by omega)
    rw [hFl, hXl, show i * 2 + 2 = (i + 1) * 2 by omega] at hsp
    refine ⟨some ⟨g, 0, none⟩, c, rfl, ⟨?_, Or.inr ⟨g, c, _, rfl, hNg, hw', hc, by unfold maxLen; omega, ?_, ?_⟩⟩, hb, .inl rfl, fun k _ hne => hoth k (fun e => hne (by rw [e]; rfl))⟩
    · rw [flat_length enc2_len]; simp; omega
    · rw [List.size_toArray, length_splice _ _ _ (by rw [length_splice _ _ _ (by omega)]; omega), length_splice _ _ _ (by omega), hcs]
    · rw [List.toList_toArray, show (n + 1) * 2 = n * 2 + 2 by omega, hsp, flat_append, ← hX, show f :: fs.drop i = [f] ++ fs.drop i from rfl, flat_append, flat_one, ← hY, hF]
  have HV := Lib.hid hv
  have HLEN : Hid ((i + 1) * 2 + Y.length ≤ cur.length ∧ i * 2 + F.length ≤ (splice cur ((i + 1) * 2) Y).length) := ⟨by omega, by rw [length_splice _ _ _ (by omega)]; omega⟩
  have hinf : (Tryz.prog.info? 32).map (·.size) = some 2 := by kernel_rfl
  have HINF := Lib.hid hinf
  have HFc : Hid (∀ w', Over w w' g → ∀ j v, F[j]? = some v → w'.cell? ((⟨vb, 0, none⟩ : Addr).add j) = some v) := by
    intro w' hw' j v hj
    rw [Addr.add_lit, Nat.zero_add]
    have : Bl w' vb 32 (enc2 f).toArray := (hw'.other vb hvg).trans hv
    rw [this.cell, ← hF]; simpa using hj
  have HNg := Lib.hid hNg
  have z1 : ¬ ((i : Int) = (n : Int)) := by omega
  have z2 : ¬ ((c : Int) < (n : Int) + 1) := by omega
  clear ho hl hv hcur hcs hct hX hY hF hinf hNg
  go_enter Tryz.func119, Tryz.ntmps119
  go_wp2_with (simp only [hov])
  have HMN : Hid (Y.length = Nat.min (n + 1 - i) (n - i) * 2) := by show _ = _; rw [hYl, show Nat.min (n + 1 - i) (n - i) = n - i from Nat.min_eq_right (by omega)]
  have HMF : Hid (F.length = Nat.min 1 (n + 1 - i) * 2) := by show _ = _; rw [hFl, show Nat.min 1 (n + 1 - i) = 1 from Nat.min_eq_left (by omega)]
  have hin : i ≤ n := by omega
  have mixed : Tryz.prog.follows Departure.mixedOrders = true := rfl
  have hw1 : IntKind.i64.wrap ((i : Int) + 1) = (i : Int) + 1 := by rw [IntKind.wrap_i64]; omega
  have htn : ((i : Int) + 1).toNat = i + 1 := by omega
  have hb2 : ¬ (c = i + 1) := by omega
  have hb3 : (i : Int) ≤ (n : Int) + 1 := by omega
  have hb4 : ¬ (c = i) := by omega
  have hb5 : (0 : Int) ≤ (i : Int) + 1 := by omega
  go_region_law_o (refine step_copyK rfl (.tmp 73) (.tmp 76) 28 28 rfl 32 2 Tryz.underlying28 HINF.out g ((i + 1) * 2) (n - i) (c - (i + 1)) ⟨g, i * 2, none⟩ (n + 1 - i) (c - i) (by simp [Act.eval, Act.put]) (by simp [Act.eval, Act.put]) cur 32 HC.out Y HMN.out HSY.out HLEN.out.1 hY1 ?_; intro w1 HC1 hO1)
  have HF2 := Lib.hid (HFc.out w1 ⟨hO1.os, hO1.tape, hO1.output, hO1.size, hO1.other⟩)
  have HB1 : Hid (RowKit.Below N w w1) := (show Over w w1 g from ⟨hO1.os, hO1.tape, hO1.output, hO1.size, hO1.other⟩).below HNg.out
  have HO1 := Lib.hid hO1.other
  clear hO1
  obtain ⟨w2, hcp, HC2, hO2⟩ : ∃ w2, (Builtin.copy_ #[28, 28] 3 #[.slice (some ⟨g, i * 2, none⟩) (n + 1 - i) (c - i), .slice (some ⟨vb, 0, none⟩) 1 1]).run Tryz.prog w1 = .ok (goInt (Nat.min 1 (n + 1 - i))) w2 ∧ Hid (w2.heap[g]? = some (.cells (splice (splice cur ((i + 1) * 2) Y) (i * 2) F).toArray 32 (0, 0))) ∧ Over w1 w2 g :=
    ⟨_, run_copy_rowK w1 _ _ _ 32 2 g (i * 2) _ _ _ _ _ _ 32 F Tryz.underlying28 HINF.out HC1.out HMF.out HF2.out HLEN.out.2 hF1, setRow_heap w1 g _ _ _ _ HC1.out, over_setRow w1 g _⟩
  go_wp2_with (simp only [hcp])
  go_ret
  exact HRES.out _ HC2.out (HB1.out.trans (hO2.below HNg.out)) (fun k hk => (hO2.other k hk).trans (HO1.out k hk))



set_option maxRecDepth 100000 in
set_option maxHeartbeats 4000000 in
theorem insert_growU (N g n c i : Nat) (fs : List (Int × Int)) (f : (Int × Int)) (vb : Nat) (w : World) (ho : w.ownsRow N 32 2 (.slice (some ⟨g, 0, none⟩) n c) n (flat enc2 fs)) (hl : fs.length = n) (hv : Bl w vb 32 (enc2 f).toArray) (hi : i < n) (hc : c < n + 1) (hn : n ≤ 1000) (hN : N ≤ w.heap.size) :
    Calls Tryz.prog 119 #[.slice (some ⟨g, 0, none⟩) n c, .int .i64 i, .slice (some ⟨vb, 0, none⟩) 1 1] w (InsResU w (.slice (some ⟨g, 0, none⟩) n c) N n (fs.take i ++ f :: fs.drop i)) := by
  have hbd := own_boundsF ho
  have hrc := Recs.of_own enc2_len ho hl
  have hcell := Recs.cells enc2_len (by omega) hrc
  have hgw : g < w.heap.size := by
    obtain ⟨b', off', e, hb, _⟩ := hrc.2 (by omega)
    injection e with e; injection e with e; subst e; exact hb
  obtain ⟨X, hX⟩ : ∃ X, X = flat enc2 (fs.take i) := ⟨_, rfl⟩
  obtain ⟨Y, hY⟩ : ∃ Y, Y = flat enc2 (fs.drop i) := ⟨_, rfl⟩
  obtain ⟨F, hF⟩ : ∃ F, F = enc2 f := ⟨_, rfl⟩
  have hXl : X.length = i * 2 := by rw [hX, flat_length enc2_len, List.length_take]; omega
  have hYl : Y.length = (n - i) * 2 := by rw [hY, flat_length enc2_len, List.length_drop, hl]
  have hFl : F.length = 2 := by rw [hF]; rfl
  rw [flat_takeU fs i (by omega), ← hX, ← hY] at hcell
  have hY1 : ∀ v ∈ Y, v.oneCell' = true := by rw [hY]; exact flat_oneFU _
  have hF1 : ∀ v ∈ F, v.oneCell' = true := by rw [hF]; exact enc2_one f
  obtain ⟨i0, hi0, hz0, hz1, hz2⟩ := info_parts info37U
  have hold : (Builtin.firstCells i0.size i (.slice (some ⟨g, 0, none⟩) i c)).run Tryz.prog w.drew = .ok X.toArray w.drew := by
    rw [hz1]
    exact run_firstCells_some w.drew 2 i ⟨g, 0, none⟩ i c X (by omega) (fun j v hj => by
      rw [Addr.add_lit]
      have hj2 : j < X.length := by
        rcases Nat.lt_or_ge j X.length with h | h
        · exact h
        · rw [List.getElem?_eq_none h] at hj; cases hj
      exact hcell j v (by rw [List.getElem?_append_left hj2]; exact hj))
  have hkk : (n : Int) + 1 - (i : Int) = ((n + 1 - i : Nat) : Int) := by omega
  have hik : i + (n + 1 - i) = n + 1 := by omega
  obtain ⟨G, W1, R, hrz, HR, HRl, HRx, hGn, hG63, HB⟩ : ∃ (G : Nat) (W1 : World) (R : List Value), (∀ ty, (Builtin.append_ #[28, 3] ty #[.slice (some ⟨g, 0, none⟩) i c, .int .i64 ((n : Int) + 1 - (i : Int))]).run Tryz.prog w = .ok (.slice (some ⟨w.heap.size, 0, none⟩) (n + 1) G) W1) ∧
      Hid (W1.heap[w.heap.size]? = some (.cells R.toArray 32 (0, 0))) ∧ Hid (R.length = G * 2) ∧ Hid (R.take X.length = X) ∧ n + 1 ≤ G ∧ G ≤ 9223372036854775807 ∧ Hid (RowKit.Below w.heap.size w W1) := by
    have h := fun ty => Lib.run_append_grow_zeros w 28 3 ty 32 i0 _ .i64 .i64 Tryz.underlying28 Tryz.underlying3 hi0 hz0 (some ⟨g, 0, none⟩) i c X hold (n + 1 - i) (by omega) (by omega) (by omega) (by omega) (by rw [hz2]; omega) (by rw [hz2, hik]; exact growslice_fits hc (by omega))
    rw [hik] at h
    have hG := grownCap_le_maxLen w (n + 1) c 32 (by unfold maxLen; omega)
    unfold maxLen at hG
    refine ⟨grownCap w (n + 1) c 32, _, X ++ ((Builtin.zeroCells (Value.agg #[.int .i64 0, .int .i64 0]).cells (n + 1 - i)).toList ++ (Builtin.zeroCells (Value.agg #[.int .i64 0, .int .i64 0]).cells (grownCap w (n + 1) c 32 - (n + 1))).toList), fun ty => by rw [hkk]; exact h ty, ?_, ?_, List.take_left' rfl, grownCap_ge w _ _ _, by omega, ?_⟩
    · show _ = _
      refine (heap_alloc_new w.drew _).trans ?_
      simp
    · have := grownCap_ge w (n + 1) c 32
      show _ = _
      simp [Builtin.zeroCells, Value.cells, hXl]
      omega
    · exact (Below.refl _ _).drew.alloc (Nat.le_refl _) _
  have hinf : (Tryz.prog.info? 32).map (·.size) = some 2 := by rw [hi0]; simp [hz1]
  have hvw := hv.lt
  have hv1 : Bl W1 vb 32 (enc2 f).toArray := hv.keep HB.out
  have HMF : Hid (F.length = Nat.min 1 (n + 1 - i) * 2) := by show _ = _; rw [hFl, show Nat.min 1 (n + 1 - i) = 1 from Nat.min_eq_left (by omega)]
  have HMN : Hid (Y.length = Nat.min (n - i) (n - i) * 2) := by show _ = _; rw [hYl, show Nat.min (n - i) (n - i) = n - i from Nat.min_self _]
  have hRl := HRl.out
  obtain ⟨w2, hcp, HC2, hO2⟩ : ∃ w2, (Builtin.copy_ #[28, 28] 3 #[.slice (some ⟨w.heap.size, i * 2, none⟩) (n + 1 - i) (G - i), .slice (some ⟨vb, 0, none⟩) 1 1]).run Tryz.prog W1 = .ok (goInt (Nat.min 1 (n + 1 - i))) w2 ∧ Hid (w2.heap[w.heap.size]? = some (.cells (splice R (i * 2) F).toArray 32 (0, 0))) ∧ Over W1 w2 w.heap.size :=
    ⟨_, run_copy_rowK W1 _ _ _ 32 2 w.heap.size (i * 2) _ _ _ _ _ _ 32 F Tryz.underlying28 hinf HR.out HMF.out (fun j v hj => by rw [Addr.add_lit, Nat.zero_add, hv1.cell, ← hF]; simpa using hj) (by omega) hF1, setRow_heap W1 w.heap.size _ _ _ _ HR.out, over_setRow W1 w.heap.size _⟩
  have HB2 : Hid (RowKit.Below w.heap.size w w2) := HB.out.trans (hO2.below (Nat.le_refl _))
  have HSY : Hid (∀ j v, Y[j]? = some v → w2.cell? ((⟨g, i * 2, none⟩ : Addr).add j) = some v) := by
    intro j v hj
    rw [Addr.add_lit, HB2.out.cell (p := ⟨g, i * 2 + j, none⟩) hgw]
    have := hcell (i * 2 + j) v (by rw [List.getElem?_append_right (by omega), hXl, show i * 2 + j - i * 2 = j by omega]; exact hj)
    rwa [Nat.zero_add] at this
  have HLEN : Hid ((i + 1) * 2 + Y.length ≤ (splice R (i * 2) F).length) := by show _ ≤ _; rw [length_splice _ _ _ (by omega)]; omega
  have HRES : Hid (∀ w', w'.heap[w.heap.size]? = some (.cells (splice (splice R (i * 2) F) ((i + 1) * 2) Y).toArray 32 (0, 0)) → RowKit.Below w.heap.size w w' → InsResU w (.slice (some ⟨g, 0, none⟩) n c) N n (fs.take i ++ f :: fs.drop i) (.returned (.slice (some ⟨w.heap.size, 0, none⟩) (n + 1) G)) w') := by
    intro w' hw' hb
    have hsp := splice_grow R X Y F HRx.out (by omega)
    rw [hFl, hXl, show i * 2 + 2 = (i + 1) * 2 by omega, show (i + 1) * 2 + Y.length = (n + 1) * 2 by omega] at hsp
    refine ⟨some ⟨w.heap.size, 0, none⟩, G, rfl, ⟨?_, Or.inr ⟨w.heap.size, G, _, rfl, hN, hw', hGn, by unfold maxLen; omega, ?_, ?_⟩⟩, hb.mono hN, .inr ⟨_, Nat.le_refl _, rfl⟩, fun k hk _ => hb.block k hk⟩
    · rw [flat_length enc2_len]; simp; omega
    · rw [List.size_toArray, length_splice _ _ _ HLEN.out, length_splice _ _ _ (by omega), hRl]
    · rw [List.toList_toArray, hsp, flat_append, ← hX, show f :: fs.drop i = [f] ++ fs.drop i from rfl, flat_append, flat_one, ← hY, hF]
  have HINF := Lib.hid hinf
  have z1 : ¬ ((i : Int) = (n : Int)) := by omega
  have z2 : (c : Int) < (n : Int) + 1 := by omega
  have hin : i ≤ n := by omega
  have mixed : Tryz.prog.follows Departure.mixedOrders = true := rfl
  have hw1 : IntKind.i64.wrap ((i : Int) + 1) = (i : Int) + 1 := by rw [IntKind.wrap_i64]; omega
  have htn : ((i : Int) + 1).toNat = i + 1 := by omega
  have hb2 : ¬ (G = i + 1) := by omega
  have hb3 : (i : Int) ≤ (n : Int) := by omega
  have hb4 : ¬ (c = i) := by omega
  have hb5 : (0 : Int) ≤ (i : Int) + 1 := by omega
  have hb6 : ¬ (G = i) := by omega
  clear ho hl hv hX hY hF hinf hrc hcell hold hkk hik hRl hv1 hi0 hz0 hz1 hz2 HR HRl HRx
  go_enter Tryz.func119, Tryz.ntmps119
  go_wp2_with (first | (at_builtin; refine Lib.wpList_append_run _ rfl _ _ _ _ rfl _ _ rfl rfl _ _ (hrz _) ?_) | simp only [hcp])
  go_region_law_o (refine step_copyK rfl (.tmp 50) (.tmp 53) 28 28 rfl 32 2 Tryz.underlying28 HINF.out w.heap.size ((i + 1) * 2) (n - i) (G - (i + 1)) ⟨g, i * 2, none⟩ (n - i) (c - i) (by simp [Act.eval, Act.put]) (by simp [Act.eval, Act.put]) (splice R (i * 2) F) 32 HC2.out Y HMN.out HSY.out HLEN.out hY1 ?_; intro w3 HC3 hO3)
  have HB3 : Hid (RowKit.Below w.heap.size w w3) := HB2.out.trans ((show Over w2 w3 w.heap.size from ⟨hO3.os, hO3.tape, hO3.output, hO3.size, hO3.other⟩).below (Nat.le_refl _))
  go_wp2
  go_ret
  exact HRES.out _ HC3.out HB3.out
theorem insert_anyU (N : Nat) (B : Option Addr) (n c i : Nat) (fs : List (Int × Int)) (f : (Int × Int)) (vb : Nat) (w : World) (ho : w.ownsRow N 32 2 (.slice B n c) n (flat enc2 fs)) (hl : fs.length = n) (hv : Bl w vb 32 (enc2 f).toArray) (hvg : ∀ a, B = some a → vb ≠ a.block) (hi : i ≤ n) (hn : n ≤ 1000) (hN : N ≤ w.heap.size) :
    Calls Tryz.prog 119 #[.slice B n c, .int .i64 i, .slice (some ⟨vb, 0, none⟩) 1 1] w (InsResU w (.slice B n c) N n (fs.take i ++ f :: fs.drop i)) := by
  rcases Nat.lt_or_ge i n with h | h
  · obtain ⟨g, rfl⟩ : ∃ g, B = some ⟨g, 0, none⟩ := by
      rcases ho.2 with ⟨hv, h0⟩ | ⟨g', cap, cur, hv, _⟩
      · omega
      · injection hv with h5; exact ⟨g', h5⟩
    rcases Nat.lt_or_ge c (n + 1) with h2 | h2
    · exact insert_growU N g n c i fs f vb w ho hl hv h h2 hn hN
    · exact insert_shiftU N g n c i fs f vb w ho hl hv (hvg _ rfl) h h2 hn hN
  · obtain rfl : i = n := by omega
    have := insert_endU N B i c fs f vb w ho hv hn hN
    rwa [List.take_of_length_le (by omega), List.drop_eq_nil_of_le (by omega)]
end Go.Proofs.YtdbcbbiplkikcaaGreat

namespace Go.Proofs.YtdbcbbiplkikcaaGreat
open Go.RowKit
set_option linter.unusedVariables false

theorem u_le {us : List (Int × Int)} (h : uAsc us) {i j : Nat} (hij : i ≤ j) (hj : j < us.length) : us[i]!.1 ≤ us[j]!.1 := by
  induction j with
  | zero => obtain rfl : i = 0 := by omega
            exact Int.le_refl _
  | succ j ih =>
    by_cases e : i = j + 1
    · subst e; exact Int.le_refl _
    · have h1 := ih (by omega) (by omega)
      have h2 := h j hj
      omega
def BsU (w : World) (us : List (Int × Int)) (t : Int) (e : Ending) (w' : World) : Prop := ∃ (I : Nat) (b : Bool), e = .returned (.tuple #[.int .i64 I, .bool b]) ∧ I ≤ us.length ∧ (∀ q, q < I → us[q]!.1 < t) ∧ (∀ q, I ≤ q → q < us.length → t ≤ us[q]!.1) ∧ (b = true ↔ (I < us.length ∧ us[I]!.1 = t)) ∧ RowKit.Below w.heap.size w w'

set_option maxRecDepth 100000 in
set_option maxHeartbeats 1000000 in
theorem cmpS_any (x y t : Int) (w : World) : Calls Tryz.prog 157 #[.agg #[.int .i64 x, .int .i64 y], .int .i64 t] w (CmpN x t w) := by
  have HC := Lib.hid (fun w => Tryz.cmp_Compare_int x t w)
  have HS := Lib.hid (compareInt_tests x t)
  generalize Lib.compareInt x t = r at *
  go_enter Tryz.func157, Tryz.ntmps157
  go_wp2_with fail
  refine (HC.out _).mono ?_
  rintro e w1 ⟨rfl, rfl⟩
  go_wp2
  go_ret
  exact ⟨⟨r, rfl, HS.out.1, HS.out.2⟩, (Below.refl _ _).alloc (Nat.le_refl _) _⟩

set_option maxRecDepth 100000 in
set_option maxHeartbeats 4000000 in
theorem bsearchS_any (A : Option Addr) (n c : Nat) (us : List (Int × Int)) (t : Int) (w : World) (h : Recs enc2 2 w A n us) (hn : n ≤ 1000000) (ha : uAsc us) :
    Calls Tryz.prog 120 #[.slice A n c, .int .i64 t, .func (.func 157) #[] #[]] w (BsU w us t) := by
  have HL := Lib.hid h.1
  have HA := Lib.hid ha
  have HCM := Lib.hid (fun x y w => cmpS_any x y t w)
  clear ha
  go_enter Tryz.func120, Tryz.ntmps120
  go_wp2
  go_loopw [9, 10] (fun i j wx => ∃ I J : Nat, i = .int .i64 I ∧ j = .int .i64 J ∧ I ≤ J ∧ J ≤ n ∧ Hid (∀ q, q < I → us[q]!.1 < t) ∧ Hid (∀ q, J ≤ q → q < n → t ≤ us[q]!.1) ∧ RowKit.Below w.heap.size w wx) (fun i j _ => (intOf j).toNat - (intOf i).toNat)
  case atStart => exact ⟨0, n, rfl, rfl, Nat.zero_le _, Nat.le_refl _, fun q h1 => by omega, fun q h1 h2 => by omega, Below.refl _ _⟩
  case round =>
    obtain ⟨I, J, rfl, rfl, hIJ, hJ, HB, HC, hb⟩ := hrel
    by_cases hlt : I < J
    · go_upto_region 5 with (fail)
      obtain ⟨H, hH⟩ : ∃ q : Nat, ((I : Int) + (J : Int)) / 2 = (q : Int) := ⟨(I + J) / 2, by omega⟩
      have hH1 : I ≤ H := by omega
      have hH2 : H < J := by omega
      rw [hH]
      clear hH
      obtain ⟨b, off, x, y, hA, hbl, c0, c1, HX⟩ := (h.below hb).get2 (i := H) (by omega)
      subst hA
      have hHi : (H : Int) < n := by omega
      go_wp2_with fail
      refine (HCM.out x y _).mono ?_
      rintro e w1 ⟨⟨r, rfl, hr1, hr2⟩, hb1⟩
      have hb2 := hb.trans (hb1.mono hb.size)
      clear c0 c1 hb1 hr2
      by_cases g : x < t
      · have d1 : decide (r < 0) = true := by rw [hr1]; simpa using g
        have HB2 : Hid (∀ q, q < H + 1 → us[q]!.1 < t) := fun q hq => by
          have := u_le HA.out (show q ≤ H by omega) (by have := HL.out; omega)
          rw [HX.out] at this
          simp only at this
          omega
        clear hr1 g
        go_wp2_with fail
        go_roundw
        case rel => exact ⟨H + 1, J, by go_num, rfl, by omega, hJ, HB2, HC, hb2⟩
        case measure => simp [intOf]; omega
      · have d1 : decide (r < 0) = false := by rw [hr1]; simpa using g
        have HC2 : Hid (∀ q, H ≤ q → q < n → t ≤ us[q]!.1) := fun q h1 h2 => by
          have := u_le HA.out h1 (by have := HL.out; omega)
          rw [HX.out] at this
          simp only at this
          omega
        clear hr1 g
        go_wp2_with fail
        go_roundw
        case rel => exact ⟨I, H, rfl, rfl, by omega, by omega, HB, HC2, hb2⟩
        case measure => simp [intOf]; omega
    · obtain rfl : I = J := by omega
      by_cases hIn : I < n
      · obtain ⟨b, off, x, y, hA, hbl, c0, c1, HX⟩ := (h.below hb).get2 hIn
        subst hA
        have hIi : (I : Int) < n := by omega
        go_wp2_with fail
        refine (HCM.out x y _).mono ?_
        rintro e w1 ⟨⟨r, rfl, hr1, hr2⟩, hb1⟩
        have hb2 := hb.trans (hb1.mono hb.size)
        have HIF : Hid ((r == 0) = true ↔ (I < us.length ∧ us[I]!.1 = t)) := by
          show _ ↔ _
          rw [hr2, HX.out]
          constructor
          · intro h1
            exact ⟨by have := HL.out; omega, by simpa using h1⟩
          · intro h1
            simpa using h1.2
        clear hr1 hr2 hb1
        go_wp2
        go_ret2
        exact ⟨I, _, rfl, by have := HL.out; omega, HB.out, fun q h1 h2 => HC.out q h1 (by have := HL.out; omega), HIF.out, hb2⟩
      · obtain rfl : n = I := by omega
        have hd : decide (n < n) = false := by simp
        go_wp2
        go_ret2
        exact ⟨n, false, rfl, by have := HL.out; omega, HB.out, fun q h1 h2 => HC.out q h1 (by have := HL.out; omega), ⟨fun h1 => (by cases h1), fun h1 => (by have := HL.out; omega)⟩, hb⟩

set_option maxRecDepth 100000 in
set_option maxHeartbeats 1000000 in
theorem cmpV_any (x y t : Int) (w : World) : Calls Tryz.prog 121 #[.agg #[.int .i64 x, .int .i64 y], .int .i64 t] w (CmpN x t w) := by
  have HC := Lib.hid (fun w => Tryz.cmp_Compare_int x t w)
  have HS := Lib.hid (compareInt_tests x t)
  generalize Lib.compareInt x t = r at *
  go_enter Tryz.func121, Tryz.ntmps121
  go_wp2_with fail
  refine (HC.out _).mono ?_
  rintro e w1 ⟨rfl, rfl⟩
  go_wp2
  go_ret
  exact ⟨⟨r, rfl, HS.out.1, HS.out.2⟩, (Below.refl _ _).alloc (Nat.le_refl _) _⟩

set_option maxRecDepth 100000 in
set_option maxHeartbeats 4000000 in
theorem bsearchV_any (A : Option Addr) (n c : Nat) (us : List (Int × Int)) (t : Int) (w : World) (h : Recs enc2 2 w A n us) (hn : n ≤ 1000000) (ha : uAsc us) :
    Calls Tryz.prog 120 #[.slice A n c, .int .i64 t, .func (.func 121) #[] #[]] w (BsU w us t) := by
  have HL := Lib.hid h.1
  have HA := Lib.hid ha
  have HCM := Lib.hid (fun x y w => cmpV_any x y t w)
  clear ha
  go_enter Tryz.func120, Tryz.ntmps120
  go_wp2
  go_loopw [9, 10] (fun i j wx => ∃ I J : Nat, i = .int .i64 I ∧ j = .int .i64 J ∧ I ≤ J ∧ J ≤ n ∧ Hid (∀ q, q < I → us[q]!.1 < t) ∧ Hid (∀ q, J ≤ q → q < n → t ≤ us[q]!.1) ∧ RowKit.Below w.heap.size w wx) (fun i j _ => (intOf j).toNat - (intOf i).toNat)
  case atStart => exact ⟨0, n, rfl, rfl, Nat.zero_le _, Nat.le_refl _, fun q h1 => by omega, fun q h1 h2 => by omega, Below.refl _ _⟩
  case round =>
    obtain ⟨I, J, rfl, rfl, hIJ, hJ, HB, HC, hb⟩ := hrel
    by_cases hlt : I < J
    · go_upto_region 5 with (fail)
      obtain ⟨H, hH⟩ : ∃ q : Nat, ((I : Int) + (J : Int)) / 2 = (q : Int) := ⟨(I + J) / 2, by omega⟩
      have hH1 : I ≤ H := by omega
      have hH2 : H < J := by omega
      rw [hH]
      clear hH
      obtain ⟨b, off, x, y, hA, hbl, c0, c1, HX⟩ := (h.below hb).get2 (i := H) (by omega)
      subst hA
      have hHi : (H : Int) < n := by omega
      go_wp2_with fail
      refine (HCM.out x y _).mono ?_
      rintro e w1 ⟨⟨r, rfl, hr1, hr2⟩, hb1⟩
      have hb2 := hb.trans (hb1.mono hb.size)
      clear c0 c1 hb1 hr2
      by_cases g : x < t
      · have d1 : decide (r < 0) = true := by rw [hr1]; simpa using g
        have HB2 : Hid (∀ q, q < H + 1 → us[q]!.1 < t) := fun q hq => by
          have := u_le HA.out (show q ≤ H by omega) (by have := HL.out; omega)
          rw [HX.out] at this
          simp only at this
          omega
        clear hr1 g
        go_wp2_with fail
        go_roundw
        case rel => exact ⟨H + 1, J, by go_num, rfl, by omega, hJ, HB2, HC, hb2⟩
        case measure => simp [intOf]; omega
      · have d1 : decide (r < 0) = false := by rw [hr1]; simpa using g
        have HC2 : Hid (∀ q, H ≤ q → q < n → t ≤ us[q]!.1) := fun q h1 h2 => by
          have := u_le HA.out h1 (by have := HL.out; omega)
          rw [HX.out] at this
          simp only at this
          omega
        clear hr1 g
        go_wp2_with fail
        go_roundw
        case rel => exact ⟨I, H, rfl, rfl, by omega, by omega, HB, HC2, hb2⟩
        case measure => simp [intOf]; omega
    · obtain rfl : I = J := by omega
      by_cases hIn : I < n
      · obtain ⟨b, off, x, y, hA, hbl, c0, c1, HX⟩ := (h.below hb).get2 hIn
        subst hA
        have hIi : (I : Int) < n := by omega
        go_wp2_with fail
        refine (HCM.out x y _).mono ?_
        rintro e w1 ⟨⟨r, rfl, hr1, hr2⟩, hb1⟩
        have hb2 := hb.trans (hb1.mono hb.size)
        have HIF : Hid ((r == 0) = true ↔ (I < us.length ∧ us[I]!.1 = t)) := by
          show _ ↔ _
          rw [hr2, HX.out]
          constructor
          · intro h1
            exact ⟨by have := HL.out; omega, by simpa using h1⟩
          · intro h1
            simpa using h1.2
        clear hr1 hr2 hb1
        go_wp2
        go_ret2
        exact ⟨I, _, rfl, by have := HL.out; omega, HB.out, fun q h1 h2 => HC.out q h1 (by have := HL.out; omega), HIF.out, hb2⟩
      · obtain rfl : n = I := by omega
        have hd : decide (n < n) = false := by simp
        go_wp2
        go_ret2
        exact ⟨n, false, rfl, by have := HL.out; omega, HB.out, fun q h1 h2 => HC.out q h1 (by have := HL.out; omega), ⟨fun h1 => (by cases h1), fun h1 => (by have := HL.out; omega)⟩, hb⟩

end Go.Proofs.YtdbcbbiplkikcaaGreat

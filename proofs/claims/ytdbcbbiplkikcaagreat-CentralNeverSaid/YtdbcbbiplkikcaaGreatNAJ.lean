/-
  The contract of slices.Insert of one fact into a row of the caller's own. No statement of the seat is proved here. Conditions: at most 1000 facts.
  slices.Insert of one fact where there is no room, and the three roads joined. No statement of the seat is proved here. Conditions: at most 1000 facts.
  What settle computes, as a relation of the facts alone, and that it is one. No statement of the seat is proved here.
  The settlement's own laws: every grant lies between 0 and the request; grants and rest add up. No statement of the seat is proved here.
  The laws of the settlement for books. No statement of the seat is proved here.
  The contract of quotabook.changes. No statement of the seat is proved here. Conditions: both books' facts are in range.
  Facts in order of their numbers: the insertion of one. No statement of the seat is proved here.
-/
import Derived.Test.YtdbcbbiplkikcaaGreatNAI
import Derived.Deep.RegionLaw
import Derived.Shelf.RegionOpenPlain
namespace Go.Proofs.YtdbcbbiplkikcaaGreat
open Go.RowKit Go.Shelf
set_option linter.unusedVariables false

theorem own_boundsF {w : World} {base n c : Nat} {A : Option Addr} {e : TypeId} {size : Nat} {xs : List Value} (h : w.ownsRow base e size (.slice A n c) n xs) : n ≤ c ∧ c ≤ 9223372036854775807 := by
  rcases h.2 with ⟨hv, h0⟩ | ⟨g, cap, cur, hv, _, _, h1, h2, _⟩
  · injection hv with _ _ h3; omega
  · injection hv with _ _ h3; unfold maxLen at h2; omega
def InsRes (w : World) (v : Value) (N n : Nat) (fs : List Fct) (e : Ending) (w' : World) : Prop := ∃ (B : Option Addr) (d : Nat), e = .returned (.slice B (n + 1) d) ∧ w'.ownsRow N 122 5 (.slice B (n + 1) d) (n + 1) (flat encF fs) ∧ RowKit.Below N w w' ∧ ∀ k, k < w.heap.size → some k ≠ v.ownBlock → w'.heap[k]? = w.heap[k]?

set_option maxRecDepth 100000 in
set_option maxHeartbeats 4000000 in
theorem insert_end (N : Nat) (B : Option Addr) (n c : Nat) (fs : List Fct) (f : Fct) (vb : Nat) (w : World) (ho : w.ownsRow N 122 5 (.slice B n c) n (flat encF fs)) (hv : Bl w vb 122 (encF f).toArray) (hn : n ≤ 1000) (hN : N ≤ w.heap.size) :
    Calls Tryz.prog 112 #[.slice B n c, .int .i64 n, .slice (some ⟨vb, 0, none⟩) 1 1] w (InsRes w (.slice B n c) N n (fs ++ [f])) := by
  have HO := Lib.hid ho
  have HR : Hid (Rd w 5 (some ⟨vb, 0, none⟩) 1 (encF f)) := ⟨rfl, fun _ => ⟨vb, 0, rfl, hv.lt, fun j u hu => by rw [Nat.zero_add, hv.cell]; simpa using hu⟩⟩
  have HM : Hid (n + 1 ≤ maxLen ∧ (n + 1) * 40 ≤ 140737488355328) := ⟨by unfold maxLen; omega, by omega⟩
  have HN := Lib.hid hN
  have HON := Lib.hid (encF_one f)
  clear ho hv hN
  have hbd := own_boundsF HO.out
  go_enter Tryz.func112, Tryz.ntmps112
  go_wp2_with (at_builtin; refine wpList_append_rd _ rfl (.tmp 23) (.tmp 24) 52 rfl N 122 _ 5 40 Tryz.underlying52 infoF rfl (by decide) (.slice B n c) n (flat encF fs) rfl HO.out (some ⟨vb, 0, none⟩) 1 1 (encF f) rfl HR.out HON.out HM.out.1 HM.out.2 HN.out ?_; intro v6 w6 ho6 hg6 _; obtain ⟨B6, d6, rfl⟩ := own_slice ho6)
  all_goals go_ret
  all_goals exact ⟨B6, d6, rfl, by rw [flat_append, flat_one]; exact ho6, (Below.refl N w).grown hg6 HN.out (fun k hk => own_base HO.out k hk), fun k hk hne => hg6.block k hk (fun e => hne (by rw [e]; try (cases B <;> rfl)))⟩
theorem splice_shift {α : Type} (L X Y F : List α) (m : Nat) (hL : L.take m = X ++ Y) (hm : m + F.length ≤ L.length) : (splice (splice L (X.length + F.length) Y) X.length F).take (m + F.length) = X ++ (F ++ Y) := by
  have hXY : X.length + Y.length = m := by
    have := congrArg List.length hL
    simp at this; omega
  have hX : L.take X.length = X := by
    have := congrArg (List.take X.length) hL
    rw [List.take_take, Nat.min_eq_left (by omega)] at this
    simpa using this
  obtain ⟨A, hA⟩ : ∃ A, A = L.take (X.length + F.length) := ⟨_, rfl⟩
  have hAl : A.length = X.length + F.length := by rw [hA]; simp; omega
  have hAX : A.take X.length = X := by rw [hA, List.take_take, Nat.min_eq_left (by omega), hX]
  have e1 : splice L (X.length + F.length) Y = A ++ (Y ++ L.drop (X.length + F.length + Y.length)) := by rw [hA]; rfl
  rw [e1]
  have e2 : splice (A ++ (Y ++ L.drop (X.length + F.length + Y.length))) X.length F = X ++ (F ++ (Y ++ L.drop (X.length + F.length + Y.length))) := by
    show List.take _ _ ++ (F ++ List.drop _ _) = _
    rw [List.take_append_of_le_length (by omega), hAX, ← hAl, List.drop_left]
  rw [e2]
  have e3 : X ++ (F ++ (Y ++ L.drop (X.length + F.length + Y.length))) = (X ++ (F ++ Y)) ++ L.drop (X.length + F.length + Y.length) := by simp
  rw [e3]
  exact List.take_left' (by simp; omega)

theorem flat_take (fs : List Fct) (i : Nat) (hi : i ≤ fs.length) : flat encF fs = flat encF (fs.take i) ++ flat encF (fs.drop i) := by rw [← flat_append, List.take_append_drop]
theorem flat_oneF (fs : List Fct) : ∀ v ∈ flat encF fs, v.oneCell' = true := fun u hu => by
  obtain ⟨x, _, hx⟩ := List.mem_flatMap.1 hu
  exact encF_one x u hx

set_option maxRecDepth 100000 in
set_option maxHeartbeats 4000000 in
theorem insert_shift (N g n c i : Nat) (fs : List Fct) (f : Fct) (vb : Nat) (w : World) (ho : w.ownsRow N 122 5 (.slice (some ⟨g, 0, none⟩) n c) n (flat encF fs)) (hl : fs.length = n) (hv : Bl w vb 122 (encF f).toArray) (hvg : vb ≠ g) (hi : i < n) (hc : n + 1 ≤ c) (hn : n ≤ 1000) (hN : N ≤ w.heap.size) :
    Calls Tryz.prog 112 #[.slice (some ⟨g, 0, none⟩) n c, .int .i64 i, .slice (some ⟨vb, 0, none⟩) 1 1] w (InsRes w (.slice (some ⟨g, 0, none⟩) n c) N n (fs.take i ++ f :: fs.drop i)) := by
  obtain ⟨cur, hNg, hcur, hcs, hct⟩ : ∃ cur : List Value, N ≤ g ∧ w.heap[g]? = some (.cells cur.toArray 122 (0, 0)) ∧ cur.length = c * 5 ∧ cur.take (n * 5) = flat encF fs := by
    rcases ho.2 with ⟨hv, h0⟩ | ⟨g', cap, cur, hv, h1, h2, _, _, h3, h4⟩
    · cases hv
    · injection hv with h5 _ h6
      injection h5 with h5
      injection h5 with h5
      subst h5 h6
      exact ⟨cur.toList, h1, by simpa using h2, by simpa using h3, h4⟩
  have hbd := own_boundsF ho
  have hov : ∀ lb cb, (callFunc 154 #[.slice (some ⟨vb, 0, none⟩) 1 1, .slice (some ⟨g, (i + 1) * 5, none⟩) lb cb]).run Tryz.prog w = .ok (.value (.bool false)) w := fun lb cb => by
    rw [run_callFunc_extern Tryz.func154 (by kernel_rfl) (by kernel_rfl) (by kernel_rfl) (e := Extern.SlicesOverlaps.overlaps #[52, 52] #[4]) (by kernel_rfl),
      Lib.run_overlaps_apart w 52 4 122 Tryz.underlying52 5 Tryz.sizeOf122 ⟨vb, 0, none⟩ ⟨g, (i + 1) * 5, none⟩ 1 1 lb cb hvg 122 122 5 (c * 5) (by rw [World.shape?, show w.heap[vb]? = _ from hv]; rfl) (by simp [World.shape?, hcur, hcs]) (by omega) (hv.free _) (hv.free _)]
    rfl
  obtain ⟨X, hX⟩ : ∃ X, X = flat encF (fs.take i) := ⟨_, rfl⟩
  obtain ⟨Y, hY⟩ : ∃ Y, Y = flat encF (fs.drop i) := ⟨_, rfl⟩
  obtain ⟨F, hF⟩ : ∃ F, F = encF f := ⟨_, rfl⟩
  have hXl : X.length = i * 5 := by rw [hX, flat_length encF_len, List.length_take]; omega
  have hYl : Y.length = (n - i) * 5 := by rw [hY, flat_length encF_len, List.length_drop, hl]
  have hFl : F.length = 5 := by rw [hF]; rfl
  rw [flat_take fs i (by omega), ← hX, ← hY] at hct
  have hY1 : ∀ v ∈ Y, v.oneCell' = true := by rw [hY]; exact flat_oneF _
  have hF1 : ∀ v ∈ F, v.oneCell' = true := by rw [hF]; exact encF_one f
  have HSY : Hid (∀ j v, Y[j]? = some v → w.cell? ((⟨g, i * 5, none⟩ : Addr).add j) = some v) := by
    intro j v hj
    rw [Addr.add_lit, cell_of_row w g _ cur.toArray _ (0, 0) hcur]
    have h1 : (X ++ Y)[i * 5 + j]? = some v := by rw [List.getElem?_append_right (by omega), hXl]; rw [show i * 5 + j - i * 5 = j by omega]; exact hj
    rw [← hct] at h1
    rw [List.getElem?_take] at h1
    split at h1
    · simpa using h1
    · cases h1
  have HC := Lib.hid hcur
  have HRES : Hid (∀ w', w'.heap[g]? = some (.cells (splice (splice cur ((i + 1) * 5) Y) (i * 5) F).toArray 122 (0, 0)) → RowKit.Below N w w' → (∀ k, k ≠ g → w'.heap[k]? = w.heap[k]?) → InsRes w (.slice (some ⟨g, 0, none⟩) n c) N n (fs.take i ++ f :: fs.drop i) (.returned (.slice (some ⟨g, 0, none⟩) (n + 1) c)) w') := by
    intro w' hw' hb hoth
    have hsp := splice_shift cur X Y F (n * 5) hct (by omega)
    rw [hFl, hXl, show i * 5 + 5 = (i + 1) * 5 by omega] at hsp
    refine ⟨some ⟨g, 0, none⟩, c, rfl, ⟨?_, Or.inr ⟨g, c, _, rfl, hNg, hw', hc, by unfold maxLen; omega, ?_, ?_⟩⟩, hb, fun k _ hne => hoth k (fun e => hne (by rw [e]; rfl))⟩
    · rw [flat_length encF_len]; simp; omega
    · rw [List.size_toArray, length_splice _ _ _ (by rw [length_splice _ _ _ (by omega)]; omega), length_splice _ _ _ (by omega), hcs]
    · rw [List.toList_toArray, show (n + 1) * 5 = n * 5 + 5 by omega, hsp, flat_append, ← hX, show f :: fs.drop i = [f] ++ fs.drop i from rfl, flat_append, flat_one, ← hY, hF]
  have HV := Lib.hid hv
  have HLEN : Hid ((i + 1) * 5 + Y.length ≤ cur.length ∧ i * 5 + F.length ≤ (splice cur ((i + 1) * 5) Y).length) := ⟨by omega, by rw [length_splice _ _ _ (by omega)]; omega⟩
  have hinf : (Tryz.prog.info? 122).map (·.size) = some 5 := by kernel_rfl
  have HINF := Lib.hid hinf
  have HFc : Hid (∀ w', Over w w' g → ∀ j v, F[j]? = some v → w'.cell? ((⟨vb, 0, none⟩ : Addr).add j) = some v) := by
    intro w' hw' j v hj
    rw [Addr.add_lit, Nat.zero_add]
    have : Bl w' vb 122 (encF f).toArray := (hw'.other vb hvg).trans hv
    rw [this.cell, ← hF]; simpa using hj
  have HNg := Lib.hid hNg
  have z1 : ¬ ((i : Int) = (n : Int)) := by omega
  have z2 : ¬ ((c : Int) < (n : Int) + 1) := by omega
  clear ho hl hv hcur hcs hct hX hY hF hinf hNg
  go_enter Tryz.func112, Tryz.ntmps112
  go_wp2_with (simp only [hov])
  have HMN : Hid (Y.length = Nat.min (n + 1 - i) (n - i) * 5) := by show _ = _; rw [hYl, show Nat.min (n + 1 - i) (n - i) = n - i from Nat.min_eq_right (by omega)]
  have HMF : Hid (F.length = Nat.min 1 (n + 1 - i) * 5) := by show _ = _; rw [hFl, show Nat.min 1 (n + 1 - i) = 1 from Nat.min_eq_left (by omega)]
  have hin : i ≤ n := by omega
  have mixed : Tryz.prog.follows Departure.mixedOrders = true := rfl
  have hw1 : IntKind.i64.wrap ((i : Int) + 1) = (i : Int) + 1 := by rw [IntKind.wrap_i64]; omega
  have htn : ((i : Int) + 1).toNat = i + 1 := by omega
  have hb2 : ¬ (c = i + 1) := by omega
  have hb3 : (i : Int) ≤ (n : Int) + 1 := by omega
  have hb4 : ¬ (c = i) := by omega
  have hb5 : (0 : Int) ≤ (i : Int) + 1 := by omega
  go_region_law_o (refine step_copyK rfl (.tmp 73) (.tmp 76) 52 52 rfl 122 5 Tryz.underlying52 HINF.out g ((i + 1) * 5) (n - i) (c - (i + 1)) ⟨g, i * 5, none⟩ (n + 1 - i) (c - i) (by simp [Act.eval, Act.put]) (by simp [Act.eval, Act.put]) cur 122 HC.out Y HMN.out HSY.out HLEN.out.1 hY1 ?_; intro w1 HC1 hO1)
  have HF2 := Lib.hid (HFc.out w1 ⟨hO1.os, hO1.tape, hO1.output, hO1.size, hO1.other⟩)
  have HB1 : Hid (RowKit.Below N w w1) := (show Over w w1 g from ⟨hO1.os, hO1.tape, hO1.output, hO1.size, hO1.other⟩).below HNg.out
  have HO1 := Lib.hid hO1.other
  clear hO1
  obtain ⟨w2, hcp, HC2, hO2⟩ : ∃ w2, (Builtin.copy_ #[52, 52] 3 #[.slice (some ⟨g, i * 5, none⟩) (n + 1 - i) (c - i), .slice (some ⟨vb, 0, none⟩) 1 1]).run Tryz.prog w1 = .ok (goInt (Nat.min 1 (n + 1 - i))) w2 ∧ Hid (w2.heap[g]? = some (.cells (splice (splice cur ((i + 1) * 5) Y) (i * 5) F).toArray 122 (0, 0))) ∧ Over w1 w2 g :=
    ⟨_, run_copy_rowK w1 _ _ _ 122 5 g (i * 5) _ _ _ _ _ _ 122 F Tryz.underlying52 HINF.out HC1.out HMF.out HF2.out HLEN.out.2 hF1, setRow_heap w1 g _ _ _ _ HC1.out, over_setRow w1 g _⟩
  go_wp2_with (simp only [hcp])
  go_ret
  exact HRES.out _ HC2.out (HB1.out.trans (hO2.below HNg.out)) (fun k hk => (hO2.other k hk).trans (HO1.out k hk))

end Go.Proofs.YtdbcbbiplkikcaaGreat

namespace Go.Proofs.YtdbcbbiplkikcaaGreat
open Go.RowKit Go.Shelf
set_option linter.unusedVariables false

theorem splice_grow {α : Type} (R X Y F : List α) (hX : R.take X.length = X) (h : X.length + F.length + Y.length ≤ R.length) : (splice (splice R X.length F) (X.length + F.length) Y).take (X.length + F.length + Y.length) = X ++ (F ++ Y) := by
  have e1 : splice R X.length F = (X ++ F) ++ R.drop (X.length + F.length) := by
    show R.take X.length ++ (F ++ R.drop (X.length + F.length)) = _
    rw [hX]; simp
  rw [e1]
  have e2 : splice ((X ++ F) ++ R.drop (X.length + F.length)) (X.length + F.length) Y = (X ++ (F ++ Y)) ++ List.drop (X.length + F.length + Y.length) ((X ++ F) ++ R.drop (X.length + F.length)) := by
    show List.take _ _ ++ (Y ++ List.drop _ _) = _
    rw [List.take_left' (by simp)]; simp
  rw [e2]
  exact List.take_left' (by simp; omega)

set_option maxRecDepth 100000 in
set_option maxHeartbeats 4000000 in
theorem insert_grow (N g n c i : Nat) (fs : List Fct) (f : Fct) (vb : Nat) (w : World) (ho : w.ownsRow N 122 5 (.slice (some ⟨g, 0, none⟩) n c) n (flat encF fs)) (hl : fs.length = n) (hv : Bl w vb 122 (encF f).toArray) (hi : i < n) (hc : c < n + 1) (hn : n ≤ 1000) (hN : N ≤ w.heap.size) :
    Calls Tryz.prog 112 #[.slice (some ⟨g, 0, none⟩) n c, .int .i64 i, .slice (some ⟨vb, 0, none⟩) 1 1] w (InsRes w (.slice (some ⟨g, 0, none⟩) n c) N n (fs.take i ++ f :: fs.drop i)) := by
  have hbd := own_boundsF ho
  have hrc := Recs.of_own encF_len ho hl
  have hcell := Recs.cells encF_len (by omega) hrc
  have hgw : g < w.heap.size := by
    obtain ⟨b', off', e, hb, _⟩ := hrc.2 (by omega)
    injection e with e; injection e with e; subst e; exact hb
  obtain ⟨X, hX⟩ : ∃ X, X = flat encF (fs.take i) := ⟨_, rfl⟩
  obtain ⟨Y, hY⟩ : ∃ Y, Y = flat encF (fs.drop i) := ⟨_, rfl⟩
  obtain ⟨F, hF⟩ : ∃ F, F = encF f := ⟨_, rfl⟩
  have hXl : X.length = i * 5 := by rw [hX, flat_length encF_len, List.length_take]; omega
  have hYl : Y.length = (n - i) * 5 := by rw [hY, flat_length encF_len, List.length_drop, hl]
  have hFl : F.length = 5 := by rw [hF]; rfl
  rw [flat_take fs i (by omega), ← hX, ← hY] at hcell
  have hY1 : ∀ v ∈ Y, v.oneCell' = true := by rw [hY]; exact flat_oneF _
  have hF1 : ∀ v ∈ F, v.oneCell' = true := by rw [hF]; exact encF_one f
  obtain ⟨i0, hi0, hz0, hz1, hz2⟩ := info_parts infoF
  have hold : (Builtin.firstCells i0.size i (.slice (some ⟨g, 0, none⟩) i c)).run Tryz.prog w.drew = .ok X.toArray w.drew := by
    rw [hz1]
    exact run_firstCells_some w.drew 5 i ⟨g, 0, none⟩ i c X (by omega) (fun j v hj => by
      rw [Addr.add_lit]
      have hj2 : j < X.length := by
        rcases Nat.lt_or_ge j X.length with h | h
        · exact h
        · rw [List.getElem?_eq_none h] at hj; cases hj
      exact hcell j v (by rw [List.getElem?_append_left hj2]; exact hj))
  have hkk : (n : Int) + 1 - (i : Int) = ((n + 1 - i : Nat) : Int) := by omega
  have hik : i + (n + 1 - i) = n + 1 := by omega
  obtain ⟨G, W1, R, hrz, HR, HRl, HRx, hGn, hG63, HB⟩ : ∃ (G : Nat) (W1 : World) (R : List Value), (∀ ty, (Builtin.append_ #[52, 3] ty #[.slice (some ⟨g, 0, none⟩) i c, .int .i64 ((n : Int) + 1 - (i : Int))]).run Tryz.prog w = .ok (.slice (some ⟨w.heap.size, 0, none⟩) (n + 1) G) W1) ∧
      Hid (W1.heap[w.heap.size]? = some (.cells R.toArray 122 (0, 0))) ∧ Hid (R.length = G * 5) ∧ Hid (R.take X.length = X) ∧ n + 1 ≤ G ∧ G ≤ 9223372036854775807 ∧ Hid (RowKit.Below w.heap.size w W1) := by
    have h := fun ty => Lib.run_append_grow_zeros w 52 3 ty 122 i0 _ .i64 .i64 Tryz.underlying52 Tryz.underlying3 hi0 hz0 (some ⟨g, 0, none⟩) i c X hold (n + 1 - i) (by omega) (by omega) (by omega) (by omega) (by rw [hz2]; omega) (by rw [hz2, hik]; exact growslice_fits hc (by omega))
    rw [hik] at h
    have hG := grownCap_le_maxLen w (n + 1) c 122 (by unfold maxLen; omega)
    unfold maxLen at hG
    refine ⟨grownCap w (n + 1) c 122, _, X ++ ((Builtin.zeroCells (Value.agg #[.int .i64 0, .int .i64 0, .int .i64 0, .int .i64 0, .int .i64 0]).cells (n + 1 - i)).toList ++ (Builtin.zeroCells (Value.agg #[.int .i64 0, .int .i64 0, .int .i64 0, .int .i64 0, .int .i64 0]).cells (grownCap w (n + 1) c 122 - (n + 1))).toList), fun ty => by rw [hkk]; exact h ty, ?_, ?_, List.take_left' rfl, grownCap_ge w _ _ _, by omega, ?_⟩
    · show _ = _
      refine (heap_alloc_new w.drew _).trans ?_
      simp
    · have := grownCap_ge w (n + 1) c 122
      show _ = _
      simp [Builtin.zeroCells, Value.cells, hXl]
      omega
    · exact (Below.refl _ _).drew.alloc (Nat.le_refl _) _
  have hinf : (Tryz.prog.info? 122).map (·.size) = some 5 := by rw [hi0]; simp [hz1]
  have hvw := hv.lt
  have hv1 : Bl W1 vb 122 (encF f).toArray := hv.keep HB.out
  have HMF : Hid (F.length = Nat.min 1 (n + 1 - i) * 5) := by show _ = _; rw [hFl, show Nat.min 1 (n + 1 - i) = 1 from Nat.min_eq_left (by omega)]
  have HMN : Hid (Y.length = Nat.min (n - i) (n - i) * 5) := by show _ = _; rw [hYl, show Nat.min (n - i) (n - i) = n - i from Nat.min_self _]
  have hRl := HRl.out
  obtain ⟨w2, hcp, HC2, hO2⟩ : ∃ w2, (Builtin.copy_ #[52, 52] 3 #[.slice (some ⟨w.heap.size, i * 5, none⟩) (n + 1 - i) (G - i), .slice (some ⟨vb, 0, none⟩) 1 1]).run Tryz.prog W1 = .ok (goInt (Nat.min 1 (n + 1 - i))) w2 ∧ Hid (w2.heap[w.heap.size]? = some (.cells (splice R (i * 5) F).toArray 122 (0, 0))) ∧ Over W1 w2 w.heap.size :=
    ⟨_, run_copy_rowK W1 _ _ _ 122 5 w.heap.size (i * 5) _ _ _ _ _ _ 122 F Tryz.underlying52 hinf HR.out HMF.out (fun j v hj => by rw [Addr.add_lit, Nat.zero_add, hv1.cell, ← hF]; simpa using hj) (by omega) hF1, setRow_heap W1 w.heap.size _ _ _ _ HR.out, over_setRow W1 w.heap.size _⟩
  have HB2 : Hid (RowKit.Below w.heap.size w w2) := HB.out.trans (hO2.below (Nat.le_refl _))
  have HSY : Hid (∀ j v, Y[j]? = some v → w2.cell? ((⟨g, i * 5, none⟩ : Addr).add j) = some v) := by
    intro j v hj
    rw [Addr.add_lit, HB2.out.cell (p := ⟨g, i * 5 + j, none⟩) hgw]
    have := hcell (i * 5 + j) v (by rw [List.getElem?_append_right (by omega), hXl, show i * 5 + j - i * 5 = j by omega]; exact hj)
    rwa [Nat.zero_add] at this
  have HLEN : Hid ((i + 1) * 5 + Y.length ≤ (splice R (i * 5) F).length) := by show _ ≤ _; rw [length_splice _ _ _ (by omega)]; omega
  have HRES : Hid (∀ w', w'.heap[w.heap.size]? = some (.cells (splice (splice R (i * 5) F) ((i + 1) * 5) Y).toArray 122 (0, 0)) → RowKit.Below w.heap.size w w' → InsRes w (.slice (some ⟨g, 0, none⟩) n c) N n (fs.take i ++ f :: fs.drop i) (.returned (.slice (some ⟨w.heap.size, 0, none⟩) (n + 1) G)) w') := by
    intro w' hw' hb
    have hsp := splice_grow R X Y F HRx.out (by omega)
    rw [hFl, hXl, show i * 5 + 5 = (i + 1) * 5 by omega, show (i + 1) * 5 + Y.length = (n + 1) * 5 by omega] at hsp
    refine ⟨some ⟨w.heap.size, 0, none⟩, G, rfl, ⟨?_, Or.inr ⟨w.heap.size, G, _, rfl, hN, hw', hGn, by unfold maxLen; omega, ?_, ?_⟩⟩, hb.mono hN, fun k hk _ => hb.block k hk⟩
    · rw [flat_length encF_len]; simp; omega
    · rw [List.size_toArray, length_splice _ _ _ HLEN.out, length_splice _ _ _ (by omega), hRl]
    · rw [List.toList_toArray, hsp, flat_append, ← hX, show f :: fs.drop i = [f] ++ fs.drop i from rfl, flat_append, flat_one, ← hY, hF]
  have HINF := Lib.hid hinf
  have z1 : ¬ ((i : Int) = (n : Int)) := by omega
  have z2 : (c : Int) < (n : Int) + 1 := by omega
  have hin : i ≤ n := by omega
  have mixed : Tryz.prog.follows Departure.mixedOrders = true := rfl
  have hw1 : IntKind.i64.wrap ((i : Int) + 1) = (i : Int) + 1 := by rw [IntKind.wrap_i64]; omega
  have htn : ((i : Int) + 1).toNat = i + 1 := by omega
  have hb2 : ¬ (G = i + 1) := by omega
  have hb3 : (i : Int) ≤ (n : Int) := by omega
  have hb4 : ¬ (c = i) := by omega
  have hb5 : (0 : Int) ≤ (i : Int) + 1 := by omega
  have hb6 : ¬ (G = i) := by omega
  clear ho hl hv hX hY hF hinf hrc hcell hold hkk hik hRl hv1 hi0 hz0 hz1 hz2 HR HRl HRx
  go_enter Tryz.func112, Tryz.ntmps112
  go_wp2_with (first | (at_builtin; refine Lib.wpList_append_run _ rfl _ _ _ _ rfl _ _ rfl rfl _ _ (hrz _) ?_) | simp only [hcp])
  go_region_law_o (refine step_copyK rfl (.tmp 50) (.tmp 53) 52 52 rfl 122 5 Tryz.underlying52 HINF.out w.heap.size ((i + 1) * 5) (n - i) (G - (i + 1)) ⟨g, i * 5, none⟩ (n - i) (c - i) (by simp [Act.eval, Act.put]) (by simp [Act.eval, Act.put]) (splice R (i * 5) F) 122 HC2.out Y HMN.out HSY.out HLEN.out hY1 ?_; intro w3 HC3 hO3)
  have HB3 : Hid (RowKit.Below w.heap.size w w3) := HB2.out.trans ((show Over w2 w3 w.heap.size from ⟨hO3.os, hO3.tape, hO3.output, hO3.size, hO3.other⟩).below (Nat.le_refl _))
  go_wp2
  go_ret
  exact HRES.out _ HC3.out HB3.out
theorem insert_any (N : Nat) (B : Option Addr) (n c i : Nat) (fs : List Fct) (f : Fct) (vb : Nat) (w : World) (ho : w.ownsRow N 122 5 (.slice B n c) n (flat encF fs)) (hl : fs.length = n) (hv : Bl w vb 122 (encF f).toArray) (hvg : ∀ a, B = some a → vb ≠ a.block) (hi : i ≤ n) (hn : n ≤ 1000) (hN : N ≤ w.heap.size) :
    Calls Tryz.prog 112 #[.slice B n c, .int .i64 i, .slice (some ⟨vb, 0, none⟩) 1 1] w (InsRes w (.slice B n c) N n (fs.take i ++ f :: fs.drop i)) := by
  rcases Nat.lt_or_ge i n with h | h
  · obtain ⟨g, rfl⟩ : ∃ g, B = some ⟨g, 0, none⟩ := by
      rcases ho.2 with ⟨hv, h0⟩ | ⟨g', cap, cur, hv, _⟩
      · omega
      · injection hv with h5; exact ⟨g', h5⟩
    rcases Nat.lt_or_ge c (n + 1) with h2 | h2
    · exact insert_grow N g n c i fs f vb w ho hl hv h h2 hn hN
    · exact insert_shift N g n c i fs f vb w ho hl hv (hvg _ rfl) h h2 hn hN
  · obtain rfl : i = n := by omega
    have := insert_end N B i c fs f vb w ho hv hn hN
    rwa [List.take_of_length_le (by omega), List.drop_eq_nil_of_le (by omega)]
end Go.Proofs.YtdbcbbiplkikcaaGreat

namespace Go.Proofs.YtdbcbbiplkikcaaGreat
open Go.RowKit Go.Shelf
set_option linter.unusedVariables false

theorem sorted_ext {α : Type} [Inhabited α] (lt : α → α → Prop) (hirr : ∀ a, ¬ lt a a) (htr : ∀ a b c, lt a b → lt b c → lt a c) : ∀ (xs ys : List α), xs.Pairwise lt → ys.Pairwise lt → (∀ a, a ∈ xs ↔ a ∈ ys) → xs = ys
  | [], [], _, _, _ => rfl
  | [], y :: ys, _, _, h => by have := (h y).2 (by simp); cases this
  | x :: xs, [], _, _, h => by have := (h x).1 (by simp); cases this
  | x :: xs, y :: ys, hx, hy, h => by
    have hx' := List.pairwise_cons.1 hx
    have hy' := List.pairwise_cons.1 hy
    have e : x = y := by
      have h1 := (h x).1 (by simp)
      have h2 := (h y).2 (by simp)
      rcases List.mem_cons.1 h1 with e | h1
      · exact e
      · rcases List.mem_cons.1 h2 with e | h2
        · exact e.symm
        · exact absurd (htr _ _ _ (hx'.1 y h2) (hy'.1 x h1)) (hirr x)
    subst e
    rw [sorted_ext lt hirr htr xs ys hx'.2 hy'.2]
    intro a
    constructor
    · intro ha
      rcases List.mem_cons.1 ((h a).1 (List.mem_cons_of_mem _ ha)) with e | h1
      · subst e; exact absurd (hx'.1 a ha) (hirr a)
      · exact h1
    · intro ha
      rcases List.mem_cons.1 ((h a).2 (List.mem_cons_of_mem _ ha)) with e | h1
      · subst e; exact absurd (hy'.1 a ha) (hirr a)
      · exact h1
theorem pairwise_of_get {α : Type} [Inhabited α] {lt : α → α → Prop} {xs : List α} (h : ∀ i j, i < j → j < xs.length → lt xs[i]! xs[j]!) : xs.Pairwise lt := by
  rw [List.pairwise_iff_getElem]
  intro i j hi hj hij
  have := h i j hij hj
  rwa [getElem!_pos xs i hi, getElem!_pos xs j hj] at this

theorem ReqList.unique {fs : List Fct} {rs rs' : List Rq} (h : ReqList fs rs) (h' : ReqList fs rs') : rs = rs' := by
  have aux : ∀ {us vs : List Rq}, ReqList fs us → ReqList fs vs → ∀ a, a ∈ us → a ∈ vs := fun ha hb a hm => by
    obtain ⟨r, hr, e⟩ := (hb.mem a.id).2 ((ha.mem a.id).1 ⟨a, hm, rfl⟩)
    have e1 := ha.val a hm
    have e2 := hb.val r hr
    rw [e, ← e1] at e2
    rw [← e2]; exact hr
  refine sorted_ext (fun a b : Rq => a.day < b.day ∨ (a.day = b.day ∧ a.id < b.id)) (fun a => by omega) (fun a b c => by omega) rs rs' (pairwise_of_get h.srt) (pairwise_of_get h'.srt) (fun a => ⟨aux h h' a, aux h' h a⟩)

def Settled (fs : List Fct) (vol : Int) (gs : List Rq) (bal : Int) : Prop := ∃ (rs : List Rq) (F : (Nat → Rq) × Int × Int), ReqList fs rs ∧ F = runS (trSum (trOf fs)) rs.length rs.length 0 0 vol (fun i => rs[i]!) ∧ gs.Perm ((List.range rs.length).map F.1) ∧ (∀ i j, i < j → j < gs.length → gs[i]!.id < gs[j]!.id) ∧ bal = F.2.2 + (trAll (trOf fs) - F.2.1)
theorem Settled.unique {fs : List Fct} {vol : Int} {gs gs' : List Rq} {b b' : Int} (h : Settled fs vol gs b) (h' : Settled fs vol gs' b') : gs = gs' ∧ b = b' := by
  obtain ⟨rs, F, h1, h2, h3, h4, h5⟩ := h
  obtain ⟨rs', F', h1', h2', h3', h4', h5'⟩ := h'
  obtain rfl := h1.unique h1'
  subst h2 h2'
  refine ⟨?_, by rw [h5, h5']⟩
  exact sorted_ext (fun a b : Rq => a.id < b.id) (fun a => by omega) (fun a b c => by omega) gs gs' (pairwise_of_get h4) (pairwise_of_get h4') (fun a => (h3.mem_iff).trans (h3'.mem_iff).symm)
theorem SetRes.settled {w : World} {fs : List Fct} {vol : Int} {e : Ending} {w' : World} (h : SetRes w fs vol e w') : ∃ (B : Option Addr) (m d : Nat) (gs : List Rq) (bal : Int), e = .returned (.tuple #[.slice B m d, .int .i64 bal]) ∧ Settled fs vol gs bal ∧ gs.length = m ∧ m ≤ fs.length ∧ w'.ownsRow w.heap.size 264 6 (.slice B m d) m (flat encR gs) ∧ RowKit.Below w.heap.size w w' := by
  obtain ⟨B, m, d, rs, gs, F, he, hr, hl, hm, hF, hp, hs, ho, hb⟩ := h
  have hg : gs.length = m := by rw [hp.length_eq]; simp
  subst hl
  exact ⟨B, _, d, gs, _, he, ⟨rs, F, hr, hF, hp, by rw [hg]; exact hs, rfl⟩, hg, hm, ho, hb⟩
end Go.Proofs.YtdbcbbiplkikcaaGreat

namespace Go.Proofs.YtdbcbbiplkikcaaGreat
set_option linter.unusedVariables false

theorem nonNeg_qs {xs : List (Int × Int)} (h : ∀ k, k < xs.length → 0 ≤ xs[k]!.2) : NonNeg (qsOf xs) := fun i => by
  rcases Nat.lt_or_ge i xs.length with hi | hi
  · rw [qsOf_get xs i hi]; exact h i hi
  · simp [qsOf, List.getD, List.getElem?_eq_none hi]
theorem grantV_bounds {t : Int} {xs : List (Int × Int)} (ht : 0 ≤ t) (h : ∀ k, k < xs.length → 0 ≤ xs[k]!.2) (i : Nat) (hi : i < xs.length) : 0 ≤ grantV t xs i ∧ grantV t xs i ≤ xs[i]!.2 := by
  have hq := nonNeg_qs h
  have hl : 0 < (qsOf xs).length := by rw [qsOf_len]; omega
  unfold grantV
  split
  · exact ⟨h i hi, Int.le_refl _⟩
  · refine ⟨share_nonneg hq ht hl i, ?_⟩
    have := share_le_weight hq hl ht (by omega) i (by rw [qsOf_len]; exact hi)
    rwa [qsOf_get xs i hi] at this
theorem grantV_sum {t : Int} {xs : List (Int × Int)} (h : ∀ k, k < xs.length → 0 ≤ xs[k]!.2) (hn : 0 < xs.length) : sumN xs.length (grantV t xs) = min (qsOf xs).sum t := by
  have hq := nonNeg_qs h
  have hl : 0 < (qsOf xs).length := by rw [qsOf_len]; omega
  by_cases e : (qsOf xs).sum ≤ t
  · rw [show sumN xs.length (grantV t xs) = sumN xs.length (fun i => (qsOf xs).getD i 0) from sumN_congr fun i hi => by unfold grantV; rw [if_pos e, qsOf_get xs i hi], ← qsOf_len xs, sumN_list]
    omega
  · rw [show sumN xs.length (grantV t xs) = sumN xs.length (shareI t (qsOf xs)) from sumN_congr fun i hi => by unfold grantV; rw [if_neg e], ← qsOf_len xs, sum_share hq hl]
    omega
def sumFrom (i n : Nat) (g : Nat → Int) : Int := sumN (n - i) (fun k => g (i + k))
theorem sumFrom_split {i e n : Nat} (h1 : i ≤ e) (h2 : e ≤ n) (g : Nat → Int) : sumFrom i n g = sumFrom i e g + sumFrom e n g := by
  unfold sumFrom
  obtain ⟨p, rfl⟩ : ∃ p, e = i + p := ⟨e - i, by omega⟩
  obtain ⟨q, rfl⟩ : ∃ q, n = i + p + q := ⟨n - (i + p), by omega⟩
  rw [show i + p + q - i = p + q by omega, show i + p - i = p by omega, show i + p + q - (i + p) = q by omega]
  clear h1 h2
  induction q with
  | zero => simp [sumN]
  | succ q ih => rw [← Nat.add_assoc, sumN_succ, ih, sumN_succ]; simp only [Nat.add_assoc, Int.add_assoc]
theorem sumFrom_congr {i n : Nat} {g h : Nat → Int} (e : ∀ j, i ≤ j → j < n → g j = h j) : sumFrom i n g = sumFrom i n h := sumN_congr fun k hk => e _ (by omega) (by omega)

theorem runS_law (T : Int → Int) (hT : ∀ x y, x ≤ y → T x ≤ T y) (n : Nat) : ∀ (m i : Nat) (tp a : Int) (f : Nat → Rq), n ≤ i + m → i ≤ n → 0 ≤ a → (i < n → tp ≤ T (f i).day) → (∀ p q, i ≤ p → p ≤ q → q < n → (f p).day ≤ (f q).day) → (∀ j, i ≤ j → j < n → 0 ≤ (f j).req) →
    (∀ j, j < i → (runS T n m i tp a f).1 j = f j) ∧
    (∀ j, ((runS T n m i tp a f).1 j).id = (f j).id ∧ ((runS T n m i tp a f).1 j).day = (f j).day ∧ ((runS T n m i tp a f).1 j).req = (f j).req) ∧
    (∀ j, i ≤ j → j < n → 0 ≤ ((runS T n m i tp a f).1 j).grant ∧ ((runS T n m i tp a f).1 j).grant ≤ (f j).req) ∧
    0 ≤ (runS T n m i tp a f).2.2 ∧
    sumFrom i n (fun j => ((runS T n m i tp a f).1 j).grant) + (runS T n m i tp a f).2.2 - (runS T n m i tp a f).2.1 = a - tp := by
  intro m
  induction m with
  | zero =>
    intro i tp a f h1 h2 h3 h4 h5 h6
    obtain rfl : i = n := by omega
    refine ⟨fun _ _ => rfl, fun _ => ⟨rfl, rfl, rfl⟩, fun j _ _ => by omega, h3, ?_⟩
    show sumFrom i i _ + a - tp = a - tp
    unfold sumFrom; rw [Nat.sub_self, sumN_zero]; omega
  | succ m ih =>
    intro i tp a f h1 h2 h3 h4 h5 h6
    by_cases hi : i < n
    · obtain ⟨D, hD⟩ : ∃ D, (f i).day = D := ⟨_, rfl⟩
      obtain ⟨e, he⟩ : ∃ e, endAt f D n n i = e := ⟨_, rfl⟩
      rw [runS_step hi hD he]
      have hei : i + 1 ≤ e := by
        rw [← he]
        cases n with
        | zero => omega
        | succ n' => rw [endAt_step hi hD]; exact endAt_ge _ _ _ _ _
      have hen : e ≤ n := by rw [← he]; exact endAt_le _ _ _ _ _ h2
      obtain ⟨t, ht⟩ : ∃ t, a + (T D - tp) = t := ⟨_, rfl⟩
      have ht0 : 0 ≤ t := by have := h4 hi; rw [hD] at this; omega
      rw [ht]
      obtain ⟨xs, hxs⟩ : ∃ xs, dayReqs f i (e - i) = xs := ⟨_, rfl⟩
      have hxl : xs.length = e - i := by rw [← hxs, dayReqs_len]
      have hx0 : ∀ k, k < xs.length → 0 ≤ xs[k]!.2 := fun k hk => by
        rw [← hxs, dayReqs_get f i (e - i) k (by omega)]; exact h6 _ (by omega) (by omega)
      obtain ⟨f1, hf1⟩ : ∃ f1, grantedF f i (e - i) t (e - i) = f1 := ⟨_, rfl⟩
      have hin : ∀ j, i ≤ j → j < e → f1 j = { f j with avail := t, asked := (qsOf xs).sum, grant := grantV t xs (j - i) } := fun j q1 q2 => by
        rw [← hf1]; unfold grantedF; rw [if_pos (by omega), hxs]
      have hout : ∀ j, (j < i ∨ e ≤ j) → f1 j = f j := fun j q => by
        rw [← hf1]; unfold grantedF; rw [if_neg (by omega)]
      have hsame : ∀ j, (f1 j).id = (f j).id ∧ (f1 j).day = (f j).day ∧ (f1 j).req = (f j).req := fun j => by
        by_cases q : i ≤ j ∧ j < e
        · rw [hin j q.1 q.2]; exact ⟨rfl, rfl, rfl⟩
        · rw [hout j (by omega)]; exact ⟨rfl, rfl, rfl⟩
      rw [hxs, hf1]
      obtain ⟨r1, r2, r3, r4, r5⟩ := ih e (T D) (max (t - (qsOf xs).sum) 0) f1 (by omega) hen (by omega) (fun he2 => by
          rw [(hsame e).2.1]
          refine hT _ _ ?_
          rw [← hD]; exact h5 i e (Nat.le_refl _) (by omega) he2)
        (fun p q q1 q2 q3 => by rw [(hsame p).2.1, (hsame q).2.1]; exact h5 p q (by omega) q2 q3)
        (fun j q1 q2 => by rw [(hsame j).2.2]; exact h6 j (by omega) q2)
      have hgs : sumFrom i e (fun j => (f1 j).grant) = min (qsOf xs).sum t := by
        rw [← grantV_sum hx0 (by omega), hxl]
        unfold sumFrom
        exact sumN_congr fun k hk => by show (f1 (i + k)).grant = _; rw [hin (i + k) (by omega) (by omega)]; show grantV t xs (i + k - i) = _; rw [Nat.add_sub_cancel_left]
      refine ⟨fun j hj => by rw [r1 j (by omega), hout j (by omega)], fun j => ?_, fun j q1 q2 => ?_, r4, ?_⟩
      · rw [(r2 j).1, (r2 j).2.1, (r2 j).2.2]; exact hsame j
      · by_cases q : j < e
        · rw [r1 j q, hin j q1 q]
          have := grantV_bounds ht0 hx0 (j - i) (by omega)
          rw [show xs[j - i]!.2 = (f j).req by rw [← hxs, dayReqs_get f i (e - i) (j - i) (by omega), show i + (j - i) = j by omega]] at this
          exact this
        · have := r3 j (by omega) q2
          rwa [(hsame j).2.2] at this
      · rw [sumFrom_split (show i ≤ e by omega) hen, sumFrom_congr (i := i) (n := e) (h := fun j => (f1 j).grant) (fun j _ q => by rw [r1 j q]), hgs]
        omega
    · obtain rfl : i = n := by omega
      rw [runS_end (by omega)]
      refine ⟨fun _ _ => rfl, fun _ => ⟨rfl, rfl, rfl⟩, fun j _ _ => by omega, h3, ?_⟩
      show sumFrom i i _ + a - tp = a - tp
      unfold sumFrom; rw [Nat.sub_self, sumN_zero]; omega
end Go.Proofs.YtdbcbbiplkikcaaGreat

namespace Go.Proofs.YtdbcbbiplkikcaaGreat
set_option linter.unusedVariables false

theorem trSum_mono {ys : List Fct} (h : ∀ y ∈ ys, 0 ≤ y.qty) (x y : Int) (hxy : x ≤ y) : trSum ys x ≤ trSum ys y := by
  unfold trSum
  induction ys with
  | nil => simp
  | cons z zs ih =>
    have h1 := ih fun y hy => h y (List.mem_cons_of_mem _ hy)
    have h2 := h z (List.mem_cons_self ..)
    by_cases e1 : z.day ≤ x
    · simp [e1, show z.day ≤ y by omega]; exact h1
    · by_cases e2 : z.day ≤ y
      · simp [e1, e2]; omega
      · simp [e1, e2]; exact h1
theorem trSum_nonneg {ys : List Fct} (h : ∀ y ∈ ys, 0 ≤ y.qty) (x : Int) : 0 ≤ trSum ys x := by
  unfold trSum
  induction ys with
  | nil => simp
  | cons z zs ih =>
    have h1 := ih fun y hy => h y (List.mem_cons_of_mem _ hy)
    have h2 := h z (List.mem_cons_self ..)
    by_cases e1 : z.day ≤ x
    · simp [e1]; omega
    · simp [e1]; exact h1
theorem trSum_le {ys : List Fct} (h : ∀ y ∈ ys, 0 ≤ y.qty) (x : Int) : 0 ≤ trAll ys ∧ trSum ys x ≤ trAll ys := by
  unfold trSum trAll
  induction ys with
  | nil => simp
  | cons z zs ih =>
    have h1 := ih fun y hy => h y (List.mem_cons_of_mem _ hy)
    have h2 := h z (List.mem_cons_self ..)
    by_cases e1 : z.day ≤ x
    · simp [e1]; omega
    · simp [e1]; omega
theorem runS_tp (T : Int → Int) (n : Nat) : ∀ (m i : Nat) (tp a : Int) (f : Nat → Rq), (runS T n m i tp a f).2.1 = tp ∨ ∃ D, (runS T n m i tp a f).2.1 = T D := by
  intro m
  induction m with
  | zero => intro i tp a f; exact .inl rfl
  | succ m ih =>
    intro i tp a f
    by_cases hi : i < n
    · rw [runS_step hi rfl rfl]
      rcases ih (endAt f (f i).day n n i) (T (f i).day) _ _ with e | e
      · exact .inr ⟨_, e⟩
      · exact .inr e
    · rw [runS_end hi]; exact .inl rfl
structure SetLaw (fs : List Fct) (vol : Int) (gs : List Rq) (bal : Int) : Prop where
  each : ∀ g ∈ gs, 1 ≤ g.id ∧ g.id ≤ 1000000 ∧ 0 ≤ g.grant ∧ g.grant ≤ g.req ∧ g.req ≤ 1000000000 ∧ g.day = (rqOf fs g.id).day ∧ g.req = (rqOf fs g.id).req
  bal0 : 0 ≤ bal
  sum : (gs.map (·.grant)).sum + bal = vol + trAll (trOf fs)
theorem Settled.law {fs : List Fct} {vol : Int} {gs : List Rq} {bal : Int} (h : Settled fs vol gs bal) (hf : ∀ x ∈ fs, FOk x) (hi1 : ∀ x ∈ fs, x.kind = 1 → 1 ≤ x.id) (hv : 0 ≤ vol) : SetLaw fs vol gs bal := by
  obtain ⟨rs, F, h1, h2, h3, h4, h5⟩ := h
  have hq : ∀ y ∈ trOf fs, 0 ≤ y.qty := fun y hy => by
    have := hf y (List.mem_filter.1 hy).1
    unfold FOk at this; omega
  have hok := rq_ok h1 hf hi1
  obtain ⟨r1, r2, r3, r4, r5⟩ := runS_law (trSum (trOf fs)) (trSum_mono hq) rs.length rs.length 0 0 vol (fun i => rs[i]!) (by omega) (Nat.zero_le _) hv (fun _ => trSum_nonneg hq _) (fun p q _ h6 h7 => day_mono h1 h6 h7) (fun j _ hj => (hok j hj).2.2.1)
  rw [← h2] at r1 r2 r3 r4 r5
  have hle : F.2.1 ≤ trAll (trOf fs) := by
    rcases runS_tp (trSum (trOf fs)) rs.length rs.length 0 0 vol (fun i => rs[i]!) with e | ⟨D, e⟩
    · rw [← h2] at e; rw [e]; exact (trSum_le hq 0).1
    · rw [← h2] at e; rw [e]; exact (trSum_le hq D).2
  refine ⟨fun g hg => ?_, by omega, ?_⟩
  · obtain ⟨k, hk, rfl⟩ := List.mem_map.1 (h3.mem_iff.1 hg)
    have hk' := List.mem_range.1 hk
    have o := hok k hk'
    have q := r2 k
    have b := r3 k (Nat.zero_le _) hk'
    have hv := h1.val rs[k]! (by rw [getElem!_pos rs k hk']; exact List.getElem_mem _)
    refine ⟨by rw [q.1]; exact o.1, by rw [q.1]; exact o.2.1, b.1, by rw [q.2.2]; exact b.2, by rw [q.2.2]; exact o.2.2.2.1, by rw [q.2.1, q.1]; exact o.2.2.2.2, by rw [q.2.2, q.1]; exact congrArg Rq.req hv⟩
  · rw [sum_perm (h3.map (·.grant)), List.map_map]
    have : sumFrom 0 rs.length (fun j => (F.1 j).grant) = ((List.range rs.length).map ((·.grant) ∘ F.1)).sum := by
      unfold sumFrom sumN
      simp [Function.comp_def]
    omega
end Go.Proofs.YtdbcbbiplkikcaaGreat

namespace Go.Proofs.YtdbcbbiplkikcaaGreat
open Go.RowKit Go.Maps
set_option linter.unusedVariables false

theorem ownsMap_keep {H : Type} {P : Program} {k : TypeId} {R : Value → Option (DataW H × List MemPlace)} {w w' : World} {b n : Nat} {D : DataW H} (h : w.ownsMap P k R b n D) (hb : RowKit.Below w.heap.size w w') : w'.ownsMap P k R b n D := by
  have hl := h.lt
  obtain ⟨es, clock, h1, h2⟩ := h
  exact ⟨es, clock, (hb.block b hl).trans h1, h2⟩
def grOf (gs : List Rq) (id : Int) : Int := gs.foldl (fun a r => if r.id = id then r.grant else a) 0
theorem grOf_snoc (gs : List Rq) (r : Rq) (id : Int) : grOf (gs ++ [r]) id = if r.id = id then r.grant else grOf gs id := by simp [grOf, List.foldl_append]
structure Cg where
  id : Int
  before : Int
  after : Int
deriving Inhabited, DecidableEq
def encG (x : Cg) : List Value := [.int .i64 x.id, .int .i64 x.before, .int .i64 x.after]
theorem encG_len (x : Cg) : (encG x).length = 3 := rfl
theorem encG_one (x : Cg) : ∀ v ∈ encG x, v.oneCell' = true := fun v hv => by
  simp [encG] at hv
  rcases hv with rfl | rfl | rfl <;> rfl
def chgs (ga gb : List Rq) : List Cg := gb.filterMap fun r => if grOf ga r.id = r.grant then none else some ⟨r.id, grOf ga r.id, r.grant⟩
theorem chgs_snoc (ga gb : List Rq) (r : Rq) : chgs ga (gb ++ [r]) = chgs ga gb ++ if grOf ga r.id = r.grant then [] else [⟨r.id, grOf ga r.id, r.grant⟩] := by
  unfold chgs
  rw [List.filterMap_append]
  congr 1
  by_cases e : grOf ga r.id = r.grant <;> simp [e]
theorem Recs.getR {w : World} {A : Option Addr} {n : Nat} {xs : List Rq} (h : Recs encR 6 w A n xs) {i : Nat} (hi : i < n) :
    ∃ b off x, A = some ⟨b, off, none⟩ ∧ b < w.heap.size ∧ w.cell? ⟨b, off + i * 6, none⟩ = some (.int .i64 x.id) ∧ w.cell? ⟨b, off + i * 6 + 1, none⟩ = some (.int .i64 x.day) ∧ w.cell? ⟨b, off + i * 6 + 2, none⟩ = some (.int .i64 x.avail) ∧ w.cell? ⟨b, off + i * 6 + 3, none⟩ = some (.int .i64 x.asked) ∧ w.cell? ⟨b, off + i * 6 + 4, none⟩ = some (.int .i64 x.req) ∧ w.cell? ⟨b, off + i * 6 + 5, none⟩ = some (.int .i64 x.grant) ∧ Hid (xs[i]! = x) := by
  obtain ⟨b, off, e, hb, hc⟩ := h.at_ hi
  exact ⟨b, off, xs[i]!, e, hb, hc 0 (by omega), hc 1 (by omega), hc 2 (by omega), hc 3 (by omega), hc 4 (by omega), hc 5 (by omega), rfl⟩
theorem infoG3 : (Tryz.prog.info? 167).map (fun i => (i.zero, i.size, i.bytes)) = some (some (.agg #[.int .i64 0, .int .i64 0, .int .i64 0]), 3, 24) := by kernel_rfl
def ChgRes (w : World) (fa fb : List Fct) (va vb : Int) (e : Ending) (w' : World) : Prop := ∃ (B : Option Addr) (m d : Nat) (ga gb : List Rq) (ba bb : Int), e = .returned (.slice B m d) ∧ Settled fa va ga ba ∧ Settled fb vb gb bb ∧ (chgs ga gb).length = m ∧ w'.ownsRow w.heap.size 167 3 (.slice B m d) m (flat encG (chgs ga gb)) ∧ RowKit.Below w.heap.size w w'
structure FGood (fs : List Fct) (vol : Int) : Prop where
  len : fs.length ≤ 200
  ok : ∀ x ∈ fs, FOk x
  ids : ∀ x ∈ fs, x.kind = 1 → 1 ≤ x.id
  v0 : 0 ≤ vol
  v1 : vol ≤ 100000000000

set_option maxRecDepth 100000 in
set_option maxHeartbeats 8000000 in
theorem changes_any (qa va fra ta : Int) (A : Option Addr) (n c : Nat) (fa : List Fct) (qb vb frb tb : Int) (A2 : Option Addr) (n2 c2 : Nat) (fb : List Fct) (w : World) (h : Recs encF 5 w A n fa) (h2 : Recs encF 5 w A2 n2 fb) (hga : FGood fa va) (hgb : FGood fb vb) :
    Calls Tryz.prog 113 #[.agg #[.int .i64 qa, .int .i64 va, .int .i64 fra, .int .i64 ta, .slice A n c], .agg #[.int .i64 qb, .int .i64 vb, .int .i64 frb, .int .i64 tb, .slice A2 n2 c2]] w (ChgRes w fa fb va vb) := by
  have HGA := Lib.hid hga
  have HGB := Lib.hid hgb
  have hmm := @run_makeMap Tryz.prog
  obtain ⟨W0, hW0⟩ : ∃ W, W = (w.alloc (.cells #[.int .i64 qa, .int .i64 va, .int .i64 fra, .int .i64 ta, .slice A n c] 54)).alloc (.cells #[.int .i64 qb, .int .i64 vb, .int .i64 frb, .int .i64 tb, .slice A2 n2 c2] 54) := ⟨_, rfl⟩
  have hb0 : RowKit.Below w.heap.size w W0 := by rw [hW0]; exact ((Below.refl _ _).alloc (Nat.le_refl _) _).alloc (by simp) _
  have hx0 : Bl W0 w.heap.size 54 #[.int .i64 qa, .int .i64 va, .int .i64 fra, .int .i64 ta, .slice A n c] := by rw [hW0]; exact (Bl.new w _ _).alloc _
  have hy0 : Bl W0 (w.heap.size + 1) 54 #[.int .i64 qb, .int .i64 vb, .int .i64 frb, .int .i64 tb, .slice A2 n2 c2] := by rw [hW0]; have := Bl.new (w.alloc (.cells #[.int .i64 qa, .int .i64 va, .int .i64 fra, .int .i64 ta, .slice A n c] 54)) 54 #[.int .i64 qb, .int .i64 vb, .int .i64 frb, .int .i64 tb, .slice A2 n2 c2]; simpa using this
  have hra := h.below hb0
  have hrb := h2.below hb0
  have hW0s : W0.heap.size = w.heap.size + 2 := by rw [hW0]; simp
  clear h h2 hga hgb
  go_enter Tryz.func113, Tryz.ntmps113
  go_upto_region 1 with (fail)
  rw [← hW0]
  clear hW0
  have p0 : W0.cell? ⟨w.heap.size, 0, none⟩ = some (.int .i64 qa) := hx0.cell 0
  have p1 : W0.cell? ⟨w.heap.size, 1, none⟩ = some (.int .i64 va) := hx0.cell 1
  have p2 : W0.cell? ⟨w.heap.size, 2, none⟩ = some (.int .i64 fra) := hx0.cell 2
  have p3 : W0.cell? ⟨w.heap.size, 3, none⟩ = some (.int .i64 ta) := hx0.cell 3
  have p4 : W0.cell? ⟨w.heap.size, 4, none⟩ = some (.slice A n c) := hx0.cell 4
  have HS := Lib.hid (settle_any qa va fra ta A n c fa W0 hra (by have := HGA.out.len; have := hra.1; omega) HGA.out.ok HGA.out.ids HGA.out.v0 HGA.out.v1)
  go_wp2_with fail
  refine HS.out.mono ?_
  intro e w1 hres
  obtain ⟨B1, m1, d1, ga, ba, rfl, hst, hgl, hm1, ho1, hb1⟩ := hres.settled
  clear HS hres p0 p1 p2 p3 p4 hx0
  have hw1 := hb1.size
  have HST := Lib.hid hst
  have HLW := Lib.hid (hst.law HGA.out.ok HGA.out.ids HGA.out.v0)
  have hm200 : m1 ≤ 200 := by have := HGA.out.len; omega
  have hr1 : Recs encR 6 w1 B1 m1 ga := Recs.of_own encR_len ho1 hgl
  have hy1 := hy0.keep hb1
  have hrb1 := hrb.below hb1
  have hB1 := hb0.trans (hb1.mono (by omega))
  have HOM := Lib.hid (World.ownsMap_made w1 Tryz.prog 3 (plainElem (H := Unit) Tryz.prog 3))
  clear ho1 hst hy0 hrb hb1 hra
  go_wp2
  clear hmm
  go_loopw [23] (fun i wx => ∃ (k : Nat) (D : DataW Unit), k ≤ m1 ∧ i = .int .i64 k ∧ wx.ownsMap Tryz.prog 3 (plainElem Tryz.prog 3) w1.heap.size k D ∧ Hid (∀ id : Int, D.atKey (.int .i64 id) (.lit (.int .i64 0)) = .lit (.int .i64 (grOf (ga.take k) id))) ∧ RowKit.Below w1.heap.size w1 wx) (fun i _ => m1 - (intOf i).toNat)
  case atStart => exact ⟨0, _, Nat.zero_le _, rfl, HOM.out, fun _ => rfl, (Below.refl _ _).alloc (Nat.le_refl _) _⟩
  case round =>
    clear HOM
    obtain ⟨k, D, hk, rfl, hO, HM, hb⟩ := hrel
    by_cases hlt : k < m1
    · obtain ⟨b, off, x, hB, hbl, c0, c1, c2, c3, c4, c5, HX⟩ := (hr1.below hb).getR hlt
      subst hB
      have hxm : x ∈ ga := by have := HX.out; rw [← this, getElem!_pos ga k (by omega)]; exact List.getElem_mem _
      obtain ⟨o1, o2, o3, o4, o5, o6⟩ := HLW.out.each x hxm
      clear o6
      have HKEY : Hid (keyOf Tryz.prog 3 (.int .i64 x.id) = some (.int .i64 x.id)) := keyOf_int_mk Tryz.underlying3 (wf_small (by omega) (by omega))
      have HWF : Hid (plainElem (H := Unit) Tryz.prog 3 (.int .i64 x.grant) = some (.lit (.int .i64 x.grant), [])) := plainElem_int Tryz.underlying3 (wf_small (by omega) (by omega))
      have HP : Hid (∀ id : Int, (D.put (.int .i64 x.id) (.lit (.int .i64 x.grant))).atKey (.int .i64 id) (.lit (.int .i64 0)) = .lit (.int .i64 (grOf (ga.take (k + 1)) id))) := by
        intro id
        rw [List.take_succ_eq_append_getElem (by omega), grOf_snoc]
        have hx := HX.out
        rw [getElem!_pos ga k (by omega)] at hx
        rw [hx]
        by_cases e : id = x.id
        · subst e
          rw [if_pos rfl]
          exact atKey_put_same hO.isMap (key_lit _) _ _
        · rw [atKey_put_other (lit_ne e), if_neg (fun q => e q.symm)]
          exact HM.out id
      have hb4 : RowKit.Below w1.heap.size w1 (wr.alloc (.cells #[.int .i64 x.id, .int .i64 x.day, .int .i64 x.avail, .int .i64 x.asked, .int .i64 x.req, .int .i64 x.grant] 264)) := hb.alloc hb.size _
      have hx4 := Bl.new wr 264 #[.int .i64 x.id, .int .i64 x.day, .int .i64 x.avail, .int .i64 x.asked, .int .i64 x.req, .int .i64 x.grant]
      have HO4 := Lib.hid (hO.alloc (.cells #[.int .i64 x.id, .int .i64 x.day, .int .i64 x.avail, .int .i64 x.asked, .int .i64 x.req, .int .i64 x.grant] 264))
      clear hO
      go_upto_region 6 with (fail)
      clear c0 c1 c2 c3 c4 c5
      generalize wr.alloc (.cells #[.int .i64 x.id, .int .i64 x.day, .int .i64 x.avail, .int .i64 x.asked, .int .i64 x.req, .int .i64 x.grant] 264) = W4 at *
      generalize wr.heap.size = g4 at *
      have q0 : W4.cell? ⟨g4, 0, none⟩ = some (.int .i64 x.id) := hx4.cell 0
      have q5 : W4.cell? ⟨g4, 5, none⟩ = some (.int .i64 x.grant) := hx4.cell 5
      clear hb hbl
      go_wp2_with (at_mapUpdate; refine wpList_mapUpdate_own _ rfl _ _ _ 260 rfl 3 3 klawI Tryz.underlying260 _ w1.heap.size k _ rfl HO4.out (by unfold maxLen; omega) _ _ _ rfl rfl HKEY.out _ [] HWF.out ?_; intro w6 ho6 hg6)
      have HB6 : Hid (RowKit.Below w1.heap.size w1 w6) := hb4.grown hg6 hb4.size (fun j hj => by cases hj; omega)
      clear hg6
      go_roundw
      case rel => exact ⟨k + 1, _, by omega, by go_num, ho6, HP, HB6.out⟩
      case measure => simp [intOf]; omega
    · obtain rfl : m1 = k := by omega
      rw [List.take_of_length_le (by omega)] at HM
      have hy2 := hy1.keep hb
      have hrb2 := hrb1.below hb
      have hB2 := hB1.trans (hb.mono hB1.size)
      have p0 : wr.cell? ⟨w.heap.size + 1, 0, none⟩ = some (.int .i64 qb) := hy2.cell 0
      have p1 : wr.cell? ⟨w.heap.size + 1, 1, none⟩ = some (.int .i64 vb) := hy2.cell 1
      have p2 : wr.cell? ⟨w.heap.size + 1, 2, none⟩ = some (.int .i64 frb) := hy2.cell 2
      have p3 : wr.cell? ⟨w.heap.size + 1, 3, none⟩ = some (.int .i64 tb) := hy2.cell 3
      have p4 : wr.cell? ⟨w.heap.size + 1, 4, none⟩ = some (.slice A2 n2 c2) := hy2.cell 4
      have HS := Lib.hid (settle_any qb vb frb tb A2 n2 c2 fb wr hrb2 (by have := HGB.out.len; have := hrb2.1; omega) HGB.out.ok HGB.out.ids HGB.out.v0 HGB.out.v1)
      clear hlt hk hr1 hy1 hrb1 hB1 hb hy2 hrb2
      go_wp2_with fail
      refine HS.out.mono ?_
      intro e w2 hres
      obtain ⟨B2, m2, d2, gb, bb, rfl, hst2, hgl2, hm2, ho2, hb2⟩ := hres.settled
      clear HS hres p0 p1 p2 p3 p4
      have hO2 := ownsMap_keep hO hb2
      have HST2 := Lib.hid hst2
      have HLW2 := Lib.hid (hst2.law HGB.out.ok HGB.out.ids HGB.out.v0)
      have hm2b : m2 ≤ 200 := by have := HGB.out.len; omega
      have hr2 : Recs encR 6 w2 B2 m2 gb := Recs.of_own encR_len ho2 hgl2
      have HB2 := Lib.hid (hB2.trans (hb2.mono hB2.size))
      have hgm : w1.heap.size < w2.heap.size := hO2.lt
      have HGL2 := Lib.hid hgl2
      clear hO ho2 hst2 hb2 hB2 hm2 hgl2
      generalize w1.heap.size = gm at *
      go_wp2_with fail
      go_loopw [10, 41] (fun v i wx => ∃ (k2 : Nat) (B : Option Addr) (m d : Nat), k2 ≤ m2 ∧ i = .int .i64 k2 ∧ v = .slice B m d ∧ m ≤ k2 ∧ Hid ((chgs ga (gb.take k2)).length = m) ∧ wx.ownsMap Tryz.prog 3 (plainElem Tryz.prog 3) gm m1 D ∧ wx.ownsRow w2.heap.size 167 3 (.slice B m d) m (flat encG (chgs ga (gb.take k2))) ∧ RowKit.Below w2.heap.size w2 wx) (fun _ i _ => m2 - (intOf i).toNat)
      case atStart => exact ⟨0, none, 0, 0, Nat.zero_le _, rfl, rfl, Nat.le_refl _, rfl, hO2, ⟨rfl, .inl ⟨rfl, rfl⟩⟩, Below.refl _ _⟩
      case round =>
        clear hO2
        obtain ⟨k2, B, m, d, hk2, rfl, rfl, hmk, HCL, hO, ho, hb⟩ := hrel
        by_cases hlt : k2 < m2
        · obtain ⟨b, off, x, hB, hbl, c0, c1, c2, c3, c4, c5, HX⟩ := (hr2.below hb).getR hlt
          subst hB
          have hxm : x ∈ gb := by have := HX.out; rw [← this, getElem!_pos gb k2 (by have := HGL2.out; omega)]; exact List.getElem_mem _
          obtain ⟨o1, o2, o3, o4, o5, o6⟩ := HLW2.out.each x hxm
          clear o6
          have HKEY : Hid (keyOf Tryz.prog 3 (.int .i64 x.id) = some (.int .i64 x.id)) := keyOf_int_mk Tryz.underlying3 (wf_small (by omega) (by omega))
          have HTK : Hid (gb.take (k2 + 1) = gb.take k2 ++ [x]) := by
            have hx := HX.out
            rw [getElem!_pos gb k2 (by have := HGL2.out; omega)] at hx
            show _ = _
            rw [List.take_succ_eq_append_getElem (by have := HGL2.out; omega), hx]
          have HRE := Lib.hid (HM.out x.id)
          have HSN := Lib.hid (chgs_snoc ga (gb.take k2) x)
          rw [← HTK.out] at HSN
          generalize grOf ga x.id = rv at *
          have hb4 : RowKit.Below w2.heap.size w2 (wr.alloc (.cells #[.int .i64 x.id, .int .i64 x.day, .int .i64 x.avail, .int .i64 x.asked, .int .i64 x.req, .int .i64 x.grant] 264)) := hb.alloc hb.size _
          have hx4 := Bl.new wr 264 #[.int .i64 x.id, .int .i64 x.day, .int .i64 x.avail, .int .i64 x.asked, .int .i64 x.req, .int .i64 x.grant]
          have HO4 := Lib.hid (hO.alloc (.cells #[.int .i64 x.id, .int .i64 x.day, .int .i64 x.avail, .int .i64 x.asked, .int .i64 x.req, .int .i64 x.grant] 264))
          have HR4 := Lib.hid (own_alloc ho (.cells #[.int .i64 x.id, .int .i64 x.day, .int .i64 x.avail, .int .i64 x.asked, .int .i64 x.req, .int .i64 x.grant] 264))
          clear hO ho hxm o1 o2 o3 o4 o5
          go_upto_region 13 with (fail)
          clear c0 c1 c2 c3 c4 c5
          generalize wr.alloc (.cells #[.int .i64 x.id, .int .i64 x.day, .int .i64 x.avail, .int .i64 x.asked, .int .i64 x.req, .int .i64 x.grant] 264) = W4 at *
          generalize wr.heap.size = g4 at *
          have q0 : W4.cell? ⟨g4, 0, none⟩ = some (.int .i64 x.id) := hx4.cell 0
          have q5 : W4.cell? ⟨g4, 5, none⟩ = some (.int .i64 x.grant) := hx4.cell 5
          have l4 := hx4.lt
          clear hb hbl hx4
          by_cases e : rv = x.grant
          · have bn : (rv != x.grant) = false := by simpa using e
            rw [if_pos e, List.append_nil] at HSN
            clear e
            go_wp2_with (first
              | (at_lookup; refine wpList_lookup_own_int _ rfl _ _ 260 rfl 3 3 .i64 klawI Tryz.underlying260 Tryz.underlying3 (zeroI _) gm m1 _ rfl HO4.out _ _ rfl HKEY.out ?_; intro c9 hat hwc; obtain rfl : rv = c9 := lit_eq (HRE.out.symm.trans hat); clear hat hwc)
              | fail)
            go_roundw
            case rel => exact ⟨k2 + 1, B, m, d, by omega, by go_num, rfl, by omega, by show _ = _; rw [HSN.out]; exact HCL.out, HO4.out, by rw [HSN.out]; exact HR4.out, hb4⟩
            case measure => simp [intOf]; omega
          · have bn : (rv != x.grant) = true := by simpa using e
            rw [if_neg e] at HSN
            clear e
            have HOE := Lib.hid (own_alloc HR4.out (.cells #[.int .i64 x.id, .int .i64 rv, .int .i64 x.grant] 167))
            have HOM := Lib.hid (HO4.out.alloc (.cells #[.int .i64 x.id, .int .i64 rv, .int .i64 x.grant] 167))
            have HRD : Hid (Rd (W4.alloc (.cells #[.int .i64 x.id, .int .i64 rv, .int .i64 x.grant] 167)) 3 (some ⟨W4.heap.size, 0, none⟩) 1 (encG ⟨x.id, rv, x.grant⟩)) := rd_new W4 167 (encG ⟨x.id, rv, x.grant⟩)
            have HON : Hid (∀ u ∈ encG ⟨x.id, rv, x.grant⟩, u.oneCell' = true) := encG_one _
            have HM1 : Hid (m + 1 ≤ maxLen ∧ (m + 1) * 24 ≤ 140737488355328) := ⟨by unfold maxLen; omega, by omega⟩
            have HBA : Hid (RowKit.Below w2.heap.size w2 (W4.alloc (.cells #[.int .i64 x.id, .int .i64 rv, .int .i64 x.grant] 167))) := hb4.alloc hb4.size _
            have HOB := Lib.hid (fun j hj => own_base HR4.out j hj)
            go_wp2_with (first
              | (at_lookup; refine wpList_lookup_own_int _ rfl _ _ 260 rfl 3 3 .i64 klawI Tryz.underlying260 Tryz.underlying3 (zeroI _) gm m1 _ rfl HO4.out _ _ rfl HKEY.out ?_; intro c9 hat hwc; obtain rfl : rv = c9 := lit_eq (HRE.out.symm.trans hat); clear hat hwc)
              | (at_builtin; refine wpList_append_rd _ rfl (.tmp 53) (.tmp 64) 163 rfl w2.heap.size 167 _ 3 24 Tryz.underlying163 infoG3 rfl (by decide) (.slice B m d) m _ rfl HOE.out (some ⟨W4.heap.size, 0, none⟩) 1 _ (encG ⟨x.id, rv, x.grant⟩) rfl HRD.out HON.out HM1.out.1 HM1.out.2 HBA.out.size ?_; intro v6 w6 ho6 hg6 _; obtain ⟨B6, d6, rfl⟩ := own_slice ho6))
            have HM6 := Lib.hid (HOM.out.kept hg6 (fun e => by have := HOB.out _ e.symm; omega))
            have HB6 : Hid (RowKit.Below w2.heap.size w2 w6) := HBA.out.grown hg6 HBA.out.size (fun j hj => HOB.out j hj)
            have HO6 : Hid (w6.ownsRow w2.heap.size 167 3 (.slice B6 (m + 1) d6) (m + 1) (flat encG (chgs ga (gb.take (k2 + 1))))) := by
              show World.ownsRow _ _ _ _ _ _ _
              rw [HSN.out, flat_append, flat_one]
              exact ho6
            clear ho6 hg6
            go_roundw
            case rel => exact ⟨k2 + 1, B6, m + 1, d6, by omega, by go_num, rfl, by omega, by show _ = _; rw [HSN.out, List.length_append, HCL.out]; rfl, HM6.out, HO6.out, HB6.out⟩
            case measure => simp [intOf]; omega
        · obtain rfl : m2 = k2 := by omega
          rw [List.take_of_length_le (by have := HGL2.out; omega)] at HCL ho
          have hsz := HB2.out.size
          clear hlt
          go_wp2
          go_ret
          exact ⟨B, m, d, ga, gb, ba, bb, rfl, HST.out, HST2.out, HCL.out, own_mono ho hsz, HB2.out.trans (hb.mono hsz)⟩
end Go.Proofs.YtdbcbbiplkikcaaGreat

namespace Go.Proofs.YtdbcbbiplkikcaaGreat
open Go.RowKit
set_option linter.unusedVariables false

theorem numAsc_pair {fs : List Fct} : numAsc fs ↔ fs.Pairwise (fun a b => a.num < b.num) := by
  constructor
  · intro h
    exact pairwise_of_get fun i j hij hj => num_lt h hij hj
  · intro h r hr
    have := List.pairwise_iff_getElem.1 h r (r + 1) (by omega) (by omega) (by omega)
    rwa [getElem!_pos fs r (by omega), getElem!_pos fs (r + 1) (by omega)]
theorem mem_take_get {α : Type} [Inhabited α] {xs : List α} {i : Nat} {x : α} (h : x ∈ xs.take i) : ∃ k, k < i ∧ k < xs.length ∧ xs[k]! = x := by
  obtain ⟨k, hk, rfl⟩ := List.getElem_of_mem h
  rw [List.length_take] at hk
  exact ⟨k, by omega, by omega, by rw [getElem!_pos xs k (by omega), List.getElem_take]⟩
theorem mem_drop_get {α : Type} [Inhabited α] {xs : List α} {i : Nat} {x : α} (h : x ∈ xs.drop i) : ∃ k, i ≤ k ∧ k < xs.length ∧ xs[k]! = x := by
  obtain ⟨k, hk, rfl⟩ := List.getElem_of_mem h
  rw [List.length_drop] at hk
  exact ⟨i + k, by omega, by omega, by rw [getElem!_pos xs (i + k) (by omega), List.getElem_drop]⟩
theorem numAsc_ins {fs : List Fct} {f : Fct} {I : Nat} (h : numAsc fs) (h1 : ∀ q, q < I → q < fs.length → fs[q]!.num < f.num) (h2 : ∀ q, I ≤ q → q < fs.length → f.num < fs[q]!.num) : numAsc (fs.take I ++ f :: fs.drop I) := by
  rw [numAsc_pair] at h ⊢
  rw [List.pairwise_append, List.pairwise_cons]
  refine ⟨h.take, ⟨fun x hx => ?_, h.drop⟩, fun x hx y hy => ?_⟩
  · obtain ⟨k, k1, k2, rfl⟩ := mem_drop_get hx
    exact h2 k k1 k2
  · obtain ⟨k, k1, k2, rfl⟩ := mem_take_get hx
    rcases List.mem_cons.1 hy with rfl | hy
    · exact h1 k k1 k2
    · obtain ⟨j, j1, j2, rfl⟩ := mem_drop_get hy
      have := List.pairwise_iff_getElem.1 h k j k2 j2 (by omega)
      rwa [getElem!_pos fs k k2, getElem!_pos fs j j2]
theorem perm_ins (fs : List Fct) (f : Fct) (I : Nat) : (fs.take I ++ f :: fs.drop I).Perm (f :: fs) := by
  have := @List.perm_middle Fct f (fs.take I) (fs.drop I)
  rwa [List.take_append_drop] at this
structure BOk (q : Qt) (fs : List Fct) : Prop where
  qok : qOk q = true
  len : fs.length ≤ 200
  ok : ∀ x ∈ fs, fErr q x = 0
  asc : numAsc fs
theorem BOk.err {q : Qt} {fs : List Fct} (h : BOk q fs) : bErr q fs = 0 := bErr_ok h.qok h.len (fun i hi => h.ok _ (by rw [getElem!_pos fs i hi]; exact List.getElem_mem _)) h.asc
theorem BOk.good {q : Qt} {fs : List Fct} (h : BOk q fs) : FGood fs q.vol :=
  ⟨h.len, fun x hx => (fErr_zero (h.ok x hx)).1, fun x hx hk => (fErr_zero (h.ok x hx)).2.2.1 hk, (qOk_yes h.qok).2.2.1, (qOk_yes h.qok).2.2.2.1⟩
theorem BOk.nil {q : Qt} (h : qOk q = true) : BOk q [] := ⟨h, Nat.zero_le _, fun x hx => (by cases hx), fun r hr => (by simp at hr)⟩
theorem BOk.ins {q : Qt} {fs : List Fct} {f : Fct} {I : Nat} (h : BOk q fs) (hf : fErr q f = 0) (hl : fs.length < 200) (h1 : ∀ k, k < I → k < fs.length → fs[k]!.num < f.num) (h2 : ∀ k, I ≤ k → k < fs.length → f.num < fs[k]!.num) : BOk q (fs.take I ++ f :: fs.drop I) := by
  refine ⟨h.qok, ?_, fun x hx => ?_, numAsc_ins h.asc h1 h2⟩
  · rw [(perm_ins fs f I).length_eq]; simp; omega
  · rcases List.mem_cons.1 ((perm_ins fs f I).mem_iff.1 hx) with rfl | hx
    · exact hf
    · exact h.ok x hx
theorem put5 {w : World} {N r : Nat} {w' : World} (h : RowKit.Below N w w') (hr : N ≤ r) (a b c d e : Value) : RowKit.Below N w (((((w'.setCell ⟨r, 0, none⟩ a).setCell ⟨r, 1, none⟩ b).setCell ⟨r, 2, none⟩ c).setCell ⟨r, 3, none⟩ d).setCell ⟨r, 4, none⟩ e) :=
  ((((h.setCell (p := ⟨r, 0, none⟩) hr _).setCell (p := ⟨r, 1, none⟩) hr _).setCell (p := ⟨r, 2, none⟩) hr _).setCell (p := ⟨r, 3, none⟩) hr _).setCell (p := ⟨r, 4, none⟩) hr _
theorem own5 {w : World} {N r : Nat} {T : TypeId} {size n : Nat} {v : Value} {xs : List Value} (h : w.ownsRow N T size v n xs) (hr : ∀ g, v.ownBlock = some g → g ≠ r) (a b c d e : Value) : (((((w.setCell ⟨r, 0, none⟩ a).setCell ⟨r, 1, none⟩ b).setCell ⟨r, 2, none⟩ c).setCell ⟨r, 3, none⟩ d).setCell ⟨r, 4, none⟩ e).ownsRow N T size v n xs :=
  own_of_block h fun g hg => ((((Below.heap_setCell _ _ _ g (hr g hg)).trans (Below.heap_setCell _ _ _ g (hr g hg))).trans (Below.heap_setCell _ _ _ g (hr g hg))).trans (Below.heap_setCell _ _ _ g (hr g hg))).trans (Below.heap_setCell _ _ _ g (hr g hg))
theorem set5_bl {w : World} {g : Nat} {T : TypeId} {z0 z1 z2 z3 z4 : Value} (h : Bl w g T #[z0, z1, z2, z3, z4]) (a b c d e : Value) : Bl (((((w.setCell ⟨g, 0, none⟩ a).setCell ⟨g, 1, none⟩ b).setCell ⟨g, 2, none⟩ c).setCell ⟨g, 3, none⟩ d).setCell ⟨g, 4, none⟩ e) g T #[a, b, c, d, e] := by
  have := ((((h.put 0 a).put 1 b).put 2 c).put 3 d).put 4 e
  simpa using this
theorem Bl.c0 {w : World} {g : Nat} {T : TypeId} {z0 z1 z2 z3 z4 : Value} (h : Bl w g T #[z0, z1, z2, z3, z4]) : w.cell? ⟨g, 0, none⟩ = some z0 := h.cell 0
theorem Bl.c1 {w : World} {g : Nat} {T : TypeId} {z0 z1 z2 z3 z4 : Value} (h : Bl w g T #[z0, z1, z2, z3, z4]) : w.cell? ⟨g, 1, none⟩ = some z1 := h.cell 1
theorem Bl.c2 {w : World} {g : Nat} {T : TypeId} {z0 z1 z2 z3 z4 : Value} (h : Bl w g T #[z0, z1, z2, z3, z4]) : w.cell? ⟨g, 2, none⟩ = some z2 := h.cell 2
theorem Bl.c3 {w : World} {g : Nat} {T : TypeId} {z0 z1 z2 z3 z4 : Value} (h : Bl w g T #[z0, z1, z2, z3, z4]) : w.cell? ⟨g, 3, none⟩ = some z3 := h.cell 3
theorem Bl.c4 {w : World} {g : Nat} {T : TypeId} {z0 z1 z2 z3 z4 : Value} (h : Bl w g T #[z0, z1, z2, z3, z4]) : w.cell? ⟨g, 4, none⟩ = some z4 := h.cell 4
theorem Bl.far5 {w : World} {k r : Nat} {T : TypeId} {cs : Array Value} (h : Bl w k T cs) (hne : k ≠ r) (a b c d e : Value) : Bl (((((w.setCell ⟨r, 0, none⟩ a).setCell ⟨r, 1, none⟩ b).setCell ⟨r, 2, none⟩ c).setCell ⟨r, 3, none⟩ d).setCell ⟨r, 4, none⟩ e) k T cs := ((((h.far (p := ⟨r, 0, none⟩) hne a).far (p := ⟨r, 1, none⟩) hne b).far (p := ⟨r, 2, none⟩) hne c).far (p := ⟨r, 3, none⟩) hne d).far (p := ⟨r, 4, none⟩) hne e
end Go.Proofs.YtdbcbbiplkikcaaGreat

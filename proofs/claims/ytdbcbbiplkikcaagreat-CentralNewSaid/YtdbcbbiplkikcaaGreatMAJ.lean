/-
  copy(dst, src) for elements of k cells, dst in a row that is known whole. No statement of the seat is proved here.
  The contract of slices.Insert of one fact into a row of the caller's own. No statement of the seat is proved here. Conditions: at most 1000 facts.
  slices.Insert of one fact where there is no room, and the three roads joined. No statement of the seat is proved here. Conditions: at most 1000 facts.
  What settle computes, as a relation of the facts alone, and that it is one. No statement of the seat is proved here.
  The settlement's own laws: every grant lies between 0 and the request; grants and rest add up. No statement of the seat is proved here.
  The laws of the settlement for books. No statement of the seat is proved here.
-/
import Derived.Test.YtdbcbbiplkikcaaGreatMAI
import Derived.Laws.CopyOwn
import Derived.Lib.AppendZerosOnto
import Derived.Lib.Overlaps
import Derived.Deep.RegionLaw
import Derived.Shelf.RegionOpenPlain
namespace Go.Proofs.YtdbcbbiplkikcaaGreat
open Go.RowKit Go.Shelf
set_option linter.unusedVariables false

section
variable {P : Program}
/-- The world w' is w with the block g written anew. -/
structure Over (w w' : World) (g : Nat) : Prop where
  os : w'.os = w.os
  tape : w'.tape = w.tape
  output : w'.output = w.output
  size : w'.heap.size = w.heap.size
  other : ∀ k, k ≠ g → w'.heap[k]? = w.heap[k]?

theorem over_setRow (w : World) (g : Nat) (cs : Array Value) : Over w (w.setRow g cs) g := ⟨rfl, rfl, rfl, by simp [World.setRow], fun k hk => setRow_other w g k cs (by omega)⟩
theorem Over.below {w w' : World} {g B : Nat} (h : Over w w' g) (hB : B ≤ g) : RowKit.Below B w w' :=
  ⟨h.os, h.tape, h.output, by rw [h.size]; exact Nat.le_refl _, fun k hk => h.other k (by omega)⟩

theorem run_copy_rowK (w : World) (dT sT ty elem : TypeId) (k g o dLen dCap : Nat) (a : Addr) (sLen sCap : Nat) (cur : List Value) (t : TypeId) (cs : List Value)
    (hu : P.underlying dT = some (.slice elem)) (hs : (P.info? elem).map (·.size) = some k)
    (hg : w.heap[g]? = some (.cells cur.toArray t (0, 0))) (hn : cs.length = Nat.min sLen dLen * k)
    (hsrc : ∀ j v, cs[j]? = some v → w.cell? (a.add j) = some v) (hfit : o + cs.length ≤ cur.length) (h1 : ∀ v ∈ cs, v.oneCell' = true) :
    (Builtin.copy_ #[dT, sT] ty #[.slice (some ⟨g, o, none⟩) dLen dCap, .slice (some a) sLen sCap]).run P w =
      .ok (goInt (Nat.min sLen dLen)) (w.setRow g (splice cur o cs).toArray) := by
  have hl := run_loadCells_list (P := P) w a cs hsrc
  have hst := run_storeCells_at P g o t cs 0 cur.toArray w hg (by simpa using hfit) h1
  cases hq : P.info? elem with
  | none => simp [hq] at hs
  | some i =>
    have hi : i.size = k := by simpa [hq] using hs
    simp [Builtin.copy_, run_underlying hu, Builtin.lenOf, Builtin.firstCells, sizeOf, typeInfo, hq, hi, ← hn, hl, hst, splice]

theorem wpList_copyK {w : World} {ops : Array Oper} {rest : List Oper} {o : Oper} {a : Act} {Q : Exit → Act → World → Prop} (hgd : o.guard = none) (d s : Operand) (dT sT : TypeId)
    (ho : o.op = .call { callee := .builtin .copy, args := #[d, s], argTypes := #[dT, sT] }) (elem : TypeId) (k : Nat) (hu : P.underlying dT = some (.slice elem)) (hsz : (P.info? elem).map (·.size) = some k)
    (g off dLen dCap : Nat) (ad : Addr) (sLen sCap : Nat) (hd : a.eval d = .slice (some ⟨g, off, none⟩) dLen dCap) (hs : a.eval s = .slice (some ad) sLen sCap)
    (cur : List Value) (t : TypeId) (hg : w.heap[g]? = some (.cells cur.toArray t (0, 0))) (cs : List Value) (hn : cs.length = Nat.min sLen dLen * k)
    (hsrc : ∀ j v, cs[j]? = some v → w.cell? (ad.add j) = some v) (hfit : off + cs.length ≤ cur.length) (h1 : ∀ v ∈ cs, v.oneCell' = true)
    (h : ∀ w', Hid (w'.heap[g]? = some (.cells (splice cur off cs).toArray t (0, 0))) → Over w w' g → wpList P ops Q rest (a.put o.dst (goInt (Nat.min sLen dLen))) w') : wpList P ops Q (o :: rest) a w := by
  refine wpList_plain hgd fun K hK => ?_
  have hrun := run_copy_rowK (P := P) w dT sT o.type elem k g off dLen dCap ad sLen sCap cur t cs hu hsz hg hn hsrc hfit h1
  unfold Oper.wp execOp
  simp only [ho, resolve, invoke, builtin, Sem.run_bind, Sem.run_pure, Result.andThen_ok, List.map_toArray, List.map_cons, List.map_nil, hd, hs, hrun]
  exact hK _ _ (h _ (show _ = _ from setRow_heap w g _ _ t _ hg) (over_setRow w g _))

theorem step_copyK {ops : Array Oper} {o : Oper} {a : Act} {w : World} {K : Act → World → Prop} {Q : Exit → Act → World → Prop} {E : Prop}
    (hgd : o.guard = none) (d s : Operand) (dT sT : TypeId)
    (ho : o.op = .call { callee := .builtin .copy, args := #[d, s], argTypes := #[dT, sT] }) (elem : TypeId) (k : Nat) (hu : P.underlying dT = some (.slice elem)) (hsz : (P.info? elem).map (·.size) = some k)
    (g off dLen dCap : Nat) (ad : Addr) (sLen sCap : Nat) (hd : a.eval d = .slice (some ⟨g, off, none⟩) dLen dCap) (hs : a.eval s = .slice (some ad) sLen sCap)
    (cur : List Value) (t : TypeId) (hg : w.heap[g]? = some (.cells cur.toArray t (0, 0))) (cs : List Value) (hn : cs.length = Nat.min sLen dLen * k)
    (hsrc : ∀ j v, cs[j]? = some v → w.cell? (ad.add j) = some v) (hfit : off + cs.length ≤ cur.length) (h1 : ∀ v ∈ cs, v.oneCell' = true)
    (h : ∀ w', Hid (w'.heap[g]? = some (.cells (splice cur off cs).toArray t (0, 0))) → Over w w' g → K (a.put o.dst (goInt (Nat.min sLen dLen))) w') :
    if Region.wanted o (yielded ops a.tmps) = true then Oper.wp P o a w K Q else E := by
  have hw : Region.wanted o (yielded ops a.tmps) = true := by simp [Region.wanted, hgd]
  rw [if_pos hw]
  have hrun := run_copy_rowK (P := P) w dT sT o.type elem k g off dLen dCap ad sLen sCap cur t cs hu hsz hg hn hsrc hfit h1
  unfold Oper.wp execOp
  simp only [ho, resolve, invoke, builtin, Sem.run_bind, Sem.run_pure, Result.andThen_ok, List.map_toArray, List.map_cons, List.map_nil, hd, hs, hrun]
  exact h _ (show _ = _ from setRow_heap w g _ _ t _ hg) (over_setRow w g _)
end
end Go.Proofs.YtdbcbbiplkikcaaGreat

namespace Go.Proofs.YtdbcbbiplkikcaaGreat
open Go.RowKit Go.Shelf
set_option linter.unusedVariables false

theorem own_boundsF {w : World} {base n c : Nat} {A : Option Addr} {e : TypeId} {size : Nat} {xs : List Value} (h : w.ownsRow base e size (.slice A n c) n xs) : n ≤ c ∧ c ≤ 9223372036854775807 := by
  rcases h.2 with ⟨hv, h0⟩ | ⟨g, cap, cur, hv, _, _, h1, h2, _⟩
  · injection hv with _ _ h3; omega
  · injection hv with _ _ h3; unfold maxLen at h2; omega
/-- What Insert returns: a row of the caller's own. -/
def InsRes (w : World) (v : Value) (N n : Nat) (fs : List Fct) (e : Ending) (w' : World) : Prop := ∃ (B : Option Addr) (d : Nat), e = .returned (.slice B (n + 1) d) ∧ w'.ownsRow N 122 5 (.slice B (n + 1) d) (n + 1) (flat encF fs) ∧ RowKit.Below N w w' ∧ ∀ k, k < w.heap.size → some k ≠ v.ownBlock → w'.heap[k]? = w.heap[k]?

set_option maxRecDepth 100000 in
set_option maxHeartbeats 4000000 in
theorem insert_end (N : Nat) (B : Option Addr) (n c : Nat) (fs : List Fct) (f : Fct) (vb : Nat) (w : World) (ho : w.ownsRow N 122 5 (.slice B n c) n (flat encF fs)) (hv : Bl w vb 122 (encF f).toArray) (hn : n ≤ 1000) (hN : N ≤ w.heap.size) :
    Calls Tryz.prog 112 #[.slice B n c, .int .i64 n, .slice (some ⟨vb, 0, none⟩) 1 1] w (InsRes w (.slice B n c) N n (fs ++ [f])) := by
  have HO := Lib.hid ho
  have HR : Hid (Rd w 5 (some ⟨vb, 0, none⟩) 1 (encF f)) := ⟨rfl, fun _ => ⟨vb, 0, rfl, hv.lt, fun j u hu => by rw [Nat.zero_add, hv.cell]; simpa using hu⟩⟩
  have HM : Hid (n + 1 ≤ maxLen ∧ (n + 1) * 40 ≤ 140737488355328) := ⟨by unfold maxLen; omega, by omega⟩
  have HN := Lib.hid hN
  have HON := Lib.hid (encF_one f)
  clear ho hv hN
  have hbd := own_boundsF HO.out
  go_enter Tryz.func112, Tryz.ntmps112
  go_wp2_with (at_builtin; refine wpList_append_rd _ rfl (.tmp 23) (.tmp 24) 52 rfl N 122 _ 5 40 Tryz.underlying52 infoF rfl (by decide) (.slice B n c) n (flat encF fs) rfl HO.out (some ⟨vb, 0, none⟩) 1 1 (encF f) rfl HR.out HON.out HM.out.1 HM.out.2 HN.out ?_; intro v6 w6 ho6 hg6 _; obtain ⟨B6, d6, rfl⟩ := own_slice ho6)
  all_goals go_ret
  all_goals exact ⟨B6, d6, rfl, by rw [flat_append, flat_one]; exact ho6, (Below.refl N w).grown hg6 HN.out (fun k hk => own_base HO.out k hk), fun k hk hne => hg6.block k hk (fun e => hne (by rw [e]; try (cases B <;> rfl)))⟩
/-- The list behind the two copies of the road with room. -/
theorem splice_shift {α : Type} (L X Y F : List α) (m : Nat) (hL : L.take m = X ++ Y) (hm : m + F.length ≤ L.length) : (splice (splice L (X.length + F.length) Y) X.length F).take (m + F.length) = X ++ (F ++ Y) := by
  have hXY : X.length + Y.length = m := by
    have := congrArg List.length hL
    simp at this; omega
  have hX : L.take X.length = X := by
    have := congrArg (List.take X.length) hL
    rw [List.take_take, Nat.min_eq_left (by omega)] at this
    simpa using this
  obtain ⟨A, hA⟩ : ∃ A, A = L.take (X.length + F.length) := ⟨_, rfl⟩
  have hAl : A.length = X.length + F.length := by rw [hA]; simp; omega
  have hAX : A.take X.length = X := by rw [hA, List.take_take, Nat.min_eq_left (by omega), hX]
  have e1 : splice L (X.length + F.length) Y = A ++ (Y ++ L.drop (X.length + F.length + Y.length)) := by rw [hA]; rfl
  rw [e1]
  have e2 : splice (A ++ (Y ++ L.drop (X.length + F.length + Y.length))) X.length F = X ++ (F ++ (Y ++ L.drop (X.length + F.length + Y.length))) := by
    show List.take _ _ ++ (F ++ List.drop _ _) = _
    rw [List.take_append_of_le_length (by omega), hAX, ← hAl, List.drop_left]
  rw [e2]
  have e3 : X ++ (F ++ (Y ++ L.drop (X.length + F.length + Y.length))) = (X ++ (F ++ Y)) ++ L.drop (X.length + F.length + Y.length) := by simp
  rw [e3]
  exact List.take_left' (by simp; omega)

theorem flat_take (fs : List Fct) (i : Nat) (hi : i ≤ fs.length) : flat encF fs = flat encF (fs.take i) ++ flat encF (fs.drop i) := by rw [← flat_append, List.take_append_drop]
theorem flat_oneF (fs : List Fct) : ∀ v ∈ flat encF fs, v.oneCell' = true := fun u hu => by
  obtain ⟨x, _, hx⟩ := List.mem_flatMap.1 hu
  exact encF_one x u hx

set_option maxRecDepth 100000 in
set_option maxHeartbeats 4000000 in
theorem insert_shift (N g n c i : Nat) (fs : List Fct) (f : Fct) (vb : Nat) (w : World) (ho : w.ownsRow N 122 5 (.slice (some ⟨g, 0, none⟩) n c) n (flat encF fs)) (hl : fs.length = n) (hv : Bl w vb 122 (encF f).toArray) (hvg : vb ≠ g) (hi : i < n) (hc : n + 1 ≤ c) (hn : n ≤ 1000) (hN : N ≤ w.heap.size) :
    Calls Tryz.prog 112 #[.slice (some ⟨g, 0, none⟩) n c, .int .i64 i, .slice (some ⟨vb, 0, none⟩) 1 1] w (InsRes w (.slice (some ⟨g, 0, none⟩) n c) N n (fs.take i ++ f :: fs.drop i)) := by
  obtain ⟨cur, hNg, hcur, hcs, hct⟩ : ∃ cur : List Value, N ≤ g ∧ w.heap[g]? = some (.cells cur.toArray 122 (0, 0)) ∧ cur.length = c * 5 ∧ cur.take (n * 5) = flat encF fs := by
    rcases ho.2 with ⟨hv, h0⟩ | ⟨g', cap, cur, hv, h1, h2, _, _, h3, h4⟩
    · cases hv
    · injection hv with h5 _ h6
      injection h5 with h5
      injection h5 with h5
      subst h5 h6
      exact ⟨cur.toList, h1, by simpa using h2, by simpa using h3, h4⟩
  have hbd := own_boundsF ho
  have hov : ∀ lb cb, (callFunc 154 #[.slice (some ⟨vb, 0, none⟩) 1 1, .slice (some ⟨g, (i + 1) * 5, none⟩) lb cb]).run Tryz.prog w = .ok (.value (.bool false)) w := fun lb cb => by
    rw [run_callFunc_extern Tryz.func154 (by kernel_rfl) (by kernel_rfl) (by kernel_rfl) (e := Extern.SlicesOverlaps.overlaps #[52, 52] #[4]) (by kernel_rfl),
      Lib.run_overlaps_apart w 52 4 122 Tryz.underlying52 5 Tryz.sizeOf122 ⟨vb, 0, none⟩ ⟨g, (i + 1) * 5, none⟩ 1 1 lb cb hvg 122 122 5 (c * 5) (by rw [World.shape?, show w.heap[vb]? = _ from hv]; rfl) (by simp [World.shape?, hcur, hcs]) (by omega) (hv.free _) (hv.free _)]
    rfl
  obtain ⟨X, hX⟩ : ∃ X, X = flat encF (fs.take i) := ⟨_, rfl⟩
  obtain ⟨Y, hY⟩ : ∃ Y, Y = flat encF (fs.drop i) := ⟨_, rfl⟩
  obtain ⟨F, hF⟩ : ∃ F, F = encF f := ⟨_, rfl⟩
  have hXl : X.length = i * 5 := by rw [hX, flat_length encF_len, List.length_take]; omega
  have hYl : Y.length = (n - i) * 5 := by rw [hY, flat_length encF_len, List.length_drop, hl]
  have hFl : F.length = 5 := by rw [hF]; rfl
  rw [flat_take fs i (by omega), ← hX, ← hY] at hct
  have hY1 : ∀ v ∈ Y, v.oneCell' = true := by rw [hY]; exact flat_oneF _
  have hF1 : ∀ v ∈ F, v.oneCell' = true := by rw [hF]; exact encF_one f
  have HSY : Hid (∀ j v, Y[j]? = some v → w.cell? ((⟨g, i * 5, none⟩ : Addr).add j) = some v) := by
    intro j v hj
    rw [Addr.add_lit, cell_of_row w g _ cur.toArray _ (0, 0) hcur]
    have h1 : (X ++ Y)[i * 5 + j]? = some v := by rw [List.getElem?_append_right (by omega), hXl]; rw [show i * 5 + j - i * 5 = j by omega]; exact hj
    rw [← hct] at h1
    rw [List.getElem?_take] at h1
    split at h1
    · simpa using h1
    · cases h1
  have HC := Lib.hid hcur
  have HRES : Hid (∀ w', w'.heap[g]? = some (.cells (splice (splice cur ((i + 1) * 5) Y) (i * 5) F).toArray 122 (0, 0)) → RowKit.Below N w w' → (∀ k, k ≠ g → w'.heap[k]? = w.heap[k]?) → InsRes w (.slice (some ⟨g, 0, none⟩) n c) N n (fs.take i ++ f :: fs.drop i) (.returned (.slice (some ⟨g, 0, none⟩) (n + 1) c)) w') := by
    intro w' hw' hb hoth
    have hsp := splice_shift cur X Y F (n * 5) hct (by omega)
    rw [hFl, hXl, show i * 5 + 5 = (i + 1) * 5 by omega] at hsp
    refine ⟨some ⟨g, 0, none⟩, c, rfl, ⟨?_, Or.inr ⟨g, c, _, rfl, hNg, hw', hc, by unfold maxLen; omega, ?_, ?_⟩⟩, hb, fun k _ hne => hoth k (fun e => hne (by rw [e]; rfl))⟩
    · rw [flat_length encF_len]; simp; omega
    · rw [List.size_toArray, length_splice _ _ _ (by rw [length_splice _ _ _ (by omega)]; omega), length_splice _ _ _ (by omega), hcs]
    · rw [List.toList_toArray, show (n + 1) * 5 = n * 5 + 5 by omega, hsp, flat_append, ← hX, show f :: fs.drop i = [f] ++ fs.drop i from rfl, flat_append, flat_one, ← hY, hF]
  have HV := Lib.hid hv
  have HLEN : Hid ((i + 1) * 5 + Y.length ≤ cur.length ∧ i * 5 + F.length ≤ (splice cur ((i + 1) * 5) Y).length) := ⟨by omega, by rw [length_splice _ _ _ (by omega)]; omega⟩
  have hinf : (Tryz.prog.info? 122).map (·.size) = some 5 := by kernel_rfl
  have HINF := Lib.hid hinf
  have HFc : Hid (∀ w', Over w w' g → ∀ j v, F[j]? = some v → w'.cell? ((⟨vb, 0, none⟩ : Addr).add j) = some v) := by
    intro w' hw' j v hj
    rw [Addr.add_lit, Nat.zero_add]
    have : Bl w' vb 122 (encF f).toArray := (hw'.other vb hvg).trans hv
    rw [this.cell, ← hF]; simpa using hj
  have HNg := Lib.hid hNg
  have z1 : ¬ ((i : Int) = (n : Int)) := by omega
  have z2 : ¬ ((c : Int) < (n : Int) + 1) := by omega
  clear ho hl hv hcur hcs hct hX hY hF hinf hNg
  go_enter Tryz.func112, Tryz.ntmps112
  go_wp2_with (simp only [hov])
  have HMN : Hid (Y.length = Nat.min (n + 1 - i) (n - i) * 5) := by show _ = _; rw [hYl, show Nat.min (n + 1 - i) (n - i) = n - i from Nat.min_eq_right (by omega)]
  have HMF : Hid (F.length = Nat.min 1 (n + 1 - i) * 5) := by show _ = _; rw [hFl, show Nat.min 1 (n + 1 - i) = 1 from Nat.min_eq_left (by omega)]
  have hin : i ≤ n := by omega
  have mixed : Tryz.prog.follows Departure.mixedOrders = true := rfl
  have hw1 : IntKind.i64.wrap ((i : Int) + 1) = (i : Int) + 1 := by rw [IntKind.wrap_i64]; omega
  have htn : ((i : Int) + 1).toNat = i + 1 := by omega
  have hb2 : ¬ (c = i + 1) := by omega
  have hb3 : (i : Int) ≤ (n : Int) + 1 := by omega
  have hb4 : ¬ (c = i) := by omega
  have hb5 : (0 : Int) ≤ (i : Int) + 1 := by omega
  go_region_law_o (refine step_copyK rfl (.tmp 73) (.tmp 76) 52 52 rfl 122 5 Tryz.underlying52 HINF.out g ((i + 1) * 5) (n - i) (c - (i + 1)) ⟨g, i * 5, none⟩ (n + 1 - i) (c - i) (by simp [Act.eval, Act.put]) (by simp [Act.eval, Act.put]) cur 122 HC.out Y HMN.out HSY.out HLEN.out.1 hY1 ?_; intro w1 HC1 hO1)
  have HF2 := Lib.hid (HFc.out w1 ⟨hO1.os, hO1.tape, hO1.output, hO1.size, hO1.other⟩)
  have HB1 : Hid (RowKit.Below N w w1) := (show Over w w1 g from ⟨hO1.os, hO1.tape, hO1.output, hO1.size, hO1.other⟩).below HNg.out
  have HO1 := Lib.hid hO1.other
  clear hO1
  obtain ⟨w2, hcp, HC2, hO2⟩ : ∃ w2, (Builtin.copy_ #[52, 52] 3 #[.slice (some ⟨g, i * 5, none⟩) (n + 1 - i) (c - i), .slice (some ⟨vb, 0, none⟩) 1 1]).run Tryz.prog w1 = .ok (goInt (Nat.min 1 (n + 1 - i))) w2 ∧ Hid (w2.heap[g]? = some (.cells (splice (splice cur ((i + 1) * 5) Y) (i * 5) F).toArray 122 (0, 0))) ∧ Over w1 w2 g :=
    ⟨_, run_copy_rowK w1 _ _ _ 122 5 g (i * 5) _ _ _ _ _ _ 122 F Tryz.underlying52 HINF.out HC1.out HMF.out HF2.out HLEN.out.2 hF1, setRow_heap w1 g _ _ _ _ HC1.out, over_setRow w1 g _⟩
  go_wp2_with (simp only [hcp])
  go_ret
  exact HRES.out _ HC2.out (HB1.out.trans (hO2.below HNg.out)) (fun k hk => (hO2.other k hk).trans (HO1.out k hk))

end Go.Proofs.YtdbcbbiplkikcaaGreat

namespace Go.Proofs.YtdbcbbiplkikcaaGreat
open Go.RowKit Go.Shelf
set_option linter.unusedVariables false

theorem splice_grow {α : Type} (R X Y F : List α) (hX : R.take X.length = X) (h : X.length + F.length + Y.length ≤ R.length) : (splice (splice R X.length F) (X.length + F.length) Y).take (X.length + F.length + Y.length) = X ++ (F ++ Y) := by
  have e1 : splice R X.length F = (X ++ F) ++ R.drop (X.length + F.length) := by
    show R.take X.length ++ (F ++ R.drop (X.length + F.length)) = _
    rw [hX]; simp
  rw [e1]
  have e2 : splice ((X ++ F) ++ R.drop (X.length + F.length)) (X.length + F.length) Y = (X ++ (F ++ Y)) ++ List.drop (X.length + F.length + Y.length) ((X ++ F) ++ R.drop (X.length + F.length)) := by
    show List.take _ _ ++ (Y ++ List.drop _ _) = _
    rw [List.take_left' (by simp)]; simp
  rw [e2]
  exact List.take_left' (by simp; omega)

set_option maxRecDepth 100000 in
set_option maxHeartbeats 4000000 in
theorem insert_grow (N g n c i : Nat) (fs : List Fct) (f : Fct) (vb : Nat) (w : World) (ho : w.ownsRow N 122 5 (.slice (some ⟨g, 0, none⟩) n c) n (flat encF fs)) (hl : fs.length = n) (hv : Bl w vb 122 (encF f).toArray) (hi : i < n) (hc : c < n + 1) (hn : n ≤ 1000) (hN : N ≤ w.heap.size) :
    Calls Tryz.prog 112 #[.slice (some ⟨g, 0, none⟩) n c, .int .i64 i, .slice (some ⟨vb, 0, none⟩) 1 1] w (InsRes w (.slice (some ⟨g, 0, none⟩) n c) N n (fs.take i ++ f :: fs.drop i)) := by
  have hbd := own_boundsF ho
  have hrc := Recs.of_own encF_len ho hl
  have hcell := Recs.cells encF_len (by omega) hrc
  have hgw : g < w.heap.size := by
    obtain ⟨b', off', e, hb, _⟩ := hrc.2 (by omega)
    injection e with e; injection e with e; subst e; exact hb
  obtain ⟨X, hX⟩ : ∃ X, X = flat encF (fs.take i) := ⟨_, rfl⟩
  obtain ⟨Y, hY⟩ : ∃ Y, Y = flat encF (fs.drop i) := ⟨_, rfl⟩
  obtain ⟨F, hF⟩ : ∃ F, F = encF f := ⟨_, rfl⟩
  have hXl : X.length = i * 5 := by rw [hX, flat_length encF_len, List.length_take]; omega
  have hYl : Y.length = (n - i) * 5 := by rw [hY, flat_length encF_len, List.length_drop, hl]
  have hFl : F.length = 5 := by rw [hF]; rfl
  rw [flat_take fs i (by omega), ← hX, ← hY] at hcell
  have hY1 : ∀ v ∈ Y, v.oneCell' = true := by rw [hY]; exact flat_oneF _
  have hF1 : ∀ v ∈ F, v.oneCell' = true := by rw [hF]; exact encF_one f
  obtain ⟨i0, hi0, hz0, hz1, hz2⟩ := info_parts infoF
  have hold : (Builtin.firstCells i0.size i (.slice (some ⟨g, 0, none⟩) i c)).run Tryz.prog w.drew = .ok X.toArray w.drew := by
    rw [hz1]
    exact run_firstCells_some w.drew 5 i ⟨g, 0, none⟩ i c X (by omega) (fun j v hj => by
      rw [Addr.add_lit]
      have hj2 : j < X.length := by
        rcases Nat.lt_or_ge j X.length with h | h
        · exact h
        · rw [List.getElem?_eq_none h] at hj; cases hj
      exact hcell j v (by rw [List.getElem?_append_left hj2]; exact hj))
  have hkk : (n : Int) + 1 - (i : Int) = ((n + 1 - i : Nat) : Int) := by omega
  have hik : i + (n + 1 - i) = n + 1 := by omega
  obtain ⟨G, W1, R, hrz, HR, HRl, HRx, hGn, hG63, HB⟩ : ∃ (G : Nat) (W1 : World) (R : List Value), (∀ ty, (Builtin.append_ #[52, 3] ty #[.slice (some ⟨g, 0, none⟩) i c, .int .i64 ((n : Int) + 1 - (i : Int))]).run Tryz.prog w = .ok (.slice (some ⟨w.heap.size, 0, none⟩) (n + 1) G) W1) ∧
      Hid (W1.heap[w.heap.size]? = some (.cells R.toArray 122 (0, 0))) ∧ Hid (R.length = G * 5) ∧ Hid (R.take X.length = X) ∧ n + 1 ≤ G ∧ G ≤ 9223372036854775807 ∧ Hid (RowKit.Below w.heap.size w W1) := by
    have h := fun ty => Lib.run_append_grow_zeros w 52 3 ty 122 i0 _ .i64 .i64 Tryz.underlying52 Tryz.underlying3 hi0 hz0 (some ⟨g, 0, none⟩) i c X hold (n + 1 - i) (by omega) (by omega) (by omega) (by omega) (by rw [hz2]; omega) (by rw [hz2, hik]; exact growslice_fits hc (by omega))
    rw [hik] at h
    have hG := grownCap_le_maxLen w (n + 1) c 122 (by unfold maxLen; omega)
    unfold maxLen at hG
    refine ⟨grownCap w (n + 1) c 122, _, X ++ ((Builtin.zeroCells (Value.agg #[.int .i64 0, .int .i64 0, .int .i64 0, .int .i64 0, .int .i64 0]).cells (n + 1 - i)).toList ++ (Builtin.zeroCells (Value.agg #[.int .i64 0, .int .i64 0, .int .i64 0, .int .i64 0, .int .i64 0]).cells (grownCap w (n + 1) c 122 - (n + 1))).toList), fun ty => by rw [hkk]; exact h ty, ?_, ?_, List.take_left' rfl, grownCap_ge w _ _ _, by omega, ?_⟩
    · show _ = _
      refine (heap_alloc_new w.drew _).trans ?_
      simp
    · have := grownCap_ge w (n + 1) c 122
      show _ = _
      simp [Builtin.zeroCells, Value.cells, hXl]
      omega
    · exact (Below.refl _ _).drew.alloc (Nat.le_refl _) _
  have hinf : (Tryz.prog.info? 122).map (·.size) = some 5 := by rw [hi0]; simp [hz1]
  have hvw := hv.lt
  have hv1 : Bl W1 vb 122 (encF f).toArray := hv.keep HB.out
  have HMF : Hid (F.length = Nat.min 1 (n + 1 - i) * 5) := by show _ = _; rw [hFl, show Nat.min 1 (n + 1 - i) = 1 from Nat.min_eq_left (by omega)]
  have HMN : Hid (Y.length = Nat.min (n - i) (n - i) * 5) := by show _ = _; rw [hYl, show Nat.min (n - i) (n - i) = n - i from Nat.min_self _]
  have hRl := HRl.out
  obtain ⟨w2, hcp, HC2, hO2⟩ : ∃ w2, (Builtin.copy_ #[52, 52] 3 #[.slice (some ⟨w.heap.size, i * 5, none⟩) (n + 1 - i) (G - i), .slice (some ⟨vb, 0, none⟩) 1 1]).run Tryz.prog W1 = .ok (goInt (Nat.min 1 (n + 1 - i))) w2 ∧ Hid (w2.heap[w.heap.size]? = some (.cells (splice R (i * 5) F).toArray 122 (0, 0))) ∧ Over W1 w2 w.heap.size :=
    ⟨_, run_copy_rowK W1 _ _ _ 122 5 w.heap.size (i * 5) _ _ _ _ _ _ 122 F Tryz.underlying52 hinf HR.out HMF.out (fun j v hj => by rw [Addr.add_lit, Nat.zero_add, hv1.cell, ← hF]; simpa using hj) (by omega) hF1, setRow_heap W1 w.heap.size _ _ _ _ HR.out, over_setRow W1 w.heap.size _⟩
  have HB2 : Hid (RowKit.Below w.heap.size w w2) := HB.out.trans (hO2.below (Nat.le_refl _))
  have HSY : Hid (∀ j v, Y[j]? = some v → w2.cell? ((⟨g, i * 5, none⟩ : Addr).add j) = some v) := by
    intro j v hj
    rw [Addr.add_lit, HB2.out.cell (p := ⟨g, i * 5 + j, none⟩) hgw]
    have := hcell (i * 5 + j) v (by rw [List.getElem?_append_right (by omega), hXl, show i * 5 + j - i * 5 = j by omega]; exact hj)
    rwa [Nat.zero_add] at this
  have HLEN : Hid ((i + 1) * 5 + Y.length ≤ (splice R (i * 5) F).length) := by show _ ≤ _; rw [length_splice _ _ _ (by omega)]; omega
  have HRES : Hid (∀ w', w'.heap[w.heap.size]? = some (.cells (splice (splice R (i * 5) F) ((i + 1) * 5) Y).toArray 122 (0, 0)) → RowKit.Below w.heap.size w w' → InsRes w (.slice (some ⟨g, 0, none⟩) n c) N n (fs.take i ++ f :: fs.drop i) (.returned (.slice (some ⟨w.heap.size, 0, none⟩) (n + 1) G)) w') := by
    intro w' hw' hb
    have hsp := splice_grow R X Y F HRx.out (by omega)
    rw [hFl, hXl, show i * 5 + 5 = (i + 1) * 5 by omega, show (i + 1) * 5 + Y.length = (n + 1) * 5 by omega] at hsp
    refine ⟨some ⟨w.heap.size, 0, none⟩, G, rfl, ⟨?_, Or.inr ⟨w.heap.size, G, _, rfl, hN, hw', hGn, by unfold maxLen; omega, ?_, ?_⟩⟩, hb.mono hN, fun k hk _ => hb.block k hk⟩
    · rw [flat_length encF_len]; simp; omega
    · rw [List.size_toArray, length_splice _ _ _ HLEN.out, length_splice _ _ _ (by omega), hRl]
    · rw [List.toList_toArray, hsp, flat_append, ← hX, show f :: fs.drop i = [f] ++ fs.drop i from rfl, flat_append, flat_one, ← hY, hF]
  have HINF := Lib.hid hinf
  have z1 : ¬ ((i : Int) = (n : Int)) := by omega
  have z2 : (c : Int) < (n : Int) + 1 := by omega
  have hin : i ≤ n := by omega
  have mixed : Tryz.prog.follows Departure.mixedOrders = true := rfl
  have hw1 : IntKind.i64.wrap ((i : Int) + 1) = (i : Int) + 1 := by rw [IntKind.wrap_i64]; omega
  have htn : ((i : Int) + 1).toNat = i + 1 := by omega
  have hb2 : ¬ (G = i + 1) := by omega
  have hb3 : (i : Int) ≤ (n : Int) := by omega
  have hb4 : ¬ (c = i) := by omega
  have hb5 : (0 : Int) ≤ (i : Int) + 1 := by omega
  have hb6 : ¬ (G = i) := by omega
  clear ho hl hv hX hY hF hinf hrc hcell hold hkk hik hRl hv1 hi0 hz0 hz1 hz2 HR HRl HRx
  go_enter Tryz.func112, Tryz.ntmps112
  go_wp2_with (first | (at_builtin; refine Lib.wpList_append_run _ rfl _ _ _ _ rfl _ _ rfl rfl _ _ (hrz _) ?_) | simp only [hcp])
  go_region_law_o (refine step_copyK rfl (.tmp 50) (.tmp 53) 52 52 rfl 122 5 Tryz.underlying52 HINF.out w.heap.size ((i + 1) * 5) (n - i) (G - (i + 1)) ⟨g, i * 5, none⟩ (n - i) (c - i) (by simp [Act.eval, Act.put]) (by simp [Act.eval, Act.put]) (splice R (i * 5) F) 122 HC2.out Y HMN.out HSY.out HLEN.out hY1 ?_; intro w3 HC3 hO3)
  have HB3 : Hid (RowKit.Below w.heap.size w w3) := HB2.out.trans ((show Over w2 w3 w.heap.size from ⟨hO3.os, hO3.tape, hO3.output, hO3.size, hO3.other⟩).below (Nat.le_refl _))
  go_wp2
  go_ret
  exact HRES.out _ HC3.out HB3.out
/-- slices.Insert of one fact: every road. -/
theorem insert_any (N : Nat) (B : Option Addr) (n c i : Nat) (fs : List Fct) (f : Fct) (vb : Nat) (w : World) (ho : w.ownsRow N 122 5 (.slice B n c) n (flat encF fs)) (hl : fs.length = n) (hv : Bl w vb 122 (encF f).toArray) (hvg : ∀ a, B = some a → vb ≠ a.block) (hi : i ≤ n) (hn : n ≤ 1000) (hN : N ≤ w.heap.size) :
    Calls Tryz.prog 112 #[.slice B n c, .int .i64 i, .slice (some ⟨vb, 0, none⟩) 1 1] w (InsRes w (.slice B n c) N n (fs.take i ++ f :: fs.drop i)) := by
  rcases Nat.lt_or_ge i n with h | h
  · obtain ⟨g, rfl⟩ : ∃ g, B = some ⟨g, 0, none⟩ := by
      rcases ho.2 with ⟨hv, h0⟩ | ⟨g', cap, cur, hv, _⟩
      · omega
      · injection hv with h5; exact ⟨g', h5⟩
    rcases Nat.lt_or_ge c (n + 1) with h2 | h2
    · exact insert_grow N g n c i fs f vb w ho hl hv h h2 hn hN
    · exact insert_shift N g n c i fs f vb w ho hl hv (hvg _ rfl) h h2 hn hN
  · obtain rfl : i = n := by omega
    have := insert_end N B i c fs f vb w ho hv hn hN
    rwa [List.take_of_length_le (by omega), List.drop_eq_nil_of_le (by omega)]
end Go.Proofs.YtdbcbbiplkikcaaGreat

namespace Go.Proofs.YtdbcbbiplkikcaaGreat
open Go.RowKit Go.Shelf
set_option linter.unusedVariables false

/-- Two lists that ascend strictly by a relation and have the same members are one. -/
theorem sorted_ext {α : Type} [Inhabited α] (lt : α → α → Prop) (hirr : ∀ a, ¬ lt a a) (htr : ∀ a b c, lt a b → lt b c → lt a c) : ∀ (xs ys : List α), xs.Pairwise lt → ys.Pairwise lt → (∀ a, a ∈ xs ↔ a ∈ ys) → xs = ys
  | [], [], _, _, _ => rfl
  | [], y :: ys, _, _, h => by have := (h y).2 (by simp); cases this
  | x :: xs, [], _, _, h => by have := (h x).1 (by simp); cases this
  | x :: xs, y :: ys, hx, hy, h => by
    have hx' := List.pairwise_cons.1 hx
    have hy' := List.pairwise_cons.1 hy
    have e : x = y := by
      have h1 := (h x).1 (by simp)
      have h2 := (h y).2 (by simp)
      rcases List.mem_cons.1 h1 with e | h1
      · exact e
      · rcases List.mem_cons.1 h2 with e | h2
        · exact e.symm
        · exact absurd (htr _ _ _ (hx'.1 y h2) (hy'.1 x h1)) (hirr x)
    subst e
    rw [sorted_ext lt hirr htr xs ys hx'.2 hy'.2]
    intro a
    constructor
    · intro ha
      rcases List.mem_cons.1 ((h a).1 (List.mem_cons_of_mem _ ha)) with e | h1
      · subst e; exact absurd (hx'.1 a ha) (hirr a)
      · exact h1
    · intro ha
      rcases List.mem_cons.1 ((h a).2 (List.mem_cons_of_mem _ ha)) with e | h1
      · subst e; exact absurd (hy'.1 a ha) (hirr a)
      · exact h1
theorem pairwise_of_get {α : Type} [Inhabited α] {lt : α → α → Prop} {xs : List α} (h : ∀ i j, i < j → j < xs.length → lt xs[i]! xs[j]!) : xs.Pairwise lt := by
  rw [List.pairwise_iff_getElem]
  intro i j hi hj hij
  have := h i j hij hj
  rwa [getElem!_pos xs i hi, getElem!_pos xs j hj] at this

theorem ReqList.unique {fs : List Fct} {rs rs' : List Rq} (h : ReqList fs rs) (h' : ReqList fs rs') : rs = rs' := by
  have aux : ∀ {us vs : List Rq}, ReqList fs us → ReqList fs vs → ∀ a, a ∈ us → a ∈ vs := fun ha hb a hm => by
    obtain ⟨r, hr, e⟩ := (hb.mem a.id).2 ((ha.mem a.id).1 ⟨a, hm, rfl⟩)
    have e1 := ha.val a hm
    have e2 := hb.val r hr
    rw [e, ← e1] at e2
    rw [← e2]; exact hr
  refine sorted_ext (fun a b : Rq => a.day < b.day ∨ (a.day = b.day ∧ a.id < b.id)) (fun a => by omega) (fun a b c => by omega) rs rs' (pairwise_of_get h.srt) (pairwise_of_get h'.srt) (fun a => ⟨aux h h' a, aux h' h a⟩)

/-- What settle computes. -/
def Settled (fs : List Fct) (vol : Int) (gs : List Rq) (bal : Int) : Prop := ∃ (rs : List Rq) (F : (Nat → Rq) × Int × Int), ReqList fs rs ∧ F = runS (trSum (trOf fs)) rs.length rs.length 0 0 vol (fun i => rs[i]!) ∧ gs.Perm ((List.range rs.length).map F.1) ∧ (∀ i j, i < j → j < gs.length → gs[i]!.id < gs[j]!.id) ∧ bal = F.2.2 + (trAll (trOf fs) - F.2.1)
theorem Settled.unique {fs : List Fct} {vol : Int} {gs gs' : List Rq} {b b' : Int} (h : Settled fs vol gs b) (h' : Settled fs vol gs' b') : gs = gs' ∧ b = b' := by
  obtain ⟨rs, F, h1, h2, h3, h4, h5⟩ := h
  obtain ⟨rs', F', h1', h2', h3', h4', h5'⟩ := h'
  obtain rfl := h1.unique h1'
  subst h2 h2'
  refine ⟨?_, by rw [h5, h5']⟩
  exact sorted_ext (fun a b : Rq => a.id < b.id) (fun a => by omega) (fun a b c => by omega) gs gs' (pairwise_of_get h4) (pairwise_of_get h4') (fun a => (h3.mem_iff).trans (h3'.mem_iff).symm)
theorem SetRes.settled {w : World} {fs : List Fct} {vol : Int} {e : Ending} {w' : World} (h : SetRes w fs vol e w') : ∃ (B : Option Addr) (m d : Nat) (gs : List Rq) (bal : Int), e = .returned (.tuple #[.slice B m d, .int .i64 bal]) ∧ Settled fs vol gs bal ∧ gs.length = m ∧ m ≤ fs.length ∧ w'.ownsRow w.heap.size 264 6 (.slice B m d) m (flat encR gs) ∧ RowKit.Below w.heap.size w w' := by
  obtain ⟨B, m, d, rs, gs, F, he, hr, hl, hm, hF, hp, hs, ho, hb⟩ := h
  have hg : gs.length = m := by rw [hp.length_eq]; simp
  subst hl
  exact ⟨B, _, d, gs, _, he, ⟨rs, F, hr, hF, hp, by rw [hg]; exact hs, rfl⟩, hg, hm, ho, hb⟩
end Go.Proofs.YtdbcbbiplkikcaaGreat

namespace Go.Proofs.YtdbcbbiplkikcaaGreat
set_option linter.unusedVariables false

theorem nonNeg_qs {xs : List (Int × Int)} (h : ∀ k, k < xs.length → 0 ≤ xs[k]!.2) : NonNeg (qsOf xs) := fun i => by
  rcases Nat.lt_or_ge i xs.length with hi | hi
  · rw [qsOf_get xs i hi]; exact h i hi
  · simp [qsOf, List.getD, List.getElem?_eq_none hi]
theorem grantV_bounds {t : Int} {xs : List (Int × Int)} (ht : 0 ≤ t) (h : ∀ k, k < xs.length → 0 ≤ xs[k]!.2) (i : Nat) (hi : i < xs.length) : 0 ≤ grantV t xs i ∧ grantV t xs i ≤ xs[i]!.2 := by
  have hq := nonNeg_qs h
  have hl : 0 < (qsOf xs).length := by rw [qsOf_len]; omega
  unfold grantV
  split
  · exact ⟨h i hi, Int.le_refl _⟩
  · refine ⟨share_nonneg hq ht hl i, ?_⟩
    have := share_le_weight hq hl ht (by omega) i (by rw [qsOf_len]; exact hi)
    rwa [qsOf_get xs i hi] at this
/-- A day's grants come to what was asked, or to all that there is. -/
theorem grantV_sum {t : Int} {xs : List (Int × Int)} (h : ∀ k, k < xs.length → 0 ≤ xs[k]!.2) (hn : 0 < xs.length) : sumN xs.length (grantV t xs) = min (qsOf xs).sum t := by
  have hq := nonNeg_qs h
  have hl : 0 < (qsOf xs).length := by rw [qsOf_len]; omega
  by_cases e : (qsOf xs).sum ≤ t
  · rw [show sumN xs.length (grantV t xs) = sumN xs.length (fun i => (qsOf xs).getD i 0) from sumN_congr fun i hi => by unfold grantV; rw [if_pos e, qsOf_get xs i hi], ← qsOf_len xs, sumN_list]
    omega
  · rw [show sumN xs.length (grantV t xs) = sumN xs.length (shareI t (qsOf xs)) from sumN_congr fun i hi => by unfold grantV; rw [if_neg e], ← qsOf_len xs, sum_share hq hl]
    omega
/-- The sum over [i, n). -/
def sumFrom (i n : Nat) (g : Nat → Int) : Int := sumN (n - i) (fun k => g (i + k))
theorem sumFrom_split {i e n : Nat} (h1 : i ≤ e) (h2 : e ≤ n) (g : Nat → Int) : sumFrom i n g = sumFrom i e g + sumFrom e n g := by
  unfold sumFrom
  obtain ⟨p, rfl⟩ : ∃ p, e = i + p := ⟨e - i, by omega⟩
  obtain ⟨q, rfl⟩ : ∃ q, n = i + p + q := ⟨n - (i + p), by omega⟩
  rw [show i + p + q - i = p + q by omega, show i + p - i = p by omega, show i + p + q - (i + p) = q by omega]
  clear h1 h2
  induction q with
  | zero => simp [sumN]
  | succ q ih => rw [← Nat.add_assoc, sumN_succ, ih, sumN_succ]; simp only [Nat.add_assoc, Int.add_assoc]
theorem sumFrom_congr {i n : Nat} {g h : Nat → Int} (e : ∀ j, i ≤ j → j < n → g j = h j) : sumFrom i n g = sumFrom i n h := sumN_congr fun k hk => e _ (by omega) (by omega)

theorem runS_law (T : Int → Int) (hT : ∀ x y, x ≤ y → T x ≤ T y) (n : Nat) : ∀ (m i : Nat) (tp a : Int) (f : Nat → Rq), n ≤ i + m → i ≤ n → 0 ≤ a → (i < n → tp ≤ T (f i).day) → (∀ p q, i ≤ p → p ≤ q → q < n → (f p).day ≤ (f q).day) → (∀ j, i ≤ j → j < n → 0 ≤ (f j).req) →
    (∀ j, j < i → (runS T n m i tp a f).1 j = f j) ∧
    (∀ j, ((runS T n m i tp a f).1 j).id = (f j).id ∧ ((runS T n m i tp a f).1 j).day = (f j).day ∧ ((runS T n m i tp a f).1 j).req = (f j).req) ∧
    (∀ j, i ≤ j → j < n → 0 ≤ ((runS T n m i tp a f).1 j).grant ∧ ((runS T n m i tp a f).1 j).grant ≤ (f j).req) ∧
    0 ≤ (runS T n m i tp a f).2.2 ∧
    sumFrom i n (fun j => ((runS T n m i tp a f).1 j).grant) + (runS T n m i tp a f).2.2 - (runS T n m i tp a f).2.1 = a - tp := by
  intro m
  induction m with
  | zero =>
    intro i tp a f h1 h2 h3 h4 h5 h6
    obtain rfl : i = n := by omega
    refine ⟨fun _ _ => rfl, fun _ => ⟨rfl, rfl, rfl⟩, fun j _ _ => by omega, h3, ?_⟩
    show sumFrom i i _ + a - tp = a - tp
    unfold sumFrom; rw [Nat.sub_self, sumN_zero]; omega
  | succ m ih =>
    intro i tp a f h1 h2 h3 h4 h5 h6
    by_cases hi : i < n
    · obtain ⟨D, hD⟩ : ∃ D, (f i).day = D := ⟨_, rfl⟩
      obtain ⟨e, he⟩ : ∃ e, endAt f D n n i = e := ⟨_, rfl⟩
      rw [runS_step hi hD he]
      have hei : i + 1 ≤ e := by
        rw [← he]
        cases n with
        | zero => omega
        | succ n' => rw [endAt_step hi hD]; exact endAt_ge _ _ _ _ _
      have hen : e ≤ n := by rw [← he]; exact endAt_le _ _ _ _ _ h2
      obtain ⟨t, ht⟩ : ∃ t, a + (T D - tp) = t := ⟨_, rfl⟩
      have ht0 : 0 ≤ t := by have := h4 hi; rw [hD] at this; omega
      rw [ht]
      obtain ⟨xs, hxs⟩ : ∃ xs, dayReqs f i (e - i) = xs := ⟨_, rfl⟩
      have hxl : xs.length = e - i := by rw [← hxs, dayReqs_len]
      have hx0 : ∀ k, k < xs.length → 0 ≤ xs[k]!.2 := fun k hk => by
        rw [← hxs, dayReqs_get f i (e - i) k (by omega)]; exact h6 _ (by omega) (by omega)
      obtain ⟨f1, hf1⟩ : ∃ f1, grantedF f i (e - i) t (e - i) = f1 := ⟨_, rfl⟩
      have hin : ∀ j, i ≤ j → j < e → f1 j = { f j with avail := t, asked := (qsOf xs).sum, grant := grantV t xs (j - i) } := fun j q1 q2 => by
        rw [← hf1]; unfold grantedF; rw [if_pos (by omega), hxs]
      have hout : ∀ j, (j < i ∨ e ≤ j) → f1 j = f j := fun j q => by
        rw [← hf1]; unfold grantedF; rw [if_neg (by omega)]
      have hsame : ∀ j, (f1 j).id = (f j).id ∧ (f1 j).day = (f j).day ∧ (f1 j).req = (f j).req := fun j => by
        by_cases q : i ≤ j ∧ j < e
        · rw [hin j q.1 q.2]; exact ⟨rfl, rfl, rfl⟩
        · rw [hout j (by omega)]; exact ⟨rfl, rfl, rfl⟩
      rw [hxs, hf1]
      obtain ⟨r1, r2, r3, r4, r5⟩ := ih e (T D) (max (t - (qsOf xs).sum) 0) f1 (by omega) hen (by omega) (fun he2 => by
          rw [(hsame e).2.1]
          refine hT _ _ ?_
          rw [← hD]; exact h5 i e (Nat.le_refl _) (by omega) he2)
        (fun p q q1 q2 q3 => by rw [(hsame p).2.1, (hsame q).2.1]; exact h5 p q (by omega) q2 q3)
        (fun j q1 q2 => by rw [(hsame j).2.2]; exact h6 j (by omega) q2)
      have hgs : sumFrom i e (fun j => (f1 j).grant) = min (qsOf xs).sum t := by
        rw [← grantV_sum hx0 (by omega), hxl]
        unfold sumFrom
        exact sumN_congr fun k hk => by show (f1 (i + k)).grant = _; rw [hin (i + k) (by omega) (by omega)]; show grantV t xs (i + k - i) = _; rw [Nat.add_sub_cancel_left]
      refine ⟨fun j hj => by rw [r1 j (by omega), hout j (by omega)], fun j => ?_, fun j q1 q2 => ?_, r4, ?_⟩
      · rw [(r2 j).1, (r2 j).2.1, (r2 j).2.2]; exact hsame j
      · by_cases q : j < e
        · rw [r1 j q, hin j q1 q]
          have := grantV_bounds ht0 hx0 (j - i) (by omega)
          rw [show xs[j - i]!.2 = (f j).req by rw [← hxs, dayReqs_get f i (e - i) (j - i) (by omega), show i + (j - i) = j by omega]] at this
          exact this
        · have := r3 j (by omega) q2
          rwa [(hsame j).2.2] at this
      · rw [sumFrom_split (show i ≤ e by omega) hen, sumFrom_congr (i := i) (n := e) (h := fun j => (f1 j).grant) (fun j _ q => by rw [r1 j q]), hgs]
        omega
    · obtain rfl : i = n := by omega
      rw [runS_end (by omega)]
      refine ⟨fun _ _ => rfl, fun _ => ⟨rfl, rfl, rfl⟩, fun j _ _ => by omega, h3, ?_⟩
      show sumFrom i i _ + a - tp = a - tp
      unfold sumFrom; rw [Nat.sub_self, sumN_zero]; omega
end Go.Proofs.YtdbcbbiplkikcaaGreat

namespace Go.Proofs.YtdbcbbiplkikcaaGreat
set_option linter.unusedVariables false

theorem trSum_mono {ys : List Fct} (h : ∀ y ∈ ys, 0 ≤ y.qty) (x y : Int) (hxy : x ≤ y) : trSum ys x ≤ trSum ys y := by
  unfold trSum
  induction ys with
  | nil => simp
  | cons z zs ih =>
    have h1 := ih fun y hy => h y (List.mem_cons_of_mem _ hy)
    have h2 := h z (List.mem_cons_self ..)
    by_cases e1 : z.day ≤ x
    · simp [e1, show z.day ≤ y by omega]; exact h1
    · by_cases e2 : z.day ≤ y
      · simp [e1, e2]; omega
      · simp [e1, e2]; exact h1
theorem trSum_nonneg {ys : List Fct} (h : ∀ y ∈ ys, 0 ≤ y.qty) (x : Int) : 0 ≤ trSum ys x := by
  unfold trSum
  induction ys with
  | nil => simp
  | cons z zs ih =>
    have h1 := ih fun y hy => h y (List.mem_cons_of_mem _ hy)
    have h2 := h z (List.mem_cons_self ..)
    by_cases e1 : z.day ≤ x
    · simp [e1]; omega
    · simp [e1]; exact h1
theorem trSum_le {ys : List Fct} (h : ∀ y ∈ ys, 0 ≤ y.qty) (x : Int) : 0 ≤ trAll ys ∧ trSum ys x ≤ trAll ys := by
  unfold trSum trAll
  induction ys with
  | nil => simp
  | cons z zs ih =>
    have h1 := ih fun y hy => h y (List.mem_cons_of_mem _ hy)
    have h2 := h z (List.mem_cons_self ..)
    by_cases e1 : z.day ≤ x
    · simp [e1]; omega
    · simp [e1]; omega
theorem runS_tp (T : Int → Int) (n : Nat) : ∀ (m i : Nat) (tp a : Int) (f : Nat → Rq), (runS T n m i tp a f).2.1 = tp ∨ ∃ D, (runS T n m i tp a f).2.1 = T D := by
  intro m
  induction m with
  | zero => intro i tp a f; exact .inl rfl
  | succ m ih =>
    intro i tp a f
    by_cases hi : i < n
    · rw [runS_step hi rfl rfl]
      rcases ih (endAt f (f i).day n n i) (T (f i).day) _ _ with e | e
      · exact .inr ⟨_, e⟩
      · exact .inr e
    · rw [runS_end hi]; exact .inl rfl
/-- What holds of the grants of a book. -/
structure SetLaw (fs : List Fct) (vol : Int) (gs : List Rq) (bal : Int) : Prop where
  each : ∀ g ∈ gs, 1 ≤ g.id ∧ g.id ≤ 1000000 ∧ 0 ≤ g.grant ∧ g.grant ≤ g.req ∧ g.req ≤ 1000000000 ∧ g.day = (rqOf fs g.id).day ∧ g.req = (rqOf fs g.id).req
  bal0 : 0 ≤ bal
  sum : (gs.map (·.grant)).sum + bal = vol + trAll (trOf fs)
theorem Settled.law {fs : List Fct} {vol : Int} {gs : List Rq} {bal : Int} (h : Settled fs vol gs bal) (hf : ∀ x ∈ fs, FOk x) (hi1 : ∀ x ∈ fs, x.kind = 1 → 1 ≤ x.id) (hv : 0 ≤ vol) : SetLaw fs vol gs bal := by
  obtain ⟨rs, F, h1, h2, h3, h4, h5⟩ := h
  have hq : ∀ y ∈ trOf fs, 0 ≤ y.qty := fun y hy => by
    have := hf y (List.mem_filter.1 hy).1
    unfold FOk at this; omega
  have hok := rq_ok h1 hf hi1
  obtain ⟨r1, r2, r3, r4, r5⟩ := runS_law (trSum (trOf fs)) (trSum_mono hq) rs.length rs.length 0 0 vol (fun i => rs[i]!) (by omega) (Nat.zero_le _) hv (fun _ => trSum_nonneg hq _) (fun p q _ h6 h7 => day_mono h1 h6 h7) (fun j _ hj => (hok j hj).2.2.1)
  rw [← h2] at r1 r2 r3 r4 r5
  have hle : F.2.1 ≤ trAll (trOf fs) := by
    rcases runS_tp (trSum (trOf fs)) rs.length rs.length 0 0 vol (fun i => rs[i]!) with e | ⟨D, e⟩
    · rw [← h2] at e; rw [e]; exact (trSum_le hq 0).1
    · rw [← h2] at e; rw [e]; exact (trSum_le hq D).2
  refine ⟨fun g hg => ?_, by omega, ?_⟩
  · obtain ⟨k, hk, rfl⟩ := List.mem_map.1 (h3.mem_iff.1 hg)
    have hk' := List.mem_range.1 hk
    have o := hok k hk'
    have q := r2 k
    have b := r3 k (Nat.zero_le _) hk'
    have hv := h1.val rs[k]! (by rw [getElem!_pos rs k hk']; exact List.getElem_mem _)
    refine ⟨by rw [q.1]; exact o.1, by rw [q.1]; exact o.2.1, b.1, by rw [q.2.2]; exact b.2, by rw [q.2.2]; exact o.2.2.2.1, by rw [q.2.1, q.1]; exact o.2.2.2.2, by rw [q.2.2, q.1]; exact congrArg Rq.req hv⟩
  · rw [sum_perm (h3.map (·.grant)), List.map_map]
    have : sumFrom 0 rs.length (fun j => (F.1 j).grant) = ((List.range rs.length).map ((·.grant) ∘ F.1)).sum := by
      unfold sumFrom sumN
      simp [Function.comp_def]
    omega
end Go.Proofs.YtdbcbbiplkikcaaGreat
